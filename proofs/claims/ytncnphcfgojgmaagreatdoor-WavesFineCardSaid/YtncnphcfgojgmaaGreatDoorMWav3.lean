/- Lemmas for WavesFineCardSaid, which YtncnphcfgojgmaaGreatDoorFinV3 proves. -/
import Derived.Test.YtncnphcfgojgmaaGreatDoorDec
import Derived.KernelRfl
import Derived.Lib.ItoaLen
namespace Go.Lift
open IntKind renaming wrap → wI
open Option renaming bind_some → oS
open List renaming getElem?_eq_some_iff → lI
theorem AZ {α : Type} (xs : List α) (i : Nat) : BE xs (i : Int) = xs[i]? := by
 unfold BE; simp
theorem DA {n : Int} (h0 : -9223372036854775808 ≤ n) (h1 : n ≤ 9223372036854775807) : wI .i64 n = n := by
 simp [wI, IntKind.signed, IntKind.bits]; omega
theorem AL {i : Nat} (h : i < 1000000) : wI .i64 ((i : Int) + 1) = ((i + 1 : Nat) : Int) := by
 rw [DA (by omega) (by omega)]; simp
@[simp] theorem AD {α : Type} {a b : Option α} : AJ true a b = a := rfl
@[simp] theorem Ao {α : Type} {a b : Option α} : AJ false a b = b := rfl
theorem AE {α : Type} {p : Prop} [Decidable p] {a b : Option α} (h : p) : AJ (decide p) a b = a := by simp [h]
theorem AC {α : Type} {p : Prop} [Decidable p] {a b : Option α} (h : ¬ p) : AJ (decide p) a b = b := by simp [h]
def Vx (a b : Int) : Int := if a < b then -1 else if b < a then 1 else 0
def Fh : List Int → List Int → Int
 | [], [] => 0
 | [], _ :: _ => -1
 | _ :: _, [] => 1
 | a :: as1, b :: bs => if a < b then -1 else if b < a then 1 else Fh as1 bs
theorem TF (N : Nat) (a b : Int) : Ed N a b = some (Vx a b) := by
 unfold Ed EF Vx
 by_cases h1 : a < b <;> by_cases h2 : b < a <;> simp [h1, h2]
theorem T8 (N : Nat) (a b : Int) : Dc N a b = some (Vx a b) := by
 unfold Dc DK Vx
 by_cases h1 : a < b <;> by_cases h2 : b < a <;> simp [h1, h2]
theorem CQ {α : Type} {xs : List α} {i : Nat} {x : α} (h : xs[i]? = some x) : xs.drop i = x :: xs.drop (i + 1) := by
 obtain ⟨hi, rfl⟩ := lI.1 h
 exact List.drop_eq_getElem_cons hi
theorem PH (N : Nat) (a b : List Int) (hb : a.length < 1000000) : ∀ (n i : Nat), i ≤ a.length → i ≤ b.length → a.length - i < n →
  BN N a b (fun _ => AJ (decide ((a.length : Int) < (b.length : Int))) (some (-1)) (some 0)) n (i : Int) = some (Fh (a.drop i) (b.drop i))
 | 0, i, _, _, h => by omega
 | n + 1, i, hi, hj, h => by
  unfold BN
  by_cases h1 : i < a.length
  ·rw [AE (by omega), AZ]
   have ha : a[i]? = some a[i] := by simp [h1]
   rw [ha, CQ ha]
   simp only [oS]
   by_cases h2 : i < b.length
   ·rw [AC (by omega), AZ]
    have hbb : b[i]? = some b[i] := by simp [h2]
    rw [hbb, CQ hbb]
    simp only [oS, TF, Fh, Vx]
    rw [AL (by omega), PH N a b hb n (i + 1) (by omega) (by omega) (by omega)]
    by_cases h3 : a[i] < b[i]
    ·simp [h3]
    ·by_cases h4 : b[i] < a[i]
     ·simp [h3, h4]
     ·simp [h3, h4]
   ·rw [AE (by omega), List.drop_eq_nil_of_le (by omega : b.length ≤ i)]
    simp [Fh]
  ·rw [AC (by omega), List.drop_eq_nil_of_le (by omega : a.length ≤ i)]
   by_cases h2 : a.length < b.length
   ·rw [AE (by omega)]
    have hbb : b[i]? = some b[i] := by simp [show i < b.length from by omega]
    rw [CQ hbb]; simp [Fh]
   ·rw [AC (by omega), List.drop_eq_nil_of_le (by omega : b.length ≤ i)]
    simp [Fh]
theorem NU (N : Nat) (a b : List Int) (hb : a.length < 1000000) : ∀ (n i : Nat), i ≤ a.length → i ≤ b.length → a.length - i < n →
  Bd N a b (fun _ => AJ (decide ((a.length : Int) < (b.length : Int))) (some (-1)) (some 0)) n (i : Int) = some (Fh (a.drop i) (b.drop i))
 | 0, i, _, _, h => by omega
 | n + 1, i, hi, hj, h => by
  unfold Bd
  by_cases h1 : i < a.length
  ·rw [AE (by omega), AZ]
   have ha : a[i]? = some a[i] := by simp [h1]
   rw [ha, CQ ha]
   simp only [oS]
   by_cases h2 : i < b.length
   ·rw [AC (by omega), AZ]
    have hbb : b[i]? = some b[i] := by simp [h2]
    rw [hbb, CQ hbb]
    simp only [oS, T8, Fh, Vx]
    rw [AL (by omega), NU N a b hb n (i + 1) (by omega) (by omega) (by omega)]
    by_cases h3 : a[i] < b[i]
    ·simp [h3]
    ·by_cases h4 : b[i] < a[i]
     ·simp [h3, h4]
     ·simp [h3, h4]
   ·rw [AE (by omega), List.drop_eq_nil_of_le (by omega : b.length ≤ i)]
    simp [Fh]
  ·rw [AC (by omega), List.drop_eq_nil_of_le (by omega : a.length ≤ i)]
   by_cases h2 : a.length < b.length
   ·rw [AE (by omega)]
    have hbb : b[i]? = some b[i] := by simp [show i < b.length from by omega]
    rw [CQ hbb]; simp [Fh]
   ·rw [AC (by omega), List.drop_eq_nil_of_le (by omega : b.length ≤ i)]
    simp [Fh]
theorem Qz (N : Nat) (a b : List Int) (hb : a.length < 1000000) : ∀ (n i : Nat), i ≤ a.length → i ≤ b.length → a.length - i < n →
  CG N a b (fun _ => AJ (decide ((a.length : Int) < (b.length : Int))) (some (-1)) (AJ (decide ((b.length : Int) < (a.length : Int))) (some 1) (some 0))) n (i : Int) = some (Fh (a.drop i) (b.drop i))
 | 0, i, _, _, h => by omega
 | n + 1, i, hi, hj, h => by
  unfold CG
  simp only [Bb]
  by_cases h1 : i < a.length
  ·rw [AE (p := (i : Int) < (a.length : Int)) (by omega)]
   have ha : a[i]? = some a[i] := by simp [h1]
   rw [CQ ha]
   by_cases h2 : i < b.length
   ·have hbb : b[i]? = some b[i] := by simp [h2]
    rw [show decide ((i : Int) < (b.length : Int)) = true from decide_eq_true (by omega), AD, AZ, AZ, ha, hbb, CQ hbb]
    simp only [oS, Fh]
    rw [AL (by omega), Qz N a b hb n (i + 1) (by omega) (by omega) (by omega)]
    by_cases h3 : a[i] < b[i]
    ·simp [h3]
    ·by_cases h4 : b[i] < a[i]
     ·simp [h3, h4]
     ·simp [h3, h4]
   ·rw [show decide ((i : Int) < (b.length : Int)) = false from decide_eq_false (by omega), Ao, AC (by omega), AE (by omega), List.drop_eq_nil_of_le (by omega : b.length ≤ i)]
    simp [Fh]
  ·rw [AC (p := (i : Int) < (a.length : Int)) (by omega), Ao, List.drop_eq_nil_of_le (by omega : a.length ≤ i)]
   by_cases h2 : a.length < b.length
   ·rw [AE (by omega)]
    have hbb : b[i]? = some b[i] := by simp [show i < b.length from by omega]
    rw [CQ hbb]; simp [Fh]
   ·rw [AC (by omega), AC (by omega), List.drop_eq_nil_of_le (by omega : b.length ≤ i)]
    simp [Fh]
theorem MC {N : Nat} {a b : List Int} (h : a.length < N) (hN : N ≤ 1000000) : B7 N a b = some (Fh a b) := by
 have := PH N a b (by omega) N 0 (by omega) (by omega) (by omega)
 simpa [B7] using this
theorem Pb {N : Nat} {a b : List Int} (h : a.length < N) (hN : N ≤ 1000000) : BK N a b = some (Fh a b) := by
 have := NU N a b (by omega) N 0 (by omega) (by omega) (by omega)
 simpa [BK] using this
theorem Mf {N : Nat} {a b : List Int} (h : a.length < N) (hN : N ≤ 1000000) : CJ N a b = some (Fh a b) := by
 have := Qz N a b (by omega) N 0 (by omega) (by omega) (by omega)
 simpa [CJ] using this
theorem NG : ∀ a : List Int, Fh a a = 0
 | [] => rfl
 | a :: as1 => by simp [Fh, NG as1]
theorem LY : ∀ a b : List Int, Fh a b = 0 → a = b
 | [], [], _ => rfl
 | [], _ :: _, h => by simp [Fh] at h
 | _ :: _, [], h => by simp [Fh] at h
 | a :: as1, b :: bs, h => by
  unfold Fh at h
  split at h
  ·omega
  ·split at h
   ·omega
   ·rw [LY as1 bs h, show a = b from by omega]
def Sl : List Int → Int
 | [] => 0
 | x :: xs => if x = 0 then Sl xs else x
theorem XU (N : Nat) (a : List Int) (hb : a.length < 1000000) : ∀ (n i : Nat), i ≤ a.length → a.length - i < n →
  Ea N a (fun _ => some 0) n (i : Int) = some (Sl (a.drop i))
 | 0, i, _, h => by omega
 | n + 1, i, hi, h => by
  unfold Ea
  by_cases h1 : i < a.length
  ·have ha : a[i]? = some a[i] := by simp [h1]
   rw [AE (by omega), AZ, ha, CQ ha]
   simp only [oS, Sl]
   rw [AL (by omega), XU N a hb n (i + 1) (by omega) (by omega)]
   by_cases h3 : a[i] = 0
   ·simp [h3]
   ·have : (a[i] != 0) = true := by simpa using h3
    simp [h3, this]
  ·rw [AC (by omega), List.drop_eq_nil_of_le (by omega : a.length ≤ i)]
   simp [Sl]
theorem UT {N : Nat} {a : List Int} (h : a.length < N) (hN : N ≤ 1000000) : FP N a = some (Sl a) := by
 have := XU N a (by omega) N 0 (by omega) (by omega)
 simpa [FP] using this
theorem VU (N : Nat) (a : List Int) (hb : a.length < 1000000) (hw : JA IE a) : ∀ (n i : Nat), i ≤ a.length → a.length - i < n →
  B8 N a (fun v => some v) n (a.take i, (i : Int)) = some a
 | 0, i, _, h => by omega
 | n + 1, i, hi, h => by
  unfold B8
  by_cases h1 : i < a.length
  ·have ha : a[i]? = some a[i] := by simp [h1]
   rw [AE (by simpa using h1)]
   simp only
   rw [AZ, ha]
   have hr : wI .i64 a[i] = a[i] := by
    have := hw a[i] (List.getElem_mem h1)
    unfold IE at this
    have h2 : 0 ≤ a[i] ∧ a[i] ≤ 255 := by simpa [Lit.wf, IntKind.min, IntKind.max, IntKind.signed, IntKind.bits] using this
    exact DA (by omega) (by omega)
   simp only [oS, hr]
   have hlen : (a.take i).length + ([a[i]] : List Int).length ≤ Dl := by
    simp [Dl]; omega
   rw [show Dh ((a.take i).length + ([a[i]] : List Int).length ≤ Dl) = some () from by unfold Dh; rw [if_pos hlen]]
   simp only [oS]
   rw [AL (by omega), show a.take i ++ [a[i]] = a.take (i + 1) from by rw [List.take_add_one, ha]; rfl]
   exact VU N a hb hw n (i + 1) (by omega) (by omega)
  ·rw [AC (by simpa using h1)]
   simp only
   rw [List.take_of_length_le (by omega)]
theorem LJ {N : Nat} {a : List Int} (h : a.length < N) (hN : N ≤ 1000000) (hw : JA IE a) : Cz N a = some a := by
 have := VU N a (by omega) hw N 0 (by omega) (by omega)
 simpa [Cz] using this
def X1 (a : Ac) : Prop := a.fd.length ≤ 8 ∧ a.fa.length ≤ 8 ∧ a.fc.length ≤ 14
def Oh (a b : Ac) : Int := Sl [Fh a.fd b.fd, Fh a.fa b.fa, Fh a.fc b.fc]
theorem Np (a : Ac) : Oh a a = 0 := by unfold Oh; simp [NG, Sl]
def C5 {α R : Type} (f : Nat → α → Option R) : Nat → List α → Option R
 | _, [] => none
 | i, x :: xs => match f i x with
  | some r => some r
  | none => C5 f (i + 1) xs
theorem Gk {α R : Type} (f : Nat → α → Option R) (i : Nat) (x : α) (xs : List α) : C5 f i (x :: xs) = match f i x with
  | some r => some r
  | none => C5 f (i + 1) xs := rfl
def Bw {R : Type} (a : Option R) (b : Option R) : Option R := match a with
 | some r => some r
 | none => b
theorem CA {α R : Type} (L : Nat → Int → Option R) (xs : List α) (j : Option R) (f : Nat → α → Option R)
  (hs : ∀ (n i : Nat) (x : α), xs[i]? = some x → L (n + 1) (i : Int) = Bw (f i x) (L n ((i + 1 : Nat) : Int))) (he : ∀ n : Nat, L (n + 1) (xs.length : Int) = j) :
  ∀ n i : Nat, i ≤ xs.length → xs.length - i < n → L n (i : Int) = Bw (C5 f i (xs.drop i)) j
 | 0, i, _, h => by omega
 | n + 1, i, hi, h => by
  by_cases h1 : i < xs.length
  ·have hx : xs[i]? = some xs[i] := by simp [h1]
   rw [hs n i _ hx, CQ hx, CA L xs j f hs he n (i + 1) (by omega) (by omega)]
   rw [Gk]
   cases f i xs[i] <;> rfl
  ·have : i = xs.length := by omega
   subst this
   rw [he n, List.drop_eq_nil_of_le (Nat.le_refl _)]
   rfl
theorem Nv (N : Nat) (k n : Int) : Dn N k n = some (decide (0 ≤ k) && decide (k < n)) := by
 unfold Dn
 simp only [Bb]
 by_cases h : 0 ≤ k
 ·rw [AE h]; simp [h]
 ·rw [AC h]; simp [h]
theorem Lf (N : Nat) (t : Av) : AR N t = some (t.ff == 3 || t.ff == 4) := by
 unfold AR
 simp only [Bb]
 cases h : t.ff == 3 <;> simp
def sq (l : List (List Bool)) (n m : Int) : Bool := decide ((l.length : Int) = n) && l.all fun r => decide ((r.length : Int) = m)
theorem MI {α : Type} (p : α → Bool) {R : Type} (r : Nat → R) : ∀ (i : Nat) (xs : List α), (C5 (fun i x => if p x then none else some (r i)) i xs).isNone = xs.all p
 | i, [] => rfl
 | i, x :: xs => by
  unfold C5
  cases h : p x <;> simp [h, MI p r (i + 1) xs]
theorem NH (N : Nat) (l : List (List Bool)) (n m : Int) (h : n < (N : Int)) (hN : N ≤ 1000000) : CS N l n m = some (sq l n m) := by
 unfold CS sq
 by_cases h1 : (l.length : Int) = n
 ·subst h1
  simp only [bne_self_eq_false, Ao, decide_true, Bool.true_and]
  have := CA (BU N l (l.length : Int) m (fun _ => some true)) l (some true) (fun _ r => if decide ((r.length : Int) = m) then none else some false)
   (fun n i x hx => by
    have hi := (lI.1 hx).1
    rw [BU, AE (by omega), AZ, hx]
    simp only [oS]
    rw [AL (by omega)]
    by_cases h2 : (x.length : Int) = m
    ·simp [h2, Bw]
    ·have : ((x.length : Int) != m) = true := by simpa using h2
     simp [h2, this, Bw])
   (fun n => by rw [BU, AC (by omega)]) N 0 (by omega) (by omega)
  simp only [Int.ofNat_zero, List.drop_zero] at this
  rw [this]
  have h3 := MI (fun r : List Bool => decide ((r.length : Int) = m)) (fun _ => false) 0 l
  cases hsc : C5 (fun (_ : Nat) (r : List Bool) => if decide ((r.length : Int) = m) = true then none else some false) 0 l with
  | none => rw [hsc] at h3; rw [← h3]; rfl
  | some b =>
   rw [hsc] at h3
   rw [← h3]
   have : ∀ (i : Nat) (xs : List (List Bool)) b, C5 (fun (_ : Nat) (r : List Bool) => if decide ((r.length : Int) = m) = true then none else some false) i xs = some b → b = false := by
    intro i xs
    induction xs generalizing i with
    | nil => intro b hb; cases hb
    | cons x xs ih =>
     intro b hb
     unfold C5 at hb
     split at hb
     ·rename_i r hr; cases hb; split at hr <;> simp at hr; exact hr
     ·exact ih _ b hb
   rw [this 0 l b hsc]; rfl
 ·have : ((l.length : Int) != n) = true := by simpa using h1
  simp [this, h1]
theorem NO (N : Nat) (l : List (List Bool)) (n m : Int) (h : n < (N : Int)) (hN : N ≤ 1000000) : Ei N l n m = some (sq l n m) := by
 unfold Ei sq
 simp only [Bb]
 by_cases h1 : (l.length : Int) = n
 ·subst h1
  simp only [beq_self_eq_true, AD, decide_true, Bool.true_and]
  have := CA (Ba N l (fun x => Db N x m) (fun _ => some (-1))) l (some (-1)) (fun i r => if decide ((r.length : Int) = m) then none else some (i : Int))
   (fun n i x hx => by
    have hi := (lI.1 hx).1
    rw [Ba, AE (by omega), AZ, hx]
    simp only [oS, Db]
    rw [AL (by omega)]
    by_cases h2 : (x.length : Int) = m
    ·simp [h2, Bw]
    ·have : ((x.length : Int) != m) = true := by simpa using h2
     simp [h2, this, Bw])
   (fun n => by rw [Ba, AC (by omega)]) N 0 (by omega) (by omega)
  simp only [Int.ofNat_zero, List.drop_zero] at this
  unfold Ch CO
  rw [this]
  have h3 := MI (fun r : List Bool => decide ((r.length : Int) = m)) (fun i : Nat => (i : Int)) 0 l
  cases hsc : C5 (fun (i : Nat) (r : List Bool) => if decide ((r.length : Int) = m) = true then none else some (i : Int)) 0 l with
  | none => rw [hsc] at h3; rw [← h3]; rfl
  | some b =>
   rw [hsc] at h3
   rw [← h3]
   have : ∀ (i : Nat) (xs : List (List Bool)) b, C5 (fun (i : Nat) (r : List Bool) => if decide ((r.length : Int) = m) = true then none else some (i : Int)) i xs = some b → 0 ≤ b := by
    intro i xs
    induction xs generalizing i with
    | nil => intro b hb; cases hb
    | cons x xs ih =>
     intro b hb
     rw [Gk] at hb
     split at hb
     ·rename_i r hr
      cases hb
      split at hr
      ·cases hr
      ·cases hr; omega
     ·exact ih _ b hb
   have := this 0 l b hsc
   simp [Bw, this]
 ·have : ((l.length : Int) == n) = false := by simpa using h1
  simp [this, h1]
open List renaming mem_of_getElem? → lM
open List renaming getD_eq_getElem?_getD → lD
def HS (l : List (List Bool)) : Option Int := C5 (fun i row => if row.getD i false then none else some 1) 0 l
theorem Pp {row : List Bool} {i : Nat} (h : i < row.length) : BE row (i : Int) = some (row.getD i false) := by
 rw [AZ, lD]; simp [h]
theorem Ta (N : Nat) (t : Av) (h : t.fk.length < N) (hN : N ≤ 1000000) (hsq : ∀ row, row ∈ t.fk → row.length = t.fk.length) (j : Option Int) :
  By N t (fun _ => j) N 0 = Bw (HS t.fk) j := by
 have := CA (By N t (fun _ => j)) t.fk j (fun i row => if row.getD i false then none else some 1)
  (fun n i x hx => by
   have hi := (lI.1 hx).1
   have hl := hsq x (lM hx)
   rw [By, AE (by omega), AZ, hx]
   simp only [oS]
   rw [Pp (by omega), AL (by omega)]
   simp only [oS]
   cases x.getD i false <;> rfl)
  (fun n => by rw [By, AC (by omega)]) N 0 (by omega) (by omega)
 simpa [HS] using this
theorem NT (N : Nat) (t : Av) (h : t.fk.length < N) (hN : N ≤ 1000000) (hsq : ∀ row, row ∈ t.fk → row.length = t.fk.length) (j : Option Int) :
  Cu N t (fun _ => j) N 0 = Bw (HS t.fk) j := by
 have := CA (Cu N t (fun _ => j)) t.fk j (fun i row => if row.getD i false then none else some 1)
  (fun n i x hx => by
   have hi := (lI.1 hx).1
   have hl := hsq x (lM hx)
   rw [Cu, AE (by omega), AZ, hx]
   simp only [oS]
   rw [Pp (by omega), AL (by omega)]
   simp only [oS]
   cases x.getD i false <;> rfl)
  (fun n => by rw [Cu, AC (by omega)]) N 0 (by omega) (by omega)
 simpa [HS] using this
theorem LU {l : List (List Bool)} {n m : Int} (h : sq l n m = true) : (l.length : Int) = n ∧ ∀ row, row ∈ l → (row.length : Int) = m := by
 unfold sq at h
 simp only [Bool.and_eq_true, decide_eq_true_eq, List.all_eq_true] at h
 exact h
def Dp (p : Ab) (t : Av) : Int :=
 if t.ff < 1 ∨ 4 < t.ff ∨ (t.fp = true ∧ (t.ff = 3 ∨ t.ff = 4)) then 1
 else if t.fg < 0 ∨ (p.fb.length : Int) ≤ t.fg ∨ t.fj < 0 ∨ (p.fb.length : Int) ≤ t.fj then 4
 else
  let f := p.fb.getD t.fg.toNat 0
  let g := p.fb.getD t.fj.toNat 0
  if sq t.fq f g = false then 6
  else if t.ff = 4 then (if sq t.fk f f = false then 6 else (HS t.fk).getD 0)
  else if t.fk.length = 0 then 0 else 6
theorem DY {α : Type} {xs : List α} {i : Int} {d : α} (h0 : 0 ≤ i) (h1 : i < (xs.length : Int)) : BE xs i = some (xs.getD i.toNat d) := by
 obtain ⟨k, rfl⟩ := Int.eq_ofNat_of_zero_le h0
 rw [AZ, lD, Int.toNat_natCast]
 simp [show k < xs.length from by omega]
theorem RB {t : Av} (A B : Option Int) (hk : ¬ (t.fp = true ∧ (t.ff = 3 ∨ t.ff = 4))) : AJ t.fp (AJ (t.ff == 3 || t.ff == 4) A B) B = B := by
 cases ha : t.fp
 ·rfl
 ·have : (t.ff == 3 || t.ff == 4) = false := by
   rw [Bool.or_eq_false_iff]
   constructor
   ·simp only [beq_eq_false_iff_ne]; intro h; exact hk ⟨ha, .inl h⟩
   ·simp only [beq_eq_false_iff_ne]; intro h; exact hk ⟨ha, .inr h⟩
  rw [this]; rfl
theorem Jv {p : Ab} {i : Int} (hv : ∀ v, v ∈ p.fb → 1 ≤ v ∧ v ≤ 6) (h0 : 0 ≤ i) (h1 : i < (p.fb.length : Int)) : 1 ≤ p.fb.getD i.toNat 0 ∧ p.fb.getD i.toNat 0 ≤ 6 := by
 refine hv _ ?_
 rw [lD, List.getElem?_eq_getElem (by omega)]
 exact List.getElem_mem _
theorem Rr (N : Nat) (p : Ab) (t : Av) (hN : N ≤ 1000000) (h6 : 7 ≤ N) (hv : ∀ v, v ∈ p.fb → 1 ≤ v ∧ v ≤ 6) : DL N p t = some (Dp p t) := by
 unfold DL Dp
 simp only [Bb, Lf, oS]
 by_cases k1 : t.ff < 1
 ·simp [k1]
 by_cases k2 : 4 < t.ff
 ·simp [k1, k2]
 rw [AC k1, AC k2]
 by_cases hk : t.fp = true ∧ (t.ff = 3 ∨ t.ff = 4)
 ·obtain ⟨ha, k | k⟩ := hk <;> simp [ha, k]
 rw [Ao, RB _ _ hk, if_neg (fun h => h.elim k1 fun h => h.elim k2 hk)]
 by_cases f1 : t.fg < 0
 ·simp [f1]
 by_cases f2 : (p.fb.length : Int) ≤ t.fg
 ·simp [f1, f2]
 by_cases f3 : t.fj < 0
 ·simp [f1, f2, f3]
 by_cases f4 : (p.fb.length : Int) ≤ t.fj
 ·simp [f1, f2, f3, f4]
 rw [AC f1, AC f2, AC f3, if_neg (fun h => h.elim f1 fun h => h.elim f2 fun h => h.elim f3 f4)]
 have hf := Jv hv (i := t.fg) (by omega) (by omega)
 rw [decide_eq_false f4, Ao, DY (d := 0) (by omega : 0 ≤ t.fg) (by omega), DY (d := 0) (by omega : 0 ≤ t.fj) (by omega)]
 simp only [oS]
 generalize p.fb.getD t.fg.toNat 0 = f at *
 generalize p.fb.getD t.fj.toNat 0 = g at *
 rw [NH N t.fq f g (by omega) hN, NH N t.fk f f (by omega) hN]
 simp only [oS]
 cases hq : sq t.fq f g
 ·rfl
 simp only [Bool.not_true, Ao]
 by_cases k4 : t.ff = 4
 ·have : (t.ff != 4) = false := by simp [k4]
  rw [this, Ao]
  simp only [k4, if_true]
  cases hr : sq t.fk f f
  ·rfl
  ·have h7 := LU hr
   simp only [Bool.not_true, Ao]
   rw [Ta N t (by omega) hN (fun row hm => by have := h7.2 row hm; omega)]
   cases HS t.fk <;> simp [Bw]
 ·have : (t.ff != 4) = true := by simpa using k4
  rw [this, AD]
  simp only [k4, if_false]
  by_cases hr : t.fk.length = 0
  ·simp [hr]
  ·have : ((t.fk.length : Int) != 0) = true := bne_iff_ne.2 (by omega)
   rw [this]; simp [hr]
theorem TO (N : Nat) (k : Int) (a : Bool) : FQ N k a = some (k == 1 || (k == 2 || ((k == 3 || k == 4) && !a))) := by
 unfold FQ
 simp only [Bb]
 cases h1 : k == 1 <;> cases h2 : k == 2 <;> cases h3 : k == 3 <;> cases h4 : k == 4 <;> cases a <;> rfl
theorem Me (N : Nat) (p : Ab) (t : Av) (hN : N ≤ 1000000) (h6 : 7 ≤ N) (hv : ∀ v, v ∈ p.fb → 1 ≤ v ∧ v ≤ 6) : Fk N p t = some (Dp p t) := by
 unfold Fk Dp
 simp only [Bb, TO, Nv, oS]
 by_cases hb : t.ff < 1 ∨ 4 < t.ff ∨ (t.fp = true ∧ (t.ff = 3 ∨ t.ff = 4))
 ·have : (t.ff == 1 || (t.ff == 2 || ((t.ff == 3 || t.ff == 4) && !t.fp))) = false := by
   rcases hb with h | h | ⟨ha, h | h⟩
   ·rw [beq_eq_false_iff_ne.2 (by omega : t.ff ≠ 1), beq_eq_false_iff_ne.2 (by omega : t.ff ≠ 2), beq_eq_false_iff_ne.2 (by omega : t.ff ≠ 3), beq_eq_false_iff_ne.2 (by omega : t.ff ≠ 4)]; rfl
   ·rw [beq_eq_false_iff_ne.2 (by omega : t.ff ≠ 1), beq_eq_false_iff_ne.2 (by omega : t.ff ≠ 2), beq_eq_false_iff_ne.2 (by omega : t.ff ≠ 3), beq_eq_false_iff_ne.2 (by omega : t.ff ≠ 4)]; rfl
   ·simp [ha, h]
   ·simp [ha, h]
  rw [this, if_pos hb]; rfl
 ·have : (t.ff == 1 || (t.ff == 2 || ((t.ff == 3 || t.ff == 4) && !t.fp))) = true := by
   have hk : t.ff = 1 ∨ t.ff = 2 ∨ t.ff = 3 ∨ t.ff = 4 := by
    have h1 : ¬ t.ff < 1 := fun h => hb (.inl h)
    have h2 : ¬ 4 < t.ff := fun h => hb (.inr (.inl h))
    omega
   rcases hk with h | h | h | h
   ·simp [h]
   ·simp [h]
   ·cases ha : t.fp
    ·simp [h]
    ·exact (hb (.inr (.inr ⟨ha, .inl h⟩))).elim
   ·cases ha : t.fp
    ·simp [h]
    ·exact (hb (.inr (.inr ⟨ha, .inr h⟩))).elim
  rw [this, if_neg hb]
  simp only [Bool.not_true, Ao]
  by_cases f1 : t.fg < 0
  ·simp [f1, show ¬ (0 ≤ t.fg) from by omega]
  by_cases f2 : (p.fb.length : Int) ≤ t.fg
  ·simp [f2, show ¬ (t.fg < (p.fb.length : Int)) from by omega]
  by_cases f3 : t.fj < 0
  ·simp [f3, show 0 ≤ t.fg from by omega, show t.fg < (p.fb.length : Int) from by omega, show ¬ (0 ≤ t.fj) from by omega]
  by_cases f4 : (p.fb.length : Int) ≤ t.fj
  ·simp [f4, show 0 ≤ t.fg from by omega, show t.fg < (p.fb.length : Int) from by omega, show ¬ (t.fj < (p.fb.length : Int)) from by omega]
  rw [if_neg (fun h => h.elim f1 fun h => h.elim f2 fun h => h.elim f3 f4)]
  have hf := Jv hv (i := t.fg) (by omega) (by omega)
  have hg := Jv hv (i := t.fj) (by omega) (by omega)
  rw [decide_eq_true (by omega : 0 ≤ t.fg), decide_eq_true (by omega : t.fg < (p.fb.length : Int)), decide_eq_true (by omega : 0 ≤ t.fj), decide_eq_true (by omega : t.fj < (p.fb.length : Int)), DY (d := 0) (by omega : 0 ≤ t.fg) (by omega), DY (d := 0) (by omega : 0 ≤ t.fj) (by omega)]
  simp only [Bool.and_self, Bool.not_true, Ao, oS]
  generalize p.fb.getD t.fg.toNat 0 = f at *
  generalize p.fb.getD t.fj.toNat 0 = g at *
  rw [NO N t.fq f g (by omega) hN, NO N t.fk f f (by omega) hN]
  simp only [oS]
  cases hq : sq t.fq f g
  ·rfl
  simp only [Bool.not_true, Ao]
  by_cases k4 : t.ff = 4
  ·simp only [k4, beq_self_eq_true, AD, if_true]
   cases hr : sq t.fk f f
   ·rfl
   ·have h7 := LU hr
    simp only [Bool.not_true, Ao]
    rw [NT N t (by omega) hN (fun row hm => by have := h7.2 row hm; omega)]
    cases HS t.fk <;> simp [Bw]
  ·have : (t.ff == 4) = false := beq_eq_false_iff_ne.2 k4
   rw [this, Ao]
   simp only [k4, if_false, Bool.not_false, AD]
   by_cases hr : t.fk.length = 0
   ·rw [NT N t (by omega) hN (fun row hm => by rw [List.eq_nil_of_length_eq_zero hr] at hm; cases hm), List.eq_nil_of_length_eq_zero hr]
    simp [HS, C5, Bw]
   ·rw [decide_eq_true (by omega : 0 < (t.fk.length : Int))]
    simp [hr]
def E9 (p : Ab) (i : Nat) (v : Int) : Option Int :=
 if v < 1 ∨ 6 < v ∨ p.fm.getD i 0 < 0 ∨ v ≤ p.fm.getD i 0 ∨ p.fo.getD i 0 < 0 ∨ v ≤ p.fo.getD i 0 then some 7 else none
def KP (p : Ab) (_ : Nat) (t : Av) : Option Int := if Dp p t = 0 then none else some (Dp p t)
def CK (p : Ab) : Int :=
 if 6 < p.fb.length ∨ 12 < p.fe.length then 3
 else if p.fm.length ≠ p.fb.length ∨ p.fo.length ≠ p.fb.length then 6
 else ((Bw (C5 (E9 p) 0 p.fb) (C5 (KP p) 0 p.fe)).getD 0)
theorem G6 {α R : Type} {f : Nat → α → Option R} : ∀ {i : Nat} {xs : List α}, C5 f i xs = none → ∀ j x, xs[j]? = some x → f (i + j) x = none
 | _, [], _, j, x, hx => by simp at hx
 | i, y :: ys, h, j, x, hx => by
  rw [Gk] at h
  split at h
  ·cases h
  ·rename_i h0
   cases j with
   | zero => simp at hx; subst hx; exact h0
   | succ j =>
    have := G6 h j x (by simpa using hx)
    rwa [show i + 1 + j = i + (j + 1) from by omega] at this
theorem L5 {p : Ab} (h : C5 (E9 p) 0 p.fb = none) : ∀ v, v ∈ p.fb → 1 ≤ v ∧ v ≤ 6 := by
 intro v hv
 obtain ⟨i, hi⟩ := List.mem_iff_getElem?.1 hv
 have := G6 h i v hi
 unfold E9 at this
 split at this
 ·cases this
 ·rename_i hn
  constructor
  ·exact Int.not_lt.1 fun h => hn (.inl h)
  ·exact Int.not_lt.1 fun h => hn (.inr (.inl h))
theorem CN {α : Type} {xs : List α} {i : Nat} {d : α} (h : i < xs.length) : BE xs (i : Int) = some (xs.getD i d) := by
 rw [AZ, lD]; simp [h]
theorem P3 (N : Nat) (p : Ab) (hN : N ≤ 1000000) (h1 : p.fb.length < N) (h2 : p.fm.length = p.fb.length) (h3 : p.fo.length = p.fb.length) (j : Option Int) :
  A2 N p (fun _ => j) N 0 = Bw (C5 (E9 p) 0 p.fb) j := by
 have := CA (A2 N p (fun _ => j)) p.fb j (E9 p)
  (fun n i x hx => by
   have hi := (lI.1 hx).1
   rw [A2, AE (by omega), AZ, hx]
   simp only [oS, Bb]
   rw [CN (d := 0) (by omega), CN (d := 0) (by omega), AL (by omega)]
   simp only [oS]
   unfold E9
   generalize p.fm.getD i 0 = a
   generalize p.fo.getD i 0 = b
   by_cases k1 : x < 1 <;> by_cases k2 : 6 < x <;> by_cases k3 : a < 0 <;> by_cases k4 : x ≤ a <;> by_cases k5 : b < 0 <;> by_cases k6 : x ≤ b <;> simp [k1, k2, k3, k4, k5, k6, Bw])
  (fun n => by rw [A2, AC (by omega)]) N 0 (by omega) (by omega)
 simpa using this
theorem Oj (N : Nat) (p : Ab) (hN : N ≤ 1000000) (h1 : p.fb.length < N) (h2 : p.fm.length = p.fb.length) (h3 : p.fo.length = p.fb.length) (j : Option Int) :
  BA N p (fun _ => j) N 0 = Bw (C5 (E9 p) 0 p.fb) j := by
 have := CA (BA N p (fun _ => j)) p.fb j (E9 p)
  (fun n i x hx => by
   have hi := (lI.1 hx).1
   rw [BA, AE (by omega), AZ, hx]
   simp only [oS, Bb, Nv]
   rw [CN (d := 0) (by omega), CN (d := 0) (by omega), AL (by omega)]
   simp only [oS]
   unfold E9
   generalize p.fm.getD i 0 = a
   generalize p.fo.getD i 0 = b
   have e1 : decide (0 ≤ a) = !decide (a < 0) := by rw [← decide_not]; congr 1; simp
   have e2 : decide (a < x) = !decide (x ≤ a) := by rw [← decide_not]; congr 1; simp
   have e3 : decide (0 ≤ b) = !decide (b < 0) := by rw [← decide_not]; congr 1; simp
   have e4 : decide (b < x) = !decide (x ≤ b) := by rw [← decide_not]; congr 1; simp
   rw [e1, e2, e3, e4]
   by_cases k1 : x < 1 <;> by_cases k2 : 6 < x <;> by_cases k3 : a < 0 <;> by_cases k4 : x ≤ a <;> by_cases k5 : b < 0 <;> by_cases k6 : x ≤ b <;> simp [k1, k2, k3, k4, k5, k6, Bw])
  (fun n => by rw [BA, AC (by omega)]) N 0 (by omega) (by omega)
 simpa using this
theorem SM (N : Nat) (p : Ab) (hN : N ≤ 1000000) (h6 : 7 ≤ N) (h1 : p.fe.length < N) (hv : ∀ v, v ∈ p.fb → 1 ≤ v ∧ v ≤ 6) (j : Option Int) :
  AY N p (fun _ => j) N 0 = Bw (C5 (KP p) 0 p.fe) j := by
 have := CA (AY N p (fun _ => j)) p.fe j (KP p)
  (fun n i x hx => by
   have hi := (lI.1 hx).1
   rw [AY, AE (by omega), AZ, hx]
   simp only [oS]
   rw [Rr N p x hN h6 hv, AL (by omega)]
   simp only [oS]
   unfold KP
   by_cases k : Dp p x = 0
   ·simp [k, Bw]
   ·rw [bne_iff_ne.2 k, if_neg k]; rfl)
  (fun n => by rw [AY, AC (by omega)]) N 0 (by omega) (by omega)
 simpa using this
theorem P8 (N : Nat) (p : Ab) (hN : N ≤ 1000000) (h6 : 7 ≤ N) (h1 : p.fe.length < N) (hv : ∀ v, v ∈ p.fb → 1 ≤ v ∧ v ≤ 6) (j : Option Int) :
  Bs N p (fun _ => j) N 0 = Bw (C5 (KP p) 0 p.fe) j := by
 have := CA (Bs N p (fun _ => j)) p.fe j (KP p)
  (fun n i x hx => by
   have hi := (lI.1 hx).1
   rw [Bs, AE (by omega), AZ, hx]
   simp only [oS]
   rw [Me N p x hN h6 hv, AL (by omega)]
   simp only [oS]
   unfold KP
   by_cases k : Dp p x = 0
   ·simp [k, Bw]
   ·rw [bne_iff_ne.2 k, if_neg k]; rfl)
  (fun n => by rw [Bs, AC (by omega)]) N 0 (by omega) (by omega)
 simpa using this
theorem Qd (N : Nat) (p : Ab) (hN : N ≤ 1000000) (h : 20 ≤ N) : BW N p = some (CK p) := by
 unfold BW CK
 simp only [Bb]
 by_cases k1 : 6 < p.fb.length
 ·rw [AE (by omega)]; simp [k1]
 rw [AC (by omega)]
 by_cases k2 : 12 < p.fe.length
 ·rw [decide_eq_true (by omega : (12 : Int) < (p.fe.length : Int))]; simp [k2]
 rw [decide_eq_false (by omega : ¬ (12 : Int) < (p.fe.length : Int)), Ao, if_neg (by omega)]
 by_cases k3 : p.fm.length = p.fb.length
 ·by_cases k4 : p.fo.length = p.fb.length
  ·rw [k3, k4]
   simp only [bne_self_eq_false, Ao, ne_eq, not_true_eq_false, or_self, if_false]
   rw [P3 N p hN (by omega) k3 k4]
   cases hs : C5 (E9 p) 0 p.fb with
   | some r => rfl
   | none =>
    simp only [Bw]
    rw [SM N p hN (by omega) (by omega) (L5 hs)]
    cases C5 (KP p) 0 p.fe <;> rfl
  ·have : ((p.fo.length : Int) != (p.fb.length : Int)) = true := bne_iff_ne.2 (by omega)
   rw [this, k3]; simp [k4]
 ·have : ((p.fm.length : Int) != (p.fb.length : Int)) = true := bne_iff_ne.2 (by omega)
  rw [this]; simp [k3]
theorem Oq (N : Nat) (p : Ab) (hN : N ≤ 1000000) (h : 20 ≤ N) : Cf N p = some (CK p) := by
 unfold Cf CK
 simp only [Bb]
 by_cases k1 : 6 < p.fb.length
 ·rw [AE (by omega)]; simp [k1]
 rw [AC (by omega)]
 by_cases k2 : 12 < p.fe.length
 ·rw [decide_eq_true (by omega : (12 : Int) < (p.fe.length : Int))]; simp [k2]
 rw [decide_eq_false (by omega : ¬ (12 : Int) < (p.fe.length : Int)), Ao, if_neg (by omega)]
 by_cases k3 : p.fm.length = p.fb.length
 ·by_cases k4 : p.fo.length = p.fb.length
  ·rw [k3, k4]
   simp only [bne_self_eq_false, Ao, ne_eq, not_true_eq_false, or_self, if_false]
   rw [Oj N p hN (by omega) k3 k4]
   cases hs : C5 (E9 p) 0 p.fb with
   | some r => rfl
   | none =>
    simp only [Bw]
    rw [P8 N p hN (by omega) (by omega) (L5 hs)]
    cases C5 (KP p) 0 p.fe <;> rfl
  ·have : ((p.fo.length : Int) != (p.fb.length : Int)) = true := bne_iff_ne.2 (by omega)
   rw [this, k3]; simp [k4]
 ·have : ((p.fm.length : Int) != (p.fb.length : Int)) = true := bne_iff_ne.2 (by omega)
  rw [this]; simp [k3]
theorem HZ {n : Int} (h : IE n) : 0 ≤ n ∧ n ≤ 255 := by
 unfold IE at h
 simpa [Lit.wf, IntKind.min, IntKind.max, IntKind.signed, IntKind.bits] using h
theorem M6 : ∀ k : Fin 256, CC .u8 0 (k.val : Int) = 0 := by decide +kernel
theorem MZ : ∀ k : Fin 256, CC .u8 (k.val : Int) 0 = (k.val : Int) := by decide +kernel
theorem R4 {n : Int} (h : IE n) : CC .u8 0 n = 0 := by
 have := HZ h
 obtain ⟨k, rfl⟩ := Int.eq_ofNat_of_zero_le this.1
 exact M6 ⟨k, by omega⟩
theorem RT {n : Int} (h : IE n) : CC .u8 n 0 = n := by
 have := HZ h
 obtain ⟨k, rfl⟩ := Int.eq_ofNat_of_zero_le this.1
 exact MZ ⟨k, by omega⟩
theorem Fy {α R : Type} {f : Nat → α → Option R} : ∀ {i : Nat} {xs : List α} {r : R}, C5 f i xs = some r → ∃ j x, xs[j]? = some x ∧ f (i + j) x = some r
 | _, [], _, h => by cases h
 | i, y :: ys, r, h => by
  rw [Gk] at h
  split at h
  ·rename_i r' h0
   cases h
   exact ⟨0, y, rfl, h0⟩
  ·obtain ⟨j, x, h1, h2⟩ := Fy h
   exact ⟨j + 1, x, by simpa using h1, by rwa [show i + (j + 1) = i + 1 + j from by omega]⟩
structure B0 (p : Ab) : Prop where
 nv : p.fb.length ≤ 6
 nt : p.fe.length ≤ 12
 now : p.fm.length = p.fb.length
 tgt : p.fo.length = p.fb.length
 ver : ∀ v, v ∈ p.fb → 1 ≤ v ∧ v ≤ 6
 tab : ∀ t, t ∈ p.fe → Dp p t = 0
theorem Qc (l : List (List Bool)) : (HS l).getD 0 = 0 ∨ (HS l).getD 0 = 1 := by
 cases h : HS l with
 | none => exact .inl rfl
 | some r =>
  obtain ⟨j, x, _, h⟩ := Fy h
  split at h
  ·cases h
  ·cases h; exact .inr rfl
theorem Og (p : Ab) (t : Av) : Dp p t = 0 ∨ Dp p t = 1 ∨ Dp p t = 4 ∨ Dp p t = 6 := by
 unfold Dp
 split
 ·exact .inr (.inl rfl)
 split
 ·exact .inr (.inr (.inl rfl))
 simp only
 split
 ·exact .inr (.inr (.inr rfl))
 split
 ·split
  ·exact .inr (.inr (.inr rfl))
  ·rcases Qc t.fk with h | h
   ·exact .inl h
   ·exact .inr (.inl h)
 ·split
  ·exact .inl rfl
  ·exact .inr (.inr (.inr rfl))
theorem Hx (p : Ab) : (CK p = 0 ∧ B0 p) ∨ (CK p = 1 ∨ CK p = 3 ∨ CK p = 4 ∨ CK p = 6 ∨ CK p = 7) := by
 unfold CK
 split
 ·simp
 rename_i k1
 split
 ·simp
 rename_i k2
 cases hs : C5 (E9 p) 0 p.fb with
 | some r =>
  obtain ⟨j, x, _, h⟩ := Fy hs
  unfold E9 at h
  split at h
  ·cases h; simp [Bw]
  ·cases h
 | none =>
  cases ht : C5 (KP p) 0 p.fe with
  | some r =>
   obtain ⟨j, t, _, h⟩ := Fy ht
   unfold KP at h
   split at h
   ·cases h
   ·rename_i hne
    cases h
    simp only [Bw, Option.getD_some]
    right
    rcases Og p t with h | h | h | h
    ·exact (hne h).elim
    ·exact .inl h
    ·exact .inr (.inr (.inl h))
    ·exact .inr (.inr (.inr (.inl h)))
  | none =>
   left
   refine ⟨rfl, by omega, by omega, by omega, by omega, L5 hs, fun t hm => ?_⟩
   obtain ⟨j, hj⟩ := List.mem_iff_getElem?.1 hm
   have := G6 ht j t hj
   unfold KP at this
   split at this
   ·assumption
   ·cases this
def FG (m : Ac) (s : Nat) : Int :=
 if 0 ≤ m.fa.getD s 0 then KX .u8 (C7 .u8 1 (m.fd.getD s 0)) (C7 .u8 1 (m.fa.getD s 0)) else C7 .u8 1 (m.fd.getD s 0)
def J9 (m : Ac) (i : Nat) (v : Int) : Option Int :=
 if m.fd.getD i 0 < 0 ∨ v ≤ m.fd.getD i 0 ∨ m.fa.getD i 0 < -1 ∨ v ≤ m.fa.getD i 0 then some 7
 else if m.fd.getD i 0 = m.fa.getD i 0 then some 1 else none
def Bp (t : Av) : Bool := t.ff == 3 || t.ff == 4
def Tf (p : Ab) (t : Av) : Int := wI .u8 (C7 .u8 1 (p.fb.getD t.fg.toNat 0) - 1)
def Ia (p : Ab) (m : Ac) (i : Nat) (t : Av) : Option Int :=
 if Bp t = true then (if CC .u8 (FG m t.fg.toNat) (m.fc.getD i 0) ≠ 0 ∨ CC .u8 (m.fc.getD i 0) (Tf p t) ≠ 0 then some 1 else none)
 else if m.fc.getD i 0 ≠ 0 then some 1 else none
def Eg (p : Ab) (m : Ac) : Int :=
 if CK p ≠ 0 then CK p
 else if m.fd.length ≠ p.fb.length ∨ m.fa.length ≠ p.fb.length ∨ m.fc.length ≠ p.fe.length then 6
 else (Bw (C5 (J9 m) 0 p.fb) (C5 (Ia p m) 0 p.fe)).getD 0
theorem Im {p : Ab} {t : Av} (h : Dp p t = 0) : 0 ≤ t.fg ∧ t.fg < (p.fb.length : Int) ∧ 0 ≤ t.fj ∧ t.fj < (p.fb.length : Int) := by
 unfold Dp at h
 split at h
 ·cases h
 ·split at h
  ·cases h
  ·omega
theorem Kh (N : Nat) (m : Ac) (s : Int) (h0 : 0 ≤ s) (h1 : s < (m.fd.length : Int)) (h2 : s < (m.fa.length : Int)) (hb : 0 ≤ m.fd.getD s.toNat 0) : Eb N m s = some (FG m s.toNat) := by
 unfold Eb FG
 rw [DY (d := 0) h0 h1, DY (d := 0) h0 h2]
 simp only [oS, Bb]
 rw [show Dh (0 ≤ m.fd.getD s.toNat 0) = some () from by unfold Dh; rw [if_pos hb]]
 simp only [oS]
 by_cases h : 0 ≤ m.fa.getD s.toNat 0
 ·rw [AE h, if_pos h, show Dh (0 ≤ m.fa.getD s.toNat 0) = some () from by unfold Dh; rw [if_pos h]]; rfl
 ·rw [AC h, if_neg h]
theorem HU (N : Nat) (m : Ac) (s : Int) (h0 : 0 ≤ s) (h1 : s < (m.fd.length : Int)) (h2 : s < (m.fa.length : Int)) (hb : 0 ≤ m.fd.getD s.toNat 0) : Bl N m s = some (FG m s.toNat) := by
 unfold Bl FG
 rw [DY (d := 0) h0 h1, DY (d := 0) h0 h2]
 simp only [oS, Bb]
 rw [show Dh (0 ≤ m.fd.getD s.toNat 0) = some () from by unfold Dh; rw [if_pos hb]]
 simp only [oS]
 by_cases h : 0 ≤ m.fa.getD s.toNat 0
 ·rw [AE h, if_pos h, show Dh (0 ≤ m.fa.getD s.toNat 0) = some () from by unfold Dh; rw [if_pos h]]; rfl
 ·rw [AC h, if_neg h]
theorem On (N : Nat) (p : Ab) (m : Ac) (hN : N ≤ 1000000) (h1 : p.fb.length < N) (h2 : m.fd.length = p.fb.length) (h3 : m.fa.length = p.fb.length) (j : Option Int) :
  Do N p m (fun _ => j) N 0 = Bw (C5 (J9 m) 0 p.fb) j := by
 have := CA (Do N p m (fun _ => j)) p.fb j (J9 m)
  (fun n i x hx => by
   have hi := (lI.1 hx).1
   rw [Do, AE (by omega), AZ, hx]
   simp only [oS, Bb]
   rw [CN (d := 0) (by omega), CN (d := 0) (by omega), AL (by omega)]
   simp only [oS]
   unfold J9
   generalize m.fd.getD i 0 = a
   generalize m.fa.getD i 0 = b
   by_cases k7 : a = b
   ·subst k7
    by_cases k3 : a < 0 <;> by_cases k4 : x ≤ a <;> by_cases k5 : a < -1 <;> simp [k3, k4, k5, Bw]
   ·have k8 : (a == b) = false := beq_eq_false_iff_ne.2 k7
    by_cases k3 : a < 0 <;> by_cases k4 : x ≤ a <;> by_cases k5 : b < -1 <;> by_cases k6 : x ≤ b <;> simp [k3, k4, k5, k6, k7, k8, Bw])
  (fun n => by rw [Do, AC (by omega)]) N 0 (by omega) (by omega)
 simpa using this
theorem Ok (N : Nat) (p : Ab) (m : Ac) (hN : N ≤ 1000000) (h1 : p.fb.length < N) (h2 : m.fd.length = p.fb.length) (h3 : m.fa.length = p.fb.length) (j : Option Int) :
  BJ N p m (fun _ => j) N 0 = Bw (C5 (J9 m) 0 p.fb) j := by
 have := CA (BJ N p m (fun _ => j)) p.fb j (J9 m)
  (fun n i x hx => by
   have hi := (lI.1 hx).1
   rw [BJ, AE (by omega), show BE p.fb (i : Int) = some x from by rw [AZ, hx]]
   simp only [oS, Bb]
   rw [CN (d := 0) (by omega), CN (d := 0) (by omega), AL (by omega)]
   simp only [oS]
   unfold J9
   generalize m.fd.getD i 0 = a
   generalize m.fa.getD i 0 = b
   by_cases k7 : a = b
   ·subst k7
    by_cases k3 : a < 0 <;> by_cases k4 : x ≤ a <;> by_cases k5 : a < -1 <;> simp [k3, k4, k5, Bw]
   ·have k8 : (a == b) = false := beq_eq_false_iff_ne.2 k7
    by_cases k3 : a < 0 <;> by_cases k4 : x ≤ a <;> by_cases k5 : b < -1 <;> by_cases k6 : x ≤ b <;> simp [k3, k4, k5, k6, k7, k8, Bw])
  (fun n => by rw [BJ, AC (by omega)]) N 0 (by omega) (by omega)
 simpa using this
structure MixServ (p : Ab) (m : Ac) : Prop where
 base : m.fd.length = p.fb.length
 next : m.fa.length = p.fb.length
 held : m.fc.length = p.fe.length
 b0 : ∀ i, i < p.fb.length → 0 ≤ m.fd.getD i 0 ∧ m.fd.getD i 0 < p.fb.getD i 0
 n0 : ∀ i, i < p.fb.length → -1 ≤ m.fa.getD i 0 ∧ m.fa.getD i 0 < p.fb.getD i 0
 ne : ∀ i, i < p.fb.length → m.fd.getD i 0 ≠ m.fa.getD i 0
theorem OI {p : Ab} {m : Ac} (h2 : m.fd.length = p.fb.length) (h3 : m.fa.length = p.fb.length) (h4 : m.fc.length = p.fe.length) (h : C5 (J9 m) 0 p.fb = none) : MixServ p m := by
 have key : ∀ i, i < p.fb.length → ¬ (m.fd.getD i 0 < 0 ∨ p.fb.getD i 0 ≤ m.fd.getD i 0 ∨ m.fa.getD i 0 < -1 ∨ p.fb.getD i 0 ≤ m.fa.getD i 0) ∧ ¬ m.fd.getD i 0 = m.fa.getD i 0 := by
  intro i hi
  have hx : p.fb[i]? = some (p.fb.getD i 0) := by rw [lD]; simp [hi]
  have := G6 h i _ hx
  rw [Nat.zero_add] at this
  unfold J9 at this
  split at this
  ·cases this
  ·split at this
   ·cases this
   ·rename_i k1 k2; exact ⟨k1, k2⟩
 exact ⟨h2, h3, h4, fun i hi => by have := (key i hi).1; omega, fun i hi => by have := (key i hi).1; omega, fun i hi => (key i hi).2⟩
theorem OX {m : Ac} (hw : JA IE m.fc) {i : Nat} (h : i < m.fc.length) : IE (m.fc.getD i 0) := by
 refine hw _ ?_
 rw [lD, List.getElem?_eq_getElem h]
 exact List.getElem_mem _
theorem JY (N : Nat) (t : Av) : Ew N t = some (Bp t) := by
 unfold Ew Bp
 simp only [Bb]
 cases h : t.ff == 3 <;> simp
theorem E4 (N : Nat) (t : Av) : AR N t = some (Bp t) := Lf N t
theorem P6 (N : Nat) (p : Ab) (m : Ac) (hN : N ≤ 1000000) (h1 : p.fe.length < N) (hp : B0 p) (hm : MixServ p m) (hw : JA IE m.fc) (j : Option Int) :
  C1 N p m (fun _ => j) N 0 = Bw (C5 (Ia p m) 0 p.fe) j := by
 have := CA (C1 N p m (fun _ => j)) p.fe j (Ia p m)
  (fun n i x hx => by
   have hi := (lI.1 hx).1
   have hin := Im (hp.tab x (lM hx))
   have hheld := OX hw (show i < m.fc.length from by rw [hm.held]; exact hi)
   have hv := Jv hp.ver hin.1 hin.2.1
   rw [C1, AE (by omega), AZ, hx]
   simp only [oS, Bb, JY]
   rw [Kh N m x.fg hin.1 (by rw [hm.base]; exact hin.2.1) (by rw [hm.next]; exact hin.2.1) (hm.b0 _ (by omega)).1, DY (d := 0) hin.1 hin.2.1, CN (d := 0) (show i < m.fc.length from by rw [hm.held]; exact hi), AL (by omega)]
   simp only [oS]
   rw [show Dh (0 ≤ p.fb.getD x.fg.toNat 0) = some () from by unfold Dh; rw [if_pos (by omega)]]
   simp only [oS]
   unfold Ia Tf
   rw [R4 hheld, RT hheld]
   generalize CC .u8 (FG m x.fg.toNat) (m.fc.getD i 0) = A
   generalize CC .u8 (m.fc.getD i 0) (wI .u8 (C7 .u8 1 (p.fb.getD x.fg.toNat 0) - 1)) = B
   generalize m.fc.getD i 0 = H
   cases Bp x
   ·simp only [Ao, bne_self_eq_false]
    by_cases k : H = 0
    ·simp [k, Bw]
    ·have : (H != 0) = true := bne_iff_ne.2 k
     simp [k, this, Bw]
   ·simp only [AD]
    by_cases k : A = 0
    ·by_cases k2 : B = 0
     ·simp [k, k2, Bw]
     ·have : (B != 0) = true := bne_iff_ne.2 k2
      simp [k, k2, this, Bw]
    ·have : (A != 0) = true := bne_iff_ne.2 k
     simp [k, this, Bw])
  (fun n => by rw [C1, AC (by omega)]) N 0 (by omega) (by omega)
 simpa using this
theorem PQ (N : Nat) (p : Ab) (m : Ac) (hN : N ≤ 1000000) (h1 : p.fe.length < N) (hp : B0 p) (hm : MixServ p m) (j : Option Int) :
  BD N p m (fun _ => j) N 0 = Bw (C5 (Ia p m) 0 p.fe) j := by
 have := CA (BD N p m (fun _ => j)) p.fe j (Ia p m)
  (fun n i x hx => by
   have hi := (lI.1 hx).1
   have hin := Im (hp.tab x (lM hx))
   have hv := Jv hp.ver hin.1 hin.2.1
   rw [BD, AE (by omega), AZ, hx]
   simp only [oS, Bb, E4]
   rw [HU N m x.fg hin.1 (by rw [hm.base]; exact hin.2.1) (by rw [hm.next]; exact hin.2.1) (hm.b0 _ (by omega)).1, DY (d := 0) hin.1 hin.2.1, CN (d := 0) (show i < m.fc.length from by rw [hm.held]; exact hi), AL (by omega)]
   simp only [oS]
   rw [show Dh (0 ≤ p.fb.getD x.fg.toNat 0) = some () from by unfold Dh; rw [if_pos (by omega)]]
   simp only [oS]
   unfold Ia Tf
   generalize CC .u8 (FG m x.fg.toNat) (m.fc.getD i 0) = A
   generalize CC .u8 (m.fc.getD i 0) (wI .u8 (C7 .u8 1 (p.fb.getD x.fg.toNat 0) - 1)) = B
   generalize m.fc.getD i 0 = H
   cases Bp x
   ·simp only [Bool.not_false, AD, Ao]
    by_cases k : H = 0
    ·simp [k, Bw]
    ·have : (H != 0) = true := bne_iff_ne.2 k
     simp [k, this, Bw]
   ·simp only [Bool.not_true, Ao, AD]
    by_cases k : A = 0
    ·by_cases k2 : B = 0
     ·simp [k, k2, Bw]
     ·have : (B != 0) = true := bne_iff_ne.2 k2
      simp [k, k2, this, Bw]
    ·have : (A != 0) = true := bne_iff_ne.2 k
     by_cases k2 : B = 0
     ·simp [k, k2, this, Bw]
     ·have h5 : (B != 0) = true := bne_iff_ne.2 k2
      simp [k, h5, Bw])
  (fun n => by rw [BD, AC (by omega)]) N 0 (by omega) (by omega)
 simpa using this
theorem IJ (N : Nat) (p : Ab) (m : Ac) (hN : N ≤ 1000000) (h : 20 ≤ N) (hw : JA IE m.fc) : Em N p m = some (Eg p m) := by
 unfold Em Eg
 rw [Oq N p hN h]
 simp only [oS, Bb]
 by_cases k0 : CK p = 0
 ·have hp : B0 p := by
   rcases Hx p with h | h
   ·exact h.2
   ·omega
  have hnv := hp.nv
  have hnt := hp.nt
  rw [k0]
  simp only [bne_self_eq_false, Ao, ne_eq, not_true_eq_false, if_false]
  by_cases k1 : m.fd.length = p.fb.length
  ·by_cases k2 : m.fa.length = p.fb.length
   ·by_cases k3 : m.fc.length = p.fe.length
    ·rw [k1, k2, k3]
     simp only [bne_self_eq_false, Ao, not_true_eq_false, or_self, if_false]
     rw [On N p m hN (by omega) k1 k2]
     cases hs : C5 (J9 m) 0 p.fb with
     | some r => rfl
     | none =>
      simp only [Bw]
      rw [P6 N p m hN (by omega) hp (OI k1 k2 k3 hs) hw]
      cases C5 (Ia p m) 0 p.fe <;> rfl
    ·have : ((m.fc.length : Int) != (p.fe.length : Int)) = true := bne_iff_ne.2 (by omega)
     rw [this, k1, k2]; simp [k3]
   ·have : ((m.fa.length : Int) != (p.fb.length : Int)) = true := bne_iff_ne.2 (by omega)
    rw [this, k1]; simp [k2]
  ·have : ((m.fd.length : Int) != (p.fb.length : Int)) = true := bne_iff_ne.2 (by omega)
   rw [this]; simp [k1]
 ·rw [bne_iff_ne.2 k0]; simp [k0]
theorem II (N : Nat) (p : Ab) (m : Ac) (hN : N ≤ 1000000) (h : 20 ≤ N) : Cv N p m = some (Eg p m) := by
 unfold Cv Eg
 rw [Qd N p hN h]
 simp only [oS, Bb]
 by_cases k0 : CK p = 0
 ·have hp : B0 p := by
   rcases Hx p with h | h
   ·exact h.2
   ·omega
  have hnv := hp.nv
  have hnt := hp.nt
  rw [k0]
  simp only [bne_self_eq_false, Ao, ne_eq, not_true_eq_false, if_false]
  by_cases k1 : m.fd.length = p.fb.length
  ·by_cases k2 : m.fa.length = p.fb.length
   ·by_cases k3 : m.fc.length = p.fe.length
    ·rw [k1, k2, k3]
     simp only [bne_self_eq_false, Ao, not_true_eq_false, or_self, if_false]
     rw [Ok N p m hN (by omega) k1 k2]
     cases hs : C5 (J9 m) 0 p.fb with
     | some r => rfl
     | none =>
      simp only [Bw]
      rw [PQ N p m hN (by omega) hp (OI k1 k2 k3 hs)]
      cases C5 (Ia p m) 0 p.fe <;> rfl
    ·have : ((m.fc.length : Int) != (p.fe.length : Int)) = true := bne_iff_ne.2 (by omega)
     rw [this, k1, k2]; simp [k3]
   ·have : ((m.fa.length : Int) != (p.fb.length : Int)) = true := bne_iff_ne.2 (by omega)
    rw [this, k1]; simp [k2]
  ·have : ((m.fd.length : Int) != (p.fb.length : Int)) = true := bne_iff_ne.2 (by omega)
   rw [this]; simp [k1]
 ·rw [bne_iff_ne.2 k0]; simp [k0]
@[simp] theorem A1 {α β : Type} (k : α) (f : α → β) : Bb k f = f k := rfl
@[simp] theorem R7 {p : Prop} [Decidable p] (h : p) : Dh p = some () := by unfold Dh; rw [if_pos h]
theorem As {β : Type} {p : Prop} [Decidable p] (h : p) (f : Unit → Option β) : (Dh p).bind f = f () := by rw [R7 h]; rfl
def GU {α β : Type} (g : Nat → α → List β) : Nat → List α → List β
 | _, [] => []
 | i, x :: xs => g i x ++ GU g (i + 1) xs
def Ht {α A : Type} (f : Nat → α → A → A) : Nat → List α → A → A
 | _, [], a => a
 | i, x :: xs, a => Ht f (i + 1) xs (f i x a)
theorem IA {α β : Type} {g : Nat → α → List β} {c : Nat} : ∀ {i : Nat} {xs : List α}, (∀ j x, xs[j]? = some x → (g (i + j) x).length ≤ c) → (GU g i xs).length ≤ c * xs.length
 | _, [], _ => by simp [GU]
 | i, x :: xs, h => by
  have h1 := h 0 x rfl
  have h2 := IA (g := g) (c := c) (i := i + 1) (xs := xs) fun j y hy => by
   have := h (j + 1) y (by simpa using hy)
   rwa [show i + (j + 1) = i + 1 + j from by omega] at this
  rw [GU, List.length_append, List.length_cons, Nat.mul_add]
  simp only [Nat.add_zero] at h1
  omega
theorem HF {α A S R : Type} (L : Nat → S → Option R) (mk : A → Int → S) (xs : List α) (j : A → Option R) (f : Nat → α → A → A) (I : Nat → A → Prop)
  (hs : ∀ (n i : Nat) (x : α) (a : A), xs[i]? = some x → I i a → L (n + 1) (mk a (i : Int)) = L n (mk (f i x a) ((i + 1 : Nat) : Int)) ∧ I (i + 1) (f i x a))
  (he : ∀ (n : Nat) (a : A), I xs.length a → L (n + 1) (mk a (xs.length : Int)) = j a) :
  ∀ (n i : Nat) (a : A), i ≤ xs.length → xs.length - i < n → I i a → L n (mk a (i : Int)) = j (Ht f i (xs.drop i) a) ∧ I xs.length (Ht f i (xs.drop i) a)
 | 0, i, _, _, h, _ => by omega
 | n + 1, i, a, hi, h, ha => by
  by_cases h1 : i < xs.length
  ·have hx : xs[i]? = some xs[i] := by simp [h1]
   obtain ⟨e1, e2⟩ := hs n i _ a hx ha
   rw [e1, CQ hx, Ht]
   exact HF L mk xs j f I hs he n (i + 1) _ (by omega) (by omega) e2
  ·have : i = xs.length := by omega
   subst this
   rw [List.drop_eq_nil_of_le (Nat.le_refl _), Ht]
   exact ⟨he n a ha, ha⟩
theorem L4 {α β : Type} (g : Nat → α → List β) : ∀ (i : Nat) (xs : List α) (acc : List β), Ht (fun i x a => a ++ g i x) i xs acc = acc ++ GU g i xs
 | _, [], acc => by simp [Ht, GU]
 | i, x :: xs, acc => by rw [Ht, L4 g (i + 1) xs, GU, List.append_assoc]
theorem JD {α β S R : Type} (L : Nat → S → Option R) (mk : List β → Int → S) (xs : List α) (j : List β → Option R) (g : Nat → α → List β) (c B : Nat)
  (hg : ∀ i x, xs[i]? = some x → (g i x).length ≤ c)
  (hs : ∀ (n i : Nat) (x : α) (a : List β), xs[i]? = some x → a.length + (g i x).length ≤ B → L (n + 1) (mk a (i : Int)) = L n (mk (a ++ g i x) ((i + 1 : Nat) : Int)))
  (he : ∀ (n : Nat) (a : List β), L (n + 1) (mk a (xs.length : Int)) = j a) (n : Nat) (a : List β) (hn : xs.length < n) (ha : a.length + c * xs.length ≤ B) :
  L n (mk a 0) = j (a ++ GU g 0 xs) := by
 have := HF L mk xs j (fun i x a => a ++ g i x) (fun i b => i ≤ xs.length ∧ b.length ≤ a.length + c * i)
  (fun n i x b hx hb => by
   have h1 := hg i x hx
   have hi := (lI.1 hx).1
   have h2 : c * (i + 1) ≤ c * xs.length := Nat.mul_le_mul_left c hi
   have h3 : c * (i + 1) = c * i + c := Nat.mul_succ c i
   refine ⟨hs n i x b hx (by have := hb.2; omega), hi, ?_⟩
   rw [List.length_append]
   have := hb.2
   omega)
  (fun n b _ => he n b) n 0 a (Nat.zero_le _) (by omega) ⟨Nat.zero_le _, by omega⟩
 have h2 := this.1
 rw [List.drop_zero, L4] at h2
 exact h2
def Cs (s : Int) (v : Nat) : Bool := s.toNat.testBit v
def G4 (m : Ac) (s v : Nat) : Bool := decide (m.fd.getD s 0 = (v : Int)) || decide (m.fa.getD s 0 = (v : Int))
theorem T5 : ∀ (s : Fin 256) (v : Fin 8), EN .u8 (EO .u8 (s.val : Int) (v.val : Int)) 1 = if Cs (s.val : Int) v.val then 1 else 0 := by decide +kernel
theorem N4 {s : Int} {v : Nat} (h0 : 0 ≤ s) (h1 : s ≤ 255) (hv : v < 8) : EN .u8 (EO .u8 s (v : Int)) 1 = if Cs s v then 1 else 0 := by
 obtain ⟨k, rfl⟩ := Int.eq_ofNat_of_zero_le h0
 exact T5 ⟨k, by omega⟩ ⟨v, hv⟩
theorem Pc {s : Int} {v : Nat} (h0 : 0 ≤ s) (h1 : s ≤ 255) (hv : v < 8) : (EN .u8 (EO .u8 s (v : Int)) 1 == 0) = !Cs s v := by
 rw [N4 h0 h1 hv]; cases Cs s v <;> rfl
theorem Pt {s : Int} {v : Nat} (h0 : 0 ≤ s) (h1 : s ≤ 255) (hv : v < 8) : (EN .u8 (EO .u8 s (v : Int)) 1 == 1) = Cs s v := by
 rw [N4 h0 h1 hv]; cases Cs s v <;> rfl
theorem JG {s : Int} {v : Nat} (h1 : s ≤ 255) (hv : 8 ≤ v) : Cs s v = false := by
 unfold Cs
 apply Nat.testBit_lt_two_pow
 have : (2 : Nat) ^ 8 ≤ 2 ^ v := Nat.pow_le_pow_right (by omega) hv
 omega
theorem LX : ∀ (b : Fin 8) (v : Fin 8), Cs (C7 .u8 1 (b.val : Int)) v.val = decide (b.val = v.val) ∧ 0 ≤ C7 .u8 1 (b.val : Int) ∧ C7 .u8 1 (b.val : Int) ≤ 255 := by decide +kernel
theorem Ug : ∀ (b n : Fin 8) (v : Fin 8), Cs (KX .u8 (C7 .u8 1 (b.val : Int)) (C7 .u8 1 (n.val : Int))) v.val = (decide (b.val = v.val) || decide (n.val = v.val))
  ∧ 0 ≤ KX .u8 (C7 .u8 1 (b.val : Int)) (C7 .u8 1 (n.val : Int)) ∧ KX .u8 (C7 .u8 1 (b.val : Int)) (C7 .u8 1 (n.val : Int)) ≤ 255 := by decide +kernel
theorem OO {m : Ac} {s : Nat} (hb0 : 0 ≤ m.fd.getD s 0) (hb1 : m.fd.getD s 0 < 8) (hn1 : m.fa.getD s 0 < 8) :
  (∀ v, Cs (FG m s) v = G4 m s v) ∧ 0 ≤ FG m s ∧ FG m s ≤ 255 := by
 unfold FG G4
 obtain ⟨b, hb⟩ := Int.eq_ofNat_of_zero_le hb0
 rw [hb] at hb1 ⊢
 by_cases h : 0 ≤ m.fa.getD s 0
 ·obtain ⟨n, hn⟩ := Int.eq_ofNat_of_zero_le h
  rw [hn] at hn1 ⊢
  rw [if_pos (by omega)]
  have h1 := Ug ⟨b, by omega⟩ ⟨n, by omega⟩
  refine ⟨fun v => ?_, (h1 0).2⟩
  by_cases hv : v < 8
  ·rw [(h1 ⟨v, hv⟩).1]
   simp only [Int.ofNat_inj]
  ·rw [JG (h1 0).2.2 (by omega)]
   simp; omega
 ·rw [if_neg h]
  have h1 := LX ⟨b, by omega⟩
  refine ⟨fun v => ?_, (h1 0).2⟩
  have h3 : decide (m.fa.getD s 0 = (v : Int)) = false := decide_eq_false (by omega)
  rw [h3, Bool.or_false]
  by_cases hv : v < 8
  ·rw [(h1 ⟨v, hv⟩).1]
   simp only [Int.ofNat_inj]
  ·rw [JG (h1 0).2.2 (by omega)]
   simp; omega
theorem QS {a : Nat} (h : a < 256) : (BitVec.ofInt 8 (a : Int)).toNat = a := by
 simp; omega
theorem Mx {a b : Int} (ha : 0 ≤ a ∧ a ≤ 255) (hb : 0 ≤ b ∧ b ≤ 255) : CC .u8 a b = 0 ↔ ∀ v, Cs a v = true → Cs b v = true := by
 obtain ⟨a, rfl⟩ := Int.eq_ofNat_of_zero_le ha.1
 obtain ⟨b, rfl⟩ := Int.eq_ofNat_of_zero_le hb.1
 have hA := QS (a := a) (by omega)
 have hB := QS (a := b) (by omega)
 unfold CC Cs
 simp only [IntKind.bits, Int.toNat_natCast]
 have hx : ∀ x : BitVec 8, wI .u8 (x.toNat : Int) = (x.toNat : Int) := by
  intro x
  have := x.isLt
  simp [wI, IntKind.signed, IntKind.bits]
  omega
 rw [hx]
 constructor
 ·intro h v hv
  have h0 : (BitVec.ofInt 8 (a : Int) &&& ~~~BitVec.ofInt 8 (b : Int)) = (BitVec.ofNat 8 0) := by
   apply BitVec.eq_of_toNat_eq
   simp only [BitVec.toNat_ofNat, Nat.zero_mod]
   exact Int.ofNat_inj.1 h
  by_cases hv8 : v < 8
  ·have h1 : (BitVec.ofInt 8 (a : Int) &&& ~~~BitVec.ofInt 8 (b : Int)).getLsbD v = false := by rw [h0]; simp
   rw [BitVec.getLsbD_and, BitVec.getLsbD_not] at h1
   have e1 : (BitVec.ofInt 8 (a : Int)).getLsbD v = a.testBit v := by unfold BitVec.getLsbD; rw [hA]
   have e2 : (BitVec.ofInt 8 (b : Int)).getLsbD v = b.testBit v := by unfold BitVec.getLsbD; rw [hB]
   rw [e1, e2, hv] at h1
   simpa [hv8] using h1
  ·have := JG (s := (a : Int)) (v := v) (by omega) (by omega)
   unfold Cs at this
   rw [Int.toNat_natCast, hv] at this
   cases this
 ·intro h
  have h0 : (BitVec.ofInt 8 (a : Int) &&& ~~~BitVec.ofInt 8 (b : Int)) = (BitVec.ofNat 8 0) := by
   apply BitVec.eq_of_getLsbD_eq
   intro i hi
   rw [BitVec.getLsbD_and, BitVec.getLsbD_not]
   have e1 : (BitVec.ofInt 8 (a : Int)).getLsbD i = a.testBit i := by unfold BitVec.getLsbD; rw [hA]
   have e2 : (BitVec.ofInt 8 (b : Int)).getLsbD i = b.testBit i := by unfold BitVec.getLsbD; rw [hB]
   rw [e1, e2]
   have := h i
   cases h3 : a.testBit i
   ·simp
   ·rw [this h3]; simp
  have h2 : ∀ x : BitVec 8, x = (BitVec.ofNat 8 0) → (x.toNat : Int) = 0 := fun x hx => by rw [hx]; rfl
  exact h2 _ h0
theorem TR : ∀ n : Fin 9, (∀ v : Fin 8, Cs (wI .u8 (C7 .u8 1 (n.val : Int) - 1)) v.val = decide (v.val < n.val)) ∧ 0 ≤ wI .u8 (C7 .u8 1 (n.val : Int) - 1) ∧ wI .u8 (C7 .u8 1 (n.val : Int) - 1) ≤ 255 := by decide +kernel
theorem Q0 {n : Int} (h0 : 0 ≤ n) (h1 : n ≤ 8) : (∀ v, Cs (wI .u8 (C7 .u8 1 n - 1)) v = decide ((v : Int) < n)) ∧ 0 ≤ wI .u8 (C7 .u8 1 n - 1) ∧ wI .u8 (C7 .u8 1 n - 1) ≤ 255 := by
 obtain ⟨n, rfl⟩ := Int.eq_ofNat_of_zero_le h0
 have h := TR ⟨n, by omega⟩
 refine ⟨fun v => ?_, h.2⟩
 by_cases hv : v < 8
 ·rw [h.1 ⟨v, hv⟩]; simp
 ·rw [JG h.2.2 (by omega)]
  symm; apply decide_eq_false; omega
structure CZ (p : Ab) (m : Ac) : Prop extends MixServ p m where
 range : ∀ i, i < p.fe.length → 0 ≤ m.fc.getD i 0 ∧ m.fc.getD i 0 ≤ 255
 low : ∀ i t, p.fe[i]? = some t → Bp t = true → ∀ v, G4 m t.fg.toNat v = true → Cs (m.fc.getD i 0) v = true
 high : ∀ i t, p.fe[i]? = some t → Bp t = true → ∀ v, Cs (m.fc.getD i 0) v = true → (v : Int) < p.fb.getD t.fg.toNat 0
 none : ∀ i t, p.fe[i]? = some t → Bp t = false → m.fc.getD i 0 = 0
theorem HQ {p : Ab} (hp : B0 p) {i : Nat} (hi : i < p.fb.length) : 1 ≤ p.fb.getD i 0 ∧ p.fb.getD i 0 ≤ 6 := by
 have := Jv (i := (i : Int)) hp.ver (by omega) (by omega)
 simpa using this
theorem Hj {p : Ab} {m : Ac} (hp : B0 p) (hm : MixServ p m) {s : Nat} (hs : s < p.fb.length) :
  (∀ v, Cs (FG m s) v = G4 m s v) ∧ 0 ≤ FG m s ∧ FG m s ≤ 255 := by
 have h1 := hm.b0 s hs
 have h2 := hm.n0 s hs
 have h3 := HQ hp hs
 exact OO h1.1 (by omega) (by omega)
theorem OZ {p : Ab} {m : Ac} (hp : B0 p) (hm : MixServ p m) {i : Nat} {t : Av} (ht : p.fe[i]? = some t) (hr : 0 ≤ m.fc.getD i 0 ∧ m.fc.getD i 0 ≤ 255) :
  Ia p m i t = none ↔ ((Bp t = true → (∀ v, G4 m t.fg.toNat v = true → Cs (m.fc.getD i 0) v = true) ∧ (∀ v, Cs (m.fc.getD i 0) v = true → (v : Int) < p.fb.getD t.fg.toNat 0)) ∧ (Bp t = false → m.fc.getD i 0 = 0)) := by
 have hin := Im (hp.tab t (lM ht))
 have hrun := Hj hp hm (s := t.fg.toNat) (by omega)
 have hver := HQ hp (i := t.fg.toNat) (by omega)
 have hall := Q0 (n := p.fb.getD t.fg.toNat 0) (by omega) (by omega)
 unfold Ia Tf
 have e1 := Mx hrun.2 hr
 have e2 := Mx hr hall.2
 cases hst : Bp t
 ·simp
 ·simp only [if_true, true_implies, Bool.true_eq_false, false_implies, and_true, ite_eq_right_iff, reduceCtorEq, imp_false, not_or, Decidable.not_not]
  rw [e1, e2]
  simp only [hrun.1, hall.1, decide_eq_true_eq]
theorem KW {p : Ab} {m : Ac} (hw : JA IE m.fc) (h : Eg p m = 0) : B0 p ∧ CZ p m := by
 unfold Eg at h
 split at h
 ·rename_i k; exact (k h).elim
 ·rename_i k0
  have hp : B0 p := by
   rcases Hx p with h | h
   ·exact h.2
   ·omega
  split at h
  ·cases h
  ·rename_i k1
   have b1 : m.fd.length = p.fb.length := Decidable.not_not.1 fun h => k1 (.inl h)
   have b2 : m.fa.length = p.fb.length := Decidable.not_not.1 fun h => k1 (.inr (.inl h))
   have b3 : m.fc.length = p.fe.length := Decidable.not_not.1 fun h => k1 (.inr (.inr h))
   cases hs : C5 (J9 m) 0 p.fb with
   | some r =>
    obtain ⟨j, x, _, he⟩ := Fy hs
    rw [hs] at h
    unfold J9 at he
    simp only [Bw, Option.getD_some] at h
    split at he
    ·cases he; cases h
    ·split at he
     ·cases he; cases h
     ·cases he
   | none =>
    have hm := OI b1 b2 b3 hs
    rw [hs] at h
    simp only [Bw] at h
    cases ht : C5 (Ia p m) 0 p.fe with
    | some r =>
     obtain ⟨j, x, _, he⟩ := Fy ht
     rw [ht] at h
     simp only [Option.getD_some] at h
     subst h
     unfold Ia at he
     split at he
     ·split at he <;> cases he
     ·split at he <;> cases he
    | none =>
     have hr : ∀ i, i < p.fe.length → 0 ≤ m.fc.getD i 0 ∧ m.fc.getD i 0 ≤ 255 := fun i hi => HZ (OX hw (by omega))
     have key : ∀ i t, p.fe[i]? = some t → _ := fun i t hi => (OZ hp hm hi (hr i (lI.1 hi).1)).1 (by have := G6 ht i t hi; rwa [Nat.zero_add] at this)
     exact ⟨hp, hm, hr, fun i t hi hst => ((key i t hi).1 hst).1, fun i t hi hst => ((key i t hi).1 hst).2, fun i t hi hst => (key i t hi).2 hst⟩
theorem ET {α R : Type} {f : Nat → α → Option R} : ∀ {i : Nat} {xs : List α}, (∀ j x, xs[j]? = some x → f (i + j) x = none) → C5 f i xs = none
 | _, [], _ => rfl
 | i, y :: ys, h => by
  rw [Gk, show f i y = none from h 0 y rfl]
  exact ET fun j x hx => by
   have := h (j + 1) x (by simpa using hx)
   rwa [show i + (j + 1) = i + 1 + j from by omega] at this
theorem N8 {p : Ab} (hp : B0 p) (hr : ∀ i, i < p.fb.length → 0 ≤ p.fm.getD i 0 ∧ p.fm.getD i 0 < p.fb.getD i 0 ∧ 0 ≤ p.fo.getD i 0 ∧ p.fo.getD i 0 < p.fb.getD i 0) : CK p = 0 := by
 have := hp.nv
 have := hp.nt
 have := hp.now
 have := hp.tgt
 unfold CK
 rw [if_neg (by omega), if_neg (by omega)]
 have h1 : C5 (E9 p) 0 p.fb = none := ET fun j x hx => by
  have hj := (lI.1 hx).1
  have h1 := hr j hj
  have h2 := HQ hp hj
  have e : p.fb.getD j 0 = x := by rw [lD, hx]; rfl
  rw [e] at h1 h2
  unfold E9
  rw [Nat.zero_add, if_neg (by omega)]
 have h2 : C5 (KP p) 0 p.fe = none := ET fun j x hx => by
  unfold KP
  rw [if_pos (hp.tab x (lM hx))]
 rw [h1, h2]; rfl
theorem Gf {p : Ab} (h : CK p = 0) : B0 p ∧ ∀ i, i < p.fb.length → 0 ≤ p.fm.getD i 0 ∧ p.fm.getD i 0 < p.fb.getD i 0 ∧ 0 ≤ p.fo.getD i 0 ∧ p.fo.getD i 0 < p.fb.getD i 0 := by
 have hp : B0 p := by
  rcases Hx p with h | h
  ·exact h.2
  ·omega
 refine ⟨hp, fun i hi => ?_⟩
 have h1 := hp.nv
 have h2 := hp.nt
 have h3 := hp.now
 have h4 := hp.tgt
 unfold CK at h
 rw [if_neg (by omega), if_neg (by omega)] at h
 cases hs : C5 (E9 p) 0 p.fb with
 | some r =>
  obtain ⟨j, x, _, he⟩ := Fy hs
  rw [hs] at h
  unfold E9 at he
  split at he
  ·cases he; cases h
  ·cases he
 | none =>
  have hx : p.fb[i]? = some (p.fb.getD i 0) := by rw [lD]; simp [hi]
  have := G6 hs i _ hx
  rw [Nat.zero_add] at this
  unfold E9 at this
  split at this
  ·cases this
  ·rename_i hn; omega
theorem Hf {p : Ab} {m : Ac} (hv : CK p = 0) (hm : CZ p m) : Eg p m = 0 := by
 obtain ⟨hp, _⟩ := Gf hv
 unfold Eg
 rw [hv, if_neg (by simp), if_neg (by have := hm.base; have := hm.next; have := hm.held; omega)]
 have h1 : C5 (J9 m) 0 p.fb = none := ET fun j x hx => by
  have hj := (lI.1 hx).1
  have e : p.fb.getD j 0 = x := by rw [lD, hx]; rfl
  have h1 := hm.b0 j hj
  have h2 := hm.n0 j hj
  have h3 := hm.ne j hj
  rw [e] at h1 h2
  unfold J9
  rw [Nat.zero_add, if_neg (by omega), if_neg h3]
 have h2 : C5 (Ia p m) 0 p.fe = none := ET fun j x hx => by
  have hj := (lI.1 hx).1
  rw [Nat.zero_add]
  exact (OZ hp hm.toMixServ hx (hm.range j hj)).2 ⟨fun hst => ⟨hm.low j x hx hst, hm.high j x hx hst⟩, fun hst => hm.none j x hx hst⟩
 rw [h1, h2]; rfl
def Mw {α : Type} (g : Nat → α → Bool) : Nat → List α → Bool
 | _, [] => false
 | i, x :: xs => g i x || Mw g (i + 1) xs
theorem Ki {α β : Type} (g : Nat → α → List β) (h : Nat → α → Bool) : ∀ (i : Nat) (xs : List α) (a : List β) (b : Bool),
  Ht (fun i x (s : List β × Bool) => (s.1 ++ g i x, s.2 || h i x)) i xs (a, b) = (a ++ GU g i xs, b || Mw h i xs)
 | _, [], a, b => by simp [Ht, GU, Mw]
 | i, x :: xs, a, b => by rw [Ht, Ki g h, GU, Mw, List.append_assoc, Bool.or_assoc]
def gC (i u : Nat) (m : Ac) (t : Av) (v : Nat) (ok : Bool) : List Ak :=
 if G4 m t.fj.toNat v && (!ok && !t.fp) then [⟨(i : Int), (u : Int), (v : Int)⟩] else []
def hC (m : Ac) (t : Av) (v : Nat) (ok : Bool) : Bool := G4 m t.fj.toNat v && ok
def IH (i : Nat) (m : Ac) (t : Av) (u : Nat) (row : List Bool) : List Ak :=
 GU (gC i u m t) 0 row ++ if t.fp && !Mw (hC m t) 0 row then [⟨(i : Int), (u : Int), -1⟩] else []
def Rj (m : Ac) (i : Nat) (t : Av) (u : Nat) : Bool := if Bp t then Cs (m.fc.getD i 0) u else G4 m t.fg.toNat u
def IT (m : Ac) (i : Nat) (t : Av) : List Ak := GU (fun u row => if Rj m i t u then IH i m t u row else []) 0 t.fq
def F9 (p : Ab) (m : Ac) : List Ak := GU (IT m) 0 p.fe
structure LZ (p : Ab) (t : Av) : Prop where
 kind : 1 ≤ t.ff ∧ t.ff ≤ 4
 aware : t.fp = true → Bp t = false
 from0 : 0 ≤ t.fg ∧ t.fg < (p.fb.length : Int)
 to0 : 0 ≤ t.fj ∧ t.fj < (p.fb.length : Int)
 okL : (t.fq.length : Int) = p.fb.getD t.fg.toNat 0
 okR : ∀ row, row ∈ t.fq → (row.length : Int) = p.fb.getD t.fj.toNat 0
 reL : t.ff = 4 → (t.fk.length : Int) = p.fb.getD t.fg.toNat 0
 reR : ∀ row, row ∈ t.fk → (row.length : Int) = p.fb.getD t.fg.toNat 0
 reD : t.ff = 4 → HS t.fk = none
 reN : t.ff ≠ 4 → t.fk = []
theorem Jo {p : Ab} {t : Av} (h : Dp p t = 0) : LZ p t := by
 unfold Dp at h
 split at h
 ·cases h
 rename_i h1
 split at h
 ·cases h
 rename_i h2
 simp only at h
 split at h
 ·cases h
 rename_i h3
 have h3 : sq t.fq (p.fb.getD t.fg.toNat 0) (p.fb.getD t.fj.toNat 0) = true := by simpa using h3
 have h3 := LU h3
 have ha : t.fp = true → Bp t = false := by
  intro ha
  unfold Bp
  rw [Bool.or_eq_false_iff, beq_eq_false_iff_ne, beq_eq_false_iff_ne]
  exact ⟨fun hk => h1 (.inr (.inr ⟨ha, .inl hk⟩)), fun hk => h1 (.inr (.inr ⟨ha, .inr hk⟩))⟩
 split at h
 ·rename_i h4
  split at h
  ·cases h
  rename_i h5
  have h5 : sq t.fk (p.fb.getD t.fg.toNat 0) (p.fb.getD t.fg.toNat 0) = true := by simpa using h5
  have h5 := LU h5
  refine ⟨by omega, ha, by omega, by omega, h3.1, h3.2, fun _ => h5.1, h5.2, fun _ => ?_, fun h => (h h4).elim⟩
  cases hd : HS t.fk with
  | none => rfl
  | some r =>
   obtain ⟨j, x, _, hx⟩ := Fy hd
   rw [hd] at h
   split at hx
   ·cases hx
   ·cases hx; cases h
 ·rename_i h4
  split at h
  ·rename_i h5
   have h5 := List.eq_nil_of_length_eq_zero h5
   refine ⟨by omega, ha, by omega, by omega, h3.1, h3.2, fun h => (h4 h).elim, fun row hr => ?_, fun h => (h4 h).elim, fun _ => h5⟩
   rw [h5] at hr; cases hr
  ·cases h
theorem JI {R : Type} (b : Bool) (acc : List Ak) (x : Ak) (j : List Ak → Option R) (h : acc.length + 1 ≤ Dl) :
  AJ b ((Dh (acc.length + ([x] : List Ak).length ≤ Dl)).bind fun _ => j (acc ++ [x])) (j acc) = j (acc ++ if b then [x] else []) := by
 cases b
 ·simp
 ·rw [AD, As (by simpa using h)]; rfl
theorem Pe (N : Nat) (m : Ac) (t : Av) (i u : Nat) (row : List Bool) (R : Int) (b1 b2 acc : List Ak) (j : List Ak × Bool → Option (List Ak))
  (hN : N ≤ 1000000) (h8 : 8 ≤ N) (hrow : row.length ≤ 6) (hacc : acc.length + 6 ≤ Dl) (hR0 : 0 ≤ R) (hR1 : R ≤ 255) (hRb : ∀ v, Cs R v = G4 m t.fj.toNat v) :
  BC N (b1, (i : Int)) t R (b2, (u : Int)) row j N (acc, false, 0) = j (acc ++ GU (gC i u m t) 0 row, Mw (hC m t) 0 row) := by
 have := HF (A := List Ak × Bool) (BC N (b1, (i : Int)) t R (b2, (u : Int)) row j) (fun a k => (a.1, a.2, k)) row (fun a => j a) (fun v ok s => (s.1 ++ gC i u m t v ok, s.2 || hC m t v ok))
  (fun v a => v ≤ row.length ∧ a.1.length ≤ acc.length + v)
  (fun n v ok a hx ha => by
   have hv := (lI.1 hx).1
   obtain ⟨c, f⟩ := a
   simp only at ha
   refine ⟨?_, by omega, ?_⟩
   ·rw [BC]
    simp only [A1]
    rw [AE (by omega), AZ, hx]
    simp only [oS]
    rw [As (by omega), Pc hR0 hR1 (by omega), hRb, AL (by omega), JI _ _ _ (fun l => BC N (b1, (i : Int)) t R (b2, (u : Int)) row j n (l, true, ((v + 1 : Nat) : Int))) (by omega)]
    unfold gC hC
    rw [JI _ _ _ (fun l => BC N (b1, (i : Int)) t R (b2, (u : Int)) row j n (l, ok, ((v + 1 : Nat) : Int))) (by omega)]
    cases G4 m t.fj.toNat v
    ·simp
    ·cases ok <;> cases f <;> cases t.fp <;> simp
   ·simp only [gC, List.length_append]
    split <;> simp <;> omega)
  (fun n a _ => by
   rw [BC]
   simp only [A1]
   rw [AC (by omega)]) N 0 (acc, false) (by omega) (by omega) ⟨by omega, by simp⟩
 have h2 := this.1
 rw [List.drop_zero, Ki, Bool.false_or] at h2
 exact h2
theorem LW {p : Ab} {t : Av} (hp : B0 p) (ht : LZ p t) : t.fq.length ≤ 6 ∧ ∀ row, row ∈ t.fq → row.length ≤ 6 := by
 have h1 := Jv hp.ver ht.from0.1 ht.from0.2
 have h2 := Jv hp.ver ht.to0.1 ht.to0.2
 have h3 := ht.okL
 exact ⟨by omega, fun row hr => by have := ht.okR row hr; omega⟩
theorem PU (i u : Nat) (m : Ac) (t : Av) (v : Nat) (ok : Bool) : (gC i u m t v ok).length ≤ 1 := by
 unfold gC; split <;> simp
theorem PY (i : Nat) (m : Ac) (t : Av) (u : Nat) (row : List Bool) (h : row.length ≤ 6) : (IH i m t u row).length ≤ 7 := by
 unfold IH
 rw [List.length_append]
 have := IA (g := gC i u m t) (c := 1) (i := 0) (xs := row) (fun j x _ => PU _ _ _ _ _ _)
 split <;> simp <;> omega
theorem PR (i : Nat) (m : Ac) (t : Av) (u : Nat) (row : List Bool) (h : row.length ≤ 6) : (if Rj m i t u = true then IH i m t u row else []).length ≤ 7 := by
 have := PY i m t u row h
 split <;> simp <;> omega
theorem LB {p : Ab} {t : Av} (hp : B0 p) (ht : LZ p t) (i : Nat) (m : Ac) : (IT m i t).length ≤ 42 := by
 have h1 := LW hp ht
 have := IA (g := fun u row => if Rj m i t u = true then IH i m t u row else []) (c := 7) (i := 0) (xs := t.fq) (fun j x hx => PR i m t _ x (h1.2 x (lM hx)))
 unfold IT
 omega
theorem KE (N : Nat) (p : Ab) (m : Ac) (t : Av) (i : Nat) (W R : Int) (b1 acc : List Ak) (j : List Ak → Option (List Ak))
  (hN : N ≤ 1000000) (h8 : 8 ≤ N) (hp : B0 p) (ht : LZ p t) (hacc : acc.length + 42 ≤ 10000) (hR0 : 0 ≤ R) (hR1 : R ≤ 255) (hRb : ∀ v, Cs R v = G4 m t.fj.toNat v) (hW0 : 0 ≤ W) (hW1 : W ≤ 255) (hWb : ∀ v, Cs W v = Rj m i t v) :
  BQ N (b1, (i : Int)) t R W j N (acc, 0) = j (acc ++ IT m i t) := by
 have hl := LW hp ht
 exact JD (BQ N (b1, (i : Int)) t R W j) (fun a k => (a, k)) t.fq j (fun u row => if Rj m i t u then IH i m t u row else []) 7 10000
  (fun u row hx => PR i m t u row (hl.2 row (lM hx)))
  (fun n u row a hx ha => by
   have hu := (lI.1 hx).1
   have hrow := hl.2 row (lM hx)
   rw [BQ]
   simp only [A1]
   rw [AE (by omega), As (by omega), Pc hW0 hW1 (by omega), hWb, AZ, hx]
   simp only [oS]
   rw [Pe N m t i u row R b1 a a _ hN h8 hrow (by unfold Dl; omega) hR0 hR1 hRb, AL (by omega)]
   cases hw : Rj m i t u
   ·simp
   ·simp only [Bool.not_true, Ao, if_true, IH]
    have h1 := IA (g := gC i u m t) (c := 1) (i := 0) (xs := row) (fun j x _ => PU _ _ _ _ _ _)
    have := JI (R := List Ak) (t.fp && !Mw (hC m t) 0 row) (a ++ GU (gC i u m t) 0 row) ⟨(i : Int), (u : Int), -1⟩ (fun l => BQ N (b1, (i : Int)) t R W j n (l, ((u + 1 : Nat) : Int))) (by rw [List.length_append]; unfold Dl; rw [hw, if_pos rfl] at ha; omega)
    rw [← List.append_assoc, ← this]
    cases t.fp <;> cases Mw (hC m t) 0 row <;> rfl)
  (fun n a => by
   rw [BQ]
   simp only [A1]
   rw [AC (by omega)]) N acc (by omega) (by omega)
theorem O4 (N : Nat) (p : Ab) (m : Ac) (t : Av) (i u : Nat) (row : List Bool) (b1 b2 acc : List Ak) (j : List Ak × Bool → Option (List Ak))
  (hN : N ≤ 1000000) (h8 : 8 ≤ N) (hp : B0 p) (hm : MixServ p m) (ht : LZ p t) (hu : t.fq[u]? = some row) (hacc : acc.length + 6 ≤ Dl) :
  A9 N p m (b1, (i : Int)) t (b2, (u : Int)) j N (acc, false, 0) = j (acc ++ GU (gC i u m t) 0 row, Mw (hC m t) 0 row) := by
 have hrow := (LW hp ht).2 row (lM hu)
 have hR := Hj hp hm (s := t.fj.toNat) (by have := ht.to0; omega)
 have hlen := ht.okR row (lM hu)
 have hto := ht.to0
 have := HF (A := List Ak × Bool) (A9 N p m (b1, (i : Int)) t (b2, (u : Int)) j) (fun a k => (a.1, a.2, k)) row (fun a => j a) (fun v ok s => (s.1 ++ gC i u m t v ok, s.2 || hC m t v ok))
  (fun v a => v ≤ row.length ∧ a.1.length ≤ acc.length + v)
  (fun n v ok a hx ha => by
   have hv := (lI.1 hx).1
   obtain ⟨c, f⟩ := a
   simp only at ha
   refine ⟨?_, by omega, ?_⟩
   ·rw [A9]
    simp only [A1]
    rw [DY (d := 0) hto.1 hto.2, HU N m t.fj hto.1 (by rw [hm.base]; exact hto.2) (by rw [hm.next]; exact hto.2) (hm.b0 _ (by omega)).1, AZ, hu]
    simp only [oS]
    unfold BV
    rw [AE (by omega), AZ, hx, As (by omega), Pt hR.2.1 hR.2.2 (by omega), hR.1]
    simp only [oS]
    rw [AL (by omega), JI _ _ _ (fun l => A9 N p m (b1, (i : Int)) t (b2, (u : Int)) j n (l, true, ((v + 1 : Nat) : Int))) (by omega)]
    unfold gC hC
    rw [JI _ _ _ (fun l => A9 N p m (b1, (i : Int)) t (b2, (u : Int)) j n (l, ok, ((v + 1 : Nat) : Int))) (by omega)]
    cases G4 m t.fj.toNat v
    ·simp
    ·cases ok <;> cases f <;> cases t.fp <;> simp
   ·simp only [gC, List.length_append]
    split <;> simp <;> omega)
  (fun n a _ => by
   rw [A9]
   simp only [A1]
   rw [DY (d := 0) hto.1 hto.2]
   simp only [oS]
   rw [AC (by omega)]) N 0 (acc, false) (by omega) (by omega) ⟨by omega, by simp⟩
 have h2 := this.1
 rw [List.drop_zero, Ki, Bool.false_or] at h2
 exact h2
theorem Kn (N : Nat) (p : Ab) (m : Ac) (t : Av) (i : Nat) (W : Int) (b1 acc : List Ak) (j : List Ak → Option (List Ak))
  (hN : N ≤ 1000000) (h8 : 8 ≤ N) (hp : B0 p) (hm : MixServ p m) (ht : LZ p t) (hacc : acc.length + 42 ≤ 10000) (hW0 : 0 ≤ W) (hW1 : W ≤ 255) (hWb : ∀ v, Cs W v = Rj m i t v) :
  Bm N p m (b1, (i : Int)) t W j N (acc, 0) = j (acc ++ IT m i t) := by
 have hl := LW hp ht
 have hfr := ht.from0
 have hok := ht.okL
 exact JD (Bm N p m (b1, (i : Int)) t W j) (fun a k => (a, k)) t.fq j (fun u row => if Rj m i t u then IH i m t u row else []) 7 10000
  (fun u row hx => PR i m t u row (hl.2 row (lM hx)))
  (fun n u row a hx ha => by
   have hu := (lI.1 hx).1
   have hrow := hl.2 row (lM hx)
   rw [Bm]
   simp only [A1]
   rw [DY (d := 0) hfr.1 hfr.2]
   simp only [oS]
   unfold BV
   rw [AE (by omega), As (by omega), Pt hW0 hW1 (by omega), hWb]
   simp only [oS]
   rw [O4 N p m t i u row b1 a a _ hN h8 hp hm ht hx (by unfold Dl; omega), AL (by omega)]
   cases hw : Rj m i t u
   ·simp
   ·simp only [Bool.not_true, Ao, if_true, IH]
    have h1 := IA (g := gC i u m t) (c := 1) (i := 0) (xs := row) (fun j x _ => PU _ _ _ _ _ _)
    have := JI (R := List Ak) (t.fp && !Mw (hC m t) 0 row) (a ++ GU (gC i u m t) 0 row) ⟨(i : Int), (u : Int), -1⟩ (fun l => Bm N p m (b1, (i : Int)) t W j n (l, ((u + 1 : Nat) : Int))) (by rw [List.length_append]; unfold Dl; rw [hw, if_pos rfl] at ha; omega)
    rw [← List.append_assoc, ← this]
    cases t.fp <;> cases Mw (hC m t) 0 row <;> rfl)
  (fun n a => by
   rw [Bm]
   simp only [A1]
   rw [DY (d := 0) hfr.1 hfr.2]
   simp only [oS]
   rw [AC (by omega)]) N acc (by omega) (by omega)
theorem Li (N : Nat) (p : Ab) (m : Ac) (hN : N ≤ 1000000) (h20 : 20 ≤ N) (hp : B0 p) (hm : CZ p m) : EG N p m = some (F9 p m) := by
 unfold EG
 have hnt := hp.nt
 rw [JD (CH N p m _) (fun a k => (a, k)) p.fe some (IT m) 42 9000
  (fun i t hx => LB hp (Jo (hp.tab t (lM hx))) i m)
  (fun n i t a hx ha => by
   have hi := (lI.1 hx).1
   have ht := Jo (hp.tab t (lM hx))
   have hto := ht.to0
   have hfr := ht.from0
   have hR := Hj hp hm.toMixServ (s := t.fj.toNat) (by omega)
   have hF := Hj hp hm.toMixServ (s := t.fg.toNat) (by omega)
   have hH := hm.range i hi
   rw [CH]
   simp only [A1]
   rw [AE (by omega), AZ, hx]
   simp only [oS, JY]
   rw [Kh N m t.fg hfr.1 (by rw [hm.base]; exact hfr.2) (by rw [hm.next]; exact hfr.2) (hm.b0 _ (by omega)).1, Kh N m t.fj hto.1 (by rw [hm.base]; exact hto.2) (by rw [hm.next]; exact hto.2) (hm.b0 _ (by omega)).1, CN (d := 0) (by rw [hm.held]; exact hi), AL (by omega)]
   simp only [oS]
   cases hs : Bp t
   ·rw [Ao, KE N p m t i _ _ a a _ hN (by omega) hp ht (by omega) hR.2.1 hR.2.2 hR.1 hF.2.1 hF.2.2 (fun v => by unfold Rj; rw [hs, hF.1]; rfl)]
   ·rw [AD, KE N p m t i _ _ a a _ hN (by omega) hp ht (by omega) hR.2.1 hR.2.2 hR.1 hH.1 hH.2 (fun v => by unfold Rj; rw [hs]; rfl)])
  (fun n a => by
   rw [CH]
   simp only [A1]
   rw [AC (by omega)]) N [] (by omega) (by simp; omega)]
 rfl
theorem Lc (N : Nat) (p : Ab) (m : Ac) (hN : N ≤ 1000000) (h20 : 20 ≤ N) (hp : B0 p) (hm : CZ p m) : DN N p m = some (F9 p m) := by
 unfold DN
 have hnt := hp.nt
 rw [JD (B1 N p m _) (fun a k => (a, k)) p.fe some (IT m) 42 9000
  (fun i t hx => LB hp (Jo (hp.tab t (lM hx))) i m)
  (fun n i t a hx ha => by
   have hi := (lI.1 hx).1
   have ht := Jo (hp.tab t (lM hx))
   have hto := ht.to0
   have hfr := ht.from0
   have hF := Hj hp hm.toMixServ (s := t.fg.toNat) (by omega)
   have hH := hm.range i hi
   rw [B1]
   simp only [A1]
   rw [AE (by omega), AZ, hx]
   simp only [oS, E4]
   rw [HU N m t.fg hfr.1 (by rw [hm.base]; exact hfr.2) (by rw [hm.next]; exact hfr.2) (hm.b0 _ (by omega)).1, CN (d := 0) (by rw [hm.held]; exact hi), AL (by omega)]
   simp only [oS]
   cases hs : Bp t
   ·rw [Ao, Kn N p m t i _ a a _ hN (by omega) hp hm.toMixServ ht (by omega) hF.2.1 hF.2.2 (fun v => by unfold Rj; rw [hs, hF.1]; rfl)]
   ·rw [AD, Kn N p m t i _ a a _ hN (by omega) hp hm.toMixServ ht (by omega) hH.1 hH.2 (fun v => by unfold Rj; rw [hs]; rfl)])
  (fun n a => by
   rw [B1]
   simp only [A1]
   rw [AC (by omega)]) N [] (by omega) (by simp; omega)]
 rfl
theorem Fx {A S R : Type} (L : Nat → S → Option R) (mk : A → Int → S) (len : Nat) (j : A → Option R) (I : Nat → A → Prop)
  (hs : ∀ (n i : Nat) (a : A), i < len → I i a → ∃ a', L (n + 1) (mk a (i : Int)) = L n (mk a' ((i + 1 : Nat) : Int)) ∧ I (i + 1) a')
  (he : ∀ (n : Nat) (a : A), I len a → L (n + 1) (mk a (len : Int)) = j a) :
  ∀ (n i : Nat) (a : A), i ≤ len → len - i < n → I i a → ∃ a', L n (mk a (i : Int)) = j a' ∧ I len a'
 | 0, i, _, _, h, _ => by omega
 | n + 1, i, a, hi, h, ha => by
  by_cases h1 : i < len
  ·obtain ⟨a', e1, e2⟩ := hs n i a h1 ha
   rw [e1]
   exact Fx L mk len j I hs he n (i + 1) _ (by omega) (by omega) e2
  ·have : i = len := by omega
   subst this
   exact ⟨a, he n a ha, ha⟩
theorem Ig {α : Type} {xs ys : List α} {i : Nat} {d : α} (h : i < xs.length) : (xs ++ ys).getD i d = xs.getD i d := by
 rw [lD, lD, List.getElem?_append_left h]
theorem Ib {α : Type} {xs : List α} {y : α} {i : Nat} {d : α} (h : i = xs.length) : (xs ++ [y]).getD i d = y := by
 subst h; rw [lD, List.getElem?_append_right (Nat.le_refl _)]; simp
theorem Fs {α : Type} {P : Nat → α → Prop} {xs : List α} {y : α} {d : α} {n : Nat} (hn : xs.length = n) (h : ∀ k, k < n → P k (xs.getD k d)) (hy : P n y) : ∀ k, k < n + 1 → P k ((xs ++ [y]).getD k d) := by
 intro k hk
 by_cases h1 : k < n
 ·rw [Ig (by omega)]; exact h k h1
 ·have : k = n := by omega
  subst this
  rw [Ib hn.symm]; exact hy
theorem QI (x : BitVec 8) : wI .u8 (x.toNat : Int) = (x.toNat : Int) := by
 have := x.isLt
 simp [wI, IntKind.signed, IntKind.bits]
 omega
theorem RI {a : Int} (h : 0 ≤ a ∧ a ≤ 255) : wI .u8 a = a := by
 simp [wI, IntKind.signed, IntKind.bits]
 omega
theorem IM {a : Nat} (h : a < 256) (i : Nat) : (BitVec.ofInt 8 (a : Int)).toNat.testBit i = a.testBit i := by rw [QS h]
theorem Ti {a b : Int} (ha : 0 ≤ a ∧ a ≤ 255) (hb : 0 ≤ b ∧ b ≤ 255) : (∀ v, Cs (KX .u8 a b) v = (Cs a v || Cs b v)) ∧ 0 ≤ KX .u8 a b ∧ KX .u8 a b ≤ 255 := by
 obtain ⟨a, rfl⟩ := Int.eq_ofNat_of_zero_le ha.1
 obtain ⟨b, rfl⟩ := Int.eq_ofNat_of_zero_le hb.1
 have e : KX .u8 (a : Int) (b : Int) = ((BitVec.ofInt 8 (a : Int) ||| BitVec.ofInt 8 (b : Int)).toNat : Int) := QI _
 have hlt := (BitVec.ofInt 8 (a : Int) ||| BitVec.ofInt 8 (b : Int)).isLt
 rw [e]
 refine ⟨fun v => ?_, by omega, by omega⟩
 unfold Cs
 simp only [Int.toNat_natCast, BitVec.toNat_or, Nat.testBit_or]
 rw [IM (by omega), IM (by omega)]
theorem RG {a b : Int} (ha : 0 ≤ a ∧ a ≤ 255) (hb : 0 ≤ b ∧ b ≤ 255) : (∀ v, Cs (EN .u8 a b) v = (Cs a v && Cs b v)) ∧ 0 ≤ EN .u8 a b ∧ EN .u8 a b ≤ 255 := by
 obtain ⟨a, rfl⟩ := Int.eq_ofNat_of_zero_le ha.1
 obtain ⟨b, rfl⟩ := Int.eq_ofNat_of_zero_le hb.1
 have e : EN .u8 (a : Int) (b : Int) = ((BitVec.ofInt 8 (a : Int) &&& BitVec.ofInt 8 (b : Int)).toNat : Int) := QI _
 have hlt := (BitVec.ofInt 8 (a : Int) &&& BitVec.ofInt 8 (b : Int)).isLt
 rw [e]
 refine ⟨fun v => ?_, by omega, by omega⟩
 unfold Cs
 simp only [Int.toNat_natCast, BitVec.toNat_and, Nat.testBit_and]
 rw [IM (by omega), IM (by omega)]
theorem JS {l : List Int} (hw : JA IE l) (i : Nat) : 0 ≤ l.getD i 0 ∧ l.getD i 0 ≤ 255 := by
 by_cases h : i < l.length
 ·have : l.getD i 0 ∈ l := by rw [lD, List.getElem?_eq_getElem h]; exact List.getElem_mem _
  exact HZ (hw _ this)
 ·rw [lD, List.getElem?_eq_none (by omega)]
  exact ⟨by decide, by decide⟩
theorem K1 (N : Nat) {l : List Int} (hw : JA IE l) (i : Nat) : CM N l (i : Int) = some (l.getD i 0) := by
 unfold CM
 have h2 := JS hw i
 by_cases h : i < l.length
 ·rw [AE (by omega), CN (d := 0) h]
  simp only [oS]
  rw [DA (by omega) (by omega)]
 ·rw [AC (by omega), lD, List.getElem?_eq_none (by omega)]; rfl
theorem NB (N : Nat) {l : List Int} (hw : JA IE l) (i : Nat) : Dk N l (i : Int) = some (l.getD i 0) := by
 unfold Dk
 have h2 := JS hw i
 by_cases h : i < l.length
 ·rw [AE (by omega), CN (d := 0) h]
  simp only [oS]
  rw [DA (by omega) (by omega)]
 ·rw [AC (by omega), lD, List.getElem?_eq_none (by omega)]; rfl
def Ux (n b : Int) : Int := Int.tmod b n
def UA (n b k : Int) : Int := if 0 < Int.tmod k n then Int.tmod (Int.tmod b n + Int.tmod k n) n else -1
theorem Ec {a n : Int} (ha : 0 ≤ a) (hn : 0 < n) : 0 ≤ Int.tmod a n ∧ Int.tmod a n < n := ⟨Int.tmod_nonneg n ha, Int.tmod_lt_of_pos a hn⟩
theorem RV {n b k : Int} (hn : 0 < n) (hb : 0 ≤ b) (hk : 0 ≤ k) : (0 ≤ Ux n b ∧ Ux n b < n) ∧ (-1 ≤ UA n b k ∧ UA n b k < n) ∧ Ux n b ≠ UA n b k := by
 unfold Ux UA
 have h1 := Ec hb hn
 have h2 := Ec hk hn
 split
 ·rename_i h
  have h3 := Ec (a := Int.tmod b n + Int.tmod k n) (by omega) hn
  refine ⟨h1, by omega, fun he => ?_⟩
  generalize Int.tmod b n = x at *
  generalize Int.tmod k n = y at *
  rw [Int.tmod_eq_emod_of_nonneg (by omega)] at he
  by_cases hxy : x + y < n
  ·rw [Int.emod_eq_of_lt (by omega) hxy] at he; omega
  ·have : (x + y) % n = x + y - n := by
    rw [← Int.emod_eq_of_lt (show 0 ≤ x + y - n by omega) (show x + y - n < n by omega)]
    simp
   omega
 ·exact ⟨h1, by omega, by omega⟩
structure Wk (p : Ab) (x : Bk) (m : Ac) : Prop where
 bl : m.fd.length = p.fb.length
 nl : m.fa.length = p.fb.length
 hl : m.fc.length = p.fe.length
 b : ∀ k, k < p.fb.length → m.fd.getD k 0 = Ux (p.fb.getD k 0) (x.fd.getD k 0)
 n : ∀ k, k < p.fb.length → m.fa.getD k 0 = UA (p.fb.getD k 0) (x.fd.getD k 0) (x.fa.getD k 0)
 r : ∀ k, k < p.fe.length → 0 ≤ m.fc.getD k 0 ∧ m.fc.getD k 0 ≤ 255
 s : ∀ k t, p.fe[k]? = some t → Bp t = true → ∀ v, Cs (m.fc.getD k 0) v = (G4 m t.fg.toNat v || (Cs (x.fc.getD k 0) v && decide ((v : Int) < p.fb.getD t.fg.toNat 0)))
 z : ∀ k t, p.fe[k]? = some t → Bp t = false → m.fc.getD k 0 = 0
def RP (p : Ab) (x : Bk) (bs ns : List Int) (k : Nat) (y : Int) : Prop :=
 ∀ t, p.fe[k]? = some t → Bp t = true → ∀ v, Cs y v = (G4 ⟨bs, ns, []⟩ t.fg.toNat v || (Cs (x.fc.getD k 0) v && decide ((v : Int) < p.fb.getD t.fg.toNat 0)))
def Sn (p : Ab) (k : Nat) (y : Int) : Prop := ∀ t, p.fe[k]? = some t → Bp t = false → y = 0
theorem Xo (N : Nat) (p : Ab) (x : Bk) (hN : N ≤ 1000000) (h20 : 20 ≤ N) (hp : B0 p) (hw : En x) : ∃ m, DR N p x = some m ∧ Wk p x m ∧ CZ p m := by
 obtain ⟨w1, w2, w3, _⟩ := hw
 have hnv := hp.nv
 have hnt := hp.nt
 unfold DR
 obtain ⟨⟨bs, ns⟩, e, h1, h2, h3, h4⟩ := Fx (A := List Int × List Int) (B4 N p x fun v2 => A4 N p x v2 (fun v15 => some (Ac.mk v2.1 v2.2 v15)) N ([], 0)) (fun a k => (a.1, a.2, k)) p.fb.length
  (fun v2 => A4 N p x v2 (fun v15 => some (Ac.mk v2.1 v2.2 v15)) N ([], 0))
  (fun i a => a.1.length = i ∧ a.2.length = i ∧ (∀ k, k < i → a.1.getD k 0 = Ux (p.fb.getD k 0) (x.fd.getD k 0)) ∧ (∀ k, k < i → a.2.getD k 0 = UA (p.fb.getD k 0) (x.fd.getD k 0) (x.fa.getD k 0)))
  (fun n i a hi ha => by
   obtain ⟨bs, ns⟩ := a
   obtain ⟨h1, h2, h3, h4⟩ := ha
   simp only at h1 h2 h3 h4
   have hv := HQ hp hi
   have hb := JS w1 i
   have hk := JS w2 i
   have m1 := Ec (n := p.fb.getD i 0) hb.1 (by omega)
   have m2 := Ec (n := p.fb.getD i 0) hk.1 (by omega)
   refine ⟨(bs ++ [Ux (p.fb.getD i 0) (x.fd.getD i 0)], ns ++ [UA (p.fb.getD i 0) (x.fd.getD i 0) (x.fa.getD i 0)]), ?_, ?_⟩
   ·rw [B4]
    simp only [A1]
    rw [AE (by omega), CN (d := 0) hi, K1 N w1, K1 N w2]
    simp only [oS]
    rw [As (by omega), AL (by omega), DA (n := _ + _) (by omega) (by omega)]
    simp only [As (show p.fb.getD i 0 ≠ 0 by omega)]
    have l1 : bs.length + ([Int.tmod (x.fd.getD i 0) (p.fb.getD i 0)] : List Int).length ≤ Dl := by rw [h1]; unfold Dl; simp; omega
    have l2 : ∀ y : Int, ns.length + ([y] : List Int).length ≤ Dl := by intro y; rw [h2]; unfold Dl; simp; omega
    simp only [As l1, As (l2 _)]
    unfold Ux UA
    by_cases h : 0 < Int.tmod (x.fa.getD i 0) (p.fb.getD i 0)
    ·rw [AE h, if_pos h]
    ·rw [AC h, if_neg h]
   ·refine ⟨by simp [h1], by simp [h2], Fs (P := fun k y => y = _) h1 h3 rfl, Fs (P := fun k y => y = _) h2 h4 rfl⟩)
  (fun n a _ => by
   rw [B4]
   simp only [A1]
   rw [AC (by omega)]) N 0 ([], []) (Nat.zero_le _) (by omega) ⟨rfl, rfl, fun k hk => by omega, fun k hk => by omega⟩
 simp only at h1 h2 h3 h4
 have e' : B4 N p x (fun v2 => A4 N p x v2 (fun v15 => some (Ac.mk v2.1 v2.2 v15)) N ([], 0)) N ([], [], 0) = _ := e
 rw [e']
 have hrng : ∀ k, k < p.fb.length → (0 ≤ bs.getD k 0 ∧ bs.getD k 0 < p.fb.getD k 0) ∧ (-1 ≤ ns.getD k 0 ∧ ns.getD k 0 < p.fb.getD k 0) ∧ bs.getD k 0 ≠ ns.getD k 0 := by
  intro k hk
  rw [h3 k hk, h4 k hk]
  exact RV (by have := HQ hp hk; omega) (JS w1 k).1 (JS w2 k).1
 obtain ⟨hs, e2, g1, g2, g3, g4⟩ := Fx (A := List Int) (A4 N p x (bs, ns) (fun v15 => some (Ac.mk bs ns v15))) (fun a k => (a, k)) p.fe.length (fun v15 => some (Ac.mk bs ns v15))
  (fun i a => a.length = i ∧ (∀ k, k < i → 0 ≤ a.getD k 0 ∧ a.getD k 0 ≤ 255) ∧
   (∀ k, k < i → RP p x bs ns k (a.getD k 0)) ∧
   (∀ k, k < i → Sn p k (a.getD k 0)))
  (fun n i a hi ha => by
   obtain ⟨k1, k2, k3, k4⟩ := ha
   have hx : p.fe[i]? = some p.fe[i] := by simp [hi]
   generalize p.fe[i] = t at hx
   have ht := Jo (hp.tab t (lM hx))
   have hfr := ht.from0
   have hv := HQ hp (i := t.fg.toNat) (by omega)
   have hr := hrng t.fg.toNat (by omega)
   have hrun := OO (m := ⟨bs, ns, a⟩) (s := t.fg.toNat) hr.1.1 (show bs.getD _ 0 < 8 by omega) (show ns.getD _ 0 < 8 by omega)
   have hall := Q0 (n := p.fb.getD t.fg.toNat 0) (by omega) (by omega)
   have hh := JS w3 i
   have e1 := RG hh hall.2
   have e2 := Ti hrun.2 e1.2
   cases hst : Bp t
   ·refine ⟨a ++ [0], ?_, by simp [k1], Fs (P := fun _ y => 0 ≤ y ∧ y ≤ 255) k1 k2 (by omega), Fs (P := RP p x bs ns) k1 k3 (fun t' ht' hs' => by rw [hx] at ht'; cases ht'; rw [hst] at hs'; cases hs'), Fs (P := Sn p) k1 k4 (fun _ _ _ => rfl)⟩
    rw [A4]
    simp only [A1]
    rw [AE (by omega), AZ, hx]
    simp only [oS, E4, hst, Ao]
    rw [As (by rw [k1]; unfold Dl; simp; omega), AL (by omega)]
   ·refine ⟨a ++ [KX .u8 (FG ⟨bs, ns, a⟩ t.fg.toNat) (EN .u8 (x.fc.getD i 0) (wI .u8 (C7 .u8 1 (p.fb.getD t.fg.toNat 0) - 1)))], ?_, by simp [k1], Fs (P := fun _ y => 0 ≤ y ∧ y ≤ 255) k1 k2 e2.2, Fs (P := RP p x bs ns) k1 k3 (fun t' ht' _ v => by
      rw [hx] at ht'; cases ht'
      rw [e2.1, e1.1, hall.1, hrun.1]; rfl), Fs (P := Sn p) k1 k4 (fun t' ht' hs' => by rw [hx] at ht'; cases ht'; rw [hst] at hs'; cases hs')⟩
    rw [A4]
    simp only [A1]
    rw [AE (by omega), AZ, hx]
    simp only [oS, E4, hst, AD]
    rw [DY (d := 0) hfr.1 hfr.2]
    simp only [oS]
    rw [As (by omega), HU N ⟨bs, ns, a⟩ t.fg hfr.1 (show _ < (bs.length : Int) by omega) (show _ < (ns.length : Int) by omega) hr.1.1, K1 N w3]
    simp only [oS]
    rw [As (by rw [k1]; unfold Dl; simp; omega), AL (by omega), RI hh])
  (fun n a _ => by
   rw [A4]
   simp only [A1]
   rw [AC (by omega)]) N 0 [] (Nat.zero_le _) (by omega) ⟨rfl, fun k hk => by omega, fun k hk => by omega, fun k hk => by omega⟩
 have e2' : A4 N p x (bs, ns) (fun v15 => some (Ac.mk bs ns v15)) N ([], 0) = _ := e2
 refine ⟨⟨bs, ns, hs⟩, e2', ⟨h1, h2, g1, h3, h4, g2, fun k t ht hst => g3 k (lI.1 ht).1 t ht hst, fun k t ht hst => g4 k (lI.1 ht).1 t ht hst⟩, ?_⟩
 refine ⟨⟨h1, h2, g1, fun i hi => (hrng i hi).1, fun i hi => (hrng i hi).2.1, fun i hi => (hrng i hi).2.2⟩, g2, ?_, ?_, fun k t ht hst => g4 k (lI.1 ht).1 t ht hst⟩
 ·intro k t ht hst v hv
  rw [g3 k (lI.1 ht).1 t ht hst v]
  rw [show G4 ⟨bs, ns, []⟩ t.fg.toNat v = true from hv]; rfl
 ·intro k t ht hst v hv
  have hin := (Jo (hp.tab t (lM ht))).from0
  have hr := hrng t.fg.toNat (by omega)
  have hv : Cs (hs.getD k 0) v = true := hv
  rw [g3 k (lI.1 ht).1 t ht hst v] at hv
  simp only [Bool.or_eq_true, Bool.and_eq_true, decide_eq_true_eq, G4] at hv
  rcases hv with (h | h) | h
  ·omega
  ·omega
  ·exact h.2
theorem Un {l : List (List Bool)} {n m : Int} (h1 : (l.length : Int) = n) (h2 : ∀ row, row ∈ l → (row.length : Int) = m) : sq l n m = true := by
 unfold sq
 simp only [Bool.and_eq_true, decide_eq_true_eq, List.all_eq_true]
 exact ⟨h1, h2⟩
theorem Vm {p : Ab} {t : Av} (h : LZ p t) : Dp p t = 0 := by
 have hk := h.kind
 have hf := h.from0
 have ht := h.to0
 unfold Dp
 rw [if_neg, if_neg (by omega)]
 ·simp only [Un h.okL h.okR]
  rw [if_neg (by simp)]
  by_cases h4 : t.ff = 4
  ·rw [if_pos h4, Un (h.reL h4) h.reR, if_neg (by simp), h.reD h4]; rfl
  ·rw [if_neg h4, h.reN h4]; rfl
 ·rintro (h1 | h1 | ⟨h1, h2⟩)
  ·omega
  ·omega
  ·have := h.aware h1
   unfold Bp at this
   rw [Bool.or_eq_false_iff, beq_eq_false_iff_ne, beq_eq_false_iff_ne] at this
   omega
theorem RO (N : Nat) (m bad : Int) (diag : Bool) (i : Nat) (acc : List (List Bool)) {_R : Type} (j : List Bool → Option (List (List Bool))) (hN : N ≤ 1000000) (h20 : 20 ≤ N) (hm : 0 ≤ m ∧ m ≤ 6) (hi : i < 6) :
  ∃ row, BR N m bad diag (acc, (i : Int)) j N ([], 0) = j row ∧ (row.length : Int) = m ∧ (diag = true → (i : Int) < m → row.getD i false = true) := by
 obtain ⟨M, rfl⟩ := Int.eq_ofNat_of_zero_le hm.1
 obtain ⟨row, e, h1, h2⟩ := Fx (A := List Bool) (BR N (M : Int) bad diag (acc, (i : Int)) j) (fun a k => (a, k)) M j
  (fun k a => a.length = k ∧ ∀ q, q < k → diag = true → q = i → a.getD q false = true)
  (fun n k a hk ha => by
   refine ⟨a ++ [(diag && decide (i = k)) || (Int.tmod (EO .u16 bad ((3 * i + k : Nat) : Int)) 2 == 0)], ?_, by simp [ha.1], Fs (P := fun q y => diag = true → q = i → y = true) ha.1 ha.2 (fun h1 h2 => by simp [h1, h2])⟩
   rw [BR]
   simp only [A1]
   rw [AE (by omega), AL (by omega), DA (n := 3 * (i : Int)) (by omega) (by omega), DA (n := 3 * (i : Int) + (k : Int)) (by omega) (by omega)]
   have l1 : ∀ y : Bool, a.length + ([y] : List Bool).length ≤ Dl := by intro y; rw [ha.1]; unfold Dl; simp; omega
   simp only [As (l1 _), As (show (0 : Int) ≤ 3 * (i : Int) + (k : Int) by omega)]
   have e1 : ((3 * i + k : Nat) : Int) = 3 * (i : Int) + (k : Int) := by omega
   rw [e1]
   have e2 : (((i : Nat) : Int) == ((k : Nat) : Int)) = decide (i = k) := by
    by_cases h : i = k
    ·simp [h]
    ·rw [decide_eq_false h]; exact beq_eq_false_iff_ne.2 (by omega)
   rw [e2]
   cases diag <;> cases decide (i = k) <;> rfl)
  (fun n a _ => by
   rw [BR]
   simp only [A1]
   rw [AC (by omega)]) N 0 [] (Nat.zero_le _) (by omega) ⟨rfl, fun q hq => by omega⟩
 exact ⟨row, e, by omega, fun hd hlt => h2 i (by omega) hd rfl⟩
theorem Qu (N : Nat) (n m bad : Int) (diag : Bool) (hN : N ≤ 1000000) (h20 : 20 ≤ N) (hn : 0 ≤ n ∧ n ≤ 6) (hm : 0 ≤ m ∧ m ≤ 6) :
  ∃ l, Dg N n m bad diag = some l ∧ (l.length : Int) = n ∧ (∀ row, row ∈ l → (row.length : Int) = m) ∧ (diag = true → n = m → HS l = none) := by
 obtain ⟨M, rfl⟩ := Int.eq_ofNat_of_zero_le hn.1
 unfold Dg
 obtain ⟨l, e, h1, h2⟩ := Fx (A := List (List Bool)) (BP N (M : Int) m bad diag (fun v => some v)) (fun a k => (a, k)) M some
  (fun k a => a.length = k ∧ ∀ q, q < k → (((a.getD q []).length : Nat) : Int) = m ∧ (diag = true → (q : Int) < m → (a.getD q []).getD q false = true))
  (fun n k a hk ha => by
   obtain ⟨row, e, h1, h2⟩ := RO (_R := Unit) N m bad diag k a (fun (v5 : List Bool) =>
    (Dh (a.length + (([v5] : List (List Bool))).length ≤ Dl)).bind fun _ =>
    BP N (M : Int) m bad diag (fun v => some v) n (a ++ (([v5] : List (List Bool))), (wI .i64 ((k : Int) + 1)))) hN h20 hm (by omega)
   refine ⟨a ++ [row], ?_, by simp [ha.1], Fs (P := fun q y => ((y.length : Nat) : Int) = m ∧ (diag = true → (q : Int) < m → y.getD q false = true)) ha.1 ha.2 ⟨h1, h2⟩⟩
   rw [BP]
   simp only
   rw [AE (by omega), e, As (by rw [ha.1]; unfold Dl; simp; omega), AL (by omega)])
  (fun n a _ => by
   rw [BP]
   simp only
   rw [AC (by omega)]) N 0 [] (Nat.zero_le _) (by omega) ⟨rfl, fun q hq => by omega⟩
 have key : ∀ q row, l[q]? = some row → l.getD q [] = row := fun q row hq => by rw [lD, hq]; rfl
 refine ⟨l, e, by omega, fun row hr => ?_, fun hd hnm => ?_⟩
 ·obtain ⟨q, hq⟩ := List.mem_iff_getElem?.1 hr
  have := (h2 q (by have := (lI.1 hq).1; omega)).1
  rwa [key q row hq] at this
 ·unfold HS
  refine ET fun q row hq => ?_
  have hlt := (lI.1 hq).1
  have := (h2 q (by omega)).2 hd (by omega)
  rw [key q row hq] at this
  rw [Nat.zero_add, this]; rfl
structure RF (p : Ab) : Prop where
 valid : CK p = 0
 nv : p.fb.length ≤ 3
 nt : p.fe.length ≤ 4
 v3 : ∀ v, v ∈ p.fb → v ≤ 3
theorem Rc {p q : Ab} (h : p.fb = q.fb) (t : Av) : Dp p t = Dp q t := by
 unfold Dp; rw [h]
theorem XF (N : Nat) (d : BF) (hN : N ≤ 1000000) (h20 : 20 ≤ N) (hw : Ek d) : ∃ p ok, DT N d = some (p, ok) ∧ (ok = true → RF p) := by
 obtain ⟨w1, w2, w3, w4, _⟩ := hw
 unfold DT
 simp only [A1]
 by_cases k1 : 3 < d.fb.length
 ·rw [AE (by omega)]; exact ⟨_, false, rfl, fun h => by cases h⟩
 by_cases k2 : 4 < d.fr.length
 ·rw [AC (by omega), decide_eq_true (by omega : (4 : Int) < (d.fr.length : Int))]; exact ⟨_, false, rfl, fun h => by cases h⟩
 rw [AC (by omega), decide_eq_false (by omega : ¬ (4 : Int) < (d.fr.length : Int)), Ao]
 obtain ⟨⟨vs, ns, ts⟩, e, h1, h2, h3, h4⟩ := Fx (A := List Int × List Int × List Int) (B5 N d fun v5 => Bi N d v5 (fun v16 => some (Ab.mk v5.1 v5.2.1 v5.2.2 v16, true)) N ([], 0)) (fun a k => (a.1, a.2.1, a.2.2, k)) d.fb.length
  (fun v5 => Bi N d v5 (fun v16 => some (Ab.mk v5.1 v5.2.1 v5.2.2 v16, true)) N ([], 0))
  (fun i a => a.1.length = i ∧ a.2.1.length = i ∧ a.2.2.length = i ∧ (∀ k, k < i → (1 ≤ a.1.getD k 0 ∧ a.1.getD k 0 ≤ 3) ∧ (0 ≤ a.2.1.getD k 0 ∧ a.2.1.getD k 0 < a.1.getD k 0) ∧ (0 ≤ a.2.2.getD k 0 ∧ a.2.2.getD k 0 < a.1.getD k 0)))
  (fun n i a hi ha => by
   obtain ⟨vs, ns, ts⟩ := a
   obtain ⟨h1, h2, h3, h4⟩ := ha
   simp only at h1 h2 h3 h4
   have hv := JS w1 i
   have hb := JS w2 i
   have hk := JS w3 i
   have hm := Ec (n := 3) hv.1 (by omega)
   obtain ⟨v, hvd⟩ : ∃ v, v = 1 + Int.tmod (d.fb.getD i 0) 3 := ⟨_, rfl⟩
   have m1 := Ec (n := v) hb.1 (by omega)
   have m2 := Ec (n := v) hk.1 (by omega)
   refine ⟨(vs ++ [v], ns ++ [Int.tmod (d.fm.getD i 0) v], ts ++ [Int.tmod (d.fo.getD i 0) v]), ?_, by simp [h1], by simp [h2], by simp [h3], ?_⟩
   ·rw [B5]
    simp only
    rw [AE (by omega), CN (d := 0) hi, NB N w2, NB N w3]
    simp only [oS]
    rw [DA (n := Int.tmod _ _) (by omega) (by omega), DA (n := 1 + _) (by omega) (by omega), ← hvd, AL (by omega)]
    have l1 : ∀ y : Int, vs.length + ([y] : List Int).length ≤ Dl := by intro y; rw [h1]; unfold Dl; simp; omega
    have l2 : ∀ y : Int, ns.length + ([y] : List Int).length ≤ Dl := by intro y; rw [h2]; unfold Dl; simp; omega
    have l3 : ∀ y : Int, ts.length + ([y] : List Int).length ≤ Dl := by intro y; rw [h3]; unfold Dl; simp; omega
    simp only [As (l1 _), As (l2 _), As (l3 _), As (show v ≠ 0 by omega)]
   ·intro k hk
    simp only
    by_cases hki : k < i
    ·rw [Ig (by omega), Ig (by omega), Ig (by omega)]; exact h4 k hki
    ·have : k = i := by omega
     subst this
     rw [Ib h1.symm, Ib h2.symm, Ib h3.symm]
     omega)
  (fun n a _ => by
   rw [B5]
   simp only
   rw [AC (by omega)]) N 0 ([], [], []) (Nat.zero_le _) (by omega) ⟨rfl, rfl, rfl, fun k hk => by omega⟩
 simp only at h1 h2 h3 h4
 have e' : B5 N d (fun v5 => Bi N d v5 (fun v16 => some (Ab.mk v5.1 v5.2.1 v5.2.2 v16, true)) N ([], 0)) N ([], [], [], 0) = _ := e
 rw [e']
 have hvs : ∀ v, v ∈ vs → 1 ≤ v ∧ v ≤ 3 := by
  intro v hv
  obtain ⟨q, hq⟩ := List.mem_iff_getElem?.1 hv
  have := (h4 q (by have := (lI.1 hq).1; omega)).1
  rwa [lD, hq] at this
 have fin : ∀ LK : List Av, LK.length ≤ 4 → (∀ t, t ∈ LK → Dp ⟨vs, ns, ts, []⟩ t = 0) → RF ⟨vs, ns, ts, LK⟩ := by
  intro LK ht h
  have hp : B0 ⟨vs, ns, ts, LK⟩ := ⟨show vs.length ≤ 6 by omega, show LK.length ≤ 12 by omega, show ns.length = vs.length by omega, show ts.length = vs.length by omega, fun v hv => by have := hvs v hv; omega, fun t ht => by rw [← h t ht]; exact Rc rfl t⟩
  exact ⟨N8 hp fun i hi => by have := h4 i (by have : i < vs.length := hi; omega); simp only; omega, show vs.length ≤ 3 by omega, ht, fun v hv => (hvs v hv).2⟩
 by_cases k3 : vs.length = 0
 ·refine ⟨_, true, ?_, fun _ => fin [] (by simp) (fun t ht => by cases ht)⟩
  obtain ⟨M, rfl⟩ : ∃ M, N = M + 1 := ⟨N - 1, by omega⟩
  rw [Bi]
  simp only [A1]
  rw [k3]
  by_cases k4 : (0 : Int) < (d.fr.length : Int)
  ·rw [AE k4]; rfl
  ·rw [AC k4]; rfl
 obtain ⟨LK, e2, g1, g2⟩ := Fx (A := List Av) (Bi N d (vs, ns, ts) (fun v16 => some (Ab.mk vs ns ts v16, true))) (fun a k => (a, k)) d.fr.length (fun v16 => some (Ab.mk vs ns ts v16, true))
  (fun i a => a.length = i ∧ ∀ t, t ∈ a → Dp ⟨vs, ns, ts, []⟩ t = 0)
  (fun n i a hi ha => by
   have hx : d.fr[i]? = some d.fr[i] := by simp [hi]
   generalize d.fr[i] = l at hx
   obtain ⟨u1, u2, u3, _, u5, u6, _⟩ := w4 l (lM hx)
   have u1 := HZ u1
   have u2 := HZ u2
   have u3 := HZ u3
   have mk := Ec (n := 4) u1.1 (by omega)
   have hL : (0 : Int) < (vs.length : Int) := by omega
   have mf := Ec (n := (vs.length : Int)) u2.1 hL
   have mt := Ec (n := (vs.length : Int)) u3.1 hL
   rw [Bi]
   simp only [A1]
   rw [AE (by omega), decide_eq_true hL, AD, AZ, hx]
   simp only [oS]
   rw [As (by omega), As (by omega), DA (n := l.fg) (by omega) (by omega), DA (n := l.fj) (by omega) (by omega), DA (n := Int.tmod l.ff 4) (by omega) (by omega), DA (n := 1 + _) (by omega) (by omega), AL (by omega)]
   simp only [Lf, oS]
   rw [DY (d := 0) mf.1 mf.2, DY (d := 0) mt.1 mt.2]
   simp only [oS]
   have hA : ∀ q : Int, 0 ≤ q → q < (vs.length : Int) → 1 ≤ vs.getD q.toNat 0 ∧ vs.getD q.toNat 0 ≤ 3 := fun q h0 h1 => (h4 q.toNat (by omega)).1
   have hf := hA _ mf.1 mf.2
   have ht := hA _ mt.1 mt.2
   obtain ⟨A, eA, a1, a2, _⟩ := Qu N (vs.getD (Int.tmod l.fg (vs.length : Int)).toNat 0) (vs.getD (Int.tmod l.fj (vs.length : Int)).toNat 0) l.ft false hN h20 (by omega) (by omega)
   obtain ⟨B, eB, b1, b2, b3⟩ := Qu N (vs.getD (Int.tmod l.fg (vs.length : Int)).toNat 0) (vs.getD (Int.tmod l.fg (vs.length : Int)).toNat 0) l.fu true hN h20 (by omega) (by omega)
   rw [eA, eB]
   simp only [oS]
   have l1 : ∀ y : Av, a.length + ([y] : List Av).length ≤ Dl := by intro y; rw [ha.1]; unfold Dl; simp; omega
   simp only [As (l1 _)]
   obtain ⟨kd, hkd⟩ : ∃ kd, kd = 1 + Int.tmod l.ff 4 := ⟨_, rfl⟩
   rw [← hkd]
   have fin2 : ∀ (aw : Bool) (re : List (List Bool)), (aw = true → (kd == 3 || kd == 4) = false) → ((kd = 4 → re = B) ∧ (kd ≠ 4 → re = [])) →
     Dp ⟨vs, ns, ts, []⟩ (Av.mk kd (Int.tmod l.fg (vs.length : Int)) (Int.tmod l.fj (vs.length : Int)) aw A re) = 0 := by
    intro aw re haw hre
    refine Vm ⟨show 1 ≤ kd ∧ kd ≤ 4 by omega, haw, mf, mt, a1, a2, fun h => by rw [hre.1 h]; exact b1, fun row hr => ?_, fun h => by rw [hre.1 h]; exact b3 rfl rfl, fun h => hre.2 h⟩
    by_cases h4 : kd = 4
    ·simp only at hr; rw [hre.1 h4] at hr; exact b2 row hr
    ·simp only at hr; rw [hre.2 h4] at hr; cases hr
   have app : ∀ t, Dp ⟨vs, ns, ts, []⟩ t = 0 → (a ++ [t]).length = i + 1 ∧ ∀ t', t' ∈ a ++ [t] → Dp ⟨vs, ns, ts, []⟩ t' = 0 := by
    intro t ht
    refine ⟨by simp [ha.1], fun t' ht' => ?_⟩
    rcases List.mem_append.1 ht' with h | h
    ·exact ha.2 t' h
    ·rw [List.mem_singleton.1 h]; exact ht
   by_cases h4 : kd = 4
   ·have e4 : (kd == 4) = true := beq_iff_eq.2 h4
    have hre : (kd = 4 → B = B) ∧ (kd ≠ 4 → B = []) := ⟨fun _ => rfl, fun h => (h h4).elim⟩
    rw [e4]
    simp only [AD, Bool.or_true, Bool.not_true]
    cases l.fp
    ·exact ⟨_, rfl, app _ (fin2 false B (fun h => by cases h) hre)⟩
    ·exact ⟨_, rfl, app _ (fin2 false B (fun h => by cases h) hre)⟩
   ·have e4 : (kd == 4) = false := beq_eq_false_iff_ne.2 h4
    have hre : (kd = 4 → ([] : List (List Bool)) = B) ∧ (kd ≠ 4 → ([] : List (List Bool)) = []) := ⟨fun h => (h4 h).elim, fun _ => rfl⟩
    rw [e4]
    simp only [Ao, Bool.or_false]
    cases l.fp
    ·exact ⟨_, rfl, app _ (fin2 false [] (fun h => by cases h) hre)⟩
    ·cases e3 : kd == 3
     ·exact ⟨_, rfl, app _ (fin2 true [] (fun _ => by rw [e3, e4]; rfl) hre)⟩
     ·exact ⟨_, rfl, app _ (fin2 false [] (fun h => by cases h) hre)⟩)
  (fun n a _ => by
   rw [Bi]
   simp only [A1]
   rw [AC (by omega), Ao]) N 0 [] (Nat.zero_le _) (by omega) ⟨rfl, fun t ht => by cases ht⟩
 exact ⟨_, true, e2, fun _ => fin LK (by omega) g2⟩
def HA : List Int → Nat → Nat
 | [], _ => 0
 | _, 0 => 0
 | n :: ns, q + 1 => (if 0 ≤ n then 1 else 0) + HA ns q
theorem HJ (l : List Int) : HA l 0 = 0 := by cases l <;> rfl
theorem Gt : ∀ (l : List Int) (q : Nat), q < l.length → HA l (q + 1) = HA l q + if 0 ≤ l.getD q 0 then 1 else 0
 | [], q, h => by simp at h
 | n :: ns, 0, _ => by simp [HA, HJ]
 | n :: ns, q + 1, h => by
  rw [HA, Gt ns q (by simpa using h), HA, List.getD_cons_succ, Nat.add_assoc]
theorem Mg (l : List Int) {a b : Nat} (h : a ≤ b) (hb : b ≤ l.length) : HA l a ≤ HA l b := by
 induction b with
 | zero => rw [Nat.le_zero.1 h]; exact Nat.le_refl _
 | succ b ih =>
  by_cases h1 : a = b + 1
  ·rw [h1]; exact Nat.le_refl _
  ·have := ih (by omega) (by omega)
   rw [Gt l b (by omega)]; omega
theorem Jj (l : List Int) : ∀ q, q ≤ l.length → HA l q ≤ q
 | 0, _ => by rw [HJ]; exact Nat.le_refl _
 | q + 1, h => by
  have := Jj l q (by omega)
  rw [Gt l q h]
  split <;> omega
def KZ (l : List Int) (k q : Nat) : Int := if 0 ≤ l.getD q 0 ∧ k.testBit (HA l q) = true then -1 else l.getD q 0
def SU (l : List Int) (k : Nat) : List Int := (List.range l.length).map (KZ l k)
def Vr (m : Ac) (k : Nat) : Ac := ⟨m.fd, SU m.fa k, m.fc⟩
def Fc (m : Ac) : List Ac := (List.range (2 ^ HA m.fa m.fa.length)).map (Vr m)
theorem KR (l : List Int) (k : Nat) : (SU l k).length = l.length := by simp [SU]
theorem Of (l : List Int) (k q : Nat) (h : q < l.length) : (SU l k).getD q 0 = KZ l k q := by
 unfold SU; rw [lD, List.getElem?_map, List.getElem?_range h]; rfl
theorem Ir {l1 l2 : List Int} (h1 : l1.length = l2.length) (h : ∀ q, q < l1.length → l1.getD q 0 = l2.getD q 0) : l1 = l2 := by
 apply List.ext_getElem h1
 intro q h2 h3
 have := h q h2
 rw [lD, lD, List.getElem?_eq_getElem h2, List.getElem?_eq_getElem h3] at this
 exact this
theorem QH : ∀ (k : Fin 64) (b : Fin 7), EN .i64 (EO .i64 (k.val : Int) (b.val : Int)) 1 = (if k.val.testBit b.val then 1 else 0) ∧ Int.tmod (EO .i64 (k.val : Int) (b.val : Int)) 2 = (if k.val.testBit b.val then 1 else 0) := by decide +kernel
theorem Ua : ∀ n : Fin 7, C7 .i64 1 (n.val : Int) = ((2 ^ n.val : Nat) : Int) := by decide +kernel
structure MX (m x : Ac) : Prop where
 base : x.fd = m.fd
 held : x.fc = m.fc
 len : x.fa.length = m.fa.length
 next : ∀ q, q < m.fa.length → x.fa.getD q 0 = m.fa.getD q 0 ∨ (0 ≤ m.fa.getD q 0 ∧ x.fa.getD q 0 = -1)
theorem MX.refl (m : Ac) : MX m m := ⟨rfl, rfl, rfl, fun _ _ => .inl rfl⟩
theorem MX.trans {a b c : Ac} (h1 : MX a b) (h2 : MX b c) : MX a c :=
 ⟨h2.base.trans h1.base, h2.held.trans h1.held, h2.len.trans h1.len, fun q hq => by
  have e1 := h1.next q hq
  have e2 := h2.next q (by rw [h1.len]; exact hq)
  omega⟩
theorem Se (m : Ac) (k : Nat) : MX m (Vr m k) :=
 ⟨rfl, rfl, KR _ _, fun q hq => by
  show (SU m.fa k).getD q 0 = _ ∨ _ ∧ (SU m.fa k).getD q 0 = _
  rw [Of _ _ _ hq]; unfold KZ
  split
  ·rename_i h; exact .inr ⟨h.1, rfl⟩
  ·exact .inl rfl⟩
theorem Qt : ∀ (l x : List Int), x.length = l.length → (∀ q, q < l.length → x.getD q 0 = l.getD q 0 ∨ (0 ≤ l.getD q 0 ∧ x.getD q 0 = -1)) → ∃ k, k < 2 ^ HA l l.length ∧ ∀ q, q < l.length → x.getD q 0 = KZ l k q
 | [], x, h, _ => ⟨0, by simp [HA], fun q hq => by simp at hq⟩
 | n :: ns, [], h, _ => by simp at h
 | n :: ns, y :: ys, h, hq => by
  obtain ⟨k, hk, hk2⟩ := Qt ns ys (by simpa using h) (fun q hq' => by have := hq (q + 1) (by simpa using hq'); simpa using this)
  have h0 := hq 0 (by simp)
  simp only [List.getD_cons_zero] at h0
  by_cases hn : 0 ≤ n
  ·refine ⟨2 * k + if y = n then 0 else 1, ?_, ?_⟩
   ·rw [List.length_cons, HA, if_pos hn, Nat.pow_add]
    split <;> omega
   ·intro q hq'
    cases q with
    | zero =>
     simp only [List.getD_cons_zero, KZ, HJ]
     by_cases hy : y = n
     ·simp [hy]
     ·rw [if_neg hy, if_pos ⟨hn, by simp⟩]; omega
    | succ q =>
     have := hk2 q (by simpa using hq')
     simp only [List.getD_cons_succ, KZ, HA, if_pos hn] at this ⊢
     rw [this, Nat.add_comm 1, Nat.testBit_succ]
     have : (2 * k + if y = n then 0 else 1) / 2 = k := by split <;> omega
     rw [this]
  ·refine ⟨k, ?_, ?_⟩
   ·rw [List.length_cons, HA, if_neg hn, Nat.zero_add]; exact hk
   ·intro q hq'
    cases q with
    | zero =>
     simp only [List.getD_cons_zero, KZ, HJ]
     rw [if_neg (fun h => hn h.1)]
     omega
    | succ q =>
     have := hk2 q (by simpa using hq')
     simp only [List.getD_cons_succ, KZ, HA, if_neg hn, Nat.zero_add] at this ⊢
     exact this
theorem L1 {m x : Ac} : x ∈ Fc m ↔ MX m x := by
 unfold Fc
 rw [List.mem_map]
 constructor
 ·rintro ⟨k, _, rfl⟩; exact Se m k
 ·intro h
  obtain ⟨k, hk, hq⟩ := Qt m.fa x.fa h.len h.next
  refine ⟨k, List.mem_range.2 hk, ?_⟩
  have : SU m.fa k = x.fa := Ir (by rw [KR, h.len]) fun q hq' => by
   rw [KR] at hq'
   rw [Of _ _ _ hq', hq q hq']
  unfold Vr
  rw [this, ← h.base, ← h.held]
theorem UX {m x : Ac} (h : MX m x) {s : Nat} (hs : s < m.fa.length) {v : Nat} (hv : G4 x s v = true) : G4 m s v = true := by
 unfold G4 at hv ⊢
 rw [h.base] at hv
 have := h.next s hs
 simp only [Bool.or_eq_true, decide_eq_true_eq] at hv ⊢
 omega
theorem Uw {p : Ab} {m x : Ac} (hp : B0 p) (hm : CZ p m) (h : MX m x) : CZ p x := by
 refine ⟨⟨by rw [h.base]; exact hm.base, by rw [h.len]; exact hm.next, by rw [h.held]; exact hm.held, fun i hi => by rw [h.base]; exact hm.b0 i hi, fun i hi => ?_, fun i hi => ?_⟩, fun i hi => by rw [h.held]; exact hm.range i hi, fun i t ht hs v hv => ?_, fun i t ht hs v hv => ?_, fun i t ht hs => by rw [h.held]; exact hm.none i t ht hs⟩
 ·have h1 := hm.n0 i hi
  have h2 := h.next i (by rw [hm.next]; exact hi)
  have h3 := HQ hp hi
  omega
 ·have h1 := hm.ne i hi
  have h2 := h.next i (by rw [hm.next]; exact hi)
  have h3 := hm.b0 i hi
  rw [h.base]
  omega
 ·have hin := (Jo (hp.tab t (lM ht))).from0
  rw [h.held]
  exact hm.low i t ht hs v (UX h (by rw [hm.next]; omega) hv)
 ·rw [h.held] at hv
  exact hm.high i t ht hs v hv
theorem JE (N : Nat) (l : List Int) (h : l.length ≤ Dl) : Bq N l = some l := by
 unfold Bq
 rw [As (by simpa using h)]; rfl
theorem Nq (N : Nat) (l : List Int) (h : l.length ≤ Dl) : Bu N l = some l := by
 unfold Bu
 rw [As (by simpa using h)]; rfl
theorem H1 {l : List Int} {i q : Nat} {y : Int} (hi : i < l.length) : (l.set i y).getD q 0 = if q = i then y else l.getD q 0 := by
 rw [lD, lD, List.getElem?_set]
 by_cases h : i = q
 ·subst h; simp [hi]
 ·rw [if_neg h, if_neg (fun e => h e.symm)]
theorem Tu {l : List Int} {a b : Nat} (ha : a < l.length) (hb : b < l.length) (h1 : 0 ≤ l.getD a 0) (h2 : 0 ≤ l.getD b 0) (h : HA l a = HA l b) : a = b := by
 rcases Nat.lt_trichotomy a b with h3 | h3 | h3
 ·have := Mg l (a := a + 1) (b := b) h3 (by omega)
  rw [Gt l a ha, if_pos h1] at this; omega
 ·exact h3
 ·have := Mg l (a := b + 1) (b := a) h3 (by omega)
  rw [Gt l b hb, if_pos h2] at this; omega
structure R0 (l : List Int) (o : List Int) : Prop where
 len : o.length = HA l l.length
 at_ : ∀ b, b < o.length → ∃ i : Nat, o.getD b 0 = (i : Int) ∧ i < l.length ∧ 0 ≤ l.getD i 0 ∧ HA l i = b
theorem O8 (N : Nat) (l o : List Int) (k : Nat) (acc : List Ac) (hN : N ≤ 1000000) (h20 : 20 ≤ N) (hl : l.length ≤ 6) (ho : R0 l o) (hk : k < 64) (j : List Int → Option (List Ac × Int)) :
  Ci N o (acc, (k : Int)) j N (l, 0) = j (SU l k) := by
 have hol := Jj l l.length (Nat.le_refl _)
 have hoL := ho.len
 obtain ⟨x, e, h1, h2⟩ := Fx (A := List Int) (Ci N o (acc, (k : Int)) j) (fun a k => (a, k)) o.length j
  (fun b a => a.length = l.length ∧ ∀ q, q < l.length → a.getD q 0 = if 0 ≤ l.getD q 0 ∧ HA l q < b ∧ k.testBit (HA l q) = true then -1 else l.getD q 0)
  (fun n b a hb ha => by
   obtain ⟨i, hi1, hi2, hi3, hi4⟩ := ho.at_ b hb
   have hbit := QH ⟨k, hk⟩ ⟨b, by omega⟩
   rw [Ci]
   simp only [A1]
   rw [AE (by omega), CN (d := 0) hb]
   simp only [oS]
   rw [As (by omega), hi1, hbit.1, CN (d := 0) (show i < a.length by rw [ha.1]; exact hi2), AL (by omega)]
   simp only [oS, Int.toNat_natCast]
   cases hkb : k.testBit b
   ·refine ⟨a, rfl, ha.1, fun q hq => ?_⟩
    rw [ha.2 q hq]
    by_cases hqb : HA l q = b
    ·rw [hqb, hkb]; simp
    ·by_cases h3 : HA l q < b
     ·have : HA l q < b + 1 := by omega
      simp [h3, this]
     ·have : ¬ HA l q < b + 1 := by omega
      simp [h3, this]
   ·refine ⟨a.set i (-1), rfl, by simp [ha.1], fun q hq => ?_⟩
    rw [H1 (by rw [ha.1]; exact hi2), ha.2 q hq]
    by_cases hqi : q = i
    ·subst hqi
     rw [if_pos rfl, if_pos ⟨hi3, by omega, by rw [hi4]; exact hkb⟩]
    ·rw [if_neg hqi]
     by_cases h0 : 0 ≤ l.getD q 0
     ·have hne : HA l q ≠ b := fun h => hqi (Tu hq hi2 h0 hi3 (by omega))
      by_cases h3 : HA l q < b
      ·have : HA l q < b + 1 := by omega
       simp [h3, this]
      ·have : ¬ HA l q < b + 1 := by omega
       simp [h3, this]
     ·rw [if_neg (fun h => h0 h.1), if_neg (fun h => h0 h.1)])
  (fun n a _ => by
   rw [Ci]
   simp only [A1]
   rw [AC (by omega)]) N 0 l (Nat.zero_le _) (by omega) ⟨rfl, fun q hq => by simp⟩
 have e' : Ci N o (acc, (k : Int)) j N (l, 0) = j x := e
 rw [e']
 congr 1
 refine Ir (by rw [KR, h1]) fun q hq => ?_
 rw [h1] at hq
 rw [h2 q hq, Of _ _ _ hq, KZ]
 by_cases h0 : 0 ≤ l.getD q 0
 ·have h3 := Mg l (a := q + 1) (b := l.length) hq (Nat.le_refl _)
  rw [Gt l q hq, if_pos h0] at h3
  have : HA l q < o.length := by omega
  simp [this]
 ·rw [if_neg (fun h => h0 h.1), if_neg (fun h => h0 h.1)]
theorem OU (N : Nat) (m : Ac) (k : Nat) (acc : List Ac) (hN : N ≤ 1000000) (h20 : 20 ≤ N) (hl : m.fa.length ≤ 6) (hk : k < 64) (j : List Int → Option (List Ac)) :
  Bv N m (acc, (k : Int)) j N (m.fa, 0, 0) = j (SU m.fa k) := by
 obtain ⟨⟨x, pl⟩, e, h1, h2, h3⟩ := Fx (A := List Int × Nat) (Bv N m (acc, (k : Int)) j) (fun a k => (a.1, (a.2 : Int), k)) m.fa.length (fun a => j a.1)
  (fun i a => a.2 = HA m.fa i ∧ a.1.length = m.fa.length ∧ ∀ q, q < m.fa.length → a.1.getD q 0 = if q < i then KZ m.fa k q else m.fa.getD q 0)
  (fun n i a hi ha => by
   obtain ⟨a, pl⟩ := a
   obtain ⟨a1, a2, a3⟩ := ha
   simp only at a1 a2 a3
   have hple := Jj m.fa i (by omega)
   have hbit := QH ⟨k, hk⟩ ⟨pl, by omega⟩
   have hs := Gt m.fa i hi
   rw [Bv]
   simp only [A1]
   rw [AE (by omega), CN (d := 0) hi]
   simp only [oS]
   rw [AL (by omega)]
   by_cases h0 : m.fa.getD i 0 < 0
   ·rw [AE h0]
    refine ⟨(a, pl), rfl, by simp only; rw [hs, if_neg (by omega), a1]; rfl, a2, fun q hq => ?_⟩
    simp only
    rw [a3 q hq]
    by_cases hqi : q = i
    ·subst hqi
     rw [if_neg (by omega), if_pos (by omega), KZ, if_neg (by omega)]
    ·by_cases h4 : q < i
     ·rw [if_pos h4, if_pos (by omega)]
     ·rw [if_neg h4, if_neg (by omega)]
   ·rw [AC h0, As (by omega), CN (d := 0) (show i < a.length by omega), hbit.2, AL (by omega)]
    simp only [oS, Int.toNat_natCast]
    cases hkb : k.testBit pl
    ·refine ⟨(a, pl + 1), rfl, by simp only; rw [hs, if_pos (by omega), a1], a2, fun q hq => ?_⟩
     simp only
     rw [a3 q hq]
     by_cases hqi : q = i
     ·subst hqi
      rw [if_neg (by omega), if_pos (by omega), KZ, ← a1, hkb]; simp
     ·by_cases h4 : q < i
      ·rw [if_pos h4, if_pos (by omega)]
      ·rw [if_neg h4, if_neg (by omega)]
    ·refine ⟨(a.set i (-1), pl + 1), rfl, by simp only; rw [hs, if_pos (by omega), a1], by simp [a2], fun q hq => ?_⟩
     simp only
     rw [H1 (by omega), a3 q hq]
     by_cases hqi : q = i
     ·subst hqi
      rw [if_pos rfl, if_pos (by omega), KZ, ← a1, if_pos ⟨by omega, hkb⟩]
     ·rw [if_neg hqi]
      by_cases h4 : q < i
      ·rw [if_pos h4, if_pos (by omega)]
      ·rw [if_neg h4, if_neg (by omega)])
  (fun n a _ => by
   rw [Bv]
   simp only [A1]
   rw [AC (by omega)]) N 0 (m.fa, 0) (Nat.zero_le _) (by omega) ⟨(HJ _).symm, rfl, fun q hq => by simp⟩
 have e' : Bv N m (acc, (k : Int)) j N (m.fa, 0, 0) = j x := e
 rw [e']
 congr 1
 simp only at h2 h3
 refine Ir (by rw [KR, h2]) fun q hq => ?_
 rw [h2] at hq
 rw [h3 q hq, if_pos hq, Of _ _ _ hq]
theorem Sd (N : Nat) (m : Ac) (hN : N ≤ 1000000) (h20 : 20 ≤ N) (hl : m.fa.length ≤ 6) (j : List Int → Option (List Ac × Int)) :
  ∃ o, CX N m j N ([], 0) = j o ∧ R0 m.fa o := by
 obtain ⟨o, e, h1, h2⟩ := Fx (A := List Int) (CX N m j) (fun a k => (a, k)) m.fa.length j
  (fun i o => o.length = HA m.fa i ∧ ∀ b, b < o.length → ∃ q : Nat, o.getD b 0 = (q : Int) ∧ q < m.fa.length ∧ 0 ≤ m.fa.getD q 0 ∧ HA m.fa q = b)
  (fun n i o hi ho => by
   have hple := Jj m.fa i (by omega)
   have hs := Gt m.fa i hi
   rw [CX]
   simp only [A1]
   rw [AE (by omega), CN (d := 0) hi]
   simp only [oS]
   rw [AL (by omega)]
   by_cases h0 : 0 ≤ m.fa.getD i 0
   ·rw [AE h0, As (by rw [ho.1]; unfold Dl; simp; omega)]
    refine ⟨o ++ [(i : Int)], rfl, by rw [hs, if_pos h0, ← ho.1]; simp, ?_⟩
    rw [List.length_append]
    exact Fs (P := fun b y => ∃ q : Nat, y = (q : Int) ∧ q < m.fa.length ∧ 0 ≤ m.fa.getD q 0 ∧ HA m.fa q = b) rfl ho.2 ⟨i, rfl, hi, h0, ho.1.symm⟩
   ·rw [AC h0]
    exact ⟨o, rfl, by rw [hs, if_neg h0, ho.1]; rfl, ho.2⟩)
  (fun n a _ => by
   rw [CX]
   simp only [A1]
   rw [AC (by omega)]) N 0 [] (Nat.zero_le _) (by omega) ⟨(HJ _).symm, fun b hb => by simp at hb⟩
 exact ⟨o, e, h1, h2⟩
theorem Kc {n : Nat} (h : n ≤ 6) : 2 ^ n ≤ 64 := Nat.pow_le_pow_right (n := 2) (by omega) h
theorem LT {n : Nat} (h : n ≤ 6) : C7 .i64 1 (n : Int) = ((2 ^ n : Nat) : Int) := Ua ⟨n, by omega⟩
theorem Ji {β : Type} (f : Nat → β) (n : Nat) : (List.range (n + 1)).map f = (List.range n).map f ++ [f n] := by
 rw [List.range_succ, List.map_append]; rfl
theorem M7 (N : Nat) (p : Ab) (m : Ac) (hN : N ≤ 1000000) (h20 : 100 ≤ N) (hw : JA IE m.fc) (hv : Eg p m = 0) : FK N p m = some (Fc m, 0) := by
 obtain ⟨hp, hm⟩ := KW hw hv
 have hnv := hp.nv
 have hnt := hp.nt
 have hl : m.fa.length ≤ 6 := by rw [hm.next]; omega
 unfold FK
 rw [IJ N p m hN (by omega) hw, hv]
 simp only [oS, bne_self_eq_false, Ao]
 obtain ⟨o, e, ho⟩ := Sd N m hN (by omega) hl (fun (v4 : (List Int)) =>
   (Dh (0 ≤ (v4.length : Int))).bind fun _ =>
   Cl N m v4 (fun (v12 : (List Ac)) =>
    some (v12, 0)) N (([] : List Ac), 0))
 rw [e, As (by omega)]
 have hoL := ho.len
 have hol := Jj m.fa m.fa.length (Nat.le_refl _)
 have hpow := Kc (show HA m.fa m.fa.length ≤ 6 by omega)
 obtain ⟨a, e2, h1⟩ := Fx (A := List Ac) (Cl N m o fun v12 => some (v12, 0)) (fun a k => (a, k)) (2 ^ HA m.fa m.fa.length) (fun v12 => some (v12, 0))
  (fun i a => a = (List.range i).map (Vr m))
  (fun n i a hi ha => by
   refine ⟨a ++ [Vr m i], ?_, by rw [Ji, ha]⟩
   have hal : a.length = i := by rw [ha]; simp
   rw [Cl]
   rw [hoL, LT (n := HA m.fa m.fa.length) (by omega), AE (by omega), JE N m.fd (by have := hm.base; unfold Dl; omega), JE N m.fa (by unfold Dl; omega), Nq N m.fc (by have := hm.held; unfold Dl; omega)]
   simp only [oS]
   rw [O8 N m.fa o i a hN (by omega) hl ho (by omega), As (by rw [hal]; unfold Dl; simp; omega), AL (by omega)]
   rfl)
  (fun n a _ => by
   rw [Cl]
   rw [hoL, LT (n := HA m.fa m.fa.length) (by omega), AC (by simp)]) N 0 [] (Nat.zero_le _) (by omega) rfl
 have e2' : Cl N m o (fun v12 => some (v12, 0)) N ([], 0) = some (a, 0) := e2
 rw [e2', h1]; rfl
theorem Qa (N : Nat) (m : Ac) (h1 : m.fd.length ≤ Dl) (h2 : m.fa.length ≤ Dl) (h3 : m.fc.length ≤ Dl) : Dx N m = some m := by
 unfold Dx
 rw [As (by simpa using h1), As (by simpa using h2), As (by simpa using h3)]; rfl
theorem PV (N : Nat) (m : Ac) (hN : N ≤ 1000000) (h20 : 100 ≤ N) (h1 : m.fd.length ≤ 100) (hl : m.fa.length ≤ 6) (h3 : m.fc.length ≤ 100) : DE N m = some (Fc m) := by
 unfold DE
 obtain ⟨c, e, hc⟩ := Fx (A := Nat) (BY N m (fun (v2 : Int) =>
  Bh N m v2 (fun (v8 : (List Ac)) => some v8) N (([] : List Ac), 0))) (fun a k => ((a : Int), k)) m.fa.length (fun a => Bh N m (a : Int) (fun (v8 : (List Ac)) => some v8) N (([] : List Ac), 0))
  (fun i a => a = HA m.fa i)
  (fun n i a hi ha => by
   have hple := Jj m.fa i (by omega)
   have hs := Gt m.fa i hi
   rw [BY]
   simp only [A1]
   rw [AE (by omega), CN (d := 0) hi]
   simp only [oS]
   rw [AL (by omega), AL (by omega)]
   by_cases h0 : 0 ≤ m.fa.getD i 0
   ·rw [AE h0]
    exact ⟨a + 1, rfl, by rw [hs, if_pos h0, ha]⟩
   ·rw [AC h0]
    exact ⟨a, rfl, by rw [hs, if_neg h0, ha]; rfl⟩)
  (fun n a _ => by
   rw [BY]
   simp only [A1]
   rw [AC (by omega)]) N 0 0 (Nat.zero_le _) (by omega) (HJ _).symm
 have e' : BY N m (fun (v2 : Int) => Bh N m v2 (fun (v8 : (List Ac)) => some v8) N (([] : List Ac), 0)) N (0, 0) = _ := e
 rw [e', hc]
 have hol := Jj m.fa m.fa.length (Nat.le_refl _)
 have hpow := Kc (show HA m.fa m.fa.length ≤ 6 by omega)
 obtain ⟨a, e2, h1⟩ := Fx (A := List Ac) (Bh N m (HA m.fa m.fa.length : Int) fun v8 => some v8) (fun a k => (a, k)) (2 ^ HA m.fa m.fa.length) some
  (fun i a => a = (List.range i).map (Vr m))
  (fun n i a hi ha => by
   refine ⟨a ++ [Vr m i], ?_, by rw [Ji, ha]⟩
   have hal : a.length = i := by rw [ha]; simp
   rw [Bh]
   rw [As (by omega), LT (n := HA m.fa m.fa.length) (by omega), AE (by omega), Qa N m (by unfold Dl; omega) (by unfold Dl; omega) (by unfold Dl; omega)]
   simp only [oS]
   rw [OU N m i a hN (by omega) hl (by omega), As (by rw [hal]; unfold Dl; simp; omega), AL (by omega)]
   rfl)
  (fun n a _ => by
   rw [Bh]
   rw [As (by omega), LT (n := HA m.fa m.fa.length) (by omega), AC (by simp)]) N 0 [] (Nat.zero_le _) (by omega) rfl
 have e2' : Bh N m (HA m.fa m.fa.length : Int) (fun v8 => some v8) N ([], 0) = some a := e2
 rw [e2', h1]; rfl
theorem PT (N : Nat) (p : Ab) (m : Ac) (hN : N ≤ 1000000) (h20 : 100 ≤ N) (hp : B0 p) (hm : CZ p m) : DE N m = some (Fc m) := by
 have := hp.nv
 have := hp.nt
 exact PV N m hN h20 (by rw [hm.base]; omega) (by rw [hm.next]; omega) (by rw [hm.held]; omega)
theorem Ms {p : Ab} {m : Ac} (hm : CZ p m) : JA IE m.fc := by
 intro x hx
 obtain ⟨q, hq⟩ := List.mem_iff_getElem?.1 hx
 have h1 := (lI.1 hq).1
 have := hm.range q (by rw [← hm.held]; exact h1)
 rw [lD, hq] at this
 unfold IE
 simp only [Option.getD_some] at this
 simp [Lit.wf, IntKind.min, IntKind.max, IntKind.signed, IntKind.bits]
 omega
def Kd (p : Ab) (x : Ac) : Option (Ac × Ak) := match F9 p x with
 | [] => none
 | c :: _ => some (x, c)
def Mo (p : Ab) (m : Ac) : Option (Ac × Ak) := C5 (fun _ x => Kd p x) 0 (Fc m)
def E0 : Ac := ⟨[], [], []⟩
def RE : Ak := ⟨0, 0, 0⟩
def Qh (p : Ab) (m : Ac) : Ac × Ak × Int := match Mo p m with
 | some (x, c) => (x, c, 0)
 | none => (E0, RE, 15)
def F0 (p : Ab) (m : Ac) : Bool := (Mo p m).isNone
theorem Mu {m : Ac} (hl : m.fa.length ≤ 6) : (Fc m).length ≤ 64 := by
 unfold Fc
 have hol := Jj m.fa m.fa.length (Nat.le_refl _)
 have hpow := Kc (show HA m.fa m.fa.length ≤ 6 by omega)
 simpa using hpow
theorem L0 {α R R' : Type} (f : Nat → α → Option R) (g : R → R') : ∀ (i : Nat) (xs : List α), C5 (fun i x => (f i x).map g) i xs = (C5 f i xs).map g
 | _, [] => rfl
 | i, x :: xs => by
  rw [Gk, Gk]
  cases f i x
  ·exact L0 f g (i + 1) xs
  ·rfl
theorem OJ (N : Nat) (p : Ab) (m : Ac) (hN : N ≤ 1000000) (h20 : 100 ≤ N) (hw : JA IE m.fc) (hv : Eg p m = 0) : EV N p m = some (Qh p m) := by
 obtain ⟨hp, hm⟩ := KW hw hv
 have hnv := hp.nv
 unfold EV
 rw [M7 N p m hN h20 hw hv]
 simp only [oS, bne_self_eq_false, Ao]
 have hal := Mu (m := m) (by rw [hm.next]; omega)
 have := CA (DW N p (Fc m, 0) fun _ => some (E0, RE, 15)) (Fc m) (some (E0, RE, 15)) (fun _ x => (Kd p x).map fun y => (y.1, y.2, 0))
  (fun n i x hx => by
   have hi := (lI.1 hx).1
   have hx2 := Uw hp hm (L1.1 (lM hx))
   rw [DW, AE (by simp only; omega)]
   simp only [AZ, hx, oS]
   rw [Li N p x hN (by omega) hp hx2, AL (by omega)]
   simp only [oS, Kd]
   cases F9 p x with
   | nil => rfl
   | cons c cs => rw [AE (by simp only [List.length_cons]; omega)]; rfl)
  (fun n => by rw [DW, AC (by simp)]) N 0 (Nat.zero_le _) (by omega)
 rw [List.drop_zero, L0] at this
 exact this.trans (by
  unfold Qh Mo
  cases C5 (fun _ x => Kd p x) 0 (Fc m) <;> rfl)
theorem J0 (N : Nat) (p : Ab) (m : Ac) (hN : N ≤ 1000000) (h20 : 100 ≤ N) (hw : JA IE m.fc) (hv : Eg p m = 0) : Ev N p m = some (F0 p m, 0) := by
 unfold Ev
 rw [OJ N p m hN h20 hw hv]
 unfold F0 Qh
 cases Mo p m <;> rfl
theorem O5 (N : Nat) (p : Ab) (m : Ac) (hN : N ≤ 1000000) (h20 : 100 ≤ N) (hp : B0 p) (hm : CZ p m) : Dy N p m = some (F9 p m).isEmpty := by
 unfold Dy
 rw [Lc N p m hN (by omega) hp hm]
 simp only [oS]
 cases F9 p m with
 | nil => rfl
 | cons c cs =>
  rw [beq_eq_false_iff_ne.2 (by simp only [List.length_cons]; omega)]; rfl
theorem J2 (N : Nat) (p : Ab) (m : Ac) (hN : N ≤ 1000000) (h20 : 100 ≤ N) (hp : B0 p) (hm : CZ p m) : Cq N p m = some (F0 p m) := by
 have hnv := hp.nv
 unfold Cq
 rw [PT N p m hN h20 hp hm]
 simp only [oS]
 have hal := Mu (m := m) (by rw [hm.next]; omega)
 have := CA (BG N p (Fc m) fun _ => some true) (Fc m) (some true) (fun _ x => (Kd p x).map fun _ => false)
  (fun n i x hx => by
   have hi := (lI.1 hx).1
   have hx2 := Uw hp hm (L1.1 (lM hx))
   rw [BG, AE (by omega)]
   simp only [AZ, hx, oS]
   rw [O5 N p x hN h20 hp hx2, AL (by omega)]
   simp only [oS, Kd]
   cases F9 p x with
   | nil => rfl
   | cons c cs => rfl)
  (fun n => by rw [BG, AC (by simp)]) N 0 (Nat.zero_le _) (by omega)
 rw [List.drop_zero, L0] at this
 refine Eq.trans this ?_
 unfold F0 Mo
 cases C5 (fun _ x => Kd p x) 0 (Fc m) <;> rfl
theorem O2 {N : Nat} {a b : Ac} (hN : N ≤ 1000000) (h1 : a.fd.length < N) (h2 : a.fa.length < N) (h3 : a.fc.length < N) (h4 : b.fc.length < N) (wa : JA IE a.fc) (wb : JA IE b.fc) : Df N a b = some (Oh a b) := by
 unfold Df
 rw [Mf h1 hN, Mf h2 hN, LJ h3 hN wa, LJ h4 hN wb]
 simp only [oS]
 rw [Mf h3 hN]
 unfold Oh Sl
 by_cases h1 : Fh a.fd b.fd = 0
 ·simp only [h1, Sl]
  by_cases h2 : Fh a.fa b.fa = 0
  ·simp only [h2]
   by_cases h3 : Fh a.fc b.fc = 0 <;> simp [h3]
  ·have : (Fh a.fa b.fa != 0) = true := by simpa using h2
   simp [h2, this]
 ·have : (Fh a.fd b.fd != 0) = true := by simpa using h1
  simp [h1, this]
theorem Sw (d : BF) (x : Bk) (wd : Ek d) (wx : En x) :
  ∃ p ok, DT 1000 d = some (p, ok) ∧ (ok = true → RF p ∧ B0 p ∧ ∃ m, DR 1000 p x = some m ∧ Wk p x m ∧ CZ p m ∧ Eg p m = 0 ∧ JA IE m.fc) := by
 obtain ⟨p, ok, e, h⟩ := XF 1000 d (by omega) (by omega) wd
 refine ⟨p, ok, e, fun hk => ?_⟩
 have hg := h hk
 have hp := (Gf hg.valid).1
 obtain ⟨m, e2, hi, ho⟩ := Xo 1000 p x (by omega) (by omega) hp wx
 exact ⟨hg, hp, m, e2, hi, ho, Hf hg.valid ho, Ms ho⟩
open Go
structure XT (x y : Av) : Prop where
 k : y.ff = x.ff
 f : y.fg = x.fg
 t : y.fj = x.fj
 a : y.fp = x.fp
 r : y.fk = x.fk
 l : y.fq.length = x.fq.length
 o : ∀ (u : Nat) (row : List Bool), x.fq[u]? = some row → ∃ row', y.fq[u]? = some row' ∧ row'.length = row.length ∧ ∀ v : Nat, row[v]? = some true → row'[v]? = some true
theorem XT.st {x y : Av} (h : XT x y) : Bp y = Bp x := by unfold Bp; rw [h.k]
structure VA (p : Ab) (m x : Ac) : Prop where
 base : m.fd = x.fd
 next : m.fa = x.fa
 held : ∀ i, i < p.fe.length → ∀ v, Cs (m.fc.getD i 0) v = true → Cs (x.fc.getD i 0) v = true
theorem VA.refl (p : Ab) (m : Ac) : VA p m m := ⟨rfl, rfl, fun _ _ _ h => h⟩
theorem VA.trans {p : Ab} {a b c : Ac} (h : VA p a b) (g : VA p b c) : VA p a c := ⟨h.base.trans g.base, h.next.trans g.next, fun i hi v hv => g.held i hi v (h.held i hi v hv)⟩
theorem Lx (x : BitVec 8) : wI .u8 (x.toNat : Int) = (x.toNat : Int) := by
 have := x.isLt
 simp [wI, IntKind.signed, IntKind.bits]
 omega
theorem Po (x : BitVec 8) : 0 ≤ (x.toNat : Int) ∧ (x.toNat : Int) ≤ 255 := by
 have := x.isLt
 omega
theorem SE (x : BitVec 8) (v : Nat) : Cs (x.toNat : Int) v = x.getLsbD v := by
 unfold Cs; rw [Int.toNat_natCast]; rfl
theorem OB {a : Int} (ha : 0 ≤ a ∧ a ≤ 255) (v : Nat) : (BitVec.ofInt 8 a).getLsbD v = Cs a v := by
 obtain ⟨a, rfl⟩ := Int.eq_ofNat_of_zero_le ha.1
 unfold BitVec.getLsbD Cs
 rw [QS (by omega), Int.toNat_natCast]
theorem Qj {a b : Int} (ha : 0 ≤ a ∧ a ≤ 255) (hb : 0 ≤ b ∧ b ≤ 255) : (∀ v, Cs (CC .u8 a b) v = (Cs a v && !Cs b v)) ∧ 0 ≤ CC .u8 a b ∧ CC .u8 a b ≤ 255 := by
 have e : CC .u8 a b = ((BitVec.ofInt 8 a &&& ~~~BitVec.ofInt 8 b).toNat : Int) := Lx (BitVec.ofInt 8 a &&& ~~~BitVec.ofInt 8 b)
 rw [e]
 refine ⟨fun v => ?_, Po _⟩
 rw [SE, BitVec.getLsbD_and, BitVec.getLsbD_not, OB ha, OB hb]
 by_cases h : v < 8
 ·simp [h]
 ·rw [JG ha.2 (by omega)]; simp
theorem P4 {a b : Int} (ha : 0 ≤ a ∧ a ≤ 255) (hb : 0 ≤ b ∧ b ≤ 255) : (∀ v, Cs (KX .u8 a b) v = (Cs a v || Cs b v)) ∧ 0 ≤ KX .u8 a b ∧ KX .u8 a b ≤ 255 := by
 have e : KX .u8 a b = ((BitVec.ofInt 8 a ||| BitVec.ofInt 8 b).toNat : Int) := Lx (BitVec.ofInt 8 a ||| BitVec.ofInt 8 b)
 rw [e]
 refine ⟨fun v => ?_, Po _⟩
 rw [SE, BitVec.getLsbD_or, OB ha, OB hb]
theorem T0 {b : Nat} (hb : b < 8) : (∀ v, Cs (C7 .u8 1 (b : Int)) v = decide (b = v)) ∧ 0 ≤ C7 .u8 1 (b : Int) ∧ C7 .u8 1 (b : Int) ≤ 255 := by
 refine ⟨fun v => ?_, (LX ⟨b, hb⟩ ⟨0, by omega⟩).2⟩
 by_cases h : v < 8
 ·exact (LX ⟨b, hb⟩ ⟨v, h⟩).1
 ·rw [JG (LX ⟨b, hb⟩ ⟨0, by omega⟩).2.2 (by omega)]
  symm; apply decide_eq_false; omega
theorem SO (N : Nat) {s : Int} {v : Nat} (hs : 0 ≤ s ∧ s ≤ 255) (hv : v < 8) : BV N s (v : Int) = some (Cs s v) := by
 unfold BV
 rw [As (by omega), N4 hs.1 hs.2 hv]
 cases Cs s v <;> rfl
def Um (v : Nat) : Nat := ((List.range 8).find? fun u => v.testBit u).getD 8
def V7 (v : Nat) : Nat := ((List.range 8).filter fun u => v.testBit u).length
theorem Vn : ∀ v : Fin 256, Cm 0 (v.val : Int) = some (Um v.val : Int) := by decide +kernel
theorem VY (N : Nat) {v : Nat} (h : v < 256) : Cm N (v : Int) = some (Um v : Int) := Vn ⟨v, h⟩
theorem TH : ∀ v : Fin 256, v.val ≠ 0 → Um v.val < 8 ∧ Cs (v.val : Int) (Um v.val) = true ∧ 0 ≤ EN .u8 (v.val : Int) (wI .u8 ((v.val : Int) - 1)) ∧ EN .u8 (v.val : Int) (wI .u8 ((v.val : Int) - 1)) ≤ 255 ∧
  V7 (EN .u8 (v.val : Int) (wI .u8 ((v.val : Int) - 1))).toNat + 1 = V7 v.val ∧
  ∀ u : Fin 8, Cs (EN .u8 (v.val : Int) (wI .u8 ((v.val : Int) - 1))) u.val = (Cs (v.val : Int) u.val && decide (u.val ≠ Um v.val)) := by decide +kernel
theorem V9 (v : Nat) : V7 v ≤ 8 := by
 have := List.length_filter_le (fun u => v.testBit u) (List.range 8)
 simpa [V7] using this
theorem O9 (N : Nat) (t : Av) (b : Int) (rw_ : Nat → Bool) : ∀ (k n v : Nat), V7 v ≤ k → k < n → v < 256 →
  (∀ u, u < 8 → Cs (v : Int) u = true → ∃ row, BE t.fk (u : Int) = some row ∧ BE row b = some (rw_ u)) →
  CR N t b (fun _ => some true) n (v : Int) = some ((List.range 8).all fun u => !Cs (v : Int) u || rw_ u)
 | k, 0, v, _, h, _, _ => by omega
 | k, n + 1, v, hk, hn, hv, hr => by
  rw [CR]
  by_cases h0 : v = 0
  ·subst h0
   have : (((0 : Nat) : Int) != 0) = false := rfl
   rw [this, Ao]
   congr 1
  ·have h1 : ((v : Int) != 0) = true := bne_iff_ne.2 (by omega)
   obtain ⟨l1, l2, l3, l4, l5, l6⟩ := TH ⟨v, hv⟩ h0
   simp only at l1 l2 l3 l4 l5 l6
   obtain ⟨row, e1, e2⟩ := hr _ l1 l2
   rw [h1, AD, VY N hv]
   simp only [oS, e1, e2]
   obtain ⟨w, hw⟩ := Int.eq_ofNat_of_zero_le l3
   rw [hw] at l4 l5 l6 ⊢
   rw [Int.toNat_natCast] at l5
   cases hq : rw_ (Um v)
   ·rw [Bool.not_false, AD]
    congr 1
    symm
    rw [List.all_eq_false]
    exact ⟨Um v, by simpa using l1, by rw [l2, hq]; simp⟩
   ·rw [Bool.not_true, Ao]
    match k, hk with
    | 0, hk => exfalso; omega
    | k + 1, hk =>
    rw [O9 N t b rw_ k n w (by omega) (by omega) (by omega) (fun u hu hb => hr u hu (by have := l6 ⟨u, hu⟩; simp only at this; rw [hb] at this; simpa using (Bool.and_eq_true_iff.1 this.symm).1))]
    congr 1
    rw [Bool.eq_iff_iff, List.all_eq_true, List.all_eq_true]
    refine ⟨fun h u hu => ?_, fun h u hu => ?_⟩
    ·have hu8 : u < 8 := by simpa using hu
     have h3 := h u hu
     have h4 := l6 ⟨u, hu8⟩
     simp only at h4
     rw [h4] at h3
     by_cases e : u = Um v
     ·rw [e, hq]; simp
     ·simpa [e] using h3
    ·have hu8 : u < 8 := by simpa using hu
     have h3 := h u hu
     have h4 := l6 ⟨u, hu8⟩
     simp only at h4
     rw [h4]
     cases hb : Cs (v : Int) u
     ·simp
     ·rw [hb] at h3; simp at h3; simp [h3]
theorem Pm (N : Nat) (m : Ac) (s : Int) (h0 : 0 ≤ s) (h1 : s < (m.fd.length : Int)) (h2 : s < (m.fa.length : Int)) (hb : 0 ≤ m.fd.getD s.toNat 0) : E2 N m s = some (FG m s.toNat) := by
 unfold E2 FG
 rw [DY (d := 0) h0 h1, DY (d := 0) h0 h2]
 simp only [oS, Bb]
 rw [show Dh (0 ≤ m.fd.getD s.toNat 0) = some () from by unfold Dh; rw [if_pos hb]]
 simp only [oS]
 by_cases h : 0 ≤ m.fa.getD s.toNat 0
 ·rw [AE h, if_pos h, show Dh (0 ≤ m.fa.getD s.toNat 0) = some () from by unfold Dh; rw [if_pos h]]; rfl
 ·rw [AC h, if_neg h]
theorem Jp (N : Nat) (t : Av) : ED N t = some (Bp t) := by
 unfold ED Bp
 simp only [Bb]
 cases h : t.ff == 3 <;> simp
def Gu (s : Ad) : Bool := decide (1 ≤ s.ff ∧ s.ff ≤ 4 ∧ 0 ≤ s.fh ∧ 0 ≤ s.fi) && (s.ff == 1 || s.fi == 0)
def GQ (p : Ab) (s : Ad) : Bool :=
 if s.ff = 3 then decide (s.fh < (p.fe.length : Int)) else decide (s.fh < (p.fb.length : Int)) && (s.ff != 1 || decide (s.fi < p.fb.getD s.fh.toNat 0))
theorem JZ (N : Nat) (s : Ad) : E7 N s = some (Gu s) := by
 unfold E7 Gu O3
 simp only [Bb]
 by_cases h1 : (if s.fi < s.fh then s.fi else s.fh) < 0
 ·rw [AE h1, AD, decide_eq_false (by split at h1 <;> omega)]; rfl
 ·rw [AC h1]
  by_cases h2 : s.ff < 1
  ·rw [AE h2, AD, decide_eq_false (by omega)]; rfl
  ·rw [AC h2]
   by_cases h3 : 4 < s.ff
   ·rw [decide_eq_true h3, AD, decide_eq_false (by omega)]; rfl
   ·rw [decide_eq_false h3, Ao, decide_eq_true (by split at h1 <;> omega), Bool.true_and]
    cases h4 : s.ff == 1 <;> simp
theorem Ko (N : Nat) (s : Ad) : C0 N s = some (Gu s) := by
 unfold C0 Gu
 simp only [Bb]
 by_cases h1 : 1 ≤ s.ff
 ·rw [AE h1]
  by_cases h2 : s.ff ≤ 4
  ·rw [AE h2]
   by_cases h3 : 0 ≤ s.fh
   ·rw [AE h3]
    by_cases h4 : 0 ≤ s.fi
    ·rw [AE h4, decide_eq_true (by omega), Bool.true_and]
     cases h5 : s.ff == 1 <;> simp
    ·rw [AC h4, decide_eq_false (by omega)]; rfl
   ·rw [AC h3, decide_eq_false (by omega)]; rfl
  ·rw [AC h2, decide_eq_false (by omega)]; rfl
 ·rw [AC h1, decide_eq_false (by omega)]; rfl
theorem MG (N : Nat) (p : Ab) (s : Ad) (hv : Gu s = true) : Fr N p s = some (GQ p s) := by
 have h0 : 0 ≤ s.fh := by
  unfold Gu at hv
  rw [Bool.and_eq_true, decide_eq_true_iff] at hv
  exact hv.1.2.2.1
 unfold Fr GQ
 simp only [Bb]
 by_cases h1 : s.ff = 3
 ·rw [if_pos h1, beq_iff_eq.2 h1, AD]
 ·rw [if_neg h1, beq_eq_false_iff_ne.2 h1, Ao]
  by_cases h2 : s.fh < (p.fb.length : Int)
  ·rw [AE h2, decide_eq_true h2, Bool.true_and]
   cases h3 : s.ff != 1
   ·rw [Ao, DY (d := 0) h0 h2, Bool.false_or]; rfl
   ·rw [AD]; rfl
  ·rw [AC h2, decide_eq_false h2]; rfl
def QM (s : Ad) (t : Av) : Bool := t.fg == s.fh && Bp t
def Rw (s : Ad) (i : Nat) (t : Av) (a : List Int) : List Int := if QM s t = true then a.set i (KX .u8 (a.getD i 0) (C7 .u8 1 s.fi)) else a
def HX (p : Ab) (s : Ad) (held : List Int) : List Int := Ht (Rw s) 0 p.fe held
theorem LS {_R : Type} (N : Nat) (p : Ab) (s : Ad) (held : List Int) (hv : 0 ≤ s.fi) (hl : held.length = p.fe.length) (h12 : p.fe.length < N) (hN : N ≤ 1000000) (j : List Int → Option (Bool × List Int × List Int)) :
  CY N p s j N (held, 0) = j (HX p s held) ∧ (HX p s held).length = p.fe.length := by
 have := HF (CY N p s j) (fun a i => (a, i)) p.fe j (Rw s) (fun i a => a.length = p.fe.length)
  (fun n i x a hx ha => by
   have hi := (lI.1 hx).1
   rw [CY, AE (by simp only; omega)]
   simp only [A1, AZ, hx, oS, Jp, AL (show i < 1000000 by omega)]
   have e2 : a[i]? = some (a.getD i 0) := by rw [lD]; simp [show i < a.length from by omega]
   unfold Rw QM
   cases h1 : x.fg == s.fh
   ·rw [Ao, Ao, Bool.false_and, if_neg (by simp)]; exact ⟨rfl, ha⟩
   ·rw [AD, Bool.true_and]
    cases h2 : Bp x
    ·rw [Ao, if_neg (by simp)]; exact ⟨rfl, ha⟩
    ·rw [AD, e2, if_pos rfl]
     simp only [oS]
     rw [As hv]
     exact ⟨rfl, by simpa using ha⟩)
  (fun n a ha => by rw [CY, AC (by simp)]) N 0 held (Nat.zero_le _) (by omega) hl
 rw [List.drop_zero] at this
 exact this
theorem MH (N : Nat) (p : Ab) (s : Ad) (held : List Int) (hv : 0 ≤ s.fi) (hl : held.length = p.fe.length) (h12 : p.fe.length < N) (hN : N ≤ 1000000) (j : List Int → Option (Ac × Bool)) :
  Bz N p s j N (held, 0) = j (HX p s held) := by
 have := HF (Bz N p s j) (fun a i => (a, i)) p.fe j (Rw s) (fun i a => a.length = p.fe.length)
  (fun n i x a hx ha => by
   have hi := (lI.1 hx).1
   rw [Bz, AE (by simp only; omega)]
   simp only [A1, AZ, hx, oS, E4, AL (show i < 1000000 by omega)]
   have e2 : a[i]? = some (a.getD i 0) := by rw [lD]; simp [show i < a.length from by omega]
   unfold Rw QM
   cases h1 : x.fg == s.fh
   ·rw [Ao, Ao, Bool.false_and, if_neg (by simp)]; exact ⟨rfl, ha⟩
   ·rw [AD, Bool.true_and]
    cases h2 : Bp x
    ·rw [Ao, if_neg (by simp)]; exact ⟨rfl, ha⟩
    ·rw [AD, e2, if_pos rfl]
     simp only [oS]
     rw [As hv]
     exact ⟨rfl, by simpa using ha⟩)
  (fun n a ha => by rw [Bz, AC (by simp)]) N 0 held (Nat.zero_le _) (by omega) hl
 rw [List.drop_zero] at this
 exact this.1
def JW (m : Ac) (t : Av) (u : Nat) : Bool := (t.fk.getD u []).getD (m.fd.getD t.fg.toNat 0).toNat false
def My (m : Ac) (i : Nat) (t : Av) (u : Nat) : Bool := Cs (m.fc.getD i 0) u && !G4 m t.fg.toNat u
def Hp (_p : Ab) (m : Ac) (i : Nat) (t : Av) : Bool := t.ff == 4 && (List.range 8).any fun u => My m i t u && !JW m t u
def GE (p : Ab) (m : Ac) (s : Ad) : Option Ac :=
 let i := s.fh.toNat
 if s.ff = 1 then (if 0 ≤ m.fa.getD i 0 ∨ m.fd.getD i 0 = s.fi then none else some ⟨m.fd, m.fa.set i s.fi, HX p s m.fc⟩)
 else if s.ff = 3 then match p.fe[i]? with
  | none => none
  | some t => if Bp t = false ∨ m.fc.getD i 0 = FG m t.fg.toNat ∨ Hp p m i t = true then none else some ⟨m.fd, m.fa, m.fc.set i (FG m t.fg.toNat)⟩
 else if m.fa.getD i 0 < 0 then none
 else some ⟨if s.ff = 2 then m.fd.set i (m.fa.getD i 0) else m.fd, m.fa.set i (-1), m.fc⟩
def EB (p : Ab) (m : Ac) (s : Ad) : Ac × Int :=
 if Gu s = false then (E0, 1) else if GQ p s = false then (E0, 4) else match GE p m s with
  | none => (E0, 11)
  | some x => (x, 0)
end Go.Lift
namespace Go.Lift
open Option renaming bind_some → oS
open List renaming mem_of_getElem? → lM
open List renaming getElem?_eq_some_iff → lI
open List renaming getD_eq_getElem?_getD → lD
open Go
section clear
variable {p : Ab} {m : Ac} {i : Nat} {t : Av}
theorem Ss (hp : B0 p) (hm : CZ p m) (ht : p.fe[i]? = some t) (hs : Bp t = true) {u : Nat} (h : Cs (m.fc.getD i 0) u = true) : (u : Int) < p.fb.getD t.fg.toNat 0 ∧ u < 6 ∧ t.fg.toNat < p.fb.length := by
 have h1 := hm.high i t ht hs u h
 have hin := Im (hp.tab t (lM ht))
 have h2 := HQ hp (i := t.fg.toNat) (by omega)
 exact ⟨h1, by omega, by omega⟩
theorem SC (hp : B0 p) (hm : CZ p m) (ht : p.fe[i]? = some t) (hs : Bp t = true) (h4 : t.ff = 4) {u : Nat} (h : Cs (m.fc.getD i 0) u = true) :
  BE t.fk (u : Int) = some (t.fk.getD u []) ∧ BE (t.fk.getD u []) (m.fd.getD t.fg.toNat 0) = some (JW m t u) := by
 have hT := Jo (hp.tab t (lM ht))
 obtain ⟨h1, h2, h3⟩ := Ss hp hm ht hs h
 have hl := hT.reL h4
 have e : t.fk[u]? = some (t.fk.getD u []) := by rw [lD]; simp [show u < t.fk.length from by omega]
 have hr := hT.reR _ (lM e)
 have hb := hm.b0 t.fg.toNat h3
 refine ⟨by rw [AZ, e], ?_⟩
 unfold JW
 obtain ⟨b, hb'⟩ := Int.eq_ofNat_of_zero_le hb.1
 rw [hb'] at hb ⊢
 rw [Int.toNat_natCast]
 exact CN (by omega)
theorem MT (N : Nat) (hN : N ≤ 1000000) (h20 : 100 ≤ N) (hp : B0 p) (hm : CZ p m) (ht : p.fe[i]? = some t) :
  FT N p m (i : Int) = some (if Bp t = false ∨ m.fc.getD i 0 = FG m t.fg.toNat ∨ Hp p m i t = true then (false, m.fc) else (true, m.fc.set i (FG m t.fg.toNat))) := by
 have hi := (lI.1 ht).1
 have hin := Im (hp.tab t (lM ht))
 have hb := hm.base
 have hnx := hm.next
 have hh := hm.held
 have hr := Hj hp hm.toMixServ (s := t.fg.toNat) (by omega)
 have hrg := hm.range i hi
 have eh : BE m.fc (i : Int) = some (m.fc.getD i 0) := CN (by omega)
 unfold FT
 simp only [A1, AZ, ht, oS, Jp]
 have eh' : m.fc[i]? = some (m.fc.getD i 0) := by rw [← AZ, eh]
 cases hs : Bp t
 ·rw [Bool.not_false, AD, if_pos (.inl rfl)]
 ·rw [Bool.not_true, Ao, Pm N m _ hin.1 (by omega) (by omega) (hm.b0 _ (by omega)).1]
  simp only [oS, eh']
  by_cases h1 : m.fc.getD i 0 = FG m t.fg.toNat
  ·rw [beq_iff_eq.2 h1, AD, AD, if_pos (.inr (.inl h1))]
  ·rw [beq_eq_false_iff_ne.2 h1, Ao]
   by_cases h4 : t.ff = 4
   ·rw [beq_iff_eq.2 h4, AD, DY (d := 0) hin.1 (by omega)]
    simp only [oS]
    obtain ⟨a1, a2, a3⟩ := Qj hrg hr.2
    obtain ⟨w, hw⟩ := Int.eq_ofNat_of_zero_le a2
    unfold EZ
    rw [hw] at a1 a3 ⊢
    rw [O9 N t _ (JW m t) 8 N w (V9 _) (by omega) (by omega) (fun u hu hbu => by
     have := a1 u; rw [hbu] at this
     exact ⟨_, SC hp hm ht hs h4 (Bool.and_eq_true_iff.1 this.symm).1⟩)]
    simp only [oS]
    have e : (!(List.range 8).all fun u => !Cs (w : Int) u || JW m t u) = Hp p m i t := by
     unfold Hp
     rw [beq_iff_eq.2 h4, Bool.true_and, List.not_all_eq_any_not]
     congr 1
     funext u
     rw [a1 u, hr.1 u]
     unfold My
     cases Cs (m.fc.getD i 0) u <;> cases G4 m t.fg.toNat u <;> cases JW m t u <;> rfl
    rw [e]
    cases hst : Hp p m i t
    ·rw [Ao, if_neg (by rintro (h | h | h); cases h; exact h1 h; cases h)]; rfl
    ·rw [AD, if_pos (.inr (.inr rfl))]
   ·have e : Hp p m i t = false := by unfold Hp; rw [beq_eq_false_iff_ne.2 h4]; rfl
    rw [beq_eq_false_iff_ne.2 h4, Ao, Ao, e, if_neg (by rintro (h | h | h); cases h; exact h1 h; cases h)]; rfl
theorem Mv (N : Nat) (hN : N ≤ 1000000) (h20 : 100 ≤ N) (hp : B0 p) (hm : CZ p m) (ht : p.fe[i]? = some t) (hs : Bp t = true) (s : Ad) (hsi : s.fh = (i : Int)) (j : Option (Ac × Bool)) :
  Bn N p m s t (FG m t.fg.toNat) (fun _ => j) N 0 = if Hp p m i t = true then some (E0, false) else j := by
 have hi := (lI.1 ht).1
 have hin := Im (hp.tab t (lM ht))
 have hb := hm.base
 have hh := hm.held
 have hr := Hj hp hm.toMixServ (s := t.fg.toNat) (by omega)
 have hrg := hm.range i hi
 have hver := HQ hp (i := t.fg.toNat) (by omega)
 obtain ⟨nv, hnv⟩ := Int.eq_ofNat_of_zero_le (show 0 ≤ p.fb.getD t.fg.toNat 0 by omega)
 have eh' : m.fc[i]? = some (m.fc.getD i 0) := by rw [lD]; simp [show i < m.fc.length from by omega]
 have := CA (Bn N p m s t (FG m t.fg.toNat) fun _ => j) (List.range nv) j (fun u _ => if (My m i t u && (t.ff == 4 && !JW m t u)) = true then some (E0, false) else none)
  (fun n u x hx => by
   have hu : u < nv := by
    have := (lI.1 hx).1
    simpa using this
   rw [Bn, DY (d := 0) hin.1 (by omega), hnv]
   simp only [oS]
   rw [AE (by omega)]
   simp only [A1, hsi, AZ, eh', oS]
   rw [SO N hrg (by omega), AL (by omega)]
   simp only [oS]
   cases h1 : Cs (m.fc.getD i 0) u
   ·have e : My m i t u = false := by unfold My; rw [h1]; rfl
    rw [Ao, Ao, Ao, e]; rfl
   ·rw [AD, SO N hr.2 (by omega), hr.1 u]
    simp only [oS]
    have e : My m i t u = !G4 m t.fg.toNat u := by unfold My; rw [h1]; rfl
    rw [← e]
    cases h2 : My m i t u
    ·rw [Ao, Ao]; rfl
    ·rw [AD]
     by_cases h4 : t.ff = 4
     ·obtain ⟨e1, e2⟩ := SC hp hm ht hs h4 h1
      rw [AZ] at e1
      rw [beq_iff_eq.2 h4, AD, e1, DY (d := 0) hin.1 (by omega)]
      simp only [oS]
      rw [e2]
      simp only [oS]
      cases JW m t u <;> rfl
     ·rw [beq_eq_false_iff_ne.2 h4, Ao, Ao]; rfl)
  (fun n => by
   rw [Bn, DY (d := 0) hin.1 (by omega), hnv]
   simp only [oS, List.length_range]
   rw [AC (by omega)]) N 0 (Nat.zero_le _) (by simp; omega)
 have e0 : Bn N p m s t (FG m t.fg.toNat) (fun _ => j) N 0 = _ := this
 rw [e0, List.drop_zero]
 by_cases hst : Hp p m i t = true
 ·rw [if_pos hst]
  unfold Hp at hst
  rw [Bool.and_eq_true, List.any_eq_true] at hst
  obtain ⟨h4, u, hu, h5⟩ := hst
  rw [Bool.and_eq_true] at h5
  have h6 : Cs (m.fc.getD i 0) u = true := by have := h5.1; unfold My at this; exact (Bool.and_eq_true_iff.1 this).1
  have h7 := Ss hp hm ht hs h6
  cases hsc : C5 (fun u (_ : Nat) => if (My m i t u && (t.ff == 4 && !JW m t u)) = true then some (E0, false) else none) 0 (List.range nv) with
  | some r =>
   obtain ⟨q, x, hx, hf⟩ := Fy hsc
   split at hf
   ·cases hf; rfl
   ·cases hf
  | none =>
   exfalso
   have hx : (List.range nv)[u]? = some u := List.getElem?_range (by omega)
   have := G6 hsc u u hx
   rw [Nat.zero_add, h5.1, h4, h5.2] at this
   cases this
 ·rw [if_neg hst]
  have : C5 (fun u (_ : Nat) => if (My m i t u && (t.ff == 4 && !JW m t u)) = true then some (E0, false) else none) 0 (List.range nv) = none := ET fun q x hx => by
   rw [Nat.zero_add]
   split
   ·rename_i h5
    exfalso; apply hst
    rw [Bool.and_eq_true, Bool.and_eq_true] at h5
    unfold Hp
    rw [h5.2.1, Bool.true_and, List.any_eq_true]
    have hq : q < nv := by
     have := (lI.1 hx).1
     simpa using this
    exact ⟨q, List.mem_range.2 (by omega), by rw [h5.1, h5.2.2]; rfl⟩
   ·rfl
  rw [this]; rfl
end clear
end Go.Lift
namespace Go.Lift
open Option renaming bind_some → oS
open List renaming mem_of_getElem? → lM
open Go
theorem It {s : Ad} (h : Gu s = true) : 1 ≤ s.ff ∧ s.ff ≤ 4 ∧ 0 ≤ s.fh ∧ 0 ≤ s.fi ∧ (s.ff ≠ 1 → s.fi = 0) := by
 unfold Gu at h
 rw [Bool.and_eq_true, decide_eq_true_iff, Bool.or_eq_true, beq_iff_eq, beq_iff_eq] at h
 exact ⟨h.1.1, h.1.2.1, h.1.2.2.1, h.1.2.2.2, fun hk => h.2.elim (fun e => (hk e).elim) id⟩
theorem K7 {p : Ab} {s : Ad} (h : GQ p s = true) : (s.ff = 3 → s.fh < (p.fe.length : Int)) ∧ (s.ff ≠ 3 → s.fh < (p.fb.length : Int)) ∧ (s.ff = 1 → s.fi < p.fb.getD s.fh.toNat 0) := by
 unfold GQ at h
 split at h
 ·rename_i hk
  rw [decide_eq_true_iff] at h
  exact ⟨fun _ => h, fun hn => (hn hk).elim, fun h1 => by omega⟩
 ·rename_i hk
  rw [Bool.and_eq_true, decide_eq_true_iff, Bool.or_eq_true, decide_eq_true_iff, bne_iff_ne] at h
  exact ⟨fun h3 => (hk h3).elim, fun _ => h.1, fun h1 => h.2.elim (fun hn => (hn h1).elim) id⟩
theorem Q8 (N : Nat) {p : Ab} {m : Ac} (hp : B0 p) (hm : CZ p m) : Fp N m = some m := by
 have hnv := hp.nv
 have hnt := hp.nt
 have h1 := hm.base
 have h2 := hm.next
 have h3 := hm.held
 unfold Fp
 rw [JE N _ (by simp only [Dl]; omega), JE N _ (by simp only [Dl]; omega), Nq N _ (by simp only [Dl]; omega)]
 rfl
theorem MY (N : Nat) (hN : N ≤ 1000000) (h20 : 100 ≤ N) {p : Ab} {m : Ac} (hp : B0 p) (hm : CZ p m) {s : Ad} (hv : Gu s = true) (hx : GQ p s = true) :
  ∃ o, FW N p m s = some (o, (GE p m s).isSome) ∧ ∀ x, GE p m s = some x → o = x := by
 obtain ⟨k1, k4, i0, v0, vk⟩ := It hv
 obtain ⟨x3, xn, x1⟩ := K7 hx
 have hnv := hp.nv
 have hnt := hp.nt
 have hb := hm.base
 have hn := hm.next
 have hh := hm.held
 obtain ⟨i, hi⟩ := Int.eq_ofNat_of_zero_le i0
 unfold FW GE
 rw [Q8 N hp hm]
 simp only [oS, A1]
 by_cases hk1 : s.ff = 1
 ·have hi1 : (i : Int) < p.fb.length := by have := xn (by omega); omega
  rw [beq_iff_eq.2 hk1, AD, if_pos hk1]
  unfold G8
  simp only [A1, hi, Int.toNat_natCast]
  rw [CN (d := 0) (show i < m.fa.length by omega)]
  simp only [oS]
  by_cases c1 : 0 ≤ m.fa.getD i 0
  ·rw [AE c1, AD, if_pos (.inl c1)]
   exact ⟨_, rfl, fun x hx => by cases hx⟩
  ·rw [AC c1, CN (d := 0) (show i < m.fd.length by omega)]
   simp only [oS]
   by_cases c2 : m.fd.getD i 0 = s.fi
   ·rw [beq_iff_eq.2 c2, AD, if_pos (.inr c2)]
    exact ⟨_, rfl, fun x hx => by cases hx⟩
   ·rw [beq_eq_false_iff_ne.2 c2, Ao, (LS (_R := Unit) N p s m.fc v0 hh (by omega) hN _).1, if_neg (by rintro (h | h); exact c1 h; exact c2 h)]
    exact ⟨_, rfl, fun x hx => by cases hx; rfl⟩
 ·rw [beq_eq_false_iff_ne.2 hk1, Ao, if_neg hk1]
  by_cases hk3 : s.ff = 3
  ·have hi3 : i < p.fe.length := by have := x3 hk3; omega
   have ht : p.fe[i]? = some p.fe[i] := by simp [hi3]
   rw [beq_iff_eq.2 hk3, AD, if_pos hk3, hi, MT N hN h20 hp hm ht]
   simp only [oS, Int.toNat_natCast, ht]
   split
   ·exact ⟨_, rfl, fun x hx => by cases hx⟩
   ·exact ⟨_, rfl, fun x hx => by cases hx; rfl⟩
  ·have hi1 : (i : Int) < p.fb.length := by have := xn hk3; omega
   rw [beq_eq_false_iff_ne.2 hk3, Ao, if_neg hk3, hi, CN (d := 0) (show i < m.fa.length by omega)]
   simp only [oS, Int.toNat_natCast]
   by_cases c1 : m.fa.getD i 0 < 0
   ·rw [AE c1, if_pos c1]
    exact ⟨_, rfl, fun x hx => by cases hx⟩
   ·rw [AC c1, if_neg c1]
    by_cases hk2 : s.ff = 2
    ·rw [beq_iff_eq.2 hk2, AD, CN (d := 0) (show i < m.fd.length by omega), if_pos hk2]
     exact ⟨_, rfl, fun x hx => by cases hx; rfl⟩
    ·rw [beq_eq_false_iff_ne.2 hk2, Ao, if_neg hk2]
     exact ⟨_, rfl, fun x hx => by cases hx; rfl⟩
theorem M8 (N : Nat) (hN : N ≤ 1000000) (h20 : 100 ≤ N) {p : Ab} {m : Ac} (hp : B0 p) (hm : CZ p m) (s : Ad) : FU N p m s = some (EB p m s) := by
 unfold FU EB
 rw [JZ]
 simp only [oS]
 cases hv : Gu s
 ·rw [Bool.not_false, AD, if_pos rfl]; rfl
 ·rw [Bool.not_true, Ao, if_neg (by simp), MG N p s hv]
  simp only [oS]
  cases hx : GQ p s
  ·rw [Bool.not_false, AD, if_pos rfl]; rfl
  ·rw [Bool.not_true, Ao, if_neg (by simp)]
   obtain ⟨o, e, ho⟩ := MY N hN h20 hp hm hv hx
   rw [e]
   simp only [oS]
   cases ha : GE p m s with
   | none => rfl
   | some x => rw [ho x ha]; rfl
theorem OF (N : Nat) (hN : N ≤ 1000000) (h20 : 100 ≤ N) {p : Ab} {m : Ac} (hp : B0 p) (hm : CZ p m) {s : Ad} (hv : Gu s = true) (hx : GQ p s = true) :
  C2 N p m s = some (match GE p m s with | none => (E0, false) | some x => (x, true)) := by
 obtain ⟨k1, k4, i0, v0, vk⟩ := It hv
 obtain ⟨x3, xn, x1⟩ := K7 hx
 have hnv := hp.nv
 have hnt := hp.nt
 have hb := hm.base
 have hn := hm.next
 have hh := hm.held
 obtain ⟨i, hi⟩ := Int.eq_ofNat_of_zero_le i0
 unfold C2 GE
 rw [As (by simp [Dl]; omega), As (by simp [Dl]; omega), As (by simp [Dl]; omega)]
 simp only [A1, List.nil_append]
 by_cases hk1 : s.ff = 1
 ·have hi1 : (i : Int) < p.fb.length := by have := xn (by omega); omega
  rw [beq_iff_eq.2 hk1, AD, if_pos hk1]
  simp only [hi, Int.toNat_natCast]
  rw [CN (d := 0) (show i < m.fa.length by omega)]
  simp only [oS]
  by_cases c1 : 0 ≤ m.fa.getD i 0
  ·rw [AE c1, AD, if_pos (.inl c1)]; rfl
  ·rw [AC c1, CN (d := 0) (show i < m.fd.length by omega)]
   simp only [oS]
   by_cases c2 : m.fd.getD i 0 = s.fi
   ·rw [beq_iff_eq.2 c2.symm, AD, if_pos (.inr c2)]; rfl
   ·rw [beq_eq_false_iff_ne.2 (fun h => c2 h.symm), Ao, MH N p s m.fc v0 hh (by omega) hN _, if_neg (by rintro (h | h); exact c1 h; exact c2 h)]
 ·rw [beq_eq_false_iff_ne.2 hk1, Ao, if_neg hk1]
  by_cases hk3 : s.ff = 3
  ·have hi3 : i < p.fe.length := by have := x3 hk3; omega
   have ht : p.fe[i]? = some p.fe[i] := by simp [hi3]
   have hin := Im (hp.tab _ (lM ht))
   have eh' : BE m.fc (i : Int) = some (m.fc.getD i 0) := CN (by omega)
   rw [beq_eq_false_iff_ne.2 (show s.ff ≠ 2 by omega), Ao, beq_iff_eq.2 hk3, AD, if_pos hk3, hi, AZ, ht]
   simp only [oS, E4, Int.toNat_natCast, ht]
   cases hs : Bp p.fe[i]
   ·rw [Bool.not_false, AD, if_pos (.inl rfl)]; rfl
   ·rw [Bool.not_true, Ao, HU N m _ hin.1 (by omega) (by omega) (hm.b0 _ (by omega)).1, eh']
    simp only [oS]
    by_cases h1 : m.fc.getD i 0 = FG m (p.fe[i]).fg.toNat
    ·rw [beq_iff_eq.2 h1, AD, if_pos (.inr (.inl h1))]; rfl
    ·rw [beq_eq_false_iff_ne.2 h1, Ao]
     rw [Mv N hN h20 hp hm ht hs s hi]
     cases hst : Hp p m i p.fe[i]
     ·rw [if_neg (by simp), if_neg (by rintro (h | h | h); cases h; exact h1 h; cases h)]
     ·rw [if_pos rfl, if_pos (.inr (.inr rfl))]
  ·have hi1 : (i : Int) < p.fb.length := by have := xn hk3; omega
   rw [if_neg hk3, hi, CN (d := 0) (show i < m.fa.length by omega)]
   simp only [oS, Int.toNat_natCast]
   by_cases hk2 : s.ff = 2
   ·rw [beq_iff_eq.2 hk2, AD, if_pos hk2]
    by_cases c1 : m.fa.getD i 0 < 0
    ·rw [AE c1, if_pos c1]; rfl
    ·rw [AC c1, if_neg c1, CN (d := 0) (show i < m.fd.length by omega)]; rfl
   ·rw [beq_eq_false_iff_ne.2 hk2, Ao, beq_eq_false_iff_ne.2 hk3, Ao, if_neg hk2]
    by_cases c1 : m.fa.getD i 0 < 0
    ·rw [AE c1, if_pos c1]; rfl
    ·rw [AC c1, if_neg c1]
end Go.Lift
namespace Go.Lift
open Option renaming bind_some → oS
open List renaming mem_of_getElem? → lM
open List renaming getElem?_eq_some_iff → lI
open Go
theorem PJ (s : Ad) : ∀ (xs : List Av) (i : Nat) (a : List Int), i + xs.length ≤ a.length → (Ht (Rw s) i xs a).length = a.length ∧ ∀ q, (Ht (Rw s) i xs a).getD q 0 = match (if i ≤ q then xs[q - i]? else none) with
  | some t => if QM s t = true then KX .u8 (a.getD q 0) (C7 .u8 1 s.fi) else a.getD q 0
  | none => a.getD q 0
 | [], i, a, _ => by
  refine ⟨rfl, fun q => ?_⟩
  split
  ·rename_i h; split at h
   ·simp at h
   ·cases h
  ·rfl
 | x :: xs, i, a, hl => by
  have hl' : i + (xs.length + 1) ≤ a.length := by simpa using hl
  have ha : (Rw s i x a).length = a.length := by unfold Rw; split <;> simp
  obtain ⟨ih1, ih2⟩ := PJ s xs (i + 1) (Rw s i x a) (by omega)
  refine ⟨by rw [Ht, ih1, ha], fun q => ?_⟩
  rw [Ht, ih2 q]
  have hu : (Rw s i x a).getD q 0 = if q = i ∧ QM s x = true then KX .u8 (a.getD q 0) (C7 .u8 1 s.fi) else a.getD q 0 := by
   unfold Rw
   by_cases hc : QM s x = true
   ·rw [if_pos hc, H1 (by omega)]
    by_cases hq : q = i
    ·subst hq; rw [if_pos rfl, if_pos ⟨rfl, hc⟩]
    ·rw [if_neg hq, if_neg (fun h => hq h.1)]
   ·rw [if_neg hc, if_neg (fun h => hc h.2)]
  by_cases h1 : i + 1 ≤ q
  ·rw [if_pos h1, if_pos (show i ≤ q by omega), hu, if_neg (by omega)]
   rw [show (x :: xs)[q - i]? = xs[q - (i + 1)]? from by rw [show q - i = (q - (i + 1)) + 1 from by omega, List.getElem?_cons_succ]]
  ·rw [if_neg h1]
   by_cases h2 : q = i
   ·subst h2
    rw [if_pos (Nat.le_refl _), Nat.sub_self, hu]
    simp
   ·rw [if_neg (show ¬ i ≤ q by omega), hu, if_neg (by omega)]
theorem Ri {p : Ab} {s : Ad} {held : List Int} (hl : held.length = p.fe.length) : (HX p s held).length = p.fe.length ∧ ∀ q t, p.fe[q]? = some t → (HX p s held).getD q 0 = if QM s t = true then KX .u8 (held.getD q 0) (C7 .u8 1 s.fi) else held.getD q 0 := by
 obtain ⟨h1, h2⟩ := PJ s p.fe 0 held (by omega)
 refine ⟨h1.trans hl, fun q t ht => ?_⟩
 have := h2 q
 rw [if_pos (Nat.zero_le _), Nat.sub_zero, ht] at this
 exact this
theorem Mc {m : Ac} {s v : Nat} : G4 m s v = true ↔ m.fd.getD s 0 = (v : Int) ∨ m.fa.getD s 0 = (v : Int) := by
 unfold G4; rw [Bool.or_eq_true, decide_eq_true_iff, decide_eq_true_iff]
theorem SF {p : Ab} {m x : Ac} (hp : B0 p) (hm : CZ p m) {s : Ad} (hv : Gu s = true) (hx : GQ p s = true) (h : GE p m s = some x) : CZ p x := by
 obtain ⟨k1, k4, i0, v0, vk⟩ := It hv
 obtain ⟨x3, xn, x1⟩ := K7 hx
 obtain ⟨i, hi⟩ := Int.eq_ofNat_of_zero_le i0
 have hb := hm.base
 have hn := hm.next
 have hh := hm.held
 unfold GE at h
 simp only [hi, Int.toNat_natCast] at h
 rw [hi, Int.toNat_natCast] at x1
 split at h
 ·rename_i hk1
  have hi1 : i < p.fb.length := by have := xn (by omega); omega
  have hx1 := x1 hk1
  have hvi := HQ hp hi1
  split at h
  ·cases h
  rename_i hc
  cases h
  obtain ⟨u1, u2⟩ := Ri (s := s) hh
  obtain ⟨b, hbv⟩ := Int.eq_ofNat_of_zero_le v0
  have hob := T0 (b := b) (by omega)
  have hN : ∀ q, (m.fa.set i s.fi).getD q 0 = if q = i then s.fi else m.fa.getD q 0 := fun q => H1 (by omega)
  refine { base := hb, next := by simpa using hn, held := u1, b0 := hm.b0, n0 := fun q hq => ?_, ne := fun q hq => ?_, range := fun q hq => ?_, low := fun q t ht hs v hr => ?_, high := fun q t ht hs v hbit => ?_, none := fun q t ht hs => ?_ }
  ·show -1 ≤ (m.fa.set i s.fi).getD q 0 ∧ (m.fa.set i s.fi).getD q 0 < _
   rw [hN q]
   split
   ·rename_i e; subst e; omega
   ·exact hm.n0 q hq
  ·show m.fd.getD q 0 ≠ (m.fa.set i s.fi).getD q 0
   rw [hN q]
   split
   ·rename_i e; subst e; exact fun h => hc (.inr h)
   ·exact hm.ne q hq
  ·have ht : p.fe[q]? = some p.fe[q] := by simp [hq]
   show 0 ≤ (HX p s m.fc).getD q 0 ∧ (HX p s m.fc).getD q 0 ≤ 255
   rw [u2 q _ ht, hbv]
   split
   ·exact (P4 (hm.range q hq) hob.2).2
   ·exact hm.range q hq
  ·have hq := (lI.1 ht).1
   show Cs ((HX p s m.fc).getD q 0) v = true
   have hin := Im (hp.tab t (lM ht))
   rw [Mc] at hr
   have hr : m.fd.getD t.fg.toNat 0 = (v : Int) ∨ (m.fa.set i s.fi).getD t.fg.toNat 0 = (v : Int) := hr
   rw [hN] at hr
   rw [u2 q t ht, hbv]
   have hlow := hm.low q t ht hs v
   rw [Mc] at hlow
   by_cases hf : t.fg.toNat = i
   ·have hup : QM s t = true := by unfold QM; rw [hs, Bool.and_true, beq_iff_eq, hi]; omega
    rw [if_pos hup, (P4 (hm.range q hq) hob.2).1, hob.1 v, Bool.or_eq_true, decide_eq_true_iff]
    rw [if_pos hf] at hr
    rcases hr with h | h
    ·exact .inl (hlow (.inl h))
    ·right; omega
   ·rw [if_neg hf] at hr
    have hup : QM s t = false := by unfold QM; rw [hs, Bool.and_true, beq_eq_false_iff_ne, hi]; omega
    rw [hup, if_neg (by simp)]
    exact hlow hr
  ·have hq := (lI.1 ht).1
   have hbit : Cs ((HX p s m.fc).getD q 0) v = true := hbit
   have hin := Im (hp.tab t (lM ht))
   rw [u2 q t ht, hbv] at hbit
   split at hbit
   ·rename_i hup
    rw [(P4 (hm.range q hq) hob.2).1, hob.1 v, Bool.or_eq_true, decide_eq_true_iff] at hbit
    rcases hbit with h | h
    ·exact hm.high q t ht hs v h
    ·unfold QM at hup
     rw [hs, Bool.and_true, beq_iff_eq, hi] at hup
     rw [hup, Int.toNat_natCast]; omega
   ·exact hm.high q t ht hs v hbit
  ·show (HX p s m.fc).getD q 0 = 0
   have hup : QM s t = false := by unfold QM; rw [hs, Bool.and_false]
   rw [u2 q t ht, hup, if_neg (by simp)]
   exact hm.none q t ht hs
 ·rename_i hk1
  split at h
  ·rename_i hk3
   have hi3 : i < p.fe.length := by have := x3 hk3; omega
   have ht0 : p.fe[i]? = some p.fe[i] := by simp [hi3]
   rw [ht0] at h
   simp only at h
   split at h
   ·cases h
   rename_i hc
   cases h
   have hin0 := Im (hp.tab _ (lM ht0))
   have hr0 := Hj hp hm.toMixServ (s := (p.fe[i]).fg.toNat) (by omega)
   have hs0 : Bp p.fe[i] = true := by
    cases hs : Bp p.fe[i]
    ·exact (hc (.inl hs)).elim
    ·rfl
   have hH : ∀ q, (m.fc.set i (FG m (p.fe[i]).fg.toNat)).getD q 0 = if q = i then FG m (p.fe[i]).fg.toNat else m.fc.getD q 0 := fun q => H1 (by omega)
   refine { base := hb, next := hn, held := by simpa using hh, b0 := hm.b0, n0 := hm.n0, ne := hm.ne, range := fun q hq => ?_, low := fun q t ht hs v hr => ?_, high := fun q t ht hs v hbit => ?_, none := fun q t ht hs => ?_ }
   ·show 0 ≤ (m.fc.set i (FG m (p.fe[i]).fg.toNat)).getD q 0 ∧ (m.fc.set i (FG m (p.fe[i]).fg.toNat)).getD q 0 ≤ 255
    rw [hH q]
    split
    ·exact hr0.2
    ·exact hm.range q hq
   ·show Cs ((m.fc.set i (FG m (p.fe[i]).fg.toNat)).getD q 0) v = true
    have hr : G4 m t.fg.toNat v = true := hr
    rw [hH q]
    split
    ·rename_i e; subst e
     rw [ht0] at ht; cases ht
     rw [hr0.1]; exact hr
    ·exact hm.low q t ht hs v hr
   ·have hbit : Cs ((m.fc.set i (FG m (p.fe[i]).fg.toNat)).getD q 0) v = true := hbit
    rw [hH q] at hbit
    split at hbit
    ·rename_i e; subst e
     rw [ht0] at ht; cases ht
     rw [hr0.1] at hbit
     exact hm.high q _ ht0 hs0 v (hm.low q _ ht0 hs0 v hbit)
    ·exact hm.high q t ht hs v hbit
   ·show (m.fc.set i (FG m (p.fe[i]).fg.toNat)).getD q 0 = 0
    rw [hH q, if_neg (fun e => by subst e; rw [ht0] at ht; cases ht; rw [hs0] at hs; cases hs)]
    exact hm.none q t ht hs
  ·rename_i hk3
   have hi1 : i < p.fb.length := by have := xn hk3; omega
   have hvi := HQ hp hi1
   split at h
   ·cases h
   rename_i hc
   cases h
   have hN : ∀ q, (m.fa.set i (-1)).getD q 0 = if q = i then -1 else m.fa.getD q 0 := fun q => H1 (by omega)
   have hB : ∀ q, (if s.ff = 2 then m.fd.set i (m.fa.getD i 0) else m.fd).getD q 0 = if s.ff = 2 ∧ q = i then m.fa.getD i 0 else m.fd.getD q 0 := fun q => by
    by_cases hk2 : s.ff = 2
    ·rw [if_pos hk2, H1 (by omega)]
     by_cases e : q = i
     ·rw [if_pos e, if_pos ⟨hk2, e⟩]
     ·rw [if_neg e, if_neg (fun h => e h.2)]
    ·rw [if_neg hk2, if_neg (fun h => hk2 h.1)]
   have hrun : ∀ q v, G4 ⟨if s.ff = 2 then m.fd.set i (m.fa.getD i 0) else m.fd, m.fa.set i (-1), m.fc⟩ q v = true → G4 m q v = true := fun q v hr => by
    rw [Mc] at hr ⊢
    simp only [hN q, hB q] at hr
    by_cases e : q = i
    ·subst e
     rw [if_pos rfl] at hr
     by_cases hk2 : s.ff = 2
     ·rw [if_pos ⟨hk2, rfl⟩] at hr; omega
     ·rw [if_neg (fun h => hk2 h.1)] at hr; omega
    ·rw [if_neg e, if_neg (fun h => e h.2)] at hr; exact hr
   refine { base := by simp only; split <;> simp [hb], next := by simpa using hn, held := hh, b0 := fun q hq => ?_, n0 := fun q hq => ?_, ne := fun q hq => ?_, range := hm.range, low := fun q t ht hs v hr => hm.low q t ht hs v (hrun _ _ hr), high := hm.high, none := hm.none }
   ·simp only [hB q]
    split
    ·rename_i e; obtain ⟨_, e⟩ := e; subst e
     have := hm.n0 q hq
     omega
    ·exact hm.b0 q hq
   ·simp only [hN q]
    split
    ·rename_i e; subst e; omega
    ·exact hm.n0 q hq
   ·simp only [hB q, hN q]
    have h1 := hm.b0 q hq
    by_cases e : q = i
    ·rw [if_pos e]
     split
     ·rename_i e2; obtain ⟨_, e2⟩ := e2; subst e2; omega
     ·omega
    ·rw [if_neg e, if_neg (fun h => e h.2)]; exact hm.ne q hq
theorem Oz (N : Nat) (hN : N ≤ 1000000) (h20 : 100 ≤ N) {p : Ab} {m : Ac} (hw : JA IE m.fc) (s : Ad) : DM N p m s = some (if Eg p m = 0 then EB p m s else (E0, Eg p m)) := by
 unfold DM EB
 rw [II N p m hN (by omega)]
 simp only [oS, A1]
 by_cases hval : Eg p m = 0
 ·obtain ⟨hp, hm⟩ := KW hw hval
  rw [if_pos hval, hval, bne_self_eq_false, Ao, Ko]
  simp only [oS]
  cases hv : Gu s
  ·rw [Bool.not_false, AD, if_pos rfl]; rfl
  ·rw [Bool.not_true, Ao, if_neg (by simp)]
   obtain ⟨k1, k4, i0, v0, vk⟩ := It hv
   have key : ∀ b : Bool, GQ p s = b → (if b = false then (E0, (4 : Int)) else match GE p m s with | none => (E0, 11) | some x => (x, 0)) = (if b = false then (E0, (4 : Int)) else match GE p m s with | none => (E0, 11) | some x => (x, 0)) := fun _ _ => rfl
   have tail : GQ p s = true → ((C2 N p m s).bind fun v15 => AJ (!v15.2) (some (Ac.mk [] [] [], (11 : Int))) (some (v15.1, 0))) = some (match GE p m s with | none => (E0, 11) | some x => (x, 0)) := fun hx => by
    rw [OF N hN h20 hp hm hv hx]
    cases GE p m s <;> rfl
   have zz : (Ac.mk [] [] [], (4 : Int)) = (E0, 4) := rfl
   by_cases hk3 : s.ff = 3
   ·rw [beq_iff_eq.2 hk3, AD, show (s.ff != 3) = false from by rw [hk3]; rfl]
    have hX : GQ p s = decide (s.fh < (p.fe.length : Int)) := by unfold GQ; rw [if_pos hk3]
    by_cases c : (p.fe.length : Int) ≤ s.fh
    ·rw [AE c, AD, hX, decide_eq_false (by omega), if_pos rfl]; rfl
    ·have hx : GQ p s = true := by rw [hX, decide_eq_true (by omega)]
     rw [AC c, Ao, Ao, beq_eq_false_iff_ne.2 (show s.ff ≠ 1 by omega), Ao, Ao, hx, if_neg (by simp)]
     exact tail hx
   ·rw [beq_eq_false_iff_ne.2 hk3, Ao, bne_iff_ne.2 hk3, AD]
    have hX : GQ p s = (decide (s.fh < (p.fb.length : Int)) && (s.ff != 1 || decide (s.fi < p.fb.getD s.fh.toNat 0))) := by unfold GQ; rw [if_neg hk3]
    by_cases c : (p.fb.length : Int) ≤ s.fh
    ·rw [decide_eq_true c, AD, hX, decide_eq_false (show ¬ s.fh < (p.fb.length : Int) by omega), Bool.false_and, if_pos rfl]; rfl
    ·rw [decide_eq_false c, Ao]
     by_cases hk1 : s.ff = 1
     ·rw [beq_iff_eq.2 hk1, AD, DY (d := 0) i0 (by omega)]
      simp only [oS]
      by_cases c2 : p.fb.getD s.fh.toNat 0 ≤ s.fi
      ·rw [decide_eq_true c2, AD, hX, decide_eq_false (show ¬ s.fi < p.fb.getD s.fh.toNat 0 by omega), show (s.ff != 1) = false from by rw [hk1]; rfl, Bool.false_or, Bool.and_false, if_pos rfl]; rfl
      ·have hx : GQ p s = true := by rw [hX, decide_eq_true (by omega), decide_eq_true (by omega), Bool.or_true]; rfl
       rw [decide_eq_false c2, Ao, hx, if_neg (by simp)]
       exact tail hx
     ·have hx : GQ p s = true := by rw [hX, decide_eq_true (by omega), bne_iff_ne.2 hk1]; rfl
      rw [beq_eq_false_iff_ne.2 hk1, Ao, Ao, hx, if_neg (by simp)]
      exact tail hx
 ·rw [if_neg hval, bne_iff_ne.2 hval, AD]; rfl
theorem M4 (N : Nat) (hN : N ≤ 1000000) (h20 : 100 ≤ N) {p : Ab} {m : Ac} (hw : JA IE m.fc) (s : Ad) : E5 N p m s = some (if Eg p m = 0 then EB p m s else (E0, Eg p m)) := by
 unfold E5
 rw [IJ N p m hN (by omega) hw]
 simp only [oS]
 by_cases hval : Eg p m = 0
 ·obtain ⟨hp, hm⟩ := KW hw hval
  rw [if_pos hval, hval, bne_self_eq_false, Ao, M8 N hN h20 hp hm s]; rfl
 ·rw [if_neg hval, bne_iff_ne.2 hval, AD]; rfl
theorem JH {p : Ab} {m : Ac} (hp : B0 p) (hm : CZ p m) {s : Ad} (h : (EB p m s).2 = 0) : CZ p (EB p m s).1 := by
 unfold EB at h ⊢
 split at h
 ·cases h
 rename_i h1
 rw [if_neg h1]
 split at h
 ·cases h
 rename_i h2
 rw [if_neg h2]
 cases ha : GE p m s with
 | none => rw [ha] at h; cases h
 | some x => exact SF hp hm (by simpa using h1) (by simpa using h2) ha
end Go.Lift
namespace Go.Lift
open Go
section
variable {N : Nat} {p : Ab} {l : List Ad}
end
end Go.Lift
namespace Go.Lift
open Go
theorem RZ {α : Type} (l : List α) (i : Nat) : l.eraseIdx i = l.take i ++ l.drop (i + 1) := List.eraseIdx_eq_take_drop_succ ..
theorem Ru (N : Nat) (l : List Ad) (i : Nat) (hi : i < l.length) (hl : l.length ≤ 1000) : ∃ X, BH N l (i : Int) (((i + 1 : Nat) : Int)) = some (l.length - 1, X) ∧ X.take (l.length - 1) = l.eraseIdx i ∧ l.length - 1 ≤ X.length := by
 unfold BH
 have e1 : ((l.drop (i + 1)).take (l.length - (i + 1))) = l.drop (i + 1) := List.take_of_length_le (by simp)
 have e2 : i + (l.drop (i + 1)).length = l.length - 1 := by simp; omega
 have e3 : (Hk l (0 + i) (l.drop (i + 1))).length = l.length := G7 (by simp; omega)
 have e4 : ((i : Int) + ((l.drop (i + 1)).length : Int)).toNat = l.length - 1 := by omega
 simp only [Int.toNat_natCast, e1, e2, e4, e3]
 rw [As ⟨by omega, by omega, by omega, by omega, by omega, Nat.le_refl _⟩, beq_eq_false_iff_ne.2 (show (i : Int) ≠ ((i + 1 : Nat) : Int) by omega), Ao,
  As ⟨by omega, by omega, by omega⟩, As ⟨by omega, by omega, Nat.le_refl _⟩, As (by omega), As ⟨by omega, by omega, by omega, Nat.le_refl _⟩]
 refine ⟨_, rfl, ?_, ?_⟩
 ·rw [RZ]
  unfold Hk
  rw [Nat.zero_add, List.append_assoc]
  have h1 : (l.take i ++ l.drop (i + 1) ++ l.drop (i + (l.drop (i + 1)).length)).take (l.length - 1) = l.take i ++ l.drop (i + 1) := by
   have : (l.take i ++ l.drop (i + 1)).length = l.length - 1 := by simp; omega
   rw [List.take_append_of_le_length (by omega), List.take_of_length_le (by omega)]
  rw [h1, List.take_append_of_le_length (by simp; omega), List.take_of_length_le (by simp; omega)]
 ·rw [G7 (by rw [e3, List.length_replicate]; omega), e3]; omega
theorem Q6 {α : Type} {l : List α} {i : Nat} (h : i < l.length) : (l.eraseIdx i).length = l.length - 1 := List.length_eraseIdx_of_lt h
theorem IU (N : Nat) (l : List Ad) (h : l.length ≤ Dl) : AU N l = some l := by
 unfold AU
 rw [As (by simpa using h)]; rfl
end Go.Lift
namespace Go.Lift
namespace Bfs
section
variable {α σ : Type}
def code (rk : σ → Nat) (K : Nat) (w : List σ) : Nat := w.foldl (fun c s => c * K + rk s) 0
def Xd (rk : σ → Nat) (K : Nat) (w : List σ) : Prop := ∀ s, s ∈ w → 1 ≤ rk s ∧ rk s ≤ K
theorem Xd.snoc {rk : σ → Nat} {K : Nat} {w : List σ} {s : σ} (h : Xd rk K w) (hs : 1 ≤ rk s ∧ rk s ≤ K) : Xd rk K (w ++ [s]) := by
 intro x hx; rcases List.mem_append.1 hx with h1 | h1
 ·exact h x h1
 ·rw [List.mem_singleton.1 h1]; exact hs
abbrev Nd (α σ : Type) := α × Int × σ
def put [DecidableEq α] (i : Nat) (l : List (Nd α σ)) (q : σ × α) : List (Nd α σ) := if (l.any fun n => decide (n.1 = q.2)) = true then l else l ++ [(q.2, (i : Int), q.1)]
def R6 [DecidableEq α] (most i : Nat) : List (σ × α) → List (Nd α σ) → Option (List (Nd α σ))
 | [], l => some l
 | q :: qs, l => if most < (put i l q).length then none else R6 most i qs (put i l q)
def go [DecidableEq α] (nxt : α → List (σ × α)) (most : Nat) : Nat → Nat → List (Nd α σ) → Option (List (Nd α σ))
 | 0, _, _ => none
 | n + 1, i, l => match l[i]? with
  | none => some l
  | some nd => (R6 most i (nxt nd.1) l).bind fun l' => go nxt most n (i + 1) l'
def run (nxt : α → List (σ × α)) (x : α) : List σ → α → Prop
 | [], y => y = x
 | s :: w, y => ∃ z, (s, z) ∈ nxt x ∧ run nxt z w y
theorem HP {nxt : α → List (σ × α)} : ∀ {u w : List σ} {x y : α}, run nxt x (u ++ w) y ↔ ∃ z, run nxt x u z ∧ run nxt z w y
 | [], w, x, y => by simp [run]
 | s :: u, w, x, y => by
  simp only [List.cons_append, run]
  constructor
  ·rintro ⟨z, h1, h2⟩
   obtain ⟨z', h3, h4⟩ := HP.1 h2
   exact ⟨z', ⟨z, h1, h3⟩, h4⟩
  ·rintro ⟨z', ⟨z, h1, h3⟩, h4⟩
   exact ⟨z, h1, HP.2 ⟨z', h3, h4⟩⟩
end
end Bfs
end Go.Lift
namespace Go.Lift
open Go
theorem OM : ∀ {l : List Int}, Sl l = 0 → ∀ x, x ∈ l → x = 0
 | [], _, x, hx => by cases hx
 | y :: ys, h, x, hx => by
  unfold Sl at h
  split at h
  ·rename_i hy
   rcases List.mem_cons.1 hx with rfl | hx
   ·exact hy
   ·exact OM h x hx
  ·rename_i hy; exact absurd h hy
theorem NE {a b : Ac} (h : Oh a b = 0) : a = b := by
 have := OM h
 have h1 := LY _ _ (this (Fh a.fd b.fd) (by simp))
 have h2 := LY _ _ (this (Fh a.fa b.fa) (by simp))
 have h3 := LY _ _ (this (Fh a.fc b.fc) (by simp))
 cases a; cases b; simp only at h1 h2 h3; subst h1; subst h2; subst h3; rfl
instance Xc : DecidableEq Ac := fun a b => if h : Oh a b = 0 then isTrue (NE h) else isFalse (fun e => h (by rw [e]; exact Np b))
theorem PB (a b : Ac) : (Oh a b == 0) = decide (a = b) := by
 by_cases h : a = b
 ·rw [decide_eq_true h, h, Np]; rfl
 ·rw [decide_eq_false h]
  exact beq_eq_false_iff_ne.2 fun e => h (NE e)
def Lt : Ad := ⟨0, 0, 0⟩
end Go.Lift
namespace Go.Lift
open Option renaming bind_some → oS
open List renaming mem_of_getElem? → lM
open List renaming getElem?_eq_some_iff → lI
open Go
def Fg (p : Ab) : Ac → List Ad → Ac × Bool
 | m, [] => (m, true)
 | m, s :: l => if (EB p m s).2 = 0 ∧ F0 p (EB p m s).1 = true then Fg p (EB p m s).1 l else (E0, false)
theorem Oc {p : Ab} (hp : B0 p) : ∀ {l : List Ad} {m : Ac}, CZ p m → (Fg p m l).2 = true → CZ p (Fg p m l).1
 | [], m, hm, _ => hm
 | s :: l, m, hm, h => by
  unfold Fg at h ⊢
  by_cases hc : (EB p m s).2 = 0 ∧ F0 p (EB p m s).1 = true
  ·rw [if_pos hc] at h ⊢
   exact Oc hp (JH hp hm hc.1) h
  ·rw [if_neg hc] at h; cases h
section
variable {N : Nat} {p : Ab} {l : List Ad}
theorem Nl (hN : N ≤ 1000000) (h20 : 100 ≤ N) (hv : CK p = 0) (hl : l.length ≤ 1000) : ∀ (n i : Nat) (m : Ac), i ≤ l.length → l.length - i < n → CZ p m →
  Di N p l (fun v2 => some (v2, true)) n (m.fd, m.fa, m.fc, (i : Int)) = some (Fg p m (l.drop i))
 | 0, i, m, _, h, _ => by omega
 | n + 1, i, m, hi, h, hm => by
  obtain ⟨hp, _⟩ := Gf hv
  have hval := Hf hv hm
  rw [Di]
  by_cases hlt : i < l.length
  ·have hx : l[i]? = some l[i] := by simp [hlt]
   rw [AE (by simp only; omega), CQ hx, Fg]
   simp only [A1, AZ, hx, oS, AL (show i < 1000000 by omega)]
   rw [M4 N hN h20 (Ms hm), if_pos hval]
   simp only [oS]
   by_cases h1 : (EB p m l[i]).2 = 0
   ·have hm' := JH hp hm h1
    rw [h1, bne_self_eq_false, Ao, J0 N p _ hN h20 (Ms hm') (Hf hv hm')]
    simp only [oS, bne_self_eq_false, Ao]
    cases hr : F0 p (EB p m l[i]).1
    ·rw [if_neg (by simp)]; rfl
    ·rw [if_pos ⟨by simp, by simp⟩, Bool.not_true, Ao]
     exact Nl hN h20 hv hl n (i + 1) _ (by omega) (by omega) hm'
   ·rw [bne_iff_ne.2 h1, AD, if_neg (fun q => h1 q.1)]; rfl
  ·rw [AC (by simp only; omega), List.drop_eq_nil_of_le (by omega)]; rfl
theorem Qv (hN : N ≤ 1000000) (h20 : 100 ≤ N) (hv : CK p = 0) (hl : l.length ≤ 1000) (hln : l.length < N) {m : Ac} (hm : CZ p m) : CF N p m l = some (Fg p m l) := by
 unfold CF
 have := Nl hN h20 hv hl N 0 m (Nat.zero_le _) (by omega) hm
 rwa [List.drop_zero] at this
theorem Pw (hN : N ≤ 1000000) (h20 : 100 ≤ N) (hv : CK p = 0) (hl : l.length ≤ 1000) : ∀ (n i : Nat) (m : Ac), i ≤ l.length → l.length - i < n → CZ p m →
  B6 N p l (fun v2 => some (v2, true)) n (m.fd, m.fa, m.fc, (i : Int)) = some (Fg p m (l.drop i))
 | 0, i, m, _, h, _ => by omega
 | n + 1, i, m, hi, h, hm => by
  obtain ⟨hp, _⟩ := Gf hv
  have hval := Hf hv hm
  rw [B6]
  by_cases hlt : i < l.length
  ·have hx : l[i]? = some l[i] := by simp [hlt]
   rw [AE (by simp only; omega), CQ hx, Fg]
   simp only [A1, AZ, hx, oS, AL (show i < 1000000 by omega)]
   rw [Oz N hN h20 (Ms hm), if_pos hval]
   simp only [oS]
   by_cases h1 : (EB p m l[i]).2 = 0
   ·have hm' := JH hp hm h1
    rw [h1, bne_self_eq_false, Ao, J2 N p _ hN h20 hp hm']
    simp only [oS]
    cases hr : F0 p (EB p m l[i]).1
    ·rw [if_neg (by simp)]; rfl
    ·rw [if_pos ⟨by simp, by simp⟩, Bool.not_true, Ao]
     exact Pw hN h20 hv hl n (i + 1) _ (by omega) (by omega) hm'
   ·rw [bne_iff_ne.2 h1, AD, AD, if_neg (fun q => h1 q.1)]; rfl
  ·rw [AC (by simp only; omega), List.drop_eq_nil_of_le (by omega)]; rfl
theorem SJ (hN : N ≤ 1000000) (h20 : 100 ≤ N) (hv : CK p = 0) (hl : l.length ≤ 1000) (hln : l.length < N) {m : Ac} (hm : CZ p m) : CD N p m l = some (Fg p m l) := by
 unfold CD
 have := Pw hN h20 hv hl N 0 m (Nat.zero_le _) (by omega) hm
 rwa [List.drop_zero] at this
end
def OL (a b : Ad) : Bool := (a.ff == b.ff) && ((a.fh == b.fh) && ((a.fi == b.fi) && true))
theorem QQ (a b : Ad) : OL a b = true ↔ a = b := by
 cases a; cases b
 simp [OL]
def Sx (l : List Ad) (i : Nat) (s : Ad) : Bool := !Gu s || s.ff == 4 || (l.take i).any fun x => OL s x
def Mb (l : List Ad) (i : Nat) (s : Ad) : Option Int := if Sx l i s = true then some 1 else none
def J1 (l : List Ad) : Int := if l.length < 1 ∨ 5 < l.length then 6 else (C5 (Mb l) 0 l).getD 0
theorem Q3 {N : Nat} {k : Int} {w : ByteArray} (h : El N k = some w) : w.size ≤ 6 := by
 unfold El at h
 obtain ⟨v, h1, h2⟩ := bind_some h
 cases h2
 unfold BE at h1
 split at h1
 ·generalize k.toNat = i at h1
  match i, h1 with
  | 0, h1 => cases h1; decide
  | 1, h1 => cases h1; decide
  | 2, h1 => cases h1; decide
  | 3, h1 => cases h1; decide
  | 4, h1 => cases h1; decide
  | i + 5, h1 => simp at h1
 ·cases h1
def OS (s : Ad) : Prop := (-9223372036854775808 ≤ s.fh ∧ s.fh ≤ 9223372036854775807) ∧ (-9223372036854775808 ≤ s.fi ∧ s.fi ≤ 9223372036854775807)
theorem NM {n : Int} (h0 : -9223372036854775808 ≤ n) (h1 : n ≤ 9223372036854775807) : ∃ r : ByteArray, PE n = some r ∧ r.size ≤ 21 := by
 unfold PE
 rw [if_pos ⟨h0, h1⟩]
 exact ⟨_, rfl, by show (Lib.itoa n).toArray.size ≤ 21; simpa using Lib.itoa_length_le n h0 h1⟩
theorem Kz (a b : ByteArray) : (a ++ b).size = a.size + b.size := by simp
theorem Rl {N : Nat} {k : Int} (h1 : 1 ≤ k) (h4 : k ≤ 4) : ∃ w, El N k = some w ∧ w.size ≤ 6 := by
 have : ∃ w, El N k = some w := by
  unfold El BE
  rw [if_pos (by omega)]
  obtain ⟨q, hq⟩ : ∃ q : Nat, k = (q : Int) := ⟨k.toNat, by omega⟩
  subst hq
  rw [Int.toNat_natCast]
  match q, h1, h4 with
  | 1, _, _ => exact ⟨_, rfl⟩
  | 2, _, _ => exact ⟨_, rfl⟩
  | 3, _, _ => exact ⟨_, rfl⟩
  | 4, _, _ => exact ⟨_, rfl⟩
 obtain ⟨w, hw⟩ := this
 exact ⟨w, hw, Q3 hw⟩
theorem Rq (N : Nat) {s : Ad} (hw : OS s) : ∃ t, Fn N s = some (t, if Gu s = true then 0 else 1) := by
 unfold Fn
 rw [JZ]
 simp only [oS, A1]
 cases hv : Gu s
 ·exact ⟨_, rfl⟩
 ·obtain ⟨k1, k4, _⟩ := It hv
  obtain ⟨w, e1, l1⟩ := Rl (N := N) k1 k4
  obtain ⟨a, e2, l2⟩ := NM hw.1.1 hw.1.2
  obtain ⟨b, e3, l3⟩ := NM hw.2.1 hw.2.2
  have z1 : (⟨#[32]⟩ : ByteArray).size = 1 := rfl
  unfold FX
  rw [Bool.not_true, Ao, e1]
  simp only [oS]
  rw [As (by rw [z1]; omega), e2]
  simp only [oS]
  rw [As (by rw [Kz, z1]; omega), e3]
  simp only [oS]
  cases s.ff == 1
  ·rw [Ao]; exact ⟨_, rfl⟩
  ·rw [AD, As (by rw [z1]; omega), As (by rw [Kz, Kz, Kz, z1]; omega)]; exact ⟨_, rfl⟩
theorem LQ {N : Nat} (l : List Ad) (s : Ad) (hl : l.length ≤ 1000) (hln : l.length < N) : BM N l s = some ((C5 (fun i x => if OL s x = true then some (i : Int) else none) 0 l).getD (-1)) := by
 unfold BM
 have := CA (AW N l s (fun _ => some (-1))) l (some (-1)) (fun i x => if OL s x = true then some (i : Int) else none)
  (fun n i x hx => by
   have hi := (lI.1 hx).1
   rw [AW, AE (by omega)]
   simp only [AZ, hx, oS, AL (show i < 1000000 by omega)]
   show AJ (OL s x) _ _ = _
   cases OL s x <;> rfl)
  (fun n => by rw [AW, AC (by omega)]) N 0 (Nat.zero_le _) (by omega)
 rw [List.drop_zero] at this
 refine this.trans ?_
 cases C5 (fun i x => if OL s x = true then some (i : Int) else none) 0 l <;> rfl
theorem Ro {l : List Ad} {s : Ad} : ∀ (i : Nat), decide (0 ≤ (C5 (fun i x => if OL s x = true then some (i : Int) else none) i l).getD (-1)) = l.any fun x => OL s x := by
 induction l with
 | nil => intro i; rfl
 | cons x l ih =>
  intro i
  rw [Gk, List.any_cons]
  cases h : OL s x
  ·simp only [Bool.false_or]; exact ih (i + 1)
  ·simp only [Bool.true_or, if_true]; exact decide_eq_true (by simp only [Option.getD_some]; omega)
theorem MV {N : Nat} (l : List Ad) (s : Ad) (hl : l.length ≤ 1000) (hln : l.length < N) : Bt N l s = some (l.any fun x => OL s x) := by
 unfold Bt
 rw [LQ l s hl hln]
 simp only [oS]
 rw [Ro]
theorem TK {N : Nat} (l : List Ad) (hln : 10 < N) (hw : ∀ s, s ∈ l → OS s) : FO N l = some (J1 l) := by
 unfold FO J1
 simp only [A1]
 by_cases h1 : (l.length : Int) < 1
 ·rw [AE h1, AD, if_pos (.inl (by omega))]
 rw [AC h1]
 by_cases h5 : (5 : Int) < (l.length : Int)
 ·rw [decide_eq_true h5, AD, if_pos (.inr (by omega))]
 rw [decide_eq_false h5, Ao, if_neg (by omega)]
 have := CA (DC N l (fun _ => some 0)) l (some 0) (Mb l)
  (fun n i x hx => by
   have hi := (lI.1 hx).1
   obtain ⟨t, ht⟩ := Rq N (hw x (lM hx))
   rw [DC, AE (by omega)]
   simp only [A1, AZ, hx, oS, AL (show i < 1000000 by omega), ht, Int.toNat_natCast, List.drop_zero, Nat.sub_zero]
   unfold Mb Sx
   cases Gu x
   ·rw [if_neg (by simp)]; rfl
   ·rw [if_pos rfl, bne_self_eq_false, Ao]
    cases x.ff == 4
    ·rw [Ao, As ⟨by omega, by omega, by omega⟩, MV _ x (by simp; omega) (by simp; omega)]
     simp only [oS, Bool.not_true, Bool.false_or]
     cases (l.take i).any fun y => OL x y <;> rfl
    ·rfl)
  (fun n => by rw [DC, AC (by omega)]) N 0 (Nat.zero_le _) (by omega)
 rw [List.drop_zero] at this
 refine this.trans ?_
 cases C5 (Mb l) 0 l <;> rfl
theorem Ly (N : Nat) (l : List Ad) (v4 : Nat) (x : Ad) (hx : l[v4]? = some x) (hl : l.length ≤ 5) (j : Option Int) : ∀ (n i : Nat), i ≤ v4 → v4 - i < n →
  Cr N l (v4 : Int) (fun _ => j) n (i : Int) = if ((l.take v4).drop i).any (fun y => OL x y) = true then some 1 else j
 | 0, i, _, h => by omega
 | n + 1, i, hi, h => by
  have h4 := (lI.1 hx).1
  rw [Cr]
  by_cases hlt : i < v4
  ·have hy : l[i]? = some (l[i]'(by omega)) := by simp [show i < l.length by omega]
   have hy' : (l.take v4)[i]? = some (l[i]'(by omega)) := by rw [List.getElem?_take_of_lt hlt]; exact hy
   rw [AE (by omega), CQ hy']
   simp only [AZ, hx, hy, oS, AL (show i < 1000000 by omega)]
   show AJ (OL (l[i]'(by omega)) x) _ _ = _
   have e : OL (l[i]'(by omega)) x = OL x (l[i]'(by omega)) := by
    rw [Bool.eq_iff_iff, QQ, QQ]; exact ⟨Eq.symm, Eq.symm⟩
   rw [List.any_cons]
   rcases Bool.eq_false_or_eq_true (OL x (l[i]'(by omega))) with he | he
   ·rw [e, he, AD, Bool.true_or, if_pos rfl]
   ·rw [e, he, Ao, Bool.false_or]; exact Ly N l v4 x hx hl j n (i + 1) (by omega) (by omega)
  ·rw [AC (by omega), List.drop_eq_nil_of_le (by simp; omega)]; rfl
theorem Pu {N : Nat} (l : List Ad) (hln : 10 < N) : D0 N l = some (J1 l) := by
 unfold D0 J1
 simp only [A1]
 by_cases h1 : (l.length : Int) < 1
 ·rw [AE h1, AD, if_pos (.inl (by omega))]
 rw [AC h1]
 by_cases h5 : (5 : Int) < (l.length : Int)
 ·rw [decide_eq_true h5, AD, if_pos (.inr (by omega))]
 rw [decide_eq_false h5, Ao, if_neg (by omega)]
 have := CA (BO N l (fun _ => some 0)) l (some 0) (Mb l)
  (fun n i x hx => by
   have hi := (lI.1 hx).1
   rw [BO, AE (by omega)]
   simp only [A1, AZ, hx, oS, AL (show i < 1000000 by omega), Ko]
   unfold Mb Sx
   cases Gu x
   ·cases x.ff == 4 <;> rfl
   ·cases x.ff == 4
    ·rw [Bool.not_true, Ao, Ao]
     have e := Ly N l i x hx (by omega) (BO N l (fun _ => some 0) n ((i + 1 : Nat) : Int)) N 0 (Nat.zero_le _) (by omega)
     rw [List.drop_zero] at e
     refine Eq.trans e ?_
     simp only [Bool.false_or]
     split <;> rfl
    ·rfl)
  (fun n => by rw [BO, AC (by omega)]) N 0 (Nat.zero_le _) (by omega)
 rw [List.drop_zero] at this
 refine this.trans ?_
 cases C5 (Mb l) 0 l <;> rfl
end Go.Lift
namespace Go.Lift
open Option renaming bind_some → oS
open Go
section
variable {α β : Type}
def Hv : List α → List (α × List α)
 | [] => []
 | x :: xs => (x, xs) :: (Hv xs).map fun q => (q.1, x :: q.2)
def EL : Nat → List α → List (List α)
 | 0, _ => [[]]
 | k + 1, l => (Hv l).flatMap fun q => (EL k q.2).map (q.1 :: ·)
def KF (l : List α) : List (List α) := EL l.length l
theorem NJ : ∀ l : List α, (Hv l).length = l.length
 | [] => rfl
 | x :: xs => by simp [Hv, NJ xs]
theorem Pg : ∀ {l : List α} {i : Nat} {x : α}, l[i]? = some x → (Hv l)[i]? = some (x, l.eraseIdx i)
 | y :: ys, 0, x, h => by simp at h; subst h; rfl
 | y :: ys, i + 1, x, h => by
  rw [Hv, List.getElem?_cons_succ, List.getElem?_map, Pg (by simpa using h)]; rfl
theorem NN (f : α → β) : ∀ l : List α, Hv (l.map f) = (Hv l).map fun q => (f q.1, q.2.map f)
 | [] => rfl
 | x :: xs => by simp [Hv, NN f xs]
theorem ML (f : α → β) : ∀ (k : Nat) (l : List α), EL k (l.map f) = (EL k l).map (List.map f)
 | 0, _ => rfl
 | k + 1, l => by
  simp only [EL, NN, List.flatMap_map, List.map_flatMap]
  congr 1
  funext q
  rw [ML f k]
  simp [Function.comp_def]
theorem J7 : ∀ {l : List α} {q : α × List α}, q ∈ Hv l → (q.1 :: q.2).Perm l
 | x :: xs, q, h => by
  rw [Hv] at h
  rcases List.mem_cons.1 h with e | e
  ·subst e; exact List.Perm.refl _
  ·obtain ⟨r, hr, rfl⟩ := List.mem_map.1 e
   exact (List.Perm.swap x r.1 r.2).trans ((J7 hr).cons x)
theorem Nr : ∀ {l : List α} {x : α}, x ∈ l → ∃ q, q ∈ Hv l ∧ q.1 = x
 | y :: ys, x, h => by
  rcases List.mem_cons.1 h with e | e
  ·exact ⟨(y, ys), by simp [Hv], e.symm⟩
  ·obtain ⟨q, h1, h2⟩ := Nr e
   exact ⟨(q.1, y :: q.2), by simp only [Hv, List.mem_cons, List.mem_map]; exact .inr ⟨q, h1, rfl⟩, h2⟩
theorem IL : ∀ {k : Nat} {l x : List α}, l.length = k → (x ∈ EL k l ↔ x.Perm l)
 | 0, l, x, h => by
  have := List.eq_nil_of_length_eq_zero h
  subst this
  simp [EL]
 | k + 1, l, x, h => by
  simp only [EL, List.mem_flatMap, List.mem_map]
  constructor
  ·rintro ⟨q, hq, z, hz, rfl⟩
   have hp := J7 hq
   have hl : q.2.length = k := by have := hp.length_eq; simp at this; omega
   exact (((IL hl).1 hz).cons q.1).trans hp
  ·intro hx
   cases x with
   | nil => have := hx.length_eq; simp at this; omega
   | cons y z =>
    obtain ⟨q, hq, rfl⟩ := Nr (hx.mem_iff.1 (List.mem_cons_self : y ∈ y :: z))
    have hp := J7 hq
    have hl : q.2.length = k := by have := hp.length_eq; simp at this; omega
    exact ⟨q, hq, z, (IL hl).2 ((List.perm_cons q.1).1 (hx.trans hp.symm)), rfl⟩
theorem Q9 {l x : List α} : x ∈ KF l ↔ x.Perm l := IL rfl
theorem LH : ∀ {k : Nat} {l : List α}, l.length = k → ∃ r, EL k l = l :: r
 | 0, l, h => by
  have := List.eq_nil_of_length_eq_zero h
  subst this
  exact ⟨[], rfl⟩
 | k + 1, [], h => by simp at h
 | k + 1, x :: xs, h => by
  obtain ⟨r, hr⟩ := LH (k := k) (l := xs) (by simpa using h)
  simp only [EL, Hv, List.flatMap_cons, hr, List.map_cons, List.cons_append]
  exact ⟨_, rfl⟩
end
def JO (p : Ab) (m e : Ac) (x : List Ad) : Bool := !((Fg p m x).2 && decide ((Fg p m x).1 = e))
def P5 (p : Ab) (m : Ac) (l : List Ad) : List Ad × Int :=
 if Eg p m ≠ 0 then ([], Eg p m) else if J1 l ≠ 0 then ([], J1 l) else
 if (F0 p m && (Fg p m l).2) = true then (match (KF l).find? (JO p m (Fg p m l).1) with | some x => (x, 0) | none => ([], 15)) else (l, 0)
def Qr (p : Ab) (m : Ac) (l : List Ad) : Bool × Int :=
 if Eg p m ≠ 0 then (false, Eg p m) else ((P5 p m l).2 == 15, 0)
theorem PS {N : Nat} (hN : N ≤ 1000000) (h20 : 100 ≤ N) {p : Ab} {a b : Ac} (hp : B0 p) (ha : CZ p a) : EC N a b = some (Oh a b) := by
 have := hp.nv
 have := hp.nt
 have h1 : a.fd.length < N := by rw [ha.base]; omega
 have h2 : a.fa.length < N := by rw [ha.next]; omega
 have h3 : a.fc.length < N := by rw [ha.held]; omega
 unfold EC
 rw [MC h1 hN, MC h2 hN, Pb h3 hN]
 simp only [oS]
 rw [UT (by simp; omega) hN]
 rfl
theorem Sb {a b : Ac} : (Oh a b != 0) = !decide (a = b) := by rw [← PB]; rfl
section
variable {N : Nat} {p : Ab} {m e : Ac}
theorem TQ (hN : N ≤ 1000000) (h20 : 100 ≤ N) (hv : CK p = 0) (hm : CZ p m) {x : List Ad} (hl : x.length ≤ 90) (o : Option (List Ad)) :
  Fl N x p.fb p.fm p.fo p.fe m.fd m.fa m.fc e.fd e.fa e.fc o = some (if JO p m e x = true then (false, some x) else (true, o)) := by
 obtain ⟨hp, _⟩ := Gf hv
 unfold Fl
 show (CF N p m x).bind _ = _
 rw [Qv hN h20 hv (by omega) (by omega) hm]
 simp only [oS, A1]
 unfold JO
 cases h : (Fg p m x).2
 ·rfl
 ·rw [Bool.not_true, Ao]
  show (EC N (Fg p m x).1 e).bind _ = _
  rw [PS hN h20 hp (Oc hp hm h)]
  simp only [oS, Sb, Bool.true_and]
  cases decide ((Fg p m x).1 = e) <;> rfl
abbrev Or (taken : List Ad) (o : Option (List Ad)) : Option (List Ad) → Bool × Option (List Ad)
 | some x => (false, some (taken ++ x))
 | none => (true, o)
theorem Nz (hN : N ≤ 1000000) (h20 : 100 ≤ N) (hv : CK p = 0) (hm : CZ p m) : ∀ (k : Nat) (rest taken : List Ad) (o : Option (List Ad)), rest.length < k → taken.length + rest.length ≤ 80 →
  CI N k taken rest p.fb p.fm p.fo p.fe m.fd m.fa m.fc e.fd e.fa e.fc o = some (Or taken o ((KF rest).find? fun x => JO p m e (taken ++ x)))
 | 0, _, _, _, h, _ => by omega
 | k + 1, rest, taken, o, hk, hl => by
  rw [CI, EA]
  cases hr : rest with
  | nil =>
   rw [show ((([] : List Ad).length : Int) == 0) = true from rfl, AD, TQ hN h20 hv hm (by omega)]
   simp only [KF, EL, List.length_nil, List.find?_cons, List.append_nil, List.find?_nil, oS]
   cases JO p m e taken <;> simp [Or]
  | cons y ys =>
   rw [← hr]
   have hlen : rest.length = ys.length + 1 := by rw [hr]; rfl
   rw [beq_eq_false_iff_ne.2 (show (rest.length : Int) ≠ 0 by omega), Ao]
   have key : ∀ (n i : Nat), i ≤ rest.length → rest.length - i < n →
     C3 N taken rest p.fb p.fm p.fo p.fe m.fd m.fa m.fc e.fd e.fa e.fc (CI N k) (fun v4 => some (true, v4)) n (o, (i : Int)) =
      some (Or taken o (((Hv rest).drop i).findSome? fun q => ((EL ys.length q.2).find? fun x => JO p m e (taken ++ q.1 :: x)).map (q.1 :: ·))) := by
    intro n
    induction n with
    | zero => intro i _ h; omega
    | succ n ih =>
     intro i hi hn
     rw [C3]
     by_cases hlt : i < rest.length
     ·have hx : rest[i]? = some rest[i] := by simp [hlt]
      obtain ⟨X, d1, d2, _⟩ := Ru N rest i hlt (by omega)
      have d3 : rest.length - 1 ≤ X.length := by omega
      have hle : (rest.eraseIdx i).length = ys.length := by rw [Q6 hlt]; omega
      rw [AE (by simp only; omega), CQ (Pg hx), List.findSome?_cons]
      simp only [AZ, hx, oS, AL (show i < 1000000 by omega)]
      rw [IU N taken (by unfold Dl; omega), oS, As (by simp [Dl]; omega), IU N rest (by unfold Dl; omega), oS, d1, oS]
      simp only
      rw [As d3, d2, Nz hN h20 hv hm k _ _ o (by omega) (by simp; omega)]
      have e1 : (fun x => JO p m e (taken ++ [rest[i]] ++ x)) = fun x => JO p m e (taken ++ rest[i] :: x) := by
       funext x; rw [List.append_assoc]; rfl
      unfold KF
      rw [hle, e1]
      simp only [oS]
      cases (EL ys.length (rest.eraseIdx i)).find? fun x => JO p m e (taken ++ rest[i] :: x) with
      | some z => simp [Or]
      | none => exact ih (i + 1) (by omega) (by omega)
     ·rw [AC (by simp only; omega), List.drop_eq_nil_of_le (by rw [NJ]; omega)]; rfl
   have := key N 0 (Nat.zero_le _) (by omega)
   rw [List.drop_zero] at this
   refine this.trans ?_
   congr 2
   unfold KF
   rw [hlen, EL, List.find?_flatMap]
   congr 1
   funext q
   rw [List.find?_map]
   rfl
end
end Go.Lift
namespace Go.Lift
open Option renaming bind_some → oS
open List renaming mem_of_getElem? → lM
open List renaming getD_eq_getElem?_getD → lD
open Go
theorem Q5 {N : Nat} {a b : Ac} (hN : N ≤ 1000000) (h20 : 100 ≤ N) (ha : a.fd.length ≤ 90 ∧ a.fa.length ≤ 90 ∧ a.fc.length ≤ 90 ∧ JA IE a.fc) (hb : b.fc.length ≤ 90 ∧ JA IE b.fc) : DO N a b = some (decide (a = b)) := by
 unfold DO
 rw [O2 hN (by omega) (by omega) (by omega) (by omega) ha.2.2.2 hb.2]
 simp only [oS, PB]
theorem UI {p : Ab} {a : Ac} (hp : B0 p) (ha : CZ p a) : a.fd.length ≤ 90 ∧ a.fa.length ≤ 90 ∧ a.fc.length ≤ 90 ∧ JA IE a.fc := by
 have := hp.nv
 have := hp.nt
 exact ⟨by rw [ha.base]; omega, by rw [ha.next]; omega, by rw [ha.held]; omega, Ms ha⟩
theorem N7 {p : Ab} {m : Ac} (hp : B0 p) (hm : CZ p m) (l : List Ad) : (Fg p m l).1.fd.length ≤ 90 ∧ (Fg p m l).1.fa.length ≤ 90 ∧ (Fg p m l).1.fc.length ≤ 90 ∧ JA IE (Fg p m l).1.fc := by
 have : (Fg p m l).2 = true ∨ (Fg p m l).1 = E0 := by
  induction l generalizing m with
  | nil => exact .inl rfl
  | cons s l ih =>
   unfold Fg
   by_cases hc : (EB p m s).2 = 0 ∧ F0 p (EB p m s).1 = true
   ·rw [if_pos hc]; exact ih (JH hp hm hc.1)
   ·rw [if_neg hc]; exact .inr rfl
 rcases this with h | h
 ·exact UI hp (Oc hp hm h)
 ·rw [h]; exact ⟨by simp [E0], by simp [E0], by simp [E0], fun x hx => by simp [E0] at hx⟩
theorem Q4 : ∀ n : Nat, 1 ≤ n → n ≤ 5 → Dw 1000 (n : Int) = some ((EL n (List.range n)).map (List.map fun i : Nat => (i : Int)))
 | 1, _, _ => by kernel_rfl
 | 2, _, _ => by kernel_rfl
 | 3, _, _ => by kernel_rfl
 | 4, _, _ => by kernel_rfl
 | 5, _, _ => by kernel_rfl
 | 0, h, _ => by omega
 | n + 6, _, h => by omega
theorem Qn {N : Nat} (l : List Ad) (o : List Nat) (hl : l.length ≤ 90) (ho : o.length ≤ 90) (hN : 100 ≤ N) (hi : ∀ i, i ∈ o → i < l.length) : Dd N l (o.map fun i : Nat => (i : Int)) = some (o.map fun i => l.getD i Lt) := by
 unfold Dd
 have key : ∀ (n i : Nat) (a : List Ad), i ≤ o.length → o.length - i < n → a.length ≤ i → B9 N l (o.map fun i : Nat => (i : Int)) (fun v2 => some v2) n (a, (i : Int)) = some (a ++ (o.drop i).map fun i => l.getD i Lt) := by
  intro n
  induction n with
  | zero => intro i a _ h; omega
  | succ n ih =>
   intro i a h1 h2 h3
   rw [B9]
   by_cases hlt : i < o.length
   ·have hx : o[i]? = some o[i] := by simp [hlt]
    have hy : l[o[i]]? = some (l.getD o[i] Lt) := by
     have := hi o[i] (List.getElem_mem hlt)
     rw [lD, List.getElem?_eq_getElem this]; rfl
    rw [AE (by simp only [List.length_map]; omega), CQ hx]
    simp only [AZ, List.getElem?_map, hx, Option.map_some, oS, hy, AL (show i < 1000000 by omega)]
    rw [As (by simp [Dl]; omega), ih (i + 1) _ (by omega) (by omega) (by simp; omega), List.map_cons, List.append_assoc]
    rfl
   ·rw [AC (by simp only [List.length_map]; omega), List.drop_eq_nil_of_le (by omega)]; simp
 have := key N 0 [] (Nat.zero_le _) (by omega) (Nat.zero_le _)
 rw [List.drop_zero, List.nil_append] at this
 exact this
theorem PZ (l : List Ad) : (List.range l.length).map (fun i => l.getD i Lt) = l := by
 apply List.ext_getElem
 ·simp
 ·intro i h1 h2
  simp [lD, h2]
theorem PO {l : List Ad} (h : J1 l = 0) : 1 ≤ l.length ∧ l.length ≤ 5 := by
 unfold J1 at h
 split at h
 ·cases h
 ·omega
theorem Q2 : ∀ n : Nat, n ≤ 5 → (EL n (List.range n)).length ≤ 120
 | 0, _ => by decide
 | 1, _ => by decide
 | 2, _ => by decide
 | 3, _ => by decide
 | 4, _ => by decide +kernel
 | 5, _ => by decide +kernel
 | n + 6, h => by omega
section
variable {p : Ab} {m : Ac} {l : List Ad}
theorem Oa (hv : CK p = 0) (hm : CZ p m) (hw : ∀ s, s ∈ l → OS s) (hl : l.length ≤ 30) : FB 1000 p m l = some (P5 p m l) := by
 have hval := Hf hv hm
 unfold FB P5
 rw [J0 1000 p m (by omega) (by omega) (Ms hm) hval, if_neg (fun q => q hval)]
 simp only [oS, bne_self_eq_false, Ao, A1]
 rw [TK l (by omega) hw]
 simp only [oS]
 by_cases hf : J1 l = 0
 ·rw [hf, bne_self_eq_false, Ao, Qv (by omega) (by omega) hv (by omega) (by omega) hm, if_neg (fun q => q rfl)]
  simp only [oS]
  have hlen := PO hf
  cases F0 p m
  ·rw [Bool.not_false, AD, AD, IU 1000 l (by unfold Dl; omega)]; rfl
  ·rw [Bool.not_true, Ao]
   cases ho : (Fg p m l).2
   ·rw [Bool.not_false, AD, IU 1000 l (by unfold Dl; omega)]; rfl
   ·rw [Bool.not_true, Ao]
    simp only [Bool.and_self, if_true]
    have hs := Nz (N := 1000) (e := (Fg p m l).1) (by omega) (by omega) hv hm 1000 l [] none (by omega) (by simp; omega)
    rw [show (fun x => JO p m (Fg p m l).1 ([] ++ x)) = JO p m (Fg p m l).1 from rfl] at hs
    unfold Gw
    rw [hs]
    simp only [oS]
    cases hq : (KF l).find? (JO p m (Fg p m l).1) with
    | none => rfl
    | some x =>
     have hx := (Q9.1 (List.mem_of_find?_eq_some hq)).length_eq
     cases x with
     | nil => simp at hx; omega
     | cons y ys => rfl
 ·rw [bne_iff_ne.2 hf, AD, if_pos hf]
theorem Pf {N : Nat} (hN : N ≤ 1000000) (h20 : 100 ≤ N) (hv : CK p = 0) (hm : CZ p m) (hl : l.length ≤ 30) {qs : List (List Nat)} (hall : ∀ q, q ∈ qs → q.length = l.length ∧ ∀ i, i ∈ q → i < l.length) (hcnt : qs.length ≤ 120) : ∀ (n i : Nat), i ≤ qs.length → qs.length - i < n →
  CE N p m l (qs.map (List.map fun i : Nat => (i : Int))) (Fg p m l) (fun _ => some ([], 15)) n (i : Int) = some (match ((qs.drop i).map fun q => q.map fun i => l.getD i Lt).find? (JO p m (Fg p m l).1) with | some x => (x, 0) | none => ([], 15))
 | 0, i, _, h => by omega
 | n + 1, i, hi, h => by
  obtain ⟨hp, _⟩ := Gf hv
  rw [CE]
  by_cases hlt : i < qs.length
  ·have hq : qs[i]? = some qs[i] := by simp [hlt]
   obtain ⟨h1, h2⟩ := hall _ (lM hq)
   rw [AE (by simp only [List.length_map]; omega), CQ hq, List.map_cons, List.find?_cons]
   simp only [AZ, List.getElem?_map, hq, Option.map_some, oS]
   rw [Qn l qs[i] (by omega) (by omega) (by omega) h2]
   simp only [oS]
   generalize hx : (qs[i].map fun i => l.getD i Lt) = x
   have hxl : x.length ≤ 30 := by rw [← hx, List.length_map]; omega
   rw [SJ hN h20 hv (by omega) (by omega) hm]
   simp only [oS, A1, AL (show i < 1000000 by omega)]
   have ih := Pf hN h20 hv hm hl hall hcnt n (i + 1) (by omega) (by omega)
   unfold JO at ih ⊢
   cases ho : (Fg p m x).2
   ·rfl
   ·rw [Bool.not_true, Ao, Q5 hN h20 (N7 hp hm _) ⟨(N7 hp hm _).2.2.1, (N7 hp hm _).2.2.2⟩]
    simp only [oS, Bool.true_and]
    cases decide ((Fg p m x).1 = (Fg p m l).1)
    ·rfl
    ·exact ih
  ·rw [AC (by simp only [List.length_map]; omega), List.drop_eq_nil_of_le (by omega)]; rfl
theorem Pd {N : Nat} (hN : N ≤ 1000000) (h20 : 200 ≤ N) (hord : 1 ≤ l.length → l.length ≤ 5 → Dw N (l.length : Int) = some ((EL l.length (List.range l.length)).map (List.map fun i : Nat => (i : Int)))) (hv : CK p = 0) (hm : CZ p m) (hl : l.length ≤ 30) : DF N p m l = some (P5 p m l) := by
 have hval := Hf hv hm
 obtain ⟨hp, _⟩ := Gf hv
 unfold DF P5
 rw [II N p m hN (by omega), if_neg (fun q => q hval), hval]
 simp only [oS, bne_self_eq_false, Ao]
 rw [Pu l (by omega)]
 simp only [oS]
 by_cases hf : J1 l = 0
 ·have hlen := PO hf
  rw [hf, bne_self_eq_false, Ao, J2 N p m hN (by omega) hp hm, if_neg (fun q => q rfl)]
  simp only [oS]
  cases F0 p m
  ·rw [Bool.not_false, AD, As (by simp [Dl]; omega)]; rfl
  ·rw [Bool.not_true, Ao, hord hlen.1 hlen.2]
   simp only [oS]
   rw [SJ hN (by omega) hv (by omega) (by omega) hm]
   simp only [oS]
   have hall : ∀ q, q ∈ EL l.length (List.range l.length) → q.length = l.length ∧ ∀ i, i ∈ q → i < l.length := fun q hq => by
    have hp := (IL (by simp)).1 hq
    exact ⟨by have := hp.length_eq; simpa using this, fun i hi => by simpa using hp.mem_iff.1 hi⟩
   have hperm : KF l = (EL l.length (List.range l.length)).map fun q => q.map fun i => l.getD i Lt := by
    have e := ML (fun i => l.getD i Lt) l.length (List.range l.length)
    rw [PZ] at e
    exact e
   have hcnt := Q2 l.length hlen.2
   generalize EL l.length (List.range l.length) = qs at hall hperm hcnt
   have e := Pf hN (by omega) hv hm (by omega) hall hcnt N 0 (Nat.zero_le _) (by omega)
   rw [List.drop_zero, ← hperm] at e
   refine e.trans ?_
   cases ho : (Fg p m l).2
   ·obtain ⟨r, hr⟩ := LH (l := l) rfl
    have hb : JO p m (Fg p m l).1 l = true := by unfold JO; rw [ho]; rfl
    unfold KF
    rw [hr, List.find?_cons, hb]; rfl
   ·rfl
 ·rw [bne_iff_ne.2 hf, AD, if_pos hf]
theorem Qm (hv : CK p = 0) (hm : CZ p m) (hl : l.length ≤ 30) : DF 1000 p m l = some (P5 p m l) := Pd (by omega) (by omega) (Q4 l.length) hv hm hl
theorem MS (hv : CK p = 0) (hm : CZ p m) (hw : ∀ s, s ∈ l → OS s) (hl : l.length ≤ 30) : D9 1000 p m l = some (Qr p m l) := by
 have hval := Hf hv hm
 unfold D9 Qr
 rw [IJ 1000 p m (by omega) (by omega) (Ms hm), hval, if_neg (fun q => q rfl)]
 simp only [oS, bne_self_eq_false, Ao]
 rw [Oa hv hm hw hl]; rfl
theorem OY (hv : CK p = 0) (hm : CZ p m) (hl : l.length ≤ 30) : D3 1000 p m l = some (Qr p m l) := by
 have hval := Hf hv hm
 unfold D3 Qr
 rw [Qm hv hm hl, if_neg (fun q => q hval)]
 simp only [oS]
 cases (P5 p m l).2 == 15
 ·rw [Ao, II 1000 p m (by omega) (by omega), hval]; rfl
 ·rfl
end
theorem Sq {l : List Ad} (h : JA Jf l) : ∀ s, s ∈ l → OS s := by
 intro s hs
 obtain ⟨_, h2, h3, _⟩ := h s hs
 have h2 : (Lit.int .i64 s.fh).wf = true := h2
 have h3 : (Lit.int .i64 s.fi).wf = true := h3
 simp [Lit.wf, IntKind.min, IntKind.max, IntKind.signed, IntKind.bits] at h2 h3
 exact ⟨h2, h3⟩
theorem Ob : DP 1000 = some true := by show _ = _; kernel_rfl
theorem LO (d : BF) (x : Bk) (l : List Ad) (wd : Ek d) (wx : En x) (wl : JA Jf l) : CU 1000 d x l = some true := by
 obtain ⟨p, ok, e, h⟩ := Sw d x wd wx
 unfold CU
 rw [e]
 simp only [oS, A1, Ob, Bool.not_true, Ao]
 cases ok
 ·rfl
 obtain ⟨hg, hp, m, e2, hi, ho, hv, hw⟩ := h rfl
 rw [Bool.not_true, Ao]
 by_cases h7 : (7 : Int) < (l.length : Int)
 ·rw [decide_eq_true h7]; rfl
 ·rw [decide_eq_false h7, Ao, e2]
  simp only [oS]
  rw [MS hg.valid ho (Sq wl) (by omega), OY hg.valid ho (by omega)]
  simp only [oS, beq_self_eq_true, AD]
end Go.Lift
