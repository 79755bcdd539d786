/- Lemmas for WavesOfCardSaid, which YtncnphcfgojgmaaGreatDoorFinV8 proves. -/
import Derived.Test.YtncnphcfgojgmaaGreatDoorDec
import Derived.KernelRfl
import Derived.Lib.ItoaLen
namespace Go.Lift
open IntKind renaming wrap → wI
open Option renaming bind_some → oS
open List renaming getElem?_eq_some_iff → lI
theorem AR {α : Type} (xs : List α) (i : Nat) : Bv xs (i : Int) = xs[i]? := by
 unfold Bv; simp
theorem D1 {n : Int} (h0 : -9223372036854775808 ≤ n) (h1 : n ≤ 9223372036854775807) : wI .i64 n = n := by
 simp [wI, IntKind.signed, IntKind.bits]; omega
theorem AG {i : Nat} (h : i < 1000000) : wI .i64 ((i : Int) + 1) = ((i + 1 : Nat) : Int) := by
 rw [D1 (by omega) (by omega)]; simp
@[simp] theorem AA {α : Type} {a b : Option α} : AK true a b = a := rfl
@[simp] theorem Ak {α : Type} {a b : Option α} : AK false a b = b := rfl
theorem AC {α : Type} {p : Prop} [Decidable p] {a b : Option α} (h : p) : AK (decide p) a b = a := by simp [h]
theorem AB {α : Type} {p : Prop} [Decidable p] {a b : Option α} (h : ¬ p) : AK (decide p) a b = b := by simp [h]
def WH (a b : Int) : Int := if a < b then -1 else if b < a then 1 else 0
def FL : List Int → List Int → Int
 | [], [] => 0
 | [], _ :: _ => -1
 | _ :: _, [] => 1
 | a :: as1, b :: bs => if a < b then -1 else if b < a then 1 else FL as1 bs
theorem Vd (N : Nat) (a b : Int) : EG N a b = some (WH a b) := by
 unfold EG Fc WH
 by_cases h1 : a < b <;> by_cases h2 : b < a <;> simp [h1, h2]
theorem UT (N : Nat) (a b : Int) : Dq N a b = some (WH a b) := by
 unfold Dq Eb WH
 by_cases h1 : a < b <;> by_cases h2 : b < a <;> simp [h1, h2]
theorem Cu {α : Type} {xs : List α} {i : Nat} {x : α} (h : xs[i]? = some x) : xs.drop i = x :: xs.drop (i + 1) := by
 obtain ⟨hi, rfl⟩ := lI.1 h
 exact List.drop_eq_getElem_cons hi
theorem P2 (N : Nat) (a b : List Int) (hb : a.length < 1000000) : ∀ (n i : Nat), i ≤ a.length → i ≤ b.length → a.length - i < n →
  BX N a b (fun _ => AK (decide ((a.length : Int) < (b.length : Int))) (some (-1)) (some 0)) n (i : Int) = some (FL (a.drop i) (b.drop i))
 | 0, i, _, _, h => by omega
 | n + 1, i, hi, hj, h => by
  unfold BX
  by_cases h1 : i < a.length
  ·rw [AC (by omega), AR]
   have ha : a[i]? = some a[i] := by simp [h1]
   rw [ha, Cu ha]
   simp only [oS]
   by_cases h2 : i < b.length
   ·rw [AB (by omega), AR]
    have hbb : b[i]? = some b[i] := by simp [h2]
    rw [hbb, Cu hbb]
    simp only [oS, Vd, FL, WH]
    rw [AG (by omega), P2 N a b hb n (i + 1) (by omega) (by omega) (by omega)]
    by_cases h3 : a[i] < b[i]
    ·simp [h3]
    ·by_cases h4 : b[i] < a[i]
     ·simp [h3, h4]
     ·simp [h3, h4]
   ·rw [AC (by omega), List.drop_eq_nil_of_le (by omega : b.length ≤ i)]
    simp [FL]
  ·rw [AB (by omega), List.drop_eq_nil_of_le (by omega : a.length ≤ i)]
   by_cases h2 : a.length < b.length
   ·rw [AC (by omega)]
    have hbb : b[i]? = some b[i] := by simp [show i < b.length from by omega]
    rw [Cu hbb]; simp [FL]
   ·rw [AB (by omega), List.drop_eq_nil_of_le (by omega : b.length ≤ i)]
    simp [FL]
theorem OQ (N : Nat) (a b : List Int) (hb : a.length < 1000000) : ∀ (n i : Nat), i ≤ a.length → i ≤ b.length → a.length - i < n →
  Bh N a b (fun _ => AK (decide ((a.length : Int) < (b.length : Int))) (some (-1)) (some 0)) n (i : Int) = some (FL (a.drop i) (b.drop i))
 | 0, i, _, _, h => by omega
 | n + 1, i, hi, hj, h => by
  unfold Bh
  by_cases h1 : i < a.length
  ·rw [AC (by omega), AR]
   have ha : a[i]? = some a[i] := by simp [h1]
   rw [ha, Cu ha]
   simp only [oS]
   by_cases h2 : i < b.length
   ·rw [AB (by omega), AR]
    have hbb : b[i]? = some b[i] := by simp [h2]
    rw [hbb, Cu hbb]
    simp only [oS, UT, FL, WH]
    rw [AG (by omega), OQ N a b hb n (i + 1) (by omega) (by omega) (by omega)]
    by_cases h3 : a[i] < b[i]
    ·simp [h3]
    ·by_cases h4 : b[i] < a[i]
     ·simp [h3, h4]
     ·simp [h3, h4]
   ·rw [AC (by omega), List.drop_eq_nil_of_le (by omega : b.length ≤ i)]
    simp [FL]
  ·rw [AB (by omega), List.drop_eq_nil_of_le (by omega : a.length ≤ i)]
   by_cases h2 : a.length < b.length
   ·rw [AC (by omega)]
    have hbb : b[i]? = some b[i] := by simp [show i < b.length from by omega]
    rw [Cu hbb]; simp [FL]
   ·rw [AB (by omega), List.drop_eq_nil_of_le (by omega : b.length ≤ i)]
    simp [FL]
theorem Rx (N : Nat) (a b : List Int) (hb : a.length < 1000000) : ∀ (n i : Nat), i ≤ a.length → i ≤ b.length → a.length - i < n →
  CT N a b (fun _ => AK (decide ((a.length : Int) < (b.length : Int))) (some (-1)) (AK (decide ((b.length : Int) < (a.length : Int))) (some 1) (some 0))) n (i : Int) = some (FL (a.drop i) (b.drop i))
 | 0, i, _, _, h => by omega
 | n + 1, i, hi, hj, h => by
  unfold CT
  simp only [Ba]
  by_cases h1 : i < a.length
  ·rw [AC (p := (i : Int) < (a.length : Int)) (by omega)]
   have ha : a[i]? = some a[i] := by simp [h1]
   rw [Cu ha]
   by_cases h2 : i < b.length
   ·have hbb : b[i]? = some b[i] := by simp [h2]
    rw [show decide ((i : Int) < (b.length : Int)) = true from decide_eq_true (by omega), AA, AR, AR, ha, hbb, Cu hbb]
    simp only [oS, FL]
    rw [AG (by omega), Rx N a b hb n (i + 1) (by omega) (by omega) (by omega)]
    by_cases h3 : a[i] < b[i]
    ·simp [h3]
    ·by_cases h4 : b[i] < a[i]
     ·simp [h3, h4]
     ·simp [h3, h4]
   ·rw [show decide ((i : Int) < (b.length : Int)) = false from decide_eq_false (by omega), Ak, AB (by omega), AC (by omega), List.drop_eq_nil_of_le (by omega : b.length ≤ i)]
    simp [FL]
  ·rw [AB (p := (i : Int) < (a.length : Int)) (by omega), Ak, List.drop_eq_nil_of_le (by omega : a.length ≤ i)]
   by_cases h2 : a.length < b.length
   ·rw [AC (by omega)]
    have hbb : b[i]? = some b[i] := by simp [show i < b.length from by omega]
    rw [Cu hbb]; simp [FL]
   ·rw [AB (by omega), AB (by omega), List.drop_eq_nil_of_le (by omega : b.length ≤ i)]
    simp [FL]
theorem MY {N : Nat} {a b : List Int} (h : a.length < N) (hN : N ≤ 1000000) : Ck N a b = some (FL a b) := by
 have := P2 N a b (by omega) N 0 (by omega) (by omega) (by omega)
 simpa [Ck] using this
theorem P3 {N : Nat} {a b : List Int} (h : a.length < N) (hN : N ≤ 1000000) : BP N a b = some (FL a b) := by
 have := OQ N a b (by omega) N 0 (by omega) (by omega) (by omega)
 simpa [BP] using this
theorem Nv {N : Nat} {a b : List Int} (h : a.length < N) (hN : N ≤ 1000000) : CW N a b = some (FL a b) := by
 have := Rx N a b (by omega) N 0 (by omega) (by omega) (by omega)
 simpa [CW] using this
theorem OE : ∀ a : List Int, FL a a = 0
 | [] => rfl
 | a :: as1 => by simp [FL, OE as1]
theorem MM : ∀ a b : List Int, FL a b = 0 → a = b
 | [], [], _ => rfl
 | [], _ :: _, h => by simp [FL] at h
 | _ :: _, [], h => by simp [FL] at h
 | a :: as1, b :: bs, h => by
  unfold FL at h
  split at h
  ·omega
  ·split at h
   ·omega
   ·rw [MM as1 bs h, show a = b from by omega]
def S3 : List Int → Int
 | [] => 0
 | x :: xs => if x = 0 then S3 xs else x
theorem YW (N : Nat) (a : List Int) (hb : a.length < 1000000) : ∀ (n i : Nat), i ≤ a.length → a.length - i < n →
  Ey N a (fun _ => some 0) n (i : Int) = some (S3 (a.drop i))
 | 0, i, _, h => by omega
 | n + 1, i, hi, h => by
  unfold Ey
  by_cases h1 : i < a.length
  ·have ha : a[i]? = some a[i] := by simp [h1]
   rw [AC (by omega), AR, ha, Cu ha]
   simp only [oS, S3]
   rw [AG (by omega), YW N a hb n (i + 1) (by omega) (by omega)]
   by_cases h3 : a[i] = 0
   ·simp [h3]
   ·have : (a[i] != 0) = true := by simpa using h3
    simp [h3, this]
  ·rw [AB (by omega), List.drop_eq_nil_of_le (by omega : a.length ≤ i)]
   simp [S3]
theorem Wr {N : Nat} {a : List Int} (h : a.length < N) (hN : N ≤ 1000000) : Gp N a = some (S3 a) := by
 have := YW N a (by omega) N 0 (by omega) (by omega)
 simpa [Gp] using this
theorem WJ (N : Nat) (a : List Int) (hb : a.length < 1000000) (hw : Kh Jw a) : ∀ (n i : Nat), i ≤ a.length → a.length - i < n →
  Cm N a (fun v => some v) n (a.take i, (i : Int)) = some a
 | 0, i, _, h => by omega
 | n + 1, i, hi, h => by
  unfold Cm
  by_cases h1 : i < a.length
  ·have ha : a[i]? = some a[i] := by simp [h1]
   rw [AC (by simpa using h1)]
   simp only
   rw [AR, ha]
   have hr : wI .i64 a[i] = a[i] := by
    have := hw a[i] (List.getElem_mem h1)
    unfold Jw at this
    have h2 : 0 ≤ a[i] ∧ a[i] ≤ 255 := by simpa [Lit.wf, IntKind.min, IntKind.max, IntKind.signed, IntKind.bits] using this
    exact D1 (by omega) (by omega)
   simp only [oS, hr]
   have hlen : (a.take i).length + ([a[i]] : List Int).length ≤ Dl := by
    simp [Dl]; omega
   rw [show DD ((a.take i).length + ([a[i]] : List Int).length ≤ Dl) = some () from by unfold DD; rw [if_pos hlen]]
   simp only [oS]
   rw [AG (by omega), show a.take i ++ [a[i]] = a.take (i + 1) from by rw [List.take_add_one, ha]; rfl]
   exact WJ N a hb hw n (i + 1) (by omega) (by omega)
  ·rw [AB (by simpa using h1)]
   simp only
   rw [List.take_of_length_le (by omega)]
theorem L5 {N : Nat} {a : List Int} (h : a.length < N) (hN : N ≤ 1000000) (hw : Kh Jw a) : CQ N a = some a := by
 have := WJ N a (by omega) hw N 0 (by omega) (by omega)
 simpa [CQ] using this
def Y1 (a : Ac) : Prop := a.fe.length ≤ 8 ∧ a.fa.length ≤ 8 ∧ a.fc.length ≤ 14
def O7 (a b : Ac) : Int := S3 [FL a.fe b.fe, FL a.fa b.fa, FL a.fc b.fc]
theorem Ov (a : Ac) : O7 a a = 0 := by unfold O7; simp [OE, S3]
def CP {α R : Type} (f : Nat → α → Option R) : Nat → List α → Option R
 | _, [] => none
 | i, x :: xs => match f i x with
  | some r => some r
  | none => CP f (i + 1) xs
theorem GK {α R : Type} (f : Nat → α → Option R) (i : Nat) (x : α) (xs : List α) : CP f i (x :: xs) = match f i x with
  | some r => some r
  | none => CP f (i + 1) xs := rfl
def Bs {R : Type} (a : Option R) (b : Option R) : Option R := match a with
 | some r => some r
 | none => b
theorem BW {α R : Type} (L : Nat → Int → Option R) (xs : List α) (j : Option R) (f : Nat → α → Option R)
  (hs : ∀ (n i : Nat) (x : α), xs[i]? = some x → L (n + 1) (i : Int) = Bs (f i x) (L n ((i + 1 : Nat) : Int))) (he : ∀ n : Nat, L (n + 1) (xs.length : Int) = j) :
  ∀ n i : Nat, i ≤ xs.length → xs.length - i < n → L n (i : Int) = Bs (CP f i (xs.drop i)) j
 | 0, i, _, h => by omega
 | n + 1, i, hi, h => by
  by_cases h1 : i < xs.length
  ·have hx : xs[i]? = some xs[i] := by simp [h1]
   rw [hs n i _ hx, Cu hx, BW L xs j f hs he n (i + 1) (by omega) (by omega)]
   rw [GK]
   cases f i xs[i] <;> rfl
  ·have : i = xs.length := by omega
   subst this
   rw [he n, List.drop_eq_nil_of_le (Nat.le_refl _)]
   rfl
theorem OH (N : Nat) (k n : Int) : DK N k n = some (decide (0 ≤ k) && decide (k < n)) := by
 unfold DK
 simp only [Ba]
 by_cases h : 0 ≤ k
 ·rw [AC h]; simp [h]
 ·rw [AB h]; simp [h]
theorem LD (N : Nat) (t : Au) : AX N t = some (t.ff == 3 || t.ff == 4) := by
 unfold AX
 simp only [Ba]
 cases h : t.ff == 3 <;> simp
def sq (l : List (List Bool)) (n m : Int) : Bool := decide ((l.length : Int) = n) && l.all fun r => decide ((r.length : Int) = m)
theorem MQ {α : Type} (p : α → Bool) {R : Type} (r : Nat → R) : ∀ (i : Nat) (xs : List α), (CP (fun i x => if p x then none else some (r i)) i xs).isNone = xs.all p
 | i, [] => rfl
 | i, x :: xs => by
  unfold CP
  cases h : p x <;> simp [h, MQ p r (i + 1) xs]
theorem Or (N : Nat) (l : List (List Bool)) (n m : Int) (h : n < (N : Int)) (hN : N ≤ 1000000) : C2 N l n m = some (sq l n m) := by
 unfold C2 sq
 by_cases h1 : (l.length : Int) = n
 ·subst h1
  simp only [bne_self_eq_false, Ak, decide_true, Bool.true_and]
  have := BW (B7 N l (l.length : Int) m (fun _ => some true)) l (some true) (fun _ r => if decide ((r.length : Int) = m) then none else some false)
   (fun n i x hx => by
    have hi := (lI.1 hx).1
    rw [B7, AC (by omega), AR, hx]
    simp only [oS]
    rw [AG (by omega)]
    by_cases h2 : (x.length : Int) = m
    ·simp [h2, Bs]
    ·have : ((x.length : Int) != m) = true := by simpa using h2
     simp [h2, this, Bs])
   (fun n => by rw [B7, AB (by omega)]) N 0 (by omega) (by omega)
  simp only [Int.ofNat_zero, List.drop_zero] at this
  rw [this]
  have h3 := MQ (fun r : List Bool => decide ((r.length : Int) = m)) (fun _ => false) 0 l
  cases hsc : CP (fun (_ : Nat) (r : List Bool) => if decide ((r.length : Int) = m) = true then none else some false) 0 l with
  | none => rw [hsc] at h3; rw [← h3]; rfl
  | some b =>
   rw [hsc] at h3
   rw [← h3]
   have : ∀ (i : Nat) (xs : List (List Bool)) b, CP (fun (_ : Nat) (r : List Bool) => if decide ((r.length : Int) = m) = true then none else some false) i xs = some b → b = false := by
    intro i xs
    induction xs generalizing i with
    | nil => intro b hb; cases hb
    | cons x xs ih =>
     intro b hb
     unfold CP at hb
     split at hb
     ·rename_i r hr; cases hb; split at hr <;> simp at hr; exact hr
     ·exact ih _ b hb
   rw [this 0 l b hsc]; rfl
 ·have : ((l.length : Int) != n) = true := by simpa using h1
  simp [this, h1]
theorem Od (N : Nat) (l : List (List Bool)) (n m : Int) (h : n < (N : Int)) (hN : N ≤ 1000000) : EI N l n m = some (sq l n m) := by
 unfold EI sq
 simp only [Ba]
 by_cases h1 : (l.length : Int) = n
 ·subst h1
  simp only [beq_self_eq_true, AA, decide_true, Bool.true_and]
  have := BW (Bg N l (fun x => Dw N x m) (fun _ => some (-1))) l (some (-1)) (fun i r => if decide ((r.length : Int) = m) then none else some (i : Int))
   (fun n i x hx => by
    have hi := (lI.1 hx).1
    rw [Bg, AC (by omega), AR, hx]
    simp only [oS, Dw]
    rw [AG (by omega)]
    by_cases h2 : (x.length : Int) = m
    ·simp [h2, Bs]
    ·have : ((x.length : Int) != m) = true := by simpa using h2
     simp [h2, this, Bs])
   (fun n => by rw [Bg, AB (by omega)]) N 0 (by omega) (by omega)
  simp only [Int.ofNat_zero, List.drop_zero] at this
  unfold CA CZ
  rw [this]
  have h3 := MQ (fun r : List Bool => decide ((r.length : Int) = m)) (fun i : Nat => (i : Int)) 0 l
  cases hsc : CP (fun (i : Nat) (r : List Bool) => if decide ((r.length : Int) = m) = true then none else some (i : Int)) 0 l with
  | none => rw [hsc] at h3; rw [← h3]; rfl
  | some b =>
   rw [hsc] at h3
   rw [← h3]
   have : ∀ (i : Nat) (xs : List (List Bool)) b, CP (fun (i : Nat) (r : List Bool) => if decide ((r.length : Int) = m) = true then none else some (i : Int)) i xs = some b → 0 ≤ b := by
    intro i xs
    induction xs generalizing i with
    | nil => intro b hb; cases hb
    | cons x xs ih =>
     intro b hb
     rw [GK] at hb
     split at hb
     ·rename_i r hr
      cases hb
      split at hr
      ·cases hr
      ·cases hr; omega
     ·exact ih _ b hb
   have := this 0 l b hsc
   simp [Bs, this]
 ·have : ((l.length : Int) == n) = false := by simpa using h1
  simp [this, h1]
open List renaming mem_of_getElem? → lM
open List renaming getD_eq_getElem?_getD → lD
def H8 (l : List (List Bool)) : Option Int := CP (fun i row => if row.getD i false then none else some 1) 0 l
theorem PL {row : List Bool} {i : Nat} (h : i < row.length) : Bv row (i : Int) = some (row.getD i false) := by
 rw [AR, lD]; simp [h]
theorem Vf (N : Nat) (t : Au) (h : t.fm.length < N) (hN : N ≤ 1000000) (hsq : ∀ row, row ∈ t.fm → row.length = t.fm.length) (j : Option Int) :
  BF N t (fun _ => j) N 0 = Bs (H8 t.fm) j := by
 have := BW (BF N t (fun _ => j)) t.fm j (fun i row => if row.getD i false then none else some 1)
  (fun n i x hx => by
   have hi := (lI.1 hx).1
   have hl := hsq x (lM hx)
   rw [BF, AC (by omega), AR, hx]
   simp only [oS]
   rw [PL (by omega), AG (by omega)]
   simp only [oS]
   cases x.getD i false <;> rfl)
  (fun n => by rw [BF, AB (by omega)]) N 0 (by omega) (by omega)
 simpa [H8] using this
theorem N6 (N : Nat) (t : Au) (h : t.fm.length < N) (hN : N ≤ 1000000) (hsq : ∀ row, row ∈ t.fm → row.length = t.fm.length) (j : Option Int) :
  CL N t (fun _ => j) N 0 = Bs (H8 t.fm) j := by
 have := BW (CL N t (fun _ => j)) t.fm j (fun i row => if row.getD i false then none else some 1)
  (fun n i x hx => by
   have hi := (lI.1 hx).1
   have hl := hsq x (lM hx)
   rw [CL, AC (by omega), AR, hx]
   simp only [oS]
   rw [PL (by omega), AG (by omega)]
   simp only [oS]
   cases x.getD i false <;> rfl)
  (fun n => by rw [CL, AB (by omega)]) N 0 (by omega) (by omega)
 simpa [H8] using this
theorem MH {l : List (List Bool)} {n m : Int} (h : sq l n m = true) : (l.length : Int) = n ∧ ∀ row, row ∈ l → (row.length : Int) = m := by
 unfold sq at h
 simp only [Bool.and_eq_true, decide_eq_true_eq, List.all_eq_true] at h
 exact h
def DM (p : Aa) (t : Au) : Int :=
 if t.ff < 1 ∨ 4 < t.ff ∨ (t.fp = true ∧ (t.ff = 3 ∨ t.ff = 4)) then 1
 else if t.fg < 0 ∨ (p.fb.length : Int) ≤ t.fg ∨ t.fk < 0 ∨ (p.fb.length : Int) ≤ t.fk then 4
 else
  let f := p.fb.getD t.fg.toNat 0
  let g := p.fb.getD t.fk.toNat 0
  if sq t.fq f g = false then 6
  else if t.ff = 4 then (if sq t.fm f f = false then 6 else (H8 t.fm).getD 0)
  else if t.fm.length = 0 then 0 else 6
theorem Et {α : Type} {xs : List α} {i : Int} {d : α} (h0 : 0 ≤ i) (h1 : i < (xs.length : Int)) : Bv xs i = some (xs.getD i.toNat d) := by
 obtain ⟨k, rfl⟩ := Int.eq_ofNat_of_zero_le h0
 rw [AR, lD, Int.toNat_natCast]
 simp [show k < xs.length from by omega]
theorem TU {t : Au} (A B : Option Int) (hk : ¬ (t.fp = true ∧ (t.ff = 3 ∨ t.ff = 4))) : AK t.fp (AK (t.ff == 3 || t.ff == 4) A B) B = B := by
 cases ha : t.fp
 ·rfl
 ·have : (t.ff == 3 || t.ff == 4) = false := by
   rw [Bool.or_eq_false_iff]
   constructor
   ·simp only [beq_eq_false_iff_ne]; intro h; exact hk ⟨ha, .inl h⟩
   ·simp only [beq_eq_false_iff_ne]; intro h; exact hk ⟨ha, .inr h⟩
  rw [this]; rfl
theorem JM {p : Aa} {i : Int} (hv : ∀ v, v ∈ p.fb → 1 ≤ v ∧ v ≤ 6) (h0 : 0 ≤ i) (h1 : i < (p.fb.length : Int)) : 1 ≤ p.fb.getD i.toNat 0 ∧ p.fb.getD i.toNat 0 ≤ 6 := by
 refine hv _ ?_
 rw [lD, List.getElem?_eq_getElem (by omega)]
 exact List.getElem_mem _
theorem Sj (N : Nat) (p : Aa) (t : Au) (hN : N ≤ 1000000) (h6 : 7 ≤ N) (hv : ∀ v, v ∈ p.fb → 1 ≤ v ∧ v ≤ 6) : Ed N p t = some (DM p t) := by
 unfold Ed DM
 simp only [Ba, LD, oS]
 by_cases k1 : t.ff < 1
 ·simp [k1]
 by_cases k2 : 4 < t.ff
 ·simp [k1, k2]
 rw [AB k1, AB k2]
 by_cases hk : t.fp = true ∧ (t.ff = 3 ∨ t.ff = 4)
 ·obtain ⟨ha, k | k⟩ := hk <;> simp [ha, k]
 rw [Ak, TU _ _ hk, if_neg (fun h => h.elim k1 fun h => h.elim k2 hk)]
 by_cases f1 : t.fg < 0
 ·simp [f1]
 by_cases f2 : (p.fb.length : Int) ≤ t.fg
 ·simp [f1, f2]
 by_cases f3 : t.fk < 0
 ·simp [f1, f2, f3]
 by_cases f4 : (p.fb.length : Int) ≤ t.fk
 ·simp [f1, f2, f3, f4]
 rw [AB f1, AB f2, AB f3, if_neg (fun h => h.elim f1 fun h => h.elim f2 fun h => h.elim f3 f4)]
 have hf := JM hv (i := t.fg) (by omega) (by omega)
 rw [decide_eq_false f4, Ak, Et (d := 0) (by omega : 0 ≤ t.fg) (by omega), Et (d := 0) (by omega : 0 ≤ t.fk) (by omega)]
 simp only [oS]
 generalize p.fb.getD t.fg.toNat 0 = f at *
 generalize p.fb.getD t.fk.toNat 0 = g at *
 rw [Or N t.fq f g (by omega) hN, Or N t.fm f f (by omega) hN]
 simp only [oS]
 cases hq : sq t.fq f g
 ·rfl
 simp only [Bool.not_true, Ak]
 by_cases k4 : t.ff = 4
 ·have : (t.ff != 4) = false := by simp [k4]
  rw [this, Ak]
  simp only [k4, if_true]
  cases hr : sq t.fm f f
  ·rfl
  ·have h7 := MH hr
   simp only [Bool.not_true, Ak]
   rw [Vf N t (by omega) hN (fun row hm => by have := h7.2 row hm; omega)]
   cases H8 t.fm <;> simp [Bs]
 ·have : (t.ff != 4) = true := by simpa using k4
  rw [this, AA]
  simp only [k4, if_false]
  by_cases hr : t.fm.length = 0
  ·simp [hr]
  ·have : ((t.fm.length : Int) != 0) = true := bne_iff_ne.2 (by omega)
   rw [this]; simp [hr]
theorem UD (N : Nat) (k : Int) (a : Bool) : Gv N k a = some (k == 1 || (k == 2 || ((k == 3 || k == 4) && !a))) := by
 unfold Gv
 simp only [Ba]
 cases h1 : k == 1 <;> cases h2 : k == 2 <;> cases h3 : k == 3 <;> cases h4 : k == 4 <;> cases a <;> rfl
theorem Nf (N : Nat) (p : Aa) (t : Au) (hN : N ≤ 1000000) (h6 : 7 ≤ N) (hv : ∀ v, v ∈ p.fb → 1 ≤ v ∧ v ≤ 6) : FR N p t = some (DM p t) := by
 unfold FR DM
 simp only [Ba, UD, OH, oS]
 by_cases hb : t.ff < 1 ∨ 4 < t.ff ∨ (t.fp = true ∧ (t.ff = 3 ∨ t.ff = 4))
 ·have : (t.ff == 1 || (t.ff == 2 || ((t.ff == 3 || t.ff == 4) && !t.fp))) = false := by
   rcases hb with h | h | ⟨ha, h | h⟩
   ·rw [beq_eq_false_iff_ne.2 (by omega : t.ff ≠ 1), beq_eq_false_iff_ne.2 (by omega : t.ff ≠ 2), beq_eq_false_iff_ne.2 (by omega : t.ff ≠ 3), beq_eq_false_iff_ne.2 (by omega : t.ff ≠ 4)]; rfl
   ·rw [beq_eq_false_iff_ne.2 (by omega : t.ff ≠ 1), beq_eq_false_iff_ne.2 (by omega : t.ff ≠ 2), beq_eq_false_iff_ne.2 (by omega : t.ff ≠ 3), beq_eq_false_iff_ne.2 (by omega : t.ff ≠ 4)]; rfl
   ·simp [ha, h]
   ·simp [ha, h]
  rw [this, if_pos hb]; rfl
 ·have : (t.ff == 1 || (t.ff == 2 || ((t.ff == 3 || t.ff == 4) && !t.fp))) = true := by
   have hk : t.ff = 1 ∨ t.ff = 2 ∨ t.ff = 3 ∨ t.ff = 4 := by
    have h1 : ¬ t.ff < 1 := fun h => hb (.inl h)
    have h2 : ¬ 4 < t.ff := fun h => hb (.inr (.inl h))
    omega
   rcases hk with h | h | h | h
   ·simp [h]
   ·simp [h]
   ·cases ha : t.fp
    ·simp [h]
    ·exact (hb (.inr (.inr ⟨ha, .inl h⟩))).elim
   ·cases ha : t.fp
    ·simp [h]
    ·exact (hb (.inr (.inr ⟨ha, .inr h⟩))).elim
  rw [this, if_neg hb]
  simp only [Bool.not_true, Ak]
  by_cases f1 : t.fg < 0
  ·simp [f1, show ¬ (0 ≤ t.fg) from by omega]
  by_cases f2 : (p.fb.length : Int) ≤ t.fg
  ·simp [f2, show ¬ (t.fg < (p.fb.length : Int)) from by omega]
  by_cases f3 : t.fk < 0
  ·simp [f3, show 0 ≤ t.fg from by omega, show t.fg < (p.fb.length : Int) from by omega, show ¬ (0 ≤ t.fk) from by omega]
  by_cases f4 : (p.fb.length : Int) ≤ t.fk
  ·simp [f4, show 0 ≤ t.fg from by omega, show t.fg < (p.fb.length : Int) from by omega, show ¬ (t.fk < (p.fb.length : Int)) from by omega]
  rw [if_neg (fun h => h.elim f1 fun h => h.elim f2 fun h => h.elim f3 f4)]
  have hf := JM hv (i := t.fg) (by omega) (by omega)
  have hg := JM hv (i := t.fk) (by omega) (by omega)
  rw [decide_eq_true (by omega : 0 ≤ t.fg), decide_eq_true (by omega : t.fg < (p.fb.length : Int)), decide_eq_true (by omega : 0 ≤ t.fk), decide_eq_true (by omega : t.fk < (p.fb.length : Int)), Et (d := 0) (by omega : 0 ≤ t.fg) (by omega), Et (d := 0) (by omega : 0 ≤ t.fk) (by omega)]
  simp only [Bool.and_self, Bool.not_true, Ak, oS]
  generalize p.fb.getD t.fg.toNat 0 = f at *
  generalize p.fb.getD t.fk.toNat 0 = g at *
  rw [Od N t.fq f g (by omega) hN, Od N t.fm f f (by omega) hN]
  simp only [oS]
  cases hq : sq t.fq f g
  ·rfl
  simp only [Bool.not_true, Ak]
  by_cases k4 : t.ff = 4
  ·simp only [k4, beq_self_eq_true, AA, if_true]
   cases hr : sq t.fm f f
   ·rfl
   ·have h7 := MH hr
    simp only [Bool.not_true, Ak]
    rw [N6 N t (by omega) hN (fun row hm => by have := h7.2 row hm; omega)]
    cases H8 t.fm <;> simp [Bs]
  ·have : (t.ff == 4) = false := beq_eq_false_iff_ne.2 k4
   rw [this, Ak]
   simp only [k4, if_false, Bool.not_false, AA]
   by_cases hr : t.fm.length = 0
   ·rw [N6 N t (by omega) hN (fun row hm => by rw [List.eq_nil_of_length_eq_zero hr] at hm; cases hm), List.eq_nil_of_length_eq_zero hr]
    simp [H8, CP, Bs]
   ·rw [decide_eq_true (by omega : 0 < (t.fm.length : Int))]
    simp [hr]
def FA (p : Aa) (i : Nat) (v : Int) : Option Int :=
 if v < 1 ∨ 6 < v ∨ p.fi.getD i 0 < 0 ∨ v ≤ p.fi.getD i 0 ∨ p.fo.getD i 0 < 0 ∨ v ≤ p.fo.getD i 0 then some 7 else none
def Lr (p : Aa) (_ : Nat) (t : Au) : Option Int := if DM p t = 0 then none else some (DM p t)
def A6 (p : Aa) : Int :=
 if 6 < p.fb.length ∨ 12 < p.fd.length then 3
 else if p.fi.length ≠ p.fb.length ∨ p.fo.length ≠ p.fb.length then 6
 else ((Bs (CP (FA p) 0 p.fb) (CP (Lr p) 0 p.fd)).getD 0)
theorem Ff {α R : Type} {f : Nat → α → Option R} : ∀ {i : Nat} {xs : List α}, CP f i xs = none → ∀ j x, xs[j]? = some x → f (i + j) x = none
 | _, [], _, j, x, hx => by simp at hx
 | i, y :: ys, h, j, x, hx => by
  rw [GK] at h
  split at h
  ·cases h
  ·rename_i h0
   cases j with
   | zero => simp at hx; subst hx; exact h0
   | succ j =>
    have := Ff h j x (by simpa using hx)
    rwa [show i + 1 + j = i + (j + 1) from by omega] at this
theorem NB {p : Aa} (h : CP (FA p) 0 p.fb = none) : ∀ v, v ∈ p.fb → 1 ≤ v ∧ v ≤ 6 := by
 intro v hv
 obtain ⟨i, hi⟩ := List.mem_iff_getElem?.1 hv
 have := Ff h i v hi
 unfold FA at this
 split at this
 ·cases this
 ·rename_i hn
  constructor
  ·exact Int.not_lt.1 fun h => hn (.inl h)
  ·exact Int.not_lt.1 fun h => hn (.inr (.inl h))
theorem CF {α : Type} {xs : List α} {i : Nat} {d : α} (h : i < xs.length) : Bv xs (i : Int) = some (xs.getD i d) := by
 rw [AR, lD]; simp [h]
theorem Re (N : Nat) (p : Aa) (hN : N ≤ 1000000) (h1 : p.fb.length < N) (h2 : p.fi.length = p.fb.length) (h3 : p.fo.length = p.fb.length) (j : Option Int) :
  A8 N p (fun _ => j) N 0 = Bs (CP (FA p) 0 p.fb) j := by
 have := BW (A8 N p (fun _ => j)) p.fb j (FA p)
  (fun n i x hx => by
   have hi := (lI.1 hx).1
   rw [A8, AC (by omega), AR, hx]
   simp only [oS, Ba]
   rw [CF (d := 0) (by omega), CF (d := 0) (by omega), AG (by omega)]
   simp only [oS]
   unfold FA
   generalize p.fi.getD i 0 = a
   generalize p.fo.getD i 0 = b
   by_cases k1 : x < 1 <;> by_cases k2 : 6 < x <;> by_cases k3 : a < 0 <;> by_cases k4 : x ≤ a <;> by_cases k5 : b < 0 <;> by_cases k6 : x ≤ b <;> simp [k1, k2, k3, k4, k5, k6, Bs])
  (fun n => by rw [A8, AB (by omega)]) N 0 (by omega) (by omega)
 simpa using this
theorem Pf (N : Nat) (p : Aa) (hN : N ≤ 1000000) (h1 : p.fb.length < N) (h2 : p.fi.length = p.fb.length) (h3 : p.fo.length = p.fb.length) (j : Option Int) :
  BD N p (fun _ => j) N 0 = Bs (CP (FA p) 0 p.fb) j := by
 have := BW (BD N p (fun _ => j)) p.fb j (FA p)
  (fun n i x hx => by
   have hi := (lI.1 hx).1
   rw [BD, AC (by omega), AR, hx]
   simp only [oS, Ba, OH]
   rw [CF (d := 0) (by omega), CF (d := 0) (by omega), AG (by omega)]
   simp only [oS]
   unfold FA
   generalize p.fi.getD i 0 = a
   generalize p.fo.getD i 0 = b
   have e1 : decide (0 ≤ a) = !decide (a < 0) := by rw [← decide_not]; congr 1; simp
   have e2 : decide (a < x) = !decide (x ≤ a) := by rw [← decide_not]; congr 1; simp
   have e3 : decide (0 ≤ b) = !decide (b < 0) := by rw [← decide_not]; congr 1; simp
   have e4 : decide (b < x) = !decide (x ≤ b) := by rw [← decide_not]; congr 1; simp
   rw [e1, e2, e3, e4]
   by_cases k1 : x < 1 <;> by_cases k2 : 6 < x <;> by_cases k3 : a < 0 <;> by_cases k4 : x ≤ a <;> by_cases k5 : b < 0 <;> by_cases k6 : x ≤ b <;> simp [k1, k2, k3, k4, k5, k6, Bs])
  (fun n => by rw [BD, AB (by omega)]) N 0 (by omega) (by omega)
 simpa using this
theorem TI (N : Nat) (p : Aa) (hN : N ≤ 1000000) (h6 : 7 ≤ N) (h1 : p.fd.length < N) (hv : ∀ v, v ∈ p.fb → 1 ≤ v ∧ v ≤ 6) (j : Option Int) :
  A4 N p (fun _ => j) N 0 = Bs (CP (Lr p) 0 p.fd) j := by
 have := BW (A4 N p (fun _ => j)) p.fd j (Lr p)
  (fun n i x hx => by
   have hi := (lI.1 hx).1
   rw [A4, AC (by omega), AR, hx]
   simp only [oS]
   rw [Sj N p x hN h6 hv, AG (by omega)]
   simp only [oS]
   unfold Lr
   by_cases k : DM p x = 0
   ·simp [k, Bs]
   ·rw [bne_iff_ne.2 k, if_neg k]; rfl)
  (fun n => by rw [A4, AB (by omega)]) N 0 (by omega) (by omega)
 simpa using this
theorem Q8 (N : Nat) (p : Aa) (hN : N ≤ 1000000) (h6 : 7 ≤ N) (h1 : p.fd.length < N) (hv : ∀ v, v ∈ p.fb → 1 ≤ v ∧ v ≤ 6) (j : Option Int) :
  Bu N p (fun _ => j) N 0 = Bs (CP (Lr p) 0 p.fd) j := by
 have := BW (Bu N p (fun _ => j)) p.fd j (Lr p)
  (fun n i x hx => by
   have hi := (lI.1 hx).1
   rw [Bu, AC (by omega), AR, hx]
   simp only [oS]
   rw [Nf N p x hN h6 hv, AG (by omega)]
   simp only [oS]
   unfold Lr
   by_cases k : DM p x = 0
   ·simp [k, Bs]
   ·rw [bne_iff_ne.2 k, if_neg k]; rfl)
  (fun n => by rw [Bu, AB (by omega)]) N 0 (by omega) (by omega)
 simpa using this
theorem KD (N : Nat) (p : Aa) (hN : N ≤ 1000000) (h : 20 ≤ N) : BA N p = some (A6 p) := by
 unfold BA A6
 simp only [Ba]
 by_cases k1 : 6 < p.fb.length
 ·rw [AC (by omega)]; simp [k1]
 rw [AB (by omega)]
 by_cases k2 : 12 < p.fd.length
 ·rw [decide_eq_true (by omega : (12 : Int) < (p.fd.length : Int))]; simp [k2]
 rw [decide_eq_false (by omega : ¬ (12 : Int) < (p.fd.length : Int)), Ak, if_neg (by omega)]
 by_cases k3 : p.fi.length = p.fb.length
 ·by_cases k4 : p.fo.length = p.fb.length
  ·rw [k3, k4]
   simp only [bne_self_eq_false, Ak, ne_eq, not_true_eq_false, or_self, if_false]
   rw [Re N p hN (by omega) k3 k4]
   cases hs : CP (FA p) 0 p.fb with
   | some r => rfl
   | none =>
    simp only [Bs]
    rw [TI N p hN (by omega) (by omega) (NB hs)]
    cases CP (Lr p) 0 p.fd <;> rfl
  ·have : ((p.fo.length : Int) != (p.fb.length : Int)) = true := bne_iff_ne.2 (by omega)
   rw [this, k3]; simp [k4]
 ·have : ((p.fi.length : Int) != (p.fb.length : Int)) = true := bne_iff_ne.2 (by omega)
  rw [this]; simp [k3]
theorem Jf (N : Nat) (p : Aa) (hN : N ≤ 1000000) (h : 20 ≤ N) : Cy N p = some (A6 p) := by
 unfold Cy A6
 simp only [Ba]
 by_cases k1 : 6 < p.fb.length
 ·rw [AC (by omega)]; simp [k1]
 rw [AB (by omega)]
 by_cases k2 : 12 < p.fd.length
 ·rw [decide_eq_true (by omega : (12 : Int) < (p.fd.length : Int))]; simp [k2]
 rw [decide_eq_false (by omega : ¬ (12 : Int) < (p.fd.length : Int)), Ak, if_neg (by omega)]
 by_cases k3 : p.fi.length = p.fb.length
 ·by_cases k4 : p.fo.length = p.fb.length
  ·rw [k3, k4]
   simp only [bne_self_eq_false, Ak, ne_eq, not_true_eq_false, or_self, if_false]
   rw [Pf N p hN (by omega) k3 k4]
   cases hs : CP (FA p) 0 p.fb with
   | some r => rfl
   | none =>
    simp only [Bs]
    rw [Q8 N p hN (by omega) (by omega) (NB hs)]
    cases CP (Lr p) 0 p.fd <;> rfl
  ·have : ((p.fo.length : Int) != (p.fb.length : Int)) = true := bne_iff_ne.2 (by omega)
   rw [this, k3]; simp [k4]
 ·have : ((p.fi.length : Int) != (p.fb.length : Int)) = true := bne_iff_ne.2 (by omega)
  rw [this]; simp [k3]
theorem Ih {n : Int} (h : Jw n) : 0 ≤ n ∧ n ≤ 255 := by
 unfold Jw at h
 simpa [Lit.wf, IntKind.min, IntKind.max, IntKind.signed, IntKind.bits] using h
theorem NZ : ∀ k : Fin 256, CR .u8 0 (k.val : Int) = 0 := by decide +kernel
theorem NM : ∀ k : Fin 256, CR .u8 (k.val : Int) 0 = (k.val : Int) := by decide +kernel
theorem Te {n : Int} (h : Jw n) : CR .u8 0 n = 0 := by
 have := Ih h
 obtain ⟨k, rfl⟩ := Int.eq_ofNat_of_zero_le this.1
 exact NZ ⟨k, by omega⟩
theorem SH {n : Int} (h : Jw n) : CR .u8 n 0 = n := by
 have := Ih h
 obtain ⟨k, rfl⟩ := Int.eq_ofNat_of_zero_le this.1
 exact NM ⟨k, by omega⟩
theorem Ej {α R : Type} {f : Nat → α → Option R} : ∀ {i : Nat} {xs : List α} {r : R}, CP f i xs = some r → ∃ j x, xs[j]? = some x ∧ f (i + j) x = some r
 | _, [], _, h => by cases h
 | i, y :: ys, r, h => by
  rw [GK] at h
  split at h
  ·rename_i r' h0
   cases h
   exact ⟨0, y, rfl, h0⟩
  ·obtain ⟨j, x, h1, h2⟩ := Ej h
   exact ⟨j + 1, x, by simpa using h1, by rwa [show i + (j + 1) = i + 1 + j from by omega]⟩
structure Cd (p : Aa) : Prop where
 nv : p.fb.length ≤ 6
 nt : p.fd.length ≤ 12
 now : p.fi.length = p.fb.length
 tgt : p.fo.length = p.fb.length
 ver : ∀ v, v ∈ p.fb → 1 ≤ v ∧ v ≤ 6
 tab : ∀ t, t ∈ p.fd → DM p t = 0
theorem Rb (l : List (List Bool)) : (H8 l).getD 0 = 0 ∨ (H8 l).getD 0 = 1 := by
 cases h : H8 l with
 | none => exact .inl rfl
 | some r =>
  obtain ⟨j, x, _, h⟩ := Ej h
  split at h
  ·cases h
  ·cases h; exact .inr rfl
theorem OZ (p : Aa) (t : Au) : DM p t = 0 ∨ DM p t = 1 ∨ DM p t = 4 ∨ DM p t = 6 := by
 unfold DM
 split
 ·exact .inr (.inl rfl)
 split
 ·exact .inr (.inr (.inl rfl))
 simp only
 split
 ·exact .inr (.inr (.inr rfl))
 split
 ·split
  ·exact .inr (.inr (.inr rfl))
  ·rcases Rb t.fm with h | h
   ·exact .inl h
   ·exact .inr (.inl h)
 ·split
  ·exact .inl rfl
  ·exact .inr (.inr (.inr rfl))
theorem G4 (p : Aa) : (A6 p = 0 ∧ Cd p) ∨ (A6 p = 1 ∨ A6 p = 3 ∨ A6 p = 4 ∨ A6 p = 6 ∨ A6 p = 7) := by
 unfold A6
 split
 ·simp
 rename_i k1
 split
 ·simp
 rename_i k2
 cases hs : CP (FA p) 0 p.fb with
 | some r =>
  obtain ⟨j, x, _, h⟩ := Ej hs
  unfold FA at h
  split at h
  ·cases h; simp [Bs]
  ·cases h
 | none =>
  cases ht : CP (Lr p) 0 p.fd with
  | some r =>
   obtain ⟨j, t, _, h⟩ := Ej ht
   unfold Lr at h
   split at h
   ·cases h
   ·rename_i hne
    cases h
    simp only [Bs, Option.getD_some]
    right
    rcases OZ p t with h | h | h | h
    ·exact (hne h).elim
    ·exact .inl h
    ·exact .inr (.inr (.inl h))
    ·exact .inr (.inr (.inr (.inl h)))
  | none =>
   left
   refine ⟨rfl, by omega, by omega, by omega, by omega, NB hs, fun t hm => ?_⟩
   obtain ⟨j, hj⟩ := List.mem_iff_getElem?.1 hm
   have := Ff ht j t hj
   unfold Lr at this
   split at this
   ·assumption
   ·cases this
def Gn (m : Ac) (s : Nat) : Int :=
 if 0 ≤ m.fa.getD s 0 then NI .u8 (Dp .u8 1 (m.fe.getD s 0)) (Dp .u8 1 (m.fa.getD s 0)) else Dp .u8 1 (m.fe.getD s 0)
def KS (m : Ac) (i : Nat) (v : Int) : Option Int :=
 if m.fe.getD i 0 < 0 ∨ v ≤ m.fe.getD i 0 ∨ m.fa.getD i 0 < -1 ∨ v ≤ m.fa.getD i 0 then some 7
 else if m.fe.getD i 0 = m.fa.getD i 0 then some 1 else none
def Bz (t : Au) : Bool := t.ff == 3 || t.ff == 4
def UE (p : Aa) (t : Au) : Int := wI .u8 (Dp .u8 1 (p.fb.getD t.fg.toNat 0) - 1)
def IJ (p : Aa) (m : Ac) (i : Nat) (t : Au) : Option Int :=
 if Bz t = true then (if CR .u8 (Gn m t.fg.toNat) (m.fc.getD i 0) ≠ 0 ∨ CR .u8 (m.fc.getD i 0) (UE p t) ≠ 0 then some 1 else none)
 else if m.fc.getD i 0 ≠ 0 then some 1 else none
def DY (p : Aa) (m : Ac) : Int :=
 if A6 p ≠ 0 then A6 p
 else if m.fe.length ≠ p.fb.length ∨ m.fa.length ≠ p.fb.length ∨ m.fc.length ≠ p.fd.length then 6
 else (Bs (CP (KS m) 0 p.fb) (CP (IJ p m) 0 p.fd)).getD 0
theorem Ig {p : Aa} {t : Au} (h : DM p t = 0) : 0 ≤ t.fg ∧ t.fg < (p.fb.length : Int) ∧ 0 ≤ t.fk ∧ t.fk < (p.fb.length : Int) := by
 unfold DM at h
 split at h
 ·cases h
 ·split at h
  ·cases h
  ·omega
theorem KJ (N : Nat) (m : Ac) (s : Int) (h0 : 0 ≤ s) (h1 : s < (m.fe.length : Int)) (h2 : s < (m.fa.length : Int)) (hb : 0 ≤ m.fe.getD s.toNat 0) : EC N m s = some (Gn m s.toNat) := by
 unfold EC Gn
 rw [Et (d := 0) h0 h1, Et (d := 0) h0 h2]
 simp only [oS, Ba]
 rw [show DD (0 ≤ m.fe.getD s.toNat 0) = some () from by unfold DD; rw [if_pos hb]]
 simp only [oS]
 by_cases h : 0 ≤ m.fa.getD s.toNat 0
 ·rw [AC h, if_pos h, show DD (0 ≤ m.fa.getD s.toNat 0) = some () from by unfold DD; rw [if_pos h]]; rfl
 ·rw [AB h, if_neg h]
theorem Jk (N : Nat) (m : Ac) (s : Int) (h0 : 0 ≤ s) (h1 : s < (m.fe.length : Int)) (h2 : s < (m.fa.length : Int)) (hb : 0 ≤ m.fe.getD s.toNat 0) : BB N m s = some (Gn m s.toNat) := by
 unfold BB Gn
 rw [Et (d := 0) h0 h1, Et (d := 0) h0 h2]
 simp only [oS, Ba]
 rw [show DD (0 ≤ m.fe.getD s.toNat 0) = some () from by unfold DD; rw [if_pos hb]]
 simp only [oS]
 by_cases h : 0 ≤ m.fa.getD s.toNat 0
 ·rw [AC h, if_pos h, show DD (0 ≤ m.fa.getD s.toNat 0) = some () from by unfold DD; rw [if_pos h]]; rfl
 ·rw [AB h, if_neg h]
theorem O5 (N : Nat) (p : Aa) (m : Ac) (hN : N ≤ 1000000) (h1 : p.fb.length < N) (h2 : m.fe.length = p.fb.length) (h3 : m.fa.length = p.fb.length) (j : Option Int) :
  DI N p m (fun _ => j) N 0 = Bs (CP (KS m) 0 p.fb) j := by
 have := BW (DI N p m (fun _ => j)) p.fb j (KS m)
  (fun n i x hx => by
   have hi := (lI.1 hx).1
   rw [DI, AC (by omega), AR, hx]
   simp only [oS, Ba]
   rw [CF (d := 0) (by omega), CF (d := 0) (by omega), AG (by omega)]
   simp only [oS]
   unfold KS
   generalize m.fe.getD i 0 = a
   generalize m.fa.getD i 0 = b
   by_cases k7 : a = b
   ·subst k7
    by_cases k3 : a < 0 <;> by_cases k4 : x ≤ a <;> by_cases k5 : a < -1 <;> simp [k3, k4, k5, Bs]
   ·have k8 : (a == b) = false := beq_eq_false_iff_ne.2 k7
    by_cases k3 : a < 0 <;> by_cases k4 : x ≤ a <;> by_cases k5 : b < -1 <;> by_cases k6 : x ≤ b <;> simp [k3, k4, k5, k6, k7, k8, Bs])
  (fun n => by rw [DI, AB (by omega)]) N 0 (by omega) (by omega)
 simpa using this
theorem O2 (N : Nat) (p : Aa) (m : Ac) (hN : N ≤ 1000000) (h1 : p.fb.length < N) (h2 : m.fe.length = p.fb.length) (h3 : m.fa.length = p.fb.length) (j : Option Int) :
  BM N p m (fun _ => j) N 0 = Bs (CP (KS m) 0 p.fb) j := by
 have := BW (BM N p m (fun _ => j)) p.fb j (KS m)
  (fun n i x hx => by
   have hi := (lI.1 hx).1
   rw [BM, AC (by omega), show Bv p.fb (i : Int) = some x from by rw [AR, hx]]
   simp only [oS, Ba]
   rw [CF (d := 0) (by omega), CF (d := 0) (by omega), AG (by omega)]
   simp only [oS]
   unfold KS
   generalize m.fe.getD i 0 = a
   generalize m.fa.getD i 0 = b
   by_cases k7 : a = b
   ·subst k7
    by_cases k3 : a < 0 <;> by_cases k4 : x ≤ a <;> by_cases k5 : a < -1 <;> simp [k3, k4, k5, Bs]
   ·have k8 : (a == b) = false := beq_eq_false_iff_ne.2 k7
    by_cases k3 : a < 0 <;> by_cases k4 : x ≤ a <;> by_cases k5 : b < -1 <;> by_cases k6 : x ≤ b <;> simp [k3, k4, k5, k6, k7, k8, Bs])
  (fun n => by rw [BM, AB (by omega)]) N 0 (by omega) (by omega)
 simpa using this
structure MixServ (p : Aa) (m : Ac) : Prop where
 base : m.fe.length = p.fb.length
 next : m.fa.length = p.fb.length
 held : m.fc.length = p.fd.length
 b0 : ∀ i, i < p.fb.length → 0 ≤ m.fe.getD i 0 ∧ m.fe.getD i 0 < p.fb.getD i 0
 n0 : ∀ i, i < p.fb.length → -1 ≤ m.fa.getD i 0 ∧ m.fa.getD i 0 < p.fb.getD i 0
 ne : ∀ i, i < p.fb.length → m.fe.getD i 0 ≠ m.fa.getD i 0
theorem Pp {p : Aa} {m : Ac} (h2 : m.fe.length = p.fb.length) (h3 : m.fa.length = p.fb.length) (h4 : m.fc.length = p.fd.length) (h : CP (KS m) 0 p.fb = none) : MixServ p m := by
 have key : ∀ i, i < p.fb.length → ¬ (m.fe.getD i 0 < 0 ∨ p.fb.getD i 0 ≤ m.fe.getD i 0 ∨ m.fa.getD i 0 < -1 ∨ p.fb.getD i 0 ≤ m.fa.getD i 0) ∧ ¬ m.fe.getD i 0 = m.fa.getD i 0 := by
  intro i hi
  have hx : p.fb[i]? = some (p.fb.getD i 0) := by rw [lD]; simp [hi]
  have := Ff h i _ hx
  rw [Nat.zero_add] at this
  unfold KS at this
  split at this
  ·cases this
  ·split at this
   ·cases this
   ·rename_i k1 k2; exact ⟨k1, k2⟩
 exact ⟨h2, h3, h4, fun i hi => by have := (key i hi).1; omega, fun i hi => by have := (key i hi).1; omega, fun i hi => (key i hi).2⟩
theorem Qi {m : Ac} (hw : Kh Jw m.fc) {i : Nat} (h : i < m.fc.length) : Jw (m.fc.getD i 0) := by
 refine hw _ ?_
 rw [lD, List.getElem?_eq_getElem h]
 exact List.getElem_mem _
theorem IN (N : Nat) (t : Au) : EY N t = some (Bz t) := by
 unfold EY Bz
 simp only [Ba]
 cases h : t.ff == 3 <;> simp
theorem Gs (N : Nat) (t : Au) : AX N t = some (Bz t) := LD N t
theorem Q0 (N : Nat) (p : Aa) (m : Ac) (hN : N ≤ 1000000) (h1 : p.fd.length < N) (hp : Cd p) (hm : MixServ p m) (hw : Kh Jw m.fc) (j : Option Int) :
  Da N p m (fun _ => j) N 0 = Bs (CP (IJ p m) 0 p.fd) j := by
 have := BW (Da N p m (fun _ => j)) p.fd j (IJ p m)
  (fun n i x hx => by
   have hi := (lI.1 hx).1
   have hin := Ig (hp.tab x (lM hx))
   have hheld := Qi hw (show i < m.fc.length from by rw [hm.held]; exact hi)
   have hv := JM hp.ver hin.1 hin.2.1
   rw [Da, AC (by omega), AR, hx]
   simp only [oS, Ba, IN]
   rw [KJ N m x.fg hin.1 (by rw [hm.base]; exact hin.2.1) (by rw [hm.next]; exact hin.2.1) (hm.b0 _ (by omega)).1, Et (d := 0) hin.1 hin.2.1, CF (d := 0) (show i < m.fc.length from by rw [hm.held]; exact hi), AG (by omega)]
   simp only [oS]
   rw [show DD (0 ≤ p.fb.getD x.fg.toNat 0) = some () from by unfold DD; rw [if_pos (by omega)]]
   simp only [oS]
   unfold IJ UE
   rw [Te hheld, SH hheld]
   generalize CR .u8 (Gn m x.fg.toNat) (m.fc.getD i 0) = A
   generalize CR .u8 (m.fc.getD i 0) (wI .u8 (Dp .u8 1 (p.fb.getD x.fg.toNat 0) - 1)) = B
   generalize m.fc.getD i 0 = H
   cases Bz x
   ·simp only [Ak, bne_self_eq_false]
    by_cases k : H = 0
    ·simp [k, Bs]
    ·have : (H != 0) = true := bne_iff_ne.2 k
     simp [k, this, Bs]
   ·simp only [AA]
    by_cases k : A = 0
    ·by_cases k2 : B = 0
     ·simp [k, k2, Bs]
     ·have : (B != 0) = true := bne_iff_ne.2 k2
      simp [k, k2, this, Bs]
    ·have : (A != 0) = true := bne_iff_ne.2 k
     simp [k, this, Bs])
  (fun n => by rw [Da, AB (by omega)]) N 0 (by omega) (by omega)
 simpa using this
theorem Q6 (N : Nat) (p : Aa) (m : Ac) (hN : N ≤ 1000000) (h1 : p.fd.length < N) (hp : Cd p) (hm : MixServ p m) (j : Option Int) :
  BC N p m (fun _ => j) N 0 = Bs (CP (IJ p m) 0 p.fd) j := by
 have := BW (BC N p m (fun _ => j)) p.fd j (IJ p m)
  (fun n i x hx => by
   have hi := (lI.1 hx).1
   have hin := Ig (hp.tab x (lM hx))
   have hv := JM hp.ver hin.1 hin.2.1
   rw [BC, AC (by omega), AR, hx]
   simp only [oS, Ba, Gs]
   rw [Jk N m x.fg hin.1 (by rw [hm.base]; exact hin.2.1) (by rw [hm.next]; exact hin.2.1) (hm.b0 _ (by omega)).1, Et (d := 0) hin.1 hin.2.1, CF (d := 0) (show i < m.fc.length from by rw [hm.held]; exact hi), AG (by omega)]
   simp only [oS]
   rw [show DD (0 ≤ p.fb.getD x.fg.toNat 0) = some () from by unfold DD; rw [if_pos (by omega)]]
   simp only [oS]
   unfold IJ UE
   generalize CR .u8 (Gn m x.fg.toNat) (m.fc.getD i 0) = A
   generalize CR .u8 (m.fc.getD i 0) (wI .u8 (Dp .u8 1 (p.fb.getD x.fg.toNat 0) - 1)) = B
   generalize m.fc.getD i 0 = H
   cases Bz x
   ·simp only [Bool.not_false, AA, Ak]
    by_cases k : H = 0
    ·simp [k, Bs]
    ·have : (H != 0) = true := bne_iff_ne.2 k
     simp [k, this, Bs]
   ·simp only [Bool.not_true, Ak, AA]
    by_cases k : A = 0
    ·by_cases k2 : B = 0
     ·simp [k, k2, Bs]
     ·have : (B != 0) = true := bne_iff_ne.2 k2
      simp [k, k2, this, Bs]
    ·have : (A != 0) = true := bne_iff_ne.2 k
     by_cases k2 : B = 0
     ·simp [k, k2, this, Bs]
     ·have h5 : (B != 0) = true := bne_iff_ne.2 k2
      simp [k, h5, Bs])
  (fun n => by rw [BC, AB (by omega)]) N 0 (by omega) (by omega)
 simpa using this
theorem HX (N : Nat) (p : Aa) (m : Ac) (hN : N ≤ 1000000) (h : 20 ≤ N) (hw : Kh Jw m.fc) : ER N p m = some (DY p m) := by
 unfold ER DY
 rw [Jf N p hN h]
 simp only [oS, Ba]
 by_cases k0 : A6 p = 0
 ·have hp : Cd p := by
   rcases G4 p with h | h
   ·exact h.2
   ·omega
  have hnv := hp.nv
  have hnt := hp.nt
  rw [k0]
  simp only [bne_self_eq_false, Ak, ne_eq, not_true_eq_false, if_false]
  by_cases k1 : m.fe.length = p.fb.length
  ·by_cases k2 : m.fa.length = p.fb.length
   ·by_cases k3 : m.fc.length = p.fd.length
    ·rw [k1, k2, k3]
     simp only [bne_self_eq_false, Ak, not_true_eq_false, or_self, if_false]
     rw [O5 N p m hN (by omega) k1 k2]
     cases hs : CP (KS m) 0 p.fb with
     | some r => rfl
     | none =>
      simp only [Bs]
      rw [Q0 N p m hN (by omega) hp (Pp k1 k2 k3 hs) hw]
      cases CP (IJ p m) 0 p.fd <;> rfl
    ·have : ((m.fc.length : Int) != (p.fd.length : Int)) = true := bne_iff_ne.2 (by omega)
     rw [this, k1, k2]; simp [k3]
   ·have : ((m.fa.length : Int) != (p.fb.length : Int)) = true := bne_iff_ne.2 (by omega)
    rw [this, k1]; simp [k2]
  ·have : ((m.fe.length : Int) != (p.fb.length : Int)) = true := bne_iff_ne.2 (by omega)
   rw [this]; simp [k1]
 ·rw [bne_iff_ne.2 k0]; simp [k0]
theorem GY (N : Nat) (p : Aa) (m : Ac) (hN : N ≤ 1000000) (h : 20 ≤ N) : BZ N p m = some (DY p m) := by
 unfold BZ DY
 rw [KD N p hN h]
 simp only [oS, Ba]
 by_cases k0 : A6 p = 0
 ·have hp : Cd p := by
   rcases G4 p with h | h
   ·exact h.2
   ·omega
  have hnv := hp.nv
  have hnt := hp.nt
  rw [k0]
  simp only [bne_self_eq_false, Ak, ne_eq, not_true_eq_false, if_false]
  by_cases k1 : m.fe.length = p.fb.length
  ·by_cases k2 : m.fa.length = p.fb.length
   ·by_cases k3 : m.fc.length = p.fd.length
    ·rw [k1, k2, k3]
     simp only [bne_self_eq_false, Ak, not_true_eq_false, or_self, if_false]
     rw [O2 N p m hN (by omega) k1 k2]
     cases hs : CP (KS m) 0 p.fb with
     | some r => rfl
     | none =>
      simp only [Bs]
      rw [Q6 N p m hN (by omega) hp (Pp k1 k2 k3 hs)]
      cases CP (IJ p m) 0 p.fd <;> rfl
    ·have : ((m.fc.length : Int) != (p.fd.length : Int)) = true := bne_iff_ne.2 (by omega)
     rw [this, k1, k2]; simp [k3]
   ·have : ((m.fa.length : Int) != (p.fb.length : Int)) = true := bne_iff_ne.2 (by omega)
    rw [this, k1]; simp [k2]
  ·have : ((m.fe.length : Int) != (p.fb.length : Int)) = true := bne_iff_ne.2 (by omega)
   rw [this]; simp [k1]
 ·rw [bne_iff_ne.2 k0]; simp [k0]
@[simp] theorem AY {α β : Type} (k : α) (f : α → β) : Ba k f = f k := rfl
@[simp] theorem Th {p : Prop} [Decidable p] (h : p) : DD p = some () := by unfold DD; rw [if_pos h]
theorem Ap {β : Type} {p : Prop} [Decidable p] (h : p) (f : Unit → Option β) : (DD p).bind f = f () := by rw [Th h]; rfl
def Hk {α β : Type} (g : Nat → α → List β) : Nat → List α → List β
 | _, [] => []
 | i, x :: xs => g i x ++ Hk g (i + 1) xs
def HN {α A : Type} (f : Nat → α → A → A) : Nat → List α → A → A
 | _, [], a => a
 | i, x :: xs, a => HN f (i + 1) xs (f i x a)
theorem IY {α β : Type} {g : Nat → α → List β} {c : Nat} : ∀ {i : Nat} {xs : List α}, (∀ j x, xs[j]? = some x → (g (i + j) x).length ≤ c) → (Hk g i xs).length ≤ c * xs.length
 | _, [], _ => by simp [Hk]
 | i, x :: xs, h => by
  have h1 := h 0 x rfl
  have h2 := IY (g := g) (c := c) (i := i + 1) (xs := xs) fun j y hy => by
   have := h (j + 1) y (by simpa using hy)
   rwa [show i + (j + 1) = i + 1 + j from by omega] at this
  rw [Hk, List.length_append, List.length_cons, Nat.mul_add]
  simp only [Nat.add_zero] at h1
  omega
theorem H2 {α A S R : Type} (L : Nat → S → Option R) (mk : A → Int → S) (xs : List α) (j : A → Option R) (f : Nat → α → A → A) (I : Nat → A → Prop)
  (hs : ∀ (n i : Nat) (x : α) (a : A), xs[i]? = some x → I i a → L (n + 1) (mk a (i : Int)) = L n (mk (f i x a) ((i + 1 : Nat) : Int)) ∧ I (i + 1) (f i x a))
  (he : ∀ (n : Nat) (a : A), I xs.length a → L (n + 1) (mk a (xs.length : Int)) = j a) :
  ∀ (n i : Nat) (a : A), i ≤ xs.length → xs.length - i < n → I i a → L n (mk a (i : Int)) = j (HN f i (xs.drop i) a) ∧ I xs.length (HN f i (xs.drop i) a)
 | 0, i, _, _, h, _ => by omega
 | n + 1, i, a, hi, h, ha => by
  by_cases h1 : i < xs.length
  ·have hx : xs[i]? = some xs[i] := by simp [h1]
   obtain ⟨e1, e2⟩ := hs n i _ a hx ha
   rw [e1, Cu hx, HN]
   exact H2 L mk xs j f I hs he n (i + 1) _ (by omega) (by omega) e2
  ·have : i = xs.length := by omega
   subst this
   rw [List.drop_eq_nil_of_le (Nat.le_refl _), HN]
   exact ⟨he n a ha, ha⟩
theorem MP {α β : Type} (g : Nat → α → List β) : ∀ (i : Nat) (xs : List α) (acc : List β), HN (fun i x a => a ++ g i x) i xs acc = acc ++ Hk g i xs
 | _, [], acc => by simp [HN, Hk]
 | i, x :: xs, acc => by rw [HN, MP g (i + 1) xs, Hk, List.append_assoc]
theorem Ka {α β S R : Type} (L : Nat → S → Option R) (mk : List β → Int → S) (xs : List α) (j : List β → Option R) (g : Nat → α → List β) (c B : Nat)
  (hg : ∀ i x, xs[i]? = some x → (g i x).length ≤ c)
  (hs : ∀ (n i : Nat) (x : α) (a : List β), xs[i]? = some x → a.length + (g i x).length ≤ B → L (n + 1) (mk a (i : Int)) = L n (mk (a ++ g i x) ((i + 1 : Nat) : Int)))
  (he : ∀ (n : Nat) (a : List β), L (n + 1) (mk a (xs.length : Int)) = j a) (n : Nat) (a : List β) (hn : xs.length < n) (ha : a.length + c * xs.length ≤ B) :
  L n (mk a 0) = j (a ++ Hk g 0 xs) := by
 have := H2 L mk xs j (fun i x a => a ++ g i x) (fun i b => i ≤ xs.length ∧ b.length ≤ a.length + c * i)
  (fun n i x b hx hb => by
   have h1 := hg i x hx
   have hi := (lI.1 hx).1
   have h2 : c * (i + 1) ≤ c * xs.length := Nat.mul_le_mul_left c hi
   have h3 : c * (i + 1) = c * i + c := Nat.mul_succ c i
   refine ⟨hs n i x b hx (by have := hb.2; omega), hi, ?_⟩
   rw [List.length_append]
   have := hb.2
   omega)
  (fun n b _ => he n b) n 0 a (Nat.zero_le _) (by omega) ⟨Nat.zero_le _, by omega⟩
 have h2 := this.1
 rw [List.drop_zero, MP] at h2
 exact h2
def Dg (s : Int) (v : Nat) : Bool := s.toNat.testBit v
def H0 (m : Ac) (s v : Nat) : Bool := decide (m.fe.getD s 0 = (v : Int)) || decide (m.fa.getD s 0 = (v : Int))
theorem Vh : ∀ (s : Fin 256) (v : Fin 8), F6 .u8 (Fi .u8 (s.val : Int) (v.val : Int)) 1 = if Dg (s.val : Int) v.val then 1 else 0 := by decide +kernel
theorem O0 {s : Int} {v : Nat} (h0 : 0 ≤ s) (h1 : s ≤ 255) (hv : v < 8) : F6 .u8 (Fi .u8 s (v : Int)) 1 = if Dg s v then 1 else 0 := by
 obtain ⟨k, rfl⟩ := Int.eq_ofNat_of_zero_le h0
 exact Vh ⟨k, by omega⟩ ⟨v, hv⟩
theorem PW {s : Int} {v : Nat} (h0 : 0 ≤ s) (h1 : s ≤ 255) (hv : v < 8) : (F6 .u8 (Fi .u8 s (v : Int)) 1 == 0) = !Dg s v := by
 rw [O0 h0 h1 hv]; cases Dg s v <;> rfl
theorem Qn {s : Int} {v : Nat} (h0 : 0 ≤ s) (h1 : s ≤ 255) (hv : v < 8) : (F6 .u8 (Fi .u8 s (v : Int)) 1 == 1) = Dg s v := by
 rw [O0 h0 h1 hv]; cases Dg s v <;> rfl
theorem Je {s : Int} {v : Nat} (h1 : s ≤ 255) (hv : 8 ≤ v) : Dg s v = false := by
 unfold Dg
 apply Nat.testBit_lt_two_pow
 have : (2 : Nat) ^ 8 ≤ 2 ^ v := Nat.pow_le_pow_right (by omega) hv
 omega
theorem Jo : ∀ (b : Fin 8) (v : Fin 8), Dg (Dp .u8 1 (b.val : Int)) v.val = decide (b.val = v.val) ∧ 0 ≤ Dp .u8 1 (b.val : Int) ∧ Dp .u8 1 (b.val : Int) ≤ 255 := by decide +kernel
theorem UX : ∀ (b n : Fin 8) (v : Fin 8), Dg (NI .u8 (Dp .u8 1 (b.val : Int)) (Dp .u8 1 (n.val : Int))) v.val = (decide (b.val = v.val) || decide (n.val = v.val))
  ∧ 0 ≤ NI .u8 (Dp .u8 1 (b.val : Int)) (Dp .u8 1 (n.val : Int)) ∧ NI .u8 (Dp .u8 1 (b.val : Int)) (Dp .u8 1 (n.val : Int)) ≤ 255 := by decide +kernel
theorem Td {m : Ac} {s : Nat} (hb0 : 0 ≤ m.fe.getD s 0) (hb1 : m.fe.getD s 0 < 8) (hn1 : m.fa.getD s 0 < 8) :
  (∀ v, Dg (Gn m s) v = H0 m s v) ∧ 0 ≤ Gn m s ∧ Gn m s ≤ 255 := by
 unfold Gn H0
 obtain ⟨b, hb⟩ := Int.eq_ofNat_of_zero_le hb0
 rw [hb] at hb1 ⊢
 by_cases h : 0 ≤ m.fa.getD s 0
 ·obtain ⟨n, hn⟩ := Int.eq_ofNat_of_zero_le h
  rw [hn] at hn1 ⊢
  rw [if_pos (by omega)]
  have h1 := UX ⟨b, by omega⟩ ⟨n, by omega⟩
  refine ⟨fun v => ?_, (h1 0).2⟩
  by_cases hv : v < 8
  ·rw [(h1 ⟨v, hv⟩).1]
   simp only [Int.ofNat_inj]
  ·rw [Je (h1 0).2.2 (by omega)]
   simp; omega
 ·rw [if_neg h]
  have h1 := Jo ⟨b, by omega⟩
  refine ⟨fun v => ?_, (h1 0).2⟩
  have h3 : decide (m.fa.getD s 0 = (v : Int)) = false := decide_eq_false (by omega)
  rw [h3, Bool.or_false]
  by_cases hv : v < 8
  ·rw [(h1 ⟨v, hv⟩).1]
   simp only [Int.ofNat_inj]
  ·rw [Je (h1 0).2.2 (by omega)]
   simp; omega
theorem Tq {a : Nat} (h : a < 256) : (BitVec.ofInt 8 (a : Int)).toNat = a := by
 simp; omega
theorem MS {a b : Int} (ha : 0 ≤ a ∧ a ≤ 255) (hb : 0 ≤ b ∧ b ≤ 255) : CR .u8 a b = 0 ↔ ∀ v, Dg a v = true → Dg b v = true := by
 obtain ⟨a, rfl⟩ := Int.eq_ofNat_of_zero_le ha.1
 obtain ⟨b, rfl⟩ := Int.eq_ofNat_of_zero_le hb.1
 have hA := Tq (a := a) (by omega)
 have hB := Tq (a := b) (by omega)
 unfold CR Dg
 simp only [IntKind.bits, Int.toNat_natCast]
 have hx : ∀ x : BitVec 8, wI .u8 (x.toNat : Int) = (x.toNat : Int) := by
  intro x
  have := x.isLt
  simp [wI, IntKind.signed, IntKind.bits]
  omega
 rw [hx]
 constructor
 ·intro h v hv
  have h0 : (BitVec.ofInt 8 (a : Int) &&& ~~~BitVec.ofInt 8 (b : Int)) = (BitVec.ofNat 8 0) := by
   apply BitVec.eq_of_toNat_eq
   simp only [BitVec.toNat_ofNat, Nat.zero_mod]
   exact Int.ofNat_inj.1 h
  by_cases hv8 : v < 8
  ·have h1 : (BitVec.ofInt 8 (a : Int) &&& ~~~BitVec.ofInt 8 (b : Int)).getLsbD v = false := by rw [h0]; simp
   rw [BitVec.getLsbD_and, BitVec.getLsbD_not] at h1
   have e1 : (BitVec.ofInt 8 (a : Int)).getLsbD v = a.testBit v := by unfold BitVec.getLsbD; rw [hA]
   have e2 : (BitVec.ofInt 8 (b : Int)).getLsbD v = b.testBit v := by unfold BitVec.getLsbD; rw [hB]
   rw [e1, e2, hv] at h1
   simpa [hv8] using h1
  ·have := Je (s := (a : Int)) (v := v) (by omega) (by omega)
   unfold Dg at this
   rw [Int.toNat_natCast, hv] at this
   cases this
 ·intro h
  have h0 : (BitVec.ofInt 8 (a : Int) &&& ~~~BitVec.ofInt 8 (b : Int)) = (BitVec.ofNat 8 0) := by
   apply BitVec.eq_of_getLsbD_eq
   intro i hi
   rw [BitVec.getLsbD_and, BitVec.getLsbD_not]
   have e1 : (BitVec.ofInt 8 (a : Int)).getLsbD i = a.testBit i := by unfold BitVec.getLsbD; rw [hA]
   have e2 : (BitVec.ofInt 8 (b : Int)).getLsbD i = b.testBit i := by unfold BitVec.getLsbD; rw [hB]
   rw [e1, e2]
   have := h i
   cases h3 : a.testBit i
   ·simp
   ·rw [this h3]; simp
  have h2 : ∀ x : BitVec 8, x = (BitVec.ofNat 8 0) → (x.toNat : Int) = 0 := fun x hx => by rw [hx]; rfl
  exact h2 _ h0
theorem Uc : ∀ n : Fin 9, (∀ v : Fin 8, Dg (wI .u8 (Dp .u8 1 (n.val : Int) - 1)) v.val = decide (v.val < n.val)) ∧ 0 ≤ wI .u8 (Dp .u8 1 (n.val : Int) - 1) ∧ wI .u8 (Dp .u8 1 (n.val : Int) - 1) ≤ 255 := by decide +kernel
theorem UH {n : Int} (h0 : 0 ≤ n) (h1 : n ≤ 8) : (∀ v, Dg (wI .u8 (Dp .u8 1 n - 1)) v = decide ((v : Int) < n)) ∧ 0 ≤ wI .u8 (Dp .u8 1 n - 1) ∧ wI .u8 (Dp .u8 1 n - 1) ≤ 255 := by
 obtain ⟨n, rfl⟩ := Int.eq_ofNat_of_zero_le h0
 have h := Uc ⟨n, by omega⟩
 refine ⟨fun v => ?_, h.2⟩
 by_cases hv : v < 8
 ·rw [h.1 ⟨v, hv⟩]; simp
 ·rw [Je h.2.2 (by omega)]
  symm; apply decide_eq_false; omega
structure CI (p : Aa) (m : Ac) : Prop extends MixServ p m where
 range : ∀ i, i < p.fd.length → 0 ≤ m.fc.getD i 0 ∧ m.fc.getD i 0 ≤ 255
 low : ∀ i t, p.fd[i]? = some t → Bz t = true → ∀ v, H0 m t.fg.toNat v = true → Dg (m.fc.getD i 0) v = true
 high : ∀ i t, p.fd[i]? = some t → Bz t = true → ∀ v, Dg (m.fc.getD i 0) v = true → (v : Int) < p.fb.getD t.fg.toNat 0
 none : ∀ i t, p.fd[i]? = some t → Bz t = false → m.fc.getD i 0 = 0
theorem IM {p : Aa} (hp : Cd p) {i : Nat} (hi : i < p.fb.length) : 1 ≤ p.fb.getD i 0 ∧ p.fb.getD i 0 ≤ 6 := by
 have := JM (i := (i : Int)) hp.ver (by omega) (by omega)
 simpa using this
theorem HA {p : Aa} {m : Ac} (hp : Cd p) (hm : MixServ p m) {s : Nat} (hs : s < p.fb.length) :
  (∀ v, Dg (Gn m s) v = H0 m s v) ∧ 0 ≤ Gn m s ∧ Gn m s ≤ 255 := by
 have h1 := hm.b0 s hs
 have h2 := hm.n0 s hs
 have h3 := IM hp hs
 exact Td h1.1 (by omega) (by omega)
theorem PM {p : Aa} {m : Ac} (hp : Cd p) (hm : MixServ p m) {i : Nat} {t : Au} (ht : p.fd[i]? = some t) (hr : 0 ≤ m.fc.getD i 0 ∧ m.fc.getD i 0 ≤ 255) :
  IJ p m i t = none ↔ ((Bz t = true → (∀ v, H0 m t.fg.toNat v = true → Dg (m.fc.getD i 0) v = true) ∧ (∀ v, Dg (m.fc.getD i 0) v = true → (v : Int) < p.fb.getD t.fg.toNat 0)) ∧ (Bz t = false → m.fc.getD i 0 = 0)) := by
 have hin := Ig (hp.tab t (lM ht))
 have hrun := HA hp hm (s := t.fg.toNat) (by omega)
 have hver := IM hp (i := t.fg.toNat) (by omega)
 have hall := UH (n := p.fb.getD t.fg.toNat 0) (by omega) (by omega)
 unfold IJ UE
 have e1 := MS hrun.2 hr
 have e2 := MS hr hall.2
 cases hst : Bz t
 ·simp
 ·simp only [if_true, true_implies, Bool.true_eq_false, false_implies, and_true, ite_eq_right_iff, reduceCtorEq, imp_false, not_or, Decidable.not_not]
  rw [e1, e2]
  simp only [hrun.1, hall.1, decide_eq_true_eq]
theorem It {p : Aa} {m : Ac} (hw : Kh Jw m.fc) (h : DY p m = 0) : Cd p ∧ CI p m := by
 unfold DY at h
 split at h
 ·rename_i k; exact (k h).elim
 ·rename_i k0
  have hp : Cd p := by
   rcases G4 p with h | h
   ·exact h.2
   ·omega
  split at h
  ·cases h
  ·rename_i k1
   have b1 : m.fe.length = p.fb.length := Decidable.not_not.1 fun h => k1 (.inl h)
   have b2 : m.fa.length = p.fb.length := Decidable.not_not.1 fun h => k1 (.inr (.inl h))
   have b3 : m.fc.length = p.fd.length := Decidable.not_not.1 fun h => k1 (.inr (.inr h))
   cases hs : CP (KS m) 0 p.fb with
   | some r =>
    obtain ⟨j, x, _, he⟩ := Ej hs
    rw [hs] at h
    unfold KS at he
    simp only [Bs, Option.getD_some] at h
    split at he
    ·cases he; cases h
    ·split at he
     ·cases he; cases h
     ·cases he
   | none =>
    have hm := Pp b1 b2 b3 hs
    rw [hs] at h
    simp only [Bs] at h
    cases ht : CP (IJ p m) 0 p.fd with
    | some r =>
     obtain ⟨j, x, _, he⟩ := Ej ht
     rw [ht] at h
     simp only [Option.getD_some] at h
     subst h
     unfold IJ at he
     split at he
     ·split at he <;> cases he
     ·split at he <;> cases he
    | none =>
     have hr : ∀ i, i < p.fd.length → 0 ≤ m.fc.getD i 0 ∧ m.fc.getD i 0 ≤ 255 := fun i hi => Ih (Qi hw (by omega))
     have key : ∀ i t, p.fd[i]? = some t → _ := fun i t hi => (PM hp hm hi (hr i (lI.1 hi).1)).1 (by have := Ff ht i t hi; rwa [Nat.zero_add] at this)
     exact ⟨hp, hm, hr, fun i t hi hst => ((key i t hi).1 hst).1, fun i t hi hst => ((key i t hi).1 hst).2, fun i t hi hst => (key i t hi).2 hst⟩
theorem D4 {α R : Type} {f : Nat → α → Option R} : ∀ {i : Nat} {xs : List α}, (∀ j x, xs[j]? = some x → f (i + j) x = none) → CP f i xs = none
 | _, [], _ => rfl
 | i, y :: ys, h => by
  rw [GK, show f i y = none from h 0 y rfl]
  exact D4 fun j x hx => by
   have := h (j + 1) x (by simpa using hx)
   rwa [show i + (j + 1) = i + 1 + j from by omega] at this
theorem O3 {p : Aa} (hp : Cd p) (hr : ∀ i, i < p.fb.length → 0 ≤ p.fi.getD i 0 ∧ p.fi.getD i 0 < p.fb.getD i 0 ∧ 0 ≤ p.fo.getD i 0 ∧ p.fo.getD i 0 < p.fb.getD i 0) : A6 p = 0 := by
 have := hp.nv
 have := hp.nt
 have := hp.now
 have := hp.tgt
 unfold A6
 rw [if_neg (by omega), if_neg (by omega)]
 have h1 : CP (FA p) 0 p.fb = none := D4 fun j x hx => by
  have hj := (lI.1 hx).1
  have h1 := hr j hj
  have h2 := IM hp hj
  have e : p.fb.getD j 0 = x := by rw [lD, hx]; rfl
  rw [e] at h1 h2
  unfold FA
  rw [Nat.zero_add, if_neg (by omega)]
 have h2 : CP (Lr p) 0 p.fd = none := D4 fun j x hx => by
  unfold Lr
  rw [if_pos (hp.tab x (lM hx))]
 rw [h1, h2]; rfl
theorem DZ {p : Aa} (h : A6 p = 0) : Cd p ∧ ∀ i, i < p.fb.length → 0 ≤ p.fi.getD i 0 ∧ p.fi.getD i 0 < p.fb.getD i 0 ∧ 0 ≤ p.fo.getD i 0 ∧ p.fo.getD i 0 < p.fb.getD i 0 := by
 have hp : Cd p := by
  rcases G4 p with h | h
  ·exact h.2
  ·omega
 refine ⟨hp, fun i hi => ?_⟩
 have h1 := hp.nv
 have h2 := hp.nt
 have h3 := hp.now
 have h4 := hp.tgt
 unfold A6 at h
 rw [if_neg (by omega), if_neg (by omega)] at h
 cases hs : CP (FA p) 0 p.fb with
 | some r =>
  obtain ⟨j, x, _, he⟩ := Ej hs
  rw [hs] at h
  unfold FA at he
  split at he
  ·cases he; cases h
  ·cases he
 | none =>
  have hx : p.fb[i]? = some (p.fb.getD i 0) := by rw [lD]; simp [hi]
  have := Ff hs i _ hx
  rw [Nat.zero_add] at this
  unfold FA at this
  split at this
  ·cases this
  ·rename_i hn; omega
theorem EF {p : Aa} {m : Ac} (hv : A6 p = 0) (hm : CI p m) : DY p m = 0 := by
 obtain ⟨hp, _⟩ := DZ hv
 unfold DY
 rw [hv, if_neg (by simp), if_neg (by have := hm.base; have := hm.next; have := hm.held; omega)]
 have h1 : CP (KS m) 0 p.fb = none := D4 fun j x hx => by
  have hj := (lI.1 hx).1
  have e : p.fb.getD j 0 = x := by rw [lD, hx]; rfl
  have h1 := hm.b0 j hj
  have h2 := hm.n0 j hj
  have h3 := hm.ne j hj
  rw [e] at h1 h2
  unfold KS
  rw [Nat.zero_add, if_neg (by omega), if_neg h3]
 have h2 : CP (IJ p m) 0 p.fd = none := D4 fun j x hx => by
  have hj := (lI.1 hx).1
  rw [Nat.zero_add]
  exact (PM hp hm.toMixServ hx (hm.range j hj)).2 ⟨fun hst => ⟨hm.low j x hx hst, hm.high j x hx hst⟩, fun hst => hm.none j x hx hst⟩
 rw [h1, h2]; rfl
def ND {α : Type} (g : Nat → α → Bool) : Nat → List α → Bool
 | _, [] => false
 | i, x :: xs => g i x || ND g (i + 1) xs
theorem KF {α β : Type} (g : Nat → α → List β) (h : Nat → α → Bool) : ∀ (i : Nat) (xs : List α) (a : List β) (b : Bool),
  HN (fun i x (s : List β × Bool) => (s.1 ++ g i x, s.2 || h i x)) i xs (a, b) = (a ++ Hk g i xs, b || ND h i xs)
 | _, [], a, b => by simp [HN, Hk, ND]
 | i, x :: xs, a, b => by rw [HN, KF g h, Hk, ND, List.append_assoc, Bool.or_assoc]
def gC (i u : Nat) (m : Ac) (t : Au) (v : Nat) (ok : Bool) : List Ai :=
 if H0 m t.fk.toNat v && (!ok && !t.fp) then [⟨(i : Int), (u : Int), (v : Int)⟩] else []
def hC (m : Ac) (t : Au) (v : Nat) (ok : Bool) : Bool := H0 m t.fk.toNat v && ok
def Jl (i : Nat) (m : Ac) (t : Au) (u : Nat) (row : List Bool) : List Ai :=
 Hk (gC i u m t) 0 row ++ if t.fp && !ND (hC m t) 0 row then [⟨(i : Int), (u : Int), -1⟩] else []
def So (m : Ac) (i : Nat) (t : Au) (u : Nat) : Bool := if Bz t then Dg (m.fc.getD i 0) u else H0 m t.fg.toNat u
def Jq (m : Ac) (i : Nat) (t : Au) : List Ai := Hk (fun u row => if So m i t u then Jl i m t u row else []) 0 t.fq
def F1 (p : Aa) (m : Ac) : List Ai := Hk (Jq m) 0 p.fd
structure NC (p : Aa) (t : Au) : Prop where
 kind : 1 ≤ t.ff ∧ t.ff ≤ 4
 aware : t.fp = true → Bz t = false
 from0 : 0 ≤ t.fg ∧ t.fg < (p.fb.length : Int)
 to0 : 0 ≤ t.fk ∧ t.fk < (p.fb.length : Int)
 okL : (t.fq.length : Int) = p.fb.getD t.fg.toNat 0
 okR : ∀ row, row ∈ t.fq → (row.length : Int) = p.fb.getD t.fk.toNat 0
 reL : t.ff = 4 → (t.fm.length : Int) = p.fb.getD t.fg.toNat 0
 reR : ∀ row, row ∈ t.fm → (row.length : Int) = p.fb.getD t.fg.toNat 0
 reD : t.ff = 4 → H8 t.fm = none
 reN : t.ff ≠ 4 → t.fm = []
theorem L0 {p : Aa} {t : Au} (h : DM p t = 0) : NC p t := by
 unfold DM at h
 split at h
 ·cases h
 rename_i h1
 split at h
 ·cases h
 rename_i h2
 simp only at h
 split at h
 ·cases h
 rename_i h3
 have h3 : sq t.fq (p.fb.getD t.fg.toNat 0) (p.fb.getD t.fk.toNat 0) = true := by simpa using h3
 have h3 := MH h3
 have ha : t.fp = true → Bz t = false := by
  intro ha
  unfold Bz
  rw [Bool.or_eq_false_iff, beq_eq_false_iff_ne, beq_eq_false_iff_ne]
  exact ⟨fun hk => h1 (.inr (.inr ⟨ha, .inl hk⟩)), fun hk => h1 (.inr (.inr ⟨ha, .inr hk⟩))⟩
 split at h
 ·rename_i h4
  split at h
  ·cases h
  rename_i h5
  have h5 : sq t.fm (p.fb.getD t.fg.toNat 0) (p.fb.getD t.fg.toNat 0) = true := by simpa using h5
  have h5 := MH h5
  refine ⟨by omega, ha, by omega, by omega, h3.1, h3.2, fun _ => h5.1, h5.2, fun _ => ?_, fun h => (h h4).elim⟩
  cases hd : H8 t.fm with
  | none => rfl
  | some r =>
   obtain ⟨j, x, _, hx⟩ := Ej hd
   rw [hd] at h
   split at hx
   ·cases hx
   ·cases hx; cases h
 ·rename_i h4
  split at h
  ·rename_i h5
   have h5 := List.eq_nil_of_length_eq_zero h5
   refine ⟨by omega, ha, by omega, by omega, h3.1, h3.2, fun h => (h4 h).elim, fun row hr => ?_, fun h => (h4 h).elim, fun _ => h5⟩
   rw [h5] at hr; cases hr
  ·cases h
theorem J8 {R : Type} (b : Bool) (acc : List Ai) (x : Ai) (j : List Ai → Option R) (h : acc.length + 1 ≤ Dl) :
  AK b ((DD (acc.length + ([x] : List Ai).length ≤ Dl)).bind fun _ => j (acc ++ [x])) (j acc) = j (acc ++ if b then [x] else []) := by
 cases b
 ·simp
 ·rw [AA, Ap (by simpa using h)]; rfl
theorem Qy (N : Nat) (m : Ac) (t : Au) (i u : Nat) (row : List Bool) (R : Int) (b1 b2 acc : List Ai) (j : List Ai × Bool → Option (List Ai))
  (hN : N ≤ 1000000) (h8 : 8 ≤ N) (hrow : row.length ≤ 6) (hacc : acc.length + 6 ≤ Dl) (hR0 : 0 ≤ R) (hR1 : R ≤ 255) (hRb : ∀ v, Dg R v = H0 m t.fk.toNat v) :
  BE N (b1, (i : Int)) t R (b2, (u : Int)) row j N (acc, false, 0) = j (acc ++ Hk (gC i u m t) 0 row, ND (hC m t) 0 row) := by
 have := H2 (A := List Ai × Bool) (BE N (b1, (i : Int)) t R (b2, (u : Int)) row j) (fun a k => (a.1, a.2, k)) row (fun a => j a) (fun v ok s => (s.1 ++ gC i u m t v ok, s.2 || hC m t v ok))
  (fun v a => v ≤ row.length ∧ a.1.length ≤ acc.length + v)
  (fun n v ok a hx ha => by
   have hv := (lI.1 hx).1
   obtain ⟨c, f⟩ := a
   simp only at ha
   refine ⟨?_, by omega, ?_⟩
   ·rw [BE]
    simp only [AY]
    rw [AC (by omega), AR, hx]
    simp only [oS]
    rw [Ap (by omega), PW hR0 hR1 (by omega), hRb, AG (by omega), J8 _ _ _ (fun l => BE N (b1, (i : Int)) t R (b2, (u : Int)) row j n (l, true, ((v + 1 : Nat) : Int))) (by omega)]
    unfold gC hC
    rw [J8 _ _ _ (fun l => BE N (b1, (i : Int)) t R (b2, (u : Int)) row j n (l, ok, ((v + 1 : Nat) : Int))) (by omega)]
    cases H0 m t.fk.toNat v
    ·simp
    ·cases ok <;> cases f <;> cases t.fp <;> simp
   ·simp only [gC, List.length_append]
    split <;> simp <;> omega)
  (fun n a _ => by
   rw [BE]
   simp only [AY]
   rw [AB (by omega)]) N 0 (acc, false) (by omega) (by omega) ⟨by omega, by simp⟩
 have h2 := this.1
 rw [List.drop_zero, KF, Bool.false_or] at h2
 exact h2
theorem MJ {p : Aa} {t : Au} (hp : Cd p) (ht : NC p t) : t.fq.length ≤ 6 ∧ ∀ row, row ∈ t.fq → row.length ≤ 6 := by
 have h1 := JM hp.ver ht.from0.1 ht.from0.2
 have h2 := JM hp.ver ht.to0.1 ht.to0.2
 have h3 := ht.okL
 exact ⟨by omega, fun row hr => by have := ht.okR row hr; omega⟩
theorem Rp (i u : Nat) (m : Ac) (t : Au) (v : Nat) (ok : Bool) : (gC i u m t v ok).length ≤ 1 := by
 unfold gC; split <;> simp
theorem Rr (i : Nat) (m : Ac) (t : Au) (u : Nat) (row : List Bool) (h : row.length ≤ 6) : (Jl i m t u row).length ≤ 7 := by
 unfold Jl
 rw [List.length_append]
 have := IY (g := gC i u m t) (c := 1) (i := 0) (xs := row) (fun j x _ => Rp _ _ _ _ _ _)
 split <;> simp <;> omega
theorem QX (i : Nat) (m : Ac) (t : Au) (u : Nat) (row : List Bool) (h : row.length ≤ 6) : (if So m i t u = true then Jl i m t u row else []).length ≤ 7 := by
 have := Rr i m t u row h
 split <;> simp <;> omega
theorem Mh {p : Aa} {t : Au} (hp : Cd p) (ht : NC p t) (i : Nat) (m : Ac) : (Jq m i t).length ≤ 42 := by
 have h1 := MJ hp ht
 have := IY (g := fun u row => if So m i t u = true then Jl i m t u row else []) (c := 7) (i := 0) (xs := t.fq) (fun j x hx => QX i m t _ x (h1.2 x (lM hx)))
 unfold Jq
 omega
theorem LA (N : Nat) (p : Aa) (m : Ac) (t : Au) (i : Nat) (W R : Int) (b1 acc : List Ai) (j : List Ai → Option (List Ai))
  (hN : N ≤ 1000000) (h8 : 8 ≤ N) (hp : Cd p) (ht : NC p t) (hacc : acc.length + 42 ≤ 10000) (hR0 : 0 ≤ R) (hR1 : R ≤ 255) (hRb : ∀ v, Dg R v = H0 m t.fk.toNat v) (hW0 : 0 ≤ W) (hW1 : W ≤ 255) (hWb : ∀ v, Dg W v = So m i t v) :
  B0 N (b1, (i : Int)) t R W j N (acc, 0) = j (acc ++ Jq m i t) := by
 have hl := MJ hp ht
 exact Ka (B0 N (b1, (i : Int)) t R W j) (fun a k => (a, k)) t.fq j (fun u row => if So m i t u then Jl i m t u row else []) 7 10000
  (fun u row hx => QX i m t u row (hl.2 row (lM hx)))
  (fun n u row a hx ha => by
   have hu := (lI.1 hx).1
   have hrow := hl.2 row (lM hx)
   rw [B0]
   simp only [AY]
   rw [AC (by omega), Ap (by omega), PW hW0 hW1 (by omega), hWb, AR, hx]
   simp only [oS]
   rw [Qy N m t i u row R b1 a a _ hN h8 hrow (by unfold Dl; omega) hR0 hR1 hRb, AG (by omega)]
   cases hw : So m i t u
   ·simp
   ·simp only [Bool.not_true, Ak, if_true, Jl]
    have h1 := IY (g := gC i u m t) (c := 1) (i := 0) (xs := row) (fun j x _ => Rp _ _ _ _ _ _)
    have := J8 (R := List Ai) (t.fp && !ND (hC m t) 0 row) (a ++ Hk (gC i u m t) 0 row) ⟨(i : Int), (u : Int), -1⟩ (fun l => B0 N (b1, (i : Int)) t R W j n (l, ((u + 1 : Nat) : Int))) (by rw [List.length_append]; unfold Dl; rw [hw, if_pos rfl] at ha; omega)
    rw [← List.append_assoc, ← this]
    cases t.fp <;> cases ND (hC m t) 0 row <;> rfl)
  (fun n a => by
   rw [B0]
   simp only [AY]
   rw [AB (by omega)]) N acc (by omega) (by omega)
theorem Qg (N : Nat) (p : Aa) (m : Ac) (t : Au) (i u : Nat) (row : List Bool) (b1 b2 acc : List Ai) (j : List Ai × Bool → Option (List Ai))
  (hN : N ≤ 1000000) (h8 : 8 ≤ N) (hp : Cd p) (hm : MixServ p m) (ht : NC p t) (hu : t.fq[u]? = some row) (hacc : acc.length + 6 ≤ Dl) :
  Bf N p m (b1, (i : Int)) t (b2, (u : Int)) j N (acc, false, 0) = j (acc ++ Hk (gC i u m t) 0 row, ND (hC m t) 0 row) := by
 have hrow := (MJ hp ht).2 row (lM hu)
 have hR := HA hp hm (s := t.fk.toNat) (by have := ht.to0; omega)
 have hlen := ht.okR row (lM hu)
 have hto := ht.to0
 have := H2 (A := List Ai × Bool) (Bf N p m (b1, (i : Int)) t (b2, (u : Int)) j) (fun a k => (a.1, a.2, k)) row (fun a => j a) (fun v ok s => (s.1 ++ gC i u m t v ok, s.2 || hC m t v ok))
  (fun v a => v ≤ row.length ∧ a.1.length ≤ acc.length + v)
  (fun n v ok a hx ha => by
   have hv := (lI.1 hx).1
   obtain ⟨c, f⟩ := a
   simp only at ha
   refine ⟨?_, by omega, ?_⟩
   ·rw [Bf]
    simp only [AY]
    rw [Et (d := 0) hto.1 hto.2, Jk N m t.fk hto.1 (by rw [hm.base]; exact hto.2) (by rw [hm.next]; exact hto.2) (hm.b0 _ (by omega)).1, AR, hu]
    simp only [oS]
    unfold B6
    rw [AC (by omega), AR, hx, Ap (by omega), Qn hR.2.1 hR.2.2 (by omega), hR.1]
    simp only [oS]
    rw [AG (by omega), J8 _ _ _ (fun l => Bf N p m (b1, (i : Int)) t (b2, (u : Int)) j n (l, true, ((v + 1 : Nat) : Int))) (by omega)]
    unfold gC hC
    rw [J8 _ _ _ (fun l => Bf N p m (b1, (i : Int)) t (b2, (u : Int)) j n (l, ok, ((v + 1 : Nat) : Int))) (by omega)]
    cases H0 m t.fk.toNat v
    ·simp
    ·cases ok <;> cases f <;> cases t.fp <;> simp
   ·simp only [gC, List.length_append]
    split <;> simp <;> omega)
  (fun n a _ => by
   rw [Bf]
   simp only [AY]
   rw [Et (d := 0) hto.1 hto.2]
   simp only [oS]
   rw [AB (by omega)]) N 0 (acc, false) (by omega) (by omega) ⟨by omega, by simp⟩
 have h2 := this.1
 rw [List.drop_zero, KF, Bool.false_or] at h2
 exact h2
theorem Lm (N : Nat) (p : Aa) (m : Ac) (t : Au) (i : Nat) (W : Int) (b1 acc : List Ai) (j : List Ai → Option (List Ai))
  (hN : N ≤ 1000000) (h8 : 8 ≤ N) (hp : Cd p) (hm : MixServ p m) (ht : NC p t) (hacc : acc.length + 42 ≤ 10000) (hW0 : 0 ≤ W) (hW1 : W ≤ 255) (hWb : ∀ v, Dg W v = So m i t v) :
  Bo N p m (b1, (i : Int)) t W j N (acc, 0) = j (acc ++ Jq m i t) := by
 have hl := MJ hp ht
 have hfr := ht.from0
 have hok := ht.okL
 exact Ka (Bo N p m (b1, (i : Int)) t W j) (fun a k => (a, k)) t.fq j (fun u row => if So m i t u then Jl i m t u row else []) 7 10000
  (fun u row hx => QX i m t u row (hl.2 row (lM hx)))
  (fun n u row a hx ha => by
   have hu := (lI.1 hx).1
   have hrow := hl.2 row (lM hx)
   rw [Bo]
   simp only [AY]
   rw [Et (d := 0) hfr.1 hfr.2]
   simp only [oS]
   unfold B6
   rw [AC (by omega), Ap (by omega), Qn hW0 hW1 (by omega), hWb]
   simp only [oS]
   rw [Qg N p m t i u row b1 a a _ hN h8 hp hm ht hx (by unfold Dl; omega), AG (by omega)]
   cases hw : So m i t u
   ·simp
   ·simp only [Bool.not_true, Ak, if_true, Jl]
    have h1 := IY (g := gC i u m t) (c := 1) (i := 0) (xs := row) (fun j x _ => Rp _ _ _ _ _ _)
    have := J8 (R := List Ai) (t.fp && !ND (hC m t) 0 row) (a ++ Hk (gC i u m t) 0 row) ⟨(i : Int), (u : Int), -1⟩ (fun l => Bo N p m (b1, (i : Int)) t W j n (l, ((u + 1 : Nat) : Int))) (by rw [List.length_append]; unfold Dl; rw [hw, if_pos rfl] at ha; omega)
    rw [← List.append_assoc, ← this]
    cases t.fp <;> cases ND (hC m t) 0 row <;> rfl)
  (fun n a => by
   rw [Bo]
   simp only [AY]
   rw [Et (d := 0) hfr.1 hfr.2]
   simp only [oS]
   rw [AB (by omega)]) N acc (by omega) (by omega)
theorem LK (N : Nat) (p : Aa) (m : Ac) (hN : N ≤ 1000000) (h20 : 20 ≤ N) (hp : Cd p) (hm : CI p m) : E4 N p m = some (F1 p m) := by
 unfold E4
 have hnt := hp.nt
 rw [Ka (CY N p m _) (fun a k => (a, k)) p.fd some (Jq m) 42 9000
  (fun i t hx => Mh hp (L0 (hp.tab t (lM hx))) i m)
  (fun n i t a hx ha => by
   have hi := (lI.1 hx).1
   have ht := L0 (hp.tab t (lM hx))
   have hto := ht.to0
   have hfr := ht.from0
   have hR := HA hp hm.toMixServ (s := t.fk.toNat) (by omega)
   have hF := HA hp hm.toMixServ (s := t.fg.toNat) (by omega)
   have hH := hm.range i hi
   rw [CY]
   simp only [AY]
   rw [AC (by omega), AR, hx]
   simp only [oS, IN]
   rw [KJ N m t.fg hfr.1 (by rw [hm.base]; exact hfr.2) (by rw [hm.next]; exact hfr.2) (hm.b0 _ (by omega)).1, KJ N m t.fk hto.1 (by rw [hm.base]; exact hto.2) (by rw [hm.next]; exact hto.2) (hm.b0 _ (by omega)).1, CF (d := 0) (by rw [hm.held]; exact hi), AG (by omega)]
   simp only [oS]
   cases hs : Bz t
   ·rw [Ak, LA N p m t i _ _ a a _ hN (by omega) hp ht (by omega) hR.2.1 hR.2.2 hR.1 hF.2.1 hF.2.2 (fun v => by unfold So; rw [hs, hF.1]; rfl)]
   ·rw [AA, LA N p m t i _ _ a a _ hN (by omega) hp ht (by omega) hR.2.1 hR.2.2 hR.1 hH.1 hH.2 (fun v => by unfold So; rw [hs]; rfl)])
  (fun n a => by
   rw [CY]
   simp only [AY]
   rw [AB (by omega)]) N [] (by omega) (by simp; omega)]
 rfl
theorem I4 (N : Nat) (p : Aa) (m : Ac) (hN : N ≤ 1000000) (h20 : 20 ≤ N) (hp : Cd p) (hm : CI p m) : C7 N p m = some (F1 p m) := by
 unfold C7
 have hnt := hp.nt
 rw [Ka (Ce N p m _) (fun a k => (a, k)) p.fd some (Jq m) 42 9000
  (fun i t hx => Mh hp (L0 (hp.tab t (lM hx))) i m)
  (fun n i t a hx ha => by
   have hi := (lI.1 hx).1
   have ht := L0 (hp.tab t (lM hx))
   have hto := ht.to0
   have hfr := ht.from0
   have hF := HA hp hm.toMixServ (s := t.fg.toNat) (by omega)
   have hH := hm.range i hi
   rw [Ce]
   simp only [AY]
   rw [AC (by omega), AR, hx]
   simp only [oS, Gs]
   rw [Jk N m t.fg hfr.1 (by rw [hm.base]; exact hfr.2) (by rw [hm.next]; exact hfr.2) (hm.b0 _ (by omega)).1, CF (d := 0) (by rw [hm.held]; exact hi), AG (by omega)]
   simp only [oS]
   cases hs : Bz t
   ·rw [Ak, Lm N p m t i _ a a _ hN (by omega) hp hm.toMixServ ht (by omega) hF.2.1 hF.2.2 (fun v => by unfold So; rw [hs, hF.1]; rfl)]
   ·rw [AA, Lm N p m t i _ a a _ hN (by omega) hp hm.toMixServ ht (by omega) hH.1 hH.2 (fun v => by unfold So; rw [hs]; rfl)])
  (fun n a => by
   rw [Ce]
   simp only [AY]
   rw [AB (by omega)]) N [] (by omega) (by simp; omega)]
 rfl
theorem FE {A S R : Type} (L : Nat → S → Option R) (mk : A → Int → S) (len : Nat) (j : A → Option R) (I : Nat → A → Prop)
  (hs : ∀ (n i : Nat) (a : A), i < len → I i a → ∃ a', L (n + 1) (mk a (i : Int)) = L n (mk a' ((i + 1 : Nat) : Int)) ∧ I (i + 1) a')
  (he : ∀ (n : Nat) (a : A), I len a → L (n + 1) (mk a (len : Int)) = j a) :
  ∀ (n i : Nat) (a : A), i ≤ len → len - i < n → I i a → ∃ a', L n (mk a (i : Int)) = j a' ∧ I len a'
 | 0, i, _, _, h, _ => by omega
 | n + 1, i, a, hi, h, ha => by
  by_cases h1 : i < len
  ·obtain ⟨a', e1, e2⟩ := hs n i a h1 ha
   rw [e1]
   exact FE L mk len j I hs he n (i + 1) _ (by omega) (by omega) e2
  ·have : i = len := by omega
   subst this
   exact ⟨a, he n a ha, ha⟩
theorem IF {α : Type} {xs ys : List α} {i : Nat} {d : α} (h : i < xs.length) : (xs ++ ys).getD i d = xs.getD i d := by
 rw [lD, lD, List.getElem?_append_left h]
theorem IA {α : Type} {xs : List α} {y : α} {i : Nat} {d : α} (h : i = xs.length) : (xs ++ [y]).getD i d = y := by
 subst h; rw [lD, List.getElem?_append_right (Nat.le_refl _)]; simp
theorem Nh {α : Type} {P : Nat → α → Prop} {xs : List α} {y : α} {d : α} {n : Nat} (hn : xs.length = n) (h : ∀ k, k < n → P k (xs.getD k d)) (hy : P n y) : ∀ k, k < n + 1 → P k ((xs ++ [y]).getD k d) := by
 intro k hk
 by_cases h1 : k < n
 ·rw [IF (by omega)]; exact h k h1
 ·have : k = n := by omega
  subst this
  rw [IA hn.symm]; exact hy
theorem R3 {l : List Int} (hw : Kh Jw l) (i : Nat) : 0 ≤ l.getD i 0 ∧ l.getD i 0 ≤ 255 := by
 by_cases h : i < l.length
 ·have : l.getD i 0 ∈ l := by rw [lD, List.getElem?_eq_getElem h]; exact List.getElem_mem _
  exact Ih (hw _ this)
 ·rw [lD, List.getElem?_eq_none (by omega)]
  exact ⟨by decide, by decide⟩
theorem Ol (N : Nat) {l : List Int} (hw : Kh Jw l) (i : Nat) : DE N l (i : Int) = some (l.getD i 0) := by
 unfold DE
 have h2 := R3 hw i
 by_cases h : i < l.length
 ·rw [AC (by omega), CF (d := 0) h]
  simp only [oS]
  rw [D1 (by omega) (by omega)]
 ·rw [AB (by omega), lD, List.getElem?_eq_none (by omega)]; rfl
theorem Hr {a n : Int} (ha : 0 ≤ a) (hn : 0 < n) : 0 ≤ Int.tmod a n ∧ Int.tmod a n < n := ⟨Int.tmod_nonneg n ha, Int.tmod_lt_of_pos a hn⟩
theorem Vz {l : List (List Bool)} {n m : Int} (h1 : (l.length : Int) = n) (h2 : ∀ row, row ∈ l → (row.length : Int) = m) : sq l n m = true := by
 unfold sq
 simp only [Bool.and_eq_true, decide_eq_true_eq, List.all_eq_true]
 exact ⟨h1, h2⟩
theorem V2 {p : Aa} {t : Au} (h : NC p t) : DM p t = 0 := by
 have hk := h.kind
 have hf := h.from0
 have ht := h.to0
 unfold DM
 rw [if_neg, if_neg (by omega)]
 ·simp only [Vz h.okL h.okR]
  rw [if_neg (by simp)]
  by_cases h4 : t.ff = 4
  ·rw [if_pos h4, Vz (h.reL h4) h.reR, if_neg (by simp), h.reD h4]; rfl
  ·rw [if_neg h4, h.reN h4]; rfl
 ·rintro (h1 | h1 | ⟨h1, h2⟩)
  ·omega
  ·omega
  ·have := h.aware h1
   unfold Bz at this
   rw [Bool.or_eq_false_iff, beq_eq_false_iff_ne, beq_eq_false_iff_ne] at this
   omega
theorem S5 (N : Nat) (m bad : Int) (diag : Bool) (i : Nat) (acc : List (List Bool)) {_R : Type} (j : List Bool → Option (List (List Bool))) (hN : N ≤ 1000000) (h20 : 20 ≤ N) (hm : 0 ≤ m ∧ m ≤ 6) (hi : i < 6) :
  ∃ row, B3 N m bad diag (acc, (i : Int)) j N ([], 0) = j row ∧ (row.length : Int) = m ∧ (diag = true → (i : Int) < m → row.getD i false = true) := by
 obtain ⟨M, rfl⟩ := Int.eq_ofNat_of_zero_le hm.1
 obtain ⟨row, e, h1, h2⟩ := FE (A := List Bool) (B3 N (M : Int) bad diag (acc, (i : Int)) j) (fun a k => (a, k)) M j
  (fun k a => a.length = k ∧ ∀ q, q < k → diag = true → q = i → a.getD q false = true)
  (fun n k a hk ha => by
   refine ⟨a ++ [(diag && decide (i = k)) || (Int.tmod (Fi .u16 bad ((3 * i + k : Nat) : Int)) 2 == 0)], ?_, by simp [ha.1], Nh (P := fun q y => diag = true → q = i → y = true) ha.1 ha.2 (fun h1 h2 => by simp [h1, h2])⟩
   rw [B3]
   simp only [AY]
   rw [AC (by omega), AG (by omega), D1 (n := 3 * (i : Int)) (by omega) (by omega), D1 (n := 3 * (i : Int) + (k : Int)) (by omega) (by omega)]
   have l1 : ∀ y : Bool, a.length + ([y] : List Bool).length ≤ Dl := by intro y; rw [ha.1]; unfold Dl; simp; omega
   simp only [Ap (l1 _), Ap (show (0 : Int) ≤ 3 * (i : Int) + (k : Int) by omega)]
   have e1 : ((3 * i + k : Nat) : Int) = 3 * (i : Int) + (k : Int) := by omega
   rw [e1]
   have e2 : (((i : Nat) : Int) == ((k : Nat) : Int)) = decide (i = k) := by
    by_cases h : i = k
    ·simp [h]
    ·rw [decide_eq_false h]; exact beq_eq_false_iff_ne.2 (by omega)
   rw [e2]
   cases diag <;> cases decide (i = k) <;> rfl)
  (fun n a _ => by
   rw [B3]
   simp only [AY]
   rw [AB (by omega)]) N 0 [] (Nat.zero_le _) (by omega) ⟨rfl, fun q hq => by omega⟩
 exact ⟨row, e, by omega, fun hd hlt => h2 i (by omega) hd rfl⟩
theorem R0 (N : Nat) (n m bad : Int) (diag : Bool) (hN : N ≤ 1000000) (h20 : 20 ≤ N) (hn : 0 ≤ n ∧ n ≤ 6) (hm : 0 ≤ m ∧ m ≤ 6) :
  ∃ l, DH N n m bad diag = some l ∧ (l.length : Int) = n ∧ (∀ row, row ∈ l → (row.length : Int) = m) ∧ (diag = true → n = m → H8 l = none) := by
 obtain ⟨M, rfl⟩ := Int.eq_ofNat_of_zero_le hn.1
 unfold DH
 obtain ⟨l, e, h1, h2⟩ := FE (A := List (List Bool)) (B1 N (M : Int) m bad diag (fun v => some v)) (fun a k => (a, k)) M some
  (fun k a => a.length = k ∧ ∀ q, q < k → (((a.getD q []).length : Nat) : Int) = m ∧ (diag = true → (q : Int) < m → (a.getD q []).getD q false = true))
  (fun n k a hk ha => by
   obtain ⟨row, e, h1, h2⟩ := S5 (_R := Unit) N m bad diag k a (fun (v5 : List Bool) =>
    (DD (a.length + (([v5] : List (List Bool))).length ≤ Dl)).bind fun _ =>
    B1 N (M : Int) m bad diag (fun v => some v) n (a ++ (([v5] : List (List Bool))), (wI .i64 ((k : Int) + 1)))) hN h20 hm (by omega)
   refine ⟨a ++ [row], ?_, by simp [ha.1], Nh (P := fun q y => ((y.length : Nat) : Int) = m ∧ (diag = true → (q : Int) < m → y.getD q false = true)) ha.1 ha.2 ⟨h1, h2⟩⟩
   rw [B1]
   simp only
   rw [AC (by omega), e, Ap (by rw [ha.1]; unfold Dl; simp; omega), AG (by omega)])
  (fun n a _ => by
   rw [B1]
   simp only
   rw [AB (by omega)]) N 0 [] (Nat.zero_le _) (by omega) ⟨rfl, fun q hq => by omega⟩
 have key : ∀ q row, l[q]? = some row → l.getD q [] = row := fun q row hq => by rw [lD, hq]; rfl
 refine ⟨l, e, by omega, fun row hr => ?_, fun hd hnm => ?_⟩
 ·obtain ⟨q, hq⟩ := List.mem_iff_getElem?.1 hr
  have := (h2 q (by have := (lI.1 hq).1; omega)).1
  rwa [key q row hq] at this
 ·unfold H8
  refine D4 fun q row hq => ?_
  have hlt := (lI.1 hq).1
  have := (h2 q (by omega)).2 hd (by omega)
  rw [key q row hq] at this
  rw [Nat.zero_add, this]; rfl
structure VB (p : Aa) : Prop where
 valid : A6 p = 0
 nv : p.fb.length ≤ 3
 nt : p.fd.length ≤ 4
 v3 : ∀ v, v ∈ p.fb → v ≤ 3
theorem Sb {p q : Aa} (h : p.fb = q.fb) (t : Au) : DM p t = DM q t := by
 unfold DM; rw [h]
theorem Yw (N : Nat) (d : BV) (hN : N ≤ 1000000) (h20 : 20 ≤ N) (hw : FJ d) : ∃ p ok, ES N d = some (p, ok) ∧ (ok = true → VB p) := by
 obtain ⟨w1, w2, w3, w4, _⟩ := hw
 unfold ES
 simp only [AY]
 by_cases k1 : 3 < d.fb.length
 ·rw [AC (by omega)]; exact ⟨_, false, rfl, fun h => by cases h⟩
 by_cases k2 : 4 < d.fr.length
 ·rw [AB (by omega), decide_eq_true (by omega : (4 : Int) < (d.fr.length : Int))]; exact ⟨_, false, rfl, fun h => by cases h⟩
 rw [AB (by omega), decide_eq_false (by omega : ¬ (4 : Int) < (d.fr.length : Int)), Ak]
 obtain ⟨⟨vs, ns, ts⟩, e, h1, h2, h3, h4⟩ := FE (A := List Int × List Int × List Int) (Ci N d fun v5 => Bj N d v5 (fun v16 => some (Aa.mk v5.1 v5.2.1 v5.2.2 v16, true)) N ([], 0)) (fun a k => (a.1, a.2.1, a.2.2, k)) d.fb.length
  (fun v5 => Bj N d v5 (fun v16 => some (Aa.mk v5.1 v5.2.1 v5.2.2 v16, true)) N ([], 0))
  (fun i a => a.1.length = i ∧ a.2.1.length = i ∧ a.2.2.length = i ∧ (∀ k, k < i → (1 ≤ a.1.getD k 0 ∧ a.1.getD k 0 ≤ 3) ∧ (0 ≤ a.2.1.getD k 0 ∧ a.2.1.getD k 0 < a.1.getD k 0) ∧ (0 ≤ a.2.2.getD k 0 ∧ a.2.2.getD k 0 < a.1.getD k 0)))
  (fun n i a hi ha => by
   obtain ⟨vs, ns, ts⟩ := a
   obtain ⟨h1, h2, h3, h4⟩ := ha
   simp only at h1 h2 h3 h4
   have hv := R3 w1 i
   have hb := R3 w2 i
   have hk := R3 w3 i
   have hm := Hr (n := 3) hv.1 (by omega)
   obtain ⟨v, hvd⟩ : ∃ v, v = 1 + Int.tmod (d.fb.getD i 0) 3 := ⟨_, rfl⟩
   have m1 := Hr (n := v) hb.1 (by omega)
   have m2 := Hr (n := v) hk.1 (by omega)
   refine ⟨(vs ++ [v], ns ++ [Int.tmod (d.fi.getD i 0) v], ts ++ [Int.tmod (d.fo.getD i 0) v]), ?_, by simp [h1], by simp [h2], by simp [h3], ?_⟩
   ·rw [Ci]
    simp only
    rw [AC (by omega), CF (d := 0) hi, Ol N w2, Ol N w3]
    simp only [oS]
    rw [D1 (n := Int.tmod _ _) (by omega) (by omega), D1 (n := 1 + _) (by omega) (by omega), ← hvd, AG (by omega)]
    have l1 : ∀ y : Int, vs.length + ([y] : List Int).length ≤ Dl := by intro y; rw [h1]; unfold Dl; simp; omega
    have l2 : ∀ y : Int, ns.length + ([y] : List Int).length ≤ Dl := by intro y; rw [h2]; unfold Dl; simp; omega
    have l3 : ∀ y : Int, ts.length + ([y] : List Int).length ≤ Dl := by intro y; rw [h3]; unfold Dl; simp; omega
    simp only [Ap (l1 _), Ap (l2 _), Ap (l3 _), Ap (show v ≠ 0 by omega)]
   ·intro k hk
    simp only
    by_cases hki : k < i
    ·rw [IF (by omega), IF (by omega), IF (by omega)]; exact h4 k hki
    ·have : k = i := by omega
     subst this
     rw [IA h1.symm, IA h2.symm, IA h3.symm]
     omega)
  (fun n a _ => by
   rw [Ci]
   simp only
   rw [AB (by omega)]) N 0 ([], [], []) (Nat.zero_le _) (by omega) ⟨rfl, rfl, rfl, fun k hk => by omega⟩
 simp only at h1 h2 h3 h4
 have e' : Ci N d (fun v5 => Bj N d v5 (fun v16 => some (Aa.mk v5.1 v5.2.1 v5.2.2 v16, true)) N ([], 0)) N ([], [], [], 0) = _ := e
 rw [e']
 have hvs : ∀ v, v ∈ vs → 1 ≤ v ∧ v ≤ 3 := by
  intro v hv
  obtain ⟨q, hq⟩ := List.mem_iff_getElem?.1 hv
  have := (h4 q (by have := (lI.1 hq).1; omega)).1
  rwa [lD, hq] at this
 have fin : ∀ MA : List Au, MA.length ≤ 4 → (∀ t, t ∈ MA → DM ⟨vs, ns, ts, []⟩ t = 0) → VB ⟨vs, ns, ts, MA⟩ := by
  intro MA ht h
  have hp : Cd ⟨vs, ns, ts, MA⟩ := ⟨show vs.length ≤ 6 by omega, show MA.length ≤ 12 by omega, show ns.length = vs.length by omega, show ts.length = vs.length by omega, fun v hv => by have := hvs v hv; omega, fun t ht => by rw [← h t ht]; exact Sb rfl t⟩
  exact ⟨O3 hp fun i hi => by have := h4 i (by have : i < vs.length := hi; omega); simp only; omega, show vs.length ≤ 3 by omega, ht, fun v hv => (hvs v hv).2⟩
 by_cases k3 : vs.length = 0
 ·refine ⟨_, true, ?_, fun _ => fin [] (by simp) (fun t ht => by cases ht)⟩
  obtain ⟨M, rfl⟩ : ∃ M, N = M + 1 := ⟨N - 1, by omega⟩
  rw [Bj]
  simp only [AY]
  rw [k3]
  by_cases k4 : (0 : Int) < (d.fr.length : Int)
  ·rw [AC k4]; rfl
  ·rw [AB k4]; rfl
 obtain ⟨MA, e2, g1, g2⟩ := FE (A := List Au) (Bj N d (vs, ns, ts) (fun v16 => some (Aa.mk vs ns ts v16, true))) (fun a k => (a, k)) d.fr.length (fun v16 => some (Aa.mk vs ns ts v16, true))
  (fun i a => a.length = i ∧ ∀ t, t ∈ a → DM ⟨vs, ns, ts, []⟩ t = 0)
  (fun n i a hi ha => by
   have hx : d.fr[i]? = some d.fr[i] := by simp [hi]
   generalize d.fr[i] = l at hx
   obtain ⟨u1, u2, u3, _, u5, u6, _⟩ := w4 l (lM hx)
   have u1 := Ih u1
   have u2 := Ih u2
   have u3 := Ih u3
   have mk := Hr (n := 4) u1.1 (by omega)
   have hL : (0 : Int) < (vs.length : Int) := by omega
   have mf := Hr (n := (vs.length : Int)) u2.1 hL
   have mt := Hr (n := (vs.length : Int)) u3.1 hL
   rw [Bj]
   simp only [AY]
   rw [AC (by omega), decide_eq_true hL, AA, AR, hx]
   simp only [oS]
   rw [Ap (by omega), Ap (by omega), D1 (n := l.fg) (by omega) (by omega), D1 (n := l.fk) (by omega) (by omega), D1 (n := Int.tmod l.ff 4) (by omega) (by omega), D1 (n := 1 + _) (by omega) (by omega), AG (by omega)]
   simp only [LD, oS]
   rw [Et (d := 0) mf.1 mf.2, Et (d := 0) mt.1 mt.2]
   simp only [oS]
   have hA : ∀ q : Int, 0 ≤ q → q < (vs.length : Int) → 1 ≤ vs.getD q.toNat 0 ∧ vs.getD q.toNat 0 ≤ 3 := fun q h0 h1 => (h4 q.toNat (by omega)).1
   have hf := hA _ mf.1 mf.2
   have ht := hA _ mt.1 mt.2
   obtain ⟨A, eA, a1, a2, _⟩ := R0 N (vs.getD (Int.tmod l.fg (vs.length : Int)).toNat 0) (vs.getD (Int.tmod l.fk (vs.length : Int)).toNat 0) l.ft false hN h20 (by omega) (by omega)
   obtain ⟨B, eB, b1, b2, b3⟩ := R0 N (vs.getD (Int.tmod l.fg (vs.length : Int)).toNat 0) (vs.getD (Int.tmod l.fg (vs.length : Int)).toNat 0) l.fu true hN h20 (by omega) (by omega)
   rw [eA, eB]
   simp only [oS]
   have l1 : ∀ y : Au, a.length + ([y] : List Au).length ≤ Dl := by intro y; rw [ha.1]; unfold Dl; simp; omega
   simp only [Ap (l1 _)]
   obtain ⟨kd, hkd⟩ : ∃ kd, kd = 1 + Int.tmod l.ff 4 := ⟨_, rfl⟩
   rw [← hkd]
   have fin2 : ∀ (aw : Bool) (re : List (List Bool)), (aw = true → (kd == 3 || kd == 4) = false) → ((kd = 4 → re = B) ∧ (kd ≠ 4 → re = [])) →
     DM ⟨vs, ns, ts, []⟩ (Au.mk kd (Int.tmod l.fg (vs.length : Int)) (Int.tmod l.fk (vs.length : Int)) aw A re) = 0 := by
    intro aw re haw hre
    refine V2 ⟨show 1 ≤ kd ∧ kd ≤ 4 by omega, haw, mf, mt, a1, a2, fun h => by rw [hre.1 h]; exact b1, fun row hr => ?_, fun h => by rw [hre.1 h]; exact b3 rfl rfl, fun h => hre.2 h⟩
    by_cases h4 : kd = 4
    ·simp only at hr; rw [hre.1 h4] at hr; exact b2 row hr
    ·simp only at hr; rw [hre.2 h4] at hr; cases hr
   have app : ∀ t, DM ⟨vs, ns, ts, []⟩ t = 0 → (a ++ [t]).length = i + 1 ∧ ∀ t', t' ∈ a ++ [t] → DM ⟨vs, ns, ts, []⟩ t' = 0 := by
    intro t ht
    refine ⟨by simp [ha.1], fun t' ht' => ?_⟩
    rcases List.mem_append.1 ht' with h | h
    ·exact ha.2 t' h
    ·rw [List.mem_singleton.1 h]; exact ht
   by_cases h4 : kd = 4
   ·have e4 : (kd == 4) = true := beq_iff_eq.2 h4
    have hre : (kd = 4 → B = B) ∧ (kd ≠ 4 → B = []) := ⟨fun _ => rfl, fun h => (h h4).elim⟩
    rw [e4]
    simp only [AA, Bool.or_true, Bool.not_true]
    cases l.fp
    ·exact ⟨_, rfl, app _ (fin2 false B (fun h => by cases h) hre)⟩
    ·exact ⟨_, rfl, app _ (fin2 false B (fun h => by cases h) hre)⟩
   ·have e4 : (kd == 4) = false := beq_eq_false_iff_ne.2 h4
    have hre : (kd = 4 → ([] : List (List Bool)) = B) ∧ (kd ≠ 4 → ([] : List (List Bool)) = []) := ⟨fun h => (h4 h).elim, fun _ => rfl⟩
    rw [e4]
    simp only [Ak, Bool.or_false]
    cases l.fp
    ·exact ⟨_, rfl, app _ (fin2 false [] (fun h => by cases h) hre)⟩
    ·cases e3 : kd == 3
     ·exact ⟨_, rfl, app _ (fin2 true [] (fun _ => by rw [e3, e4]; rfl) hre)⟩
     ·exact ⟨_, rfl, app _ (fin2 false [] (fun h => by cases h) hre)⟩)
  (fun n a _ => by
   rw [Bj]
   simp only [AY]
   rw [AB (by omega), Ak]) N 0 [] (Nat.zero_le _) (by omega) ⟨rfl, fun t ht => by cases ht⟩
 exact ⟨_, true, e2, fun _ => fin MA (by omega) g2⟩
def HW : List Int → Nat → Nat
 | [], _ => 0
 | _, 0 => 0
 | n :: ns, q + 1 => (if 0 ≤ n then 1 else 0) + HW ns q
theorem In (l : List Int) : HW l 0 = 0 := by cases l <;> rfl
theorem Hb : ∀ (l : List Int) (q : Nat), q < l.length → HW l (q + 1) = HW l q + if 0 ≤ l.getD q 0 then 1 else 0
 | [], q, h => by simp at h
 | n :: ns, 0, _ => by simp [HW, In]
 | n :: ns, q + 1, h => by
  rw [HW, Hb ns q (by simpa using h), HW, List.getD_cons_succ, Nat.add_assoc]
theorem M7 (l : List Int) {a b : Nat} (h : a ≤ b) (hb : b ≤ l.length) : HW l a ≤ HW l b := by
 induction b with
 | zero => rw [Nat.le_zero.1 h]; exact Nat.le_refl _
 | succ b ih =>
  by_cases h1 : a = b + 1
  ·rw [h1]; exact Nat.le_refl _
  ·have := ih (by omega) (by omega)
   rw [Hb l b (by omega)]; omega
theorem JJ (l : List Int) : ∀ q, q ≤ l.length → HW l q ≤ q
 | 0, _ => by rw [In]; exact Nat.le_refl _
 | q + 1, h => by
  have := JJ l q (by omega)
  rw [Hb l q h]
  split <;> omega
def LO (l : List Int) (k q : Nat) : Int := if 0 ≤ l.getD q 0 ∧ k.testBit (HW l q) = true then -1 else l.getD q 0
def T8 (l : List Int) (k : Nat) : List Int := (List.range l.length).map (LO l k)
def V1 (m : Ac) (k : Nat) : Ac := ⟨m.fe, T8 m.fa k, m.fc⟩
def ET (m : Ac) : List Ac := (List.range (2 ^ HW m.fa m.fa.length)).map (V1 m)
theorem Lf (l : List Int) (k : Nat) : (T8 l k).length = l.length := by simp [T8]
theorem PC (l : List Int) (k q : Nat) (h : q < l.length) : (T8 l k).getD q 0 = LO l k q := by
 unfold T8; rw [lD, List.getElem?_map, List.getElem?_range h]; rfl
theorem Gl {l1 l2 : List Int} (h1 : l1.length = l2.length) (h : ∀ q, q < l1.length → l1.getD q 0 = l2.getD q 0) : l1 = l2 := by
 apply List.ext_getElem h1
 intro q h2 h3
 have := h q h2
 rw [lD, lD, List.getElem?_eq_getElem h2, List.getElem?_eq_getElem h3] at this
 exact this
theorem RB : ∀ (k : Fin 64) (b : Fin 7), F6 .i64 (Fi .i64 (k.val : Int) (b.val : Int)) 1 = (if k.val.testBit b.val then 1 else 0) ∧ Int.tmod (Fi .i64 (k.val : Int) (b.val : Int)) 2 = (if k.val.testBit b.val then 1 else 0) := by decide +kernel
theorem Va : ∀ n : Fin 7, Dp .i64 1 (n.val : Int) = ((2 ^ n.val : Nat) : Int) := by decide +kernel
structure NO (m x : Ac) : Prop where
 base : x.fe = m.fe
 held : x.fc = m.fc
 len : x.fa.length = m.fa.length
 next : ∀ q, q < m.fa.length → x.fa.getD q 0 = m.fa.getD q 0 ∨ (0 ≤ m.fa.getD q 0 ∧ x.fa.getD q 0 = -1)
theorem NO.refl (m : Ac) : NO m m := ⟨rfl, rfl, rfl, fun _ _ => .inl rfl⟩
theorem NO.trans {a b c : Ac} (h1 : NO a b) (h2 : NO b c) : NO a c :=
 ⟨h2.base.trans h1.base, h2.held.trans h1.held, h2.len.trans h1.len, fun q hq => by
  have e1 := h1.next q hq
  have e2 := h2.next q (by rw [h1.len]; exact hq)
  omega⟩
theorem SI (m : Ac) (k : Nat) : NO m (V1 m k) :=
 ⟨rfl, rfl, Lf _ _, fun q hq => by
  show (T8 m.fa k).getD q 0 = _ ∨ _ ∧ (T8 m.fa k).getD q 0 = _
  rw [PC _ _ _ hq]; unfold LO
  split
  ·rename_i h; exact .inr ⟨h.1, rfl⟩
  ·exact .inl rfl⟩
theorem RA : ∀ (l x : List Int), x.length = l.length → (∀ q, q < l.length → x.getD q 0 = l.getD q 0 ∨ (0 ≤ l.getD q 0 ∧ x.getD q 0 = -1)) → ∃ k, k < 2 ^ HW l l.length ∧ ∀ q, q < l.length → x.getD q 0 = LO l k q
 | [], x, h, _ => ⟨0, by simp [HW], fun q hq => by simp at hq⟩
 | n :: ns, [], h, _ => by simp at h
 | n :: ns, y :: ys, h, hq => by
  obtain ⟨k, hk, hk2⟩ := RA ns ys (by simpa using h) (fun q hq' => by have := hq (q + 1) (by simpa using hq'); simpa using this)
  have h0 := hq 0 (by simp)
  simp only [List.getD_cons_zero] at h0
  by_cases hn : 0 ≤ n
  ·refine ⟨2 * k + if y = n then 0 else 1, ?_, ?_⟩
   ·rw [List.length_cons, HW, if_pos hn, Nat.pow_add]
    split <;> omega
   ·intro q hq'
    cases q with
    | zero =>
     simp only [List.getD_cons_zero, LO, In]
     by_cases hy : y = n
     ·simp [hy]
     ·rw [if_neg hy, if_pos ⟨hn, by simp⟩]; omega
    | succ q =>
     have := hk2 q (by simpa using hq')
     simp only [List.getD_cons_succ, LO, HW, if_pos hn] at this ⊢
     rw [this, Nat.add_comm 1, Nat.testBit_succ]
     have : (2 * k + if y = n then 0 else 1) / 2 = k := by split <;> omega
     rw [this]
  ·refine ⟨k, ?_, ?_⟩
   ·rw [List.length_cons, HW, if_neg hn, Nat.zero_add]; exact hk
   ·intro q hq'
    cases q with
    | zero =>
     simp only [List.getD_cons_zero, LO, In]
     rw [if_neg (fun h => hn h.1)]
     omega
    | succ q =>
     have := hk2 q (by simpa using hq')
     simp only [List.getD_cons_succ, LO, HW, if_neg hn, Nat.zero_add] at this ⊢
     exact this
theorem KQ {m x : Ac} : x ∈ ET m ↔ NO m x := by
 unfold ET
 rw [List.mem_map]
 constructor
 ·rintro ⟨k, _, rfl⟩; exact SI m k
 ·intro h
  obtain ⟨k, hk, hq⟩ := RA m.fa x.fa h.len h.next
  refine ⟨k, List.mem_range.2 hk, ?_⟩
  have : T8 m.fa k = x.fa := Gl (by rw [Lf, h.len]) fun q hq' => by
   rw [Lf] at hq'
   rw [PC _ _ _ hq', hq q hq']
  unfold V1
  rw [this, ← h.base, ← h.held]
theorem Wf {m x : Ac} (h : NO m x) {s : Nat} (hs : s < m.fa.length) {v : Nat} (hv : H0 x s v = true) : H0 m s v = true := by
 unfold H0 at hv ⊢
 rw [h.base] at hv
 have := h.next s hs
 simp only [Bool.or_eq_true, decide_eq_true_eq] at hv ⊢
 omega
theorem TN {p : Aa} {m x : Ac} (hp : Cd p) (hm : CI p m) (h : NO m x) : CI p x := by
 refine ⟨⟨by rw [h.base]; exact hm.base, by rw [h.len]; exact hm.next, by rw [h.held]; exact hm.held, fun i hi => by rw [h.base]; exact hm.b0 i hi, fun i hi => ?_, fun i hi => ?_⟩, fun i hi => by rw [h.held]; exact hm.range i hi, fun i t ht hs v hv => ?_, fun i t ht hs v hv => ?_, fun i t ht hs => by rw [h.held]; exact hm.none i t ht hs⟩
 ·have h1 := hm.n0 i hi
  have h2 := h.next i (by rw [hm.next]; exact hi)
  have h3 := IM hp hi
  omega
 ·have h1 := hm.ne i hi
  have h2 := h.next i (by rw [hm.next]; exact hi)
  have h3 := hm.b0 i hi
  rw [h.base]
  omega
 ·have hin := (L0 (hp.tab t (lM ht))).from0
  rw [h.held]
  exact hm.low i t ht hs v (Wf h (by rw [hm.next]; omega) hv)
 ·rw [h.held] at hv
  exact hm.high i t ht hs v hv
theorem I5 (N : Nat) (l : List Int) (h : l.length ≤ Dl) : Br N l = some l := by
 unfold Br
 rw [Ap (by simpa using h)]; rfl
theorem N8 (N : Nat) (l : List Int) (h : l.length ≤ Dl) : Bx N l = some l := by
 unfold Bx
 rw [Ap (by simpa using h)]; rfl
theorem H6 {l : List Int} {i q : Nat} {y : Int} (hi : i < l.length) : (l.set i y).getD q 0 = if q = i then y else l.getD q 0 := by
 rw [lD, lD, List.getElem?_set]
 by_cases h : i = q
 ·subst h; simp [hi]
 ·rw [if_neg h, if_neg (fun e => h e.symm)]
theorem Uf {l : List Int} {a b : Nat} (ha : a < l.length) (hb : b < l.length) (h1 : 0 ≤ l.getD a 0) (h2 : 0 ≤ l.getD b 0) (h : HW l a = HW l b) : a = b := by
 rcases Nat.lt_trichotomy a b with h3 | h3 | h3
 ·have := M7 l (a := a + 1) (b := b) h3 (by omega)
  rw [Hb l a ha, if_pos h1] at this; omega
 ·exact h3
 ·have := M7 l (a := b + 1) (b := a) h3 (by omega)
  rw [Hb l b hb, if_pos h2] at this; omega
structure S9 (l : List Int) (o : List Int) : Prop where
 len : o.length = HW l l.length
 at_ : ∀ b, b < o.length → ∃ i : Nat, o.getD b 0 = (i : Int) ∧ i < l.length ∧ 0 ≤ l.getD i 0 ∧ HW l i = b
theorem QE (N : Nat) (l o : List Int) (k : Nat) (acc : List Ac) (hN : N ≤ 1000000) (h20 : 20 ≤ N) (hl : l.length ≤ 6) (ho : S9 l o) (hk : k < 64) (j : List Int → Option (List Ac × Int)) :
  CB N o (acc, (k : Int)) j N (l, 0) = j (T8 l k) := by
 have hol := JJ l l.length (Nat.le_refl _)
 have hoL := ho.len
 obtain ⟨x, e, h1, h2⟩ := FE (A := List Int) (CB N o (acc, (k : Int)) j) (fun a k => (a, k)) o.length j
  (fun b a => a.length = l.length ∧ ∀ q, q < l.length → a.getD q 0 = if 0 ≤ l.getD q 0 ∧ HW l q < b ∧ k.testBit (HW l q) = true then -1 else l.getD q 0)
  (fun n b a hb ha => by
   obtain ⟨i, hi1, hi2, hi3, hi4⟩ := ho.at_ b hb
   have hbit := RB ⟨k, hk⟩ ⟨b, by omega⟩
   rw [CB]
   simp only [AY]
   rw [AC (by omega), CF (d := 0) hb]
   simp only [oS]
   rw [Ap (by omega), hi1, hbit.1, CF (d := 0) (show i < a.length by rw [ha.1]; exact hi2), AG (by omega)]
   simp only [oS, Int.toNat_natCast]
   cases hkb : k.testBit b
   ·refine ⟨a, rfl, ha.1, fun q hq => ?_⟩
    rw [ha.2 q hq]
    by_cases hqb : HW l q = b
    ·rw [hqb, hkb]; simp
    ·by_cases h3 : HW l q < b
     ·have : HW l q < b + 1 := by omega
      simp [h3, this]
     ·have : ¬ HW l q < b + 1 := by omega
      simp [h3, this]
   ·refine ⟨a.set i (-1), rfl, by simp [ha.1], fun q hq => ?_⟩
    rw [H6 (by rw [ha.1]; exact hi2), ha.2 q hq]
    by_cases hqi : q = i
    ·subst hqi
     rw [if_pos rfl, if_pos ⟨hi3, by omega, by rw [hi4]; exact hkb⟩]
    ·rw [if_neg hqi]
     by_cases h0 : 0 ≤ l.getD q 0
     ·have hne : HW l q ≠ b := fun h => hqi (Uf hq hi2 h0 hi3 (by omega))
      by_cases h3 : HW l q < b
      ·have : HW l q < b + 1 := by omega
       simp [h3, this]
      ·have : ¬ HW l q < b + 1 := by omega
       simp [h3, this]
     ·rw [if_neg (fun h => h0 h.1), if_neg (fun h => h0 h.1)])
  (fun n a _ => by
   rw [CB]
   simp only [AY]
   rw [AB (by omega)]) N 0 l (Nat.zero_le _) (by omega) ⟨rfl, fun q hq => by simp⟩
 have e' : CB N o (acc, (k : Int)) j N (l, 0) = j x := e
 rw [e']
 congr 1
 refine Gl (by rw [Lf, h1]) fun q hq => ?_
 rw [h1] at hq
 rw [h2 q hq, PC _ _ _ hq, LO]
 by_cases h0 : 0 ≤ l.getD q 0
 ·have h3 := M7 l (a := q + 1) (b := l.length) hq (Nat.le_refl _)
  rw [Hb l q hq, if_pos h0] at h3
  have : HW l q < o.length := by omega
  simp [this]
 ·rw [if_neg (fun h => h0 h.1), if_neg (fun h => h0 h.1)]
theorem QF (N : Nat) (m : Ac) (k : Nat) (acc : List Ac) (hN : N ≤ 1000000) (h20 : 20 ≤ N) (hl : m.fa.length ≤ 6) (hk : k < 64) (j : List Int → Option (List Ac)) :
  By N m (acc, (k : Int)) j N (m.fa, 0, 0) = j (T8 m.fa k) := by
 obtain ⟨⟨x, pl⟩, e, h1, h2, h3⟩ := FE (A := List Int × Nat) (By N m (acc, (k : Int)) j) (fun a k => (a.1, (a.2 : Int), k)) m.fa.length (fun a => j a.1)
  (fun i a => a.2 = HW m.fa i ∧ a.1.length = m.fa.length ∧ ∀ q, q < m.fa.length → a.1.getD q 0 = if q < i then LO m.fa k q else m.fa.getD q 0)
  (fun n i a hi ha => by
   obtain ⟨a, pl⟩ := a
   obtain ⟨a1, a2, a3⟩ := ha
   simp only at a1 a2 a3
   have hple := JJ m.fa i (by omega)
   have hbit := RB ⟨k, hk⟩ ⟨pl, by omega⟩
   have hs := Hb m.fa i hi
   rw [By]
   simp only [AY]
   rw [AC (by omega), CF (d := 0) hi]
   simp only [oS]
   rw [AG (by omega)]
   by_cases h0 : m.fa.getD i 0 < 0
   ·rw [AC h0]
    refine ⟨(a, pl), rfl, by simp only; rw [hs, if_neg (by omega), a1]; rfl, a2, fun q hq => ?_⟩
    simp only
    rw [a3 q hq]
    by_cases hqi : q = i
    ·subst hqi
     rw [if_neg (by omega), if_pos (by omega), LO, if_neg (by omega)]
    ·by_cases h4 : q < i
     ·rw [if_pos h4, if_pos (by omega)]
     ·rw [if_neg h4, if_neg (by omega)]
   ·rw [AB h0, Ap (by omega), CF (d := 0) (show i < a.length by omega), hbit.2, AG (by omega)]
    simp only [oS, Int.toNat_natCast]
    cases hkb : k.testBit pl
    ·refine ⟨(a, pl + 1), rfl, by simp only; rw [hs, if_pos (by omega), a1], a2, fun q hq => ?_⟩
     simp only
     rw [a3 q hq]
     by_cases hqi : q = i
     ·subst hqi
      rw [if_neg (by omega), if_pos (by omega), LO, ← a1, hkb]; simp
     ·by_cases h4 : q < i
      ·rw [if_pos h4, if_pos (by omega)]
      ·rw [if_neg h4, if_neg (by omega)]
    ·refine ⟨(a.set i (-1), pl + 1), rfl, by simp only; rw [hs, if_pos (by omega), a1], by simp [a2], fun q hq => ?_⟩
     simp only
     rw [H6 (by omega), a3 q hq]
     by_cases hqi : q = i
     ·subst hqi
      rw [if_pos rfl, if_pos (by omega), LO, ← a1, if_pos ⟨by omega, hkb⟩]
     ·rw [if_neg hqi]
      by_cases h4 : q < i
      ·rw [if_pos h4, if_pos (by omega)]
      ·rw [if_neg h4, if_neg (by omega)])
  (fun n a _ => by
   rw [By]
   simp only [AY]
   rw [AB (by omega)]) N 0 (m.fa, 0) (Nat.zero_le _) (by omega) ⟨(In _).symm, rfl, fun q hq => by simp⟩
 have e' : By N m (acc, (k : Int)) j N (m.fa, 0, 0) = j x := e
 rw [e']
 congr 1
 simp only at h2 h3
 refine Gl (by rw [Lf, h2]) fun q hq => ?_
 rw [h2] at hq
 rw [h3 q hq, if_pos hq, PC _ _ _ hq]
theorem Tx (N : Nat) (m : Ac) (hN : N ≤ 1000000) (h20 : 20 ≤ N) (hl : m.fa.length ≤ 6) (j : List Int → Option (List Ac × Int)) :
  ∃ o, Db N m j N ([], 0) = j o ∧ S9 m.fa o := by
 obtain ⟨o, e, h1, h2⟩ := FE (A := List Int) (Db N m j) (fun a k => (a, k)) m.fa.length j
  (fun i o => o.length = HW m.fa i ∧ ∀ b, b < o.length → ∃ q : Nat, o.getD b 0 = (q : Int) ∧ q < m.fa.length ∧ 0 ≤ m.fa.getD q 0 ∧ HW m.fa q = b)
  (fun n i o hi ho => by
   have hple := JJ m.fa i (by omega)
   have hs := Hb m.fa i hi
   rw [Db]
   simp only [AY]
   rw [AC (by omega), CF (d := 0) hi]
   simp only [oS]
   rw [AG (by omega)]
   by_cases h0 : 0 ≤ m.fa.getD i 0
   ·rw [AC h0, Ap (by rw [ho.1]; unfold Dl; simp; omega)]
    refine ⟨o ++ [(i : Int)], rfl, by rw [hs, if_pos h0, ← ho.1]; simp, ?_⟩
    rw [List.length_append]
    exact Nh (P := fun b y => ∃ q : Nat, y = (q : Int) ∧ q < m.fa.length ∧ 0 ≤ m.fa.getD q 0 ∧ HW m.fa q = b) rfl ho.2 ⟨i, rfl, hi, h0, ho.1.symm⟩
   ·rw [AB h0]
    exact ⟨o, rfl, by rw [hs, if_neg h0, ho.1]; rfl, ho.2⟩)
  (fun n a _ => by
   rw [Db]
   simp only [AY]
   rw [AB (by omega)]) N 0 [] (Nat.zero_le _) (by omega) ⟨(In _).symm, fun b hb => by simp at hb⟩
 exact ⟨o, e, h1, h2⟩
theorem KP {n : Nat} (h : n ≤ 6) : 2 ^ n ≤ 64 := Nat.pow_le_pow_right (n := 2) (by omega) h
theorem MI {n : Nat} (h : n ≤ 6) : Dp .i64 1 (n : Int) = ((2 ^ n : Nat) : Int) := Va ⟨n, by omega⟩
theorem JQ {β : Type} (f : Nat → β) (n : Nat) : (List.range (n + 1)).map f = (List.range n).map f ++ [f n] := by
 rw [List.range_succ, List.map_append]; rfl
theorem N0 (N : Nat) (p : Aa) (m : Ac) (hN : N ≤ 1000000) (h20 : 100 ≤ N) (hw : Kh Jw m.fc) (hv : DY p m = 0) : Gf N p m = some (ET m, 0) := by
 obtain ⟨hp, hm⟩ := It hw hv
 have hnv := hp.nv
 have hnt := hp.nt
 have hl : m.fa.length ≤ 6 := by rw [hm.next]; omega
 unfold Gf
 rw [HX N p m hN (by omega) hw, hv]
 simp only [oS, bne_self_eq_false, Ak]
 obtain ⟨o, e, ho⟩ := Tx N m hN (by omega) hl (fun (v4 : (List Int)) =>
   (DD (0 ≤ (v4.length : Int))).bind fun _ =>
   CD N m v4 (fun (v12 : (List Ac)) =>
    some (v12, 0)) N (([] : List Ac), 0))
 rw [e, Ap (by omega)]
 have hoL := ho.len
 have hol := JJ m.fa m.fa.length (Nat.le_refl _)
 have hpow := KP (show HW m.fa m.fa.length ≤ 6 by omega)
 obtain ⟨a, e2, h1⟩ := FE (A := List Ac) (CD N m o fun v12 => some (v12, 0)) (fun a k => (a, k)) (2 ^ HW m.fa m.fa.length) (fun v12 => some (v12, 0))
  (fun i a => a = (List.range i).map (V1 m))
  (fun n i a hi ha => by
   refine ⟨a ++ [V1 m i], ?_, by rw [JQ, ha]⟩
   have hal : a.length = i := by rw [ha]; simp
   rw [CD]
   rw [hoL, MI (n := HW m.fa m.fa.length) (by omega), AC (by omega), I5 N m.fe (by have := hm.base; unfold Dl; omega), I5 N m.fa (by unfold Dl; omega), N8 N m.fc (by have := hm.held; unfold Dl; omega)]
   simp only [oS]
   rw [QE N m.fa o i a hN (by omega) hl ho (by omega), Ap (by rw [hal]; unfold Dl; simp; omega), AG (by omega)]
   rfl)
  (fun n a _ => by
   rw [CD]
   rw [hoL, MI (n := HW m.fa m.fa.length) (by omega), AB (by simp)]) N 0 [] (Nat.zero_le _) (by omega) rfl
 have e2' : CD N m o (fun v12 => some (v12, 0)) N ([], 0) = some (a, 0) := e2
 rw [e2', h1]; rfl
theorem Rn (N : Nat) (m : Ac) (h1 : m.fe.length ≤ Dl) (h2 : m.fa.length ≤ Dl) (h3 : m.fc.length ≤ Dl) : DT N m = some m := by
 unfold DT
 rw [Ap (by simpa using h1), Ap (by simpa using h2), Ap (by simpa using h3)]; rfl
theorem Rs (N : Nat) (m : Ac) (hN : N ≤ 1000000) (h20 : 100 ≤ N) (h1 : m.fe.length ≤ 100) (hl : m.fa.length ≤ 6) (h3 : m.fc.length ≤ 100) : C5 N m = some (ET m) := by
 unfold C5
 obtain ⟨c, e, hc⟩ := FE (A := Nat) (B9 N m (fun (v2 : Int) =>
  Bi N m v2 (fun (v8 : (List Ac)) => some v8) N (([] : List Ac), 0))) (fun a k => ((a : Int), k)) m.fa.length (fun a => Bi N m (a : Int) (fun (v8 : (List Ac)) => some v8) N (([] : List Ac), 0))
  (fun i a => a = HW m.fa i)
  (fun n i a hi ha => by
   have hple := JJ m.fa i (by omega)
   have hs := Hb m.fa i hi
   rw [B9]
   simp only [AY]
   rw [AC (by omega), CF (d := 0) hi]
   simp only [oS]
   rw [AG (by omega), AG (by omega)]
   by_cases h0 : 0 ≤ m.fa.getD i 0
   ·rw [AC h0]
    exact ⟨a + 1, rfl, by rw [hs, if_pos h0, ha]⟩
   ·rw [AB h0]
    exact ⟨a, rfl, by rw [hs, if_neg h0, ha]; rfl⟩)
  (fun n a _ => by
   rw [B9]
   simp only [AY]
   rw [AB (by omega)]) N 0 0 (Nat.zero_le _) (by omega) (In _).symm
 have e' : B9 N m (fun (v2 : Int) => Bi N m v2 (fun (v8 : (List Ac)) => some v8) N (([] : List Ac), 0)) N (0, 0) = _ := e
 rw [e', hc]
 have hol := JJ m.fa m.fa.length (Nat.le_refl _)
 have hpow := KP (show HW m.fa m.fa.length ≤ 6 by omega)
 obtain ⟨a, e2, h1⟩ := FE (A := List Ac) (Bi N m (HW m.fa m.fa.length : Int) fun v8 => some v8) (fun a k => (a, k)) (2 ^ HW m.fa m.fa.length) some
  (fun i a => a = (List.range i).map (V1 m))
  (fun n i a hi ha => by
   refine ⟨a ++ [V1 m i], ?_, by rw [JQ, ha]⟩
   have hal : a.length = i := by rw [ha]; simp
   rw [Bi]
   rw [Ap (by omega), MI (n := HW m.fa m.fa.length) (by omega), AC (by omega), Rn N m (by unfold Dl; omega) (by unfold Dl; omega) (by unfold Dl; omega)]
   simp only [oS]
   rw [QF N m i a hN (by omega) hl (by omega), Ap (by rw [hal]; unfold Dl; simp; omega), AG (by omega)]
   rfl)
  (fun n a _ => by
   rw [Bi]
   rw [Ap (by omega), MI (n := HW m.fa m.fa.length) (by omega), AB (by simp)]) N 0 [] (Nat.zero_le _) (by omega) rfl
 have e2' : Bi N m (HW m.fa m.fa.length : Int) (fun v8 => some v8) N ([], 0) = some a := e2
 rw [e2', h1]; rfl
theorem Nq (N : Nat) (p : Aa) (m : Ac) (hN : N ≤ 1000000) (h20 : 100 ≤ N) (hp : Cd p) (hm : CI p m) : C5 N m = some (ET m) := by
 have := hp.nv
 have := hp.nt
 exact Rs N m hN h20 (by rw [hm.base]; omega) (by rw [hm.next]; omega) (by rw [hm.held]; omega)
theorem HK {p : Aa} {m : Ac} (hm : CI p m) : Kh Jw m.fc := by
 intro x hx
 obtain ⟨q, hq⟩ := List.mem_iff_getElem?.1 hx
 have h1 := (lI.1 hq).1
 have := hm.range q (by rw [← hm.held]; exact h1)
 rw [lD, hq] at this
 unfold Jw
 simp only [Option.getD_some] at this
 simp [Lit.wf, IntKind.min, IntKind.max, IntKind.signed, IntKind.bits]
 omega
def IR (p : Aa) (x : Ac) : Option (Ac × Ai) := match F1 p x with
 | [] => none
 | c :: _ => some (x, c)
def GZ (p : Aa) (m : Ac) : Option (Ac × Ai) := CP (fun _ x => IR p x) 0 (ET m)
def Ez : Ac := ⟨[], [], []⟩
def KX : Ai := ⟨0, 0, 0⟩
def Jg (p : Aa) (m : Ac) : Ac × Ai × Int := match GZ p m with
 | some (x, c) => (x, c, 0)
 | none => (Ez, KX, 15)
def Du (p : Aa) (m : Ac) : Bool := (GZ p m).isNone
theorem KH {m : Ac} (hl : m.fa.length ≤ 6) : (ET m).length ≤ 64 := by
 unfold ET
 have hol := JJ m.fa m.fa.length (Nat.le_refl _)
 have hpow := KP (show HW m.fa m.fa.length ≤ 6 by omega)
 simpa using hpow
theorem Ln {α R R' : Type} (f : Nat → α → Option R) (g : R → R') : ∀ (i : Nat) (xs : List α), CP (fun i x => (f i x).map g) i xs = (CP f i xs).map g
 | _, [] => rfl
 | i, x :: xs => by
  rw [GK, GK]
  cases f i x
  ·exact Ln f g (i + 1) xs
  ·rfl
theorem Jd (N : Nat) (p : Aa) (m : Ac) (hN : N ≤ 1000000) (h20 : 100 ≤ N) (hw : Kh Jw m.fc) (hv : DY p m = 0) : Fs N p m = some (Jg p m) := by
 obtain ⟨hp, hm⟩ := It hw hv
 have hnv := hp.nv
 unfold Fs
 rw [N0 N p m hN h20 hw hv]
 simp only [oS, bne_self_eq_false, Ak]
 have hal := KH (m := m) (by rw [hm.next]; omega)
 have := BW (Em N p (ET m, 0) fun _ => some (Ez, KX, 15)) (ET m) (some (Ez, KX, 15)) (fun _ x => (IR p x).map fun y => (y.1, y.2, 0))
  (fun n i x hx => by
   have hi := (lI.1 hx).1
   have hx2 := TN hp hm (KQ.1 (lM hx))
   rw [Em, AC (by simp only; omega)]
   simp only [AR, hx, oS]
   rw [LK N p x hN (by omega) hp hx2, AG (by omega)]
   simp only [oS, IR]
   cases F1 p x with
   | nil => rfl
   | cons c cs => rw [AC (by simp only [List.length_cons]; omega)]; rfl)
  (fun n => by rw [Em, AB (by simp)]) N 0 (Nat.zero_le _) (by omega)
 rw [List.drop_zero, Ln] at this
 exact this.trans (by
  unfold Jg GZ
  cases CP (fun _ x => IR p x) 0 (ET m) <;> rfl)
theorem La (N : Nat) (p : Aa) (m : Ac) (hN : N ≤ 1000000) (h20 : 100 ≤ N) (hw : Kh Jw m.fc) (hv : DY p m = 0) : D9 N p m = some (Jg p m) := by
 obtain ⟨hp, hm⟩ := It hw hv
 have hnv := hp.nv
 unfold D9 EH
 rw [GY N p m hN (by omega), hv, Nq N p m hN h20 hp hm]
 simp only [oS, bne_self_eq_false, Ak]
 have hal := KH (m := m) (by rw [hm.next]; omega)
 have := BW (Cg N p (ET m, 0) fun _ => some (Ez, KX, 15)) (ET m) (some (Ez, KX, 15)) (fun _ x => (IR p x).map fun y => (y.1, y.2, 0))
  (fun n i x hx => by
   have hi := (lI.1 hx).1
   have hx2 := TN hp hm (KQ.1 (lM hx))
   rw [Cg, AC (by simp only; omega)]
   simp only [AR, hx, oS]
   rw [I4 N p x hN (by omega) hp hx2, AG (by omega)]
   simp only [oS, IR]
   cases F1 p x with
   | nil => rfl
   | cons c cs => rw [AC (by simp only [List.length_cons]; omega)]; rfl)
  (fun n => by rw [Cg, AB (by simp)]) N 0 (Nat.zero_le _) (by omega)
 rw [List.drop_zero, Ln] at this
 exact this.trans (by
  unfold Jg GZ
  cases CP (fun _ x => IR p x) 0 (ET m) <;> rfl)
theorem IT (N : Nat) (p : Aa) (m : Ac) (hN : N ≤ 1000000) (h20 : 100 ≤ N) (hw : Kh Jw m.fc) (hv : DY p m = 0) : EX N p m = some (Du p m, 0) := by
 unfold EX
 rw [Jd N p m hN h20 hw hv]
 unfold Du Jg
 cases GZ p m <;> rfl
theorem PJ {α R : Type} {f : Nat → α → Option R} {i : Nat} {xs : List α} : (CP f i xs).isNone = true ↔ ∀ j x, xs[j]? = some x → f (i + j) x = none := by
 constructor
 ·intro h
  exact Ff (Option.isNone_iff_eq_none.1 h)
 ·intro h
  rw [D4 h]; rfl
theorem Qh (N : Nat) (p : Aa) (m : Ac) (hN : N ≤ 1000000) (h20 : 100 ≤ N) (hp : Cd p) (hm : CI p m) : DS N p m = some (F1 p m).isEmpty := by
 unfold DS
 rw [I4 N p m hN (by omega) hp hm]
 simp only [oS]
 cases F1 p m with
 | nil => rfl
 | cons c cs =>
  rw [beq_eq_false_iff_ne.2 (by simp only [List.length_cons]; omega)]; rfl
theorem Ko (N : Nat) (p : Aa) (m : Ac) (hN : N ≤ 1000000) (h20 : 100 ≤ N) (hp : Cd p) (hm : CI p m) : CG N p m = some (Du p m) := by
 have hnv := hp.nv
 unfold CG
 rw [Nq N p m hN h20 hp hm]
 simp only [oS]
 have hal := KH (m := m) (by rw [hm.next]; omega)
 have := BW (BJ N p (ET m) fun _ => some true) (ET m) (some true) (fun _ x => (IR p x).map fun _ => false)
  (fun n i x hx => by
   have hi := (lI.1 hx).1
   have hx2 := TN hp hm (KQ.1 (lM hx))
   rw [BJ, AC (by omega)]
   simp only [AR, hx, oS]
   rw [Qh N p x hN h20 hp hx2, AG (by omega)]
   simp only [oS, IR]
   cases F1 p x with
   | nil => rfl
   | cons c cs => rfl)
  (fun n => by rw [BJ, AB (by simp)]) N 0 (Nat.zero_le _) (by omega)
 rw [List.drop_zero, Ln] at this
 refine Eq.trans this ?_
 unfold Du GZ
 cases CP (fun _ x => IR p x) 0 (ET m) <;> rfl
theorem Qf {N : Nat} {a b : Ac} (hN : N ≤ 1000000) (h1 : a.fe.length < N) (h2 : a.fa.length < N) (h3 : a.fc.length < N) (h4 : b.fc.length < N) (wa : Kh Jw a.fc) (wb : Kh Jw b.fc) : Dy N a b = some (O7 a b) := by
 unfold Dy
 rw [Nv h1 hN, Nv h2 hN, L5 h3 hN wa, L5 h4 hN wb]
 simp only [oS]
 rw [Nv h3 hN]
 unfold O7 S3
 by_cases h1 : FL a.fe b.fe = 0
 ·simp only [h1, S3]
  by_cases h2 : FL a.fa b.fa = 0
  ·simp only [h2]
   by_cases h3 : FL a.fc b.fc = 0 <;> simp [h3]
  ·have : (FL a.fa b.fa != 0) = true := by simpa using h2
   simp [h2, this]
 ·have : (FL a.fe b.fe != 0) = true := by simpa using h1
  simp [h1, this]
theorem PB (N : Nat) (a b : List Int) (hN : N ≤ 1000000) (h : a.length < N) : Dd N a b = some (a == b) := by
 unfold Dd
 by_cases hl : a.length = b.length
 ·rw [hl, bne_self_eq_false, Ak]
  have := BW (BK N a b fun _ => some true) a (some true) (fun i x => if x = b.getD i 0 then none else some false)
   (fun n i x hx => by
    have hi := (lI.1 hx).1
    rw [BK, AC (by omega), AR, hx, CF (d := 0) (by omega)]
    simp only [oS]
    rw [AG (by omega)]
    by_cases h : x = b.getD i 0
    ·rw [if_pos h, h, bne_self_eq_false]; rfl
    ·rw [if_neg h, bne_iff_ne.2 h]; rfl)
   (fun n => by rw [BK, AB (by simp)]) N 0 (Nat.zero_le _) (by omega)
  refine this.trans ?_
  rw [List.drop_zero]
  cases hs : CP (fun i x => if x = b.getD i 0 then none else some false) 0 a with
  | none =>
   have : a = b := Gl hl fun q hq => by
    have hx : a[q]? = some (a.getD q 0) := by rw [lD]; simp [hq]
    have := Ff hs q _ hx
    rw [Nat.zero_add] at this
    split at this
    ·assumption
    ·cases this
   rw [this, beq_self_eq_true]; rfl
  | some r =>
   obtain ⟨j, x, hx, hf⟩ := Ej hs
   rw [Nat.zero_add] at hf
   split at hf
   ·cases hf
   ·rename_i hne
    cases hf
    have : (a == b) = false := beq_eq_false_iff_ne.2 fun e => hne (by rw [← e, lD, hx]; rfl)
    rw [this]; rfl
 ·have h1 : ((a.length : Int) != (b.length : Int)) = true := bne_iff_ne.2 (by omega)
  have h2 : (a == b) = false := beq_eq_false_iff_ne.2 fun e => hl (by rw [e])
  rw [h1, h2]; rfl
theorem Pb (N : Nat) (a : List Int) (f : Int → Option Bool) (g : Int → Bool) (hN : N ≤ 1000000) (h : a.length < N) (hf : ∀ x, x ∈ a → f x = some (g x)) : Cc N a f = some (a.any g) := by
 unfold Cc Dj
 have := BW (A9 N a f fun _ => some (-1)) a (some (-1)) (fun i x => if g x then some (i : Int) else none)
  (fun n i x hx => by
   have hi := (lI.1 hx).1
   rw [A9, AC (by omega), AR, hx]
   simp only [oS]
   rw [hf x (lM hx), AG (by omega)]
   simp only [oS]
   cases g x <;> rfl)
  (fun n => by rw [A9, AB (by simp)]) N 0 (Nat.zero_le _) (by omega)
 have e : A9 N a f (fun _ => some (-1)) N 0 = _ := this
 rw [e, List.drop_zero]
 cases hs : CP (fun i x => if g x then some (i : Int) else none) 0 a with
 | none =>
  have : a.any g = false := by
   rw [List.any_eq_false]
   intro x hx
   obtain ⟨j, hj⟩ := List.mem_iff_getElem?.1 hx
   have := Ff hs j x hj
   intro hg
   rw [hg] at this; cases this
  rw [this]; rfl
 | some r =>
  obtain ⟨j, x, hx, hf⟩ := Ej hs
  split at hf
  ·rename_i hg
   cases hf
   have : a.any g = true := List.any_eq_true.2 ⟨x, lM hx, hg⟩
   rw [this]
   simp only [Bs, oS]
   rw [decide_eq_true (by omega)]
  ·cases hf
def Kq (p : Aa) (m : Ac) : Bool := DY p m == 0 && (m.fe == p.fo && m.fa.all (fun n => decide (n < 0)))
theorem Ms (N : Nat) (p : Aa) (m : Ac) (hN : N ≤ 1000000) (h20 : 100 ≤ N) (hw : Kh Jw m.fc) : zFS N p m = some (Kq p m) := by
 unfold zFS Kq
 rw [HX N p m hN (by omega) hw]
 simp only [AY, oS]
 by_cases hv : DY p m = 0
 ·obtain ⟨hp, hm⟩ := It hw hv
  have := hp.nv
  rw [hv, PB N _ _ hN (by rw [hm.base]; omega), Pb N m.fa (fun x => Gj N x) (fun n => decide (0 ≤ n)) hN (by rw [hm.next]; omega) (fun x _ => rfl)]
  simp only [oS, beq_self_eq_true, AA, Bool.true_and]
  have : m.fa.all (fun n => decide (n < 0)) = !m.fa.any (fun n => decide (0 ≤ n)) := by
   rw [List.not_any_eq_all_not]
   congr 1; funext n
   by_cases h : 0 ≤ n
   ·rw [decide_eq_true h, decide_eq_false (by omega)]; rfl
   ·rw [decide_eq_false h, decide_eq_true (by omega)]; rfl
  rw [this]
  cases m.fe == p.fo <;> simp
 ·rw [beq_eq_false_iff_ne.2 hv]; rfl
theorem Qv (N : Nat) (p : Aa) (m : Ac) (hN : N ≤ 1000000) (h20 : 100 ≤ N) (hw : Kh Jw m.fc) : DA N p m = some (Kq p m) := by
 unfold DA Kq
 rw [GY N p m hN (by omega)]
 simp only [oS]
 by_cases hv : DY p m = 0
 ·obtain ⟨hp, hm⟩ := It hw hv
  have h1 := hp.nv
  have h2 := hp.tgt
  have h3 := hm.base
  have h4 := hm.next
  rw [hv]
  simp only [bne_self_eq_false, Ak, beq_self_eq_true, Bool.true_and]
  have := BW (Cp N p m fun _ => some true) m.fe (some true) (fun i x => if 0 ≤ m.fa.getD i 0 ∨ x ≠ p.fo.getD i 0 then some false else none)
   (fun n i x hx => by
    have hi := (lI.1 hx).1
    rw [Cp, AC (by omega)]
    simp only [AY]
    rw [show Bv m.fe (i : Int) = some x from by rw [AR, hx], CF (d := 0) (by omega), CF (d := 0) (by omega)]
    simp only [oS]
    rw [AG (by omega)]
    by_cases k1 : 0 ≤ m.fa.getD i 0
    ·rw [AC k1, if_pos (.inl k1)]; rfl
    ·rw [AB k1]
     by_cases k2 : x = p.fo.getD i 0
     ·rw [if_neg (fun h => h.elim k1 (fun h => h k2)), k2, bne_self_eq_false]; rfl
     ·rw [if_pos (.inr k2), bne_iff_ne.2 k2]; rfl)
   (fun n => by rw [Cp, AB (by simp)]) N 0 (Nat.zero_le _) (by omega)
  refine this.trans ?_
  rw [List.drop_zero]
  cases hs : CP (fun i x => if 0 ≤ m.fa.getD i 0 ∨ x ≠ p.fo.getD i 0 then some false else none) 0 m.fe with
  | none =>
   have key : ∀ q, q < m.fe.length → m.fe.getD q 0 = p.fo.getD q 0 ∧ ¬ 0 ≤ m.fa.getD q 0 := by
    intro q hq
    have hx : m.fe[q]? = some (m.fe.getD q 0) := by rw [lD]; simp [hq]
    have := Ff hs q _ hx
    rw [Nat.zero_add] at this
    split at this
    ·cases this
    ·rename_i h; exact ⟨Decidable.not_not.1 fun h' => h (.inr h'), fun h' => h (.inl h')⟩
   have e1 : m.fe = p.fo := Gl (by omega) fun q hq => (key q hq).1
   have e2 : m.fa.all (fun n => decide (n < 0)) = true := by
    rw [List.all_eq_true]
    intro n hn
    obtain ⟨q, hq⟩ := List.mem_iff_getElem?.1 hn
    have hl := (lI.1 hq).1
    have := (key q (by omega)).2
    rw [lD, hq] at this
    simp only [Option.getD_some] at this
    simp only [decide_eq_true_eq]
    omega
   rw [e2, e1]; simp [Bs]
  | some r =>
   obtain ⟨j, x, hx, hf⟩ := Ej hs
   rw [Nat.zero_add] at hf
   have hj := (lI.1 hx).1
   split at hf
   ·rename_i h
    cases hf
    have : (m.fe == p.fo && m.fa.all (fun n => decide (n < 0))) = false := by
     rw [Bool.and_eq_false_iff]
     rcases h with h | h
     ·right
      rw [List.all_eq_false]
      refine ⟨m.fa.getD j 0, ?_, ?_⟩
      ·rw [lD, List.getElem?_eq_getElem (by omega)]; exact List.getElem_mem _
      ·simp only [decide_eq_true_eq]; omega
     ·left
      exact beq_eq_false_iff_ne.2 fun e => h (by rw [← e, lD, hx]; rfl)
    rw [this]; rfl
   ·cases hf
 ·rw [bne_iff_ne.2 hv, beq_eq_false_iff_ne.2 hv]; rfl
open Go
structure YV (x y : Au) : Prop where
 k : y.ff = x.ff
 f : y.fg = x.fg
 t : y.fk = x.fk
 a : y.fp = x.fp
 r : y.fm = x.fm
 l : y.fq.length = x.fq.length
 o : ∀ (u : Nat) (row : List Bool), x.fq[u]? = some row → ∃ row', y.fq[u]? = some row' ∧ row'.length = row.length ∧ ∀ v : Nat, row[v]? = some true → row'[v]? = some true
theorem YV.st {x y : Au} (h : YV x y) : Bz y = Bz x := by unfold Bz; rw [h.k]
structure WE (p : Aa) (m x : Ac) : Prop where
 base : m.fe = x.fe
 next : m.fa = x.fa
 held : ∀ i, i < p.fd.length → ∀ v, Dg (m.fc.getD i 0) v = true → Dg (x.fc.getD i 0) v = true
theorem WE.refl (p : Aa) (m : Ac) : WE p m m := ⟨rfl, rfl, fun _ _ _ h => h⟩
theorem WE.trans {p : Aa} {a b c : Ac} (h : WE p a b) (g : WE p b c) : WE p a c := ⟨h.base.trans g.base, h.next.trans g.next, fun i hi v hv => g.held i hi v (h.held i hi v hv)⟩
def Fj (p : Aa) (t : Au) : Int := if Bz t = true then Dp .u8 1 (p.fi.getD t.fg.toNat 0) else 0
def Cx (p : Aa) : Ac := ⟨p.fi, List.replicate p.fi.length (-1), p.fd.map (Fj p)⟩
theorem R9 (N : Nat) (h : 100 ≤ N) (n : Nat) (hn : n ≤ 6) : D3 N [(-1)] (n : Int) = some (List.replicate n (-1)) := by
 obtain ⟨k, rfl⟩ : ∃ k, N = k + 100 := ⟨N - 100, by omega⟩
 have : n = 0 ∨ n = 1 ∨ n = 2 ∨ n = 3 ∨ n = 4 ∨ n = 5 ∨ n = 6 := by omega
 rcases this with rfl | rfl | rfl | rfl | rfl | rfl | rfl
 all_goals (show _ = _; kernel_rfl)
theorem P8 (T : List Int) (i : Nat) (hi : i < T.length) : (T.take i ++ List.replicate (T.length - i) 0).set i (T.getD i 0) = T.take (i + 1) ++ List.replicate (T.length - (i + 1)) 0 := by
 have hl : (T.take i).length = i := by simp; omega
 rw [List.set_append_right _ _ (by omega), hl, Nat.sub_self, show T.length - i = (T.length - (i + 1)) + 1 from by omega, List.replicate_succ, List.set_cons_zero, List.take_add_one, List.append_assoc]
 have : T[i]? = some (T.getD i 0) := by rw [lD]; simp [hi]
 rw [this]; rfl
theorem Sf (T : List Int) (i : Nat) (hi : i < T.length) (h0 : T.getD i 0 = 0) : T.take i ++ List.replicate (T.length - i) 0 = T.take (i + 1) ++ List.replicate (T.length - (i + 1)) 0 := by
 rw [← P8 T i hi, h0, List.set_append_right _ _ (by rw [List.length_take]; omega)]
 congr 1
 have hl : (T.take i).length = i := by simp; omega
 rw [hl, Nat.sub_self, show T.length - i = (T.length - (i + 1)) + 1 from by omega, List.replicate_succ, List.set_cons_zero]
theorem Ro {p : Aa} (hv : A6 p = 0) {t : Au} (ht : t ∈ p.fd) : 0 ≤ t.fg ∧ t.fg.toNat < p.fi.length ∧ 0 ≤ p.fi.getD t.fg.toNat 0 ∧ p.fi.getD t.fg.toNat 0 < 6 ∧ p.fi.getD t.fg.toNat 0 < p.fb.getD t.fg.toNat 0 ∧ t.fg.toNat < p.fb.length := by
 obtain ⟨hp, hr⟩ := DZ hv
 have h1 := Ig (hp.tab t ht)
 have h2 := hr t.fg.toNat (by omega)
 have h3 := IM hp (i := t.fg.toNat) (by omega)
 have := hp.now
 refine ⟨h1.1, by omega, h2.1, by omega, h2.2.1, by omega⟩
theorem I3 {p : Aa} {i : Nat} {t : Au} (ht : p.fd[i]? = some t) : (p.fd.map (Fj p)).getD i 0 = Fj p t := by
 rw [lD, List.getElem?_map, ht]; rfl
theorem Jm (N : Nat) (p : Aa) (hN : N ≤ 1000000) (h20 : 100 ≤ N) : Fl N p = some (if A6 p = 0 then Cx p else ⟨[], [], []⟩, A6 p) := by
 unfold Fl
 rw [Jf N p hN (by omega)]
 simp only [oS]
 by_cases hv : A6 p = 0
 ·rw [if_pos hv, hv]
  obtain ⟨hp, _⟩ := DZ hv
  have hnv := hp.nv
  have hnt := hp.nt
  have hnow := hp.now
  rw [bne_self_eq_false, Ak, I5 N _ (by simp only [Dl]; omega)]
  simp only [oS]
  rw [R9 N h20 _ (by omega)]
  simp only [oS]
  rw [Ap (by simp only [Dl]; omega)]
  obtain ⟨a', e, ha⟩ := FE (DL N p fun v7 => some (Ac.mk p.fi (List.replicate p.fi.length (-1)) v7, 0)) (fun a i => (a, i)) p.fd.length (fun v7 => some (Ac.mk p.fi (List.replicate p.fi.length (-1)) v7, 0))
   (fun i a => a = (p.fd.map (Fj p)).take i ++ List.replicate ((p.fd.map (Fj p)).length - i) 0)
   (fun n i a hi ha => by
    have hx : p.fd[i]? = some p.fd[i] := by simp [hi]
    have hm : p.fd[i] ∈ p.fd := List.getElem_mem hi
    obtain ⟨n1, n2, n3, n4, _⟩ := Ro hv hm
    rw [DL, AC (by simp only; omega)]
    simp only [AY, AR, hx, oS, IN, AG (show i < 1000000 by omega)]
    have hal : i < (p.fd.map (Fj p)).length := by simpa using hi
    cases hs : Bz p.fd[i]
    ·rw [Ak]
     refine ⟨a, rfl, ?_⟩
     rw [ha]
     exact Sf _ _ hal (by rw [I3 hx]; unfold Fj; rw [hs]; rfl)
    ·rw [AA]
     have e1 : Bv p.fi p.fd[i].fg = some (p.fi.getD p.fd[i].fg.toNat 0) := by
      obtain ⟨q, hq⟩ := Int.eq_ofNat_of_zero_le n1
      rw [hq]; exact CF (by rw [hq] at n2; simpa using n2)
     rw [e1]
     simp only [oS]
     rw [Ap n3]
     have hl : i < a.length := by rw [ha]; simp; omega
     have e2 : a[i]? = some a[i] := by simp [hl]
     rw [e2]
     simp only [oS]
     refine ⟨_, rfl, ?_⟩
     rw [← P8 _ _ hal, I3 hx, ha]
     unfold Fj; rw [hs]; rfl)
   (fun n a ha => by rw [DL, AB (by simp)]) N 0 (List.replicate p.fd.length 0) (Nat.zero_le _) (by omega) (by simp)
  have e' : DL N p (fun v7 => some (Ac.mk p.fi (List.replicate p.fi.length (-1)) v7, 0)) N (List.replicate ((p.fd.length : Int)).toNat (0 : Int), 0) = _ := e
  rw [e', ha]
  have e5 : (p.fd.map (Fj p)).take p.fd.length = p.fd.map (Fj p) := List.take_of_length_le (by simp)
  simp [Cx, e5]
 ·rw [if_neg hv, bne_iff_ne.2 hv, AA]
theorem Lo (N : Nat) (p : Aa) (hN : N ≤ 1000000) (h20 : 100 ≤ N) : CM N p = some (if A6 p = 0 then Cx p else ⟨[], [], []⟩, A6 p) := by
 unfold CM
 rw [KD N p hN (by omega)]
 simp only [oS]
 by_cases hv : A6 p = 0
 ·rw [if_pos hv, hv]
  obtain ⟨hp, _⟩ := DZ hv
  have hnv := hp.nv
  have hnt := hp.nt
  have hnow := hp.now
  rw [bne_self_eq_false, Ak]
  obtain ⟨a', e, ha⟩ := FE (BN N p fun v4 => A7 N p (fun v10 => some (Ac.mk v4.1 v4.2 v10, 0)) N (([] : List Int), 0)) (fun a i => (a.1, a.2, i)) p.fb.length (fun v4 => A7 N p (fun v10 => some (Ac.mk v4.1 v4.2 v10, 0)) N (([] : List Int), 0))
   (fun i a => a = (p.fi.take i, List.replicate i (-1)))
   (fun n i a hi ha => by
    subst ha
    rw [BN, AC (by simp only; omega)]
    have hx : p.fi[i]? = some p.fi[i] := by simp [show i < p.fi.length from by omega]
    simp only [AR, hx, oS, AG (show i < 1000000 by omega)]
    rw [Ap (by simp [Dl]; omega), Ap (by simp [Dl]; omega)]
    refine ⟨(p.fi.take i ++ [p.fi[i]], List.replicate i (-1) ++ [-1]), rfl, ?_⟩
    rw [List.take_add_one, hx, List.replicate_succ']; rfl)
   (fun n a ha => by rw [BN, AB (by simp)]) N 0 ([], []) (Nat.zero_le _) (by omega) rfl
  have e' : BN N p (fun v4 => A7 N p (fun v10 => some (Ac.mk v4.1 v4.2 v10, 0)) N (([] : List Int), 0)) N (([] : List Int), ([] : List Int), 0) = _ := e
  rw [e', ha]
  simp only
  obtain ⟨b', e2, hb⟩ := FE (A7 N p fun v10 => some (Ac.mk (p.fi.take p.fb.length) (List.replicate p.fb.length (-1)) v10, 0)) (fun a i => (a, i)) p.fd.length (fun v10 => some (Ac.mk (p.fi.take p.fb.length) (List.replicate p.fb.length (-1)) v10, 0))
   (fun i a => a = (p.fd.map (Fj p)).take i)
   (fun n i a hi ha => by
    subst ha
    have hx : p.fd[i]? = some p.fd[i] := by simp [hi]
    have hm : p.fd[i] ∈ p.fd := List.getElem_mem hi
    obtain ⟨n1, n2, n3, n4, _⟩ := Ro hv hm
    rw [A7, AC (by simp only; omega)]
    simp only [AY, AR, hx, oS, Gs, AG (show i < 1000000 by omega)]
    have hT : (p.fd.map (Fj p))[i]? = some (Fj p p.fd[i]) := by rw [List.getElem?_map, hx]; rfl
    have hlen : ((p.fd.map (Fj p)).take i).length + 1 ≤ Dl := by simp [Dl]; omega
    cases hs : Bz p.fd[i]
    ·rw [Ak, Ap (by simpa using hlen)]
     refine ⟨_, rfl, ?_⟩
     rw [List.take_add_one, hT]
     unfold Fj; rw [hs]; rfl
    ·rw [AA]
     have e1 : Bv p.fi p.fd[i].fg = some (p.fi.getD p.fd[i].fg.toNat 0) := by
      obtain ⟨q, hq⟩ := Int.eq_ofNat_of_zero_le n1
      rw [hq]; exact CF (by rw [hq] at n2; simpa using n2)
     rw [e1]
     simp only [oS]
     rw [Ap n3, Ap (by simpa using hlen)]
     refine ⟨_, rfl, ?_⟩
     rw [List.take_add_one, hT]
     unfold Fj; rw [hs]; rfl)
   (fun n a ha => by rw [A7, AB (by simp)]) N 0 [] (Nat.zero_le _) (by omega) rfl
  have e3 : A7 N p (fun v10 => some (Ac.mk (p.fi.take p.fb.length) (List.replicate p.fb.length (-1)) v10, 0)) N (([] : List Int), 0) = _ := e2
  rw [e3, hb]
  simp only [Cx, ← hnow, List.take_length]
  rw [show p.fd.length = (p.fd.map (Fj p)).length from by simp, List.take_length]
 ·rw [if_neg hv, bne_iff_ne.2 hv, AA]
theorem Lw {p : Aa} (hv : A6 p = 0) : CI p (Cx p) := by
 obtain ⟨hp, hr⟩ := DZ hv
 have hnow := hp.now
 have hnx : ∀ i, i < p.fb.length → (List.replicate p.fi.length (-1 : Int)).getD i 0 = -1 := fun i hi => by
  rw [lD, List.getElem?_replicate, if_pos (by omega)]; rfl
 have hone : ∀ (i : Nat) (t : Au), p.fd[i]? = some t → ∃ b : Nat, b < 6 ∧ p.fi.getD t.fg.toNat 0 = (b : Int) ∧ (b : Int) < p.fb.getD t.fg.toNat 0 ∧ t.fg.toNat < p.fb.length := fun i t ht => by
  obtain ⟨n1, n2, n3, n4, n5, n6⟩ := Ro hv (lM ht)
  obtain ⟨b, hb⟩ := Int.eq_ofNat_of_zero_le n3
  exact ⟨b, by omega, hb, by omega, n6⟩
 have hbit : ∀ b : Nat, b < 8 → ∀ v, Dg (Dp .u8 1 (b : Int)) v = decide (b = v) := fun b hb v => by
  by_cases h : v < 8
  ·exact (Jo ⟨b, hb⟩ ⟨v, h⟩).1
  ·rw [Je (Jo ⟨b, hb⟩ ⟨0, by omega⟩).2.2 (by omega)]
   symm; apply decide_eq_false; omega
 refine { base := hnow, next := by simp [Cx, hnow], held := by simp [Cx], b0 := fun i hi => ⟨(hr i hi).1, (hr i hi).2.1⟩, n0 := fun i hi => ?_, ne := fun i hi => ?_, range := fun i hi => ?_, low := fun i t ht hs v hv' => ?_, high := fun i t ht hs v hb => ?_, none := fun i t ht hs => ?_ }
 ·show -1 ≤ (List.replicate p.fi.length (-1 : Int)).getD i 0 ∧ (List.replicate p.fi.length (-1 : Int)).getD i 0 < _
  rw [hnx i hi]
  have := IM hp hi
  omega
 ·show p.fi.getD i 0 ≠ (List.replicate p.fi.length (-1 : Int)).getD i 0
  rw [hnx i hi]
  have := hr i hi
  omega
 ·have hx : p.fd[i]? = some p.fd[i] := by simp [hi]
  show 0 ≤ (p.fd.map (Fj p)).getD i 0 ∧ (p.fd.map (Fj p)).getD i 0 ≤ 255
  rw [I3 hx]
  unfold Fj
  split
  ·obtain ⟨b, h1, h2, _⟩ := hone i _ hx
   rw [h2]
   exact (Jo ⟨b, by omega⟩ ⟨0, by omega⟩).2
  ·omega
 ·show Dg ((p.fd.map (Fj p)).getD i 0) v = true
  obtain ⟨b, h1, h2, h3, h4⟩ := hone i t ht
  rw [I3 ht]
  unfold Fj
  rw [if_pos hs, h2, hbit b (by omega)]
  unfold H0 at hv'
  have h5 : (Cx p).fe.getD t.fg.toNat 0 = (b : Int) := h2
  have h6 : (Cx p).fa.getD t.fg.toNat 0 = -1 := hnx _ h4
  rw [h5, h6, Bool.or_eq_true, decide_eq_true_iff, decide_eq_true_iff] at hv'
  apply decide_eq_true; omega
 ·have hb : Dg ((p.fd.map (Fj p)).getD i 0) v = true := hb
  obtain ⟨b, h1, h2, h3, h4⟩ := hone i t ht
  rw [I3 ht] at hb
  unfold Fj at hb
  rw [if_pos hs, h2, hbit b (by omega), decide_eq_true_iff] at hb
  omega
 ·show (p.fd.map (Fj p)).getD i 0 = 0
  rw [I3 ht]; unfold Fj; rw [hs]; rfl
theorem Mn {p : Aa} (hv : A6 p = 0) : DY p (Cx p) = 0 := EF hv (Lw hv)
theorem L3 (x : BitVec 8) : wI .u8 (x.toNat : Int) = (x.toNat : Int) := by
 have := x.isLt
 simp [wI, IntKind.signed, IntKind.bits]
 omega
theorem QB (x : BitVec 8) : 0 ≤ (x.toNat : Int) ∧ (x.toNat : Int) ≤ 255 := by
 have := x.isLt
 omega
theorem SY (x : BitVec 8) (v : Nat) : Dg (x.toNat : Int) v = x.getLsbD v := by
 unfold Dg; rw [Int.toNat_natCast]; rfl
theorem Pm {a : Int} (ha : 0 ≤ a ∧ a ≤ 255) (v : Nat) : (BitVec.ofInt 8 a).getLsbD v = Dg a v := by
 obtain ⟨a, rfl⟩ := Int.eq_ofNat_of_zero_le ha.1
 unfold BitVec.getLsbD Dg
 rw [Tq (by omega), Int.toNat_natCast]
theorem Q9 {a b : Int} (ha : 0 ≤ a ∧ a ≤ 255) (hb : 0 ≤ b ∧ b ≤ 255) : (∀ v, Dg (CR .u8 a b) v = (Dg a v && !Dg b v)) ∧ 0 ≤ CR .u8 a b ∧ CR .u8 a b ≤ 255 := by
 have e : CR .u8 a b = ((BitVec.ofInt 8 a &&& ~~~BitVec.ofInt 8 b).toNat : Int) := L3 (BitVec.ofInt 8 a &&& ~~~BitVec.ofInt 8 b)
 rw [e]
 refine ⟨fun v => ?_, QB _⟩
 rw [SY, BitVec.getLsbD_and, BitVec.getLsbD_not, Pm ha, Pm hb]
 by_cases h : v < 8
 ·simp [h]
 ·rw [Je ha.2 (by omega)]; simp
theorem Q7 {a b : Int} (ha : 0 ≤ a ∧ a ≤ 255) (hb : 0 ≤ b ∧ b ≤ 255) : (∀ v, Dg (NI .u8 a b) v = (Dg a v || Dg b v)) ∧ 0 ≤ NI .u8 a b ∧ NI .u8 a b ≤ 255 := by
 have e : NI .u8 a b = ((BitVec.ofInt 8 a ||| BitVec.ofInt 8 b).toNat : Int) := L3 (BitVec.ofInt 8 a ||| BitVec.ofInt 8 b)
 rw [e]
 refine ⟨fun v => ?_, QB _⟩
 rw [SY, BitVec.getLsbD_or, Pm ha, Pm hb]
theorem Un {b : Nat} (hb : b < 8) : (∀ v, Dg (Dp .u8 1 (b : Int)) v = decide (b = v)) ∧ 0 ≤ Dp .u8 1 (b : Int) ∧ Dp .u8 1 (b : Int) ≤ 255 := by
 refine ⟨fun v => ?_, (Jo ⟨b, hb⟩ ⟨0, by omega⟩).2⟩
 by_cases h : v < 8
 ·exact (Jo ⟨b, hb⟩ ⟨v, h⟩).1
 ·rw [Je (Jo ⟨b, hb⟩ ⟨0, by omega⟩).2.2 (by omega)]
  symm; apply decide_eq_false; omega
theorem Tu (N : Nat) {s : Int} {v : Nat} (hs : 0 ≤ s ∧ s ≤ 255) (hv : v < 8) : B6 N s (v : Int) = some (Dg s v) := by
 unfold B6
 rw [Ap (by omega), O0 hs.1 hs.2 hv]
 cases Dg s v <;> rfl
def Vr (v : Nat) : Nat := ((List.range 8).find? fun u => v.testBit u).getD 8
def Xo (v : Nat) : Nat := ((List.range 8).filter fun u => v.testBit u).length
theorem V4 : ∀ v : Fin 256, CE 0 (v.val : Int) = some (Vr v.val : Int) := by decide +kernel
theorem WY (N : Nat) {v : Nat} (h : v < 256) : CE N (v : Int) = some (Vr v : Int) := V4 ⟨v, h⟩
theorem Uw : ∀ v : Fin 256, v.val ≠ 0 → Vr v.val < 8 ∧ Dg (v.val : Int) (Vr v.val) = true ∧ 0 ≤ F6 .u8 (v.val : Int) (wI .u8 ((v.val : Int) - 1)) ∧ F6 .u8 (v.val : Int) (wI .u8 ((v.val : Int) - 1)) ≤ 255 ∧
  Xo (F6 .u8 (v.val : Int) (wI .u8 ((v.val : Int) - 1))).toNat + 1 = Xo v.val ∧
  ∀ u : Fin 8, Dg (F6 .u8 (v.val : Int) (wI .u8 ((v.val : Int) - 1))) u.val = (Dg (v.val : Int) u.val && decide (u.val ≠ Vr v.val)) := by decide +kernel
theorem XG (v : Nat) : Xo v ≤ 8 := by
 have := List.length_filter_le (fun u => v.testBit u) (List.range 8)
 simpa [Xo] using this
theorem PV (N : Nat) (t : Au) (b : Int) (rw_ : Nat → Bool) : ∀ (k n v : Nat), Xo v ≤ k → k < n → v < 256 →
  (∀ u, u < 8 → Dg (v : Int) u = true → ∃ row, Bv t.fm (u : Int) = some row ∧ Bv row b = some (rw_ u)) →
  C1 N t b (fun _ => some true) n (v : Int) = some ((List.range 8).all fun u => !Dg (v : Int) u || rw_ u)
 | k, 0, v, _, h, _, _ => by omega
 | k, n + 1, v, hk, hn, hv, hr => by
  rw [C1]
  by_cases h0 : v = 0
  ·subst h0
   have : (((0 : Nat) : Int) != 0) = false := rfl
   rw [this, Ak]
   congr 1
  ·have h1 : ((v : Int) != 0) = true := bne_iff_ne.2 (by omega)
   obtain ⟨l1, l2, l3, l4, l5, l6⟩ := Uw ⟨v, hv⟩ h0
   simp only at l1 l2 l3 l4 l5 l6
   obtain ⟨row, e1, e2⟩ := hr _ l1 l2
   rw [h1, AA, WY N hv]
   simp only [oS, e1, e2]
   obtain ⟨w, hw⟩ := Int.eq_ofNat_of_zero_le l3
   rw [hw] at l4 l5 l6 ⊢
   rw [Int.toNat_natCast] at l5
   cases hq : rw_ (Vr v)
   ·rw [Bool.not_false, AA]
    congr 1
    symm
    rw [List.all_eq_false]
    exact ⟨Vr v, by simpa using l1, by rw [l2, hq]; simp⟩
   ·rw [Bool.not_true, Ak]
    match k, hk with
    | 0, hk => exfalso; omega
    | k + 1, hk =>
    rw [PV N t b rw_ k n w (by omega) (by omega) (by omega) (fun u hu hb => hr u hu (by have := l6 ⟨u, hu⟩; simp only at this; rw [hb] at this; simpa using (Bool.and_eq_true_iff.1 this.symm).1))]
    congr 1
    rw [Bool.eq_iff_iff, List.all_eq_true, List.all_eq_true]
    refine ⟨fun h u hu => ?_, fun h u hu => ?_⟩
    ·have hu8 : u < 8 := by simpa using hu
     have h3 := h u hu
     have h4 := l6 ⟨u, hu8⟩
     simp only at h4
     rw [h4] at h3
     by_cases e : u = Vr v
     ·rw [e, hq]; simp
     ·simpa [e] using h3
    ·have hu8 : u < 8 := by simpa using hu
     have h3 := h u hu
     have h4 := l6 ⟨u, hu8⟩
     simp only at h4
     rw [h4]
     cases hb : Dg (v : Int) u
     ·simp
     ·rw [hb] at h3; simp at h3; simp [h3]
theorem Qr (N : Nat) (m : Ac) (s : Int) (h0 : 0 ≤ s) (h1 : s < (m.fe.length : Int)) (h2 : s < (m.fa.length : Int)) (hb : 0 ≤ m.fe.getD s.toNat 0) : Fu N m s = some (Gn m s.toNat) := by
 unfold Fu Gn
 rw [Et (d := 0) h0 h1, Et (d := 0) h0 h2]
 simp only [oS, Ba]
 rw [show DD (0 ≤ m.fe.getD s.toNat 0) = some () from by unfold DD; rw [if_pos hb]]
 simp only [oS]
 by_cases h : 0 ≤ m.fa.getD s.toNat 0
 ·rw [AC h, if_pos h, show DD (0 ≤ m.fa.getD s.toNat 0) = some () from by unfold DD; rw [if_pos h]]; rfl
 ·rw [AB h, if_neg h]
theorem J4 (N : Nat) (t : Au) : Fg N t = some (Bz t) := by
 unfold Fg Bz
 simp only [Ba]
 cases h : t.ff == 3 <;> simp
def FT (s : Ab) : Bool := decide (1 ≤ s.ff ∧ s.ff ≤ 4 ∧ 0 ≤ s.fh ∧ 0 ≤ s.fj) && (s.ff == 1 || s.fj == 0)
def GN (p : Aa) (s : Ab) : Bool :=
 if s.ff = 3 then decide (s.fh < (p.fd.length : Int)) else decide (s.fh < (p.fb.length : Int)) && (s.ff != 1 || decide (s.fj < p.fb.getD s.fh.toNat 0))
theorem Ky (N : Nat) (s : Ab) : Fy N s = some (FT s) := by
 unfold Fy FT NX
 simp only [Ba]
 by_cases h1 : (if s.fj < s.fh then s.fj else s.fh) < 0
 ·rw [AC h1, AA, decide_eq_false (by split at h1 <;> omega)]; rfl
 ·rw [AB h1]
  by_cases h2 : s.ff < 1
  ·rw [AC h2, AA, decide_eq_false (by omega)]; rfl
  ·rw [AB h2]
   by_cases h3 : 4 < s.ff
   ·rw [decide_eq_true h3, AA, decide_eq_false (by omega)]; rfl
   ·rw [decide_eq_false h3, Ak, decide_eq_true (by split at h1 <;> omega), Bool.true_and]
    cases h4 : s.ff == 1 <;> simp
theorem Ls (N : Nat) (s : Ab) : C8 N s = some (FT s) := by
 unfold C8 FT
 simp only [Ba]
 by_cases h1 : 1 ≤ s.ff
 ·rw [AC h1]
  by_cases h2 : s.ff ≤ 4
  ·rw [AC h2]
   by_cases h3 : 0 ≤ s.fh
   ·rw [AC h3]
    by_cases h4 : 0 ≤ s.fj
    ·rw [AC h4, decide_eq_true (by omega), Bool.true_and]
     cases h5 : s.ff == 1 <;> simp
    ·rw [AB h4, decide_eq_false (by omega)]; rfl
   ·rw [AB h3, decide_eq_false (by omega)]; rfl
  ·rw [AB h2, decide_eq_false (by omega)]; rfl
 ·rw [AB h1, decide_eq_false (by omega)]; rfl
theorem Np (N : Nat) (p : Aa) (s : Ab) (hv : FT s = true) : FP N p s = some (GN p s) := by
 have h0 : 0 ≤ s.fh := by
  unfold FT at hv
  rw [Bool.and_eq_true, decide_eq_true_iff] at hv
  exact hv.1.2.2.1
 unfold FP GN
 simp only [Ba]
 by_cases h1 : s.ff = 3
 ·rw [if_pos h1, beq_iff_eq.2 h1, AA]
 ·rw [if_neg h1, beq_eq_false_iff_ne.2 h1, Ak]
  by_cases h2 : s.fh < (p.fb.length : Int)
  ·rw [AC h2, decide_eq_true h2, Bool.true_and]
   cases h3 : s.ff != 1
   ·rw [Ak, Et (d := 0) h0 h2, Bool.false_or]; rfl
   ·rw [AA]; rfl
  ·rw [AB h2, decide_eq_false h2]; rfl
def RK (s : Ab) (t : Au) : Bool := t.fg == s.fh && Bz t
def SF (s : Ab) (i : Nat) (t : Au) (a : List Int) : List Int := if RK s t = true then a.set i (NI .u8 (a.getD i 0) (Dp .u8 1 s.fj)) else a
def Iq (p : Aa) (s : Ab) (held : List Int) : List Int := HN (SF s) 0 p.fd held
theorem MF {_R : Type} (N : Nat) (p : Aa) (s : Ab) (held : List Int) (hv : 0 ≤ s.fj) (hl : held.length = p.fd.length) (h12 : p.fd.length < N) (hN : N ≤ 1000000) (j : List Int → Option (Bool × List Int × List Int)) :
  Dc N p s j N (held, 0) = j (Iq p s held) ∧ (Iq p s held).length = p.fd.length := by
 have := H2 (Dc N p s j) (fun a i => (a, i)) p.fd j (SF s) (fun i a => a.length = p.fd.length)
  (fun n i x a hx ha => by
   have hi := (lI.1 hx).1
   rw [Dc, AC (by simp only; omega)]
   simp only [AY, AR, hx, oS, J4, AG (show i < 1000000 by omega)]
   have e2 : a[i]? = some (a.getD i 0) := by rw [lD]; simp [show i < a.length from by omega]
   unfold SF RK
   cases h1 : x.fg == s.fh
   ·rw [Ak, Ak, Bool.false_and, if_neg (by simp)]; exact ⟨rfl, ha⟩
   ·rw [AA, Bool.true_and]
    cases h2 : Bz x
    ·rw [Ak, if_neg (by simp)]; exact ⟨rfl, ha⟩
    ·rw [AA, e2, if_pos rfl]
     simp only [oS]
     rw [Ap hv]
     exact ⟨rfl, by simpa using ha⟩)
  (fun n a ha => by rw [Dc, AB (by simp)]) N 0 held (Nat.zero_le _) (by omega) hl
 rw [List.drop_zero] at this
 exact this
theorem Nc (N : Nat) (p : Aa) (s : Ab) (held : List Int) (hv : 0 ≤ s.fj) (hl : held.length = p.fd.length) (h12 : p.fd.length < N) (hN : N ≤ 1000000) (j : List Int → Option (Ac × Bool)) :
  BG N p s j N (held, 0) = j (Iq p s held) := by
 have := H2 (BG N p s j) (fun a i => (a, i)) p.fd j (SF s) (fun i a => a.length = p.fd.length)
  (fun n i x a hx ha => by
   have hi := (lI.1 hx).1
   rw [BG, AC (by simp only; omega)]
   simp only [AY, AR, hx, oS, Gs, AG (show i < 1000000 by omega)]
   have e2 : a[i]? = some (a.getD i 0) := by rw [lD]; simp [show i < a.length from by omega]
   unfold SF RK
   cases h1 : x.fg == s.fh
   ·rw [Ak, Ak, Bool.false_and, if_neg (by simp)]; exact ⟨rfl, ha⟩
   ·rw [AA, Bool.true_and]
    cases h2 : Bz x
    ·rw [Ak, if_neg (by simp)]; exact ⟨rfl, ha⟩
    ·rw [AA, e2, if_pos rfl]
     simp only [oS]
     rw [Ap hv]
     exact ⟨rfl, by simpa using ha⟩)
  (fun n a ha => by rw [BG, AB (by simp)]) N 0 held (Nat.zero_le _) (by omega) hl
 rw [List.drop_zero] at this
 exact this.1
def Km (m : Ac) (t : Au) (u : Nat) : Bool := (t.fm.getD u []).getD (m.fe.getD t.fg.toNat 0).toNat false
def Nm (m : Ac) (i : Nat) (t : Au) (u : Nat) : Bool := Dg (m.fc.getD i 0) u && !H0 m t.fg.toNat u
def HH (_p : Aa) (m : Ac) (i : Nat) (t : Au) : Bool := t.ff == 4 && (List.range 8).any fun u => Nm m i t u && !Km m t u
def Ga (p : Aa) (m : Ac) (s : Ab) : Option Ac :=
 let i := s.fh.toNat
 if s.ff = 1 then (if 0 ≤ m.fa.getD i 0 ∨ m.fe.getD i 0 = s.fj then none else some ⟨m.fe, m.fa.set i s.fj, Iq p s m.fc⟩)
 else if s.ff = 3 then match p.fd[i]? with
  | none => none
  | some t => if Bz t = false ∨ m.fc.getD i 0 = Gn m t.fg.toNat ∨ HH p m i t = true then none else some ⟨m.fe, m.fa, m.fc.set i (Gn m t.fg.toNat)⟩
 else if m.fa.getD i 0 < 0 then none
 else some ⟨if s.ff = 2 then m.fe.set i (m.fa.getD i 0) else m.fe, m.fa.set i (-1), m.fc⟩
def CS (p : Aa) (m : Ac) (s : Ab) : Ac × Int :=
 if FT s = false then (Ez, 1) else if GN p s = false then (Ez, 4) else match Ga p m s with
  | none => (Ez, 11)
  | some x => (x, 0)
end Go.Lift
namespace Go.Lift
open Option renaming bind_some → oS
open List renaming mem_of_getElem? → lM
open List renaming getElem?_eq_some_iff → lI
open List renaming getD_eq_getElem?_getD → lD
open Go
section clear
variable {p : Aa} {m : Ac} {i : Nat} {t : Au}
theorem TD (hp : Cd p) (hm : CI p m) (ht : p.fd[i]? = some t) (hs : Bz t = true) {u : Nat} (h : Dg (m.fc.getD i 0) u = true) : (u : Int) < p.fb.getD t.fg.toNat 0 ∧ u < 6 ∧ t.fg.toNat < p.fb.length := by
 have h1 := hm.high i t ht hs u h
 have hin := Ig (hp.tab t (lM ht))
 have h2 := IM hp (i := t.fg.toNat) (by omega)
 exact ⟨h1, by omega, by omega⟩
theorem S8 (hp : Cd p) (hm : CI p m) (ht : p.fd[i]? = some t) (hs : Bz t = true) (h4 : t.ff = 4) {u : Nat} (h : Dg (m.fc.getD i 0) u = true) :
  Bv t.fm (u : Int) = some (t.fm.getD u []) ∧ Bv (t.fm.getD u []) (m.fe.getD t.fg.toNat 0) = some (Km m t u) := by
 have hT := L0 (hp.tab t (lM ht))
 obtain ⟨h1, h2, h3⟩ := TD hp hm ht hs h
 have hl := hT.reL h4
 have e : t.fm[u]? = some (t.fm.getD u []) := by rw [lD]; simp [show u < t.fm.length from by omega]
 have hr := hT.reR _ (lM e)
 have hb := hm.b0 t.fg.toNat h3
 refine ⟨by rw [AR, e], ?_⟩
 unfold Km
 obtain ⟨b, hb'⟩ := Int.eq_ofNat_of_zero_le hb.1
 rw [hb'] at hb ⊢
 rw [Int.toNat_natCast]
 exact CF (by omega)
theorem NU (N : Nat) (hN : N ≤ 1000000) (h20 : 100 ≤ N) (hp : Cd p) (hm : CI p m) (ht : p.fd[i]? = some t) :
  Gw N p m (i : Int) = some (if Bz t = false ∨ m.fc.getD i 0 = Gn m t.fg.toNat ∨ HH p m i t = true then (false, m.fc) else (true, m.fc.set i (Gn m t.fg.toNat))) := by
 have hi := (lI.1 ht).1
 have hin := Ig (hp.tab t (lM ht))
 have hb := hm.base
 have hnx := hm.next
 have hh := hm.held
 have hr := HA hp hm.toMixServ (s := t.fg.toNat) (by omega)
 have hrg := hm.range i hi
 have eh : Bv m.fc (i : Int) = some (m.fc.getD i 0) := CF (by omega)
 unfold Gw
 simp only [AY, AR, ht, oS, J4]
 have eh' : m.fc[i]? = some (m.fc.getD i 0) := by rw [← AR, eh]
 cases hs : Bz t
 ·rw [Bool.not_false, AA, if_pos (.inl rfl)]
 ·rw [Bool.not_true, Ak, Qr N m _ hin.1 (by omega) (by omega) (hm.b0 _ (by omega)).1]
  simp only [oS, eh']
  by_cases h1 : m.fc.getD i 0 = Gn m t.fg.toNat
  ·rw [beq_iff_eq.2 h1, AA, AA, if_pos (.inr (.inl h1))]
  ·rw [beq_eq_false_iff_ne.2 h1, Ak]
   by_cases h4 : t.ff = 4
   ·rw [beq_iff_eq.2 h4, AA, Et (d := 0) hin.1 (by omega)]
    simp only [oS]
    obtain ⟨a1, a2, a3⟩ := Q9 hrg hr.2
    obtain ⟨w, hw⟩ := Int.eq_ofNat_of_zero_le a2
    unfold Fo
    rw [hw] at a1 a3 ⊢
    rw [PV N t _ (Km m t) 8 N w (XG _) (by omega) (by omega) (fun u hu hbu => by
     have := a1 u; rw [hbu] at this
     exact ⟨_, S8 hp hm ht hs h4 (Bool.and_eq_true_iff.1 this.symm).1⟩)]
    simp only [oS]
    have e : (!(List.range 8).all fun u => !Dg (w : Int) u || Km m t u) = HH p m i t := by
     unfold HH
     rw [beq_iff_eq.2 h4, Bool.true_and, List.not_all_eq_any_not]
     congr 1
     funext u
     rw [a1 u, hr.1 u]
     unfold Nm
     cases Dg (m.fc.getD i 0) u <;> cases H0 m t.fg.toNat u <;> cases Km m t u <;> rfl
    rw [e]
    cases hst : HH p m i t
    ·rw [Ak, if_neg (by rintro (h | h | h); cases h; exact h1 h; cases h)]; rfl
    ·rw [AA, if_pos (.inr (.inr rfl))]
   ·have e : HH p m i t = false := by unfold HH; rw [beq_eq_false_iff_ne.2 h4]; rfl
    rw [beq_eq_false_iff_ne.2 h4, Ak, Ak, e, if_neg (by rintro (h | h | h); cases h; exact h1 h; cases h)]; rfl
theorem NF (N : Nat) (hN : N ≤ 1000000) (h20 : 100 ≤ N) (hp : Cd p) (hm : CI p m) (ht : p.fd[i]? = some t) (hs : Bz t = true) (s : Ab) (hsi : s.fh = (i : Int)) (j : Option (Ac × Bool)) :
  Bn N p m s t (Gn m t.fg.toNat) (fun _ => j) N 0 = if HH p m i t = true then some (Ez, false) else j := by
 have hi := (lI.1 ht).1
 have hin := Ig (hp.tab t (lM ht))
 have hb := hm.base
 have hh := hm.held
 have hr := HA hp hm.toMixServ (s := t.fg.toNat) (by omega)
 have hrg := hm.range i hi
 have hver := IM hp (i := t.fg.toNat) (by omega)
 obtain ⟨nv, hnv⟩ := Int.eq_ofNat_of_zero_le (show 0 ≤ p.fb.getD t.fg.toNat 0 by omega)
 have eh' : m.fc[i]? = some (m.fc.getD i 0) := by rw [lD]; simp [show i < m.fc.length from by omega]
 have := BW (Bn N p m s t (Gn m t.fg.toNat) fun _ => j) (List.range nv) j (fun u _ => if (Nm m i t u && (t.ff == 4 && !Km m t u)) = true then some (Ez, false) else none)
  (fun n u x hx => by
   have hu : u < nv := by
    have := (lI.1 hx).1
    simpa using this
   rw [Bn, Et (d := 0) hin.1 (by omega), hnv]
   simp only [oS]
   rw [AC (by omega)]
   simp only [AY, hsi, AR, eh', oS]
   rw [Tu N hrg (by omega), AG (by omega)]
   simp only [oS]
   cases h1 : Dg (m.fc.getD i 0) u
   ·have e : Nm m i t u = false := by unfold Nm; rw [h1]; rfl
    rw [Ak, Ak, Ak, e]; rfl
   ·rw [AA, Tu N hr.2 (by omega), hr.1 u]
    simp only [oS]
    have e : Nm m i t u = !H0 m t.fg.toNat u := by unfold Nm; rw [h1]; rfl
    rw [← e]
    cases h2 : Nm m i t u
    ·rw [Ak, Ak]; rfl
    ·rw [AA]
     by_cases h4 : t.ff = 4
     ·obtain ⟨e1, e2⟩ := S8 hp hm ht hs h4 h1
      rw [AR] at e1
      rw [beq_iff_eq.2 h4, AA, e1, Et (d := 0) hin.1 (by omega)]
      simp only [oS]
      rw [e2]
      simp only [oS]
      cases Km m t u <;> rfl
     ·rw [beq_eq_false_iff_ne.2 h4, Ak, Ak]; rfl)
  (fun n => by
   rw [Bn, Et (d := 0) hin.1 (by omega), hnv]
   simp only [oS, List.length_range]
   rw [AB (by omega)]) N 0 (Nat.zero_le _) (by simp; omega)
 have e0 : Bn N p m s t (Gn m t.fg.toNat) (fun _ => j) N 0 = _ := this
 rw [e0, List.drop_zero]
 by_cases hst : HH p m i t = true
 ·rw [if_pos hst]
  unfold HH at hst
  rw [Bool.and_eq_true, List.any_eq_true] at hst
  obtain ⟨h4, u, hu, h5⟩ := hst
  rw [Bool.and_eq_true] at h5
  have h6 : Dg (m.fc.getD i 0) u = true := by have := h5.1; unfold Nm at this; exact (Bool.and_eq_true_iff.1 this).1
  have h7 := TD hp hm ht hs h6
  cases hsc : CP (fun u (_ : Nat) => if (Nm m i t u && (t.ff == 4 && !Km m t u)) = true then some (Ez, false) else none) 0 (List.range nv) with
  | some r =>
   obtain ⟨q, x, hx, hf⟩ := Ej hsc
   split at hf
   ·cases hf; rfl
   ·cases hf
  | none =>
   exfalso
   have hx : (List.range nv)[u]? = some u := List.getElem?_range (by omega)
   have := Ff hsc u u hx
   rw [Nat.zero_add, h5.1, h4, h5.2] at this
   cases this
 ·rw [if_neg hst]
  have : CP (fun u (_ : Nat) => if (Nm m i t u && (t.ff == 4 && !Km m t u)) = true then some (Ez, false) else none) 0 (List.range nv) = none := D4 fun q x hx => by
   rw [Nat.zero_add]
   split
   ·rename_i h5
    exfalso; apply hst
    rw [Bool.and_eq_true, Bool.and_eq_true] at h5
    unfold HH
    rw [h5.2.1, Bool.true_and, List.any_eq_true]
    have hq : q < nv := by
     have := (lI.1 hx).1
     simpa using this
    exact ⟨q, List.mem_range.2 (by omega), by rw [h5.1, h5.2.2]; rfl⟩
   ·rfl
  rw [this]; rfl
end clear
end Go.Lift
namespace Go.Lift
open Option renaming bind_some → oS
open List renaming mem_of_getElem? → lM
open Go
theorem I1 {s : Ab} (h : FT s = true) : 1 ≤ s.ff ∧ s.ff ≤ 4 ∧ 0 ≤ s.fh ∧ 0 ≤ s.fj ∧ (s.ff ≠ 1 → s.fj = 0) := by
 unfold FT at h
 rw [Bool.and_eq_true, decide_eq_true_iff, Bool.or_eq_true, beq_iff_eq, beq_iff_eq] at h
 exact ⟨h.1.1, h.1.2.1, h.1.2.2.1, h.1.2.2.2, fun hk => h.2.elim (fun e => (hk e).elim) id⟩
theorem LI {p : Aa} {s : Ab} (h : GN p s = true) : (s.ff = 3 → s.fh < (p.fd.length : Int)) ∧ (s.ff ≠ 3 → s.fh < (p.fb.length : Int)) ∧ (s.ff = 1 → s.fj < p.fb.getD s.fh.toNat 0) := by
 unfold GN at h
 split at h
 ·rename_i hk
  rw [decide_eq_true_iff] at h
  exact ⟨fun _ => h, fun hn => (hn hk).elim, fun h1 => by omega⟩
 ·rename_i hk
  rw [Bool.and_eq_true, decide_eq_true_iff, Bool.or_eq_true, decide_eq_true_iff, bne_iff_ne] at h
  exact ⟨fun h3 => (hk h3).elim, fun _ => h.1, fun h1 => h.2.elim (fun hn => (hn h1).elim) id⟩
theorem SA (N : Nat) {p : Aa} {m : Ac} (hp : Cd p) (hm : CI p m) : F0 N m = some m := by
 have hnv := hp.nv
 have hnt := hp.nt
 have h1 := hm.base
 have h2 := hm.next
 have h3 := hm.held
 unfold F0
 rw [I5 N _ (by simp only [Dl]; omega), I5 N _ (by simp only [Dl]; omega), N8 N _ (by simp only [Dl]; omega)]
 rfl
theorem NS (N : Nat) (hN : N ≤ 1000000) (h20 : 100 ≤ N) {p : Aa} {m : Ac} (hp : Cd p) (hm : CI p m) {s : Ab} (hv : FT s = true) (hx : GN p s = true) :
  ∃ o, Gq N p m s = some (o, (Ga p m s).isSome) ∧ ∀ x, Ga p m s = some x → o = x := by
 obtain ⟨k1, k4, i0, v0, vk⟩ := I1 hv
 obtain ⟨x3, xn, x1⟩ := LI hx
 have hnv := hp.nv
 have hnt := hp.nt
 have hb := hm.base
 have hn := hm.next
 have hh := hm.held
 obtain ⟨i, hi⟩ := Int.eq_ofNat_of_zero_le i0
 unfold Gq Ga
 rw [SA N hp hm]
 simp only [oS, AY]
 by_cases hk1 : s.ff = 1
 ·have hi1 : (i : Int) < p.fb.length := by have := xn (by omega); omega
  rw [beq_iff_eq.2 hk1, AA, if_pos hk1]
  unfold Hw
  simp only [AY, hi, Int.toNat_natCast]
  rw [CF (d := 0) (show i < m.fa.length by omega)]
  simp only [oS]
  by_cases c1 : 0 ≤ m.fa.getD i 0
  ·rw [AC c1, AA, if_pos (.inl c1)]
   exact ⟨_, rfl, fun x hx => by cases hx⟩
  ·rw [AB c1, CF (d := 0) (show i < m.fe.length by omega)]
   simp only [oS]
   by_cases c2 : m.fe.getD i 0 = s.fj
   ·rw [beq_iff_eq.2 c2, AA, if_pos (.inr c2)]
    exact ⟨_, rfl, fun x hx => by cases hx⟩
   ·rw [beq_eq_false_iff_ne.2 c2, Ak, (MF (_R := Unit) N p s m.fc v0 hh (by omega) hN _).1, if_neg (by rintro (h | h); exact c1 h; exact c2 h)]
    exact ⟨_, rfl, fun x hx => by cases hx; rfl⟩
 ·rw [beq_eq_false_iff_ne.2 hk1, Ak, if_neg hk1]
  by_cases hk3 : s.ff = 3
  ·have hi3 : i < p.fd.length := by have := x3 hk3; omega
   have ht : p.fd[i]? = some p.fd[i] := by simp [hi3]
   rw [beq_iff_eq.2 hk3, AA, if_pos hk3, hi, NU N hN h20 hp hm ht]
   simp only [oS, Int.toNat_natCast, ht]
   split
   ·exact ⟨_, rfl, fun x hx => by cases hx⟩
   ·exact ⟨_, rfl, fun x hx => by cases hx; rfl⟩
  ·have hi1 : (i : Int) < p.fb.length := by have := xn hk3; omega
   rw [beq_eq_false_iff_ne.2 hk3, Ak, if_neg hk3, hi, CF (d := 0) (show i < m.fa.length by omega)]
   simp only [oS, Int.toNat_natCast]
   by_cases c1 : m.fa.getD i 0 < 0
   ·rw [AC c1, if_pos c1]
    exact ⟨_, rfl, fun x hx => by cases hx⟩
   ·rw [AB c1, if_neg c1]
    by_cases hk2 : s.ff = 2
    ·rw [beq_iff_eq.2 hk2, AA, CF (d := 0) (show i < m.fe.length by omega), if_pos hk2]
     exact ⟨_, rfl, fun x hx => by cases hx; rfl⟩
    ·rw [beq_eq_false_iff_ne.2 hk2, Ak, if_neg hk2]
     exact ⟨_, rfl, fun x hx => by cases hx; rfl⟩
theorem NK (N : Nat) (hN : N ≤ 1000000) (h20 : 100 ≤ N) {p : Aa} {m : Ac} (hp : Cd p) (hm : CI p m) (s : Ab) : Gd N p m s = some (CS p m s) := by
 unfold Gd CS
 rw [Ky]
 simp only [oS]
 cases hv : FT s
 ·rw [Bool.not_false, AA, if_pos rfl]; rfl
 ·rw [Bool.not_true, Ak, if_neg (by simp), Np N p s hv]
  simp only [oS]
  cases hx : GN p s
  ·rw [Bool.not_false, AA, if_pos rfl]; rfl
  ·rw [Bool.not_true, Ak, if_neg (by simp)]
   obtain ⟨o, e, ho⟩ := NS N hN h20 hp hm hv hx
   rw [e]
   simp only [oS]
   cases ha : Ga p m s with
   | none => rfl
   | some x => rw [ho x ha]; rfl
theorem Pe (N : Nat) (hN : N ≤ 1000000) (h20 : 100 ≤ N) {p : Aa} {m : Ac} (hp : Cd p) (hm : CI p m) {s : Ab} (hv : FT s = true) (hx : GN p s = true) :
  Di N p m s = some (match Ga p m s with | none => (Ez, false) | some x => (x, true)) := by
 obtain ⟨k1, k4, i0, v0, vk⟩ := I1 hv
 obtain ⟨x3, xn, x1⟩ := LI hx
 have hnv := hp.nv
 have hnt := hp.nt
 have hb := hm.base
 have hn := hm.next
 have hh := hm.held
 obtain ⟨i, hi⟩ := Int.eq_ofNat_of_zero_le i0
 unfold Di Ga
 rw [Ap (by simp [Dl]; omega), Ap (by simp [Dl]; omega), Ap (by simp [Dl]; omega)]
 simp only [AY, List.nil_append]
 by_cases hk1 : s.ff = 1
 ·have hi1 : (i : Int) < p.fb.length := by have := xn (by omega); omega
  rw [beq_iff_eq.2 hk1, AA, if_pos hk1]
  simp only [hi, Int.toNat_natCast]
  rw [CF (d := 0) (show i < m.fa.length by omega)]
  simp only [oS]
  by_cases c1 : 0 ≤ m.fa.getD i 0
  ·rw [AC c1, AA, if_pos (.inl c1)]; rfl
  ·rw [AB c1, CF (d := 0) (show i < m.fe.length by omega)]
   simp only [oS]
   by_cases c2 : m.fe.getD i 0 = s.fj
   ·rw [beq_iff_eq.2 c2.symm, AA, if_pos (.inr c2)]; rfl
   ·rw [beq_eq_false_iff_ne.2 (fun h => c2 h.symm), Ak, Nc N p s m.fc v0 hh (by omega) hN _, if_neg (by rintro (h | h); exact c1 h; exact c2 h)]
 ·rw [beq_eq_false_iff_ne.2 hk1, Ak, if_neg hk1]
  by_cases hk3 : s.ff = 3
  ·have hi3 : i < p.fd.length := by have := x3 hk3; omega
   have ht : p.fd[i]? = some p.fd[i] := by simp [hi3]
   have hin := Ig (hp.tab _ (lM ht))
   have eh' : Bv m.fc (i : Int) = some (m.fc.getD i 0) := CF (by omega)
   rw [beq_eq_false_iff_ne.2 (show s.ff ≠ 2 by omega), Ak, beq_iff_eq.2 hk3, AA, if_pos hk3, hi, AR, ht]
   simp only [oS, Gs, Int.toNat_natCast, ht]
   cases hs : Bz p.fd[i]
   ·rw [Bool.not_false, AA, if_pos (.inl rfl)]; rfl
   ·rw [Bool.not_true, Ak, Jk N m _ hin.1 (by omega) (by omega) (hm.b0 _ (by omega)).1, eh']
    simp only [oS]
    by_cases h1 : m.fc.getD i 0 = Gn m (p.fd[i]).fg.toNat
    ·rw [beq_iff_eq.2 h1, AA, if_pos (.inr (.inl h1))]; rfl
    ·rw [beq_eq_false_iff_ne.2 h1, Ak]
     rw [NF N hN h20 hp hm ht hs s hi]
     cases hst : HH p m i p.fd[i]
     ·rw [if_neg (by simp), if_neg (by rintro (h | h | h); cases h; exact h1 h; cases h)]
     ·rw [if_pos rfl, if_pos (.inr (.inr rfl))]
  ·have hi1 : (i : Int) < p.fb.length := by have := xn hk3; omega
   rw [if_neg hk3, hi, CF (d := 0) (show i < m.fa.length by omega)]
   simp only [oS, Int.toNat_natCast]
   by_cases hk2 : s.ff = 2
   ·rw [beq_iff_eq.2 hk2, AA, if_pos hk2]
    by_cases c1 : m.fa.getD i 0 < 0
    ·rw [AC c1, if_pos c1]; rfl
    ·rw [AB c1, if_neg c1, CF (d := 0) (show i < m.fe.length by omega)]; rfl
   ·rw [beq_eq_false_iff_ne.2 hk2, Ak, beq_eq_false_iff_ne.2 hk3, Ak, if_neg hk2]
    by_cases c1 : m.fa.getD i 0 < 0
    ·rw [AC c1, if_pos c1]; rfl
    ·rw [AB c1, if_neg c1]
end Go.Lift
namespace Go.Lift
open Option renaming bind_some → oS
open List renaming mem_of_getElem? → lM
open List renaming getElem?_eq_some_iff → lI
open Go
theorem QK (s : Ab) : ∀ (xs : List Au) (i : Nat) (a : List Int), i + xs.length ≤ a.length → (HN (SF s) i xs a).length = a.length ∧ ∀ q, (HN (SF s) i xs a).getD q 0 = match (if i ≤ q then xs[q - i]? else none) with
  | some t => if RK s t = true then NI .u8 (a.getD q 0) (Dp .u8 1 s.fj) else a.getD q 0
  | none => a.getD q 0
 | [], i, a, _ => by
  refine ⟨rfl, fun q => ?_⟩
  split
  ·rename_i h; split at h
   ·simp at h
   ·cases h
  ·rfl
 | x :: xs, i, a, hl => by
  have hl' : i + (xs.length + 1) ≤ a.length := by simpa using hl
  have ha : (SF s i x a).length = a.length := by unfold SF; split <;> simp
  obtain ⟨ih1, ih2⟩ := QK s xs (i + 1) (SF s i x a) (by omega)
  refine ⟨by rw [HN, ih1, ha], fun q => ?_⟩
  rw [HN, ih2 q]
  have hu : (SF s i x a).getD q 0 = if q = i ∧ RK s x = true then NI .u8 (a.getD q 0) (Dp .u8 1 s.fj) else a.getD q 0 := by
   unfold SF
   by_cases hc : RK s x = true
   ·rw [if_pos hc, H6 (by omega)]
    by_cases hq : q = i
    ·subst hq; rw [if_pos rfl, if_pos ⟨rfl, hc⟩]
    ·rw [if_neg hq, if_neg (fun h => hq h.1)]
   ·rw [if_neg hc, if_neg (fun h => hc h.2)]
  by_cases h1 : i + 1 ≤ q
  ·rw [if_pos h1, if_pos (show i ≤ q by omega), hu, if_neg (by omega)]
   rw [show (x :: xs)[q - i]? = xs[q - (i + 1)]? from by rw [show q - i = (q - (i + 1)) + 1 from by omega, List.getElem?_cons_succ]]
  ·rw [if_neg h1]
   by_cases h2 : q = i
   ·subst h2
    rw [if_pos (Nat.le_refl _), Nat.sub_self, hu]
    simp
   ·rw [if_neg (show ¬ i ≤ q by omega), hu, if_neg (by omega)]
theorem R4 {p : Aa} {s : Ab} {held : List Int} (hl : held.length = p.fd.length) : (Iq p s held).length = p.fd.length ∧ ∀ q t, p.fd[q]? = some t → (Iq p s held).getD q 0 = if RK s t = true then NI .u8 (held.getD q 0) (Dp .u8 1 s.fj) else held.getD q 0 := by
 obtain ⟨h1, h2⟩ := QK s p.fd 0 held (by omega)
 refine ⟨h1.trans hl, fun q t ht => ?_⟩
 have := h2 q
 rw [if_pos (Nat.zero_le _), Nat.sub_zero, ht] at this
 exact this
theorem MN {m : Ac} {s v : Nat} : H0 m s v = true ↔ m.fe.getD s 0 = (v : Int) ∨ m.fa.getD s 0 = (v : Int) := by
 unfold H0; rw [Bool.or_eq_true, decide_eq_true_iff, decide_eq_true_iff]
theorem QQ {p : Aa} {m x : Ac} (hp : Cd p) (hm : CI p m) {s : Ab} (hv : FT s = true) (hx : GN p s = true) (h : Ga p m s = some x) : CI p x := by
 obtain ⟨k1, k4, i0, v0, vk⟩ := I1 hv
 obtain ⟨x3, xn, x1⟩ := LI hx
 obtain ⟨i, hi⟩ := Int.eq_ofNat_of_zero_le i0
 have hb := hm.base
 have hn := hm.next
 have hh := hm.held
 unfold Ga at h
 simp only [hi, Int.toNat_natCast] at h
 rw [hi, Int.toNat_natCast] at x1
 split at h
 ·rename_i hk1
  have hi1 : i < p.fb.length := by have := xn (by omega); omega
  have hx1 := x1 hk1
  have hvi := IM hp hi1
  split at h
  ·cases h
  rename_i hc
  cases h
  obtain ⟨u1, u2⟩ := R4 (s := s) hh
  obtain ⟨b, hbv⟩ := Int.eq_ofNat_of_zero_le v0
  have hob := Un (b := b) (by omega)
  have hN : ∀ q, (m.fa.set i s.fj).getD q 0 = if q = i then s.fj else m.fa.getD q 0 := fun q => H6 (by omega)
  refine { base := hb, next := by simpa using hn, held := u1, b0 := hm.b0, n0 := fun q hq => ?_, ne := fun q hq => ?_, range := fun q hq => ?_, low := fun q t ht hs v hr => ?_, high := fun q t ht hs v hbit => ?_, none := fun q t ht hs => ?_ }
  ·show -1 ≤ (m.fa.set i s.fj).getD q 0 ∧ (m.fa.set i s.fj).getD q 0 < _
   rw [hN q]
   split
   ·rename_i e; subst e; omega
   ·exact hm.n0 q hq
  ·show m.fe.getD q 0 ≠ (m.fa.set i s.fj).getD q 0
   rw [hN q]
   split
   ·rename_i e; subst e; exact fun h => hc (.inr h)
   ·exact hm.ne q hq
  ·have ht : p.fd[q]? = some p.fd[q] := by simp [hq]
   show 0 ≤ (Iq p s m.fc).getD q 0 ∧ (Iq p s m.fc).getD q 0 ≤ 255
   rw [u2 q _ ht, hbv]
   split
   ·exact (Q7 (hm.range q hq) hob.2).2
   ·exact hm.range q hq
  ·have hq := (lI.1 ht).1
   show Dg ((Iq p s m.fc).getD q 0) v = true
   have hin := Ig (hp.tab t (lM ht))
   rw [MN] at hr
   have hr : m.fe.getD t.fg.toNat 0 = (v : Int) ∨ (m.fa.set i s.fj).getD t.fg.toNat 0 = (v : Int) := hr
   rw [hN] at hr
   rw [u2 q t ht, hbv]
   have hlow := hm.low q t ht hs v
   rw [MN] at hlow
   by_cases hf : t.fg.toNat = i
   ·have hup : RK s t = true := by unfold RK; rw [hs, Bool.and_true, beq_iff_eq, hi]; omega
    rw [if_pos hup, (Q7 (hm.range q hq) hob.2).1, hob.1 v, Bool.or_eq_true, decide_eq_true_iff]
    rw [if_pos hf] at hr
    rcases hr with h | h
    ·exact .inl (hlow (.inl h))
    ·right; omega
   ·rw [if_neg hf] at hr
    have hup : RK s t = false := by unfold RK; rw [hs, Bool.and_true, beq_eq_false_iff_ne, hi]; omega
    rw [hup, if_neg (by simp)]
    exact hlow hr
  ·have hq := (lI.1 ht).1
   have hbit : Dg ((Iq p s m.fc).getD q 0) v = true := hbit
   have hin := Ig (hp.tab t (lM ht))
   rw [u2 q t ht, hbv] at hbit
   split at hbit
   ·rename_i hup
    rw [(Q7 (hm.range q hq) hob.2).1, hob.1 v, Bool.or_eq_true, decide_eq_true_iff] at hbit
    rcases hbit with h | h
    ·exact hm.high q t ht hs v h
    ·unfold RK at hup
     rw [hs, Bool.and_true, beq_iff_eq, hi] at hup
     rw [hup, Int.toNat_natCast]; omega
   ·exact hm.high q t ht hs v hbit
  ·show (Iq p s m.fc).getD q 0 = 0
   have hup : RK s t = false := by unfold RK; rw [hs, Bool.and_false]
   rw [u2 q t ht, hup, if_neg (by simp)]
   exact hm.none q t ht hs
 ·rename_i hk1
  split at h
  ·rename_i hk3
   have hi3 : i < p.fd.length := by have := x3 hk3; omega
   have ht0 : p.fd[i]? = some p.fd[i] := by simp [hi3]
   rw [ht0] at h
   simp only at h
   split at h
   ·cases h
   rename_i hc
   cases h
   have hin0 := Ig (hp.tab _ (lM ht0))
   have hr0 := HA hp hm.toMixServ (s := (p.fd[i]).fg.toNat) (by omega)
   have hs0 : Bz p.fd[i] = true := by
    cases hs : Bz p.fd[i]
    ·exact (hc (.inl hs)).elim
    ·rfl
   have hH : ∀ q, (m.fc.set i (Gn m (p.fd[i]).fg.toNat)).getD q 0 = if q = i then Gn m (p.fd[i]).fg.toNat else m.fc.getD q 0 := fun q => H6 (by omega)
   refine { base := hb, next := hn, held := by simpa using hh, b0 := hm.b0, n0 := hm.n0, ne := hm.ne, range := fun q hq => ?_, low := fun q t ht hs v hr => ?_, high := fun q t ht hs v hbit => ?_, none := fun q t ht hs => ?_ }
   ·show 0 ≤ (m.fc.set i (Gn m (p.fd[i]).fg.toNat)).getD q 0 ∧ (m.fc.set i (Gn m (p.fd[i]).fg.toNat)).getD q 0 ≤ 255
    rw [hH q]
    split
    ·exact hr0.2
    ·exact hm.range q hq
   ·show Dg ((m.fc.set i (Gn m (p.fd[i]).fg.toNat)).getD q 0) v = true
    have hr : H0 m t.fg.toNat v = true := hr
    rw [hH q]
    split
    ·rename_i e; subst e
     rw [ht0] at ht; cases ht
     rw [hr0.1]; exact hr
    ·exact hm.low q t ht hs v hr
   ·have hbit : Dg ((m.fc.set i (Gn m (p.fd[i]).fg.toNat)).getD q 0) v = true := hbit
    rw [hH q] at hbit
    split at hbit
    ·rename_i e; subst e
     rw [ht0] at ht; cases ht
     rw [hr0.1] at hbit
     exact hm.high q _ ht0 hs0 v (hm.low q _ ht0 hs0 v hbit)
    ·exact hm.high q t ht hs v hbit
   ·show (m.fc.set i (Gn m (p.fd[i]).fg.toNat)).getD q 0 = 0
    rw [hH q, if_neg (fun e => by subst e; rw [ht0] at ht; cases ht; rw [hs0] at hs; cases hs)]
    exact hm.none q t ht hs
  ·rename_i hk3
   have hi1 : i < p.fb.length := by have := xn hk3; omega
   have hvi := IM hp hi1
   split at h
   ·cases h
   rename_i hc
   cases h
   have hN : ∀ q, (m.fa.set i (-1)).getD q 0 = if q = i then -1 else m.fa.getD q 0 := fun q => H6 (by omega)
   have hB : ∀ q, (if s.ff = 2 then m.fe.set i (m.fa.getD i 0) else m.fe).getD q 0 = if s.ff = 2 ∧ q = i then m.fa.getD i 0 else m.fe.getD q 0 := fun q => by
    by_cases hk2 : s.ff = 2
    ·rw [if_pos hk2, H6 (by omega)]
     by_cases e : q = i
     ·rw [if_pos e, if_pos ⟨hk2, e⟩]
     ·rw [if_neg e, if_neg (fun h => e h.2)]
    ·rw [if_neg hk2, if_neg (fun h => hk2 h.1)]
   have hrun : ∀ q v, H0 ⟨if s.ff = 2 then m.fe.set i (m.fa.getD i 0) else m.fe, m.fa.set i (-1), m.fc⟩ q v = true → H0 m q v = true := fun q v hr => by
    rw [MN] at hr ⊢
    simp only [hN q, hB q] at hr
    by_cases e : q = i
    ·subst e
     rw [if_pos rfl] at hr
     by_cases hk2 : s.ff = 2
     ·rw [if_pos ⟨hk2, rfl⟩] at hr; omega
     ·rw [if_neg (fun h => hk2 h.1)] at hr; omega
    ·rw [if_neg e, if_neg (fun h => e h.2)] at hr; exact hr
   refine { base := by simp only; split <;> simp [hb], next := by simpa using hn, held := hh, b0 := fun q hq => ?_, n0 := fun q hq => ?_, ne := fun q hq => ?_, range := hm.range, low := fun q t ht hs v hr => hm.low q t ht hs v (hrun _ _ hr), high := hm.high, none := hm.none }
   ·simp only [hB q]
    split
    ·rename_i e; obtain ⟨_, e⟩ := e; subst e
     have := hm.n0 q hq
     omega
    ·exact hm.b0 q hq
   ·simp only [hN q]
    split
    ·rename_i e; subst e; omega
    ·exact hm.n0 q hq
   ·simp only [hB q, hN q]
    have h1 := hm.b0 q hq
    by_cases e : q = i
    ·rw [if_pos e]
     split
     ·rename_i e2; obtain ⟨_, e2⟩ := e2; subst e2; omega
     ·omega
    ·rw [if_neg e, if_neg (fun h => e h.2)]; exact hm.ne q hq
theorem K6 (N : Nat) (hN : N ≤ 1000000) (h20 : 100 ≤ N) {p : Aa} {m : Ac} (hw : Kh Jw m.fc) (s : Ab) : Df N p m s = some (if DY p m = 0 then CS p m s else (Ez, DY p m)) := by
 unfold Df CS
 rw [GY N p m hN (by omega)]
 simp only [oS, AY]
 by_cases hval : DY p m = 0
 ·obtain ⟨hp, hm⟩ := It hw hval
  rw [if_pos hval, hval, bne_self_eq_false, Ak, Ls]
  simp only [oS]
  cases hv : FT s
  ·rw [Bool.not_false, AA, if_pos rfl]; rfl
  ·rw [Bool.not_true, Ak, if_neg (by simp)]
   obtain ⟨k1, k4, i0, v0, vk⟩ := I1 hv
   have key : ∀ b : Bool, GN p s = b → (if b = false then (Ez, (4 : Int)) else match Ga p m s with | none => (Ez, 11) | some x => (x, 0)) = (if b = false then (Ez, (4 : Int)) else match Ga p m s with | none => (Ez, 11) | some x => (x, 0)) := fun _ _ => rfl
   have tail : GN p s = true → ((Di N p m s).bind fun v15 => AK (!v15.2) (some (Ac.mk [] [] [], (11 : Int))) (some (v15.1, 0))) = some (match Ga p m s with | none => (Ez, 11) | some x => (x, 0)) := fun hx => by
    rw [Pe N hN h20 hp hm hv hx]
    cases Ga p m s <;> rfl
   have zz : (Ac.mk [] [] [], (4 : Int)) = (Ez, 4) := rfl
   by_cases hk3 : s.ff = 3
   ·rw [beq_iff_eq.2 hk3, AA, show (s.ff != 3) = false from by rw [hk3]; rfl]
    have hX : GN p s = decide (s.fh < (p.fd.length : Int)) := by unfold GN; rw [if_pos hk3]
    by_cases c : (p.fd.length : Int) ≤ s.fh
    ·rw [AC c, AA, hX, decide_eq_false (by omega), if_pos rfl]; rfl
    ·have hx : GN p s = true := by rw [hX, decide_eq_true (by omega)]
     rw [AB c, Ak, Ak, beq_eq_false_iff_ne.2 (show s.ff ≠ 1 by omega), Ak, Ak, hx, if_neg (by simp)]
     exact tail hx
   ·rw [beq_eq_false_iff_ne.2 hk3, Ak, bne_iff_ne.2 hk3, AA]
    have hX : GN p s = (decide (s.fh < (p.fb.length : Int)) && (s.ff != 1 || decide (s.fj < p.fb.getD s.fh.toNat 0))) := by unfold GN; rw [if_neg hk3]
    by_cases c : (p.fb.length : Int) ≤ s.fh
    ·rw [decide_eq_true c, AA, hX, decide_eq_false (show ¬ s.fh < (p.fb.length : Int) by omega), Bool.false_and, if_pos rfl]; rfl
    ·rw [decide_eq_false c, Ak]
     by_cases hk1 : s.ff = 1
     ·rw [beq_iff_eq.2 hk1, AA, Et (d := 0) i0 (by omega)]
      simp only [oS]
      by_cases c2 : p.fb.getD s.fh.toNat 0 ≤ s.fj
      ·rw [decide_eq_true c2, AA, hX, decide_eq_false (show ¬ s.fj < p.fb.getD s.fh.toNat 0 by omega), show (s.ff != 1) = false from by rw [hk1]; rfl, Bool.false_or, Bool.and_false, if_pos rfl]; rfl
      ·have hx : GN p s = true := by rw [hX, decide_eq_true (by omega), decide_eq_true (by omega), Bool.or_true]; rfl
       rw [decide_eq_false c2, Ak, hx, if_neg (by simp)]
       exact tail hx
     ·have hx : GN p s = true := by rw [hX, decide_eq_true (by omega), bne_iff_ne.2 hk1]; rfl
      rw [beq_eq_false_iff_ne.2 hk1, Ak, Ak, hx, if_neg (by simp)]
      exact tail hx
 ·rw [if_neg hval, bne_iff_ne.2 hval, AA]; rfl
theorem Kr (N : Nat) (hN : N ≤ 1000000) (h20 : 100 ≤ N) {p : Aa} {m : Ac} (hw : Kh Jw m.fc) (s : Ab) : Fx N p m s = some (if DY p m = 0 then CS p m s else (Ez, DY p m)) := by
 unfold Fx
 rw [HX N p m hN (by omega) hw]
 simp only [oS]
 by_cases hval : DY p m = 0
 ·obtain ⟨hp, hm⟩ := It hw hval
  rw [if_pos hval, hval, bne_self_eq_false, Ak, NK N hN h20 hp hm s]; rfl
 ·rw [if_neg hval, bne_iff_ne.2 hval, AA]; rfl
theorem H4 {p : Aa} {m : Ac} (hp : Cd p) (hm : CI p m) {s : Ab} (h : (CS p m s).2 = 0) : CI p (CS p m s).1 := by
 unfold CS at h ⊢
 split at h
 ·cases h
 rename_i h1
 rw [if_neg h1]
 split at h
 ·cases h
 rename_i h2
 rw [if_neg h2]
 cases ha : Ga p m s with
 | none => rw [ha] at h; cases h
 | some x => exact QQ hp hm (by simpa using h1) (by simpa using h2) ha
end Go.Lift
namespace Go.Lift
open IntKind renaming wrap → wI
open Option renaming bind_some → oS
open Go
def Iv (p : Aa) (total : Nat) : List Ab → Nat → Ac → Int × Ac × Ai × Int
 | [], _, m => if Kq p m = true then (0, Ez, KX, 15) else ((total : Int), Ez, KX, 14)
 | s :: l, i, m => if (CS p m s).2 ≠ 0 ∨ s.ff = 4 then ((i : Int), Ez, KX, 0) else match GZ p (CS p m s).1 with
  | some (x, c) => ((i : Int), x, c, 0)
  | none => Iv p total l (i + 1) (CS p m s).1
def OI (p : Aa) (l : List Ab) : Int × Ac × Ai × Int :=
 if A6 p ≠ 0 then (0, Ez, KX, A6 p) else match GZ p (Cx p) with
  | some (x, c) => (-1, x, c, 0)
  | none => Iv p l.length l 0 (Cx p)
section
variable {N : Nat} {p : Aa} {l : List Ab}
theorem J5 (hN : N ≤ 1000000) (h20 : 100 ≤ N) (hv : A6 p = 0) (hl : l.length ≤ 1000) : ∀ (n i : Nat) (m : Ac), i ≤ l.length → l.length - i < n → CI p m →
  D2 N p l (fun v6 => (zFS N p v6).bind fun v15 => AK (!v15) (some ((l.length : Int), (Ac.mk ([] : List Int) ([] : List Int) ([] : List Int)), (Ai.mk 0 0 0), 14)) (some (0, (Ac.mk ([] : List Int) ([] : List Int) ([] : List Int)), (Ai.mk 0 0 0), 15))) n (m, (i : Int)) = some (Iv p l.length (l.drop i) i m)
 | 0, i, m, _, h, _ => by omega
 | n + 1, i, m, hi, h, hm => by
  obtain ⟨hp, _⟩ := DZ hv
  have hval := EF hv hm
  rw [D2]
  by_cases hlt : i < l.length
  ·have hx : l[i]? = some l[i] := by simp [hlt]
   rw [AC (by simp only; omega), Cu hx, Iv]
   simp only [AY, AR, hx, oS, AG (show i < 1000000 by omega)]
   rw [Kr N hN h20 (HK hm), if_pos hval]
   simp only [oS]
   by_cases h1 : (CS p m l[i]).2 = 0
   ·rw [h1, bne_self_eq_false, Ak]
    by_cases h2 : l[i].ff = 4
    ·rw [beq_iff_eq.2 h2, AA, if_pos (.inr h2)]; rfl
    ·have hm' := H4 hp hm h1
     rw [beq_eq_false_iff_ne.2 h2, Ak, if_neg (by rintro (h | h); exact h rfl; exact h2 h), Jd N p _ hN h20 (HK hm') (EF hv hm')]
     unfold Jg
     simp only [oS]
     cases hb : GZ p (CS p m l[i]).1 with
     | some y => rfl
     | none =>
      have e : ((15 : Int) == 0) = false := rfl
      simp only
      rw [e, Ak]
      exact J5 hN h20 hv hl n (i + 1) _ (by omega) (by omega) hm'
   ·rw [bne_iff_ne.2 h1, AA, AA, if_pos (.inl h1)]; rfl
  ·have hd : l.drop i = [] := List.drop_eq_nil_of_le (by omega)
   rw [AB (by simp only; omega), hd, Iv, Ms N p m hN h20 (HK hm)]
   simp only [oS]
   cases Kq p m <;> rfl
theorem Kn (hN : N ≤ 1000000) (h20 : 100 ≤ N) (hv : A6 p = 0) (hl : l.length ≤ 1000) : ∀ (n i : Nat) (m : Ac), i ≤ l.length → l.length - i < n → CI p m →
  BR N p l (fun v4 => (DA N p v4).bind fun v16 => AK (!v16) (some ((l.length : Int), (Ac.mk ([] : List Int) ([] : List Int) ([] : List Int)), (Ai.mk 0 0 0), 14)) (some (0, (Ac.mk ([] : List Int) ([] : List Int) ([] : List Int)), (Ai.mk 0 0 0), 15))) n (m.fe, m.fa, m.fc, (i : Int)) = some (Iv p l.length (l.drop i) i m)
 | 0, i, m, _, h, _ => by omega
 | n + 1, i, m, hi, h, hm => by
  obtain ⟨hp, _⟩ := DZ hv
  have hval := EF hv hm
  rw [BR]
  by_cases hlt : i < l.length
  ·have hx : l[i]? = some l[i] := by simp [hlt]
   rw [AC (by simp only; omega), Cu hx, Iv]
   simp only [AY, AR, hx, oS, AG (show i < 1000000 by omega)]
   rw [AC (by omega), K6 N hN h20 (HK hm), if_pos hval]
   simp only [oS]
   by_cases h1 : (CS p m l[i]).2 = 0
   ·rw [h1, bne_self_eq_false, Ak]
    by_cases h2 : l[i].ff = 4
    ·rw [beq_iff_eq.2 h2, AA, if_pos (.inr h2)]; rfl
    ·have hm' := H4 hp hm h1
     rw [beq_eq_false_iff_ne.2 h2, Ak, if_neg (by rintro (h | h); exact h rfl; exact h2 h), La N p _ hN h20 (HK hm') (EF hv hm')]
     unfold Jg
     simp only [oS]
     cases hb : GZ p (CS p m l[i]).1 with
     | some y => rfl
     | none =>
      have e : ((15 : Int) == 0) = false := rfl
      simp only
      rw [e, Ak]
      exact Kn hN h20 hv hl n (i + 1) _ (by omega) (by omega) hm'
   ·rw [bne_iff_ne.2 h1, AA, AA, if_pos (.inl h1)]; rfl
  ·have hd : l.drop i = [] := List.drop_eq_nil_of_le (by omega)
   rw [AB (by simp only; omega), hd, Iv, Qv N p _ hN h20 (HK hm)]
   simp only [oS]
   cases Kq p m <;> rfl
theorem Ph (hN : N ≤ 1000000) (h20 : 100 ≤ N) (hl : l.length ≤ 1000) (hln : l.length < N) : Fw N p l = some (OI p l) := by
 unfold Fw OI
 rw [Jm N p hN h20]
 simp only [oS]
 by_cases hv : A6 p = 0
 ·have hm := Lw hv
  rw [if_pos hv, hv, bne_self_eq_false, Ak, if_neg (by simp), Jd N p _ hN h20 (HK hm) (Mn hv)]
  unfold Jg
  simp only [oS]
  cases hb : GZ p (Cx p) with
  | some y => rfl
  | none =>
   have e : ((15 : Int) == 0) = false := rfl
   simp only
   rw [e, Ak]
   have := J5 (N := N) (p := p) (l := l) hN h20 hv hl N 0 (Cx p) (Nat.zero_le _) (by omega) hm
   rw [List.drop_zero] at this
   exact this
 ·rw [if_neg hv, bne_iff_ne.2 hv, AA, if_pos hv]; rfl
theorem PI (hN : N ≤ 1000000) (h20 : 100 ≤ N) (hl : l.length ≤ 1000) (hln : l.length + 1 < N) : Dt N p l = some (OI p l) := by
 unfold Dt OI
 rw [Lo N p hN h20]
 simp only [oS]
 by_cases hv : A6 p = 0
 ·have hm := Lw hv
  rw [if_pos hv, hv, bne_self_eq_false, Ak, if_neg (by simp)]
  obtain ⟨k, rfl⟩ : ∃ k, N = k + 1 := ⟨N - 1, by omega⟩
  rw [BR, AC (by simp only; omega)]
  simp only [AY]
  rw [AB (by omega), La (k + 1) p _ hN h20 (HK hm) (Mn hv)]
  unfold Jg
  simp only [oS]
  cases hb : GZ p (Cx p) with
  | some y => rfl
  | none =>
   have e : ((15 : Int) == 0) = false := rfl
   simp only
   rw [e, Ak, show wI .i64 ((-1 : Int) + 1) = ((0 : Nat) : Int) from by decide +kernel]
   have := Kn (N := k + 1) (p := p) (l := l) hN h20 hv hl k 0 (Cx p) (Nat.zero_le _) (by omega) hm
   rw [List.drop_zero] at this
   exact this
 ·rw [if_neg hv, bne_iff_ne.2 hv, AA, if_pos hv]; rfl
def Im (p : Aa) (l : List Ab) : Bool := (OI p l).2.2.2 == 15
theorem NT (hN : N ≤ 1000000) (h20 : 100 ≤ N) (hl : l.length ≤ 1000) (hln : l.length < N) : Gi N p l = some (Im p l) := by
 unfold Gi
 rw [Ph hN h20 hl hln]; rfl
theorem Pk (hN : N ≤ 1000000) (h20 : 100 ≤ N) (hl : l.length ≤ 1000) (hln : l.length + 1 < N) : Ec N p l = some (Im p l) := by
 unfold Ec
 rw [PI hN h20 hl hln]; rfl
end
end Go.Lift
namespace Go.Lift
open Go
theorem TQ {α : Type} (l : List α) (i : Nat) : l.eraseIdx i = l.take i ++ l.drop (i + 1) := List.eraseIdx_eq_take_drop_succ ..
theorem Sq (N : Nat) (l : List Ab) (i : Nat) (hi : i < l.length) (hl : l.length ≤ 1000) : ∃ X, BI N l (i : Int) (((i + 1 : Nat) : Int)) = some (l.length - 1, X) ∧ X.take (l.length - 1) = l.eraseIdx i ∧ l.length - 1 ≤ X.length := by
 unfold BI
 have e1 : ((l.drop (i + 1)).take (l.length - (i + 1))) = l.drop (i + 1) := List.take_of_length_le (by simp)
 have e2 : i + (l.drop (i + 1)).length = l.length - 1 := by simp; omega
 have e3 : (HF l (0 + i) (l.drop (i + 1))).length = l.length := Hv (by simp; omega)
 have e4 : ((i : Int) + ((l.drop (i + 1)).length : Int)).toNat = l.length - 1 := by omega
 simp only [Int.toNat_natCast, e1, e2, e4, e3]
 rw [Ap ⟨by omega, by omega, by omega, by omega, by omega, Nat.le_refl _⟩, beq_eq_false_iff_ne.2 (show (i : Int) ≠ ((i + 1 : Nat) : Int) by omega), Ak,
  Ap ⟨by omega, by omega, by omega⟩, Ap ⟨by omega, by omega, Nat.le_refl _⟩, Ap (by omega), Ap ⟨by omega, by omega, by omega, Nat.le_refl _⟩]
 refine ⟨_, rfl, ?_, ?_⟩
 ·rw [TQ]
  unfold HF
  rw [Nat.zero_add, List.append_assoc]
  have h1 : (l.take i ++ l.drop (i + 1) ++ l.drop (i + (l.drop (i + 1)).length)).take (l.length - 1) = l.take i ++ l.drop (i + 1) := by
   have : (l.take i ++ l.drop (i + 1)).length = l.length - 1 := by simp; omega
   rw [List.take_append_of_le_length (by omega), List.take_of_length_le (by omega)]
  rw [h1, List.take_append_of_le_length (by simp; omega), List.take_of_length_le (by simp; omega)]
 ·rw [Hv (by rw [e3, List.length_replicate]; omega), e3]; omega
theorem Ss {α : Type} {l : List α} {i : Nat} (h : i < l.length) : (l.eraseIdx i).length = l.length - 1 := List.length_eraseIdx_of_lt h
theorem Ik (N : Nat) (l : List Ab) (h : l.length ≤ Dl) : AZ N l = some l := by
 unfold AZ
 rw [Ap (by simpa using h)]; rfl
def Le (p : Aa) (m : Ac) (s : Ab) : Option Ac := if (CS p m s).2 = 0 ∧ s.ff ≠ 4 ∧ Du p (CS p m s).1 = true then some (CS p m s).1 else none
def IW (p : Aa) : Ac → List Ab → Option Ac
 | m, [] => some m
 | m, s :: l => (Le p m s).bind fun x => IW p x l
def L7 (p : Aa) (m : Ac) (l : List Ab) : Bool := match IW p m l with
 | some x => Kq p x
 | none => false
theorem Ma (p : Aa) (total : Nat) : ∀ (l : List Ab) (i : Nat) (m : Ac), ((Iv p total l i m).2.2.2 == 15) = L7 p m l
 | [], i, m => by
  rw [Iv]
  unfold L7
  rw [IW]
  cases h : Kq p m
  ·rw [if_neg (by simp)]; exact h.symm
  ·rw [if_pos rfl]; exact h.symm
 | s :: l, i, m => by
  rw [Iv]
  unfold L7 IW Le Du
  by_cases h1 : (CS p m s).2 ≠ 0 ∨ s.ff = 4
  ·rw [if_pos h1, if_neg (fun h => h1.elim (fun a => a h.1) (fun a => h.2.1 a))]; rfl
  ·rw [if_neg h1]
   have h2 : (CS p m s).2 = 0 := Decidable.byContradiction fun h => h1 (.inl h)
   have h3 : s.ff ≠ 4 := fun h => h1 (.inr h)
   cases hb : GZ p (CS p m s).1 with
   | some y => rw [if_neg (fun h => by have := h.2.2; cases this)]; rfl
   | none =>
    rw [if_pos ⟨h2, h3, rfl⟩]
    exact Ma p total l (i + 1) _
theorem Si (p : Aa) (l : List Ab) : Im p l = (decide (A6 p = 0) && (Du p (Cx p) && L7 p (Cx p) l)) := by
 unfold Im OI Du
 by_cases hv : A6 p = 0
 ·rw [if_neg (fun h => h hv), decide_eq_true hv, Bool.true_and]
  cases hb : GZ p (Cx p) with
  | some y => rfl
  | none => exact Ma p l.length l 0 _
 ·rw [if_pos hv, decide_eq_false hv, Bool.false_and, beq_eq_false_iff_ne]
  rcases G4 p with h | h <;> (simp only; omega)
theorem ON {p : Aa} {m x : Ac} {s : Ab} : Le p m s = some x ↔ FT s = true ∧ GN p s = true ∧ Ga p m s = some x ∧ s.ff ≠ 4 ∧ Du p x = true := by
 unfold Le CS
 cases h1 : FT s
 ·simp
 cases h2 : GN p s
 ·simp
 cases h3 : Ga p m s with
 | none => simp
 | some y =>
  simp only [Bool.true_eq_false, if_false, true_and, Option.some.injEq]
  constructor
  ·intro h
   split at h
   ·rename_i hc; cases h; exact ⟨rfl, hc.1, hc.2⟩
   ·cases h
  ·rintro ⟨rfl, h4, h5⟩
   rw [if_pos ⟨h4, h5⟩]
theorem T3 {p : Aa} {m x : Ac} {s : Ab} (hp : Cd p) (hm : CI p m) (h : Le p m s = some x) : CI p x := by
 obtain ⟨h1, h2, h3, _⟩ := ON.1 h
 exact QQ hp hm h1 h2 h3
theorem Mm (p : Aa) : ∀ (A B : List Ab) (m : Ac), IW p m (A ++ B) = (IW p m A).bind fun x => IW p x B
 | [], B, m => rfl
 | s :: A, B, m => by
  rw [List.cons_append, IW, IW]
  cases Le p m s with
  | none => rfl
  | some x => exact Mm p A B x
theorem RW {p : Aa} (hp : Cd p) : ∀ (l : List Ab) (m x : Ac), CI p m → IW p m l = some x → CI p x
 | [], m, x, hm, h => by cases h; exact hm
 | s :: l, m, x, hm, h => by
  rw [IW] at h
  cases hs : Le p m s with
  | none => rw [hs] at h; cases h
  | some y => rw [hs] at h; exact RW hp l y x (T3 hp hm hs) h
end Go.Lift
namespace Go.Lift
open Option renaming bind_some → oS
open List renaming getElem?_eq_some_iff → lI
open Go
theorem Mt (N : Nat) (l : List Ab) (hN : N ≤ 1000000) (h : l.length < N) : Cw N l l = some true := by
 unfold Cw
 rw [bne_self_eq_false, Ak]
 have := BW (Cq N l l fun _ => some true) l (some true) (fun _ _ => none)
  (fun n i x hx => by
   have hi := (lI.1 hx).1
   rw [Cq, AC (by omega), AR, hx]
   simp only [oS, beq_self_eq_true, Bool.and_true, Bool.not_true, Ak]
   rw [AG (by omega)]; rfl)
  (fun n => by rw [Cq, AB (by simp)]) N 0 (Nat.zero_le _) (by omega)
 refine this.trans ?_
 rw [D4 fun j x hx => rfl]; rfl
end Go.Lift
namespace Go.Lift
namespace Bfs
section
variable {α σ : Type}
def code (rk : σ → Nat) (K : Nat) (w : List σ) : Nat := w.foldl (fun c s => c * K + rk s) 0
def X0 (rk : σ → Nat) (K : Nat) (w : List σ) : Prop := ∀ s, s ∈ w → 1 ≤ rk s ∧ rk s ≤ K
theorem X0.snoc {rk : σ → Nat} {K : Nat} {w : List σ} {s : σ} (h : X0 rk K w) (hs : 1 ≤ rk s ∧ rk s ≤ K) : X0 rk K (w ++ [s]) := by
 intro x hx; rcases List.mem_append.1 hx with h1 | h1
 ·exact h x h1
 ·rw [List.mem_singleton.1 h1]; exact hs
abbrev Nd (α σ : Type) := α × Int × σ
def put [DecidableEq α] (i : Nat) (l : List (Nd α σ)) (q : σ × α) : List (Nd α σ) := if (l.any fun n => decide (n.1 = q.2)) = true then l else l ++ [(q.2, (i : Int), q.1)]
def Tf [DecidableEq α] (most i : Nat) : List (σ × α) → List (Nd α σ) → Option (List (Nd α σ))
 | [], l => some l
 | q :: qs, l => if most < (put i l q).length then none else Tf most i qs (put i l q)
def go [DecidableEq α] (nxt : α → List (σ × α)) (most : Nat) : Nat → Nat → List (Nd α σ) → Option (List (Nd α σ))
 | 0, _, _ => none
 | n + 1, i, l => match l[i]? with
  | none => some l
  | some nd => (Tf most i (nxt nd.1) l).bind fun l' => go nxt most n (i + 1) l'
def run (nxt : α → List (σ × α)) (x : α) : List σ → α → Prop
 | [], y => y = x
 | s :: w, y => ∃ z, (s, z) ∈ nxt x ∧ run nxt z w y
theorem If {nxt : α → List (σ × α)} : ∀ {u w : List σ} {x y : α}, run nxt x (u ++ w) y ↔ ∃ z, run nxt x u z ∧ run nxt z w y
 | [], w, x, y => by simp [run]
 | s :: u, w, x, y => by
  simp only [List.cons_append, run]
  constructor
  ·rintro ⟨z, h1, h2⟩
   obtain ⟨z', h3, h4⟩ := If.1 h2
   exact ⟨z', ⟨z, h1, h3⟩, h4⟩
  ·rintro ⟨z', ⟨z, h1, h3⟩, h4⟩
   exact ⟨z, h1, If.2 ⟨z', h3, h4⟩⟩
end
end Bfs
end Go.Lift
namespace Go.Lift
open Go
theorem QI : ∀ {l : List Int}, S3 l = 0 → ∀ x, x ∈ l → x = 0
 | [], _, x, hx => by cases hx
 | y :: ys, h, x, hx => by
  unfold S3 at h
  split at h
  ·rename_i hy
   rcases List.mem_cons.1 hx with rfl | hx
   ·exact hy
   ·exact QI h x hx
  ·rename_i hy; exact absurd h hy
theorem Oq {a b : Ac} (h : O7 a b = 0) : a = b := by
 have := QI h
 have h1 := MM _ _ (this (FL a.fe b.fe) (by simp))
 have h2 := MM _ _ (this (FL a.fa b.fa) (by simp))
 have h3 := MM _ _ (this (FL a.fc b.fc) (by simp))
 cases a; cases b; simp only at h1 h2 h3; subst h1; subst h2; subst h3; rfl
instance YQ : DecidableEq Ac := fun a b => if h : O7 a b = 0 then isTrue (Oq h) else isFalse (fun e => h (by rw [e]; exact Ov b))
theorem P1 (a b : Ac) : (O7 a b == 0) = decide (a = b) := by
 by_cases h : a = b
 ·rw [decide_eq_true h, h, Ov]; rfl
 ·rw [decide_eq_false h]
  exact beq_eq_false_iff_ne.2 fun e => h (Oq e)
def Me : Ab := ⟨0, 0, 0⟩
end Go.Lift
namespace Go.Lift
open Option renaming bind_some → oS
open List renaming mem_of_getElem? → lM
open List renaming getElem?_eq_some_iff → lI
open Go
def Eg (p : Aa) : Ac → List Ab → Ac × Bool
 | m, [] => (m, true)
 | m, s :: l => if (CS p m s).2 = 0 ∧ Du p (CS p m s).1 = true then Eg p (CS p m s).1 l else (Ez, false)
theorem Pu {p : Aa} (hp : Cd p) : ∀ {l : List Ab} {m : Ac}, CI p m → (Eg p m l).2 = true → CI p (Eg p m l).1
 | [], m, hm, _ => hm
 | s :: l, m, hm, h => by
  unfold Eg at h ⊢
  by_cases hc : (CS p m s).2 = 0 ∧ Du p (CS p m s).1 = true
  ·rw [if_pos hc] at h ⊢
   exact Pu hp (H4 hp hm hc.1) h
  ·rw [if_neg hc] at h; cases h
section
variable {N : Nat} {p : Aa} {l : List Ab}
theorem Oj (hN : N ≤ 1000000) (h20 : 100 ≤ N) (hv : A6 p = 0) (hl : l.length ≤ 1000) : ∀ (n i : Nat) (m : Ac), i ≤ l.length → l.length - i < n → CI p m →
  DB N p l (fun v2 => some (v2, true)) n (m.fe, m.fa, m.fc, (i : Int)) = some (Eg p m (l.drop i))
 | 0, i, m, _, h, _ => by omega
 | n + 1, i, m, hi, h, hm => by
  obtain ⟨hp, _⟩ := DZ hv
  have hval := EF hv hm
  rw [DB]
  by_cases hlt : i < l.length
  ·have hx : l[i]? = some l[i] := by simp [hlt]
   rw [AC (by simp only; omega), Cu hx, Eg]
   simp only [AY, AR, hx, oS, AG (show i < 1000000 by omega)]
   rw [Kr N hN h20 (HK hm), if_pos hval]
   simp only [oS]
   by_cases h1 : (CS p m l[i]).2 = 0
   ·have hm' := H4 hp hm h1
    rw [h1, bne_self_eq_false, Ak, IT N p _ hN h20 (HK hm') (EF hv hm')]
    simp only [oS, bne_self_eq_false, Ak]
    cases hr : Du p (CS p m l[i]).1
    ·rw [if_neg (by simp)]; rfl
    ·rw [if_pos ⟨by simp, by simp⟩, Bool.not_true, Ak]
     exact Oj hN h20 hv hl n (i + 1) _ (by omega) (by omega) hm'
   ·rw [bne_iff_ne.2 h1, AA, if_neg (fun q => h1 q.1)]; rfl
  ·rw [AB (by simp only; omega), List.drop_eq_nil_of_le (by omega)]; rfl
theorem MG (hN : N ≤ 1000000) (h20 : 100 ≤ N) (hv : A6 p = 0) (hl : l.length ≤ 1000) (hln : l.length < N) {m : Ac} (hm : CI p m) : Cv N p m l = some (Eg p m l) := by
 unfold Cv
 have := Oj hN h20 hv hl N 0 m (Nat.zero_le _) (by omega) hm
 rwa [List.drop_zero] at this
theorem QA (hN : N ≤ 1000000) (h20 : 100 ≤ N) (hv : A6 p = 0) (hl : l.length ≤ 1000) : ∀ (n i : Nat) (m : Ac), i ≤ l.length → l.length - i < n → CI p m →
  Cj N p l (fun v2 => some (v2, true)) n (m.fe, m.fa, m.fc, (i : Int)) = some (Eg p m (l.drop i))
 | 0, i, m, _, h, _ => by omega
 | n + 1, i, m, hi, h, hm => by
  obtain ⟨hp, _⟩ := DZ hv
  have hval := EF hv hm
  rw [Cj]
  by_cases hlt : i < l.length
  ·have hx : l[i]? = some l[i] := by simp [hlt]
   rw [AC (by simp only; omega), Cu hx, Eg]
   simp only [AY, AR, hx, oS, AG (show i < 1000000 by omega)]
   rw [K6 N hN h20 (HK hm), if_pos hval]
   simp only [oS]
   by_cases h1 : (CS p m l[i]).2 = 0
   ·have hm' := H4 hp hm h1
    rw [h1, bne_self_eq_false, Ak, Ko N p _ hN h20 hp hm']
    simp only [oS]
    cases hr : Du p (CS p m l[i]).1
    ·rw [if_neg (by simp)]; rfl
    ·rw [if_pos ⟨by simp, by simp⟩, Bool.not_true, Ak]
     exact QA hN h20 hv hl n (i + 1) _ (by omega) (by omega) hm'
   ·rw [bne_iff_ne.2 h1, AA, AA, if_neg (fun q => h1 q.1)]; rfl
  ·rw [AB (by simp only; omega), List.drop_eq_nil_of_le (by omega)]; rfl
theorem Q1 (hN : N ≤ 1000000) (h20 : 100 ≤ N) (hv : A6 p = 0) (hl : l.length ≤ 1000) (hln : l.length < N) {m : Ac} (hm : CI p m) : BY N p m l = some (Eg p m l) := by
 unfold BY
 have := QA hN h20 hv hl N 0 m (Nat.zero_le _) (by omega) hm
 rwa [List.drop_zero] at this
end
def PG (a b : Ab) : Bool := (a.ff == b.ff) && ((a.fh == b.fh) && ((a.fj == b.fj) && true))
theorem ML (a b : Ab) : PG a b = true ↔ a = b := by
 cases a; cases b
 simp [PG]
def OO (l : List Ab) (i : Nat) (s : Ab) : Bool := !FT s || s.ff == 4 || (l.take i).any fun x => PG s x
def HR (l : List Ab) (i : Nat) (s : Ab) : Option Int := if OO l i s = true then some 1 else none
def Is (l : List Ab) : Int := if l.length < 1 ∨ 5 < l.length then 6 else (CP (HR l) 0 l).getD 0
theorem Sk {N : Nat} {k : Int} {w : ByteArray} (h : EM N k = some w) : w.size ≤ 6 := by
 unfold EM at h
 obtain ⟨v, h1, h2⟩ := bind_some h
 cases h2
 unfold Bv at h1
 split at h1
 ·generalize k.toNat = i at h1
  match i, h1 with
  | 0, h1 => cases h1; decide
  | 1, h1 => cases h1; decide
  | 2, h1 => cases h1; decide
  | 3, h1 => cases h1; decide
  | 4, h1 => cases h1; decide
  | i + 5, h1 => simp at h1
 ·cases h1
def Lv (s : Ab) : Prop := (-9223372036854775808 ≤ s.fh ∧ s.fh ≤ 9223372036854775807) ∧ (-9223372036854775808 ≤ s.fj ∧ s.fj ≤ 9223372036854775807)
theorem Oh {n : Int} (h0 : -9223372036854775808 ≤ n) (h1 : n ≤ 9223372036854775807) : ∃ r : ByteArray, QM n = some r ∧ r.size ≤ 21 := by
 unfold QM
 rw [if_pos ⟨h0, h1⟩]
 exact ⟨_, rfl, by show (Lib.itoa n).toArray.size ≤ 21; simpa using Lib.itoa_length_le n h0 h1⟩
theorem K9 (a b : ByteArray) : (a ++ b).size = a.size + b.size := by simp
theorem Sl {N : Nat} {k : Int} (h1 : 1 ≤ k) (h4 : k ≤ 4) : ∃ w, EM N k = some w ∧ w.size ≤ 6 := by
 have : ∃ w, EM N k = some w := by
  unfold EM Bv
  rw [if_pos (by omega)]
  obtain ⟨q, hq⟩ : ∃ q : Nat, k = (q : Int) := ⟨k.toNat, by omega⟩
  subst hq
  rw [Int.toNat_natCast]
  match q, h1, h4 with
  | 1, _, _ => exact ⟨_, rfl⟩
  | 2, _, _ => exact ⟨_, rfl⟩
  | 3, _, _ => exact ⟨_, rfl⟩
  | 4, _, _ => exact ⟨_, rfl⟩
 obtain ⟨w, hw⟩ := this
 exact ⟨w, hw, Sk hw⟩
theorem Sr (N : Nat) {s : Ab} (hw : Lv s) : ∃ t, FQ N s = some (t, if FT s = true then 0 else 1) := by
 unfold FQ
 rw [Ky]
 simp only [oS, AY]
 cases hv : FT s
 ·exact ⟨_, rfl⟩
 ·obtain ⟨k1, k4, _⟩ := I1 hv
  obtain ⟨w, e1, l1⟩ := Sl (N := N) k1 k4
  obtain ⟨a, e2, l2⟩ := Oh hw.1.1 hw.1.2
  obtain ⟨b, e3, l3⟩ := Oh hw.2.1 hw.2.2
  have z1 : (⟨#[32]⟩ : ByteArray).size = 1 := rfl
  unfold Gy
  rw [Bool.not_true, Ak, e1]
  simp only [oS]
  rw [Ap (by rw [z1]; omega), e2]
  simp only [oS]
  rw [Ap (by rw [K9, z1]; omega), e3]
  simp only [oS]
  cases s.ff == 1
  ·rw [Ak]; exact ⟨_, rfl⟩
  ·rw [AA, Ap (by rw [z1]; omega), Ap (by rw [K9, K9, K9, z1]; omega)]; exact ⟨_, rfl⟩
theorem ME {N : Nat} (l : List Ab) (s : Ab) (hl : l.length ≤ 1000) (hln : l.length < N) : BO N l s = some ((CP (fun i x => if PG s x = true then some (i : Int) else none) 0 l).getD (-1)) := by
 unfold BO
 have := BW (A1 N l s (fun _ => some (-1))) l (some (-1)) (fun i x => if PG s x = true then some (i : Int) else none)
  (fun n i x hx => by
   have hi := (lI.1 hx).1
   rw [A1, AC (by omega)]
   simp only [AR, hx, oS, AG (show i < 1000000 by omega)]
   show AK (PG s x) _ _ = _
   cases PG s x <;> rfl)
  (fun n => by rw [A1, AB (by omega)]) N 0 (Nat.zero_le _) (by omega)
 rw [List.drop_zero] at this
 refine this.trans ?_
 cases CP (fun i x => if PG s x = true then some (i : Int) else none) 0 l <;> rfl
theorem R5 {l : List Ab} {s : Ab} : ∀ (i : Nat), decide (0 ≤ (CP (fun i x => if PG s x = true then some (i : Int) else none) i l).getD (-1)) = l.any fun x => PG s x := by
 induction l with
 | nil => intro i; rfl
 | cons x l ih =>
  intro i
  rw [GK, List.any_cons]
  cases h : PG s x
  ·simp only [Bool.false_or]; exact ih (i + 1)
  ·simp only [Bool.true_or, if_true]; exact decide_eq_true (by simp only [Option.getD_some]; omega)
theorem NW {N : Nat} (l : List Ab) (s : Ab) (hl : l.length ≤ 1000) (hln : l.length < N) : Bw N l s = some (l.any fun x => PG s x) := by
 unfold Bw
 rw [ME l s hl hln]
 simp only [oS]
 rw [R5]
theorem US {N : Nat} (l : List Ab) (hln : 10 < N) (hw : ∀ s, s ∈ l → Lv s) : Gk N l = some (Is l) := by
 unfold Gk Is
 simp only [AY]
 by_cases h1 : (l.length : Int) < 1
 ·rw [AC h1, AA, if_pos (.inl (by omega))]
 rw [AB h1]
 by_cases h5 : (5 : Int) < (l.length : Int)
 ·rw [decide_eq_true h5, AA, if_pos (.inr (by omega))]
 rw [decide_eq_false h5, Ak, if_neg (by omega)]
 have := BW (DX N l (fun _ => some 0)) l (some 0) (HR l)
  (fun n i x hx => by
   have hi := (lI.1 hx).1
   obtain ⟨t, ht⟩ := Sr N (hw x (lM hx))
   rw [DX, AC (by omega)]
   simp only [AY, AR, hx, oS, AG (show i < 1000000 by omega), ht, Int.toNat_natCast, List.drop_zero, Nat.sub_zero]
   unfold HR OO
   cases FT x
   ·rw [if_neg (by simp)]; rfl
   ·rw [if_pos rfl, bne_self_eq_false, Ak]
    cases x.ff == 4
    ·rw [Ak, Ap ⟨by omega, by omega, by omega⟩, NW _ x (by simp; omega) (by simp; omega)]
     simp only [oS, Bool.not_true, Bool.false_or]
     cases (l.take i).any fun y => PG x y <;> rfl
    ·rfl)
  (fun n => by rw [DX, AB (by omega)]) N 0 (Nat.zero_le _) (by omega)
 rw [List.drop_zero] at this
 refine this.trans ?_
 cases CP (HR l) 0 l <;> rfl
theorem L9 (N : Nat) (l : List Ab) (v4 : Nat) (x : Ab) (hx : l[v4]? = some x) (hl : l.length ≤ 5) (j : Option Int) : ∀ (n i : Nat), i ≤ v4 → v4 - i < n →
  CH N l (v4 : Int) (fun _ => j) n (i : Int) = if ((l.take v4).drop i).any (fun y => PG x y) = true then some 1 else j
 | 0, i, _, h => by omega
 | n + 1, i, hi, h => by
  have h4 := (lI.1 hx).1
  rw [CH]
  by_cases hlt : i < v4
  ·have hy : l[i]? = some (l[i]'(by omega)) := by simp [show i < l.length by omega]
   have hy' : (l.take v4)[i]? = some (l[i]'(by omega)) := by rw [List.getElem?_take_of_lt hlt]; exact hy
   rw [AC (by omega), Cu hy']
   simp only [AR, hx, hy, oS, AG (show i < 1000000 by omega)]
   show AK (PG (l[i]'(by omega)) x) _ _ = _
   have e : PG (l[i]'(by omega)) x = PG x (l[i]'(by omega)) := by
    rw [Bool.eq_iff_iff, ML, ML]; exact ⟨Eq.symm, Eq.symm⟩
   rw [List.any_cons]
   rcases Bool.eq_false_or_eq_true (PG x (l[i]'(by omega))) with he | he
   ·rw [e, he, AA, Bool.true_or, if_pos rfl]
   ·rw [e, he, Ak, Bool.false_or]; exact L9 N l v4 x hx hl j n (i + 1) (by omega) (by omega)
  ·rw [AB (by omega), List.drop_eq_nil_of_le (by simp; omega)]; rfl
theorem PN {N : Nat} (l : List Ab) (hln : 10 < N) : Es N l = some (Is l) := by
 unfold Es Is
 simp only [AY]
 by_cases h1 : (l.length : Int) < 1
 ·rw [AC h1, AA, if_pos (.inl (by omega))]
 rw [AB h1]
 by_cases h5 : (5 : Int) < (l.length : Int)
 ·rw [decide_eq_true h5, AA, if_pos (.inr (by omega))]
 rw [decide_eq_false h5, Ak, if_neg (by omega)]
 have := BW (B2 N l (fun _ => some 0)) l (some 0) (HR l)
  (fun n i x hx => by
   have hi := (lI.1 hx).1
   rw [B2, AC (by omega)]
   simp only [AY, AR, hx, oS, AG (show i < 1000000 by omega), Ls]
   unfold HR OO
   cases FT x
   ·cases x.ff == 4 <;> rfl
   ·cases x.ff == 4
    ·rw [Bool.not_true, Ak, Ak]
     have e := L9 N l i x hx (by omega) (B2 N l (fun _ => some 0) n ((i + 1 : Nat) : Int)) N 0 (Nat.zero_le _) (by omega)
     rw [List.drop_zero] at e
     refine Eq.trans e ?_
     simp only [Bool.false_or]
     split <;> rfl
    ·rfl)
  (fun n => by rw [B2, AB (by omega)]) N 0 (Nat.zero_le _) (by omega)
 rw [List.drop_zero] at this
 refine this.trans ?_
 cases CP (HR l) 0 l <;> rfl
end Go.Lift
namespace Go.Lift
open Option renaming bind_some → oS
open Go
section
variable {α β : Type}
def HL : List α → List (α × List α)
 | [] => []
 | x :: xs => (x, xs) :: (HL xs).map fun q => (q.1, x :: q.2)
def E8 : Nat → List α → List (List α)
 | 0, _ => [[]]
 | k + 1, l => (HL l).flatMap fun q => (E8 k q.2).map (q.1 :: ·)
def Kp (l : List α) : List (List α) := E8 l.length l
theorem OB : ∀ l : List α, (HL l).length = l.length
 | [] => rfl
 | x :: xs => by simp [HL, OB xs]
theorem QG : ∀ {l : List α} {i : Nat} {x : α}, l[i]? = some x → (HL l)[i]? = some (x, l.eraseIdx i)
 | y :: ys, 0, x, h => by simp at h; subst h; rfl
 | y :: ys, i + 1, x, h => by
  rw [HL, List.getElem?_cons_succ, List.getElem?_map, QG (by simpa using h)]; rfl
theorem OD (f : α → β) : ∀ l : List α, HL (l.map f) = (HL l).map fun q => (f q.1, q.2.map f)
 | [] => rfl
 | x :: xs => by simp [HL, OD f xs]
theorem Nt (f : α → β) : ∀ (k : Nat) (l : List α), E8 k (l.map f) = (E8 k l).map (List.map f)
 | 0, _ => rfl
 | k + 1, l => by
  simp only [E8, OD, List.flatMap_map, List.map_flatMap]
  congr 1
  funext q
  rw [Nt f k]
  simp [Function.comp_def]
theorem KE : ∀ {l : List α} {q : α × List α}, q ∈ HL l → (q.1 :: q.2).Perm l
 | x :: xs, q, h => by
  rw [HL] at h
  rcases List.mem_cons.1 h with e | e
  ·subst e; exact List.Perm.refl _
  ·obtain ⟨r, hr, rfl⟩ := List.mem_map.1 e
   exact (List.Perm.swap x r.1 r.2).trans ((KE hr).cons x)
theorem OP : ∀ {l : List α} {x : α}, x ∈ l → ∃ q, q ∈ HL l ∧ q.1 = x
 | y :: ys, x, h => by
  rcases List.mem_cons.1 h with e | e
  ·exact ⟨(y, ys), by simp [HL], e.symm⟩
  ·obtain ⟨q, h1, h2⟩ := OP e
   exact ⟨(q.1, y :: q.2), by simp only [HL, List.mem_cons, List.mem_map]; exact .inr ⟨q, h1, rfl⟩, h2⟩
theorem Jr : ∀ {k : Nat} {l x : List α}, l.length = k → (x ∈ E8 k l ↔ x.Perm l)
 | 0, l, x, h => by
  have := List.eq_nil_of_length_eq_zero h
  subst this
  simp [E8]
 | k + 1, l, x, h => by
  simp only [E8, List.mem_flatMap, List.mem_map]
  constructor
  ·rintro ⟨q, hq, z, hz, rfl⟩
   have hp := KE hq
   have hl : q.2.length = k := by have := hp.length_eq; simp at this; omega
   exact (((Jr hl).1 hz).cons q.1).trans hp
  ·intro hx
   cases x with
   | nil => have := hx.length_eq; simp at this; omega
   | cons y z =>
    obtain ⟨q, hq, rfl⟩ := OP (hx.mem_iff.1 (List.mem_cons_self : y ∈ y :: z))
    have hp := KE hq
    have hl : q.2.length = k := by have := hp.length_eq; simp at this; omega
    exact ⟨q, hq, z, (Jr hl).2 ((List.perm_cons q.1).1 (hx.trans hp.symm)), rfl⟩
theorem LT {l x : List α} : x ∈ Kp l ↔ x.Perm l := Jr rfl
theorem Mj : ∀ {k : Nat} {l : List α}, l.length = k → ∃ r, E8 k l = l :: r
 | 0, l, h => by
  have := List.eq_nil_of_length_eq_zero h
  subst this
  exact ⟨[], rfl⟩
 | k + 1, [], h => by simp at h
 | k + 1, x :: xs, h => by
  obtain ⟨r, hr⟩ := Mj (k := k) (l := xs) (by simpa using h)
  simp only [E8, HL, List.flatMap_cons, hr, List.map_cons, List.cons_append]
  exact ⟨_, rfl⟩
end
def Ji (p : Aa) (m e : Ac) (x : List Ab) : Bool := !((Eg p m x).2 && decide ((Eg p m x).1 = e))
def Qo (p : Aa) (m : Ac) (l : List Ab) : List Ab × Int :=
 if DY p m ≠ 0 then ([], DY p m) else if Is l ≠ 0 then ([], Is l) else
 if (Du p m && (Eg p m l).2) = true then (match (Kp l).find? (Ji p m (Eg p m l).1) with | some x => (x, 0) | none => ([], 15)) else (l, 0)
def ID (p : Aa) (m : Ac) (l : List Ab) : Bool × Int :=
 if DY p m ≠ 0 then (false, DY p m) else ((Qo p m l).2 == 15, 0)
theorem QY {N : Nat} (hN : N ≤ 1000000) (h20 : 100 ≤ N) {p : Aa} {a b : Ac} (hp : Cd p) (ha : CI p a) : E3 N a b = some (O7 a b) := by
 have := hp.nv
 have := hp.nt
 have h1 : a.fe.length < N := by rw [ha.base]; omega
 have h2 : a.fa.length < N := by rw [ha.next]; omega
 have h3 : a.fc.length < N := by rw [ha.held]; omega
 unfold E3
 rw [MY h1 hN, MY h2 hN, P3 h3 hN]
 simp only [oS]
 rw [Wr (by simp; omega) hN]
 rfl
theorem TY {a b : Ac} : (O7 a b != 0) = !decide (a = b) := by rw [← P1]; rfl
section
variable {N : Nat} {p : Aa} {m e : Ac}
theorem Us (hN : N ≤ 1000000) (h20 : 100 ≤ N) (hv : A6 p = 0) (hm : CI p m) {x : List Ab} (hl : x.length ≤ 90) (o : Option (List Ab)) :
  FN N x p.fb p.fi p.fo p.fd m.fe m.fa m.fc e.fe e.fa e.fc o = some (if Ji p m e x = true then (false, some x) else (true, o)) := by
 obtain ⟨hp, _⟩ := DZ hv
 unfold FN
 show (Cv N p m x).bind _ = _
 rw [MG hN h20 hv (by omega) (by omega) hm]
 simp only [oS, AY]
 unfold Ji
 cases h : (Eg p m x).2
 ·rfl
 ·rw [Bool.not_true, Ak]
  show (E3 N (Eg p m x).1 e).bind _ = _
  rw [QY hN h20 hp (Pu hp hm h)]
  simp only [oS, TY, Bool.true_and]
  cases decide ((Eg p m x).1 = e) <;> rfl
abbrev Py (taken : List Ab) (o : Option (List Ab)) : Option (List Ab) → Bool × Option (List Ab)
 | some x => (false, some (taken ++ x))
 | none => (true, o)
theorem Oy (hN : N ≤ 1000000) (h20 : 100 ≤ N) (hv : A6 p = 0) (hm : CI p m) : ∀ (k : Nat) (rest taken : List Ab) (o : Option (List Ab)), rest.length < k → taken.length + rest.length ≤ 80 →
  CV N k taken rest p.fb p.fi p.fo p.fd m.fe m.fa m.fc e.fe e.fa e.fc o = some (Py taken o ((Kp rest).find? fun x => Ji p m e (taken ++ x)))
 | 0, _, _, _, h, _ => by omega
 | k + 1, rest, taken, o, hk, hl => by
  rw [CV, E2]
  cases hr : rest with
  | nil =>
   rw [show ((([] : List Ab).length : Int) == 0) = true from rfl, AA, Us hN h20 hv hm (by omega)]
   simp only [Kp, E8, List.length_nil, List.find?_cons, List.append_nil, List.find?_nil, oS]
   cases Ji p m e taken <;> simp [Py]
  | cons y ys =>
   rw [← hr]
   have hlen : rest.length = ys.length + 1 := by rw [hr]; rfl
   rw [beq_eq_false_iff_ne.2 (show (rest.length : Int) ≠ 0 by omega), Ak]
   have key : ∀ (n i : Nat), i ≤ rest.length → rest.length - i < n →
     De N taken rest p.fb p.fi p.fo p.fd m.fe m.fa m.fc e.fe e.fa e.fc (CV N k) (fun v4 => some (true, v4)) n (o, (i : Int)) =
      some (Py taken o (((HL rest).drop i).findSome? fun q => ((E8 ys.length q.2).find? fun x => Ji p m e (taken ++ q.1 :: x)).map (q.1 :: ·))) := by
    intro n
    induction n with
    | zero => intro i _ h; omega
    | succ n ih =>
     intro i hi hn
     rw [De]
     by_cases hlt : i < rest.length
     ·have hx : rest[i]? = some rest[i] := by simp [hlt]
      obtain ⟨X, d1, d2, _⟩ := Sq N rest i hlt (by omega)
      have d3 : rest.length - 1 ≤ X.length := by omega
      have hle : (rest.eraseIdx i).length = ys.length := by rw [Ss hlt]; omega
      rw [AC (by simp only; omega), Cu (QG hx), List.findSome?_cons]
      simp only [AR, hx, oS, AG (show i < 1000000 by omega)]
      rw [Ik N taken (by unfold Dl; omega), oS, Ap (by simp [Dl]; omega), Ik N rest (by unfold Dl; omega), oS, d1, oS]
      simp only
      rw [Ap d3, d2, Oy hN h20 hv hm k _ _ o (by omega) (by simp; omega)]
      have e1 : (fun x => Ji p m e (taken ++ [rest[i]] ++ x)) = fun x => Ji p m e (taken ++ rest[i] :: x) := by
       funext x; rw [List.append_assoc]; rfl
      unfold Kp
      rw [hle, e1]
      simp only [oS]
      cases (E8 ys.length (rest.eraseIdx i)).find? fun x => Ji p m e (taken ++ rest[i] :: x) with
      | some z => simp [Py]
      | none => exact ih (i + 1) (by omega) (by omega)
     ·rw [AB (by simp only; omega), List.drop_eq_nil_of_le (by rw [OB]; omega)]; rfl
   have := key N 0 (Nat.zero_le _) (by omega)
   rw [List.drop_zero] at this
   refine this.trans ?_
   congr 2
   unfold Kp
   rw [hlen, E8, List.find?_flatMap]
   congr 1
   funext q
   rw [List.find?_map]
   rfl
end
end Go.Lift
namespace Go.Lift
open Option renaming bind_some → oS
open List renaming mem_of_getElem? → lM
open List renaming getD_eq_getElem?_getD → lD
open Go
theorem R8 {N : Nat} {a b : Ac} (hN : N ≤ 1000000) (h20 : 100 ≤ N) (ha : a.fe.length ≤ 90 ∧ a.fa.length ≤ 90 ∧ a.fc.length ≤ 90 ∧ Kh Jw a.fc) (hb : b.fc.length ≤ 90 ∧ Kh Jw b.fc) : Ee N a b = some (decide (a = b)) := by
 unfold Ee
 rw [Qf hN (by omega) (by omega) (by omega) (by omega) ha.2.2.2 hb.2]
 simp only [oS, P1]
theorem VL {p : Aa} {a : Ac} (hp : Cd p) (ha : CI p a) : a.fe.length ≤ 90 ∧ a.fa.length ≤ 90 ∧ a.fc.length ≤ 90 ∧ Kh Jw a.fc := by
 have := hp.nv
 have := hp.nt
 exact ⟨by rw [ha.base]; omega, by rw [ha.next]; omega, by rw [ha.held]; omega, HK ha⟩
theorem O4 {p : Aa} {m : Ac} (hp : Cd p) (hm : CI p m) (l : List Ab) : (Eg p m l).1.fe.length ≤ 90 ∧ (Eg p m l).1.fa.length ≤ 90 ∧ (Eg p m l).1.fc.length ≤ 90 ∧ Kh Jw (Eg p m l).1.fc := by
 have : (Eg p m l).2 = true ∨ (Eg p m l).1 = Ez := by
  induction l generalizing m with
  | nil => exact .inl rfl
  | cons s l ih =>
   unfold Eg
   by_cases hc : (CS p m s).2 = 0 ∧ Du p (CS p m s).1 = true
   ·rw [if_pos hc]; exact ih (H4 hp hm hc.1)
   ·rw [if_neg hc]; exact .inr rfl
 rcases this with h | h
 ·exact VL hp (Pu hp hm h)
 ·rw [h]; exact ⟨by simp [Ez], by simp [Ez], by simp [Ez], fun x hx => by simp [Ez] at hx⟩
theorem SB : ∀ n : Nat, 1 ≤ n → n ≤ 5 → DU 1000 (n : Int) = some ((E8 n (List.range n)).map (List.map fun i : Nat => (i : Int)))
 | 1, _, _ => by kernel_rfl
 | 2, _, _ => by kernel_rfl
 | 3, _, _ => by kernel_rfl
 | 4, _, _ => by kernel_rfl
 | 5, _, _ => by kernel_rfl
 | 0, h, _ => by omega
 | n + 6, _, h => by omega
theorem Q4 {N : Nat} (l : List Ab) (o : List Nat) (hl : l.length ≤ 90) (ho : o.length ≤ 90) (hN : 100 ≤ N) (hi : ∀ i, i ∈ o → i < l.length) : Dz N l (o.map fun i : Nat => (i : Int)) = some (o.map fun i => l.getD i Me) := by
 unfold Dz
 have key : ∀ (n i : Nat) (a : List Ab), i ≤ o.length → o.length - i < n → a.length ≤ i → Cl N l (o.map fun i : Nat => (i : Int)) (fun v2 => some v2) n (a, (i : Int)) = some (a ++ (o.drop i).map fun i => l.getD i Me) := by
  intro n
  induction n with
  | zero => intro i a _ h; omega
  | succ n ih =>
   intro i a h1 h2 h3
   rw [Cl]
   by_cases hlt : i < o.length
   ·have hx : o[i]? = some o[i] := by simp [hlt]
    have hy : l[o[i]]? = some (l.getD o[i] Me) := by
     have := hi o[i] (List.getElem_mem hlt)
     rw [lD, List.getElem?_eq_getElem this]; rfl
    rw [AC (by simp only [List.length_map]; omega), Cu hx]
    simp only [AR, List.getElem?_map, hx, Option.map_some, oS, hy, AG (show i < 1000000 by omega)]
    rw [Ap (by simp [Dl]; omega), ih (i + 1) _ (by omega) (by omega) (by simp; omega), List.map_cons, List.append_assoc]
    rfl
   ·rw [AB (by simp only [List.length_map]; omega), List.drop_eq_nil_of_le (by omega)]; simp
 have := key N 0 [] (Nat.zero_le _) (by omega) (Nat.zero_le _)
 rw [List.drop_zero, List.nil_append] at this
 exact this
theorem Ri (l : List Ab) : (List.range l.length).map (fun i => l.getD i Me) = l := by
 apply List.ext_getElem
 ·simp
 ·intro i h1 h2
  simp [lD, h2]
theorem Qk {l : List Ab} (h : Is l = 0) : 1 ≤ l.length ∧ l.length ≤ 5 := by
 unfold Is at h
 split at h
 ·cases h
 ·omega
theorem Sg : ∀ n : Nat, n ≤ 5 → (E8 n (List.range n)).length ≤ 120
 | 0, _ => by decide
 | 1, _ => by decide
 | 2, _ => by decide
 | 3, _ => by decide
 | 4, _ => by decide +kernel
 | 5, _ => by decide +kernel
 | n + 6, h => by omega
section
variable {p : Aa} {m : Ac} {l : List Ab}
theorem PF (hv : A6 p = 0) (hm : CI p m) (hw : ∀ s, s ∈ l → Lv s) (hl : l.length ≤ 30) : F2 1000 p m l = some (Qo p m l) := by
 have hval := EF hv hm
 unfold F2 Qo
 rw [IT 1000 p m (by omega) (by omega) (HK hm) hval, if_neg (fun q => q hval)]
 simp only [oS, bne_self_eq_false, Ak, AY]
 rw [US l (by omega) hw]
 simp only [oS]
 by_cases hf : Is l = 0
 ·rw [hf, bne_self_eq_false, Ak, MG (by omega) (by omega) hv (by omega) (by omega) hm, if_neg (fun q => q rfl)]
  simp only [oS]
  have hlen := Qk hf
  cases Du p m
  ·rw [Bool.not_false, AA, AA, Ik 1000 l (by unfold Dl; omega)]; rfl
  ·rw [Bool.not_true, Ak]
   cases ho : (Eg p m l).2
   ·rw [Bool.not_false, AA, Ik 1000 l (by unfold Dl; omega)]; rfl
   ·rw [Bool.not_true, Ak]
    simp only [Bool.and_self, if_true]
    have hs := Oy (N := 1000) (e := (Eg p m l).1) (by omega) (by omega) hv hm 1000 l [] none (by omega) (by simp; omega)
    rw [show (fun x => Ji p m (Eg p m l).1 ([] ++ x)) = Ji p m (Eg p m l).1 from rfl] at hs
    unfold GW
    rw [hs]
    simp only [oS]
    cases hq : (Kp l).find? (Ji p m (Eg p m l).1) with
    | none => rfl
    | some x =>
     have hx := (LT.1 (List.mem_of_find?_eq_some hq)).length_eq
     cases x with
     | nil => simp at hx; omega
     | cons y ys => rfl
 ·rw [bne_iff_ne.2 hf, AA, if_pos hf]
theorem P6 {N : Nat} (hN : N ≤ 1000000) (h20 : 100 ≤ N) (hv : A6 p = 0) (hm : CI p m) (hl : l.length ≤ 30) {qs : List (List Nat)} (hall : ∀ q, q ∈ qs → q.length = l.length ∧ ∀ i, i ∈ q → i < l.length) (hcnt : qs.length ≤ 120) : ∀ (n i : Nat), i ≤ qs.length → qs.length - i < n →
  CO N p m l (qs.map (List.map fun i : Nat => (i : Int))) (Eg p m l) (fun _ => some ([], 15)) n (i : Int) = some (match ((qs.drop i).map fun q => q.map fun i => l.getD i Me).find? (Ji p m (Eg p m l).1) with | some x => (x, 0) | none => ([], 15))
 | 0, i, _, h => by omega
 | n + 1, i, hi, h => by
  obtain ⟨hp, _⟩ := DZ hv
  rw [CO]
  by_cases hlt : i < qs.length
  ·have hq : qs[i]? = some qs[i] := by simp [hlt]
   obtain ⟨h1, h2⟩ := hall _ (lM hq)
   rw [AC (by simp only [List.length_map]; omega), Cu hq, List.map_cons, List.find?_cons]
   simp only [AR, List.getElem?_map, hq, Option.map_some, oS]
   rw [Q4 l qs[i] (by omega) (by omega) (by omega) h2]
   simp only [oS]
   generalize hx : (qs[i].map fun i => l.getD i Me) = x
   have hxl : x.length ≤ 30 := by rw [← hx, List.length_map]; omega
   rw [Q1 hN h20 hv (by omega) (by omega) hm]
   simp only [oS, AY, AG (show i < 1000000 by omega)]
   have ih := P6 hN h20 hv hm hl hall hcnt n (i + 1) (by omega) (by omega)
   unfold Ji at ih ⊢
   cases ho : (Eg p m x).2
   ·rfl
   ·rw [Bool.not_true, Ak, R8 hN h20 (O4 hp hm _) ⟨(O4 hp hm _).2.2.1, (O4 hp hm _).2.2.2⟩]
    simp only [oS, Bool.true_and]
    cases decide ((Eg p m x).1 = (Eg p m l).1)
    ·rfl
    ·exact ih
  ·rw [AB (by simp only [List.length_map]; omega), List.drop_eq_nil_of_le (by omega)]; rfl
theorem QC {N : Nat} (hN : N ≤ 1000000) (h20 : 200 ≤ N) (hord : 1 ≤ l.length → l.length ≤ 5 → DU N (l.length : Int) = some ((E8 l.length (List.range l.length)).map (List.map fun i : Nat => (i : Int)))) (hv : A6 p = 0) (hm : CI p m) (hl : l.length ≤ 30) : D0 N p m l = some (Qo p m l) := by
 have hval := EF hv hm
 obtain ⟨hp, _⟩ := DZ hv
 unfold D0 Qo
 rw [GY N p m hN (by omega), if_neg (fun q => q hval), hval]
 simp only [oS, bne_self_eq_false, Ak]
 rw [PN l (by omega)]
 simp only [oS]
 by_cases hf : Is l = 0
 ·have hlen := Qk hf
  rw [hf, bne_self_eq_false, Ak, Ko N p m hN (by omega) hp hm, if_neg (fun q => q rfl)]
  simp only [oS]
  cases Du p m
  ·rw [Bool.not_false, AA, Ap (by simp [Dl]; omega)]; rfl
  ·rw [Bool.not_true, Ak, hord hlen.1 hlen.2]
   simp only [oS]
   rw [Q1 hN (by omega) hv (by omega) (by omega) hm]
   simp only [oS]
   have hall : ∀ q, q ∈ E8 l.length (List.range l.length) → q.length = l.length ∧ ∀ i, i ∈ q → i < l.length := fun q hq => by
    have hp := (Jr (by simp)).1 hq
    exact ⟨by have := hp.length_eq; simpa using this, fun i hi => by simpa using hp.mem_iff.1 hi⟩
   have hperm : Kp l = (E8 l.length (List.range l.length)).map fun q => q.map fun i => l.getD i Me := by
    have e := Nt (fun i => l.getD i Me) l.length (List.range l.length)
    rw [Ri] at e
    exact e
   have hcnt := Sg l.length hlen.2
   generalize E8 l.length (List.range l.length) = qs at hall hperm hcnt
   have e := P6 hN (by omega) hv hm (by omega) hall hcnt N 0 (Nat.zero_le _) (by omega)
   rw [List.drop_zero, ← hperm] at e
   refine e.trans ?_
   cases ho : (Eg p m l).2
   ·obtain ⟨r, hr⟩ := Mj (l := l) rfl
    have hb : Ji p m (Eg p m l).1 l = true := by unfold Ji; rw [ho]; rfl
    unfold Kp
    rw [hr, List.find?_cons, hb]; rfl
   ·rfl
 ·rw [bne_iff_ne.2 hf, AA, if_pos hf]
theorem Rd (hv : A6 p = 0) (hm : CI p m) (hl : l.length ≤ 30) : D0 1000 p m l = some (Qo p m l) := QC (by omega) (by omega) (SB l.length) hv hm hl
theorem Ks (hv : A6 p = 0) (hm : CI p m) (hw : ∀ s, s ∈ l → Lv s) (hl : l.length ≤ 30) : Ex 1000 p m l = some (ID p m l) := by
 have hval := EF hv hm
 unfold Ex ID
 rw [HX 1000 p m (by omega) (by omega) (HK hm), hval, if_neg (fun q => q rfl)]
 simp only [oS, bne_self_eq_false, Ak]
 rw [PF hv hm hw hl]; rfl
theorem QD (hv : A6 p = 0) (hm : CI p m) (hl : l.length ≤ 30) : DF 1000 p m l = some (ID p m l) := by
 have hval := EF hv hm
 unfold DF ID
 rw [Rd hv hm hl, if_neg (fun q => q hval)]
 simp only [oS]
 cases (Qo p m l).2 == 15
 ·rw [Ak, GY 1000 p m (by omega) (by omega), hval]; rfl
 ·rfl
end
theorem MZ {l : List Ab} (h : Kh JY l) : ∀ s, s ∈ l → Lv s := by
 intro s hs
 obtain ⟨_, h2, h3, _⟩ := h s hs
 have h2 : (Lit.int .i64 s.fh).wf = true := h2
 have h3 : (Lit.int .i64 s.fj).wf = true := h3
 simp [Lit.wf, IntKind.min, IntKind.max, IntKind.signed, IntKind.bits] at h2 h3
 exact ⟨h2, h3⟩
theorem OY : Ea 1000 = some true := by show _ = _; kernel_rfl
end Go.Lift
namespace Go.Lift
open List renaming mem_of_getElem? → lM
open List renaming getElem?_eq_some_iff → lI
open Go
def Ta (l : List Ab) : Prop := (1 ≤ l.length ∧ l.length ≤ 5) ∧ (∀ s, s ∈ l → FT s = true ∧ s.ff ≠ 4) ∧ l.Nodup
theorem LM {l : List Ab} {i : Nat} {s : Ab} : OO l i s = false ↔ FT s = true ∧ s.ff ≠ 4 ∧ ∀ x, x ∈ l.take i → s ≠ x := by
 unfold OO
 rw [Bool.or_eq_false_iff, Bool.or_eq_false_iff, beq_eq_false_iff_ne, List.any_eq_false]
 constructor
 ·rintro ⟨⟨h1, h2⟩, h3⟩
  exact ⟨by simpa using h1, h2, fun x hx e => h3 x hx ((ML s x).2 e)⟩
 ·rintro ⟨h1, h2, h3⟩
  exact ⟨⟨by simp [h1], h2⟩, fun x hx e => h3 x hx ((ML s x).1 e)⟩
theorem SX {l : List Ab} : Is l = 0 ↔ Ta l := by
 unfold Is Ta
 by_cases hl : l.length < 1 ∨ 5 < l.length
 ·rw [if_pos hl]
  constructor
  ·intro h; cases h
  ·rintro ⟨⟨h1, h2⟩, _⟩; omega
 rw [if_neg hl]
 have h1 : (CP (HR l) 0 l).getD 0 = 0 ↔ (CP (HR l) 0 l).isNone = true := by
  cases h : CP (HR l) 0 l with
  | none => simp
  | some r =>
   obtain ⟨j, x, hx, hf⟩ := Ej h
   unfold HR at hf
   split at hf
   ·cases hf; simp
   ·cases hf
 rw [h1, PJ]
 have h2 : (∀ j x, l[j]? = some x → HR l (0 + j) x = none) ↔ ∀ j x, l[j]? = some x → OO l j x = false := by
  constructor
  ·intro h j x hx
   have := h j x hx
   unfold HR at this
   rw [Nat.zero_add] at this
   split at this
   ·cases this
   ·rename_i hb; simpa using hb
  ·intro h j x hx
   unfold HR
   rw [Nat.zero_add, if_neg (by rw [h j x hx]; simp)]
 rw [h2]
 constructor
 ·intro h
  refine ⟨by omega, fun s hs => ?_, ?_⟩
  ·obtain ⟨j, hj⟩ := List.mem_iff_getElem?.1 hs
   have := LM.1 (h j s hj)
   exact ⟨this.1, this.2.1⟩
  ·unfold List.Nodup
   rw [List.pairwise_iff_getElem]
   intro i j hi hj hij e
   have := (LM.1 (h j l[j] (by simp [hj]))).2.2 l[i] (List.mem_iff_getElem?.2 ⟨i, by rw [List.getElem?_take_of_lt hij]; simp [hi]⟩)
   exact this e.symm
 ·rintro ⟨_, h3, h4⟩ j x hx
  have hm := h3 x (lM hx)
  refine LM.2 ⟨hm.1, hm.2, fun y hy e => ?_⟩
  subst e
  obtain ⟨i, hi⟩ := List.mem_iff_getElem?.1 hy
  have hij : i < j := by
   have := (lI.1 hi).1
   simp at this; omega
  rw [List.getElem?_take_of_lt hij] at hi
  unfold List.Nodup at h4
  rw [List.pairwise_iff_getElem] at h4
  obtain ⟨a1, a2⟩ := lI.1 hi
  obtain ⟨b1, b2⟩ := lI.1 hx
  exact h4 i j a1 b1 hij (a2.trans b2.symm)
theorem SN {l : List Ab} : Is l ≠ 15 := by
 unfold Is
 split
 ·decide
 ·cases h : CP (HR l) 0 l with
  | none => decide
  | some r =>
   obtain ⟨j, x, hx, hf⟩ := Ej h
   unfold HR at hf
   split at hf
   ·cases hf; decide
   ·cases hf
def ST (p : Aa) (m : Ac) (l : List Ab) : Prop := Ta l ∧ Du p m = true ∧ ∃ e, ∀ x, x.Perm l → Eg p m x = (e, true)
theorem Tg {p : Aa} {m : Ac} {l : List Ab} (hv : DY p m = 0) : (ID p m l).1 = true ↔ ST p m l := by
 unfold ID Qo ST
 rw [if_neg (fun q => q hv), if_neg (fun q => q hv), ← SX]
 simp only [beq_iff_eq]
 by_cases hf : Is l = 0
 ·rw [if_neg (fun q => q hf)]
  by_cases hc : (Du p m && (Eg p m l).2) = true
  ·rw [if_pos hc]
   rw [Bool.and_eq_true] at hc
   cases hq : (Kp l).find? (Ji p m (Eg p m l).1) with
   | some x =>
    constructor
    ·intro h; cases h
    ·rintro ⟨_, _, e, he⟩
     have h1 := List.find?_some hq
     have h2 := he x (LT.1 (List.mem_of_find?_eq_some hq))
     have h3 := he l (List.Perm.refl _)
     unfold Ji at h1
     rw [h2, h3] at h1
     simp at h1
   | none =>
    refine ⟨fun _ => ⟨hf, hc.1, (Eg p m l).1, fun x hx => ?_⟩, fun _ => rfl⟩
    have := List.find?_eq_none.1 hq x (LT.2 hx)
    unfold Ji at this
    simp only [Bool.not_eq_true, Bool.not_eq_false', Bool.and_eq_true, decide_eq_true_eq] at this
    exact Prod.ext this.2 this.1
  ·rw [if_neg hc]
   constructor
   ·intro h; cases h
   ·rintro ⟨_, hr, e, he⟩
    exact absurd (by rw [hr, he l (List.Perm.refl _)]; rfl) hc
 ·rw [if_pos hf]
  exact ⟨fun h => absurd h SN, fun h => absurd h.1 hf⟩
def gW : Nat → Nat → Int → Int
 | 0, _, A => A
 | c + 1, i, A => gW c (i + 1) (A * ((i + 1 : Nat) : Int))
def hW : List (List Ab) → Int → Int
 | [], A => A
 | w :: ws, A => hW ws (gW w.length 0 A)
end Go.Lift
namespace Go.Lift
open IntKind renaming wrap → wI
open Option renaming bind_some → oS
open List renaming mem_of_getElem? → lM
open List renaming getElem?_eq_some_iff → lI
open Go
theorem Nb {p : Aa} : ∀ {l : List Ab} {m x : Ac}, IW p m l = some x → Eg p m l = (x, true)
 | [], m, x, h => by cases h; rfl
 | s :: l, m, x, h => by
  rw [IW] at h
  obtain ⟨y, h1, h2⟩ := Option.bind_eq_some_iff.1 h
  unfold Le at h1
  split at h1
  ·rename_i hc
   cases h1
   unfold Eg
   rw [if_pos ⟨hc.1, hc.2.2⟩]
   exact Nb h2
  ·cases h1
theorem Qb {p : Aa} : ∀ {l : List Ab} {m x : Ac}, Du p m = true → IW p m l = some x → Du p x = true
 | [], m, x, hm, h => by cases h; exact hm
 | s :: l, m, x, hm, h => by
  rw [IW] at h
  obtain ⟨y, h1, h2⟩ := Option.bind_eq_some_iff.1 h
  unfold Le at h1
  split at h1
  ·rename_i hc
   cases h1
   exact Qb hc.2.2 h2
  ·cases h1
theorem PS {α : Type} (l : List α) (k : Nat) : (l.drop k).take (l.length - k) = l.drop k := List.take_of_length_le (by simp)
def LS (p : Aa) (m : Ac) (l : List Ab) : Nat → Nat
 | 0 => 1
 | k + 1 => if k = 0 then 1 else if (ID p m (l.take (k + 1))).1 = true then k + 1 else LS p m l k
def KV (p : Aa) (m : Ac) (l : List Ab) : Nat := LS p m l (min 5 l.length)
theorem Kb (p : Aa) (m : Ac) (l : List Ab) : ∀ k : Nat, 1 ≤ LS p m l k ∧ (1 ≤ k → LS p m l k ≤ k) ∧ (LS p m l k = 1 ∨ (ID p m (l.take (LS p m l k))).1 = true)
 | 0 => ⟨Nat.le_refl _, fun h => by omega, .inl rfl⟩
 | k + 1 => by
  rw [LS]
  split
  ·exact ⟨Nat.le_refl _, fun _ => by omega, .inl rfl⟩
  ·split
   ·rename_i h; exact ⟨by omega, fun _ => Nat.le_refl _, .inr h⟩
   ·obtain ⟨h1, h2, h3⟩ := Kb p m l k
    exact ⟨h1, fun _ => by have := h2 (by omega); omega, h3⟩
theorem Lj {p : Aa} {m : Ac} {l : List Ab} : 1 ≤ KV p m l := (Kb p m l _).1
theorem S1 {p : Aa} {m : Ac} {l : List Ab} (h : 1 ≤ l.length) : KV p m l ≤ l.length := by
 have := (Kb p m l (min 5 l.length)).2.1 (by omega)
 unfold KV; omega
def Ja (p : Aa) : Nat → Ac → List Ab → List (List Ab)
 | 0, _, _ => []
 | n + 1, m, l => if l.length = 0 then [] else l.take (KV p m l) :: Ja p n (Eg p m (l.take (KV p m l))).1 (l.drop (KV p m l))
def SE (p : Aa) (m : Ac) (l : List Ab) : Prop := CI p m ∧ Du p m = true ∧ L7 p m l = true ∧ ∀ s, s ∈ l → Lv s
theorem Q5 {p : Aa} {m : Ac} {a b : List Ab} (h : L7 p m (a ++ b) = true) : ∃ y, IW p m a = some y ∧ L7 p y b = true := by
 unfold L7 at h
 rw [Mm] at h
 cases hy : IW p m a with
 | none => rw [hy] at h; cases h
 | some y => rw [hy] at h; exact ⟨y, rfl, h⟩
theorem Oa {p : Aa} (hv : A6 p = 0) {m : Ac} {a b : List Ab} (h : SE p m (a ++ b)) : IW p m a = some (Eg p m a).1 ∧ (Eg p m a).2 = true ∧ SE p (Eg p m a).1 b := by
 obtain ⟨h1, h2, h3, h4⟩ := h
 obtain ⟨y, e1, e2⟩ := Q5 h3
 have e3 := Nb e1
 rw [e3]
 exact ⟨e1, rfl, RW (DZ hv).1 a m y h1 e1, Qb h2 e1, e2, fun s hs => h4 s (List.mem_append_right _ hs)⟩
theorem Nn {p : Aa} (hv : A6 p = 0) {m : Ac} {l : List Ab} (h : SE p m l) (k : Nat) : SE p (Eg p m (l.take k)).1 (l.drop k) := by
 rw [← List.take_append_drop k l] at h
 exact (Oa hv h).2.2
theorem Ti {p : Aa} {m : Ac} {s : Ab} (hm : Du p m = true) {y : Ac} (h : IW p m [s] = some y) : ST p m [s] := by
 have e := Nb h
 rw [IW] at h
 obtain ⟨x, h1, _⟩ := Option.bind_eq_some_iff.1 h
 obtain ⟨a1, _, _, a4, _⟩ := ON.1 h1
 refine ⟨⟨⟨Nat.le_refl _, by simp⟩, fun z hz => ?_, by simp⟩, hm, y, fun z hz => ?_⟩
 ·rw [List.mem_singleton] at hz; subst hz; exact ⟨a1, a4⟩
 ·rw [List.perm_singleton] at hz; subst hz; exact e
theorem Sc {p : Aa} (hv : A6 p = 0) {m : Ac} {l : List Ab} (h : SE p m l) (hl : 1 ≤ l.length) : (ID p m (l.take (KV p m l))).1 = true := by
 rcases (Kb p m l (min 5 l.length)).2.2 with h1 | h1
 ·have h1' : KV p m l = 1 := h1
  rw [h1', Tg (EF hv h.1)]
  cases l with
  | nil => simp at hl
  | cons s l =>
   rw [List.take_succ_cons, List.take_zero]
   exact Ti h.2.1 (Oa hv (a := [s]) (b := l) h).1
 ·exact h1
section
variable {p : Aa} {m : Ac} {l : List Ab}
theorem Vp (hv : A6 p = 0) (h : SE p m l) (hl : l.length ≤ 20) (out : List (List Ab)) (j : Int → Option (List (List Ab) × Int)) : ∀ (n k : Nat), 1 ≤ k → k ≤ l.length → k ≤ n →
  E5 1000 p (m.fe, m.fa, m.fc, l, out) j n (k : Int) = j (LS p m l k : Nat)
 | 0, k, h1, _, h3 => by omega
 | n + 1, k, h1, h2, h3 => by
  rw [E5]
  obtain ⟨q, rfl⟩ : ∃ q, k = q + 1 := ⟨k - 1, by omega⟩
  rw [LS]
  by_cases hq : q = 0
  ·subst hq; rw [AB (by omega), if_pos rfl]
  ·rw [AC (by omega), if_neg hq, Ap ⟨by omega, by omega, by simp only [Int.toNat_natCast]; exact h2⟩]
   simp only [Int.toNat_natCast, List.drop_zero, Nat.sub_zero]
   have e := Ks (p := p) (m := m) (l := l.take (q + 1)) hv h.1 (fun s hs => h.2.2.2 s (List.mem_of_mem_take hs)) (by simp; omega)
   have e' : Ex 1000 p (Ac.mk m.fe m.fa m.fc) (l.take (q + 1)) = _ := e
   rw [e']
   simp only [oS]
   cases hf : (ID p m (l.take (q + 1))).1
   ·rw [Ak, if_neg (by simp), show wI .i64 (((q + 1 : Nat) : Int) - 1) = (q : Int) by rw [D1 (by omega) (by omega)]; omega]
    exact Vp hv h hl out j n q (by omega) (by omega) (by omega)
   ·rw [AA, if_pos rfl]
theorem RC (hv : A6 p = 0) : ∀ (n : Nat) (m : Ac) (l : List Ab) (out : List (List Ab)), SE p m l → l.length ≤ 20 → l.length < n → out.length + l.length ≤ 40 →
  Fa 1000 p (fun v6 => some (v6, 0)) n (m.fe, m.fa, m.fc, l, out) = some (out ++ Ja p n m l, 0)
 | 0, _, _, _, _, _, h, _ => by omega
 | n + 1, m, l, out, h, hl, hn, ho => by
  rw [Fa, Ja]
  by_cases h0 : l.length = 0
  ·rw [AB (by simp only; omega), if_pos h0, List.append_nil]
  ·rw [AC (by simp only; omega), if_neg h0]
   have e5 : NX 5 (l.length : Int) = ((min 5 l.length : Nat) : Int) := by unfold NX; split <;> omega
   simp only [e5]
   refine (Vp hv h hl out _ 1000 (min 5 l.length) (by omega) (by omega) (by omega)).trans ?_
   have hw : LS p m l (min 5 l.length) = KV p m l := rfl
   have hp := Lj (p := p) (m := m) (l := l)
   have hq := S1 (p := p) (m := m) (l := l) (by omega)
   rw [hw]
   simp only [Int.toNat_natCast, List.drop_zero, Nat.sub_zero]
   rw [Ap ⟨by omega, by omega, hq⟩, Ik 1000 _ (by simp [Dl]; omega)]
   simp only [oS]
   rw [Ap (by simp [Dl]; omega), Ap ⟨by omega, by omega, hq⟩]
   have e := MG (N := 1000) (l := l.take (KV p m l)) (by omega) (by omega) hv (by simp; omega) (by simp; omega) h.1
   have e' : Cv 1000 p (Ac.mk m.fe m.fa m.fc) (l.take (KV p m l)) = _ := e
   rw [e']
   simp only [oS]
   rw [Ap ⟨by omega, hq, Nat.le_refl _⟩, PS]
   refine (RC hv n _ _ _ (Nn hv h (KV p m l)) (by simp; omega) (by simp; omega) (by simp; omega)).trans ?_
   rw [List.append_assoc]; rfl
theorem Og (hv : A6 p = 0) (h : SE p m l) (hl : l.length ≤ 20) (out : List (List Ab)) (j : Int → Option (List (List Ab) × Int)) : ∀ (n k : Nat), k ≤ min 5 l.length → min 5 l.length - k < n →
  Dh 1000 p (m.fe, m.fa, m.fc, l, out) j n ((LS p m l k : Nat), ((k + 1 : Nat) : Int)) = j (KV p m l : Nat)
 | 0, k, _, h3 => by omega
 | n + 1, k, h2, h3 => by
  rw [Dh]
  simp only [AY]
  by_cases hk : k = min 5 l.length
  ·have e : LS p m l k = KV p m l := by rw [hk]; rfl
   rw [e]
   by_cases h5 : ((k + 1 : Nat) : Int) ≤ (l.length : Int)
   ·rw [AC h5, decide_eq_false (by omega), Ak]
   ·rw [AB h5, Ak]
  ·rw [AC (by omega), decide_eq_true (by omega), AA, Ap ⟨by omega, by omega, by simp only [Int.toNat_natCast]; omega⟩]
   simp only [Int.toNat_natCast, List.drop_zero, Nat.sub_zero]
   have e := QD (p := p) (m := m) (l := l.take (k + 1)) hv h.1 (by simp; omega)
   have e' : DF 1000 p (Ac.mk m.fe m.fa m.fc) (l.take (k + 1)) = _ := e
   rw [e']
   simp only [oS, AG (show k + 1 < 1000000 by omega)]
   have ih := Og hv h hl out j n (k + 1) (by omega) (by omega)
   rw [LS] at ih
   by_cases hq : k = 0
   ·subst hq
    rw [if_pos rfl] at ih
    cases (ID p m (l.take (0 + 1))).1
    ·exact ih
    ·exact ih
   ·rw [if_neg hq] at ih
    cases hf : (ID p m (l.take (k + 1))).1
    ·rw [hf, if_neg (by simp)] at ih; exact ih
    ·rw [hf, if_pos rfl] at ih; exact ih
theorem Mw (hv : A6 p = 0) : ∀ (n : Nat) (m : Ac) (l : List Ab) (out : List (List Ab)), SE p m l → l.length ≤ 20 → l.length < n → out.length + l.length ≤ 40 →
  C9 1000 p (fun v6 => some (v6, 0)) n (m.fe, m.fa, m.fc, l, out) = some (out ++ Ja p n m l, 0)
 | 0, _, _, _, _, _, h, _ => by omega
 | n + 1, m, l, out, h, hl, hn, ho => by
  rw [C9, Ja]
  by_cases h0 : l.length = 0
  ·rw [AB (by simp only; omega), if_pos h0, List.append_nil]
  ·rw [AC (by simp only; omega), if_neg h0]
   refine (Og hv h hl out _ 1000 0 (by omega) (by omega)).trans ?_
   have hp := Lj (p := p) (m := m) (l := l)
   have hq := S1 (p := p) (m := m) (l := l) (by omega)
   simp only [Int.toNat_natCast, List.drop_zero, Nat.sub_zero]
   rw [Ap ⟨by omega, by omega, hq⟩, Ap (by simp [Dl]; omega), Ap (by simp [Dl]; omega), Ap ⟨by omega, by omega, hq⟩]
   have e := Q1 (N := 1000) (l := l.take (KV p m l)) (by omega) (by omega) hv (by simp; omega) (by simp; omega) h.1
   have e' : BY 1000 p (Ac.mk m.fe m.fa m.fc) (l.take (KV p m l)) = _ := e
   unfold EP
   rw [e']
   simp only [oS]
   rw [Ap ⟨by omega, hq, Nat.le_refl _⟩, PS]
   refine (Mw hv n _ _ _ (Nn hv h (KV p m l)) (by simp; omega) (by simp; omega) (by simp; omega)).trans ?_
   rw [List.append_assoc]; rfl
end
theorem Tw {p : Aa} {l : List Ab} (W : List (List Ab)) (j : Option (List (List Ab) × Int)) (h : Im p l = true → j = some (W, 0)) :
  AK (!Im p l) (some (([] : List (List Ab)), (13 : Int))) j = some (if Im p l = true then (W, 0) else ([], 13)) := by
 cases hc : Im p l
 ·rfl
 ·rw [Bool.not_true, Ak, h hc, if_pos rfl]
def XF (p : Aa) (l : List Ab) : List (List Ab) × Int := if Im p l = true then (Ja p 1000 (Cx p) l, 0) else ([], 13)
theorem M3 {p : Aa} (hv : A6 p = 0) {l : List Ab} (hw : ∀ s, s ∈ l → Lv s) (h : Im p l = true) : SE p (Cx p) l := by
 rw [Si, decide_eq_true hv, Bool.true_and, Bool.and_eq_true] at h
 exact ⟨Lw hv, h.1, h.2, hw⟩
theorem WQ {p : Aa} (hv : A6 p = 0) {l : List Ab} (hw : ∀ s, s ∈ l → Lv s) (hl : l.length ≤ 20) : GQ 1000 p l = some (XF p l) := by
 unfold GQ XF
 rw [Jm 1000 p (by omega) (by omega), hv, if_pos rfl]
 simp only [oS, bne_self_eq_false, Ak]
 rw [NT (by omega) (by omega) (by omega) (by omega)]
 simp only [oS]
 exact Tw _ _ fun hc => (RC hv 1000 _ l [] (M3 hv hw hc) hl (by omega) (by simp; omega)).trans (by rw [List.nil_append])
theorem Sd {p : Aa} (hv : A6 p = 0) {l : List Ab} (hw : ∀ s, s ∈ l → Lv s) (hl : l.length ≤ 20) : EO 1000 p l = some (XF p l) := by
 unfold EO XF
 rw [KD 1000 p (by omega) (by omega), hv]
 simp only [oS, bne_self_eq_false, Ak]
 rw [Pk (by omega) (by omega) (by omega) (by omega)]
 simp only [oS]
 refine Tw _ _ fun hc => ?_
 rw [Lo 1000 p (by omega) (by omega), hv, if_pos rfl, oS]
 exact (Mw hv 1000 _ l [] (M3 hv hw hc) hl (by omega) (by simp; omega)).trans (by rw [List.nil_append])
theorem OG {p : Aa} : ∀ (n : Nat) (m : Ac) (l : List Ab), l.length < n → (Ja p n m l).flatten = l
 | 0, _, _, h => by omega
 | n + 1, m, l, h => by
  rw [Ja]
  split
  ·rename_i h0; exact (List.eq_nil_of_length_eq_zero h0).symm
  ·have hp := Lj (p := p) (m := m) (l := l)
   rw [List.flatten_cons, OG n _ _ (by simp; omega), List.take_append_drop]
theorem Ny {p : Aa} : ∀ (n : Nat) (m : Ac) (l : List Ab), (Ja p n m l).length ≤ l.length ∧ ∀ w, w ∈ Ja p n m l → w.length ≤ l.length
 | 0, _, _ => ⟨Nat.zero_le _, fun _ h => by cases h⟩
 | n + 1, m, l => by
  rw [Ja]
  split
  ·exact ⟨Nat.zero_le _, fun _ h => by cases h⟩
  ·have hp := Lj (p := p) (m := m) (l := l)
   obtain ⟨h1, h2⟩ := Ny (p := p) n (Eg p m (l.take (KV p m l))).1 (l.drop (KV p m l))
   rw [List.length_drop] at h1
   refine ⟨by rw [List.length_cons]; omega, fun w hw => ?_⟩
   rcases List.mem_cons.1 hw with e | e
   ·subst e; simp; omega
   ·have := h2 w e; rw [List.length_drop] at this; omega
theorem Ql {N : Nat} (l : List (List Ab)) (hN : N ≤ 1000000) (h : l.length < N) (hw : ∀ w, w ∈ l → w.length < N) : CX N l l = some true := by
 unfold CX
 rw [bne_self_eq_false, Ak]
 have := BW (Co N l l fun _ => some true) l (some true) (fun _ _ => none)
  (fun n i x hx => by
   have hi := (lI.1 hx).1
   rw [Co, AC (by omega), AR, hx]
   simp only [oS]
   rw [Mt N x hN (hw x (lM hx))]
   simp only [oS, Bool.not_true, Ak]
   rw [AG (by omega)]; rfl)
  (fun n => by rw [Co, AB (by simp)]) N 0 (Nat.zero_le _) (by omega)
 refine this.trans ?_
 rw [D4 fun j x hx => rfl]; rfl
theorem Na {p : Aa} (hv : A6 p = 0) (W : List (List Ab)) (hW : W.length ≤ 30) : ∀ (k n i : Nat) (m : Ac) (l : List Ab) (out : List Ac), SE p m l → l.length ≤ 20 → l.length < k → W.drop i = Ja p k m l → W.length - i < n → i ≤ W.length → out.length ≤ 100 + i →
  ∃ zs z, Eh 1000 p W (fun v6 => some (v6, 0)) n (m, out, (i : Int)) = some (out ++ zs, 0) ∧ (m :: zs).getLast? = some z ∧ Kq p z = true ∧ CI p z ∧ zs.length + i = W.length
 | 0, n, i, m, l, out, h, hl, hk, hd, hn, hi, ho => by omega
 | k + 1, 0, i, m, l, out, h, hl, hk, hd, hn, hi, ho => by omega
 | k + 1, n + 1, i, m, l, out, h, hl, hk, hd, hn, hi, ho => by
  rw [Eh]
  rw [Ja] at hd
  by_cases h0 : l.length = 0
  ·rw [if_pos h0] at hd
   have : W.length ≤ i := by simpa using hd
   have hl0 := List.eq_nil_of_length_eq_zero h0
   subst hl0
   refine ⟨[], m, ?_, rfl, h.2.2.1, h.1, by simp; omega⟩
   rw [AB (by simp only; omega), List.append_nil]
  ·rw [if_neg h0] at hd
   have hlt : i < W.length := by
    apply Nat.lt_of_not_le; intro q
    rw [List.drop_eq_nil_of_le q] at hd; cases hd
   have hx : W[i]? = some (l.take (KV p m l)) := by
    have : (W.drop i)[0]? = some (l.take (KV p m l)) := by rw [hd]; rfl
    simpa using this
   have hd' : W.drop (i + 1) = Ja p k (Eg p m (l.take (KV p m l))).1 (l.drop (KV p m l)) := by
    have : (W.drop i).tail = (l.take (KV p m l) :: Ja p k (Eg p m (l.take (KV p m l))).1 (l.drop (KV p m l))).tail := by rw [hd]
    simpa using this
   have hp := Lj (p := p) (m := m) (l := l)
   rw [AC (by simp only; omega)]
   simp only [AR, hx, oS, AY]
   rw [Ks (p := p) (m := m) hv h.1 (fun s hs => h.2.2.2 s (List.mem_of_mem_take hs)) (by simp; omega)]
   simp only [oS]
   have hf := Sc hv h (by omega)
   have hf2 : (ID p m (l.take (KV p m l))).2 = 0 := by unfold ID; rw [if_neg (fun q => q (EF hv h.1))]
   rw [hf, hf2, bne_self_eq_false, Ak, Bool.not_true, Ak, MG (by omega) (by omega) hv (by simp; omega) (by simp; omega) h.1]
   simp only [oS, AG (show i < 1000000 by omega)]
   rw [Ap (by simp [Dl]; omega)]
   obtain ⟨zs, z, e1, e2, e3, e4, e5⟩ := Na hv W hW k n (i + 1) _ _ (out ++ [(Eg p m (l.take (KV p m l))).1]) (Nn hv h (KV p m l)) (by simp; omega) (by simp; omega) hd' (by omega) (by omega) (by simp; omega)
   refine ⟨(Eg p m (l.take (KV p m l))).1 :: zs, z, ?_, ?_, e3, e4, ?_⟩
   ·rw [e1, List.append_assoc]; rfl
   ·rw [List.getLast?_cons_cons]; exact e2
   ·rw [List.length_cons]; omega
theorem PT {p : Aa} (hv : A6 p = 0) {l : List Ab} (h : SE p (Cx p) l) (hl : l.length ≤ 20) : EE 1000 p (Ja p 1000 (Cx p) l) = some true := by
 have hlen := (Ny (p := p) 1000 (Cx p) l).1
 obtain ⟨zs, z, e1, e2, e3, e4, e5⟩ := Na hv (Ja p 1000 (Cx p) l) (by omega) 1000 1000 0 (Cx p) l [Cx p] h hl (by omega) List.drop_zero (by omega) (Nat.zero_le _) (by simp)
 generalize Ja p 1000 (Cx p) l = W at e1 e5 hlen
 have e6 : Fd 1000 p W = some ([Cx p] ++ zs, 0) := by
  unfold Fd
  rw [Jf 1000 p (by omega) (by omega), hv, oS, bne_self_eq_false, Ak, Jm 1000 p (by omega) (by omega), hv, if_pos rfl, oS, bne_self_eq_false, Ak]
  exact e1
 unfold EE
 rw [e6]
 simp only [oS, bne_self_eq_false, Ak, AY]
 have i0 : Bv ([Cx p] ++ zs) 0 = some (Cx p) := AR _ 0
 have hn : ([Cx p] ++ zs).length = zs.length + 1 := by simp
 have i1 : Bv ([Cx p] ++ zs) (wI .i64 ((([Cx p] ++ zs).length : Int) - 1)) = some z := by
  rw [hn, D1 (by omega) (by omega), show ((zs.length + 1 : Nat) : Int) - 1 = (zs.length : Nat) by omega, AR]
  rw [List.getLast?_eq_getElem?] at e2
  simpa using e2
 rw [i0]
 simp only [oS]
 rw [IT 1000 p _ (by omega) (by omega) (HK h.1) (EF hv h.1), h.2.1]
 simp only [oS, beq_self_eq_true, AA]
 rw [i1]
 simp only [oS]
 rw [Ms 1000 p z (by omega) (by omega) (HK e4), e3]; rfl
theorem Qa {N : Nat} (v : List (List Ab) × Int) (hv : v.1.length ≤ 30) (hw : ∀ w, w ∈ v.1 → w.length ≤ 30) (j : List Ab → Option Bool) : ∀ (n i : Nat) (a : List Ab), i ≤ v.1.length → v.1.length - i < n → a.length ≤ 30 * i →
  Cf N v j n (a, (i : Int)) = j (a ++ (v.1.drop i).flatten)
 | 0, i, a, _, h, _ => by omega
 | n + 1, i, a, hi, h, ha => by
  rw [Cf]
  by_cases hlt : i < v.1.length
  ·have hx : v.1[i]? = some v.1[i] := by simp [hlt]
   have hwl := hw _ (lM hx)
   rw [AC (by simp only; omega), Cu hx]
   simp only [AR, hx, oS, AG (show i < 1000000 by omega)]
   rw [Ap (by simp only [Dl]; omega), Qa v hv hw j n (i + 1) _ (by omega) (by omega) (by simp; omega), List.append_assoc, List.flatten_cons]
  ·rw [AB (by simp only; omega), List.drop_eq_nil_of_le (by omega), List.flatten_nil, List.append_nil]
theorem NV (d : BV) (l : List Ab) (wd : FJ d) (wl : Kh JY l) : Dr 1000 d l = some true := by
 obtain ⟨p, ok, e, h⟩ := Yw 1000 d (by omega) (by omega) wd
 unfold Dr
 rw [e]
 simp only [oS, AY, OY, Bool.not_true, Ak]
 cases ok
 ·rfl
 have hv := (h rfl).valid
 rw [Bool.not_true, Ak]
 by_cases h10 : (10 : Int) < (l.length : Int)
 ·rw [decide_eq_true h10]; rfl
 rw [decide_eq_false h10, Ak, WQ hv (MZ wl) (by omega), Sd hv (MZ wl) (by omega)]
 simp only [oS, bne_self_eq_false, Ak, beq_self_eq_true, AA]
 unfold XF
 obtain ⟨w1, w2⟩ := Ny (p := p) 1000 (Cx p) l
 have hfl := OG (p := p) 1000 (Cx p) l (by omega)
 have hck := fun hc => PT hv (M3 hv (MZ wl) hc) (by omega)
 generalize Ja p 1000 (Cx p) l = W at w1 w2 hfl hck
 cases hc : Im p l
 ·rfl
 have hck := hck hc
 rw [if_pos rfl]
 simp only
 rw [Ql W (by omega) (by omega) (fun w hw => by have := w2 w hw; omega)]
 simp only [oS, Bool.not_true, Ak, bne_self_eq_false]
 have e2 := Qa (N := 1000) (W, (0 : Int)) (by simp only; omega) (fun w hw => by have := w2 w hw; omega) (fun v19 => (Cw 1000 v19 l).bind fun v24 => AK v24 ((EE 1000 p W).bind fun v26 => some v26) (some false)) 1000 0 [] (Nat.zero_le _) (by simp only; omega) (Nat.zero_le _)
 refine Eq.trans e2 ?_
 rw [List.drop_zero, List.nil_append, hfl, Mt 1000 l (by omega) (by omega)]
 simp only [oS, AA]
 rw [hck]; rfl
end Go.Lift
