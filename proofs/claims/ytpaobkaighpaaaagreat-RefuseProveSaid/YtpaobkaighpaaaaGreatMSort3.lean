/- Lemmas for RefuseProveSaid, which YtpaobkaighpaaaaGreatFinR3 proves. -/
import Derived.Test.YtpaobkaighpaaaaGreatDec
import Derived.KernelRfl
import Derived.Sort.AssemblyPlain
namespace Go.Lift
open IntKind renaming wrap → wI
open Option renaming bind_some → oS
open List renaming getElem?_eq_some_iff → lI
theorem Bc {α : Type} (xs : List α) (i : Nat) : Bg xs (i : Int) = xs[i]? := by
 unfold Bg; simp
theorem CM {n : Int} (h0 : -9223372036854775808 ≤ n) (h1 : n ≤ 9223372036854775807) : wI .i64 n = n := by
 simp [wI, IntKind.signed, IntKind.bits]; omega
theorem AT {i : Nat} (h : i < 1000000) : wI .i64 ((i : Int) + 1) = ((i + 1 : Nat) : Int) := by
 rw [CM (by omega) (by omega)]; simp
@[simp] theorem AN {α : Type} {a b : Option α} : AW true a b = a := rfl
@[simp] theorem Aw {α : Type} {a b : Option α} : AW false a b = b := rfl
theorem AG {α : Type} {p : Prop} [Decidable p] {a b : Option α} (h : p) : AW (decide p) a b = a := by simp [h]
theorem AC {α : Type} {p : Prop} [Decidable p] {a b : Option α} (h : ¬ p) : AW (decide p) a b = b := by simp [h]
def YX (a b : Int) : Int := if a < b then -1 else if b < a then 1 else 0
def EY : List Int → List Int → Int
 | [], [] => 0
 | [], _ :: _ => -1
 | _ :: _, [] => 1
 | a :: as1, b :: bs => if a < b then -1 else if b < a then 1 else EY as1 bs
theorem Xr (N : Nat) (a b : Int) : Dy N a b = some (YX a b) := by
 unfold Dy F2 YX
 by_cases h1 : a < b <;> by_cases h2 : b < a <;> simp [h1, h2]
theorem Xi (N : Nat) (a b : Int) : Ej N a b = some (YX a b) := by
 unfold Ej EX YX
 by_cases h1 : a < b <;> by_cases h2 : b < a <;> simp [h1, h2]
theorem Df {α : Type} {xs : List α} {i : Nat} {x : α} (h : xs[i]? = some x) : xs.drop i = x :: xs.drop (i + 1) := by
 obtain ⟨hi, rfl⟩ := lI.1 h
 exact List.drop_eq_getElem_cons hi
theorem Rl (N : Nat) (a b : List Int) (hb : a.length < 1000000) : ∀ (n i : Nat), i ≤ a.length → i ≤ b.length → a.length - i < n →
  CA N a b (fun _ => AW (decide ((a.length : Int) < (b.length : Int))) (some (-1)) (some 0)) n (i : Int) = some (EY (a.drop i) (b.drop i))
 | 0, i, _, _, h => by omega
 | n + 1, i, hi, hj, h => by
  unfold CA
  by_cases h1 : i < a.length
  ·rw [AG (by omega), Bc]
   have ha : a[i]? = some a[i] := by simp [h1]
   rw [ha, Df ha]
   simp only [oS]
   by_cases h2 : i < b.length
   ·rw [AC (by omega), Bc]
    have hbb : b[i]? = some b[i] := by simp [h2]
    rw [hbb, Df hbb]
    simp only [oS, Xr, EY, YX]
    rw [AT (by omega), Rl N a b hb n (i + 1) (by omega) (by omega) (by omega)]
    by_cases h3 : a[i] < b[i]
    ·simp [h3]
    ·by_cases h4 : b[i] < a[i]
     ·simp [h3, h4]
     ·simp [h3, h4]
   ·rw [AG (by omega), List.drop_eq_nil_of_le (by omega : b.length ≤ i)]
    simp [EY]
  ·rw [AC (by omega), List.drop_eq_nil_of_le (by omega : a.length ≤ i)]
   by_cases h2 : a.length < b.length
   ·rw [AG (by omega)]
    have hbb : b[i]? = some b[i] := by simp [show i < b.length from by omega]
    rw [Df hbb]; simp [EY]
   ·rw [AC (by omega), List.drop_eq_nil_of_le (by omega : b.length ≤ i)]
    simp [EY]
theorem PN (N : Nat) (a b : List Int) (hb : a.length < 1000000) : ∀ (n i : Nat), i ≤ a.length → i ≤ b.length → a.length - i < n →
  BJ N a b (fun _ => AW (decide ((a.length : Int) < (b.length : Int))) (some (-1)) (some 0)) n (i : Int) = some (EY (a.drop i) (b.drop i))
 | 0, i, _, _, h => by omega
 | n + 1, i, hi, hj, h => by
  unfold BJ
  by_cases h1 : i < a.length
  ·rw [AG (by omega), Bc]
   have ha : a[i]? = some a[i] := by simp [h1]
   rw [ha, Df ha]
   simp only [oS]
   by_cases h2 : i < b.length
   ·rw [AC (by omega), Bc]
    have hbb : b[i]? = some b[i] := by simp [h2]
    rw [hbb, Df hbb]
    simp only [oS, Xi, EY, YX]
    rw [AT (by omega), PN N a b hb n (i + 1) (by omega) (by omega) (by omega)]
    by_cases h3 : a[i] < b[i]
    ·simp [h3]
    ·by_cases h4 : b[i] < a[i]
     ·simp [h3, h4]
     ·simp [h3, h4]
   ·rw [AG (by omega), List.drop_eq_nil_of_le (by omega : b.length ≤ i)]
    simp [EY]
  ·rw [AC (by omega), List.drop_eq_nil_of_le (by omega : a.length ≤ i)]
   by_cases h2 : a.length < b.length
   ·rw [AG (by omega)]
    have hbb : b[i]? = some b[i] := by simp [show i < b.length from by omega]
    rw [Df hbb]; simp [EY]
   ·rw [AC (by omega), List.drop_eq_nil_of_le (by omega : b.length ≤ i)]
    simp [EY]
theorem TL (N : Nat) (a b : List Int) (hb : a.length < 1000000) : ∀ (n i : Nat), i ≤ a.length → i ≤ b.length → a.length - i < n →
  DG N a b (fun _ => AW (decide ((a.length : Int) < (b.length : Int))) (some (-1)) (AW (decide ((b.length : Int) < (a.length : Int))) (some 1) (some 0))) n (i : Int) = some (EY (a.drop i) (b.drop i))
 | 0, i, _, _, h => by omega
 | n + 1, i, hi, hj, h => by
  unfold DG
  simp only [Bh]
  by_cases h1 : i < a.length
  ·rw [AG (p := (i : Int) < (a.length : Int)) (by omega)]
   have ha : a[i]? = some a[i] := by simp [h1]
   rw [Df ha]
   by_cases h2 : i < b.length
   ·have hbb : b[i]? = some b[i] := by simp [h2]
    rw [show decide ((i : Int) < (b.length : Int)) = true from decide_eq_true (by omega), AN, Bc, Bc, ha, hbb, Df hbb]
    simp only [oS, EY]
    rw [AT (by omega), TL N a b hb n (i + 1) (by omega) (by omega) (by omega)]
    by_cases h3 : a[i] < b[i]
    ·simp [h3]
    ·by_cases h4 : b[i] < a[i]
     ·simp [h3, h4]
     ·simp [h3, h4]
   ·rw [show decide ((i : Int) < (b.length : Int)) = false from decide_eq_false (by omega), Aw, AC (by omega), AG (by omega), List.drop_eq_nil_of_le (by omega : b.length ≤ i)]
    simp [EY]
  ·rw [AC (p := (i : Int) < (a.length : Int)) (by omega), Aw, List.drop_eq_nil_of_le (by omega : a.length ≤ i)]
   by_cases h2 : a.length < b.length
   ·rw [AG (by omega)]
    have hbb : b[i]? = some b[i] := by simp [show i < b.length from by omega]
    rw [Df hbb]; simp [EY]
   ·rw [AC (by omega), AC (by omega), List.drop_eq_nil_of_le (by omega : b.length ≤ i)]
    simp [EY]
theorem Ox {N : Nat} {a b : List Int} (h : a.length < N) (hN : N ≤ 1000000) : C7 N a b = some (EY a b) := by
 have := Rl N a b (by omega) N 0 (by omega) (by omega) (by omega)
 simpa [C7] using this
theorem RU {N : Nat} {a b : List Int} (h : a.length < N) (hN : N ≤ 1000000) : Cx N a b = some (EY a b) := by
 have := PN N a b (by omega) N 0 (by omega) (by omega) (by omega)
 simpa [Cx] using this
theorem OG {N : Nat} {a b : List Int} (h : a.length < N) (hN : N ≤ 1000000) : DM N a b = some (EY a b) := by
 have := TL N a b (by omega) N 0 (by omega) (by omega) (by omega)
 simpa [DM] using this
theorem P5 : ∀ a : List Int, EY a a = 0
 | [] => rfl
 | a :: as1 => by simp [EY, P5 as1]
theorem NW : ∀ a b : List Int, EY a b = 0 → a = b
 | [], [], _ => rfl
 | [], _ :: _, h => by simp [EY] at h
 | _ :: _, [], h => by simp [EY] at h
 | a :: as1, b :: bs, h => by
  unfold EY at h
  split at h
  ·omega
  ·split at h
   ·omega
   ·rw [NW as1 bs h, show a = b from by omega]
theorem J2 : ∀ a b : List Int, EY b a = - EY a b
 | [], [] => rfl
 | [], _ :: _ => rfl
 | _ :: _, [] => rfl
 | a :: as1, b :: bs => by
  have := J2 as1 bs
  unfold EY
  by_cases h1 : a < b
  ·simp [h1, show ¬ b < a from by omega]
  ·by_cases h2 : b < a
   ·simp [h1, h2]
   ·simp [h1, h2, this]
theorem TA : ∀ a b c : List Int, EY a b ≤ 0 → EY b c ≤ 0 → EY a c ≤ 0
 | [], _, [], _, _ => by simp [EY]
 | [], _, _ :: _, _, _ => by simp [EY]
 | _ :: _, [], _, h, _ => by simp [EY] at h
 | _ :: _, _ :: _, [], _, h => by simp [EY] at h
 | a :: as1, b :: bs, c :: cs, h1, h2 => by
  have ih := TA as1 bs cs
  unfold EY at h1 h2 ⊢
  split at h1 <;> split at h2 <;> (try split at h1) <;> (try split at h2) <;> split <;> (try split) <;> omega
def Su : List Int → Int
 | [] => 0
 | x :: xs => if x = 0 then Su xs else x
theorem cd (N : Nat) (a : List Int) (hb : a.length < 1000000) : ∀ (n i : Nat), i ≤ a.length → a.length - i < n →
  Fg N a (fun _ => some 0) n (i : Int) = some (Su (a.drop i))
 | 0, i, _, h => by omega
 | n + 1, i, hi, h => by
  unfold Fg
  by_cases h1 : i < a.length
  ·have ha : a[i]? = some a[i] := by simp [h1]
   rw [AG (by omega), Bc, ha, Df ha]
   simp only [oS, Su]
   rw [AT (by omega), cd N a hb n (i + 1) (by omega) (by omega)]
   by_cases h3 : a[i] = 0
   ·simp [h3]
   ·have : (a[i] != 0) = true := by simpa using h3
    simp [h3, this]
  ·rw [AC (by omega), List.drop_eq_nil_of_le (by omega : a.length ≤ i)]
   simp [Su]
theorem YP {N : Nat} {a : List Int} (h : a.length < N) (hN : N ≤ 1000000) : Gm N a = some (Su a) := by
 have := cd N a (by omega) N 0 (by omega) (by omega)
 simpa [Gm] using this
theorem au (N : Nat) (a : List Int) (hb : a.length < 1000000) (hw : MO KH a) : ∀ (n i : Nat), i ≤ a.length → a.length - i < n →
  C6 N a (fun v => some v) n (a.take i, (i : Int)) = some a
 | 0, i, _, h => by omega
 | n + 1, i, hi, h => by
  unfold C6
  by_cases h1 : i < a.length
  ·have ha : a[i]? = some a[i] := by simp [h1]
   rw [AG (by simpa using h1)]
   simp only
   rw [Bc, ha]
   have hr : wI .i64 a[i] = a[i] := by
    have := hw a[i] (List.getElem_mem h1)
    unfold KH at this
    have h2 : 0 ≤ a[i] ∧ a[i] ≤ 255 := by simpa [Lit.wf, IntKind.min, IntKind.max, IntKind.signed, IntKind.bits] using this
    exact CM (by omega) (by omega)
   simp only [oS, hr]
   have hlen : (a.take i).length + ([a[i]] : List Int).length ≤ Eg := by
    simp [Eg]; omega
   rw [show EB ((a.take i).length + ([a[i]] : List Int).length ≤ Eg) = some () from by unfold EB; rw [if_pos hlen]]
   simp only [oS]
   rw [AT (by omega), show a.take i ++ [a[i]] = a.take (i + 1) from by rw [List.take_add_one, ha]; rfl]
   exact au N a hb hw n (i + 1) (by omega) (by omega)
  ·rw [AC (by simpa using h1)]
   simp only
   rw [List.take_of_length_le (by omega)]
theorem Nk {N : Nat} {a : List Int} (h : a.length < N) (hN : N ≤ 1000000) (hw : MO KH a) : DJ N a = some a := by
 have := au N a (by omega) hw N 0 (by omega) (by omega)
 simpa [DJ] using this
def ce (a : Af) : Prop := a.fd.length ≤ 8 ∧ a.fa.length ≤ 8 ∧ a.fe.length ≤ 14
def EU (a b : Af) : Int := Su [EY a.fd b.fd, EY a.fa b.fa, EY a.fe b.fe]
theorem Uf (a b : Af) : EU b a = - EU a b := by
 unfold EU
 rw [J2 a.fd b.fd, J2 a.fa b.fa, J2 a.fe b.fe]
 simp only [Su, Int.neg_eq_zero]
 split
 ·split
  ·split <;> simp_all
  ·rfl
 ·rfl
theorem Lm (a : Af) : EU a a = 0 := by unfold EU; simp [P5, Su]
def D1 {α R : Type} (f : Nat → α → Option R) : Nat → List α → Option R
 | _, [] => none
 | i, x :: xs => match f i x with
  | some r => some r
  | none => D1 f (i + 1) xs
theorem HF {α R : Type} (f : Nat → α → Option R) (i : Nat) (x : α) (xs : List α) : D1 f i (x :: xs) = match f i x with
  | some r => some r
  | none => D1 f (i + 1) xs := rfl
def BS {R : Type} (a : Option R) (b : Option R) : Option R := match a with
 | some r => some r
 | none => b
theorem De {α R : Type} (L : Nat → Int → Option R) (xs : List α) (j : Option R) (f : Nat → α → Option R)
  (hs : ∀ (n i : Nat) (x : α), xs[i]? = some x → L (n + 1) (i : Int) = BS (f i x) (L n ((i + 1 : Nat) : Int))) (he : ∀ n : Nat, L (n + 1) (xs.length : Int) = j) :
  ∀ n i : Nat, i ≤ xs.length → xs.length - i < n → L n (i : Int) = BS (D1 f i (xs.drop i)) j
 | 0, i, _, h => by omega
 | n + 1, i, hi, h => by
  by_cases h1 : i < xs.length
  ·have hx : xs[i]? = some xs[i] := by simp [h1]
   rw [hs n i _ hx, Df hx, De L xs j f hs he n (i + 1) (by omega) (by omega)]
   rw [HF]
   cases f i xs[i] <;> rfl
  ·have : i = xs.length := by omega
   subst this
   rw [he n, List.drop_eq_nil_of_le (Nat.le_refl _)]
   rfl
theorem PB (N : Nat) (k n : Int) : Ev N k n = some (decide (0 ≤ k) && decide (k < n)) := by
 unfold Ev
 simp only [Bh]
 by_cases h : 0 ≤ k
 ·rw [AG h]; simp [h]
 ·rw [AC h]; simp [h]
theorem M9 (N : Nat) (t : AQ) : Bq N t = some (t.fg == 3 || t.fg == 4) := by
 unfold Bq
 simp only [Bh]
 cases h : t.fg == 3 <;> simp
def sq (l : List (List Bool)) (n m : Int) : Bool := decide ((l.length : Int) = n) && l.all fun r => decide ((r.length : Int) = m)
theorem O7 {α : Type} (p : α → Bool) {R : Type} (r : Nat → R) : ∀ (i : Nat) (xs : List α), (D1 (fun i x => if p x then none else some (r i)) i xs).isNone = xs.all p
 | i, [] => rfl
 | i, x :: xs => by
  unfold D1
  cases h : p x <;> simp [h, O7 p r (i + 1) xs]
theorem Pu (N : Nat) (l : List (List Bool)) (n m : Int) (h : n < (N : Int)) (hN : N ≤ 1000000) : DR N l n m = some (sq l n m) := by
 unfold DR sq
 by_cases h1 : (l.length : Int) = n
 ·subst h1
  simp only [bne_self_eq_false, Aw, decide_true, Bool.true_and]
  have := De (CN N l (l.length : Int) m (fun _ => some true)) l (some true) (fun _ r => if decide ((r.length : Int) = m) then none else some false)
   (fun n i x hx => by
    have hi := (lI.1 hx).1
    rw [CN, AG (by omega), Bc, hx]
    simp only [oS]
    rw [AT (by omega)]
    by_cases h2 : (x.length : Int) = m
    ·simp [h2, BS]
    ·have : ((x.length : Int) != m) = true := by simpa using h2
     simp [h2, this, BS])
   (fun n => by rw [CN, AC (by omega)]) N 0 (by omega) (by omega)
  simp only [Int.ofNat_zero, List.drop_zero] at this
  rw [this]
  have h3 := O7 (fun r : List Bool => decide ((r.length : Int) = m)) (fun _ => false) 0 l
  cases hsc : D1 (fun (_ : Nat) (r : List Bool) => if decide ((r.length : Int) = m) = true then none else some false) 0 l with
  | none => rw [hsc] at h3; rw [← h3]; rfl
  | some b =>
   rw [hsc] at h3
   rw [← h3]
   have : ∀ (i : Nat) (xs : List (List Bool)) b, D1 (fun (_ : Nat) (r : List Bool) => if decide ((r.length : Int) = m) = true then none else some false) i xs = some b → b = false := by
    intro i xs
    induction xs generalizing i with
    | nil => intro b hb; cases hb
    | cons x xs ih =>
     intro b hb
     unfold D1 at hb
     split at hb
     ·rename_i r hr; cases hb; split at hr <;> simp at hr; exact hr
     ·exact ih _ b hb
   rw [this 0 l b hsc]; rfl
 ·have : ((l.length : Int) != n) = true := by simpa using h1
  simp [this, h1]
theorem P2 (N : Nat) (l : List (List Bool)) (n m : Int) (h : n < (N : Int)) (hN : N ≤ 1000000) : Fz N l n m = some (sq l n m) := by
 unfold Fz sq
 simp only [Bh]
 by_cases h1 : (l.length : Int) = n
 ·subst h1
  simp only [beq_self_eq_true, AN, decide_true, Bool.true_and]
  have := De (BG N l (fun x => Ek N x m) (fun _ => some (-1))) l (some (-1)) (fun i r => if decide ((r.length : Int) = m) then none else some (i : Int))
   (fun n i x hx => by
    have hi := (lI.1 hx).1
    rw [BG, AG (by omega), Bc, hx]
    simp only [oS, Ek]
    rw [AT (by omega)]
    by_cases h2 : (x.length : Int) = m
    ·simp [h2, BS]
    ·have : ((x.length : Int) != m) = true := by simpa using h2
     simp [h2, this, BS])
   (fun n => by rw [BG, AC (by omega)]) N 0 (by omega) (by omega)
  simp only [Int.ofNat_zero, List.drop_zero] at this
  unfold Dm DQ
  rw [this]
  have h3 := O7 (fun r : List Bool => decide ((r.length : Int) = m)) (fun i : Nat => (i : Int)) 0 l
  cases hsc : D1 (fun (i : Nat) (r : List Bool) => if decide ((r.length : Int) = m) = true then none else some (i : Int)) 0 l with
  | none => rw [hsc] at h3; rw [← h3]; rfl
  | some b =>
   rw [hsc] at h3
   rw [← h3]
   have : ∀ (i : Nat) (xs : List (List Bool)) b, D1 (fun (i : Nat) (r : List Bool) => if decide ((r.length : Int) = m) = true then none else some (i : Int)) i xs = some b → 0 ≤ b := by
    intro i xs
    induction xs generalizing i with
    | nil => intro b hb; cases hb
    | cons x xs ih =>
     intro b hb
     rw [HF] at hb
     split at hb
     ·rename_i r hr
      cases hb
      split at hr
      ·cases hr
      ·cases hr; omega
     ·exact ih _ b hb
   have := this 0 l b hsc
   simp [BS, this]
 ·have : ((l.length : Int) == n) = false := by simpa using h1
  simp [this, h1]
open List renaming mem_of_getElem? → lM
open List renaming getD_eq_getElem?_getD → lD
def Jw (l : List (List Bool)) : Option Int := D1 (fun i row => if row.getD i false then none else some 1) 0 l
theorem Rg {row : List Bool} {i : Nat} (h : i < row.length) : Bg row (i : Int) = some (row.getD i false) := by
 rw [Bc, lD]; simp [h]
theorem WT (N : Nat) (t : AQ) (h : t.fm.length < N) (hN : N ≤ 1000000) (hsq : ∀ row, row ∈ t.fm → row.length = t.fm.length) (j : Option Int) :
  Ci N t (fun _ => j) N 0 = BS (Jw t.fm) j := by
 have := De (Ci N t (fun _ => j)) t.fm j (fun i row => if row.getD i false then none else some 1)
  (fun n i x hx => by
   have hi := (lI.1 hx).1
   have hl := hsq x (lM hx)
   rw [Ci, AG (by omega), Bc, hx]
   simp only [oS]
   rw [Rg (by omega), AT (by omega)]
   simp only [oS]
   cases x.getD i false <;> rfl)
  (fun n => by rw [Ci, AC (by omega)]) N 0 (by omega) (by omega)
 simpa [Jw] using this
theorem Pv (N : Nat) (t : AQ) (h : t.fm.length < N) (hN : N ≤ 1000000) (hsq : ∀ row, row ∈ t.fm → row.length = t.fm.length) (j : Option Int) :
  Dw N t (fun _ => j) N 0 = BS (Jw t.fm) j := by
 have := De (Dw N t (fun _ => j)) t.fm j (fun i row => if row.getD i false then none else some 1)
  (fun n i x hx => by
   have hi := (lI.1 hx).1
   have hl := hsq x (lM hx)
   rw [Dw, AG (by omega), Bc, hx]
   simp only [oS]
   rw [Rg (by omega), AT (by omega)]
   simp only [oS]
   cases x.getD i false <;> rfl)
  (fun n => by rw [Dw, AC (by omega)]) N 0 (by omega) (by omega)
 simpa [Jw] using this
theorem NU {l : List (List Bool)} {n m : Int} (h : sq l n m = true) : (l.length : Int) = n ∧ ∀ row, row ∈ l → (row.length : Int) = m := by
 unfold sq at h
 simp only [Bool.and_eq_true, decide_eq_true_eq, List.all_eq_true] at h
 exact h
def EA (p : Ah) (t : AQ) : Int :=
 if t.fg < 1 ∨ 4 < t.fg ∨ (t.fp = true ∧ (t.fg = 3 ∨ t.fg = 4)) then 1
 else if t.fi < 0 ∨ (p.fb.length : Int) ≤ t.fi ∨ t.fk < 0 ∨ (p.fb.length : Int) ≤ t.fk then 4
 else
  let f := p.fb.getD t.fi.toNat 0
  let g := p.fb.getD t.fk.toNat 0
  if sq t.fq f g = false then 6
  else if t.fg = 4 then (if sq t.fm f f = false then 6 else (Jw t.fm).getD 0)
  else if t.fm.length = 0 then 0 else 6
theorem Fc {α : Type} {xs : List α} {i : Int} {d : α} (h0 : 0 ≤ i) (h1 : i < (xs.length : Int)) : Bg xs i = some (xs.getD i.toNat d) := by
 obtain ⟨k, rfl⟩ := Int.eq_ofNat_of_zero_le h0
 rw [Bc, lD, Int.toNat_natCast]
 simp [show k < xs.length from by omega]
theorem UE {t : AQ} (A B : Option Int) (hk : ¬ (t.fp = true ∧ (t.fg = 3 ∨ t.fg = 4))) : AW t.fp (AW (t.fg == 3 || t.fg == 4) A B) B = B := by
 cases ha : t.fp
 ·rfl
 ·have : (t.fg == 3 || t.fg == 4) = false := by
   rw [Bool.or_eq_false_iff]
   constructor
   ·simp only [beq_eq_false_iff_ne]; intro h; exact hk ⟨ha, .inl h⟩
   ·simp only [beq_eq_false_iff_ne]; intro h; exact hk ⟨ha, .inr h⟩
  rw [this]; rfl
theorem K7 {p : Ah} {i : Int} (hv : ∀ v, v ∈ p.fb → 1 ≤ v ∧ v ≤ 6) (h0 : 0 ≤ i) (h1 : i < (p.fb.length : Int)) : 1 ≤ p.fb.getD i.toNat 0 ∧ p.fb.getD i.toNat 0 ≤ 6 := by
 refine hv _ ?_
 rw [lD, List.getElem?_eq_getElem (by omega)]
 exact List.getElem_mem _
theorem T1 (N : Nat) (p : Ah) (t : AQ) (hN : N ≤ 1000000) (h6 : 7 ≤ N) (hv : ∀ v, v ∈ p.fb → 1 ≤ v ∧ v ≤ 6) : EZ N p t = some (EA p t) := by
 unfold EZ EA
 simp only [Bh, M9, oS]
 by_cases k1 : t.fg < 1
 ·simp [k1]
 by_cases k2 : 4 < t.fg
 ·simp [k1, k2]
 rw [AC k1, AC k2]
 by_cases hk : t.fp = true ∧ (t.fg = 3 ∨ t.fg = 4)
 ·obtain ⟨ha, k | k⟩ := hk <;> simp [ha, k]
 rw [Aw, UE _ _ hk, if_neg (fun h => h.elim k1 fun h => h.elim k2 hk)]
 by_cases f1 : t.fi < 0
 ·simp [f1]
 by_cases f2 : (p.fb.length : Int) ≤ t.fi
 ·simp [f1, f2]
 by_cases f3 : t.fk < 0
 ·simp [f1, f2, f3]
 by_cases f4 : (p.fb.length : Int) ≤ t.fk
 ·simp [f1, f2, f3, f4]
 rw [AC f1, AC f2, AC f3, if_neg (fun h => h.elim f1 fun h => h.elim f2 fun h => h.elim f3 f4)]
 have hf := K7 hv (i := t.fi) (by omega) (by omega)
 rw [decide_eq_false f4, Aw, Fc (d := 0) (by omega : 0 ≤ t.fi) (by omega), Fc (d := 0) (by omega : 0 ≤ t.fk) (by omega)]
 simp only [oS]
 generalize p.fb.getD t.fi.toNat 0 = f at *
 generalize p.fb.getD t.fk.toNat 0 = g at *
 rw [Pu N t.fq f g (by omega) hN, Pu N t.fm f f (by omega) hN]
 simp only [oS]
 cases hq : sq t.fq f g
 ·rfl
 simp only [Bool.not_true, Aw]
 by_cases k4 : t.fg = 4
 ·have : (t.fg != 4) = false := by simp [k4]
  rw [this, Aw]
  simp only [k4, if_true]
  cases hr : sq t.fm f f
  ·rfl
  ·have h7 := NU hr
   simp only [Bool.not_true, Aw]
   rw [WT N t (by omega) hN (fun row hm => by have := h7.2 row hm; omega)]
   cases Jw t.fm <;> simp [BS]
 ·have : (t.fg != 4) = true := by simpa using k4
  rw [this, AN]
  simp only [k4, if_false]
  by_cases hr : t.fm.length = 0
  ·simp [hr]
  ·have : ((t.fm.length : Int) != 0) = true := bne_iff_ne.2 (by omega)
   rw [this]; simp [hr]
theorem WR (N : Nat) (k : Int) (a : Bool) : Hf N k a = some (k == 1 || (k == 2 || ((k == 3 || k == 4) && !a))) := by
 unfold Hf
 simp only [Bh]
 cases h1 : k == 1 <;> cases h2 : k == 2 <;> cases h3 : k == 3 <;> cases h4 : k == 4 <;> cases a <;> rfl
theorem O1 (N : Nat) (p : Ah) (t : AQ) (hN : N ≤ 1000000) (h6 : 7 ≤ N) (hv : ∀ v, v ∈ p.fb → 1 ≤ v ∧ v ≤ 6) : GM N p t = some (EA p t) := by
 unfold GM EA
 simp only [Bh, WR, PB, oS]
 by_cases hb : t.fg < 1 ∨ 4 < t.fg ∨ (t.fp = true ∧ (t.fg = 3 ∨ t.fg = 4))
 ·have : (t.fg == 1 || (t.fg == 2 || ((t.fg == 3 || t.fg == 4) && !t.fp))) = false := by
   rcases hb with h | h | ⟨ha, h | h⟩
   ·rw [beq_eq_false_iff_ne.2 (by omega : t.fg ≠ 1), beq_eq_false_iff_ne.2 (by omega : t.fg ≠ 2), beq_eq_false_iff_ne.2 (by omega : t.fg ≠ 3), beq_eq_false_iff_ne.2 (by omega : t.fg ≠ 4)]; rfl
   ·rw [beq_eq_false_iff_ne.2 (by omega : t.fg ≠ 1), beq_eq_false_iff_ne.2 (by omega : t.fg ≠ 2), beq_eq_false_iff_ne.2 (by omega : t.fg ≠ 3), beq_eq_false_iff_ne.2 (by omega : t.fg ≠ 4)]; rfl
   ·simp [ha, h]
   ·simp [ha, h]
  rw [this, if_pos hb]; rfl
 ·have : (t.fg == 1 || (t.fg == 2 || ((t.fg == 3 || t.fg == 4) && !t.fp))) = true := by
   have hk : t.fg = 1 ∨ t.fg = 2 ∨ t.fg = 3 ∨ t.fg = 4 := by
    have h1 : ¬ t.fg < 1 := fun h => hb (.inl h)
    have h2 : ¬ 4 < t.fg := fun h => hb (.inr (.inl h))
    omega
   rcases hk with h | h | h | h
   ·simp [h]
   ·simp [h]
   ·cases ha : t.fp
    ·simp [h]
    ·exact (hb (.inr (.inr ⟨ha, .inl h⟩))).elim
   ·cases ha : t.fp
    ·simp [h]
    ·exact (hb (.inr (.inr ⟨ha, .inr h⟩))).elim
  rw [this, if_neg hb]
  simp only [Bool.not_true, Aw]
  by_cases f1 : t.fi < 0
  ·simp [f1, show ¬ (0 ≤ t.fi) from by omega]
  by_cases f2 : (p.fb.length : Int) ≤ t.fi
  ·simp [f2, show ¬ (t.fi < (p.fb.length : Int)) from by omega]
  by_cases f3 : t.fk < 0
  ·simp [f3, show 0 ≤ t.fi from by omega, show t.fi < (p.fb.length : Int) from by omega, show ¬ (0 ≤ t.fk) from by omega]
  by_cases f4 : (p.fb.length : Int) ≤ t.fk
  ·simp [f4, show 0 ≤ t.fi from by omega, show t.fi < (p.fb.length : Int) from by omega, show ¬ (t.fk < (p.fb.length : Int)) from by omega]
  rw [if_neg (fun h => h.elim f1 fun h => h.elim f2 fun h => h.elim f3 f4)]
  have hf := K7 hv (i := t.fi) (by omega) (by omega)
  have hg := K7 hv (i := t.fk) (by omega) (by omega)
  rw [decide_eq_true (by omega : 0 ≤ t.fi), decide_eq_true (by omega : t.fi < (p.fb.length : Int)), decide_eq_true (by omega : 0 ≤ t.fk), decide_eq_true (by omega : t.fk < (p.fb.length : Int)), Fc (d := 0) (by omega : 0 ≤ t.fi) (by omega), Fc (d := 0) (by omega : 0 ≤ t.fk) (by omega)]
  simp only [Bool.and_self, Bool.not_true, Aw, oS]
  generalize p.fb.getD t.fi.toNat 0 = f at *
  generalize p.fb.getD t.fk.toNat 0 = g at *
  rw [P2 N t.fq f g (by omega) hN, P2 N t.fm f f (by omega) hN]
  simp only [oS]
  cases hq : sq t.fq f g
  ·rfl
  simp only [Bool.not_true, Aw]
  by_cases k4 : t.fg = 4
  ·simp only [k4, beq_self_eq_true, AN, if_true]
   cases hr : sq t.fm f f
   ·rfl
   ·have h7 := NU hr
    simp only [Bool.not_true, Aw]
    rw [Pv N t (by omega) hN (fun row hm => by have := h7.2 row hm; omega)]
    cases Jw t.fm <;> simp [BS]
  ·have : (t.fg == 4) = false := beq_eq_false_iff_ne.2 k4
   rw [this, Aw]
   simp only [k4, if_false, Bool.not_false, AN]
   by_cases hr : t.fm.length = 0
   ·rw [Pv N t (by omega) hN (fun row hm => by rw [List.eq_nil_of_length_eq_zero hr] at hm; cases hm), List.eq_nil_of_length_eq_zero hr]
    simp [Jw, D1, BS]
   ·rw [decide_eq_true (by omega : 0 < (t.fm.length : Int))]
    simp [hr]
def Gw (p : Ah) (i : Nat) (v : Int) : Option Int :=
 if v < 1 ∨ 6 < v ∨ p.ff.getD i 0 < 0 ∨ v ≤ p.ff.getD i 0 ∨ p.fh.getD i 0 < 0 ∨ v ≤ p.fh.getD i 0 then some 7 else none
def MD (p : Ah) (_ : Nat) (t : AQ) : Option Int := if EA p t = 0 then none else some (EA p t)
def CR (p : Ah) : Int :=
 if 6 < p.fb.length ∨ 12 < p.fc.length then 3
 else if p.ff.length ≠ p.fb.length ∨ p.fh.length ≠ p.fb.length then 6
 else ((BS (D1 (Gw p) 0 p.fb) (D1 (MD p) 0 p.fc)).getD 0)
theorem FW {α R : Type} {f : Nat → α → Option R} : ∀ {i : Nat} {xs : List α}, D1 f i xs = none → ∀ j x, xs[j]? = some x → f (i + j) x = none
 | _, [], _, j, x, hx => by simp at hx
 | i, y :: ys, h, j, x, hx => by
  rw [HF] at h
  split at h
  ·cases h
  ·rename_i h0
   cases j with
   | zero => simp at hx; subst hx; exact h0
   | succ j =>
    have := FW h j x (by simpa using hx)
    rwa [show i + 1 + j = i + (j + 1) from by omega] at this
theorem N5 {p : Ah} (h : D1 (Gw p) 0 p.fb = none) : ∀ v, v ∈ p.fb → 1 ≤ v ∧ v ≤ 6 := by
 intro v hv
 obtain ⟨i, hi⟩ := List.mem_iff_getElem?.1 hv
 have := FW h i v hi
 unfold Gw at this
 split at this
 ·cases this
 ·rename_i hn
  constructor
  ·exact Int.not_lt.1 fun h => hn (.inl h)
  ·exact Int.not_lt.1 fun h => hn (.inr (.inl h))
theorem Dp {α : Type} {xs : List α} {i : Nat} {d : α} (h : i < xs.length) : Bg xs (i : Int) = some (xs.getD i d) := by
 rw [Bc, lD]; simp [h]
theorem SK (N : Nat) (p : Ah) (hN : N ≤ 1000000) (h1 : p.fb.length < N) (h2 : p.ff.length = p.fb.length) (h3 : p.fh.length = p.fb.length) (j : Option Int) :
  By N p (fun _ => j) N 0 = BS (D1 (Gw p) 0 p.fb) j := by
 have := De (By N p (fun _ => j)) p.fb j (Gw p)
  (fun n i x hx => by
   have hi := (lI.1 hx).1
   rw [By, AG (by omega), Bc, hx]
   simp only [oS, Bh]
   rw [Dp (d := 0) (by omega), Dp (d := 0) (by omega), AT (by omega)]
   simp only [oS]
   unfold Gw
   generalize p.ff.getD i 0 = a
   generalize p.fh.getD i 0 = b
   by_cases k1 : x < 1 <;> by_cases k2 : 6 < x <;> by_cases k3 : a < 0 <;> by_cases k4 : x ≤ a <;> by_cases k5 : b < 0 <;> by_cases k6 : x ≤ b <;> simp [k1, k2, k3, k4, k5, k6, BS])
  (fun n => by rw [By, AC (by omega)]) N 0 (by omega) (by omega)
 simpa using this
theorem QJ (N : Nat) (p : Ah) (hN : N ≤ 1000000) (h1 : p.fb.length < N) (h2 : p.ff.length = p.fb.length) (h3 : p.fh.length = p.fb.length) (j : Option Int) :
  Cf N p (fun _ => j) N 0 = BS (D1 (Gw p) 0 p.fb) j := by
 have := De (Cf N p (fun _ => j)) p.fb j (Gw p)
  (fun n i x hx => by
   have hi := (lI.1 hx).1
   rw [Cf, AG (by omega), Bc, hx]
   simp only [oS, Bh, PB]
   rw [Dp (d := 0) (by omega), Dp (d := 0) (by omega), AT (by omega)]
   simp only [oS]
   unfold Gw
   generalize p.ff.getD i 0 = a
   generalize p.fh.getD i 0 = b
   have e1 : decide (0 ≤ a) = !decide (a < 0) := by rw [← decide_not]; congr 1; simp
   have e2 : decide (a < x) = !decide (x ≤ a) := by rw [← decide_not]; congr 1; simp
   have e3 : decide (0 ≤ b) = !decide (b < 0) := by rw [← decide_not]; congr 1; simp
   have e4 : decide (b < x) = !decide (x ≤ b) := by rw [← decide_not]; congr 1; simp
   rw [e1, e2, e3, e4]
   by_cases k1 : x < 1 <;> by_cases k2 : 6 < x <;> by_cases k3 : a < 0 <;> by_cases k4 : x ≤ a <;> by_cases k5 : b < 0 <;> by_cases k6 : x ≤ b <;> simp [k1, k2, k3, k4, k5, k6, BS])
  (fun n => by rw [Cf, AC (by omega)]) N 0 (by omega) (by omega)
 simpa using this
theorem VX (N : Nat) (p : Ah) (hN : N ≤ 1000000) (h6 : 7 ≤ N) (h1 : p.fc.length < N) (hv : ∀ v, v ∈ p.fb → 1 ≤ v ∧ v ≤ 6) (j : Option Int) :
  Bt N p (fun _ => j) N 0 = BS (D1 (MD p) 0 p.fc) j := by
 have := De (Bt N p (fun _ => j)) p.fc j (MD p)
  (fun n i x hx => by
   have hi := (lI.1 hx).1
   rw [Bt, AG (by omega), Bc, hx]
   simp only [oS]
   rw [T1 N p x hN h6 hv, AT (by omega)]
   simp only [oS]
   unfold MD
   by_cases k : EA p x = 0
   ·simp [k, BS]
   ·rw [bne_iff_ne.2 k, if_neg k]; rfl)
  (fun n => by rw [Bt, AC (by omega)]) N 0 (by omega) (by omega)
 simpa using this
theorem S9 (N : Nat) (p : Ah) (hN : N ≤ 1000000) (h6 : 7 ≤ N) (h1 : p.fc.length < N) (hv : ∀ v, v ∈ p.fb → 1 ≤ v ∧ v ≤ 6) (j : Option Int) :
  B8 N p (fun _ => j) N 0 = BS (D1 (MD p) 0 p.fc) j := by
 have := De (B8 N p (fun _ => j)) p.fc j (MD p)
  (fun n i x hx => by
   have hi := (lI.1 hx).1
   rw [B8, AG (by omega), Bc, hx]
   simp only [oS]
   rw [O1 N p x hN h6 hv, AT (by omega)]
   simp only [oS]
   unfold MD
   by_cases k : EA p x = 0
   ·simp [k, BS]
   ·rw [bne_iff_ne.2 k, if_neg k]; rfl)
  (fun n => by rw [B8, AC (by omega)]) N 0 (by omega) (by omega)
 simpa using this
theorem O8 (N : Nat) (p : Ah) (hN : N ≤ 1000000) (h : 20 ≤ N) : CP N p = some (CR p) := by
 unfold CP CR
 simp only [Bh]
 by_cases k1 : 6 < p.fb.length
 ·rw [AG (by omega)]; simp [k1]
 rw [AC (by omega)]
 by_cases k2 : 12 < p.fc.length
 ·rw [decide_eq_true (by omega : (12 : Int) < (p.fc.length : Int))]; simp [k2]
 rw [decide_eq_false (by omega : ¬ (12 : Int) < (p.fc.length : Int)), Aw, if_neg (by omega)]
 by_cases k3 : p.ff.length = p.fb.length
 ·by_cases k4 : p.fh.length = p.fb.length
  ·rw [k3, k4]
   simp only [bne_self_eq_false, Aw, ne_eq, not_true_eq_false, or_self, if_false]
   rw [SK N p hN (by omega) k3 k4]
   cases hs : D1 (Gw p) 0 p.fb with
   | some r => rfl
   | none =>
    simp only [BS]
    rw [VX N p hN (by omega) (by omega) (N5 hs)]
    cases D1 (MD p) 0 p.fc <;> rfl
  ·have : ((p.fh.length : Int) != (p.fb.length : Int)) = true := bne_iff_ne.2 (by omega)
   rw [this, k3]; simp [k4]
 ·have : ((p.ff.length : Int) != (p.fb.length : Int)) = true := bne_iff_ne.2 (by omega)
  rw [this]; simp [k3]
theorem Ma (N : Nat) (p : Ah) (hN : N ≤ 1000000) (h : 20 ≤ N) : CS N p = some (CR p) := by
 unfold CS CR
 simp only [Bh]
 by_cases k1 : 6 < p.fb.length
 ·rw [AG (by omega)]; simp [k1]
 rw [AC (by omega)]
 by_cases k2 : 12 < p.fc.length
 ·rw [decide_eq_true (by omega : (12 : Int) < (p.fc.length : Int))]; simp [k2]
 rw [decide_eq_false (by omega : ¬ (12 : Int) < (p.fc.length : Int)), Aw, if_neg (by omega)]
 by_cases k3 : p.ff.length = p.fb.length
 ·by_cases k4 : p.fh.length = p.fb.length
  ·rw [k3, k4]
   simp only [bne_self_eq_false, Aw, ne_eq, not_true_eq_false, or_self, if_false]
   rw [QJ N p hN (by omega) k3 k4]
   cases hs : D1 (Gw p) 0 p.fb with
   | some r => rfl
   | none =>
    simp only [BS]
    rw [S9 N p hN (by omega) (by omega) (N5 hs)]
    cases D1 (MD p) 0 p.fc <;> rfl
  ·have : ((p.fh.length : Int) != (p.fb.length : Int)) = true := bne_iff_ne.2 (by omega)
   rw [this, k3]; simp [k4]
 ·have : ((p.ff.length : Int) != (p.fb.length : Int)) = true := bne_iff_ne.2 (by omega)
  rw [this]; simp [k3]
theorem Jl {n : Int} (h : KH n) : 0 ≤ n ∧ n ≤ 255 := by
 unfold KH at h
 simpa [Lit.wf, IntKind.min, IntKind.max, IntKind.signed, IntKind.bits] using h
theorem Pd : ∀ k : Fin 256, DF .u8 0 (k.val : Int) = 0 := by decide +kernel
theorem Pp : ∀ k : Fin 256, DF .u8 (k.val : Int) 0 = (k.val : Int) := by decide +kernel
theorem VM {n : Int} (h : KH n) : DF .u8 0 n = 0 := by
 have := Jl h
 obtain ⟨k, rfl⟩ := Int.eq_ofNat_of_zero_le this.1
 exact Pd ⟨k, by omega⟩
theorem VT {n : Int} (h : KH n) : DF .u8 n 0 = n := by
 have := Jl h
 obtain ⟨k, rfl⟩ := Int.eq_ofNat_of_zero_le this.1
 exact Pp ⟨k, by omega⟩
theorem EJ {α R : Type} {f : Nat → α → Option R} : ∀ {i : Nat} {xs : List α} {r : R}, D1 f i xs = some r → ∃ j x, xs[j]? = some x ∧ f (i + j) x = some r
 | _, [], _, h => by cases h
 | i, y :: ys, r, h => by
  rw [HF] at h
  split at h
  ·rename_i r' h0
   cases h
   exact ⟨0, y, rfl, h0⟩
  ·obtain ⟨j, x, h1, h2⟩ := EJ h
   exact ⟨j + 1, x, by simpa using h1, by rwa [show i + (j + 1) = i + 1 + j from by omega]⟩
structure BB (p : Ah) : Prop where
 nv : p.fb.length ≤ 6
 nt : p.fc.length ≤ 12
 now : p.ff.length = p.fb.length
 tgt : p.fh.length = p.fb.length
 ver : ∀ v, v ∈ p.fb → 1 ≤ v ∧ v ≤ 6
 tab : ∀ t, t ∈ p.fc → EA p t = 0
theorem SC (l : List (List Bool)) : (Jw l).getD 0 = 0 ∨ (Jw l).getD 0 = 1 := by
 cases h : Jw l with
 | none => exact .inl rfl
 | some r =>
  obtain ⟨j, x, _, h⟩ := EJ h
  split at h
  ·cases h
  ·cases h; exact .inr rfl
theorem Qo (p : Ah) (t : AQ) : EA p t = 0 ∨ EA p t = 1 ∨ EA p t = 4 ∨ EA p t = 6 := by
 unfold EA
 split
 ·exact .inr (.inl rfl)
 split
 ·exact .inr (.inr (.inl rfl))
 simp only
 split
 ·exact .inr (.inr (.inr rfl))
 split
 ·split
  ·exact .inr (.inr (.inr rfl))
  ·rcases SC t.fm with h | h
   ·exact .inl h
   ·exact .inr (.inl h)
 ·split
  ·exact .inl rfl
  ·exact .inr (.inr (.inr rfl))
theorem HV (p : Ah) : (CR p = 0 ∧ BB p) ∨ (CR p = 1 ∨ CR p = 3 ∨ CR p = 4 ∨ CR p = 6 ∨ CR p = 7) := by
 unfold CR
 split
 ·simp
 rename_i k1
 split
 ·simp
 rename_i k2
 cases hs : D1 (Gw p) 0 p.fb with
 | some r =>
  obtain ⟨j, x, _, h⟩ := EJ hs
  unfold Gw at h
  split at h
  ·cases h; simp [BS]
  ·cases h
 | none =>
  cases ht : D1 (MD p) 0 p.fc with
  | some r =>
   obtain ⟨j, t, _, h⟩ := EJ ht
   unfold MD at h
   split at h
   ·cases h
   ·rename_i hne
    cases h
    simp only [BS, Option.getD_some]
    right
    rcases Qo p t with h | h | h | h
    ·exact (hne h).elim
    ·exact .inl h
    ·exact .inr (.inr (.inl h))
    ·exact .inr (.inr (.inr (.inl h)))
  | none =>
   left
   refine ⟨rfl, by omega, by omega, by omega, by omega, N5 hs, fun t hm => ?_⟩
   obtain ⟨j, hj⟩ := List.mem_iff_getElem?.1 hm
   have := FW ht j t hj
   unfold MD at this
   split at this
   ·assumption
   ·cases this
def Hd (m : Af) (s : Nat) : Int :=
 if 0 ≤ m.fa.getD s 0 then Pa .u8 (CJ .u8 1 (m.fd.getD s 0)) (CJ .u8 1 (m.fa.getD s 0)) else CJ .u8 1 (m.fd.getD s 0)
def KV (m : Af) (i : Nat) (v : Int) : Option Int :=
 if m.fd.getD i 0 < 0 ∨ v ≤ m.fd.getD i 0 ∨ m.fa.getD i 0 < -1 ∨ v ≤ m.fa.getD i 0 then some 7
 else if m.fd.getD i 0 = m.fa.getD i 0 then some 1 else none
def Cy (t : AQ) : Bool := t.fg == 3 || t.fg == 4
def WX (p : Ah) (t : AQ) : Int := wI .u8 (CJ .u8 1 (p.fb.getD t.fi.toNat 0) - 1)
def IN (p : Ah) (m : Af) (i : Nat) (t : AQ) : Option Int :=
 if Cy t = true then (if DF .u8 (Hd m t.fi.toNat) (m.fe.getD i 0) ≠ 0 ∨ DF .u8 (m.fe.getD i 0) (WX p t) ≠ 0 then some 1 else none)
 else if m.fe.getD i 0 ≠ 0 then some 1 else none
def B7 (p : Ah) (m : Af) : Int :=
 if CR p ≠ 0 then CR p
 else if m.fd.length ≠ p.fb.length ∨ m.fa.length ≠ p.fb.length ∨ m.fe.length ≠ p.fc.length then 6
 else (BS (D1 (KV m) 0 p.fb) (D1 (IN p m) 0 p.fc)).getD 0
theorem Jd {p : Ah} {t : AQ} (h : EA p t = 0) : 0 ≤ t.fi ∧ t.fi < (p.fb.length : Int) ∧ 0 ≤ t.fk ∧ t.fk < (p.fb.length : Int) := by
 unfold EA at h
 split at h
 ·cases h
 ·split at h
  ·cases h
  ·omega
theorem LM (N : Nat) (m : Af) (s : Int) (h0 : 0 ≤ s) (h1 : s < (m.fd.length : Int)) (h2 : s < (m.fa.length : Int)) (hb : 0 ≤ m.fd.getD s.toNat 0) : Fk N m s = some (Hd m s.toNat) := by
 unfold Fk Hd
 rw [Fc (d := 0) h0 h1, Fc (d := 0) h0 h2]
 simp only [oS, Bh]
 rw [show EB (0 ≤ m.fd.getD s.toNat 0) = some () from by unfold EB; rw [if_pos hb]]
 simp only [oS]
 by_cases h : 0 ≤ m.fa.getD s.toNat 0
 ·rw [AG h, if_pos h, show EB (0 ≤ m.fa.getD s.toNat 0) = some () from by unfold EB; rw [if_pos h]]; rfl
 ·rw [AC h, if_neg h]
theorem Kt (N : Nat) (m : Af) (s : Int) (h0 : 0 ≤ s) (h1 : s < (m.fd.length : Int)) (h2 : s < (m.fa.length : Int)) (hb : 0 ≤ m.fd.getD s.toNat 0) : Cc N m s = some (Hd m s.toNat) := by
 unfold Cc Hd
 rw [Fc (d := 0) h0 h1, Fc (d := 0) h0 h2]
 simp only [oS, Bh]
 rw [show EB (0 ≤ m.fd.getD s.toNat 0) = some () from by unfold EB; rw [if_pos hb]]
 simp only [oS]
 by_cases h : 0 ≤ m.fa.getD s.toNat 0
 ·rw [AG h, if_pos h, show EB (0 ≤ m.fa.getD s.toNat 0) = some () from by unfold EB; rw [if_pos h]]; rfl
 ·rw [AC h, if_neg h]
theorem Q1 (N : Nat) (p : Ah) (m : Af) (hN : N ≤ 1000000) (h1 : p.fb.length < N) (h2 : m.fd.length = p.fb.length) (h3 : m.fa.length = p.fb.length) (j : Option Int) :
  Eu N p m (fun _ => j) N 0 = BS (D1 (KV m) 0 p.fb) j := by
 have := De (Eu N p m (fun _ => j)) p.fb j (KV m)
  (fun n i x hx => by
   have hi := (lI.1 hx).1
   rw [Eu, AG (by omega), Bc, hx]
   simp only [oS, Bh]
   rw [Dp (d := 0) (by omega), Dp (d := 0) (by omega), AT (by omega)]
   simp only [oS]
   unfold KV
   generalize m.fd.getD i 0 = a
   generalize m.fa.getD i 0 = b
   by_cases k7 : a = b
   ·subst k7
    by_cases k3 : a < 0 <;> by_cases k4 : x ≤ a <;> by_cases k5 : a < -1 <;> simp [k3, k4, k5, BS]
   ·have k8 : (a == b) = false := beq_eq_false_iff_ne.2 k7
    by_cases k3 : a < 0 <;> by_cases k4 : x ≤ a <;> by_cases k5 : b < -1 <;> by_cases k6 : x ≤ b <;> simp [k3, k4, k5, k6, k7, k8, BS])
  (fun n => by rw [Eu, AC (by omega)]) N 0 (by omega) (by omega)
 simpa using this
theorem Qq (N : Nat) (p : Ah) (m : Af) (hN : N ≤ 1000000) (h1 : p.fb.length < N) (h2 : m.fd.length = p.fb.length) (h3 : m.fa.length = p.fb.length) (j : Option Int) :
  Cu N p m (fun _ => j) N 0 = BS (D1 (KV m) 0 p.fb) j := by
 have := De (Cu N p m (fun _ => j)) p.fb j (KV m)
  (fun n i x hx => by
   have hi := (lI.1 hx).1
   rw [Cu, AG (by omega), show Bg p.fb (i : Int) = some x from by rw [Bc, hx]]
   simp only [oS, Bh]
   rw [Dp (d := 0) (by omega), Dp (d := 0) (by omega), AT (by omega)]
   simp only [oS]
   unfold KV
   generalize m.fd.getD i 0 = a
   generalize m.fa.getD i 0 = b
   by_cases k7 : a = b
   ·subst k7
    by_cases k3 : a < 0 <;> by_cases k4 : x ≤ a <;> by_cases k5 : a < -1 <;> simp [k3, k4, k5, BS]
   ·have k8 : (a == b) = false := beq_eq_false_iff_ne.2 k7
    by_cases k3 : a < 0 <;> by_cases k4 : x ≤ a <;> by_cases k5 : b < -1 <;> by_cases k6 : x ≤ b <;> simp [k3, k4, k5, k6, k7, k8, BS])
  (fun n => by rw [Cu, AC (by omega)]) N 0 (by omega) (by omega)
 simpa using this
structure MixServ (p : Ah) (m : Af) : Prop where
 base : m.fd.length = p.fb.length
 next : m.fa.length = p.fb.length
 held : m.fe.length = p.fc.length
 b0 : ∀ i, i < p.fb.length → 0 ≤ m.fd.getD i 0 ∧ m.fd.getD i 0 < p.fb.getD i 0
 n0 : ∀ i, i < p.fb.length → -1 ≤ m.fa.getD i 0 ∧ m.fa.getD i 0 < p.fb.getD i 0
 ne : ∀ i, i < p.fb.length → m.fd.getD i 0 ≠ m.fa.getD i 0
theorem Qu {p : Ah} {m : Af} (h2 : m.fd.length = p.fb.length) (h3 : m.fa.length = p.fb.length) (h4 : m.fe.length = p.fc.length) (h : D1 (KV m) 0 p.fb = none) : MixServ p m := by
 have key : ∀ i, i < p.fb.length → ¬ (m.fd.getD i 0 < 0 ∨ p.fb.getD i 0 ≤ m.fd.getD i 0 ∨ m.fa.getD i 0 < -1 ∨ p.fb.getD i 0 ≤ m.fa.getD i 0) ∧ ¬ m.fd.getD i 0 = m.fa.getD i 0 := by
  intro i hi
  have hx : p.fb[i]? = some (p.fb.getD i 0) := by rw [lD]; simp [hi]
  have := FW h i _ hx
  rw [Nat.zero_add] at this
  unfold KV at this
  split at this
  ·cases this
  ·split at this
   ·cases this
   ·rename_i k1 k2; exact ⟨k1, k2⟩
 exact ⟨h2, h3, h4, fun i hi => by have := (key i hi).1; omega, fun i hi => by have := (key i hi).1; omega, fun i hi => (key i hi).2⟩
theorem RB {m : Af} (hw : MO KH m.fe) {i : Nat} (h : i < m.fe.length) : KH (m.fe.getD i 0) := by
 refine hw _ ?_
 rw [lD, List.getElem?_eq_getElem h]
 exact List.getElem_mem _
theorem JV (N : Nat) (t : AQ) : FL N t = some (Cy t) := by
 unfold FL Cy
 simp only [Bh]
 cases h : t.fg == 3 <;> simp
theorem Hj (N : Nat) (t : AQ) : Bq N t = some (Cy t) := M9 N t
theorem S5 (N : Nat) (p : Ah) (m : Af) (hN : N ≤ 1000000) (h1 : p.fc.length < N) (hp : BB p) (hm : MixServ p m) (hw : MO KH m.fe) (j : Option Int) :
  D3 N p m (fun _ => j) N 0 = BS (D1 (IN p m) 0 p.fc) j := by
 have := De (D3 N p m (fun _ => j)) p.fc j (IN p m)
  (fun n i x hx => by
   have hi := (lI.1 hx).1
   have hin := Jd (hp.tab x (lM hx))
   have hheld := RB hw (show i < m.fe.length from by rw [hm.held]; exact hi)
   have hv := K7 hp.ver hin.1 hin.2.1
   rw [D3, AG (by omega), Bc, hx]
   simp only [oS, Bh, JV]
   rw [LM N m x.fi hin.1 (by rw [hm.base]; exact hin.2.1) (by rw [hm.next]; exact hin.2.1) (hm.b0 _ (by omega)).1, Fc (d := 0) hin.1 hin.2.1, Dp (d := 0) (show i < m.fe.length from by rw [hm.held]; exact hi), AT (by omega)]
   simp only [oS]
   rw [show EB (0 ≤ p.fb.getD x.fi.toNat 0) = some () from by unfold EB; rw [if_pos (by omega)]]
   simp only [oS]
   unfold IN WX
   rw [VM hheld, VT hheld]
   generalize DF .u8 (Hd m x.fi.toNat) (m.fe.getD i 0) = A
   generalize DF .u8 (m.fe.getD i 0) (wI .u8 (CJ .u8 1 (p.fb.getD x.fi.toNat 0) - 1)) = B
   generalize m.fe.getD i 0 = H
   cases Cy x
   ·simp only [Aw, bne_self_eq_false]
    by_cases k : H = 0
    ·simp [k, BS]
    ·have : (H != 0) = true := bne_iff_ne.2 k
     simp [k, this, BS]
   ·simp only [AN]
    by_cases k : A = 0
    ·by_cases k2 : B = 0
     ·simp [k, k2, BS]
     ·have : (B != 0) = true := bne_iff_ne.2 k2
      simp [k, k2, this, BS]
    ·have : (A != 0) = true := bne_iff_ne.2 k
     simp [k, this, BS])
  (fun n => by rw [D3, AC (by omega)]) N 0 (by omega) (by omega)
 simpa using this
theorem SA (N : Nat) (p : Ah) (m : Af) (hN : N ≤ 1000000) (h1 : p.fc.length < N) (hp : BB p) (hm : MixServ p m) (j : Option Int) :
  Ch N p m (fun _ => j) N 0 = BS (D1 (IN p m) 0 p.fc) j := by
 have := De (Ch N p m (fun _ => j)) p.fc j (IN p m)
  (fun n i x hx => by
   have hi := (lI.1 hx).1
   have hin := Jd (hp.tab x (lM hx))
   have hv := K7 hp.ver hin.1 hin.2.1
   rw [Ch, AG (by omega), Bc, hx]
   simp only [oS, Bh, Hj]
   rw [Kt N m x.fi hin.1 (by rw [hm.base]; exact hin.2.1) (by rw [hm.next]; exact hin.2.1) (hm.b0 _ (by omega)).1, Fc (d := 0) hin.1 hin.2.1, Dp (d := 0) (show i < m.fe.length from by rw [hm.held]; exact hi), AT (by omega)]
   simp only [oS]
   rw [show EB (0 ≤ p.fb.getD x.fi.toNat 0) = some () from by unfold EB; rw [if_pos (by omega)]]
   simp only [oS]
   unfold IN WX
   generalize DF .u8 (Hd m x.fi.toNat) (m.fe.getD i 0) = A
   generalize DF .u8 (m.fe.getD i 0) (wI .u8 (CJ .u8 1 (p.fb.getD x.fi.toNat 0) - 1)) = B
   generalize m.fe.getD i 0 = H
   cases Cy x
   ·simp only [Bool.not_false, AN, Aw]
    by_cases k : H = 0
    ·simp [k, BS]
    ·have : (H != 0) = true := bne_iff_ne.2 k
     simp [k, this, BS]
   ·simp only [Bool.not_true, Aw, AN]
    by_cases k : A = 0
    ·by_cases k2 : B = 0
     ·simp [k, k2, BS]
     ·have : (B != 0) = true := bne_iff_ne.2 k2
      simp [k, k2, this, BS]
    ·have : (A != 0) = true := bne_iff_ne.2 k
     by_cases k2 : B = 0
     ·simp [k, k2, this, BS]
     ·have h5 : (B != 0) = true := bne_iff_ne.2 k2
      simp [k, h5, BS])
  (fun n => by rw [Ch, AC (by omega)]) N 0 (by omega) (by omega)
 simpa using this
theorem H1 (N : Nat) (p : Ah) (m : Af) (hN : N ≤ 1000000) (h : 20 ≤ N) (hw : MO KH m.fe) : Fd N p m = some (B7 p m) := by
 unfold Fd B7
 rw [Ma N p hN h]
 simp only [oS, Bh]
 by_cases k0 : CR p = 0
 ·have hp : BB p := by
   rcases HV p with h | h
   ·exact h.2
   ·omega
  have hnv := hp.nv
  have hnt := hp.nt
  rw [k0]
  simp only [bne_self_eq_false, Aw, ne_eq, not_true_eq_false, if_false]
  by_cases k1 : m.fd.length = p.fb.length
  ·by_cases k2 : m.fa.length = p.fb.length
   ·by_cases k3 : m.fe.length = p.fc.length
    ·rw [k1, k2, k3]
     simp only [bne_self_eq_false, Aw, not_true_eq_false, or_self, if_false]
     rw [Q1 N p m hN (by omega) k1 k2]
     cases hs : D1 (KV m) 0 p.fb with
     | some r => rfl
     | none =>
      simp only [BS]
      rw [S5 N p m hN (by omega) hp (Qu k1 k2 k3 hs) hw]
      cases D1 (IN p m) 0 p.fc <;> rfl
    ·have : ((m.fe.length : Int) != (p.fc.length : Int)) = true := bne_iff_ne.2 (by omega)
     rw [this, k1, k2]; simp [k3]
   ·have : ((m.fa.length : Int) != (p.fb.length : Int)) = true := bne_iff_ne.2 (by omega)
    rw [this, k1]; simp [k2]
  ·have : ((m.fd.length : Int) != (p.fb.length : Int)) = true := bne_iff_ne.2 (by omega)
   rw [this]; simp [k1]
 ·rw [bne_iff_ne.2 k0]; simp [k0]
theorem Mg (N : Nat) (p : Ah) (m : Af) (hN : N ≤ 1000000) (h : 20 ≤ N) : D5 N p m = some (B7 p m) := by
 unfold D5 B7
 rw [O8 N p hN h]
 simp only [oS, Bh]
 by_cases k0 : CR p = 0
 ·have hp : BB p := by
   rcases HV p with h | h
   ·exact h.2
   ·omega
  have hnv := hp.nv
  have hnt := hp.nt
  rw [k0]
  simp only [bne_self_eq_false, Aw, ne_eq, not_true_eq_false, if_false]
  by_cases k1 : m.fd.length = p.fb.length
  ·by_cases k2 : m.fa.length = p.fb.length
   ·by_cases k3 : m.fe.length = p.fc.length
    ·rw [k1, k2, k3]
     simp only [bne_self_eq_false, Aw, not_true_eq_false, or_self, if_false]
     rw [Qq N p m hN (by omega) k1 k2]
     cases hs : D1 (KV m) 0 p.fb with
     | some r => rfl
     | none =>
      simp only [BS]
      rw [SA N p m hN (by omega) hp (Qu k1 k2 k3 hs)]
      cases D1 (IN p m) 0 p.fc <;> rfl
    ·have : ((m.fe.length : Int) != (p.fc.length : Int)) = true := bne_iff_ne.2 (by omega)
     rw [this, k1, k2]; simp [k3]
   ·have : ((m.fa.length : Int) != (p.fb.length : Int)) = true := bne_iff_ne.2 (by omega)
    rw [this, k1]; simp [k2]
  ·have : ((m.fd.length : Int) != (p.fb.length : Int)) = true := bne_iff_ne.2 (by omega)
   rw [this]; simp [k1]
 ·rw [bne_iff_ne.2 k0]; simp [k0]
theorem Qb (p : Ah) (m : Af) : B7 p m = 0 ∨ B7 p m = 1 ∨ B7 p m = 3 ∨ B7 p m = 4 ∨ B7 p m = 6 ∨ B7 p m = 7 := by
 unfold B7
 split
 ·rename_i h
  rcases HV p with h1 | h1
  ·exact (h h1.1).elim
  ·exact .inr h1
 split
 ·simp
 cases hs : D1 (KV m) 0 p.fb with
 | some r =>
  obtain ⟨j, x, _, h⟩ := EJ hs
  unfold KV at h
  split at h
  ·cases h; simp [BS]
  ·split at h
   ·cases h; simp [BS]
   ·cases h
 | none =>
  cases ht : D1 (IN p m) 0 p.fc with
  | some r =>
   obtain ⟨j, x, _, h⟩ := EJ ht
   unfold IN at h
   split at h
   ·split at h
    ·cases h; simp [BS]
    ·cases h
   ·split at h
    ·cases h; simp [BS]
    ·cases h
  | none => simp [BS]
@[simp] theorem Bf {α β : Type} (k : α) (f : α → β) : Bh k f = f k := rfl
@[simp] theorem Vb {p : Prop} [Decidable p] (h : p) : EB p = some () := by unfold EB; rw [if_pos h]
theorem AI {β : Type} {p : Prop} [Decidable p] (h : p) (f : Unit → Option β) : (EB p).bind f = f () := by rw [Vb h]; rfl
theorem WF {α : Type} (b : Bool) (x y : Option α) : AW b x y = if b = true then x else y := by cases b <;> rfl
def Dg {α β : Type} (g : Nat → α → List β) : Nat → List α → List β
 | _, [] => []
 | i, x :: xs => g i x ++ Dg g (i + 1) xs
def IL {α A : Type} (f : Nat → α → A → A) : Nat → List α → A → A
 | _, [], a => a
 | i, x :: xs, a => IL f (i + 1) xs (f i x a)
theorem Mk {α β : Type} (g : Nat → α → List β) : ∀ (i : Nat) (xs ys : List α), Dg g i (xs ++ ys) = Dg g i xs ++ Dg g (i + xs.length) ys
 | i, [], ys => by simp [Dg]
 | i, x :: xs, ys => by
  rw [List.cons_append, Dg, Dg, Mk g (i + 1) xs ys, List.append_assoc, List.length_cons, Nat.add_assoc, Nat.add_comm 1]
theorem Ih {α β : Type} {g : Nat → α → List β} {y : β} : ∀ {i : Nat} {xs : List α}, y ∈ Dg g i xs ↔ ∃ j x, xs[j]? = some x ∧ y ∈ g (i + j) x
 | _, [] => by simp [Dg]
 | i, x :: xs => by
  rw [Dg, List.mem_append, Ih]
  constructor
  ·rintro (h | ⟨j, z, hz, h⟩)
   ·exact ⟨0, x, rfl, h⟩
   ·exact ⟨j + 1, z, by simpa using hz, by rwa [show i + (j + 1) = i + 1 + j from by omega]⟩
  ·rintro ⟨j, z, hz, h⟩
   cases j with
   | zero => simp at hz; subst hz; exact .inl h
   | succ j => exact .inr ⟨j, z, by simpa using hz, by rwa [show i + 1 + j = i + (j + 1) from by omega]⟩
theorem Gn {α β : Type} {g : Nat → α → List β} {c : Nat} : ∀ {i : Nat} {xs : List α}, (∀ j x, xs[j]? = some x → (g (i + j) x).length ≤ c) → (Dg g i xs).length ≤ c * xs.length
 | _, [], _ => by simp [Dg]
 | i, x :: xs, h => by
  have h1 := h 0 x rfl
  have h2 := Gn (g := g) (c := c) (i := i + 1) (xs := xs) fun j y hy => by
   have := h (j + 1) y (by simpa using hy)
   rwa [show i + (j + 1) = i + 1 + j from by omega] at this
  rw [Dg, List.length_append, List.length_cons, Nat.mul_add]
  simp only [Nat.add_zero] at h1
  omega
theorem I2 {α A S R : Type} (L : Nat → S → Option R) (mk : A → Int → S) (xs : List α) (j : A → Option R) (f : Nat → α → A → A) (I : Nat → A → Prop)
  (hs : ∀ (n i : Nat) (x : α) (a : A), xs[i]? = some x → I i a → L (n + 1) (mk a (i : Int)) = L n (mk (f i x a) ((i + 1 : Nat) : Int)) ∧ I (i + 1) (f i x a))
  (he : ∀ (n : Nat) (a : A), I xs.length a → L (n + 1) (mk a (xs.length : Int)) = j a) :
  ∀ (n i : Nat) (a : A), i ≤ xs.length → xs.length - i < n → I i a → L n (mk a (i : Int)) = j (IL f i (xs.drop i) a) ∧ I xs.length (IL f i (xs.drop i) a)
 | 0, i, _, _, h, _ => by omega
 | n + 1, i, a, hi, h, ha => by
  by_cases h1 : i < xs.length
  ·have hx : xs[i]? = some xs[i] := by simp [h1]
   obtain ⟨e1, e2⟩ := hs n i _ a hx ha
   rw [e1, Df hx, IL]
   exact I2 L mk xs j f I hs he n (i + 1) _ (by omega) (by omega) e2
  ·have : i = xs.length := by omega
   subst this
   rw [List.drop_eq_nil_of_le (Nat.le_refl _), IL]
   exact ⟨he n a ha, ha⟩
theorem O9 {α β : Type} (g : Nat → α → List β) : ∀ (i : Nat) (xs : List α) (acc : List β), IL (fun i x a => a ++ g i x) i xs acc = acc ++ Dg g i xs
 | _, [], acc => by simp [IL, Dg]
 | i, x :: xs, acc => by rw [IL, O9 g (i + 1) xs, Dg, List.append_assoc]
theorem G1 {α β S R : Type} (L : Nat → S → Option R) (mk : List β → Int → S) (xs : List α) (j : List β → Option R) (g : Nat → α → List β) (c B : Nat)
  (hg : ∀ i x, xs[i]? = some x → (g i x).length ≤ c)
  (hs : ∀ (n i : Nat) (x : α) (a : List β), xs[i]? = some x → a.length + (g i x).length ≤ B → L (n + 1) (mk a (i : Int)) = L n (mk (a ++ g i x) ((i + 1 : Nat) : Int)))
  (he : ∀ (n : Nat) (a : List β), L (n + 1) (mk a (xs.length : Int)) = j a) (n : Nat) (a : List β) (hn : xs.length < n) (ha : a.length + c * xs.length ≤ B) :
  L n (mk a 0) = j (a ++ Dg g 0 xs) := by
 have := I2 L mk xs j (fun i x a => a ++ g i x) (fun i b => i ≤ xs.length ∧ b.length ≤ a.length + c * i)
  (fun n i x b hx hb => by
   have h1 := hg i x hx
   have hi := (lI.1 hx).1
   have h2 : c * (i + 1) ≤ c * xs.length := Nat.mul_le_mul_left c hi
   have h3 : c * (i + 1) = c * i + c := Nat.mul_succ c i
   refine ⟨hs n i x b hx (by have := hb.2; omega), hi, ?_⟩
   rw [List.length_append]
   have := hb.2
   omega)
  (fun n b _ => he n b) n 0 a (Nat.zero_le _) (by omega) ⟨Nat.zero_le _, by omega⟩
 have h2 := this.1
 rw [List.drop_zero, O9] at h2
 exact h2
def D6 (s : Int) (v : Nat) : Bool := s.toNat.testBit v
def IT (m : Af) (s v : Nat) : Bool := decide (m.fd.getD s 0 = (v : Int)) || decide (m.fa.getD s 0 = (v : Int))
theorem Xq : ∀ (s : Fin 256) (v : Fin 8), Gf .u8 (Eh .u8 (s.val : Int) (v.val : Int)) 1 = if D6 (s.val : Int) v.val then 1 else 0 := by decide +kernel
theorem Qw {s : Int} {v : Nat} (h0 : 0 ≤ s) (h1 : s ≤ 255) (hv : v < 8) : Gf .u8 (Eh .u8 s (v : Int)) 1 = if D6 s v then 1 else 0 := by
 obtain ⟨k, rfl⟩ := Int.eq_ofNat_of_zero_le h0
 exact Xq ⟨k, by omega⟩ ⟨v, hv⟩
theorem Q9 {s : Int} {v : Nat} (h0 : 0 ≤ s) (h1 : s ≤ 255) (hv : v < 8) : (Gf .u8 (Eh .u8 s (v : Int)) 1 == 0) = !D6 s v := by
 rw [Qw h0 h1 hv]; cases D6 s v <;> rfl
theorem Ri {s : Int} {v : Nat} (h0 : 0 ≤ s) (h1 : s ≤ 255) (hv : v < 8) : (Gf .u8 (Eh .u8 s (v : Int)) 1 == 1) = D6 s v := by
 rw [Qw h0 h1 hv]; cases D6 s v <;> rfl
theorem Kw {s : Int} {v : Nat} (h1 : s ≤ 255) (hv : 8 ≤ v) : D6 s v = false := by
 unfold D6
 apply Nat.testBit_lt_two_pow
 have : (2 : Nat) ^ 8 ≤ 2 ^ v := Nat.pow_le_pow_right (by omega) hv
 omega
theorem Ki : ∀ (b : Fin 8) (v : Fin 8), D6 (CJ .u8 1 (b.val : Int)) v.val = decide (b.val = v.val) ∧ 0 ≤ CJ .u8 1 (b.val : Int) ∧ CJ .u8 1 (b.val : Int) ≤ 255 := by decide +kernel
theorem WB : ∀ (b n : Fin 8) (v : Fin 8), D6 (Pa .u8 (CJ .u8 1 (b.val : Int)) (CJ .u8 1 (n.val : Int))) v.val = (decide (b.val = v.val) || decide (n.val = v.val))
  ∧ 0 ≤ Pa .u8 (CJ .u8 1 (b.val : Int)) (CJ .u8 1 (n.val : Int)) ∧ Pa .u8 (CJ .u8 1 (b.val : Int)) (CJ .u8 1 (n.val : Int)) ≤ 255 := by decide +kernel
theorem Wa {m : Af} {s : Nat} (hb0 : 0 ≤ m.fd.getD s 0) (hb1 : m.fd.getD s 0 < 8) (hn1 : m.fa.getD s 0 < 8) :
  (∀ v, D6 (Hd m s) v = IT m s v) ∧ 0 ≤ Hd m s ∧ Hd m s ≤ 255 := by
 unfold Hd IT
 obtain ⟨b, hb⟩ := Int.eq_ofNat_of_zero_le hb0
 rw [hb] at hb1 ⊢
 by_cases h : 0 ≤ m.fa.getD s 0
 ·obtain ⟨n, hn⟩ := Int.eq_ofNat_of_zero_le h
  rw [hn] at hn1 ⊢
  rw [if_pos (by omega)]
  have h1 := WB ⟨b, by omega⟩ ⟨n, by omega⟩
  refine ⟨fun v => ?_, (h1 0).2⟩
  by_cases hv : v < 8
  ·rw [(h1 ⟨v, hv⟩).1]
   simp only [Int.ofNat_inj]
  ·rw [Kw (h1 0).2.2 (by omega)]
   simp; omega
 ·rw [if_neg h]
  have h1 := Ki ⟨b, by omega⟩
  refine ⟨fun v => ?_, (h1 0).2⟩
  have h3 : decide (m.fa.getD s 0 = (v : Int)) = false := decide_eq_false (by omega)
  rw [h3, Bool.or_false]
  by_cases hv : v < 8
  ·rw [(h1 ⟨v, hv⟩).1]
   simp only [Int.ofNat_inj]
  ·rw [Kw (h1 0).2.2 (by omega)]
   simp; omega
theorem UU {a : Nat} (h : a < 256) : (BitVec.ofInt 8 (a : Int)).toNat = a := by
 simp; omega
theorem N4 {a b : Int} (ha : 0 ≤ a ∧ a ≤ 255) (hb : 0 ≤ b ∧ b ≤ 255) : DF .u8 a b = 0 ↔ ∀ v, D6 a v = true → D6 b v = true := by
 obtain ⟨a, rfl⟩ := Int.eq_ofNat_of_zero_le ha.1
 obtain ⟨b, rfl⟩ := Int.eq_ofNat_of_zero_le hb.1
 have hA := UU (a := a) (by omega)
 have hB := UU (a := b) (by omega)
 unfold DF D6
 simp only [IntKind.bits, Int.toNat_natCast]
 have hx : ∀ x : BitVec 8, wI .u8 (x.toNat : Int) = (x.toNat : Int) := by
  intro x
  have := x.isLt
  simp [wI, IntKind.signed, IntKind.bits]
  omega
 rw [hx]
 constructor
 ·intro h v hv
  have h0 : (BitVec.ofInt 8 (a : Int) &&& ~~~BitVec.ofInt 8 (b : Int)) = (BitVec.ofNat 8 0) := by
   apply BitVec.eq_of_toNat_eq
   simp only [BitVec.toNat_ofNat, Nat.zero_mod]
   exact Int.ofNat_inj.1 h
  by_cases hv8 : v < 8
  ·have h1 : (BitVec.ofInt 8 (a : Int) &&& ~~~BitVec.ofInt 8 (b : Int)).getLsbD v = false := by rw [h0]; simp
   rw [BitVec.getLsbD_and, BitVec.getLsbD_not] at h1
   have e1 : (BitVec.ofInt 8 (a : Int)).getLsbD v = a.testBit v := by unfold BitVec.getLsbD; rw [hA]
   have e2 : (BitVec.ofInt 8 (b : Int)).getLsbD v = b.testBit v := by unfold BitVec.getLsbD; rw [hB]
   rw [e1, e2, hv] at h1
   simpa [hv8] using h1
  ·have := Kw (s := (a : Int)) (v := v) (by omega) (by omega)
   unfold D6 at this
   rw [Int.toNat_natCast, hv] at this
   cases this
 ·intro h
  have h0 : (BitVec.ofInt 8 (a : Int) &&& ~~~BitVec.ofInt 8 (b : Int)) = (BitVec.ofNat 8 0) := by
   apply BitVec.eq_of_getLsbD_eq
   intro i hi
   rw [BitVec.getLsbD_and, BitVec.getLsbD_not]
   have e1 : (BitVec.ofInt 8 (a : Int)).getLsbD i = a.testBit i := by unfold BitVec.getLsbD; rw [hA]
   have e2 : (BitVec.ofInt 8 (b : Int)).getLsbD i = b.testBit i := by unfold BitVec.getLsbD; rw [hB]
   rw [e1, e2]
   have := h i
   cases h3 : a.testBit i
   ·simp
   ·rw [this h3]; simp
  have h2 : ∀ x : BitVec 8, x = (BitVec.ofNat 8 0) → (x.toNat : Int) = 0 := fun x hx => by rw [hx]; rfl
  exact h2 _ h0
theorem W6 : ∀ n : Fin 9, (∀ v : Fin 8, D6 (wI .u8 (CJ .u8 1 (n.val : Int) - 1)) v.val = decide (v.val < n.val)) ∧ 0 ≤ wI .u8 (CJ .u8 1 (n.val : Int) - 1) ∧ wI .u8 (CJ .u8 1 (n.val : Int) - 1) ≤ 255 := by decide +kernel
theorem Xa {n : Int} (h0 : 0 ≤ n) (h1 : n ≤ 8) : (∀ v, D6 (wI .u8 (CJ .u8 1 n - 1)) v = decide ((v : Int) < n)) ∧ 0 ≤ wI .u8 (CJ .u8 1 n - 1) ∧ wI .u8 (CJ .u8 1 n - 1) ≤ 255 := by
 obtain ⟨n, rfl⟩ := Int.eq_ofNat_of_zero_le h0
 have h := W6 ⟨n, by omega⟩
 refine ⟨fun v => ?_, h.2⟩
 by_cases hv : v < 8
 ·rw [h.1 ⟨v, hv⟩]; simp
 ·rw [Kw h.2.2 (by omega)]
  symm; apply decide_eq_false; omega
structure B3 (p : Ah) (m : Af) : Prop extends MixServ p m where
 range : ∀ i, i < p.fc.length → 0 ≤ m.fe.getD i 0 ∧ m.fe.getD i 0 ≤ 255
 low : ∀ i t, p.fc[i]? = some t → Cy t = true → ∀ v, IT m t.fi.toNat v = true → D6 (m.fe.getD i 0) v = true
 high : ∀ i t, p.fc[i]? = some t → Cy t = true → ∀ v, D6 (m.fe.getD i 0) v = true → (v : Int) < p.fb.getD t.fi.toNat 0
 none : ∀ i t, p.fc[i]? = some t → Cy t = false → m.fe.getD i 0 = 0
theorem IF {p : Ah} (hp : BB p) {i : Nat} (hi : i < p.fb.length) : 1 ≤ p.fb.getD i 0 ∧ p.fb.getD i 0 ≤ 6 := by
 have := K7 (i := (i : Int)) hp.ver (by omega) (by omega)
 simpa using this
theorem IB {p : Ah} {m : Af} (hp : BB p) (hm : MixServ p m) {s : Nat} (hs : s < p.fb.length) :
  (∀ v, D6 (Hd m s) v = IT m s v) ∧ 0 ≤ Hd m s ∧ Hd m s ≤ 255 := by
 have h1 := hm.b0 s hs
 have h2 := hm.n0 s hs
 have h3 := IF hp hs
 exact Wa h1.1 (by omega) (by omega)
theorem Sr {p : Ah} {m : Af} (hp : BB p) (hm : MixServ p m) {i : Nat} {t : AQ} (ht : p.fc[i]? = some t) (hr : 0 ≤ m.fe.getD i 0 ∧ m.fe.getD i 0 ≤ 255) :
  IN p m i t = none ↔ ((Cy t = true → (∀ v, IT m t.fi.toNat v = true → D6 (m.fe.getD i 0) v = true) ∧ (∀ v, D6 (m.fe.getD i 0) v = true → (v : Int) < p.fb.getD t.fi.toNat 0)) ∧ (Cy t = false → m.fe.getD i 0 = 0)) := by
 have hin := Jd (hp.tab t (lM ht))
 have hrun := IB hp hm (s := t.fi.toNat) (by omega)
 have hver := IF hp (i := t.fi.toNat) (by omega)
 have hall := Xa (n := p.fb.getD t.fi.toNat 0) (by omega) (by omega)
 unfold IN WX
 have e1 := N4 hrun.2 hr
 have e2 := N4 hr hall.2
 cases hst : Cy t
 ·simp
 ·simp only [if_true, true_implies, Bool.true_eq_false, false_implies, and_true, ite_eq_right_iff, reduceCtorEq, imp_false, not_or, Decidable.not_not]
  rw [e1, e2]
  simp only [hrun.1, hall.1, decide_eq_true_eq]
theorem Ju {p : Ah} {m : Af} (hw : MO KH m.fe) (h : B7 p m = 0) : BB p ∧ B3 p m := by
 unfold B7 at h
 split at h
 ·rename_i k; exact (k h).elim
 ·rename_i k0
  have hp : BB p := by
   rcases HV p with h | h
   ·exact h.2
   ·omega
  split at h
  ·cases h
  ·rename_i k1
   have b1 : m.fd.length = p.fb.length := Decidable.not_not.1 fun h => k1 (.inl h)
   have b2 : m.fa.length = p.fb.length := Decidable.not_not.1 fun h => k1 (.inr (.inl h))
   have b3 : m.fe.length = p.fc.length := Decidable.not_not.1 fun h => k1 (.inr (.inr h))
   cases hs : D1 (KV m) 0 p.fb with
   | some r =>
    obtain ⟨j, x, _, he⟩ := EJ hs
    rw [hs] at h
    unfold KV at he
    simp only [BS, Option.getD_some] at h
    split at he
    ·cases he; cases h
    ·split at he
     ·cases he; cases h
     ·cases he
   | none =>
    have hm := Qu b1 b2 b3 hs
    rw [hs] at h
    simp only [BS] at h
    cases ht : D1 (IN p m) 0 p.fc with
    | some r =>
     obtain ⟨j, x, _, he⟩ := EJ ht
     rw [ht] at h
     simp only [Option.getD_some] at h
     subst h
     unfold IN at he
     split at he
     ·split at he <;> cases he
     ·split at he <;> cases he
    | none =>
     have hr : ∀ i, i < p.fc.length → 0 ≤ m.fe.getD i 0 ∧ m.fe.getD i 0 ≤ 255 := fun i hi => Jl (RB hw (by omega))
     have key : ∀ i t, p.fc[i]? = some t → _ := fun i t hi => (Sr hp hm hi (hr i (lI.1 hi).1)).1 (by have := FW ht i t hi; rwa [Nat.zero_add] at this)
     exact ⟨hp, hm, hr, fun i t hi hst => ((key i t hi).1 hst).1, fun i t hi hst => ((key i t hi).1 hst).2, fun i t hi hst => (key i t hi).2 hst⟩
theorem FA {α R : Type} {f : Nat → α → Option R} : ∀ {i : Nat} {xs : List α}, (∀ j x, xs[j]? = some x → f (i + j) x = none) → D1 f i xs = none
 | _, [], _ => rfl
 | i, y :: ys, h => by
  rw [HF, show f i y = none from h 0 y rfl]
  exact FA fun j x hx => by
   have := h (j + 1) x (by simpa using hx)
   rwa [show i + (j + 1) = i + 1 + j from by omega] at this
theorem Qt {p : Ah} (hp : BB p) (hr : ∀ i, i < p.fb.length → 0 ≤ p.ff.getD i 0 ∧ p.ff.getD i 0 < p.fb.getD i 0 ∧ 0 ≤ p.fh.getD i 0 ∧ p.fh.getD i 0 < p.fb.getD i 0) : CR p = 0 := by
 have := hp.nv
 have := hp.nt
 have := hp.now
 have := hp.tgt
 unfold CR
 rw [if_neg (by omega), if_neg (by omega)]
 have h1 : D1 (Gw p) 0 p.fb = none := FA fun j x hx => by
  have hj := (lI.1 hx).1
  have h1 := hr j hj
  have h2 := IF hp hj
  have e : p.fb.getD j 0 = x := by rw [lD, hx]; rfl
  rw [e] at h1 h2
  unfold Gw
  rw [Nat.zero_add, if_neg (by omega)]
 have h2 : D1 (MD p) 0 p.fc = none := FA fun j x hx => by
  unfold MD
  rw [if_pos (hp.tab x (lM hx))]
 rw [h1, h2]; rfl
theorem DA {p : Ah} (h : CR p = 0) : BB p ∧ ∀ i, i < p.fb.length → 0 ≤ p.ff.getD i 0 ∧ p.ff.getD i 0 < p.fb.getD i 0 ∧ 0 ≤ p.fh.getD i 0 ∧ p.fh.getD i 0 < p.fb.getD i 0 := by
 have hp : BB p := by
  rcases HV p with h | h
  ·exact h.2
  ·omega
 refine ⟨hp, fun i hi => ?_⟩
 have h1 := hp.nv
 have h2 := hp.nt
 have h3 := hp.now
 have h4 := hp.tgt
 unfold CR at h
 rw [if_neg (by omega), if_neg (by omega)] at h
 cases hs : D1 (Gw p) 0 p.fb with
 | some r =>
  obtain ⟨j, x, _, he⟩ := EJ hs
  rw [hs] at h
  unfold Gw at he
  split at he
  ·cases he; cases h
  ·cases he
 | none =>
  have hx : p.fb[i]? = some (p.fb.getD i 0) := by rw [lD]; simp [hi]
  have := FW hs i _ hx
  rw [Nat.zero_add] at this
  unfold Gw at this
  split at this
  ·cases this
  ·rename_i hn; omega
theorem H0 {p : Ah} {m : Af} (hv : CR p = 0) (hm : B3 p m) : B7 p m = 0 := by
 obtain ⟨hp, _⟩ := DA hv
 unfold B7
 rw [hv, if_neg (by simp), if_neg (by have := hm.base; have := hm.next; have := hm.held; omega)]
 have h1 : D1 (KV m) 0 p.fb = none := FA fun j x hx => by
  have hj := (lI.1 hx).1
  have e : p.fb.getD j 0 = x := by rw [lD, hx]; rfl
  have h1 := hm.b0 j hj
  have h2 := hm.n0 j hj
  have h3 := hm.ne j hj
  rw [e] at h1 h2
  unfold KV
  rw [Nat.zero_add, if_neg (by omega), if_neg h3]
 have h2 : D1 (IN p m) 0 p.fc = none := FA fun j x hx => by
  have hj := (lI.1 hx).1
  rw [Nat.zero_add]
  exact (Sr hp hm.toMixServ hx (hm.range j hj)).2 ⟨fun hst => ⟨hm.low j x hx hst, hm.high j x hx hst⟩, fun hst => hm.none j x hx hst⟩
 rw [h1, h2]; rfl
def N1 {α : Type} (g : Nat → α → Bool) : Nat → List α → Bool
 | _, [] => false
 | i, x :: xs => g i x || N1 g (i + 1) xs
theorem LW {α β : Type} (g : Nat → α → List β) (h : Nat → α → Bool) : ∀ (i : Nat) (xs : List α) (a : List β) (b : Bool),
  IL (fun i x (s : List β × Bool) => (s.1 ++ g i x, s.2 || h i x)) i xs (a, b) = (a ++ Dg g i xs, b || N1 h i xs)
 | _, [], a, b => by simp [IL, Dg, N1]
 | i, x :: xs, a, b => by rw [IL, LW g h, Dg, N1, List.append_assoc, Bool.or_assoc]
def gC (i u : Nat) (m : Af) (t : AQ) (v : Nat) (ok : Bool) : List Al :=
 if IT m t.fk.toNat v && (!ok && !t.fp) then [⟨(i : Int), (u : Int), (v : Int)⟩] else []
def hC (m : Af) (t : AQ) (v : Nat) (ok : Bool) : Bool := IT m t.fk.toNat v && ok
def Kv (i : Nat) (m : Af) (t : AQ) (u : Nat) (row : List Bool) : List Al :=
 Dg (gC i u m t) 0 row ++ if t.fp && !N1 (hC m t) 0 row then [⟨(i : Int), (u : Int), -1⟩] else []
def Ul (m : Af) (i : Nat) (t : AQ) (u : Nat) : Bool := if Cy t then D6 (m.fe.getD i 0) u else IT m t.fi.toNat u
def Kg (m : Af) (i : Nat) (t : AQ) : List Al := Dg (fun u row => if Ul m i t u then Kv i m t u row else []) 0 t.fq
def Hv (p : Ah) (m : Af) : List Al := Dg (Kg m) 0 p.fc
structure OZ (p : Ah) (t : AQ) : Prop where
 kind : 1 ≤ t.fg ∧ t.fg ≤ 4
 aware : t.fp = true → Cy t = false
 from0 : 0 ≤ t.fi ∧ t.fi < (p.fb.length : Int)
 to0 : 0 ≤ t.fk ∧ t.fk < (p.fb.length : Int)
 okL : (t.fq.length : Int) = p.fb.getD t.fi.toNat 0
 okR : ∀ row, row ∈ t.fq → (row.length : Int) = p.fb.getD t.fk.toNat 0
 reL : t.fg = 4 → (t.fm.length : Int) = p.fb.getD t.fi.toNat 0
 reR : ∀ row, row ∈ t.fm → (row.length : Int) = p.fb.getD t.fi.toNat 0
 reD : t.fg = 4 → Jw t.fm = none
 reN : t.fg ≠ 4 → t.fm = []
theorem M7 {p : Ah} {t : AQ} (h : EA p t = 0) : OZ p t := by
 unfold EA at h
 split at h
 ·cases h
 rename_i h1
 split at h
 ·cases h
 rename_i h2
 simp only at h
 split at h
 ·cases h
 rename_i h3
 have h3 : sq t.fq (p.fb.getD t.fi.toNat 0) (p.fb.getD t.fk.toNat 0) = true := by simpa using h3
 have h3 := NU h3
 have ha : t.fp = true → Cy t = false := by
  intro ha
  unfold Cy
  rw [Bool.or_eq_false_iff, beq_eq_false_iff_ne, beq_eq_false_iff_ne]
  exact ⟨fun hk => h1 (.inr (.inr ⟨ha, .inl hk⟩)), fun hk => h1 (.inr (.inr ⟨ha, .inr hk⟩))⟩
 split at h
 ·rename_i h4
  split at h
  ·cases h
  rename_i h5
  have h5 : sq t.fm (p.fb.getD t.fi.toNat 0) (p.fb.getD t.fi.toNat 0) = true := by simpa using h5
  have h5 := NU h5
  refine ⟨by omega, ha, by omega, by omega, h3.1, h3.2, fun _ => h5.1, h5.2, fun _ => ?_, fun h => (h h4).elim⟩
  cases hd : Jw t.fm with
  | none => rfl
  | some r =>
   obtain ⟨j, x, _, hx⟩ := EJ hd
   rw [hd] at h
   split at hx
   ·cases hx
   ·cases hx; cases h
 ·rename_i h4
  split at h
  ·rename_i h5
   have h5 := List.eq_nil_of_length_eq_zero h5
   refine ⟨by omega, ha, by omega, by omega, h3.1, h3.2, fun h => (h4 h).elim, fun row hr => ?_, fun h => (h4 h).elim, fun _ => h5⟩
   rw [h5] at hr; cases hr
  ·cases h
theorem Ll {R : Type} (b : Bool) (acc : List Al) (x : Al) (j : List Al → Option R) (h : acc.length + 1 ≤ Eg) :
  AW b ((EB (acc.length + ([x] : List Al).length ≤ Eg)).bind fun _ => j (acc ++ [x])) (j acc) = j (acc ++ if b then [x] else []) := by
 cases b
 ·simp
 ·rw [AN, AI (by simpa using h)]; rfl
theorem Rt (N : Nat) (m : Af) (t : AQ) (i u : Nat) (row : List Bool) (R : Int) (b1 b2 acc : List Al) (j : List Al × Bool → Option (List Al))
  (hN : N ≤ 1000000) (h8 : 8 ≤ N) (hrow : row.length ≤ 6) (hacc : acc.length + 6 ≤ Eg) (hR0 : 0 ≤ R) (hR1 : R ≤ 255) (hRb : ∀ v, D6 R v = IT m t.fk.toNat v) :
  Ce N (b1, (i : Int)) t R (b2, (u : Int)) row j N (acc, false, 0) = j (acc ++ Dg (gC i u m t) 0 row, N1 (hC m t) 0 row) := by
 have := I2 (A := List Al × Bool) (Ce N (b1, (i : Int)) t R (b2, (u : Int)) row j) (fun a k => (a.1, a.2, k)) row (fun a => j a) (fun v ok s => (s.1 ++ gC i u m t v ok, s.2 || hC m t v ok))
  (fun v a => v ≤ row.length ∧ a.1.length ≤ acc.length + v)
  (fun n v ok a hx ha => by
   have hv := (lI.1 hx).1
   obtain ⟨c, f⟩ := a
   simp only at ha
   refine ⟨?_, by omega, ?_⟩
   ·rw [Ce]
    simp only [Bf]
    rw [AG (by omega), Bc, hx]
    simp only [oS]
    rw [AI (by omega), Q9 hR0 hR1 (by omega), hRb, AT (by omega), Ll _ _ _ (fun l => Ce N (b1, (i : Int)) t R (b2, (u : Int)) row j n (l, true, ((v + 1 : Nat) : Int))) (by omega)]
    unfold gC hC
    rw [Ll _ _ _ (fun l => Ce N (b1, (i : Int)) t R (b2, (u : Int)) row j n (l, ok, ((v + 1 : Nat) : Int))) (by omega)]
    cases IT m t.fk.toNat v
    ·simp
    ·cases ok <;> cases f <;> cases t.fp <;> simp
   ·simp only [gC, List.length_append]
    split <;> simp <;> omega)
  (fun n a _ => by
   rw [Ce]
   simp only [Bf]
   rw [AC (by omega)]) N 0 (acc, false) (by omega) (by omega) ⟨by omega, by simp⟩
 have h2 := this.1
 rw [List.drop_zero, LW, Bool.false_or] at h2
 exact h2
theorem NT {p : Ah} {t : AQ} (hp : BB p) (ht : OZ p t) : t.fq.length ≤ 6 ∧ ∀ row, row ∈ t.fq → row.length ≤ 6 := by
 have h1 := K7 hp.ver ht.from0.1 ht.from0.2
 have h2 := K7 hp.ver ht.to0.1 ht.to0.2
 have h3 := ht.okL
 exact ⟨by omega, fun row hr => by have := ht.okR row hr; omega⟩
theorem SM (i u : Nat) (m : Af) (t : AQ) (v : Nat) (ok : Bool) : (gC i u m t v ok).length ≤ 1 := by
 unfold gC; split <;> simp
theorem SD (i : Nat) (m : Af) (t : AQ) (u : Nat) (row : List Bool) (h : row.length ≤ 6) : (Kv i m t u row).length ≤ 7 := by
 unfold Kv
 rw [List.length_append]
 have := Gn (g := gC i u m t) (c := 1) (i := 0) (xs := row) (fun j x _ => SM _ _ _ _ _ _)
 split <;> simp <;> omega
theorem SH (i : Nat) (m : Af) (t : AQ) (u : Nat) (row : List Bool) (h : row.length ≤ 6) : (if Ul m i t u = true then Kv i m t u row else []).length ≤ 7 := by
 have := SD i m t u row h
 split <;> simp <;> omega
theorem Np {p : Ah} {t : AQ} (hp : BB p) (ht : OZ p t) (i : Nat) (m : Af) : (Kg m i t).length ≤ 42 := by
 have h1 := NT hp ht
 have := Gn (g := fun u row => if Ul m i t u = true then Kv i m t u row else []) (c := 7) (i := 0) (xs := t.fq) (fun j x hx => SH i m t _ x (h1.2 x (lM hx)))
 unfold Kg
 omega
theorem MK (N : Nat) (p : Ah) (m : Af) (t : AQ) (i : Nat) (W R : Int) (b1 acc : List Al) (j : List Al → Option (List Al))
  (hN : N ≤ 1000000) (h8 : 8 ≤ N) (hp : BB p) (ht : OZ p t) (hacc : acc.length + 42 ≤ 10000) (hR0 : 0 ≤ R) (hR1 : R ≤ 255) (hRb : ∀ v, D6 R v = IT m t.fk.toNat v) (hW0 : 0 ≤ W) (hW1 : W ≤ 255) (hWb : ∀ v, D6 W v = Ul m i t v) :
  CE N (b1, (i : Int)) t R W j N (acc, 0) = j (acc ++ Kg m i t) := by
 have hl := NT hp ht
 exact G1 (CE N (b1, (i : Int)) t R W j) (fun a k => (a, k)) t.fq j (fun u row => if Ul m i t u then Kv i m t u row else []) 7 10000
  (fun u row hx => SH i m t u row (hl.2 row (lM hx)))
  (fun n u row a hx ha => by
   have hu := (lI.1 hx).1
   have hrow := hl.2 row (lM hx)
   rw [CE]
   simp only [Bf]
   rw [AG (by omega), AI (by omega), Q9 hW0 hW1 (by omega), hWb, Bc, hx]
   simp only [oS]
   rw [Rt N m t i u row R b1 a a _ hN h8 hrow (by unfold Eg; omega) hR0 hR1 hRb, AT (by omega)]
   cases hw : Ul m i t u
   ·simp
   ·simp only [Bool.not_true, Aw, if_true, Kv]
    have h1 := Gn (g := gC i u m t) (c := 1) (i := 0) (xs := row) (fun j x _ => SM _ _ _ _ _ _)
    have := Ll (R := List Al) (t.fp && !N1 (hC m t) 0 row) (a ++ Dg (gC i u m t) 0 row) ⟨(i : Int), (u : Int), -1⟩ (fun l => CE N (b1, (i : Int)) t R W j n (l, ((u + 1 : Nat) : Int))) (by rw [List.length_append]; unfold Eg; rw [hw, if_pos rfl] at ha; omega)
    rw [← List.append_assoc, ← this]
    cases t.fp <;> cases N1 (hC m t) 0 row <;> rfl)
  (fun n a => by
   rw [CE]
   simp only [Bf]
   rw [AC (by omega)]) N acc (by omega) (by omega)
theorem Ra (N : Nat) (p : Ah) (m : Af) (t : AQ) (i u : Nat) (row : List Bool) (b1 b2 acc : List Al) (j : List Al × Bool → Option (List Al))
  (hN : N ≤ 1000000) (h8 : 8 ≤ N) (hp : BB p) (hm : MixServ p m) (ht : OZ p t) (hu : t.fq[u]? = some row) (hacc : acc.length + 6 ≤ Eg) :
  BC N p m (b1, (i : Int)) t (b2, (u : Int)) j N (acc, false, 0) = j (acc ++ Dg (gC i u m t) 0 row, N1 (hC m t) 0 row) := by
 have hrow := (NT hp ht).2 row (lM hu)
 have hR := IB hp hm (s := t.fk.toNat) (by have := ht.to0; omega)
 have hlen := ht.okR row (lM hu)
 have hto := ht.to0
 have := I2 (A := List Al × Bool) (BC N p m (b1, (i : Int)) t (b2, (u : Int)) j) (fun a k => (a.1, a.2, k)) row (fun a => j a) (fun v ok s => (s.1 ++ gC i u m t v ok, s.2 || hC m t v ok))
  (fun v a => v ≤ row.length ∧ a.1.length ≤ acc.length + v)
  (fun n v ok a hx ha => by
   have hv := (lI.1 hx).1
   obtain ⟨c, f⟩ := a
   simp only at ha
   refine ⟨?_, by omega, ?_⟩
   ·rw [BC]
    simp only [Bf]
    rw [Fc (d := 0) hto.1 hto.2, Kt N m t.fk hto.1 (by rw [hm.base]; exact hto.2) (by rw [hm.next]; exact hto.2) (hm.b0 _ (by omega)).1, Bc, hu]
    simp only [oS]
    unfold CL
    rw [AG (by omega), Bc, hx, AI (by omega), Ri hR.2.1 hR.2.2 (by omega), hR.1]
    simp only [oS]
    rw [AT (by omega), Ll _ _ _ (fun l => BC N p m (b1, (i : Int)) t (b2, (u : Int)) j n (l, true, ((v + 1 : Nat) : Int))) (by omega)]
    unfold gC hC
    rw [Ll _ _ _ (fun l => BC N p m (b1, (i : Int)) t (b2, (u : Int)) j n (l, ok, ((v + 1 : Nat) : Int))) (by omega)]
    cases IT m t.fk.toNat v
    ·simp
    ·cases ok <;> cases f <;> cases t.fp <;> simp
   ·simp only [gC, List.length_append]
    split <;> simp <;> omega)
  (fun n a _ => by
   rw [BC]
   simp only [Bf]
   rw [Fc (d := 0) hto.1 hto.2]
   simp only [oS]
   rw [AC (by omega)]) N 0 (acc, false) (by omega) (by omega) ⟨by omega, by simp⟩
 have h2 := this.1
 rw [List.drop_zero, LW, Bool.false_or] at h2
 exact h2
theorem Mm (N : Nat) (p : Ah) (m : Af) (t : AQ) (i : Nat) (W : Int) (b1 acc : List Al) (j : List Al → Option (List Al))
  (hN : N ≤ 1000000) (h8 : 8 ≤ N) (hp : BB p) (hm : MixServ p m) (ht : OZ p t) (hacc : acc.length + 42 ≤ 10000) (hW0 : 0 ≤ W) (hW1 : W ≤ 255) (hWb : ∀ v, D6 W v = Ul m i t v) :
  BY N p m (b1, (i : Int)) t W j N (acc, 0) = j (acc ++ Kg m i t) := by
 have hl := NT hp ht
 have hfr := ht.from0
 have hok := ht.okL
 exact G1 (BY N p m (b1, (i : Int)) t W j) (fun a k => (a, k)) t.fq j (fun u row => if Ul m i t u then Kv i m t u row else []) 7 10000
  (fun u row hx => SH i m t u row (hl.2 row (lM hx)))
  (fun n u row a hx ha => by
   have hu := (lI.1 hx).1
   have hrow := hl.2 row (lM hx)
   rw [BY]
   simp only [Bf]
   rw [Fc (d := 0) hfr.1 hfr.2]
   simp only [oS]
   unfold CL
   rw [AG (by omega), AI (by omega), Ri hW0 hW1 (by omega), hWb]
   simp only [oS]
   rw [Ra N p m t i u row b1 a a _ hN h8 hp hm ht hx (by unfold Eg; omega), AT (by omega)]
   cases hw : Ul m i t u
   ·simp
   ·simp only [Bool.not_true, Aw, if_true, Kv]
    have h1 := Gn (g := gC i u m t) (c := 1) (i := 0) (xs := row) (fun j x _ => SM _ _ _ _ _ _)
    have := Ll (R := List Al) (t.fp && !N1 (hC m t) 0 row) (a ++ Dg (gC i u m t) 0 row) ⟨(i : Int), (u : Int), -1⟩ (fun l => BY N p m (b1, (i : Int)) t W j n (l, ((u + 1 : Nat) : Int))) (by rw [List.length_append]; unfold Eg; rw [hw, if_pos rfl] at ha; omega)
    rw [← List.append_assoc, ← this]
    cases t.fp <;> cases N1 (hC m t) 0 row <;> rfl)
  (fun n a => by
   rw [BY]
   simp only [Bf]
   rw [Fc (d := 0) hfr.1 hfr.2]
   simp only [oS]
   rw [AC (by omega)]) N acc (by omega) (by omega)
theorem MT (N : Nat) (p : Ah) (m : Af) (hN : N ≤ 1000000) (h20 : 20 ≤ N) (hp : BB p) (hm : B3 p m) : FV N p m = some (Hv p m) := by
 unfold FV
 have hnt := hp.nt
 rw [G1 (DN N p m _) (fun a k => (a, k)) p.fc some (Kg m) 42 9000
  (fun i t hx => Np hp (M7 (hp.tab t (lM hx))) i m)
  (fun n i t a hx ha => by
   have hi := (lI.1 hx).1
   have ht := M7 (hp.tab t (lM hx))
   have hto := ht.to0
   have hfr := ht.from0
   have hR := IB hp hm.toMixServ (s := t.fk.toNat) (by omega)
   have hF := IB hp hm.toMixServ (s := t.fi.toNat) (by omega)
   have hH := hm.range i hi
   rw [DN]
   simp only [Bf]
   rw [AG (by omega), Bc, hx]
   simp only [oS, JV]
   rw [LM N m t.fi hfr.1 (by rw [hm.base]; exact hfr.2) (by rw [hm.next]; exact hfr.2) (hm.b0 _ (by omega)).1, LM N m t.fk hto.1 (by rw [hm.base]; exact hto.2) (by rw [hm.next]; exact hto.2) (hm.b0 _ (by omega)).1, Dp (d := 0) (by rw [hm.held]; exact hi), AT (by omega)]
   simp only [oS]
   cases hs : Cy t
   ·rw [Aw, MK N p m t i _ _ a a _ hN (by omega) hp ht (by omega) hR.2.1 hR.2.2 hR.1 hF.2.1 hF.2.2 (fun v => by unfold Ul; rw [hs, hF.1]; rfl)]
   ·rw [AN, MK N p m t i _ _ a a _ hN (by omega) hp ht (by omega) hR.2.1 hR.2.2 hR.1 hH.1 hH.2 (fun v => by unfold Ul; rw [hs]; rfl)])
  (fun n a => by
   rw [DN]
   simp only [Bf]
   rw [AC (by omega)]) N [] (by omega) (by simp; omega)]
 rfl
theorem M1 (N : Nat) (p : Ah) (m : Af) (hN : N ≤ 1000000) (h20 : 20 ≤ N) (hp : BB p) (hm : B3 p m) : E0 N p m = some (Hv p m) := by
 unfold E0
 have hnt := hp.nt
 rw [G1 (CW N p m _) (fun a k => (a, k)) p.fc some (Kg m) 42 9000
  (fun i t hx => Np hp (M7 (hp.tab t (lM hx))) i m)
  (fun n i t a hx ha => by
   have hi := (lI.1 hx).1
   have ht := M7 (hp.tab t (lM hx))
   have hto := ht.to0
   have hfr := ht.from0
   have hF := IB hp hm.toMixServ (s := t.fi.toNat) (by omega)
   have hH := hm.range i hi
   rw [CW]
   simp only [Bf]
   rw [AG (by omega), Bc, hx]
   simp only [oS, Hj]
   rw [Kt N m t.fi hfr.1 (by rw [hm.base]; exact hfr.2) (by rw [hm.next]; exact hfr.2) (hm.b0 _ (by omega)).1, Dp (d := 0) (by rw [hm.held]; exact hi), AT (by omega)]
   simp only [oS]
   cases hs : Cy t
   ·rw [Aw, Mm N p m t i _ a a _ hN (by omega) hp hm.toMixServ ht (by omega) hF.2.1 hF.2.2 (fun v => by unfold Ul; rw [hs, hF.1]; rfl)]
   ·rw [AN, Mm N p m t i _ a a _ hN (by omega) hp hm.toMixServ ht (by omega) hH.1 hH.2 (fun v => by unfold Ul; rw [hs]; rfl)])
  (fun n a => by
   rw [CW]
   simp only [Bf]
   rw [AC (by omega)]) N [] (by omega) (by simp; omega)]
 rfl
theorem Fs {A S R : Type} (L : Nat → S → Option R) (mk : A → Int → S) (len : Nat) (j : A → Option R) (I : Nat → A → Prop)
  (hs : ∀ (n i : Nat) (a : A), i < len → I i a → ∃ a', L (n + 1) (mk a (i : Int)) = L n (mk a' ((i + 1 : Nat) : Int)) ∧ I (i + 1) a')
  (he : ∀ (n : Nat) (a : A), I len a → L (n + 1) (mk a (len : Int)) = j a) :
  ∀ (n i : Nat) (a : A), i ≤ len → len - i < n → I i a → ∃ a', L n (mk a (i : Int)) = j a' ∧ I len a'
 | 0, i, _, _, h, _ => by omega
 | n + 1, i, a, hi, h, ha => by
  by_cases h1 : i < len
  ·obtain ⟨a', e1, e2⟩ := hs n i a h1 ha
   rw [e1]
   exact Fs L mk len j I hs he n (i + 1) _ (by omega) (by omega) e2
  ·have : i = len := by omega
   subst this
   exact ⟨a, he n a ha, ha⟩
theorem JC {α : Type} {xs ys : List α} {i : Nat} {d : α} (h : i < xs.length) : (xs ++ ys).getD i d = xs.getD i d := by
 rw [lD, lD, List.getElem?_append_left h]
theorem JL {α : Type} {xs : List α} {y : α} {i : Nat} {d : α} (h : i = xs.length) : (xs ++ [y]).getD i d = y := by
 subst h; rw [lD, List.getElem?_append_right (Nat.le_refl _)]; simp
theorem N2 {α : Type} {P : Nat → α → Prop} {xs : List α} {y : α} {d : α} {n : Nat} (hn : xs.length = n) (h : ∀ k, k < n → P k (xs.getD k d)) (hy : P n y) : ∀ k, k < n + 1 → P k ((xs ++ [y]).getD k d) := by
 intro k hk
 by_cases h1 : k < n
 ·rw [JC (by omega)]; exact h k h1
 ·have : k = n := by omega
  subst this
  rw [JL hn.symm]; exact hy
theorem TK {l : List Int} (hw : MO KH l) (i : Nat) : 0 ≤ l.getD i 0 ∧ l.getD i 0 ≤ 255 := by
 by_cases h : i < l.length
 ·have : l.getD i 0 ∈ l := by rw [lD, List.getElem?_eq_getElem h]; exact List.getElem_mem _
  exact Jl (hw _ this)
 ·rw [lD, List.getElem?_eq_none (by omega)]
  exact ⟨by decide, by decide⟩
theorem P7 (N : Nat) {l : List Int} (hw : MO KH l) (i : Nat) : Es N l (i : Int) = some (l.getD i 0) := by
 unfold Es
 have h2 := TK hw i
 by_cases h : i < l.length
 ·rw [AG (by omega), Dp (d := 0) h]
  simp only [oS]
  rw [CM (by omega) (by omega)]
 ·rw [AC (by omega), lD, List.getElem?_eq_none (by omega)]; rfl
theorem Im {a n : Int} (ha : 0 ≤ a) (hn : 0 < n) : 0 ≤ Int.tmod a n ∧ Int.tmod a n < n := ⟨Int.tmod_nonneg n ha, Int.tmod_lt_of_pos a hn⟩
theorem X4 {l : List (List Bool)} {n m : Int} (h1 : (l.length : Int) = n) (h2 : ∀ row, row ∈ l → (row.length : Int) = m) : sq l n m = true := by
 unfold sq
 simp only [Bool.and_eq_true, decide_eq_true_eq, List.all_eq_true]
 exact ⟨h1, h2⟩
theorem Yr {p : Ah} {t : AQ} (h : OZ p t) : EA p t = 0 := by
 have hk := h.kind
 have hf := h.from0
 have ht := h.to0
 unfold EA
 rw [if_neg, if_neg (by omega)]
 ·simp only [X4 h.okL h.okR]
  rw [if_neg (by simp)]
  by_cases h4 : t.fg = 4
  ·rw [if_pos h4, X4 (h.reL h4) h.reR, if_neg (by simp), h.reD h4]; rfl
  ·rw [if_neg h4, h.reN h4]; rfl
 ·rintro (h1 | h1 | ⟨h1, h2⟩)
  ·omega
  ·omega
  ·have := h.aware h1
   unfold Cy at this
   rw [Bool.or_eq_false_iff, beq_eq_false_iff_ne, beq_eq_false_iff_ne] at this
   omega
theorem Uw (N : Nat) (m bad : Int) (diag : Bool) (i : Nat) (acc : List (List Bool)) {_R : Type} (j : List Bool → Option (List (List Bool))) (hN : N ≤ 1000000) (h20 : 20 ≤ N) (hm : 0 ≤ m ∧ m ≤ 6) (hi : i < 6) :
  ∃ row, CC N m bad diag (acc, (i : Int)) j N ([], 0) = j row ∧ (row.length : Int) = m ∧ (diag = true → (i : Int) < m → row.getD i false = true) := by
 obtain ⟨M, rfl⟩ := Int.eq_ofNat_of_zero_le hm.1
 obtain ⟨row, e, h1, h2⟩ := Fs (A := List Bool) (CC N (M : Int) bad diag (acc, (i : Int)) j) (fun a k => (a, k)) M j
  (fun k a => a.length = k ∧ ∀ q, q < k → diag = true → q = i → a.getD q false = true)
  (fun n k a hk ha => by
   refine ⟨a ++ [(diag && decide (i = k)) || (Int.tmod (Eh .u16 bad ((3 * i + k : Nat) : Int)) 2 == 0)], ?_, by simp [ha.1], N2 (P := fun q y => diag = true → q = i → y = true) ha.1 ha.2 (fun h1 h2 => by simp [h1, h2])⟩
   rw [CC]
   simp only [Bf]
   rw [AG (by omega), AT (by omega), CM (n := 3 * (i : Int)) (by omega) (by omega), CM (n := 3 * (i : Int) + (k : Int)) (by omega) (by omega)]
   have l1 : ∀ y : Bool, a.length + ([y] : List Bool).length ≤ Eg := by intro y; rw [ha.1]; unfold Eg; simp; omega
   simp only [AI (l1 _), AI (show (0 : Int) ≤ 3 * (i : Int) + (k : Int) by omega)]
   have e1 : ((3 * i + k : Nat) : Int) = 3 * (i : Int) + (k : Int) := by omega
   rw [e1]
   have e2 : (((i : Nat) : Int) == ((k : Nat) : Int)) = decide (i = k) := by
    by_cases h : i = k
    ·simp [h]
    ·rw [decide_eq_false h]; exact beq_eq_false_iff_ne.2 (by omega)
   rw [e2]
   cases diag <;> cases decide (i = k) <;> rfl)
  (fun n a _ => by
   rw [CC]
   simp only [Bf]
   rw [AC (by omega)]) N 0 [] (Nat.zero_le _) (by omega) ⟨rfl, fun q hq => by omega⟩
 exact ⟨row, e, by omega, fun hd hlt => h2 i (by omega) hd rfl⟩
theorem Ts (N : Nat) (n m bad : Int) (diag : Bool) (hN : N ≤ 1000000) (h20 : 20 ≤ N) (hn : 0 ≤ n ∧ n ≤ 6) (hm : 0 ≤ m ∧ m ≤ 6) :
  ∃ l, Et N n m bad diag = some l ∧ (l.length : Int) = n ∧ (∀ row, row ∈ l → (row.length : Int) = m) ∧ (diag = true → n = m → Jw l = none) := by
 obtain ⟨M, rfl⟩ := Int.eq_ofNat_of_zero_le hn.1
 unfold Et
 obtain ⟨l, e, h1, h2⟩ := Fs (A := List (List Bool)) (CB N (M : Int) m bad diag (fun v => some v)) (fun a k => (a, k)) M some
  (fun k a => a.length = k ∧ ∀ q, q < k → (((a.getD q []).length : Nat) : Int) = m ∧ (diag = true → (q : Int) < m → (a.getD q []).getD q false = true))
  (fun n k a hk ha => by
   obtain ⟨row, e, h1, h2⟩ := Uw (_R := Unit) N m bad diag k a (fun (v5 : List Bool) =>
    (EB (a.length + (([v5] : List (List Bool))).length ≤ Eg)).bind fun _ =>
    CB N (M : Int) m bad diag (fun v => some v) n (a ++ (([v5] : List (List Bool))), (wI .i64 ((k : Int) + 1)))) hN h20 hm (by omega)
   refine ⟨a ++ [row], ?_, by simp [ha.1], N2 (P := fun q y => ((y.length : Nat) : Int) = m ∧ (diag = true → (q : Int) < m → y.getD q false = true)) ha.1 ha.2 ⟨h1, h2⟩⟩
   rw [CB]
   simp only
   rw [AG (by omega), e, AI (by rw [ha.1]; unfold Eg; simp; omega), AT (by omega)])
  (fun n a _ => by
   rw [CB]
   simp only
   rw [AC (by omega)]) N 0 [] (Nat.zero_le _) (by omega) ⟨rfl, fun q hq => by omega⟩
 have key : ∀ q row, l[q]? = some row → l.getD q [] = row := fun q row hq => by rw [lD, hq]; rfl
 refine ⟨l, e, by omega, fun row hr => ?_, fun hd hnm => ?_⟩
 ·obtain ⟨q, hq⟩ := List.mem_iff_getElem?.1 hr
  have := (h2 q (by have := (lI.1 hq).1; omega)).1
  rwa [key q row hq] at this
 ·unfold Jw
  refine FA fun q row hq => ?_
  have hlt := (lI.1 hq).1
  have := (h2 q (by omega)).2 hd (by omega)
  rw [key q row hq] at this
  rw [Nat.zero_add, this]; rfl
structure XD (p : Ah) : Prop where
 valid : CR p = 0
 nv : p.fb.length ≤ 3
 nt : p.fc.length ≤ 4
 v3 : ∀ v, v ∈ p.fb → v ≤ 3
theorem Ui {p q : Ah} (h : p.fb = q.fb) (t : AQ) : EA p t = EA q t := by
 unfold EA; rw [h]
theorem ba (N : Nat) (d : B5) (hN : N ≤ 1000000) (h20 : 20 ≤ N) (hw : FG d) : ∃ p ok, FH N d = some (p, ok) ∧ (ok = true → XD p) := by
 obtain ⟨w1, w2, w3, w4, _⟩ := hw
 unfold FH
 simp only [Bf]
 by_cases k1 : 3 < d.fb.length
 ·rw [AG (by omega)]; exact ⟨_, false, rfl, fun h => by cases h⟩
 by_cases k2 : 4 < d.fv.length
 ·rw [AC (by omega), decide_eq_true (by omega : (4 : Int) < (d.fv.length : Int))]; exact ⟨_, false, rfl, fun h => by cases h⟩
 rw [AC (by omega), decide_eq_false (by omega : ¬ (4 : Int) < (d.fv.length : Int)), Aw]
 obtain ⟨⟨vs, ns, ts⟩, e, h1, h2, h3, h4⟩ := Fs (A := List Int × List Int × List Int) (C4 N d fun v5 => BQ N d v5 (fun v16 => some (Ah.mk v5.1 v5.2.1 v5.2.2 v16, true)) N ([], 0)) (fun a k => (a.1, a.2.1, a.2.2, k)) d.fb.length
  (fun v5 => BQ N d v5 (fun v16 => some (Ah.mk v5.1 v5.2.1 v5.2.2 v16, true)) N ([], 0))
  (fun i a => a.1.length = i ∧ a.2.1.length = i ∧ a.2.2.length = i ∧ (∀ k, k < i → (1 ≤ a.1.getD k 0 ∧ a.1.getD k 0 ≤ 3) ∧ (0 ≤ a.2.1.getD k 0 ∧ a.2.1.getD k 0 < a.1.getD k 0) ∧ (0 ≤ a.2.2.getD k 0 ∧ a.2.2.getD k 0 < a.1.getD k 0)))
  (fun n i a hi ha => by
   obtain ⟨vs, ns, ts⟩ := a
   obtain ⟨h1, h2, h3, h4⟩ := ha
   simp only at h1 h2 h3 h4
   have hv := TK w1 i
   have hb := TK w2 i
   have hk := TK w3 i
   have hm := Im (n := 3) hv.1 (by omega)
   obtain ⟨v, hvd⟩ : ∃ v, v = 1 + Int.tmod (d.fb.getD i 0) 3 := ⟨_, rfl⟩
   have m1 := Im (n := v) hb.1 (by omega)
   have m2 := Im (n := v) hk.1 (by omega)
   refine ⟨(vs ++ [v], ns ++ [Int.tmod (d.ff.getD i 0) v], ts ++ [Int.tmod (d.fh.getD i 0) v]), ?_, by simp [h1], by simp [h2], by simp [h3], ?_⟩
   ·rw [C4]
    simp only
    rw [AG (by omega), Dp (d := 0) hi, P7 N w2, P7 N w3]
    simp only [oS]
    rw [CM (n := Int.tmod _ _) (by omega) (by omega), CM (n := 1 + _) (by omega) (by omega), ← hvd, AT (by omega)]
    have l1 : ∀ y : Int, vs.length + ([y] : List Int).length ≤ Eg := by intro y; rw [h1]; unfold Eg; simp; omega
    have l2 : ∀ y : Int, ns.length + ([y] : List Int).length ≤ Eg := by intro y; rw [h2]; unfold Eg; simp; omega
    have l3 : ∀ y : Int, ts.length + ([y] : List Int).length ≤ Eg := by intro y; rw [h3]; unfold Eg; simp; omega
    simp only [AI (l1 _), AI (l2 _), AI (l3 _), AI (show v ≠ 0 by omega)]
   ·intro k hk
    simp only
    by_cases hki : k < i
    ·rw [JC (by omega), JC (by omega), JC (by omega)]; exact h4 k hki
    ·have : k = i := by omega
     subst this
     rw [JL h1.symm, JL h2.symm, JL h3.symm]
     omega)
  (fun n a _ => by
   rw [C4]
   simp only
   rw [AC (by omega)]) N 0 ([], [], []) (Nat.zero_le _) (by omega) ⟨rfl, rfl, rfl, fun k hk => by omega⟩
 simp only at h1 h2 h3 h4
 have e' : C4 N d (fun v5 => BQ N d v5 (fun v16 => some (Ah.mk v5.1 v5.2.1 v5.2.2 v16, true)) N ([], 0)) N ([], [], [], 0) = _ := e
 rw [e']
 have hvs : ∀ v, v ∈ vs → 1 ≤ v ∧ v ≤ 3 := by
  intro v hv
  obtain ⟨q, hq⟩ := List.mem_iff_getElem?.1 hv
  have := (h4 q (by have := (lI.1 hq).1; omega)).1
  rwa [lD, hq] at this
 have fin : ∀ tabs : List AQ, tabs.length ≤ 4 → (∀ t, t ∈ tabs → EA ⟨vs, ns, ts, []⟩ t = 0) → XD ⟨vs, ns, ts, tabs⟩ := by
  intro tabs ht h
  have hp : BB ⟨vs, ns, ts, tabs⟩ := ⟨show vs.length ≤ 6 by omega, show tabs.length ≤ 12 by omega, show ns.length = vs.length by omega, show ts.length = vs.length by omega, fun v hv => by have := hvs v hv; omega, fun t ht => by rw [← h t ht]; exact Ui rfl t⟩
  exact ⟨Qt hp fun i hi => by have := h4 i (by have : i < vs.length := hi; omega); simp only; omega, show vs.length ≤ 3 by omega, ht, fun v hv => (hvs v hv).2⟩
 by_cases k3 : vs.length = 0
 ·refine ⟨_, true, ?_, fun _ => fin [] (by simp) (fun t ht => by cases ht)⟩
  obtain ⟨M, rfl⟩ : ∃ M, N = M + 1 := ⟨N - 1, by omega⟩
  rw [BQ]
  simp only [Bf]
  rw [k3]
  by_cases k4 : (0 : Int) < (d.fv.length : Int)
  ·rw [AG k4]; rfl
  ·rw [AC k4]; rfl
 obtain ⟨tabs, e2, g1, g2⟩ := Fs (A := List AQ) (BQ N d (vs, ns, ts) (fun v16 => some (Ah.mk vs ns ts v16, true))) (fun a k => (a, k)) d.fv.length (fun v16 => some (Ah.mk vs ns ts v16, true))
  (fun i a => a.length = i ∧ ∀ t, t ∈ a → EA ⟨vs, ns, ts, []⟩ t = 0)
  (fun n i a hi ha => by
   have hx : d.fv[i]? = some d.fv[i] := by simp [hi]
   generalize d.fv[i] = l at hx
   obtain ⟨u1, u2, u3, _, u5, u6, _⟩ := w4 l (lM hx)
   have u1 := Jl u1
   have u2 := Jl u2
   have u3 := Jl u3
   have mk := Im (n := 4) u1.1 (by omega)
   have hL : (0 : Int) < (vs.length : Int) := by omega
   have mf := Im (n := (vs.length : Int)) u2.1 hL
   have mt := Im (n := (vs.length : Int)) u3.1 hL
   rw [BQ]
   simp only [Bf]
   rw [AG (by omega), decide_eq_true hL, AN, Bc, hx]
   simp only [oS]
   rw [AI (by omega), AI (by omega), CM (n := l.fi) (by omega) (by omega), CM (n := l.fk) (by omega) (by omega), CM (n := Int.tmod l.fg 4) (by omega) (by omega), CM (n := 1 + _) (by omega) (by omega), AT (by omega)]
   simp only [M9, oS]
   rw [Fc (d := 0) mf.1 mf.2, Fc (d := 0) mt.1 mt.2]
   simp only [oS]
   have hA : ∀ q : Int, 0 ≤ q → q < (vs.length : Int) → 1 ≤ vs.getD q.toNat 0 ∧ vs.getD q.toNat 0 ≤ 3 := fun q h0 h1 => (h4 q.toNat (by omega)).1
   have hf := hA _ mf.1 mf.2
   have ht := hA _ mt.1 mt.2
   obtain ⟨A, eA, a1, a2, _⟩ := Ts N (vs.getD (Int.tmod l.fi (vs.length : Int)).toNat 0) (vs.getD (Int.tmod l.fk (vs.length : Int)).toNat 0) l.fA false hN h20 (by omega) (by omega)
   obtain ⟨B, eB, b1, b2, b3⟩ := Ts N (vs.getD (Int.tmod l.fi (vs.length : Int)).toNat 0) (vs.getD (Int.tmod l.fi (vs.length : Int)).toNat 0) l.fB true hN h20 (by omega) (by omega)
   rw [eA, eB]
   simp only [oS]
   have l1 : ∀ y : AQ, a.length + ([y] : List AQ).length ≤ Eg := by intro y; rw [ha.1]; unfold Eg; simp; omega
   simp only [AI (l1 _)]
   obtain ⟨kd, hkd⟩ : ∃ kd, kd = 1 + Int.tmod l.fg 4 := ⟨_, rfl⟩
   rw [← hkd]
   have fin2 : ∀ (aw : Bool) (re : List (List Bool)), (aw = true → (kd == 3 || kd == 4) = false) → ((kd = 4 → re = B) ∧ (kd ≠ 4 → re = [])) →
     EA ⟨vs, ns, ts, []⟩ (AQ.mk kd (Int.tmod l.fi (vs.length : Int)) (Int.tmod l.fk (vs.length : Int)) aw A re) = 0 := by
    intro aw re haw hre
    refine Yr ⟨show 1 ≤ kd ∧ kd ≤ 4 by omega, haw, mf, mt, a1, a2, fun h => by rw [hre.1 h]; exact b1, fun row hr => ?_, fun h => by rw [hre.1 h]; exact b3 rfl rfl, fun h => hre.2 h⟩
    by_cases h4 : kd = 4
    ·simp only at hr; rw [hre.1 h4] at hr; exact b2 row hr
    ·simp only at hr; rw [hre.2 h4] at hr; cases hr
   have app : ∀ t, EA ⟨vs, ns, ts, []⟩ t = 0 → (a ++ [t]).length = i + 1 ∧ ∀ t', t' ∈ a ++ [t] → EA ⟨vs, ns, ts, []⟩ t' = 0 := by
    intro t ht
    refine ⟨by simp [ha.1], fun t' ht' => ?_⟩
    rcases List.mem_append.1 ht' with h | h
    ·exact ha.2 t' h
    ·rw [List.mem_singleton.1 h]; exact ht
   by_cases h4 : kd = 4
   ·have e4 : (kd == 4) = true := beq_iff_eq.2 h4
    have hre : (kd = 4 → B = B) ∧ (kd ≠ 4 → B = []) := ⟨fun _ => rfl, fun h => (h h4).elim⟩
    rw [e4]
    simp only [AN, Bool.or_true, Bool.not_true]
    cases l.fp
    ·exact ⟨_, rfl, app _ (fin2 false B (fun h => by cases h) hre)⟩
    ·exact ⟨_, rfl, app _ (fin2 false B (fun h => by cases h) hre)⟩
   ·have e4 : (kd == 4) = false := beq_eq_false_iff_ne.2 h4
    have hre : (kd = 4 → ([] : List (List Bool)) = B) ∧ (kd ≠ 4 → ([] : List (List Bool)) = []) := ⟨fun h => (h4 h).elim, fun _ => rfl⟩
    rw [e4]
    simp only [Aw, Bool.or_false]
    cases l.fp
    ·exact ⟨_, rfl, app _ (fin2 false [] (fun h => by cases h) hre)⟩
    ·cases e3 : kd == 3
     ·exact ⟨_, rfl, app _ (fin2 true [] (fun _ => by rw [e3, e4]; rfl) hre)⟩
     ·exact ⟨_, rfl, app _ (fin2 false [] (fun h => by cases h) hre)⟩)
  (fun n a _ => by
   rw [BQ]
   simp only [Bf]
   rw [AC (by omega), Aw]) N 0 [] (Nat.zero_le _) (by omega) ⟨rfl, fun t ht => by cases ht⟩
 exact ⟨_, true, e2, fun _ => fin tabs (by omega) g2⟩
def IW : List Int → Nat → Nat
 | [], _ => 0
 | _, 0 => 0
 | n :: ns, q + 1 => (if 0 ≤ n then 1 else 0) + IW ns q
theorem Js (l : List Int) : IW l 0 = 0 := by cases l <;> rfl
theorem H7 : ∀ (l : List Int) (q : Nat), q < l.length → IW l (q + 1) = IW l q + if 0 ≤ l.getD q 0 then 1 else 0
 | [], q, h => by simp at h
 | n :: ns, 0, _ => by simp [IW, Js]
 | n :: ns, q + 1, h => by
  rw [IW, H7 ns q (by simpa using h), IW, List.getD_cons_succ, Nat.add_assoc]
theorem O5 (l : List Int) {a b : Nat} (h : a ≤ b) (hb : b ≤ l.length) : IW l a ≤ IW l b := by
 induction b with
 | zero => rw [Nat.le_zero.1 h]; exact Nat.le_refl _
 | succ b ih =>
  by_cases h1 : a = b + 1
  ·rw [h1]; exact Nat.le_refl _
  ·have := ih (by omega) (by omega)
   rw [H7 l b (by omega)]; omega
theorem K8 (l : List Int) : ∀ q, q ≤ l.length → IW l q ≤ q
 | 0, _ => by rw [Js]; exact Nat.le_refl _
 | q + 1, h => by
  have := K8 l q (by omega)
  rw [H7 l q h]
  split <;> omega
def M5 (l : List Int) (k q : Nat) : Int := if 0 ≤ l.getD q 0 ∧ k.testBit (IW l q) = true then -1 else l.getD q 0
def Wq (l : List Int) (k : Nat) : List Int := (List.range l.length).map (M5 l k)
def YR (m : Af) (k : Nat) : Af := ⟨m.fd, Wq m.fa k, m.fe⟩
def GC (m : Af) : List Af := (List.range (2 ^ IW m.fa m.fa.length)).map (YR m)
theorem MG (l : List Int) (k : Nat) : (Wq l k).length = l.length := by simp [Wq]
theorem P8 (l : List Int) (k q : Nat) (h : q < l.length) : (Wq l k).getD q 0 = M5 l k q := by
 unfold Wq; rw [lD, List.getElem?_map, List.getElem?_range h]; rfl
theorem FQ {l1 l2 : List Int} (h1 : l1.length = l2.length) (h : ∀ q, q < l1.length → l1.getD q 0 = l2.getD q 0) : l1 = l2 := by
 apply List.ext_getElem h1
 intro q h2 h3
 have := h q h2
 rw [lD, lD, List.getElem?_eq_getElem h2, List.getElem?_eq_getElem h3] at this
 exact this
theorem TM : ∀ (k : Fin 64) (b : Fin 7), Gf .i64 (Eh .i64 (k.val : Int) (b.val : Int)) 1 = (if k.val.testBit b.val then 1 else 0) ∧ Int.tmod (Eh .i64 (k.val : Int) (b.val : Int)) 2 = (if k.val.testBit b.val then 1 else 0) := by decide +kernel
theorem Xz : ∀ n : Fin 7, CJ .i64 1 (n.val : Int) = ((2 ^ n.val : Nat) : Int) := by decide +kernel
structure Pr (m x : Af) : Prop where
 base : x.fd = m.fd
 held : x.fe = m.fe
 len : x.fa.length = m.fa.length
 next : ∀ q, q < m.fa.length → x.fa.getD q 0 = m.fa.getD q 0 ∨ (0 ≤ m.fa.getD q 0 ∧ x.fa.getD q 0 = -1)
theorem Pr.refl (m : Af) : Pr m m := ⟨rfl, rfl, rfl, fun _ _ => .inl rfl⟩
theorem Pr.trans {a b c : Af} (h1 : Pr a b) (h2 : Pr b c) : Pr a c :=
 ⟨h2.base.trans h1.base, h2.held.trans h1.held, h2.len.trans h1.len, fun q hq => by
  have e1 := h1.next q hq
  have e2 := h2.next q (by rw [h1.len]; exact hq)
  omega⟩
theorem VY (m : Af) (k : Nat) : Pr m (YR m k) :=
 ⟨rfl, rfl, MG _ _, fun q hq => by
  show (Wq m.fa k).getD q 0 = _ ∨ _ ∧ (Wq m.fa k).getD q 0 = _
  rw [P8 _ _ _ hq]; unfold M5
  split
  ·rename_i h; exact .inr ⟨h.1, rfl⟩
  ·exact .inl rfl⟩
theorem TX : ∀ (l x : List Int), x.length = l.length → (∀ q, q < l.length → x.getD q 0 = l.getD q 0 ∨ (0 ≤ l.getD q 0 ∧ x.getD q 0 = -1)) → ∃ k, k < 2 ^ IW l l.length ∧ ∀ q, q < l.length → x.getD q 0 = M5 l k q
 | [], x, h, _ => ⟨0, by simp [IW], fun q hq => by simp at hq⟩
 | n :: ns, [], h, _ => by simp at h
 | n :: ns, y :: ys, h, hq => by
  obtain ⟨k, hk, hk2⟩ := TX ns ys (by simpa using h) (fun q hq' => by have := hq (q + 1) (by simpa using hq'); simpa using this)
  have h0 := hq 0 (by simp)
  simp only [List.getD_cons_zero] at h0
  by_cases hn : 0 ≤ n
  ·refine ⟨2 * k + if y = n then 0 else 1, ?_, ?_⟩
   ·rw [List.length_cons, IW, if_pos hn, Nat.pow_add]
    split <;> omega
   ·intro q hq'
    cases q with
    | zero =>
     simp only [List.getD_cons_zero, M5, Js]
     by_cases hy : y = n
     ·simp [hy]
     ·rw [if_neg hy, if_pos ⟨hn, by simp⟩]; omega
    | succ q =>
     have := hk2 q (by simpa using hq')
     simp only [List.getD_cons_succ, M5, IW, if_pos hn] at this ⊢
     rw [this, Nat.add_comm 1, Nat.testBit_succ]
     have : (2 * k + if y = n then 0 else 1) / 2 = k := by split <;> omega
     rw [this]
  ·refine ⟨k, ?_, ?_⟩
   ·rw [List.length_cons, IW, if_neg hn, Nat.zero_add]; exact hk
   ·intro q hq'
    cases q with
    | zero =>
     simp only [List.getD_cons_zero, M5, Js]
     rw [if_neg (fun h => hn h.1)]
     omega
    | succ q =>
     have := hk2 q (by simpa using hq')
     simp only [List.getD_cons_succ, M5, IW, if_neg hn, Nat.zero_add] at this ⊢
     exact this
theorem Oa {m x : Af} : x ∈ GC m ↔ Pr m x := by
 unfold GC
 rw [List.mem_map]
 constructor
 ·rintro ⟨k, _, rfl⟩; exact VY m k
 ·intro h
  obtain ⟨k, hk, hq⟩ := TX m.fa x.fa h.len h.next
  refine ⟨k, List.mem_range.2 hk, ?_⟩
  have : Wq m.fa k = x.fa := FQ (by rw [MG, h.len]) fun q hq' => by
   rw [MG] at hq'
   rw [P8 _ _ _ hq', hq q hq']
  unfold YR
  rw [this, ← h.base, ← h.held]
theorem Yq {m x : Af} (h : Pr m x) {s : Nat} (hs : s < m.fa.length) {v : Nat} (hv : IT x s v = true) : IT m s v = true := by
 unfold IT at hv ⊢
 rw [h.base] at hv
 have := h.next s hs
 simp only [Bool.or_eq_true, decide_eq_true_eq] at hv ⊢
 omega
theorem XT {p : Ah} {m x : Af} (hp : BB p) (hm : B3 p m) (h : Pr m x) : B3 p x := by
 refine ⟨⟨by rw [h.base]; exact hm.base, by rw [h.len]; exact hm.next, by rw [h.held]; exact hm.held, fun i hi => by rw [h.base]; exact hm.b0 i hi, fun i hi => ?_, fun i hi => ?_⟩, fun i hi => by rw [h.held]; exact hm.range i hi, fun i t ht hs v hv => ?_, fun i t ht hs v hv => ?_, fun i t ht hs => by rw [h.held]; exact hm.none i t ht hs⟩
 ·have h1 := hm.n0 i hi
  have h2 := h.next i (by rw [hm.next]; exact hi)
  have h3 := IF hp hi
  omega
 ·have h1 := hm.ne i hi
  have h2 := h.next i (by rw [hm.next]; exact hi)
  have h3 := hm.b0 i hi
  rw [h.base]
  omega
 ·have hin := (M7 (hp.tab t (lM ht))).from0
  rw [h.held]
  exact hm.low i t ht hs v (Yq h (by rw [hm.next]; omega) hv)
 ·rw [h.held] at hv
  exact hm.high i t ht hs v hv
theorem J6 (N : Nat) (l : List Int) (h : l.length ≤ Eg) : Bx N l = some l := by
 unfold Bx
 rw [AI (by simpa using h)]; rfl
theorem PL (N : Nat) (l : List Int) (h : l.length ≤ Eg) : BM N l = some l := by
 unfold BM
 rw [AI (by simpa using h)]; rfl
theorem Jh {l : List Int} {i q : Nat} {y : Int} (hi : i < l.length) : (l.set i y).getD q 0 = if q = i then y else l.getD q 0 := by
 rw [lD, lD, List.getElem?_set]
 by_cases h : i = q
 ·subst h; simp [hi]
 ·rw [if_neg h, if_neg (fun e => h e.symm)]
theorem WZ {l : List Int} {a b : Nat} (ha : a < l.length) (hb : b < l.length) (h1 : 0 ≤ l.getD a 0) (h2 : 0 ≤ l.getD b 0) (h : IW l a = IW l b) : a = b := by
 rcases Nat.lt_trichotomy a b with h3 | h3 | h3
 ·have := O5 l (a := a + 1) (b := b) h3 (by omega)
  rw [H7 l a ha, if_pos h1] at this; omega
 ·exact h3
 ·have := O5 l (a := b + 1) (b := a) h3 (by omega)
  rw [H7 l b hb, if_pos h2] at this; omega
structure US (l : List Int) (o : List Int) : Prop where
 len : o.length = IW l l.length
 at_ : ∀ b, b < o.length → ∃ i : Nat, o.getD b 0 = (i : Int) ∧ i < l.length ∧ 0 ≤ l.getD i 0 ∧ IW l i = b
theorem Sc (N : Nat) (l o : List Int) (k : Nat) (acc : List Af) (hN : N ≤ 1000000) (h20 : 20 ≤ N) (hl : l.length ≤ 6) (ho : US l o) (hk : k < 64) (j : List Int → Option (List Af × Int)) :
  Dn N o (acc, (k : Int)) j N (l, 0) = j (Wq l k) := by
 have hol := K8 l l.length (Nat.le_refl _)
 have hoL := ho.len
 obtain ⟨x, e, h1, h2⟩ := Fs (A := List Int) (Dn N o (acc, (k : Int)) j) (fun a k => (a, k)) o.length j
  (fun b a => a.length = l.length ∧ ∀ q, q < l.length → a.getD q 0 = if 0 ≤ l.getD q 0 ∧ IW l q < b ∧ k.testBit (IW l q) = true then -1 else l.getD q 0)
  (fun n b a hb ha => by
   obtain ⟨i, hi1, hi2, hi3, hi4⟩ := ho.at_ b hb
   have hbit := TM ⟨k, hk⟩ ⟨b, by omega⟩
   rw [Dn]
   simp only [Bf]
   rw [AG (by omega), Dp (d := 0) hb]
   simp only [oS]
   rw [AI (by omega), hi1, hbit.1, Dp (d := 0) (show i < a.length by rw [ha.1]; exact hi2), AT (by omega)]
   simp only [oS, Int.toNat_natCast]
   cases hkb : k.testBit b
   ·refine ⟨a, rfl, ha.1, fun q hq => ?_⟩
    rw [ha.2 q hq]
    by_cases hqb : IW l q = b
    ·rw [hqb, hkb]; simp
    ·by_cases h3 : IW l q < b
     ·have : IW l q < b + 1 := by omega
      simp [h3, this]
     ·have : ¬ IW l q < b + 1 := by omega
      simp [h3, this]
   ·refine ⟨a.set i (-1), rfl, by simp [ha.1], fun q hq => ?_⟩
    rw [Jh (by rw [ha.1]; exact hi2), ha.2 q hq]
    by_cases hqi : q = i
    ·subst hqi
     rw [if_pos rfl, if_pos ⟨hi3, by omega, by rw [hi4]; exact hkb⟩]
    ·rw [if_neg hqi]
     by_cases h0 : 0 ≤ l.getD q 0
     ·have hne : IW l q ≠ b := fun h => hqi (WZ hq hi2 h0 hi3 (by omega))
      by_cases h3 : IW l q < b
      ·have : IW l q < b + 1 := by omega
       simp [h3, this]
      ·have : ¬ IW l q < b + 1 := by omega
       simp [h3, this]
     ·rw [if_neg (fun h => h0 h.1), if_neg (fun h => h0 h.1)])
  (fun n a _ => by
   rw [Dn]
   simp only [Bf]
   rw [AC (by omega)]) N 0 l (Nat.zero_le _) (by omega) ⟨rfl, fun q hq => by simp⟩
 have e' : Dn N o (acc, (k : Int)) j N (l, 0) = j x := e
 rw [e']
 congr 1
 refine FQ (by rw [MG, h1]) fun q hq => ?_
 rw [h1] at hq
 rw [h2 q hq, P8 _ _ _ hq, M5]
 by_cases h0 : 0 ≤ l.getD q 0
 ·have h3 := O5 l (a := q + 1) (b := l.length) hq (Nat.le_refl _)
  rw [H7 l q hq, if_pos h0] at h3
  have : IW l q < o.length := by omega
  simp [this]
 ·rw [if_neg (fun h => h0 h.1), if_neg (fun h => h0 h.1)]
theorem So (N : Nat) (m : Af) (k : Nat) (acc : List Af) (hN : N ≤ 1000000) (h20 : 20 ≤ N) (hl : m.fa.length ≤ 6) (hk : k < 64) (j : List Int → Option (List Af)) :
  Cd N m (acc, (k : Int)) j N (m.fa, 0, 0) = j (Wq m.fa k) := by
 obtain ⟨⟨x, pl⟩, e, h1, h2, h3⟩ := Fs (A := List Int × Nat) (Cd N m (acc, (k : Int)) j) (fun a k => (a.1, (a.2 : Int), k)) m.fa.length (fun a => j a.1)
  (fun i a => a.2 = IW m.fa i ∧ a.1.length = m.fa.length ∧ ∀ q, q < m.fa.length → a.1.getD q 0 = if q < i then M5 m.fa k q else m.fa.getD q 0)
  (fun n i a hi ha => by
   obtain ⟨a, pl⟩ := a
   obtain ⟨a1, a2, a3⟩ := ha
   simp only at a1 a2 a3
   have hple := K8 m.fa i (by omega)
   have hbit := TM ⟨k, hk⟩ ⟨pl, by omega⟩
   have hs := H7 m.fa i hi
   rw [Cd]
   simp only [Bf]
   rw [AG (by omega), Dp (d := 0) hi]
   simp only [oS]
   rw [AT (by omega)]
   by_cases h0 : m.fa.getD i 0 < 0
   ·rw [AG h0]
    refine ⟨(a, pl), rfl, by simp only; rw [hs, if_neg (by omega), a1]; rfl, a2, fun q hq => ?_⟩
    simp only
    rw [a3 q hq]
    by_cases hqi : q = i
    ·subst hqi
     rw [if_neg (by omega), if_pos (by omega), M5, if_neg (by omega)]
    ·by_cases h4 : q < i
     ·rw [if_pos h4, if_pos (by omega)]
     ·rw [if_neg h4, if_neg (by omega)]
   ·rw [AC h0, AI (by omega), Dp (d := 0) (show i < a.length by omega), hbit.2, AT (by omega)]
    simp only [oS, Int.toNat_natCast]
    cases hkb : k.testBit pl
    ·refine ⟨(a, pl + 1), rfl, by simp only; rw [hs, if_pos (by omega), a1], a2, fun q hq => ?_⟩
     simp only
     rw [a3 q hq]
     by_cases hqi : q = i
     ·subst hqi
      rw [if_neg (by omega), if_pos (by omega), M5, ← a1, hkb]; simp
     ·by_cases h4 : q < i
      ·rw [if_pos h4, if_pos (by omega)]
      ·rw [if_neg h4, if_neg (by omega)]
    ·refine ⟨(a.set i (-1), pl + 1), rfl, by simp only; rw [hs, if_pos (by omega), a1], by simp [a2], fun q hq => ?_⟩
     simp only
     rw [Jh (by omega), a3 q hq]
     by_cases hqi : q = i
     ·subst hqi
      rw [if_pos rfl, if_pos (by omega), M5, ← a1, if_pos ⟨by omega, hkb⟩]
     ·rw [if_neg hqi]
      by_cases h4 : q < i
      ·rw [if_pos h4, if_pos (by omega)]
      ·rw [if_neg h4, if_neg (by omega)])
  (fun n a _ => by
   rw [Cd]
   simp only [Bf]
   rw [AC (by omega)]) N 0 (m.fa, 0) (Nat.zero_le _) (by omega) ⟨(Js _).symm, rfl, fun q hq => by simp⟩
 have e' : Cd N m (acc, (k : Int)) j N (m.fa, 0, 0) = j x := e
 rw [e']
 congr 1
 simp only at h2 h3
 refine FQ (by rw [MG, h2]) fun q hq => ?_
 rw [h2] at hq
 rw [h3 q hq, if_pos hq, P8 _ _ _ hq]
theorem VU (N : Nat) (m : Af) (hN : N ≤ 1000000) (h20 : 20 ≤ N) (hl : m.fa.length ≤ 6) (j : List Int → Option (List Af × Int)) :
  ∃ o, Ec N m j N ([], 0) = j o ∧ US m.fa o := by
 obtain ⟨o, e, h1, h2⟩ := Fs (A := List Int) (Ec N m j) (fun a k => (a, k)) m.fa.length j
  (fun i o => o.length = IW m.fa i ∧ ∀ b, b < o.length → ∃ q : Nat, o.getD b 0 = (q : Int) ∧ q < m.fa.length ∧ 0 ≤ m.fa.getD q 0 ∧ IW m.fa q = b)
  (fun n i o hi ho => by
   have hple := K8 m.fa i (by omega)
   have hs := H7 m.fa i hi
   rw [Ec]
   simp only [Bf]
   rw [AG (by omega), Dp (d := 0) hi]
   simp only [oS]
   rw [AT (by omega)]
   by_cases h0 : 0 ≤ m.fa.getD i 0
   ·rw [AG h0, AI (by rw [ho.1]; unfold Eg; simp; omega)]
    refine ⟨o ++ [(i : Int)], rfl, by rw [hs, if_pos h0, ← ho.1]; simp, ?_⟩
    rw [List.length_append]
    exact N2 (P := fun b y => ∃ q : Nat, y = (q : Int) ∧ q < m.fa.length ∧ 0 ≤ m.fa.getD q 0 ∧ IW m.fa q = b) rfl ho.2 ⟨i, rfl, hi, h0, ho.1.symm⟩
   ·rw [AC h0]
    exact ⟨o, rfl, by rw [hs, if_neg h0, ho.1]; rfl, ho.2⟩)
  (fun n a _ => by
   rw [Ec]
   simp only [Bf]
   rw [AC (by omega)]) N 0 [] (Nat.zero_le _) (by omega) ⟨(Js _).symm, fun b hb => by simp at hb⟩
 exact ⟨o, e, h1, h2⟩
theorem LT {n : Nat} (h : n ≤ 6) : 2 ^ n ≤ 64 := Nat.pow_le_pow_right (n := 2) (by omega) h
theorem NZ {n : Nat} (h : n ≤ 6) : CJ .i64 1 (n : Int) = ((2 ^ n : Nat) : Int) := Xz ⟨n, by omega⟩
theorem KM {β : Type} (f : Nat → β) (n : Nat) : (List.range (n + 1)).map f = (List.range n).map f ++ [f n] := by
 rw [List.range_succ, List.map_append]; rfl
theorem Pq (N : Nat) (p : Ah) (m : Af) (hN : N ≤ 1000000) (h20 : 100 ≤ N) (hw : MO KH m.fe) (hv : B7 p m = 0) : FO N p m = some (GC m, 0) := by
 obtain ⟨hp, hm⟩ := Ju hw hv
 have hnv := hp.nv
 have hnt := hp.nt
 have hl : m.fa.length ≤ 6 := by rw [hm.next]; omega
 unfold FO
 rw [H1 N p m hN (by omega) hw, hv]
 simp only [oS, bne_self_eq_false, Aw]
 obtain ⟨o, e, ho⟩ := VU N m hN (by omega) hl (fun (v4 : (List Int)) =>
   (EB (0 ≤ (v4.length : Int))).bind fun _ =>
   Dk N m v4 (fun (v12 : (List Af)) =>
    some (v12, 0)) N (([] : List Af), 0))
 rw [e, AI (by omega)]
 have hoL := ho.len
 have hol := K8 m.fa m.fa.length (Nat.le_refl _)
 have hpow := LT (show IW m.fa m.fa.length ≤ 6 by omega)
 obtain ⟨a, e2, h1⟩ := Fs (A := List Af) (Dk N m o fun v12 => some (v12, 0)) (fun a k => (a, k)) (2 ^ IW m.fa m.fa.length) (fun v12 => some (v12, 0))
  (fun i a => a = (List.range i).map (YR m))
  (fun n i a hi ha => by
   refine ⟨a ++ [YR m i], ?_, by rw [KM, ha]⟩
   have hal : a.length = i := by rw [ha]; simp
   rw [Dk]
   rw [hoL, NZ (n := IW m.fa m.fa.length) (by omega), AG (by omega), J6 N m.fd (by have := hm.base; unfold Eg; omega), J6 N m.fa (by unfold Eg; omega), PL N m.fe (by have := hm.held; unfold Eg; omega)]
   simp only [oS]
   rw [Sc N m.fa o i a hN (by omega) hl ho (by omega), AI (by rw [hal]; unfold Eg; simp; omega), AT (by omega)]
   rfl)
  (fun n a _ => by
   rw [Dk]
   rw [hoL, NZ (n := IW m.fa m.fa.length) (by omega), AC (by simp)]) N 0 [] (Nat.zero_le _) (by omega) rfl
 have e2' : Dk N m o (fun v12 => some (v12, 0)) N ([], 0) = some (a, 0) := e2
 rw [e2', h1]; rfl
theorem S3 (N : Nat) (m : Af) (h1 : m.fd.length ≤ Eg) (h2 : m.fa.length ≤ Eg) (h3 : m.fe.length ≤ Eg) : EC N m = some m := by
 unfold EC
 rw [AI (by simpa using h1), AI (by simpa using h2), AI (by simpa using h3)]; rfl
theorem S8 (N : Nat) (m : Af) (hN : N ≤ 1000000) (h20 : 100 ≤ N) (h1 : m.fd.length ≤ 100) (hl : m.fa.length ≤ 6) (h3 : m.fe.length ≤ 100) : EI N m = some (GC m) := by
 unfold EI
 obtain ⟨c, e, hc⟩ := Fs (A := Nat) (CT N m (fun (v2 : Int) =>
  BP N m v2 (fun (v8 : (List Af)) => some v8) N (([] : List Af), 0))) (fun a k => ((a : Int), k)) m.fa.length (fun a => BP N m (a : Int) (fun (v8 : (List Af)) => some v8) N (([] : List Af), 0))
  (fun i a => a = IW m.fa i)
  (fun n i a hi ha => by
   have hple := K8 m.fa i (by omega)
   have hs := H7 m.fa i hi
   rw [CT]
   simp only [Bf]
   rw [AG (by omega), Dp (d := 0) hi]
   simp only [oS]
   rw [AT (by omega), AT (by omega)]
   by_cases h0 : 0 ≤ m.fa.getD i 0
   ·rw [AG h0]
    exact ⟨a + 1, rfl, by rw [hs, if_pos h0, ha]⟩
   ·rw [AC h0]
    exact ⟨a, rfl, by rw [hs, if_neg h0, ha]; rfl⟩)
  (fun n a _ => by
   rw [CT]
   simp only [Bf]
   rw [AC (by omega)]) N 0 0 (Nat.zero_le _) (by omega) (Js _).symm
 have e' : CT N m (fun (v2 : Int) => BP N m v2 (fun (v8 : (List Af)) => some v8) N (([] : List Af), 0)) N (0, 0) = _ := e
 rw [e', hc]
 have hol := K8 m.fa m.fa.length (Nat.le_refl _)
 have hpow := LT (show IW m.fa m.fa.length ≤ 6 by omega)
 obtain ⟨a, e2, h1⟩ := Fs (A := List Af) (BP N m (IW m.fa m.fa.length : Int) fun v8 => some v8) (fun a k => (a, k)) (2 ^ IW m.fa m.fa.length) some
  (fun i a => a = (List.range i).map (YR m))
  (fun n i a hi ha => by
   refine ⟨a ++ [YR m i], ?_, by rw [KM, ha]⟩
   have hal : a.length = i := by rw [ha]; simp
   rw [BP]
   rw [AI (by omega), NZ (n := IW m.fa m.fa.length) (by omega), AG (by omega), S3 N m (by unfold Eg; omega) (by unfold Eg; omega) (by unfold Eg; omega)]
   simp only [oS]
   rw [So N m i a hN (by omega) hl (by omega), AI (by rw [hal]; unfold Eg; simp; omega), AT (by omega)]
   rfl)
  (fun n a _ => by
   rw [BP]
   rw [AI (by omega), NZ (n := IW m.fa m.fa.length) (by omega), AC (by simp)]) N 0 [] (Nat.zero_le _) (by omega) rfl
 have e2' : BP N m (IW m.fa m.fa.length : Int) (fun v8 => some v8) N ([], 0) = some a := e2
 rw [e2', h1]; rfl
theorem SP (N : Nat) (p : Ah) (m : Af) (hN : N ≤ 1000000) (h20 : 100 ≤ N) (hp : BB p) (hm : B3 p m) : EI N m = some (GC m) := by
 have := hp.nv
 have := hp.nt
 exact S8 N m hN h20 (by rw [hm.base]; omega) (by rw [hm.next]; omega) (by rw [hm.held]; omega)
theorem Kb {p : Ah} {m : Af} (hm : B3 p m) : MO KH m.fe := by
 intro x hx
 obtain ⟨q, hq⟩ := List.mem_iff_getElem?.1 hx
 have h1 := (lI.1 hq).1
 have := hm.range q (by rw [← hm.held]; exact h1)
 rw [lD, hq] at this
 unfold KH
 simp only [Option.getD_some] at this
 simp [Lit.wf, IntKind.min, IntKind.max, IntKind.signed, IntKind.bits]
 omega
def LO (p : Ah) (x : Af) : Option (Af × Al) := match Hv p x with
 | [] => none
 | c :: _ => some (x, c)
def OK (p : Ah) (m : Af) : Option (Af × Al) := D1 (fun _ x => LO p x) 0 (GC m)
def Hi : Af := ⟨[], [], []⟩
def TC : Al := ⟨0, 0, 0⟩
def SR (p : Ah) (m : Af) : Af × Al × Int := match OK p m with
 | some (x, c) => (x, c, 0)
 | none => (Hi, TC, 15)
def Br (p : Ah) (m : Af) : Bool := (OK p m).isNone
theorem N9 {m : Af} (hl : m.fa.length ≤ 6) : (GC m).length ≤ 64 := by
 unfold GC
 have hol := K8 m.fa m.fa.length (Nat.le_refl _)
 have hpow := LT (show IW m.fa m.fa.length ≤ 6 by omega)
 simpa using hpow
theorem N6 {α R R' : Type} (f : Nat → α → Option R) (g : R → R') : ∀ (i : Nat) (xs : List α), D1 (fun i x => (f i x).map g) i xs = (D1 f i xs).map g
 | _, [] => rfl
 | i, x :: xs => by
  rw [HF, HF]
  cases f i x
  ·exact N6 f g (i + 1) xs
  ·rfl
theorem QZ (N : Nat) (p : Ah) (m : Af) (hN : N ≤ 1000000) (h20 : 100 ≤ N) (hw : MO KH m.fe) (hv : B7 p m = 0) : FB N p m = some (SR p m) := by
 obtain ⟨hp, hm⟩ := Ju hw hv
 have hnv := hp.nv
 unfold FB
 rw [Pq N p m hN h20 hw hv]
 simp only [oS, bne_self_eq_false, Aw]
 have hal := N9 (m := m) (by rw [hm.next]; omega)
 have := De (E6 N p (GC m, 0) fun _ => some (Hi, TC, 15)) (GC m) (some (Hi, TC, 15)) (fun _ x => (LO p x).map fun y => (y.1, y.2, 0))
  (fun n i x hx => by
   have hi := (lI.1 hx).1
   have hx2 := XT hp hm (Oa.1 (lM hx))
   rw [E6, AG (by simp only; omega)]
   simp only [Bc, hx, oS]
   rw [MT N p x hN (by omega) hp hx2, AT (by omega)]
   simp only [oS, LO]
   cases Hv p x with
   | nil => rfl
   | cons c cs => rw [AG (by simp only [List.length_cons]; omega)]; rfl)
  (fun n => by rw [E6, AC (by simp)]) N 0 (Nat.zero_le _) (by omega)
 rw [List.drop_zero, N6] at this
 exact this.trans (by
  unfold SR OK
  cases D1 (fun _ x => LO p x) 0 (GC m) <;> rfl)
theorem Hm (N : Nat) (p : Ah) (m : Af) (hN : N ≤ 1000000) (h20 : 100 ≤ N) (hw : MO KH m.fe) (hv : B7 p m = 0) : DW N p m = some (Br p m, 0) := by
 unfold DW
 rw [QZ N p m hN h20 hw hv]
 unfold Br SR
 cases OK p m <;> rfl
theorem RQ (N : Nat) (p : Ah) (m : Af) (hN : N ≤ 1000000) (h20 : 100 ≤ N) (hp : BB p) (hm : B3 p m) : ED N p m = some (Hv p m).isEmpty := by
 unfold ED
 rw [M1 N p m hN (by omega) hp hm]
 simp only [oS]
 cases Hv p m with
 | nil => rfl
 | cons c cs =>
  rw [beq_eq_false_iff_ne.2 (by simp only [List.length_cons]; omega)]; rfl
theorem LD (N : Nat) (p : Ah) (m : Af) (hN : N ≤ 1000000) (h20 : 100 ≤ N) (hp : BB p) (hm : B3 p m) : Dt N p m = some (Br p m) := by
 have hnv := hp.nv
 unfold Dt
 rw [SP N p m hN h20 hp hm]
 simp only [oS]
 have hal := N9 (m := m) (by rw [hm.next]; omega)
 have := De (Cn N p (GC m) fun _ => some true) (GC m) (some true) (fun _ x => (LO p x).map fun _ => false)
  (fun n i x hx => by
   have hi := (lI.1 hx).1
   have hx2 := XT hp hm (Oa.1 (lM hx))
   rw [Cn, AG (by omega)]
   simp only [Bc, hx, oS]
   rw [RQ N p x hN h20 hp hx2, AT (by omega)]
   simp only [oS, LO]
   cases Hv p x with
   | nil => rfl
   | cons c cs => rfl)
  (fun n => by rw [Cn, AC (by simp)]) N 0 (Nat.zero_le _) (by omega)
 rw [List.drop_zero, N6] at this
 refine Eq.trans this ?_
 unfold Br OK
 cases D1 (fun _ x => LO p x) 0 (GC m) <;> rfl
theorem Nq {N : Nat} {a b : Af} (hN : N ≤ 1000000) (h1 : a.fd.length < N) (h2 : a.fa.length < N) (h3 : a.fe.length < N) (h4 : b.fe.length < N) (wa : MO KH a.fe) (wb : MO KH b.fe) : Ca N a b = some (EU a b) := by
 unfold Ca
 rw [OG h1 hN, OG h2 hN, Nk h3 hN wa, Nk h4 hN wb]
 simp only [oS]
 rw [OG h3 hN]
 unfold EU Su
 by_cases h1 : EY a.fd b.fd = 0
 ·simp only [h1, Su]
  by_cases h2 : EY a.fa b.fa = 0
  ·simp only [h2]
   by_cases h3 : EY a.fe b.fe = 0 <;> simp [h3]
  ·have : (EY a.fa b.fa != 0) = true := by simpa using h2
   simp [h2, this]
 ·have : (EY a.fd b.fd != 0) = true := by simpa using h1
  simp [h1, this]
theorem P6 (N : Nat) (a : List Af) (hN : N ≤ 1000000) (h : a.length < N) (hs : ∀ x, x ∈ a → Dx N x x = some true) : Er N a a = some true := by
 unfold Er
 rw [bne_self_eq_false, Aw]
 have := De (C8 N a a fun _ => some true) a (some true) (fun _ _ => none)
  (fun n i x hx => by
   have hi := (lI.1 hx).1
   rw [C8, AG (by omega)]
   simp only [Bc, hx, oS]
   rw [hs x (lM hx), AT (by omega)]; rfl)
  (fun n => by rw [C8, AC (by simp)]) N 0 (Nat.zero_le _) (by omega)
 refine this.trans ?_
 rw [FA (fun _ _ _ => rfl)]; rfl
theorem Qm (N : Nat) (a b : List Int) (hN : N ≤ 1000000) (h : a.length < N) : Ea N a b = some (a == b) := by
 unfold Ea
 by_cases hl : a.length = b.length
 ·rw [hl, bne_self_eq_false, Aw]
  have := De (Cl N a b fun _ => some true) a (some true) (fun i x => if x = b.getD i 0 then none else some false)
   (fun n i x hx => by
    have hi := (lI.1 hx).1
    rw [Cl, AG (by omega), Bc, hx, Dp (d := 0) (by omega)]
    simp only [oS]
    rw [AT (by omega)]
    by_cases h : x = b.getD i 0
    ·rw [if_pos h, h, bne_self_eq_false]; rfl
    ·rw [if_neg h, bne_iff_ne.2 h]; rfl)
   (fun n => by rw [Cl, AC (by simp)]) N 0 (Nat.zero_le _) (by omega)
  refine this.trans ?_
  rw [List.drop_zero]
  cases hs : D1 (fun i x => if x = b.getD i 0 then none else some false) 0 a with
  | none =>
   have : a = b := FQ hl fun q hq => by
    have hx : a[q]? = some (a.getD q 0) := by rw [lD]; simp [hq]
    have := FW hs q _ hx
    rw [Nat.zero_add] at this
    split at this
    ·assumption
    ·cases this
   rw [this, beq_self_eq_true]; rfl
  | some r =>
   obtain ⟨j, x, hx, hf⟩ := EJ hs
   rw [Nat.zero_add] at hf
   split at hf
   ·cases hf
   ·rename_i hne
    cases hf
    have : (a == b) = false := beq_eq_false_iff_ne.2 fun e => hne (by rw [← e, lD, hx]; rfl)
    rw [this]; rfl
 ·have h1 : ((a.length : Int) != (b.length : Int)) = true := bne_iff_ne.2 (by omega)
  have h2 : (a == b) = false := beq_eq_false_iff_ne.2 fun e => hl (by rw [e])
  rw [h1, h2]; rfl
theorem Qf (N : Nat) (a : List Int) (f : Int → Option Bool) (g : Int → Bool) (hN : N ≤ 1000000) (h : a.length < N) (hf : ∀ x, x ∈ a → f x = some (g x)) : CX N a f = some (a.any g) := by
 unfold CX Ef
 have := De (Bw N a f fun _ => some (-1)) a (some (-1)) (fun i x => if g x then some (i : Int) else none)
  (fun n i x hx => by
   have hi := (lI.1 hx).1
   rw [Bw, AG (by omega), Bc, hx]
   simp only [oS]
   rw [hf x (lM hx), AT (by omega)]
   simp only [oS]
   cases g x <;> rfl)
  (fun n => by rw [Bw, AC (by simp)]) N 0 (Nat.zero_le _) (by omega)
 have e : Bw N a f (fun _ => some (-1)) N 0 = _ := this
 rw [e, List.drop_zero]
 cases hs : D1 (fun i x => if g x then some (i : Int) else none) 0 a with
 | none =>
  have : a.any g = false := by
   rw [List.any_eq_false]
   intro x hx
   obtain ⟨j, hj⟩ := List.mem_iff_getElem?.1 hx
   have := FW hs j x hj
   intro hg
   rw [hg] at this; cases this
  rw [this]; rfl
 | some r =>
  obtain ⟨j, x, hx, hf⟩ := EJ hs
  split at hf
  ·rename_i hg
   cases hf
   have : a.any g = true := List.any_eq_true.2 ⟨x, lM hx, hg⟩
   rw [this]
   simp only [BS, oS]
   rw [decide_eq_true (by omega)]
  ·cases hf
def H3 (p : Ah) (m : Af) : Bool := B7 p m == 0 && (m.fd == p.fh && m.fa.all (fun n => decide (n < 0)))
theorem Ni (N : Nat) (p : Ah) (m : Af) (hN : N ≤ 1000000) (h20 : 100 ≤ N) (hw : MO KH m.fe) : HH N p m = some (H3 p m) := by
 unfold HH H3
 rw [H1 N p m hN (by omega) hw]
 simp only [Bf, oS]
 by_cases hv : B7 p m = 0
 ·obtain ⟨hp, hm⟩ := Ju hw hv
  have := hp.nv
  rw [hv, Qm N _ _ hN (by rw [hm.base]; omega), Qf N m.fa (fun x => Hk N x) (fun n => decide (0 ≤ n)) hN (by rw [hm.next]; omega) (fun x _ => rfl)]
  simp only [oS, beq_self_eq_true, AN, Bool.true_and]
  have : m.fa.all (fun n => decide (n < 0)) = !m.fa.any (fun n => decide (0 ≤ n)) := by
   rw [List.not_any_eq_all_not]
   congr 1; funext n
   by_cases h : 0 ≤ n
   ·rw [decide_eq_true h, decide_eq_false (by omega)]; rfl
   ·rw [decide_eq_false h, decide_eq_true (by omega)]; rfl
  rw [this]
  cases m.fd == p.fh <;> simp
 ·rw [beq_eq_false_iff_ne.2 hv]; rfl
theorem R3 (N : Nat) (p : Ah) (m : Af) (hN : N ≤ 1000000) (h20 : 100 ≤ N) (hw : MO KH m.fe) : E9 N p m = some (H3 p m) := by
 unfold E9 H3
 rw [Mg N p m hN (by omega)]
 simp only [oS]
 by_cases hv : B7 p m = 0
 ·obtain ⟨hp, hm⟩ := Ju hw hv
  have h1 := hp.nv
  have h2 := hp.tgt
  have h3 := hm.base
  have h4 := hm.next
  rw [hv]
  simp only [bne_self_eq_false, Aw, beq_self_eq_true, Bool.true_and]
  have := De (C9 N p m fun _ => some true) m.fd (some true) (fun i x => if 0 ≤ m.fa.getD i 0 ∨ x ≠ p.fh.getD i 0 then some false else none)
   (fun n i x hx => by
    have hi := (lI.1 hx).1
    rw [C9, AG (by omega)]
    simp only [Bf]
    rw [show Bg m.fd (i : Int) = some x from by rw [Bc, hx], Dp (d := 0) (by omega), Dp (d := 0) (by omega)]
    simp only [oS]
    rw [AT (by omega)]
    by_cases k1 : 0 ≤ m.fa.getD i 0
    ·rw [AG k1, if_pos (.inl k1)]; rfl
    ·rw [AC k1]
     by_cases k2 : x = p.fh.getD i 0
     ·rw [if_neg (fun h => h.elim k1 (fun h => h k2)), k2, bne_self_eq_false]; rfl
     ·rw [if_pos (.inr k2), bne_iff_ne.2 k2]; rfl)
   (fun n => by rw [C9, AC (by simp)]) N 0 (Nat.zero_le _) (by omega)
  refine this.trans ?_
  rw [List.drop_zero]
  cases hs : D1 (fun i x => if 0 ≤ m.fa.getD i 0 ∨ x ≠ p.fh.getD i 0 then some false else none) 0 m.fd with
  | none =>
   have key : ∀ q, q < m.fd.length → m.fd.getD q 0 = p.fh.getD q 0 ∧ ¬ 0 ≤ m.fa.getD q 0 := by
    intro q hq
    have hx : m.fd[q]? = some (m.fd.getD q 0) := by rw [lD]; simp [hq]
    have := FW hs q _ hx
    rw [Nat.zero_add] at this
    split at this
    ·cases this
    ·rename_i h; exact ⟨Decidable.not_not.1 fun h' => h (.inr h'), fun h' => h (.inl h')⟩
   have e1 : m.fd = p.fh := FQ (by omega) fun q hq => (key q hq).1
   have e2 : m.fa.all (fun n => decide (n < 0)) = true := by
    rw [List.all_eq_true]
    intro n hn
    obtain ⟨q, hq⟩ := List.mem_iff_getElem?.1 hn
    have hl := (lI.1 hq).1
    have := (key q (by omega)).2
    rw [lD, hq] at this
    simp only [Option.getD_some] at this
    simp only [decide_eq_true_eq]
    omega
   rw [e2, e1]; simp [BS]
  | some r =>
   obtain ⟨j, x, hx, hf⟩ := EJ hs
   rw [Nat.zero_add] at hf
   have hj := (lI.1 hx).1
   split at hf
   ·rename_i h
    cases hf
    have : (m.fd == p.fh && m.fa.all (fun n => decide (n < 0))) = false := by
     rw [Bool.and_eq_false_iff]
     rcases h with h | h
     ·right
      rw [List.all_eq_false]
      refine ⟨m.fa.getD j 0, ?_, ?_⟩
      ·rw [lD, List.getElem?_eq_getElem (by omega)]; exact List.getElem_mem _
      ·simp only [decide_eq_true_eq]; omega
     ·left
      exact beq_eq_false_iff_ne.2 fun e => h (by rw [← e, lD, hx]; rfl)
    rw [this]; rfl
   ·cases hf
 ·rw [bne_iff_ne.2 hv, beq_eq_false_iff_ne.2 hv]; rfl
open Go
def F6 (p : Ah) (t : AQ) : Int := if Cy t = true then CJ .u8 1 (p.ff.getD t.fi.toNat 0) else 0
def El (p : Ah) : Af := ⟨p.ff, List.replicate p.ff.length (-1), p.fc.map (F6 p)⟩
theorem Uo (N : Nat) (h : 100 ≤ N) (n : Nat) (hn : n ≤ 6) : EP N [(-1)] (n : Int) = some (List.replicate n (-1)) := by
 obtain ⟨k, rfl⟩ : ∃ k, N = k + 100 := ⟨N - 100, by omega⟩
 have : n = 0 ∨ n = 1 ∨ n = 2 ∨ n = 3 ∨ n = 4 ∨ n = 5 ∨ n = 6 := by omega
 rcases this with rfl | rfl | rfl | rfl | rfl | rfl | rfl
 all_goals (show _ = _; kernel_rfl)
theorem RM (T : List Int) (i : Nat) (hi : i < T.length) : (T.take i ++ List.replicate (T.length - i) 0).set i (T.getD i 0) = T.take (i + 1) ++ List.replicate (T.length - (i + 1)) 0 := by
 have hl : (T.take i).length = i := by simp; omega
 rw [List.set_append_right _ _ (by omega), hl, Nat.sub_self, show T.length - i = (T.length - (i + 1)) + 1 from by omega, List.replicate_succ, List.set_cons_zero, List.take_add_one, List.append_assoc]
 have : T[i]? = some (T.getD i 0) := by rw [lD]; simp [hi]
 rw [this]; rfl
theorem Uj (T : List Int) (i : Nat) (hi : i < T.length) (h0 : T.getD i 0 = 0) : T.take i ++ List.replicate (T.length - i) 0 = T.take (i + 1) ++ List.replicate (T.length - (i + 1)) 0 := by
 rw [← RM T i hi, h0, List.set_append_right _ _ (by rw [List.length_take]; omega)]
 congr 1
 have hl : (T.take i).length = i := by simp; omega
 rw [hl, Nat.sub_self, show T.length - i = (T.length - (i + 1)) + 1 from by omega, List.replicate_succ, List.set_cons_zero]
theorem ST {p : Ah} (hv : CR p = 0) {t : AQ} (ht : t ∈ p.fc) : 0 ≤ t.fi ∧ t.fi.toNat < p.ff.length ∧ 0 ≤ p.ff.getD t.fi.toNat 0 ∧ p.ff.getD t.fi.toNat 0 < 6 ∧ p.ff.getD t.fi.toNat 0 < p.fb.getD t.fi.toNat 0 ∧ t.fi.toNat < p.fb.length := by
 obtain ⟨hp, hr⟩ := DA hv
 have h1 := Jd (hp.tab t ht)
 have h2 := hr t.fi.toNat (by omega)
 have h3 := IF hp (i := t.fi.toNat) (by omega)
 have := hp.now
 refine ⟨h1.1, by omega, h2.1, by omega, h2.2.1, by omega⟩
theorem J1 {p : Ah} {i : Nat} {t : AQ} (ht : p.fc[i]? = some t) : (p.fc.map (F6 p)).getD i 0 = F6 p t := by
 rw [lD, List.getElem?_map, ht]; rfl
theorem Mw (N : Nat) (p : Ah) (hN : N ≤ 1000000) (h20 : 100 ≤ N) : GZ N p = some (if CR p = 0 then El p else ⟨[], [], []⟩, CR p) := by
 unfold GZ
 rw [Ma N p hN (by omega)]
 simp only [oS]
 by_cases hv : CR p = 0
 ·rw [if_pos hv, hv]
  obtain ⟨hp, _⟩ := DA hv
  have hnv := hp.nv
  have hnt := hp.nt
  have hnow := hp.now
  rw [bne_self_eq_false, Aw, J6 N _ (by simp only [Eg]; omega)]
  simp only [oS]
  rw [Uo N h20 _ (by omega)]
  simp only [oS]
  rw [AI (by simp only [Eg]; omega)]
  obtain ⟨a', e, ha⟩ := Fs (Ew N p fun v7 => some (Af.mk p.ff (List.replicate p.ff.length (-1)) v7, 0)) (fun a i => (a, i)) p.fc.length (fun v7 => some (Af.mk p.ff (List.replicate p.ff.length (-1)) v7, 0))
   (fun i a => a = (p.fc.map (F6 p)).take i ++ List.replicate ((p.fc.map (F6 p)).length - i) 0)
   (fun n i a hi ha => by
    have hx : p.fc[i]? = some p.fc[i] := by simp [hi]
    have hm : p.fc[i] ∈ p.fc := List.getElem_mem hi
    obtain ⟨n1, n2, n3, n4, _⟩ := ST hv hm
    rw [Ew, AG (by simp only; omega)]
    simp only [Bf, Bc, hx, oS, JV, AT (show i < 1000000 by omega)]
    have hal : i < (p.fc.map (F6 p)).length := by simpa using hi
    cases hs : Cy p.fc[i]
    ·rw [Aw]
     refine ⟨a, rfl, ?_⟩
     rw [ha]
     exact Uj _ _ hal (by rw [J1 hx]; unfold F6; rw [hs]; rfl)
    ·rw [AN]
     have e1 : Bg p.ff p.fc[i].fi = some (p.ff.getD p.fc[i].fi.toNat 0) := by
      obtain ⟨q, hq⟩ := Int.eq_ofNat_of_zero_le n1
      rw [hq]; exact Dp (by rw [hq] at n2; simpa using n2)
     rw [e1]
     simp only [oS]
     rw [AI n3]
     have hl : i < a.length := by rw [ha]; simp; omega
     have e2 : a[i]? = some a[i] := by simp [hl]
     rw [e2]
     simp only [oS]
     refine ⟨_, rfl, ?_⟩
     rw [← RM _ _ hal, J1 hx, ha]
     unfold F6; rw [hs]; rfl)
   (fun n a ha => by rw [Ew, AC (by simp)]) N 0 (List.replicate p.fc.length 0) (Nat.zero_le _) (by omega) (by simp)
  have e' : Ew N p (fun v7 => some (Af.mk p.ff (List.replicate p.ff.length (-1)) v7, 0)) N (List.replicate ((p.fc.length : Int)).toNat (0 : Int), 0) = _ := e
  rw [e', ha]
  have e5 : (p.fc.map (F6 p)).take p.fc.length = p.fc.map (F6 p) := List.take_of_length_le (by simp)
  simp [El, e5]
 ·rw [if_neg hv, bne_iff_ne.2 hv, AN]
theorem QN (N : Nat) (p : Ah) (hN : N ≤ 1000000) (h20 : 100 ≤ N) : EQ N p = some (if CR p = 0 then El p else ⟨[], [], []⟩, CR p) := by
 unfold EQ
 rw [O8 N p hN (by omega)]
 simp only [oS]
 by_cases hv : CR p = 0
 ·rw [if_pos hv, hv]
  obtain ⟨hp, _⟩ := DA hv
  have hnv := hp.nv
  have hnt := hp.nt
  have hnow := hp.now
  rw [bne_self_eq_false, Aw]
  obtain ⟨a', e, ha⟩ := Fs (Ct N p fun v4 => Bv N p (fun v10 => some (Af.mk v4.1 v4.2 v10, 0)) N (([] : List Int), 0)) (fun a i => (a.1, a.2, i)) p.fb.length (fun v4 => Bv N p (fun v10 => some (Af.mk v4.1 v4.2 v10, 0)) N (([] : List Int), 0))
   (fun i a => a = (p.ff.take i, List.replicate i (-1)))
   (fun n i a hi ha => by
    subst ha
    rw [Ct, AG (by simp only; omega)]
    have hx : p.ff[i]? = some p.ff[i] := by simp [show i < p.ff.length from by omega]
    simp only [Bc, hx, oS, AT (show i < 1000000 by omega)]
    rw [AI (by simp [Eg]; omega), AI (by simp [Eg]; omega)]
    refine ⟨(p.ff.take i ++ [p.ff[i]], List.replicate i (-1) ++ [-1]), rfl, ?_⟩
    rw [List.take_add_one, hx, List.replicate_succ']; rfl)
   (fun n a ha => by rw [Ct, AC (by simp)]) N 0 ([], []) (Nat.zero_le _) (by omega) rfl
  have e' : Ct N p (fun v4 => Bv N p (fun v10 => some (Af.mk v4.1 v4.2 v10, 0)) N (([] : List Int), 0)) N (([] : List Int), ([] : List Int), 0) = _ := e
  rw [e', ha]
  simp only
  obtain ⟨b', e2, hb⟩ := Fs (Bv N p fun v10 => some (Af.mk (p.ff.take p.fb.length) (List.replicate p.fb.length (-1)) v10, 0)) (fun a i => (a, i)) p.fc.length (fun v10 => some (Af.mk (p.ff.take p.fb.length) (List.replicate p.fb.length (-1)) v10, 0))
   (fun i a => a = (p.fc.map (F6 p)).take i)
   (fun n i a hi ha => by
    subst ha
    have hx : p.fc[i]? = some p.fc[i] := by simp [hi]
    have hm : p.fc[i] ∈ p.fc := List.getElem_mem hi
    obtain ⟨n1, n2, n3, n4, _⟩ := ST hv hm
    rw [Bv, AG (by simp only; omega)]
    simp only [Bf, Bc, hx, oS, Hj, AT (show i < 1000000 by omega)]
    have hT : (p.fc.map (F6 p))[i]? = some (F6 p p.fc[i]) := by rw [List.getElem?_map, hx]; rfl
    have hlen : ((p.fc.map (F6 p)).take i).length + 1 ≤ Eg := by simp [Eg]; omega
    cases hs : Cy p.fc[i]
    ·rw [Aw, AI (by simpa using hlen)]
     refine ⟨_, rfl, ?_⟩
     rw [List.take_add_one, hT]
     unfold F6; rw [hs]; rfl
    ·rw [AN]
     have e1 : Bg p.ff p.fc[i].fi = some (p.ff.getD p.fc[i].fi.toNat 0) := by
      obtain ⟨q, hq⟩ := Int.eq_ofNat_of_zero_le n1
      rw [hq]; exact Dp (by rw [hq] at n2; simpa using n2)
     rw [e1]
     simp only [oS]
     rw [AI n3, AI (by simpa using hlen)]
     refine ⟨_, rfl, ?_⟩
     rw [List.take_add_one, hT]
     unfold F6; rw [hs]; rfl)
   (fun n a ha => by rw [Bv, AC (by simp)]) N 0 [] (Nat.zero_le _) (by omega) rfl
  have e3 : Bv N p (fun v10 => some (Af.mk (p.ff.take p.fb.length) (List.replicate p.fb.length (-1)) v10, 0)) N (([] : List Int), 0) = _ := e2
  rw [e3, hb]
  simp only [El, ← hnow, List.take_length]
  rw [show p.fc.length = (p.fc.map (F6 p)).length from by simp, List.take_length]
 ·rw [if_neg hv, bne_iff_ne.2 hv, AN]
theorem Lj {p : Ah} (hv : CR p = 0) : B3 p (El p) := by
 obtain ⟨hp, hr⟩ := DA hv
 have hnow := hp.now
 have hnx : ∀ i, i < p.fb.length → (List.replicate p.ff.length (-1 : Int)).getD i 0 = -1 := fun i hi => by
  rw [lD, List.getElem?_replicate, if_pos (by omega)]; rfl
 have hone : ∀ (i : Nat) (t : AQ), p.fc[i]? = some t → ∃ b : Nat, b < 6 ∧ p.ff.getD t.fi.toNat 0 = (b : Int) ∧ (b : Int) < p.fb.getD t.fi.toNat 0 ∧ t.fi.toNat < p.fb.length := fun i t ht => by
  obtain ⟨n1, n2, n3, n4, n5, n6⟩ := ST hv (lM ht)
  obtain ⟨b, hb⟩ := Int.eq_ofNat_of_zero_le n3
  exact ⟨b, by omega, hb, by omega, n6⟩
 have hbit : ∀ b : Nat, b < 8 → ∀ v, D6 (CJ .u8 1 (b : Int)) v = decide (b = v) := fun b hb v => by
  by_cases h : v < 8
  ·exact (Ki ⟨b, hb⟩ ⟨v, h⟩).1
  ·rw [Kw (Ki ⟨b, hb⟩ ⟨0, by omega⟩).2.2 (by omega)]
   symm; apply decide_eq_false; omega
 refine { base := hnow, next := by simp [El, hnow], held := by simp [El], b0 := fun i hi => ⟨(hr i hi).1, (hr i hi).2.1⟩, n0 := fun i hi => ?_, ne := fun i hi => ?_, range := fun i hi => ?_, low := fun i t ht hs v hv' => ?_, high := fun i t ht hs v hb => ?_, none := fun i t ht hs => ?_ }
 ·show -1 ≤ (List.replicate p.ff.length (-1 : Int)).getD i 0 ∧ (List.replicate p.ff.length (-1 : Int)).getD i 0 < _
  rw [hnx i hi]
  have := IF hp hi
  omega
 ·show p.ff.getD i 0 ≠ (List.replicate p.ff.length (-1 : Int)).getD i 0
  rw [hnx i hi]
  have := hr i hi
  omega
 ·have hx : p.fc[i]? = some p.fc[i] := by simp [hi]
  show 0 ≤ (p.fc.map (F6 p)).getD i 0 ∧ (p.fc.map (F6 p)).getD i 0 ≤ 255
  rw [J1 hx]
  unfold F6
  split
  ·obtain ⟨b, h1, h2, _⟩ := hone i _ hx
   rw [h2]
   exact (Ki ⟨b, by omega⟩ ⟨0, by omega⟩).2
  ·omega
 ·show D6 ((p.fc.map (F6 p)).getD i 0) v = true
  obtain ⟨b, h1, h2, h3, h4⟩ := hone i t ht
  rw [J1 ht]
  unfold F6
  rw [if_pos hs, h2, hbit b (by omega)]
  unfold IT at hv'
  have h5 : (El p).fd.getD t.fi.toNat 0 = (b : Int) := h2
  have h6 : (El p).fa.getD t.fi.toNat 0 = -1 := hnx _ h4
  rw [h5, h6, Bool.or_eq_true, decide_eq_true_iff, decide_eq_true_iff] at hv'
  apply decide_eq_true; omega
 ·have hb : D6 ((p.fc.map (F6 p)).getD i 0) v = true := hb
  obtain ⟨b, h1, h2, h3, h4⟩ := hone i t ht
  rw [J1 ht] at hb
  unfold F6 at hb
  rw [if_pos hs, h2, hbit b (by omega), decide_eq_true_iff] at hb
  omega
 ·show (p.fc.map (F6 p)).getD i 0 = 0
  rw [J1 ht]; unfold F6; rw [hs]; rfl
theorem NA (x : BitVec 8) : wI .u8 (x.toNat : Int) = (x.toNat : Int) := by
 have := x.isLt
 simp [wI, IntKind.signed, IntKind.bits]
 omega
theorem Q5 (x : BitVec 8) : 0 ≤ (x.toNat : Int) ∧ (x.toNat : Int) ≤ 255 := by
 have := x.isLt
 omega
theorem UI (x : BitVec 8) (v : Nat) : D6 (x.toNat : Int) v = x.getLsbD v := by
 unfold D6; rw [Int.toNat_natCast]; rfl
theorem QY {a : Int} (ha : 0 ≤ a ∧ a ≤ 255) (v : Nat) : (BitVec.ofInt 8 a).getLsbD v = D6 a v := by
 obtain ⟨a, rfl⟩ := Int.eq_ofNat_of_zero_le ha.1
 unfold BitVec.getLsbD D6
 rw [UU (by omega), Int.toNat_natCast]
theorem Ta {a b : Int} (ha : 0 ≤ a ∧ a ≤ 255) (hb : 0 ≤ b ∧ b ≤ 255) : (∀ v, D6 (DF .u8 a b) v = (D6 a v && !D6 b v)) ∧ 0 ≤ DF .u8 a b ∧ DF .u8 a b ≤ 255 := by
 have e : DF .u8 a b = ((BitVec.ofInt 8 a &&& ~~~BitVec.ofInt 8 b).toNat : Int) := NA (BitVec.ofInt 8 a &&& ~~~BitVec.ofInt 8 b)
 rw [e]
 refine ⟨fun v => ?_, Q5 _⟩
 rw [UI, BitVec.getLsbD_and, BitVec.getLsbD_not, QY ha, QY hb]
 by_cases h : v < 8
 ·simp [h]
 ·rw [Kw ha.2 (by omega)]; simp
theorem SB {a b : Int} (ha : 0 ≤ a ∧ a ≤ 255) (hb : 0 ≤ b ∧ b ≤ 255) : (∀ v, D6 (Pa .u8 a b) v = (D6 a v || D6 b v)) ∧ 0 ≤ Pa .u8 a b ∧ Pa .u8 a b ≤ 255 := by
 have e : Pa .u8 a b = ((BitVec.ofInt 8 a ||| BitVec.ofInt 8 b).toNat : Int) := NA (BitVec.ofInt 8 a ||| BitVec.ofInt 8 b)
 rw [e]
 refine ⟨fun v => ?_, Q5 _⟩
 rw [UI, BitVec.getLsbD_or, QY ha, QY hb]
theorem WN {b : Nat} (hb : b < 8) : (∀ v, D6 (CJ .u8 1 (b : Int)) v = decide (b = v)) ∧ 0 ≤ CJ .u8 1 (b : Int) ∧ CJ .u8 1 (b : Int) ≤ 255 := by
 refine ⟨fun v => ?_, (Ki ⟨b, hb⟩ ⟨0, by omega⟩).2⟩
 by_cases h : v < 8
 ·exact (Ki ⟨b, hb⟩ ⟨v, h⟩).1
 ·rw [Kw (Ki ⟨b, hb⟩ ⟨0, by omega⟩).2.2 (by omega)]
  symm; apply decide_eq_false; omega
theorem VW (N : Nat) {s : Int} {v : Nat} (hs : 0 ≤ s ∧ s ≤ 255) (hv : v < 8) : CL N s (v : Int) = some (D6 s v) := by
 unfold CL
 rw [AI (by omega), Qw hs.1 hs.2 hv]
 cases D6 s v <;> rfl
def XK (v : Nat) : Nat := ((List.range 8).find? fun u => v.testBit u).getD 8
def Zw (v : Nat) : Nat := ((List.range 8).filter fun u => v.testBit u).length
theorem Yc : ∀ v : Fin 256, Dl 0 (v.val : Int) = some (XK v.val : Int) := by decide +kernel
theorem am (N : Nat) {v : Nat} (h : v < 256) : Dl N (v : Int) = some (XK v : Int) := Yc ⟨v, h⟩
theorem Xv : ∀ v : Fin 256, v.val ≠ 0 → XK v.val < 8 ∧ D6 (v.val : Int) (XK v.val) = true ∧ 0 ≤ Gf .u8 (v.val : Int) (wI .u8 ((v.val : Int) - 1)) ∧ Gf .u8 (v.val : Int) (wI .u8 ((v.val : Int) - 1)) ≤ 255 ∧
  Zw (Gf .u8 (v.val : Int) (wI .u8 ((v.val : Int) - 1))).toNat + 1 = Zw v.val ∧
  ∀ u : Fin 8, D6 (Gf .u8 (v.val : Int) (wI .u8 ((v.val : Int) - 1))) u.val = (D6 (v.val : Int) u.val && decide (u.val ≠ XK v.val)) := by decide +kernel
theorem ZI (v : Nat) : Zw v ≤ 8 := by
 have := List.length_filter_le (fun u => v.testBit u) (List.range 8)
 simpa [Zw] using this
theorem Sq (N : Nat) (t : AQ) (b : Int) (rw_ : Nat → Bool) : ∀ (k n v : Nat), Zw v ≤ k → k < n → v < 256 →
  (∀ u, u < 8 → D6 (v : Int) u = true → ∃ row, Bg t.fm (u : Int) = some row ∧ Bg row b = some (rw_ u)) →
  DS N t b (fun _ => some true) n (v : Int) = some ((List.range 8).all fun u => !D6 (v : Int) u || rw_ u)
 | k, 0, v, _, h, _, _ => by omega
 | k, n + 1, v, hk, hn, hv, hr => by
  rw [DS]
  by_cases h0 : v = 0
  ·subst h0
   have : (((0 : Nat) : Int) != 0) = false := rfl
   rw [this, Aw]
   congr 1
  ·have h1 : ((v : Int) != 0) = true := bne_iff_ne.2 (by omega)
   obtain ⟨l1, l2, l3, l4, l5, l6⟩ := Xv ⟨v, hv⟩ h0
   simp only at l1 l2 l3 l4 l5 l6
   obtain ⟨row, e1, e2⟩ := hr _ l1 l2
   rw [h1, AN, am N hv]
   simp only [oS, e1, e2]
   obtain ⟨w, hw⟩ := Int.eq_ofNat_of_zero_le l3
   rw [hw] at l4 l5 l6 ⊢
   rw [Int.toNat_natCast] at l5
   cases hq : rw_ (XK v)
   ·rw [Bool.not_false, AN]
    congr 1
    symm
    rw [List.all_eq_false]
    exact ⟨XK v, by simpa using l1, by rw [l2, hq]; simp⟩
   ·rw [Bool.not_true, Aw]
    match k, hk with
    | 0, hk => exfalso; omega
    | k + 1, hk =>
    rw [Sq N t b rw_ k n w (by omega) (by omega) (by omega) (fun u hu hb => hr u hu (by have := l6 ⟨u, hu⟩; simp only at this; rw [hb] at this; simpa using (Bool.and_eq_true_iff.1 this.symm).1))]
    congr 1
    rw [Bool.eq_iff_iff, List.all_eq_true, List.all_eq_true]
    refine ⟨fun h u hu => ?_, fun h u hu => ?_⟩
    ·have hu8 : u < 8 := by simpa using hu
     have h3 := h u hu
     have h4 := l6 ⟨u, hu8⟩
     simp only at h4
     rw [h4] at h3
     by_cases e : u = XK v
     ·rw [e, hq]; simp
     ·simpa [e] using h3
    ·have hu8 : u < 8 := by simpa using hu
     have h3 := h u hu
     have h4 := l6 ⟨u, hu8⟩
     simp only at h4
     rw [h4]
     cases hb : D6 (v : Int) u
     ·simp
     ·rw [hb] at h3; simp at h3; simp [h3]
theorem Rb (N : Nat) (m : Af) (s : Int) (h0 : 0 ≤ s) (h1 : s < (m.fd.length : Int)) (h2 : s < (m.fa.length : Int)) (hb : 0 ≤ m.fd.getD s.toNat 0) : Gi N m s = some (Hd m s.toNat) := by
 unfold Gi Hd
 rw [Fc (d := 0) h0 h1, Fc (d := 0) h0 h2]
 simp only [oS, Bh]
 rw [show EB (0 ≤ m.fd.getD s.toNat 0) = some () from by unfold EB; rw [if_pos hb]]
 simp only [oS]
 by_cases h : 0 ≤ m.fa.getD s.toNat 0
 ·rw [AG h, if_pos h, show EB (0 ≤ m.fa.getD s.toNat 0) = some () from by unfold EB; rw [if_pos h]]; rfl
 ·rw [AC h, if_neg h]
theorem K5 (N : Nat) (t : AQ) : FX N t = some (Cy t) := by
 unfold FX Cy
 simp only [Bh]
 cases h : t.fg == 3 <;> simp
def HK (s : As) : Bool := decide (1 ≤ s.fg ∧ s.fg ≤ 4 ∧ 0 ≤ s.fj ∧ 0 ≤ s.fo) && (s.fg == 1 || s.fo == 0)
def GB (p : Ah) (s : As) : Bool :=
 if s.fg = 3 then decide (s.fj < (p.fc.length : Int)) else decide (s.fj < (p.fb.length : Int)) && (s.fg != 1 || decide (s.fo < p.fb.getD s.fj.toNat 0))
theorem Po (N : Nat) (s : As) : Ha N s = some (HK s) := by
 unfold Ha HK UD
 simp only [Bh]
 by_cases h1 : (if s.fo < s.fj then s.fo else s.fj) < 0
 ·rw [AG h1, AN, decide_eq_false (by split at h1 <;> omega)]; rfl
 ·rw [AC h1]
  by_cases h2 : s.fg < 1
  ·rw [AG h2, AN, decide_eq_false (by omega)]; rfl
  ·rw [AC h2]
   by_cases h3 : 4 < s.fg
   ·rw [decide_eq_true h3, AN, decide_eq_false (by omega)]; rfl
   ·rw [decide_eq_false h3, Aw, decide_eq_true (by split at h1 <;> omega), Bool.true_and]
    cases h4 : s.fg == 1 <;> simp
theorem Qx (N : Nat) (s : As) : ES N s = some (HK s) := by
 unfold ES HK
 simp only [Bh]
 by_cases h1 : 1 ≤ s.fg
 ·rw [AG h1]
  by_cases h2 : s.fg ≤ 4
  ·rw [AG h2]
   by_cases h3 : 0 ≤ s.fj
   ·rw [AG h3]
    by_cases h4 : 0 ≤ s.fo
    ·rw [AG h4, decide_eq_true (by omega), Bool.true_and]
     cases h5 : s.fg == 1 <;> simp
    ·rw [AC h4, decide_eq_false (by omega)]; rfl
   ·rw [AC h3, decide_eq_false (by omega)]; rfl
  ·rw [AC h2, decide_eq_false (by omega)]; rfl
 ·rw [AC h1, decide_eq_false (by omega)]; rfl
theorem N8 (N : Nat) (p : Ah) (s : As) (hv : HK s = true) : GJ N p s = some (GB p s) := by
 have h0 : 0 ≤ s.fj := by
  unfold HK at hv
  rw [Bool.and_eq_true, decide_eq_true_iff] at hv
  exact hv.1.2.2.1
 unfold GJ GB
 simp only [Bh]
 by_cases h1 : s.fg = 3
 ·rw [if_pos h1, beq_iff_eq.2 h1, AN]
 ·rw [if_neg h1, beq_eq_false_iff_ne.2 h1, Aw]
  by_cases h2 : s.fj < (p.fb.length : Int)
  ·rw [AG h2, decide_eq_true h2, Bool.true_and]
   cases h3 : s.fg != 1
   ·rw [Aw, Fc (d := 0) h0 h2, Bool.false_or]; rfl
   ·rw [AN]; rfl
  ·rw [AC h2, decide_eq_false h2]; rfl
def Tz (s : As) (t : AQ) : Bool := t.fi == s.fj && Cy t
def Ut (s : As) (i : Nat) (t : AQ) (a : List Int) : List Int := if Tz s t = true then a.set i (Pa .u8 (a.getD i 0) (CJ .u8 1 s.fo)) else a
def Jb (p : Ah) (s : As) (held : List Int) : List Int := IL (Ut s) 0 p.fc held
theorem NQ {_R : Type} (N : Nat) (p : Ah) (s : As) (held : List Int) (hv : 0 ≤ s.fo) (hl : held.length = p.fc.length) (h12 : p.fc.length < N) (hN : N ≤ 1000000) (j : List Int → Option (Bool × List Int × List Int)) :
  Ed N p s j N (held, 0) = j (Jb p s held) ∧ (Jb p s held).length = p.fc.length := by
 have := I2 (Ed N p s j) (fun a i => (a, i)) p.fc j (Ut s) (fun i a => a.length = p.fc.length)
  (fun n i x a hx ha => by
   have hi := (lI.1 hx).1
   rw [Ed, AG (by simp only; omega)]
   simp only [Bf, Bc, hx, oS, K5, AT (show i < 1000000 by omega)]
   have e2 : a[i]? = some (a.getD i 0) := by rw [lD]; simp [show i < a.length from by omega]
   unfold Ut Tz
   cases h1 : x.fi == s.fj
   ·rw [Aw, Aw, Bool.false_and, if_neg (by simp)]; exact ⟨rfl, ha⟩
   ·rw [AN, Bool.true_and]
    cases h2 : Cy x
    ·rw [Aw, if_neg (by simp)]; exact ⟨rfl, ha⟩
    ·rw [AN, e2, if_pos rfl]
     simp only [oS]
     rw [AI hv]
     exact ⟨rfl, by simpa using ha⟩)
  (fun n a ha => by rw [Ed, AC (by simp)]) N 0 held (Nat.zero_le _) (by omega) hl
 rw [List.drop_zero] at this
 exact this
theorem Oi (N : Nat) (p : Ah) (s : As) (held : List Int) (hv : 0 ≤ s.fo) (hl : held.length = p.fc.length) (h12 : p.fc.length < N) (hN : N ≤ 1000000) (j : List Int → Option (Af × Bool)) :
  Cg N p s j N (held, 0) = j (Jb p s held) := by
 have := I2 (Cg N p s j) (fun a i => (a, i)) p.fc j (Ut s) (fun i a => a.length = p.fc.length)
  (fun n i x a hx ha => by
   have hi := (lI.1 hx).1
   rw [Cg, AG (by simp only; omega)]
   simp only [Bf, Bc, hx, oS, Hj, AT (show i < 1000000 by omega)]
   have e2 : a[i]? = some (a.getD i 0) := by rw [lD]; simp [show i < a.length from by omega]
   unfold Ut Tz
   cases h1 : x.fi == s.fj
   ·rw [Aw, Aw, Bool.false_and, if_neg (by simp)]; exact ⟨rfl, ha⟩
   ·rw [AN, Bool.true_and]
    cases h2 : Cy x
    ·rw [Aw, if_neg (by simp)]; exact ⟨rfl, ha⟩
    ·rw [AN, e2, if_pos rfl]
     simp only [oS]
     rw [AI hv]
     exact ⟨rfl, by simpa using ha⟩)
  (fun n a ha => by rw [Cg, AC (by simp)]) N 0 held (Nat.zero_le _) (by omega) hl
 rw [List.drop_zero] at this
 exact this.1
def LC (m : Af) (t : AQ) (u : Nat) : Bool := (t.fm.getD u []).getD (m.fd.getD t.fi.toNat 0).toNat false
def Oy (m : Af) (i : Nat) (t : AQ) (u : Nat) : Bool := D6 (m.fe.getD i 0) u && !IT m t.fi.toNat u
def IH (_p : Ah) (m : Af) (i : Nat) (t : AQ) : Bool := t.fg == 4 && (List.range 8).any fun u => Oy m i t u && !LC m t u
def Gu (p : Ah) (m : Af) (s : As) : Option Af :=
 let i := s.fj.toNat
 if s.fg = 1 then (if 0 ≤ m.fa.getD i 0 ∨ m.fd.getD i 0 = s.fo then none else some ⟨m.fd, m.fa.set i s.fo, Jb p s m.fe⟩)
 else if s.fg = 3 then match p.fc[i]? with
  | none => none
  | some t => if Cy t = false ∨ m.fe.getD i 0 = Hd m t.fi.toNat ∨ IH p m i t = true then none else some ⟨m.fd, m.fa, m.fe.set i (Hd m t.fi.toNat)⟩
 else if m.fa.getD i 0 < 0 then none
 else some ⟨if s.fg = 2 then m.fd.set i (m.fa.getD i 0) else m.fd, m.fa.set i (-1), m.fe⟩
def BV (p : Ah) (m : Af) (s : As) : Af × Int :=
 if HK s = false then (Hi, 1) else if GB p s = false then (Hi, 4) else match Gu p m s with
  | none => (Hi, 11)
  | some x => (x, 0)
end Go.Lift
namespace Go.Lift
open Option renaming bind_some → oS
open List renaming mem_of_getElem? → lM
open List renaming getElem?_eq_some_iff → lI
open List renaming getD_eq_getElem?_getD → lD
open Go
section clear
variable {p : Ah} {m : Af} {i : Nat} {t : AQ}
theorem VF (hp : BB p) (hm : B3 p m) (ht : p.fc[i]? = some t) (hs : Cy t = true) {u : Nat} (h : D6 (m.fe.getD i 0) u = true) : (u : Int) < p.fb.getD t.fi.toNat 0 ∧ u < 6 ∧ t.fi.toNat < p.fb.length := by
 have h1 := hm.high i t ht hs u h
 have hin := Jd (hp.tab t (lM ht))
 have h2 := IF hp (i := t.fi.toNat) (by omega)
 exact ⟨h1, by omega, by omega⟩
theorem Wg (hp : BB p) (hm : B3 p m) (ht : p.fc[i]? = some t) (hs : Cy t = true) (h4 : t.fg = 4) {u : Nat} (h : D6 (m.fe.getD i 0) u = true) :
  Bg t.fm (u : Int) = some (t.fm.getD u []) ∧ Bg (t.fm.getD u []) (m.fd.getD t.fi.toNat 0) = some (LC m t u) := by
 have hT := M7 (hp.tab t (lM ht))
 obtain ⟨h1, h2, h3⟩ := VF hp hm ht hs h
 have hl := hT.reL h4
 have e : t.fm[u]? = some (t.fm.getD u []) := by rw [lD]; simp [show u < t.fm.length from by omega]
 have hr := hT.reR _ (lM e)
 have hb := hm.b0 t.fi.toNat h3
 refine ⟨by rw [Bc, e], ?_⟩
 unfold LC
 obtain ⟨b, hb'⟩ := Int.eq_ofNat_of_zero_le hb.1
 rw [hb'] at hb ⊢
 rw [Int.toNat_natCast]
 exact Dp (by omega)
theorem Pf (N : Nat) (hN : N ≤ 1000000) (h20 : 100 ≤ N) (hp : BB p) (hm : B3 p m) (ht : p.fc[i]? = some t) :
  Hg N p m (i : Int) = some (if Cy t = false ∨ m.fe.getD i 0 = Hd m t.fi.toNat ∨ IH p m i t = true then (false, m.fe) else (true, m.fe.set i (Hd m t.fi.toNat))) := by
 have hi := (lI.1 ht).1
 have hin := Jd (hp.tab t (lM ht))
 have hb := hm.base
 have hnx := hm.next
 have hh := hm.held
 have hr := IB hp hm.toMixServ (s := t.fi.toNat) (by omega)
 have hrg := hm.range i hi
 have eh : Bg m.fe (i : Int) = some (m.fe.getD i 0) := Dp (by omega)
 unfold Hg
 simp only [Bf, Bc, ht, oS, K5]
 have eh' : m.fe[i]? = some (m.fe.getD i 0) := by rw [← Bc, eh]
 cases hs : Cy t
 ·rw [Bool.not_false, AN, if_pos (.inl rfl)]
 ·rw [Bool.not_true, Aw, Rb N m _ hin.1 (by omega) (by omega) (hm.b0 _ (by omega)).1]
  simp only [oS, eh']
  by_cases h1 : m.fe.getD i 0 = Hd m t.fi.toNat
  ·rw [beq_iff_eq.2 h1, AN, AN, if_pos (.inr (.inl h1))]
  ·rw [beq_eq_false_iff_ne.2 h1, Aw]
   by_cases h4 : t.fg = 4
   ·rw [beq_iff_eq.2 h4, AN, Fc (d := 0) hin.1 (by omega)]
    simp only [oS]
    obtain ⟨a1, a2, a3⟩ := Ta hrg hr.2
    obtain ⟨w, hw⟩ := Int.eq_ofNat_of_zero_le a2
    unfold Gb
    rw [hw] at a1 a3 ⊢
    rw [Sq N t _ (LC m t) 8 N w (ZI _) (by omega) (by omega) (fun u hu hbu => by
     have := a1 u; rw [hbu] at this
     exact ⟨_, Wg hp hm ht hs h4 (Bool.and_eq_true_iff.1 this.symm).1⟩)]
    simp only [oS]
    have e : (!(List.range 8).all fun u => !D6 (w : Int) u || LC m t u) = IH p m i t := by
     unfold IH
     rw [beq_iff_eq.2 h4, Bool.true_and, List.not_all_eq_any_not]
     congr 1
     funext u
     rw [a1 u, hr.1 u]
     unfold Oy
     cases D6 (m.fe.getD i 0) u <;> cases IT m t.fi.toNat u <;> cases LC m t u <;> rfl
    rw [e]
    cases hst : IH p m i t
    ·rw [Aw, if_neg (by rintro (h | h | h); cases h; exact h1 h; cases h)]; rfl
    ·rw [AN, if_pos (.inr (.inr rfl))]
   ·have e : IH p m i t = false := by unfold IH; rw [beq_eq_false_iff_ne.2 h4]; rfl
    rw [beq_eq_false_iff_ne.2 h4, Aw, Aw, e, if_neg (by rintro (h | h | h); cases h; exact h1 h; cases h)]; rfl
theorem Oc (N : Nat) (hN : N ≤ 1000000) (h20 : 100 ≤ N) (hp : BB p) (hm : B3 p m) (ht : p.fc[i]? = some t) (hs : Cy t = true) (s : As) (hsi : s.fj = (i : Int)) (j : Option (Af × Bool)) :
  BZ N p m s t (Hd m t.fi.toNat) (fun _ => j) N 0 = if IH p m i t = true then some (Hi, false) else j := by
 have hi := (lI.1 ht).1
 have hin := Jd (hp.tab t (lM ht))
 have hb := hm.base
 have hh := hm.held
 have hr := IB hp hm.toMixServ (s := t.fi.toNat) (by omega)
 have hrg := hm.range i hi
 have hver := IF hp (i := t.fi.toNat) (by omega)
 obtain ⟨nv, hnv⟩ := Int.eq_ofNat_of_zero_le (show 0 ≤ p.fb.getD t.fi.toNat 0 by omega)
 have eh' : m.fe[i]? = some (m.fe.getD i 0) := by rw [lD]; simp [show i < m.fe.length from by omega]
 have := De (BZ N p m s t (Hd m t.fi.toNat) fun _ => j) (List.range nv) j (fun u _ => if (Oy m i t u && (t.fg == 4 && !LC m t u)) = true then some (Hi, false) else none)
  (fun n u x hx => by
   have hu : u < nv := by
    have := (lI.1 hx).1
    simpa using this
   rw [BZ, Fc (d := 0) hin.1 (by omega), hnv]
   simp only [oS]
   rw [AG (by omega)]
   simp only [Bf, hsi, Bc, eh', oS]
   rw [VW N hrg (by omega), AT (by omega)]
   simp only [oS]
   cases h1 : D6 (m.fe.getD i 0) u
   ·have e : Oy m i t u = false := by unfold Oy; rw [h1]; rfl
    rw [Aw, Aw, Aw, e]; rfl
   ·rw [AN, VW N hr.2 (by omega), hr.1 u]
    simp only [oS]
    have e : Oy m i t u = !IT m t.fi.toNat u := by unfold Oy; rw [h1]; rfl
    rw [← e]
    cases h2 : Oy m i t u
    ·rw [Aw, Aw]; rfl
    ·rw [AN]
     by_cases h4 : t.fg = 4
     ·obtain ⟨e1, e2⟩ := Wg hp hm ht hs h4 h1
      rw [Bc] at e1
      rw [beq_iff_eq.2 h4, AN, e1, Fc (d := 0) hin.1 (by omega)]
      simp only [oS]
      rw [e2]
      simp only [oS]
      cases LC m t u <;> rfl
     ·rw [beq_eq_false_iff_ne.2 h4, Aw, Aw]; rfl)
  (fun n => by
   rw [BZ, Fc (d := 0) hin.1 (by omega), hnv]
   simp only [oS, List.length_range]
   rw [AC (by omega)]) N 0 (Nat.zero_le _) (by simp; omega)
 have e0 : BZ N p m s t (Hd m t.fi.toNat) (fun _ => j) N 0 = _ := this
 rw [e0, List.drop_zero]
 by_cases hst : IH p m i t = true
 ·rw [if_pos hst]
  unfold IH at hst
  rw [Bool.and_eq_true, List.any_eq_true] at hst
  obtain ⟨h4, u, hu, h5⟩ := hst
  rw [Bool.and_eq_true] at h5
  have h6 : D6 (m.fe.getD i 0) u = true := by have := h5.1; unfold Oy at this; exact (Bool.and_eq_true_iff.1 this).1
  have h7 := VF hp hm ht hs h6
  cases hsc : D1 (fun u (_ : Nat) => if (Oy m i t u && (t.fg == 4 && !LC m t u)) = true then some (Hi, false) else none) 0 (List.range nv) with
  | some r =>
   obtain ⟨q, x, hx, hf⟩ := EJ hsc
   split at hf
   ·cases hf; rfl
   ·cases hf
  | none =>
   exfalso
   have hx : (List.range nv)[u]? = some u := List.getElem?_range (by omega)
   have := FW hsc u u hx
   rw [Nat.zero_add, h5.1, h4, h5.2] at this
   cases this
 ·rw [if_neg hst]
  have : D1 (fun u (_ : Nat) => if (Oy m i t u && (t.fg == 4 && !LC m t u)) = true then some (Hi, false) else none) 0 (List.range nv) = none := FA fun q x hx => by
   rw [Nat.zero_add]
   split
   ·rename_i h5
    exfalso; apply hst
    rw [Bool.and_eq_true, Bool.and_eq_true] at h5
    unfold IH
    rw [h5.2.1, Bool.true_and, List.any_eq_true]
    have hq : q < nv := by
     have := (lI.1 hx).1
     simpa using this
    exact ⟨q, List.mem_range.2 (by omega), by rw [h5.1, h5.2.2]; rfl⟩
   ·rfl
  rw [this]; rfl
end clear
end Go.Lift
namespace Go.Lift
open Option renaming bind_some → oS
open List renaming mem_of_getElem? → lM
open Go
theorem I3 {s : As} (h : HK s = true) : 1 ≤ s.fg ∧ s.fg ≤ 4 ∧ 0 ≤ s.fj ∧ 0 ≤ s.fo ∧ (s.fg ≠ 1 → s.fo = 0) := by
 unfold HK at h
 rw [Bool.and_eq_true, decide_eq_true_iff, Bool.or_eq_true, beq_iff_eq, beq_iff_eq] at h
 exact ⟨h.1.1, h.1.2.1, h.1.2.2.1, h.1.2.2.2, fun hk => h.2.elim (fun e => (hk e).elim) id⟩
theorem J4 {p : Ah} {s : As} (h : GB p s = true) : (s.fg = 3 → s.fj < (p.fc.length : Int)) ∧ (s.fg ≠ 3 → s.fj < (p.fb.length : Int)) ∧ (s.fg = 1 → s.fo < p.fb.getD s.fj.toNat 0) := by
 unfold GB at h
 split at h
 ·rename_i hk
  rw [decide_eq_true_iff] at h
  exact ⟨fun _ => h, fun hn => (hn hk).elim, fun h1 => by omega⟩
 ·rename_i hk
  rw [Bool.and_eq_true, decide_eq_true_iff, Bool.or_eq_true, decide_eq_true_iff, bne_iff_ne] at h
  exact ⟨fun h3 => (hk h3).elim, fun _ => h.1, fun h1 => h.2.elim (fun hn => (hn h1).elim) id⟩
theorem Us (N : Nat) {p : Ah} {m : Af} (hp : BB p) (hm : B3 p m) : GI N m = some m := by
 have hnv := hp.nv
 have hnt := hp.nt
 have h1 := hm.base
 have h2 := hm.next
 have h3 := hm.held
 unfold GI
 rw [J6 N _ (by simp only [Eg]; omega), J6 N _ (by simp only [Eg]; omega), PL N _ (by simp only [Eg]; omega)]
 rfl
theorem LK (N : Nat) (hN : N ≤ 1000000) (h20 : 100 ≤ N) {p : Ah} {m : Af} (hp : BB p) (hm : B3 p m) {s : As} (hv : HK s = true) (hx : GB p s = true) :
  ∃ o, FM N p m s = some (o, (Gu p m s).isSome) ∧ ∀ x, Gu p m s = some x → o = x := by
 obtain ⟨k1, k4, i0, v0, vk⟩ := I3 hv
 obtain ⟨x3, xn, x1⟩ := J4 hx
 have hnv := hp.nv
 have hnt := hp.nt
 have hb := hm.base
 have hn := hm.next
 have hh := hm.held
 obtain ⟨i, hi⟩ := Int.eq_ofNat_of_zero_le i0
 unfold FM Gu
 rw [Us N hp hm]
 simp only [oS, Bf]
 by_cases hk1 : s.fg = 1
 ·have hi1 : (i : Int) < p.fb.length := by have := xn (by omega); omega
  rw [beq_iff_eq.2 hk1, AN, if_pos hk1]
  unfold Is
  simp only [Bf, hi, Int.toNat_natCast]
  rw [Dp (d := 0) (show i < m.fa.length by omega)]
  simp only [oS]
  by_cases c1 : 0 ≤ m.fa.getD i 0
  ·rw [AG c1, AN, if_pos (.inl c1)]
   exact ⟨_, rfl, fun x hx => by cases hx⟩
  ·rw [AC c1, Dp (d := 0) (show i < m.fd.length by omega)]
   simp only [oS]
   by_cases c2 : m.fd.getD i 0 = s.fo
   ·rw [beq_iff_eq.2 c2, AN, if_pos (.inr c2)]
    exact ⟨_, rfl, fun x hx => by cases hx⟩
   ·rw [beq_eq_false_iff_ne.2 c2, Aw, (NQ (_R := Unit) N p s m.fe v0 hh (by omega) hN _).1, if_neg (by rintro (h | h); exact c1 h; exact c2 h)]
    exact ⟨_, rfl, fun x hx => by cases hx; rfl⟩
 ·rw [beq_eq_false_iff_ne.2 hk1, Aw, if_neg hk1]
  by_cases hk3 : s.fg = 3
  ·have hi3 : i < p.fc.length := by have := x3 hk3; omega
   have ht : p.fc[i]? = some p.fc[i] := by simp [hi3]
   rw [beq_iff_eq.2 hk3, AN, if_pos hk3, hi, Pf N hN h20 hp hm ht]
   simp only [oS, Int.toNat_natCast, ht]
   split
   ·exact ⟨_, rfl, fun x hx => by cases hx⟩
   ·exact ⟨_, rfl, fun x hx => by cases hx; rfl⟩
  ·have hi1 : (i : Int) < p.fb.length := by have := xn hk3; omega
   rw [beq_eq_false_iff_ne.2 hk3, Aw, if_neg hk3, hi, Dp (d := 0) (show i < m.fa.length by omega)]
   simp only [oS, Int.toNat_natCast]
   by_cases c1 : m.fa.getD i 0 < 0
   ·rw [AG c1, if_pos c1]
    exact ⟨_, rfl, fun x hx => by cases hx⟩
   ·rw [AC c1, if_neg c1]
    by_cases hk2 : s.fg = 2
    ·rw [beq_iff_eq.2 hk2, AN, Dp (d := 0) (show i < m.fd.length by omega), if_pos hk2]
     exact ⟨_, rfl, fun x hx => by cases hx; rfl⟩
    ·rw [beq_eq_false_iff_ne.2 hk2, Aw, if_neg hk2]
     exact ⟨_, rfl, fun x hx => by cases hx; rfl⟩
theorem Pc (N : Nat) (hN : N ≤ 1000000) (h20 : 100 ≤ N) {p : Ah} {m : Af} (hp : BB p) (hm : B3 p m) (s : As) : Hc N p m s = some (BV p m s) := by
 unfold Hc BV
 rw [Po]
 simp only [oS]
 cases hv : HK s
 ·rw [Bool.not_false, AN, if_pos rfl]; rfl
 ·rw [Bool.not_true, Aw, if_neg (by simp), N8 N p s hv]
  simp only [oS]
  cases hx : GB p s
  ·rw [Bool.not_false, AN, if_pos rfl]; rfl
  ·rw [Bool.not_true, Aw, if_neg (by simp)]
   obtain ⟨o, e, ho⟩ := LK N hN h20 hp hm hv hx
   rw [e]
   simp only [oS]
   cases ha : Gu p m s with
   | none => rfl
   | some x => rw [ho x ha]; rfl
theorem Mv (N : Nat) (hN : N ≤ 1000000) (h20 : 100 ≤ N) {p : Ah} {m : Af} (hp : BB p) (hm : B3 p m) {s : As} (hv : HK s = true) (hx : GB p s = true) :
  C3 N p m s = some (match Gu p m s with | none => (Hi, false) | some x => (x, true)) := by
 obtain ⟨k1, k4, i0, v0, vk⟩ := I3 hv
 obtain ⟨x3, xn, x1⟩ := J4 hx
 have hnv := hp.nv
 have hnt := hp.nt
 have hb := hm.base
 have hn := hm.next
 have hh := hm.held
 obtain ⟨i, hi⟩ := Int.eq_ofNat_of_zero_le i0
 unfold C3 Gu
 rw [AI (by simp [Eg]; omega), AI (by simp [Eg]; omega), AI (by simp [Eg]; omega)]
 simp only [Bf, List.nil_append]
 by_cases hk1 : s.fg = 1
 ·have hi1 : (i : Int) < p.fb.length := by have := xn (by omega); omega
  rw [beq_iff_eq.2 hk1, AN, if_pos hk1]
  simp only [hi, Int.toNat_natCast]
  rw [Dp (d := 0) (show i < m.fa.length by omega)]
  simp only [oS]
  by_cases c1 : 0 ≤ m.fa.getD i 0
  ·rw [AG c1, AN, if_pos (.inl c1)]; rfl
  ·rw [AC c1, Dp (d := 0) (show i < m.fd.length by omega)]
   simp only [oS]
   by_cases c2 : m.fd.getD i 0 = s.fo
   ·rw [beq_iff_eq.2 c2.symm, AN, if_pos (.inr c2)]; rfl
   ·rw [beq_eq_false_iff_ne.2 (fun h => c2 h.symm), Aw, Oi N p s m.fe v0 hh (by omega) hN _, if_neg (by rintro (h | h); exact c1 h; exact c2 h)]
 ·rw [beq_eq_false_iff_ne.2 hk1, Aw, if_neg hk1]
  by_cases hk3 : s.fg = 3
  ·have hi3 : i < p.fc.length := by have := x3 hk3; omega
   have ht : p.fc[i]? = some p.fc[i] := by simp [hi3]
   have hin := Jd (hp.tab _ (lM ht))
   have eh' : Bg m.fe (i : Int) = some (m.fe.getD i 0) := Dp (by omega)
   rw [beq_eq_false_iff_ne.2 (show s.fg ≠ 2 by omega), Aw, beq_iff_eq.2 hk3, AN, if_pos hk3, hi, Bc, ht]
   simp only [oS, Hj, Int.toNat_natCast, ht]
   cases hs : Cy p.fc[i]
   ·rw [Bool.not_false, AN, if_pos (.inl rfl)]; rfl
   ·rw [Bool.not_true, Aw, Kt N m _ hin.1 (by omega) (by omega) (hm.b0 _ (by omega)).1, eh']
    simp only [oS]
    by_cases h1 : m.fe.getD i 0 = Hd m (p.fc[i]).fi.toNat
    ·rw [beq_iff_eq.2 h1, AN, if_pos (.inr (.inl h1))]; rfl
    ·rw [beq_eq_false_iff_ne.2 h1, Aw]
     rw [Oc N hN h20 hp hm ht hs s hi]
     cases hst : IH p m i p.fc[i]
     ·rw [if_neg (by simp), if_neg (by rintro (h | h | h); cases h; exact h1 h; cases h)]
     ·rw [if_pos rfl, if_pos (.inr (.inr rfl))]
  ·have hi1 : (i : Int) < p.fb.length := by have := xn hk3; omega
   rw [if_neg hk3, hi, Dp (d := 0) (show i < m.fa.length by omega)]
   simp only [oS, Int.toNat_natCast]
   by_cases hk2 : s.fg = 2
   ·rw [beq_iff_eq.2 hk2, AN, if_pos hk2]
    by_cases c1 : m.fa.getD i 0 < 0
    ·rw [AG c1, if_pos c1]; rfl
    ·rw [AC c1, if_neg c1, Dp (d := 0) (show i < m.fd.length by omega)]; rfl
   ·rw [beq_eq_false_iff_ne.2 hk2, Aw, beq_eq_false_iff_ne.2 hk3, Aw, if_neg hk2]
    by_cases c1 : m.fa.getD i 0 < 0
    ·rw [AG c1, if_pos c1]; rfl
    ·rw [AC c1, if_neg c1]
end Go.Lift
namespace Go.Lift
open Option renaming bind_some → oS
open List renaming mem_of_getElem? → lM
open List renaming getElem?_eq_some_iff → lI
open Go
theorem R1 (s : As) : ∀ (xs : List AQ) (i : Nat) (a : List Int), i + xs.length ≤ a.length → (IL (Ut s) i xs a).length = a.length ∧ ∀ q, (IL (Ut s) i xs a).getD q 0 = match (if i ≤ q then xs[q - i]? else none) with
  | some t => if Tz s t = true then Pa .u8 (a.getD q 0) (CJ .u8 1 s.fo) else a.getD q 0
  | none => a.getD q 0
 | [], i, a, _ => by
  refine ⟨rfl, fun q => ?_⟩
  split
  ·rename_i h; split at h
   ·simp at h
   ·cases h
  ·rfl
 | x :: xs, i, a, hl => by
  have hl' : i + (xs.length + 1) ≤ a.length := by simpa using hl
  have ha : (Ut s i x a).length = a.length := by unfold Ut; split <;> simp
  obtain ⟨ih1, ih2⟩ := R1 s xs (i + 1) (Ut s i x a) (by omega)
  refine ⟨by rw [IL, ih1, ha], fun q => ?_⟩
  rw [IL, ih2 q]
  have hu : (Ut s i x a).getD q 0 = if q = i ∧ Tz s x = true then Pa .u8 (a.getD q 0) (CJ .u8 1 s.fo) else a.getD q 0 := by
   unfold Ut
   by_cases hc : Tz s x = true
   ·rw [if_pos hc, Jh (by omega)]
    by_cases hq : q = i
    ·subst hq; rw [if_pos rfl, if_pos ⟨rfl, hc⟩]
    ·rw [if_neg hq, if_neg (fun h => hq h.1)]
   ·rw [if_neg hc, if_neg (fun h => hc h.2)]
  by_cases h1 : i + 1 ≤ q
  ·rw [if_pos h1, if_pos (show i ≤ q by omega), hu, if_neg (by omega)]
   rw [show (x :: xs)[q - i]? = xs[q - (i + 1)]? from by rw [show q - i = (q - (i + 1)) + 1 from by omega, List.getElem?_cons_succ]]
  ·rw [if_neg h1]
   by_cases h2 : q = i
   ·subst h2
    rw [if_pos (Nat.le_refl _), Nat.sub_self, hu]
    simp
   ·rw [if_neg (show ¬ i ≤ q by omega), hu, if_neg (by omega)]
theorem T3 {p : Ah} {s : As} {held : List Int} (hl : held.length = p.fc.length) : (Jb p s held).length = p.fc.length ∧ ∀ q t, p.fc[q]? = some t → (Jb p s held).getD q 0 = if Tz s t = true then Pa .u8 (held.getD q 0) (CJ .u8 1 s.fo) else held.getD q 0 := by
 obtain ⟨h1, h2⟩ := R1 s p.fc 0 held (by omega)
 refine ⟨h1.trans hl, fun q t ht => ?_⟩
 have := h2 q
 rw [if_pos (Nat.zero_le _), Nat.sub_zero, ht] at this
 exact this
theorem OY {m : Af} {s v : Nat} : IT m s v = true ↔ m.fd.getD s 0 = (v : Int) ∨ m.fa.getD s 0 = (v : Int) := by
 unfold IT; rw [Bool.or_eq_true, decide_eq_true_iff, decide_eq_true_iff]
theorem VK {p : Ah} {m x : Af} (hp : BB p) (hm : B3 p m) {s : As} (hv : HK s = true) (hx : GB p s = true) (h : Gu p m s = some x) : B3 p x := by
 obtain ⟨k1, k4, i0, v0, vk⟩ := I3 hv
 obtain ⟨x3, xn, x1⟩ := J4 hx
 obtain ⟨i, hi⟩ := Int.eq_ofNat_of_zero_le i0
 have hb := hm.base
 have hn := hm.next
 have hh := hm.held
 unfold Gu at h
 simp only [hi, Int.toNat_natCast] at h
 rw [hi, Int.toNat_natCast] at x1
 split at h
 ·rename_i hk1
  have hi1 : i < p.fb.length := by have := xn (by omega); omega
  have hx1 := x1 hk1
  have hvi := IF hp hi1
  split at h
  ·cases h
  rename_i hc
  cases h
  obtain ⟨u1, u2⟩ := T3 (s := s) hh
  obtain ⟨b, hbv⟩ := Int.eq_ofNat_of_zero_le v0
  have hob := WN (b := b) (by omega)
  have hN : ∀ q, (m.fa.set i s.fo).getD q 0 = if q = i then s.fo else m.fa.getD q 0 := fun q => Jh (by omega)
  refine { base := hb, next := by simpa using hn, held := u1, b0 := hm.b0, n0 := fun q hq => ?_, ne := fun q hq => ?_, range := fun q hq => ?_, low := fun q t ht hs v hr => ?_, high := fun q t ht hs v hbit => ?_, none := fun q t ht hs => ?_ }
  ·show -1 ≤ (m.fa.set i s.fo).getD q 0 ∧ (m.fa.set i s.fo).getD q 0 < _
   rw [hN q]
   split
   ·rename_i e; subst e; omega
   ·exact hm.n0 q hq
  ·show m.fd.getD q 0 ≠ (m.fa.set i s.fo).getD q 0
   rw [hN q]
   split
   ·rename_i e; subst e; exact fun h => hc (.inr h)
   ·exact hm.ne q hq
  ·have ht : p.fc[q]? = some p.fc[q] := by simp [hq]
   show 0 ≤ (Jb p s m.fe).getD q 0 ∧ (Jb p s m.fe).getD q 0 ≤ 255
   rw [u2 q _ ht, hbv]
   split
   ·exact (SB (hm.range q hq) hob.2).2
   ·exact hm.range q hq
  ·have hq := (lI.1 ht).1
   show D6 ((Jb p s m.fe).getD q 0) v = true
   have hin := Jd (hp.tab t (lM ht))
   rw [OY] at hr
   have hr : m.fd.getD t.fi.toNat 0 = (v : Int) ∨ (m.fa.set i s.fo).getD t.fi.toNat 0 = (v : Int) := hr
   rw [hN] at hr
   rw [u2 q t ht, hbv]
   have hlow := hm.low q t ht hs v
   rw [OY] at hlow
   by_cases hf : t.fi.toNat = i
   ·have hup : Tz s t = true := by unfold Tz; rw [hs, Bool.and_true, beq_iff_eq, hi]; omega
    rw [if_pos hup, (SB (hm.range q hq) hob.2).1, hob.1 v, Bool.or_eq_true, decide_eq_true_iff]
    rw [if_pos hf] at hr
    rcases hr with h | h
    ·exact .inl (hlow (.inl h))
    ·right; omega
   ·rw [if_neg hf] at hr
    have hup : Tz s t = false := by unfold Tz; rw [hs, Bool.and_true, beq_eq_false_iff_ne, hi]; omega
    rw [hup, if_neg (by simp)]
    exact hlow hr
  ·have hq := (lI.1 ht).1
   have hbit : D6 ((Jb p s m.fe).getD q 0) v = true := hbit
   have hin := Jd (hp.tab t (lM ht))
   rw [u2 q t ht, hbv] at hbit
   split at hbit
   ·rename_i hup
    rw [(SB (hm.range q hq) hob.2).1, hob.1 v, Bool.or_eq_true, decide_eq_true_iff] at hbit
    rcases hbit with h | h
    ·exact hm.high q t ht hs v h
    ·unfold Tz at hup
     rw [hs, Bool.and_true, beq_iff_eq, hi] at hup
     rw [hup, Int.toNat_natCast]; omega
   ·exact hm.high q t ht hs v hbit
  ·show (Jb p s m.fe).getD q 0 = 0
   have hup : Tz s t = false := by unfold Tz; rw [hs, Bool.and_false]
   rw [u2 q t ht, hup, if_neg (by simp)]
   exact hm.none q t ht hs
 ·rename_i hk1
  split at h
  ·rename_i hk3
   have hi3 : i < p.fc.length := by have := x3 hk3; omega
   have ht0 : p.fc[i]? = some p.fc[i] := by simp [hi3]
   rw [ht0] at h
   simp only at h
   split at h
   ·cases h
   rename_i hc
   cases h
   have hin0 := Jd (hp.tab _ (lM ht0))
   have hr0 := IB hp hm.toMixServ (s := (p.fc[i]).fi.toNat) (by omega)
   have hs0 : Cy p.fc[i] = true := by
    cases hs : Cy p.fc[i]
    ·exact (hc (.inl hs)).elim
    ·rfl
   have hH : ∀ q, (m.fe.set i (Hd m (p.fc[i]).fi.toNat)).getD q 0 = if q = i then Hd m (p.fc[i]).fi.toNat else m.fe.getD q 0 := fun q => Jh (by omega)
   refine { base := hb, next := hn, held := by simpa using hh, b0 := hm.b0, n0 := hm.n0, ne := hm.ne, range := fun q hq => ?_, low := fun q t ht hs v hr => ?_, high := fun q t ht hs v hbit => ?_, none := fun q t ht hs => ?_ }
   ·show 0 ≤ (m.fe.set i (Hd m (p.fc[i]).fi.toNat)).getD q 0 ∧ (m.fe.set i (Hd m (p.fc[i]).fi.toNat)).getD q 0 ≤ 255
    rw [hH q]
    split
    ·exact hr0.2
    ·exact hm.range q hq
   ·show D6 ((m.fe.set i (Hd m (p.fc[i]).fi.toNat)).getD q 0) v = true
    have hr : IT m t.fi.toNat v = true := hr
    rw [hH q]
    split
    ·rename_i e; subst e
     rw [ht0] at ht; cases ht
     rw [hr0.1]; exact hr
    ·exact hm.low q t ht hs v hr
   ·have hbit : D6 ((m.fe.set i (Hd m (p.fc[i]).fi.toNat)).getD q 0) v = true := hbit
    rw [hH q] at hbit
    split at hbit
    ·rename_i e; subst e
     rw [ht0] at ht; cases ht
     rw [hr0.1] at hbit
     exact hm.high q _ ht0 hs0 v (hm.low q _ ht0 hs0 v hbit)
    ·exact hm.high q t ht hs v hbit
   ·show (m.fe.set i (Hd m (p.fc[i]).fi.toNat)).getD q 0 = 0
    rw [hH q, if_neg (fun e => by subst e; rw [ht0] at ht; cases ht; rw [hs0] at hs; cases hs)]
    exact hm.none q t ht hs
  ·rename_i hk3
   have hi1 : i < p.fb.length := by have := xn hk3; omega
   have hvi := IF hp hi1
   split at h
   ·cases h
   rename_i hc
   cases h
   have hN : ∀ q, (m.fa.set i (-1)).getD q 0 = if q = i then -1 else m.fa.getD q 0 := fun q => Jh (by omega)
   have hB : ∀ q, (if s.fg = 2 then m.fd.set i (m.fa.getD i 0) else m.fd).getD q 0 = if s.fg = 2 ∧ q = i then m.fa.getD i 0 else m.fd.getD q 0 := fun q => by
    by_cases hk2 : s.fg = 2
    ·rw [if_pos hk2, Jh (by omega)]
     by_cases e : q = i
     ·rw [if_pos e, if_pos ⟨hk2, e⟩]
     ·rw [if_neg e, if_neg (fun h => e h.2)]
    ·rw [if_neg hk2, if_neg (fun h => hk2 h.1)]
   have hrun : ∀ q v, IT ⟨if s.fg = 2 then m.fd.set i (m.fa.getD i 0) else m.fd, m.fa.set i (-1), m.fe⟩ q v = true → IT m q v = true := fun q v hr => by
    rw [OY] at hr ⊢
    simp only [hN q, hB q] at hr
    by_cases e : q = i
    ·subst e
     rw [if_pos rfl] at hr
     by_cases hk2 : s.fg = 2
     ·rw [if_pos ⟨hk2, rfl⟩] at hr; omega
     ·rw [if_neg (fun h => hk2 h.1)] at hr; omega
    ·rw [if_neg e, if_neg (fun h => e h.2)] at hr; exact hr
   refine { base := by simp only; split <;> simp [hb], next := by simpa using hn, held := hh, b0 := fun q hq => ?_, n0 := fun q hq => ?_, ne := fun q hq => ?_, range := hm.range, low := fun q t ht hs v hr => hm.low q t ht hs v (hrun _ _ hr), high := hm.high, none := hm.none }
   ·simp only [hB q]
    split
    ·rename_i e; obtain ⟨_, e⟩ := e; subst e
     have := hm.n0 q hq
     omega
    ·exact hm.b0 q hq
   ·simp only [hN q]
    split
    ·rename_i e; subst e; omega
    ·exact hm.n0 q hq
   ·simp only [hB q, hN q]
    have h1 := hm.b0 q hq
    by_cases e : q = i
    ·rw [if_pos e]
     split
     ·rename_i e2; obtain ⟨_, e2⟩ := e2; subst e2; omega
     ·omega
    ·rw [if_neg e, if_neg (fun h => e h.2)]; exact hm.ne q hq
theorem QT (N : Nat) (hN : N ≤ 1000000) (h20 : 100 ≤ N) {p : Ah} {m : Af} (hw : MO KH m.fe) (s : As) : ER N p m s = some (if B7 p m = 0 then BV p m s else (Hi, B7 p m)) := by
 unfold ER BV
 rw [Mg N p m hN (by omega)]
 simp only [oS, Bf]
 by_cases hval : B7 p m = 0
 ·obtain ⟨hp, hm⟩ := Ju hw hval
  rw [if_pos hval, hval, bne_self_eq_false, Aw, Qx]
  simp only [oS]
  cases hv : HK s
  ·rw [Bool.not_false, AN, if_pos rfl]; rfl
  ·rw [Bool.not_true, Aw, if_neg (by simp)]
   obtain ⟨k1, k4, i0, v0, vk⟩ := I3 hv
   have key : ∀ b : Bool, GB p s = b → (if b = false then (Hi, (4 : Int)) else match Gu p m s with | none => (Hi, 11) | some x => (x, 0)) = (if b = false then (Hi, (4 : Int)) else match Gu p m s with | none => (Hi, 11) | some x => (x, 0)) := fun _ _ => rfl
   have tail : GB p s = true → ((C3 N p m s).bind fun v15 => AW (!v15.2) (some (Af.mk [] [] [], (11 : Int))) (some (v15.1, 0))) = some (match Gu p m s with | none => (Hi, 11) | some x => (x, 0)) := fun hx => by
    rw [Mv N hN h20 hp hm hv hx]
    cases Gu p m s <;> rfl
   have zz : (Af.mk [] [] [], (4 : Int)) = (Hi, 4) := rfl
   by_cases hk3 : s.fg = 3
   ·rw [beq_iff_eq.2 hk3, AN, show (s.fg != 3) = false from by rw [hk3]; rfl]
    have hX : GB p s = decide (s.fj < (p.fc.length : Int)) := by unfold GB; rw [if_pos hk3]
    by_cases c : (p.fc.length : Int) ≤ s.fj
    ·rw [AG c, AN, hX, decide_eq_false (by omega), if_pos rfl]; rfl
    ·have hx : GB p s = true := by rw [hX, decide_eq_true (by omega)]
     rw [AC c, Aw, Aw, beq_eq_false_iff_ne.2 (show s.fg ≠ 1 by omega), Aw, Aw, hx, if_neg (by simp)]
     exact tail hx
   ·rw [beq_eq_false_iff_ne.2 hk3, Aw, bne_iff_ne.2 hk3, AN]
    have hX : GB p s = (decide (s.fj < (p.fb.length : Int)) && (s.fg != 1 || decide (s.fo < p.fb.getD s.fj.toNat 0))) := by unfold GB; rw [if_neg hk3]
    by_cases c : (p.fb.length : Int) ≤ s.fj
    ·rw [decide_eq_true c, AN, hX, decide_eq_false (show ¬ s.fj < (p.fb.length : Int) by omega), Bool.false_and, if_pos rfl]; rfl
    ·rw [decide_eq_false c, Aw]
     by_cases hk1 : s.fg = 1
     ·rw [beq_iff_eq.2 hk1, AN, Fc (d := 0) i0 (by omega)]
      simp only [oS]
      by_cases c2 : p.fb.getD s.fj.toNat 0 ≤ s.fo
      ·rw [decide_eq_true c2, AN, hX, decide_eq_false (show ¬ s.fo < p.fb.getD s.fj.toNat 0 by omega), show (s.fg != 1) = false from by rw [hk1]; rfl, Bool.false_or, Bool.and_false, if_pos rfl]; rfl
      ·have hx : GB p s = true := by rw [hX, decide_eq_true (by omega), decide_eq_true (by omega), Bool.or_true]; rfl
       rw [decide_eq_false c2, Aw, hx, if_neg (by simp)]
       exact tail hx
     ·have hx : GB p s = true := by rw [hX, decide_eq_true (by omega), bne_iff_ne.2 hk1]; rfl
      rw [beq_eq_false_iff_ne.2 hk1, Aw, Aw, hx, if_neg (by simp)]
      exact tail hx
 ·rw [if_neg hval, bne_iff_ne.2 hval, AN]; rfl
theorem LI (N : Nat) (hN : N ≤ 1000000) (h20 : 100 ≤ N) {p : Ah} {m : Af} (hw : MO KH m.fe) (s : As) : FP N p m s = some (if B7 p m = 0 then BV p m s else (Hi, B7 p m)) := by
 unfold FP
 rw [H1 N p m hN (by omega) hw]
 simp only [oS]
 by_cases hval : B7 p m = 0
 ·obtain ⟨hp, hm⟩ := Ju hw hval
  rw [if_pos hval, hval, bne_self_eq_false, Aw, Pc N hN h20 hp hm s]; rfl
 ·rw [if_neg hval, bne_iff_ne.2 hval, AN]; rfl
theorem Lk {p : Ah} {m : Af} (hp : BB p) (hm : B3 p m) {s : As} (h : (BV p m s).2 = 0) : B3 p (BV p m s).1 := by
 unfold BV at h ⊢
 split at h
 ·cases h
 rename_i h1
 rw [if_neg h1]
 split at h
 ·cases h
 rename_i h2
 rw [if_neg h2]
 cases ha : Gu p m s with
 | none => rw [ha] at h; cases h
 | some x => exact VK hp hm (by simpa using h1) (by simpa using h2) ha
end Go.Lift
namespace Go.Lift
open Go
section
variable {N : Nat} {p : Ah} {l : List As}
end
end Go.Lift
namespace Go.Lift
open Go
end Go.Lift
namespace Go.Lift
open IntKind renaming wrap → wI
open Go
theorem Um {i : Nat} (h : i < 1000000) : wI .i64 (((i + 1 : Nat) : Int) - 1) = (i : Int) := by
 rw [CM (by omega) (by omega)]; omega
structure YY (p : Ah) (m x : Af) : Prop where
 base : m.fd = x.fd
 next : m.fa = x.fa
 held : ∀ i, i < p.fc.length → ∀ v, D6 (m.fe.getD i 0) v = true → D6 (x.fe.getD i 0) v = true
theorem YY.refl (p : Ah) (m : Af) : YY p m m := ⟨rfl, rfl, fun _ _ _ h => h⟩
theorem YY.trans {p : Ah} {a b c : Af} (h : YY p a b) (g : YY p b c) : YY p a c := ⟨h.base.trans g.base, h.next.trans g.next, fun i hi v hv => g.held i hi v (h.held i hi v hv)⟩
def GA (m : Af) (i : Nat) (b : Int) : List Int := [wI .u8 b, wI .u8 (wI .i64 (m.fa.getD i 0 + 1))]
def Lw (m : Af) : List Int := Dg (GA m) 0 m.fd ++ m.fe
end Go.Lift
namespace Go.Lift
open IntKind renaming wrap → wI
open List renaming getElem?_eq_some_iff → lI
open List renaming getD_eq_getElem?_getD → lD
open Go
theorem SV (xs : List Int) : ∀ b : ByteArray, (xs.foldl (fun s n => s.push (UInt8.ofNat n.toNat)) b).data.toList = b.data.toList ++ xs.map fun n => UInt8.ofNat n.toNat := by
 induction xs with
 | nil => intro b; simp
 | cons x xs ih => intro b; rw [List.foldl_cons, ih]; simp [ByteArray.push]
theorem MJ (xs : List Int) : (C0 xs).data.toList = xs.map fun n => UInt8.ofNat n.toNat := by
 unfold C0
 rw [SV]; rfl
theorem Yi {a b : Int} (ha : 0 ≤ a ∧ a ≤ 255) (hb : 0 ≤ b ∧ b ≤ 255) (h : UInt8.ofNat a.toNat = UInt8.ofNat b.toNat) : a = b := by
 have := congrArg UInt8.toNat h
 simp at this
 omega
theorem OI : ∀ {xs ys : List Int}, (∀ x, x ∈ xs → 0 ≤ x ∧ x ≤ 255) → (∀ x, x ∈ ys → 0 ≤ x ∧ x ≤ 255) → (xs.map fun n => UInt8.ofNat n.toNat) = (ys.map fun n => UInt8.ofNat n.toNat) → xs = ys
 | [], [], _, _, _ => rfl
 | [], _ :: _, _, _, h => by cases h
 | _ :: _, [], _, _, h => by cases h
 | x :: xs, y :: ys, hx, hy, h => by
  rw [List.map_cons, List.map_cons, List.cons.injEq] at h
  rw [Yi (hx x (by simp)) (hy y (by simp)) h.1, OI (fun z hz => hx z (List.mem_cons_of_mem _ hz)) (fun z hz => hy z (List.mem_cons_of_mem _ hz)) h.2]
theorem Sd {xs ys : List Int} (hx : ∀ x, x ∈ xs → 0 ≤ x ∧ x ≤ 255) (hy : ∀ x, x ∈ ys → 0 ≤ x ∧ x ≤ 255) (h : (C0 xs == C0 ys) = true) : xs = ys := by
 rw [JO, beq_iff_eq] at h
 have h := congrArg Array.toList h
 rw [MJ, MJ] at h
 exact OI hx hy h
theorem Qc (xs : List Int) : (C0 xs == C0 xs) = true := by rw [JO]; simp
theorem PA {α β : Type} {g h : Nat → α → List β} {c : Nat} : ∀ {i : Nat} {xs ys : List α}, xs.length = ys.length → (∀ i x, (g i x).length = c) → (∀ i x, (h i x).length = c) → Dg g i xs = Dg h i ys → ∀ j x y, xs[j]? = some x → ys[j]? = some y → g (i + j) x = h (i + j) y
 | i, [], ys, _, _, _, _, j, x, y, hx, _ => by simp at hx
 | i, x :: xs, [], hl, _, _, _, _, _, _, _, _ => by simp at hl
 | i, x :: xs, y :: ys, hl, hg, hh, e, j, x', y', hx, hy => by
  rw [Dg, Dg] at e
  have e1 := List.append_inj e ((hg i x).trans (hh i y).symm)
  cases j with
  | zero => simp at hx hy; subst hx; subst hy; exact e1.1
  | succ j =>
   have := PA (i := i + 1) (by simpa using hl) hg hh e1.2 j x' y' (by simpa using hx) (by simpa using hy)
   rwa [show i + 1 + j = i + (j + 1) from by omega] at this
theorem PS {p : Ah} {m : Af} (_hp : BB p) (hm : B3 p m) : ∀ x, x ∈ Lw m → 0 ≤ x ∧ x ≤ 255 := by
 intro x hx
 unfold Lw at hx
 rcases List.mem_append.1 hx with h | h
 ·obtain ⟨j, b, hb, hk⟩ := Ih.1 h
  have hw : ∀ n : Int, 0 ≤ wI .u8 n ∧ wI .u8 n ≤ 255 := fun n => by
   simp [wI, IntKind.signed, IntKind.bits]; omega
  unfold GA at hk
  rcases List.mem_cons.1 hk with e | e
  ·subst e; exact hw _
  ·rcases List.mem_cons.1 e with e | e
   ·subst e; exact hw _
   ·cases e
 ·obtain ⟨j, hj⟩ := List.mem_iff_getElem?.1 h
  have hl := (lI.1 hj).1
  have := hm.range j (by rw [← hm.held]; exact hl)
  rw [lD, hj] at this
  exact this
theorem Ir {n : Int} (h : 0 ≤ n ∧ n ≤ 255) : wI .u8 n = n := by
 simp [wI, IntKind.signed, IntKind.bits]; omega
theorem WV {p : Ah} {m x : Af} (hp : BB p) (hm : B3 p m) (hx : B3 p x) (h : (C0 (Lw m) == C0 (Lw x)) = true) : m = x := by
 have e := Sd (PS hp hm) (PS hp hx) h
 unfold Lw at e
 have hbl : m.fd.length = x.fd.length := hm.base.trans hx.base.symm
 have hfl : ∀ y : Af, (Dg (GA y) 0 y.fd).length = 2 * y.fd.length := fun y => by
  have : ∀ (i : Nat) (l : List Int), (Dg (GA y) i l).length = 2 * l.length := by
   intro i l
   induction l generalizing i with
   | nil => rfl
   | cons b l ih => rw [Dg, List.length_append, ih, List.length_cons]; simp [GA]; omega
  exact this 0 _
 obtain ⟨e1, e2⟩ := List.append_inj e (by rw [hfl, hfl, hbl])
 have key : ∀ j, j < p.fb.length → m.fd.getD j 0 = x.fd.getD j 0 ∧ m.fa.getD j 0 = x.fa.getD j 0 := fun j hj => by
  have h1 : m.fd[j]? = some (m.fd.getD j 0) := by rw [lD]; simp [hm.base, hj]
  have h2 : x.fd[j]? = some (x.fd.getD j 0) := by rw [lD]; simp [hx.base, hj]
  have h3 := PA (c := 2) hbl (fun _ _ => by simp [GA]) (fun _ _ => by simp [GA]) e1 j _ _ h1 h2
  rw [Nat.zero_add] at h3
  have v := IF hp hj
  have b1 := hm.b0 j hj
  have b2 := hx.b0 j hj
  have n1 := hm.n0 j hj
  have n2 := hx.n0 j hj
  unfold GA at h3
  rw [CM (n := m.fa.getD j 0 + 1) (by omega) (by omega), CM (n := x.fa.getD j 0 + 1) (by omega) (by omega), Ir (n := m.fd.getD j 0) (by omega), Ir (n := x.fd.getD j 0) (by omega), Ir (n := m.fa.getD j 0 + 1) (by omega), Ir (n := x.fa.getD j 0 + 1) (by omega), List.cons.injEq, List.cons.injEq] at h3
  exact ⟨h3.1, by omega⟩
 have hB : m.fd = x.fd := FQ hbl fun q hq => (key q (by rw [← hm.base]; exact hq)).1
 have hN : m.fa = x.fa := FQ (hm.next.trans hx.next.symm) fun q hq => (key q (by rw [← hm.next]; exact hq)).2
 cases m; cases x
 simp only at hB hN e2
 rw [hB, hN, e2]
end Go.Lift
namespace Go.Lift
open Option renaming bind_some → oS
open List renaming mem_of_getElem? → lM
open List renaming getElem?_eq_some_iff → lI
open Go
def JX (i : Nat) (n : Int) : List As := (List.range n.toNat).map fun v => ⟨1, (i : Int), ((v : Nat) : Int), ⟩
def FF (p : Ah) : List As := Dg JX 0 p.fb ++ ((List.range p.fb.length).map fun i => (⟨2, ((i : Nat) : Int), 0⟩ : As)) ++ ((List.range p.fc.length).map fun i => (⟨3, ((i : Nat) : Int), 0⟩ : As))
def F0 (p : Ah) (m : Af) : List As := (FF p).filter fun s => (BV p m s).2 == 0
theorem NV {p : Ah} (hp : BB p) : (FF p).length ≤ 54 := by
 have h1 : (Dg JX 0 p.fb).length ≤ 6 * p.fb.length := Gn fun j x hx => by
  have := hp.ver x (lM hx)
  simp [JX]; omega
 have := hp.nv
 have := hp.nt
 unfold FF
 simp only [List.length_append, List.length_map, List.length_range]
 omega
theorem RI (N : Nat) (hN : N ≤ 1000000) (h20 : 100 ≤ N) {p : Ah} (hp : BB p) : Iy N p = some (FF p) := by
 have hnv := hp.nv
 have hnt := hp.nt
 unfold Iy
 have l1 := G1 (DC N p fun v2 => CI N p (fun v10 => BL N p (fun v14 => some v14) N (v10, 0)) N (v2, 0)) (fun a i => (a, i)) p.fb (fun v2 => CI N p (fun v10 => BL N p (fun v14 => some v14) N (v10, 0)) N (v2, 0)) JX 6 100
  (fun i x hx => by have := hp.ver x (lM hx); simp [JX]; omega)
  (fun n i x a hx hl => by
   have hi := (lI.1 hx).1
   have hx6 := hp.ver x (lM hx)
   obtain ⟨k, hk⟩ := Int.eq_ofNat_of_zero_le (show 0 ≤ x by omega)
   rw [DC, AG (by simp only; omega)]
   simp only [Bc, hx, oS, AT (show i < 1000000 by omega)]
   subst hk
   obtain ⟨a', e, ha⟩ := Fs (E1 N (a, (i : Int)) (k : Int) fun v6 => DC N p (fun v2 => CI N p (fun v10 => BL N p (fun v14 => some v14) N (v10, 0)) N (v2, 0)) n (v6, ((i + 1 : Nat) : Int))) (fun b v => (b, v)) k (fun v6 => DC N p (fun v2 => CI N p (fun v10 => BL N p (fun v14 => some v14) N (v10, 0)) N (v2, 0)) n (v6, ((i + 1 : Nat) : Int)))
    (fun v b => b = a ++ (List.range v).map fun v => (⟨1, (i : Int), ((v : Nat) : Int)⟩ : As))
    (fun n v b hv hb => by
     subst hb
     rw [E1, AG (by simp only; omega), AI (by simp [Eg]; simp [JX] at hl; omega), AT (by omega)]
     exact ⟨_, rfl, by rw [List.range_succ, List.map_append, List.append_assoc]; rfl⟩)
    (fun n b hb => by rw [E1, AC (by simp)]) N 0 a (Nat.zero_le _) (by omega) (by simp)
   have e' : E1 N (a, (i : Int)) (k : Int) (fun v6 => DC N p (fun v2 => CI N p (fun v10 => BL N p (fun v14 => some v14) N (v10, 0)) N (v2, 0)) n (v6, ((i + 1 : Nat) : Int))) N (a, 0) = _ := e
   rw [e', ha]; rfl)
  (fun n a => by rw [DC, AC (by simp)]) N [] (by omega) (by simp; omega)
 have l1' : DC N p (fun v2 => CI N p (fun v10 => BL N p (fun v14 => some v14) N (v10, 0)) N (v2, 0)) N (([] : List As), 0) = _ := l1
 rw [l1', List.nil_append]
 have hA : (Dg JX 0 p.fb).length ≤ 6 * p.fb.length := Gn fun j x hx => by
  have := hp.ver x (lM hx)
  simp [JX]; omega
 generalize hAe : Dg JX 0 p.fb = A at hA
 obtain ⟨b', e2, hb⟩ := Fs (CI N p fun v10 => BL N p (fun v14 => some v14) N (v10, 0)) (fun b v => (b, v)) p.fb.length (fun v10 => BL N p (fun v14 => some v14) N (v10, 0))
  (fun v b => b = A ++ (List.range v).map fun i => (⟨2, ((i : Nat) : Int), 0⟩ : As))
  (fun n v b hv hb => by
   subst hb
   rw [CI, AG (by simp only; omega), AI (by simp [Eg]; omega), AT (by omega)]
   exact ⟨_, rfl, by rw [List.range_succ, List.map_append, List.append_assoc]; rfl⟩)
  (fun n b hb => by rw [CI, AC (by simp)]) N 0 A (Nat.zero_le _) (by omega) (by simp)
 have e2' : CI N p (fun v10 => BL N p (fun v14 => some v14) N (v10, 0)) N (A, 0) = _ := e2
 rw [e2', hb]
 generalize hBe : A ++ (List.range p.fb.length).map (fun i => (⟨2, ((i : Nat) : Int), 0⟩ : As)) = B
 have hB : B.length ≤ 50 := by rw [← hBe]; simp; omega
 obtain ⟨c', e3, hc⟩ := Fs (BL N p fun v14 => some v14) (fun b v => (b, v)) p.fc.length (fun v14 => some v14)
  (fun v b => b = B ++ (List.range v).map fun i => (⟨3, ((i : Nat) : Int), 0⟩ : As))
  (fun n v b hv hb => by
   subst hb
   rw [BL, AG (by simp only; omega), AI (by simp [Eg]; omega), AT (by omega)]
   exact ⟨_, rfl, by rw [List.range_succ, List.map_append, List.append_assoc]; rfl⟩)
  (fun n b hb => by rw [BL, AC (by simp)]) N 0 B (Nat.zero_le _) (by omega) (by simp)
 have e3' : BL N p (fun v14 => some v14) N (B, 0) = _ := e3
 rw [e3', hc, ← hBe, ← hAe]; rfl
end Go.Lift
namespace Go.Lift
open Option renaming bind_some → oS
open List renaming mem_of_getElem? → lM
open List renaming getElem?_eq_some_iff → lI
open List renaming getD_eq_getElem?_getD → lD
open Go
theorem Nc {p : Ah} (hp : BB p) {s : As} (h : s ∈ FF p) : HK s = true ∧ GB p s = true := by
 have hnv := hp.nv
 unfold FF at h
 rcases List.mem_append.1 h with h | h
 ·rcases List.mem_append.1 h with h | h
  ·obtain ⟨j, x, hx, hk⟩ := Ih.1 h
   rw [Nat.zero_add] at hk
   unfold JX at hk
   obtain ⟨v, hv, rfl⟩ := List.mem_map.1 hk
   have hx6 := hp.ver x (lM hx)
   have hv := List.mem_range.1 hv
   have hj := (lI.1 hx).1
   refine ⟨by unfold HK; simp, ?_⟩
   unfold GB
   have e : p.fb.getD j 0 = x := by rw [lD, hx]; rfl
   simp only
   rw [if_neg (by omega), decide_eq_true (by omega), Int.toNat_natCast, e, decide_eq_true (by omega), Bool.or_true]; rfl
  ·obtain ⟨v, hv, rfl⟩ := List.mem_map.1 h
   have hv := List.mem_range.1 hv
   refine ⟨by unfold HK; simp, ?_⟩
   unfold GB
   simp only
   rw [if_neg (by omega), decide_eq_true (by omega)]; rfl
 ·obtain ⟨v, hv, rfl⟩ := List.mem_map.1 h
  have hv := List.mem_range.1 hv
  refine ⟨by unfold HK; simp, ?_⟩
  unfold GB
  simp only
  rw [if_pos trivial, decide_eq_true (by omega)]
theorem UV {p : Ah} {m : Af} {s : As} (hv : HK s = true) (hx : GB p s = true) : ((BV p m s).2 == 0) = (Gu p m s).isSome := by
 unfold BV
 rw [hv, hx, if_neg (by simp), if_neg (by simp)]
 cases Gu p m s <;> rfl
theorem Rw (N : Nat) (hN : N ≤ 1000000) (h20 : 100 ≤ N) {p : Ah} {m : Af} (hp : BB p) (hm : B3 p m) {s : As} (h : s ∈ FF p) :
  DP N s p.fb p.ff p.fh p.fc m.fd m.fa m.fe = some (!((BV p m s).2 == 0)) := by
 obtain ⟨hv, hx⟩ := Nc hp h
 unfold DP
 obtain ⟨o, e, _⟩ := LK N hN h20 hp hm hv hx
 have e' : FM N ⟨p.fb, p.ff, p.fh, p.fc⟩ ⟨m.fd, m.fa, m.fe⟩ s = some (o, (Gu p m s).isSome) := e
 rw [e', UV hv hx]; rfl
theorem SF (N : Nat) (hN : N ≤ 1000000) (a : List As) (f : As → Option Bool) (g : As → Bool) (h : a.length < N) (hf : ∀ x, x ∈ a → f x = some (g x)) :
  B6 N a f = some ((D1 (fun i x => if g x = true then some (i : Int) else none) 0 a).getD (-1)) := by
 unfold B6
 have := De (Bl N a f fun _ => some (-1)) a (some (-1)) (fun i x => if g x = true then some (i : Int) else none)
  (fun n i x hx => by
   have hi := (lI.1 hx).1
   rw [Bl, AG (by omega), Bc, hx]
   simp only [oS]
   rw [hf x (lM hx), AT (by omega)]
   simp only [oS]
   cases g x <;> rfl)
  (fun n => by rw [Bl, AC (by simp)]) N 0 (Nat.zero_le _) (by omega)
 refine this.trans ?_
 rw [List.drop_zero]
 cases D1 (fun i x => if g x = true then some (i : Int) else none) 0 a <;> rfl
theorem Pn {α : Type} {l : List α} {i : Nat} {v : α} (h : i < l.length) : (l.set i v).take (i + 1) = l.take i ++ [v] := by
 rw [List.take_add_one, List.take_set_of_le (Nat.le_refl i)]
 congr 1
 simp [h]
theorem Q4 (N : Nat) (hN : N ≤ 1000000) (a : List As) (f : As → Option Bool) (g : As → Bool) (h : a.length < N) (h9 : a.length ≤ 1000) (hf : ∀ x, x ∈ a → f x = some (g x)) :
  ∃ X n, B0 N a f = some (n, X) ∧ n ≤ X.length ∧ X.take n = a.filter fun x => !g x := by
 unfold B0
 rw [SF N hN a f g h hf]
 simp only [oS]
 cases hs : D1 (fun i x => if g x = true then some (i : Int) else none) 0 a with
 | none =>
  refine ⟨a, a.length, rfl, Nat.le_refl _, ?_⟩
  rw [List.take_length]
  symm
  rw [List.filter_eq_self]
  intro x hx
  obtain ⟨j, hj⟩ := List.mem_iff_getElem?.1 hx
  have := FW hs j x hj
  cases hg : g x
  ·rfl
  ·rw [hg] at this; cases this
 | some r =>
  obtain ⟨j, x, hx, hr⟩ := EJ hs
  rw [Nat.zero_add] at hr
  split at hr
  ·rename_i hg
   cases hr
   have hj := (lI.1 hx).1
   have e0 : ((some (j : Int)).getD (-1) == (-1 : Int)) = false := beq_eq_false_iff_ne.2 (by simp only [Option.getD_some]; omega)
   rw [e0, Aw]
   simp only [Option.getD_some]
   rw [AT (by omega)]
   -- what lies before the first that goes is kept
   have hpre : (a.take (j + 1)).filter (fun x => !g x) = a.take j := by
    rw [List.take_add_one, hx, List.filter_append]
    have h1 : (a.take j).filter (fun x => !g x) = a.take j := by
     rw [List.filter_eq_self]
     intro y hy
     obtain ⟨q, hq⟩ := List.mem_iff_getElem?.1 hy
     have hql := (lI.1 hq).1
     simp at hql
     rw [List.getElem?_take_of_lt (by omega)] at hq
     cases hgy : g y
     ·rfl
     ·exfalso
      have : ∀ (xs : List As) (i j q : Nat) (y : As), D1 (fun i x => if g x = true then some (i : Int) else none) i xs = some ((i + j : Nat) : Int) → q < j → xs[q]? = some y → g y = true → False := by
       intro xs
       induction xs with
       | nil => intro i j q y _ _ hq; simp at hq
       | cons z zs ih =>
        intro i j q y hs hqj hq hgy
        rw [HF] at hs
        cases hz : g z
        ·rw [hz] at hs
         cases q with
         | zero => simp at hq; subst hq; rw [hz] at hgy; cases hgy
         | succ q =>
          cases j with
          | zero => omega
          | succ j => exact ih (i + 1) j q y (by rw [show i + 1 + j = i + (j + 1) from by omega]; exact hs) (by omega) (by simpa using hq) hgy
        ·rw [hz] at hs
         have hs : (some (i : Int)) = some ((i + j : Nat) : Int) := hs
         have := Option.some.inj hs
         omega
      exact this a 0 j q y (by rw [Nat.zero_add]; exact hs) (by omega) hq hgy
    rw [h1]
    simp [hg]
   obtain ⟨b, e, hb⟩ := Fs (Bd N f fun v4 => (EB ((0 : Int) ≤ v4.2 ∧ (v4.2).toNat ≤ v4.1.length ∧ v4.1.length ≤ v4.1.length)).bind fun _ =>
     (EB ((0 : Int) ≤ v4.2 ∧ 0 ≤ (v4.2).toNat ∧ (v4.2).toNat ≤ (IZ v4.1 ((v4.2).toNat) (List.replicate ((v4.1.length - (v4.2).toNat)) ((As.mk 0 0 0)))).length)).bind fun _ =>
     some ((v4.2).toNat, IZ v4.1 ((v4.2).toNat) (List.replicate ((v4.1.length - (v4.2).toNat)) ((As.mk 0 0 0)))))
    (fun (b : List As × Nat) i => (b.1, ((b.2 : Nat) : Int), i)) a.length (fun b => (EB ((0 : Int) ≤ ((b.2 : Nat) : Int) ∧ (((b.2 : Nat) : Int)).toNat ≤ b.1.length ∧ b.1.length ≤ b.1.length)).bind fun _ =>
     (EB ((0 : Int) ≤ ((b.2 : Nat) : Int) ∧ 0 ≤ (((b.2 : Nat) : Int)).toNat ∧ (((b.2 : Nat) : Int)).toNat ≤ (IZ b.1 ((((b.2 : Nat) : Int)).toNat) (List.replicate ((b.1.length - (((b.2 : Nat) : Int)).toNat)) ((As.mk 0 0 0)))).length)).bind fun _ =>
     some ((((b.2 : Nat) : Int)).toNat, IZ b.1 ((((b.2 : Nat) : Int)).toNat) (List.replicate ((b.1.length - (((b.2 : Nat) : Int)).toNat)) ((As.mk 0 0 0)))))
    (fun i b => b.1.length = a.length ∧ b.2 ≤ i ∧ b.1.drop i = a.drop i ∧ b.1.take b.2 = (a.take i).filter fun x => !g x)
    (fun n i b hi hb => by
     obtain ⟨b1, b2, b3, b4⟩ := hb
     rw [Bd, AG (by simp only; omega)]
     have hai : a[i]? = some a[i] := by simp [hi]
     have hbi : b.1[i]? = some a[i] := by
      have := congrArg (fun l => l[0]?) b3
      simp only [List.getElem?_drop, Nat.add_zero] at this
      rw [this, hai]
     simp only [Bf, Bc, hbi, oS]
     rw [hf a[i] (List.getElem_mem hi), AT (i := i) (by omega)]
     simp only [oS]
     have hnext : b.1.drop (i + 1) = a.drop (i + 1) := by
      have := congrArg (List.drop 1) b3
      rwa [List.drop_drop, List.drop_drop] at this
     cases hgi : g a[i]
     ·rw [Bool.not_false, AN]
      have hbj : b.1[b.2]? = some b.1[b.2] := by simp [show b.2 < b.1.length from by omega]
      rw [hbj, AT (i := b.2) (by omega)]
      refine ⟨(b.1.set b.2 a[i], b.2 + 1), rfl, by simpa using b1, by simp only; omega, ?_, ?_⟩
      ·simp only
       rw [List.drop_set_of_lt (by omega), hnext]
      ·simp only
       rw [Pn (by omega), b4, List.take_add_one, hai, List.filter_append]
       simp [hgi]
     ·rw [Bool.not_true, Aw]
      refine ⟨b, rfl, b1, by omega, hnext, ?_⟩
      rw [b4, List.take_add_one, hai, List.filter_append]
      simp [hgi])
    (fun n b hb => by rw [Bd, AC (by simp [hb.1])]) N (j + 1) (a, j) (by omega) (by omega) ⟨rfl, by simp only; omega, rfl, hpre.symm⟩
   obtain ⟨b1, b2, b3, b4⟩ := hb
   have e' : Bd N f (fun v4 => (EB ((0 : Int) ≤ v4.2 ∧ (v4.2).toNat ≤ v4.1.length ∧ v4.1.length ≤ v4.1.length)).bind fun _ =>
     (EB ((0 : Int) ≤ v4.2 ∧ 0 ≤ (v4.2).toNat ∧ (v4.2).toNat ≤ (IZ v4.1 ((v4.2).toNat) (List.replicate ((v4.1.length - (v4.2).toNat)) ((As.mk 0 0 0)))).length)).bind fun _ =>
     some ((v4.2).toNat, IZ v4.1 ((v4.2).toNat) (List.replicate ((v4.1.length - (v4.2).toNat)) ((As.mk 0 0 0))))) N (a, (j : Int), ((j + 1 : Nat) : Int)) = _ := e
   rw [e']
   have hsl : (IZ b.1 b.2 (List.replicate (b.1.length - b.2) (As.mk 0 0 0))).length = b.1.length := I7 (by rw [List.length_replicate]; omega)
   simp only [Int.toNat_natCast]
   rw [AI ⟨by omega, by omega, Nat.le_refl _⟩, AI ⟨by omega, by omega, by rw [hsl]; omega⟩]
   refine ⟨_, _, rfl, by rw [hsl]; omega, ?_⟩
   unfold IZ
   rw [List.append_assoc, List.take_append_of_le_length (by simp; omega), List.take_take, Nat.min_self, b4, List.take_length]
  ·cases hr
theorem OM (N : Nat) (hN : N ≤ 1000000) (h20 : 100 ≤ N) {p : Ah} {m : Af} (hv : CR p = 0) (hm : B3 p m) : E7 N p m = some (F0 p m, 0) := by
 obtain ⟨hp, _⟩ := DA hv
 unfold E7
 rw [H1 N p m hN (by omega) (Kb hm), H0 hv hm]
 simp only [oS, bne_self_eq_false, Aw]
 rw [RI N hN h20 hp]
 simp only [oS]
 have hl := NV hp
 obtain ⟨X, n, e, h1, h2⟩ := Q4 N hN (FF p) (fun x => DP N x p.fb p.ff p.fh p.fc m.fd m.fa m.fe) (fun s => !((BV p m s).2 == 0)) (by omega) (by omega) (fun x hx => Rw N hN h20 hp hm hx)
 rw [e]
 simp only [oS]
 rw [AI h1, h2]
 unfold F0
 simp
theorem Ix {β : Type} (g : Nat → List β) : ∀ n : Nat, Dg (fun i (_ : Nat) => g i) 0 (List.range n) = (List.range n).flatMap g
 | 0 => rfl
 | n + 1 => by rw [List.range_succ, Mk, Ix g n, List.flatMap_append]; simp [Dg]
def Ws (p : Ah) (m : Af) (s : As) : Bool := (BV p m s).2 == 0
def gS (p : Ah) (m : Af) (k : Int) (i v : Nat) : List As := if Ws p m ⟨k, (i : Int), (v : Int)⟩ = true then [⟨k, (i : Int), (v : Int)⟩] else []
def bS (p : Ah) (m : Af) (k : Int) (i : Nat) : List As := (List.range 6).flatMap (gS p m k i)
def SZ (p : Ah) : Nat := max p.fb.length p.fc.length
def kS (p : Ah) (m : Af) (k : Int) : List As := (List.range (SZ p)).flatMap (bS p m k)
theorem KO {β : Type} (f : Nat → β) (q : β → Bool) : ∀ n : Nat, ((List.range n).flatMap fun v => if q (f v) = true then [f v] else []) = ((List.range n).map f).filter q
 | 0 => rfl
 | n + 1 => by
  rw [List.range_succ, List.flatMap_append, KO f q n, List.map_append, List.filter_append]
  cases h : q (f n) <;> simp [h]
theorem KT {β : Type} (g : Nat → List β) (a : Nat) (h : ∀ v, a ≤ v → g v = []) : ∀ n, a ≤ n → (List.range n).flatMap g = (List.range a).flatMap g
 | 0, hn => by rw [Nat.le_zero.1 hn]
 | n + 1, hn => by
  by_cases h1 : a = n + 1
  ·rw [h1]
  ·rw [List.range_succ, List.flatMap_append, KT g a h n (by omega)]
   simp [h n (by omega)]
theorem UK (p : Ah) (m : Af) (k : Int) (i v : Nat) : (gS p m k i v).length ≤ 1 := by unfold gS; split <;> simp
theorem VD (p : Ah) (m : Af) (k : Int) (i : Nat) : (bS p m k i).length ≤ 6 := by
 unfold bS
 rw [← Ix]
 have := Gn (g := fun i' (_ : Nat) => gS p m k i i') (c := 1) (i := 0) (xs := List.range 6) fun j x _ => UK p m k i _
 simpa using this
theorem YO {p : Ah} (hp : BB p) (m : Af) (k : Int) : (kS p m k).length ≤ 72 := by
 have h1 := hp.nv
 have h2 := hp.nt
 unfold kS
 rw [← Ix]
 have := Gn (g := fun i' (_ : Nat) => bS p m k i') (c := 6) (i := 0) (xs := List.range (SZ p)) fun j x _ => VD p m k _
 simp only [List.length_range] at this
 have h3 : SZ p ≤ 12 := by unfold SZ; omega
 omega
theorem YE {p : Ah} {m : Af} {s : As} (h : Ws p m s = true) : HK s = true ∧ GB p s = true := by
 unfold Ws BV at h
 split at h
 ·cases h
 ·rename_i h1
  split at h
  ·cases h
  ·rename_i h2
   exact ⟨by simpa using h1, by simpa using h2⟩
theorem Mu {p : Ah} {m : Af} {k : Int} {i v : Nat} (h : Ws p m ⟨k, (i : Int), (v : Int)⟩ = true) : (k = 3 → i < p.fc.length) ∧ (k ≠ 3 → i < p.fb.length) ∧ (k = 1 → (v : Int) < p.fb.getD i 0) ∧ (k ≠ 1 → v = 0) := by
 obtain ⟨h1, h2⟩ := YE h
 obtain ⟨a1, a2, a3, a4, a5⟩ := I3 h1
 obtain ⟨b1, b2, b3⟩ := J4 h2
 simp only [Int.toNat_natCast] at *
 exact ⟨fun e => by have := b1 e; omega, fun e => by have := b2 e; omega, b3, fun e => by have := a5 e; omega⟩
theorem VH {p : Ah} (hp : BB p) (m : Af) : kS p m 1 ++ kS p m 2 ++ kS p m 3 = F0 p m := by
 have hnv := hp.nv
 have hnt := hp.nt
 unfold F0 FF
 rw [List.filter_append, List.filter_append]
 have e1 : kS p m 1 = (Dg JX 0 p.fb).filter fun s => (BV p m s).2 == 0 := by
  unfold kS
  rw [KT (bS p m 1) p.fb.length (fun i hi => by
   unfold bS
   rw [List.flatMap_eq_nil_iff]
   intro v _
   unfold gS
   rw [if_neg]
   intro h
   have := (Mu h).2.1 (by decide)
   omega) (SZ p) (by unfold SZ; omega)]
  have e : ∀ (xs : List Int) (i : Nat), (∀ j x, xs[j]? = some x → 1 ≤ x ∧ x ≤ 6 ∧ p.fb.getD (i + j) 0 = x) → ((List.range xs.length).flatMap fun j => bS p m 1 (i + j)) = (Dg JX i xs).filter fun s => (BV p m s).2 == 0 := by
   intro xs
   induction xs with
   | nil => intro i _; rfl
   | cons x xs ih =>
    intro i hx
    rw [List.length_cons, List.range_succ_eq_map, List.flatMap_cons, List.flatMap_map, Dg, List.filter_append]
    have ih' := ih (i + 1) (fun j y hy => by
     have := hx (j + 1) y (by simpa using hy)
     rw [show i + 1 + j = i + (j + 1) from by omega]; exact this)
    have hx0 := hx 0 x rfl
    rw [Nat.add_zero] at hx0
    congr 1
    ·rw [Nat.add_zero]
     unfold bS JX
     rw [KT (gS p m 1 i) x.toNat (fun v hv => by
      unfold gS
      rw [if_neg]
      intro h
      have := (Mu h).2.2.1 rfl
      rw [hx0.2.2] at this
      omega) 6 (by omega)]
     exact KO (fun v => (⟨1, (i : Int), ((v : Nat) : Int)⟩ : As)) (Ws p m) x.toNat
    ·rw [← ih']
     congr 1
     funext j
     rw [show i + (j + 1) = i + 1 + j from by omega]
  have := e p.fb 0 (fun j x hx => by
   have h1 := hp.ver x (lM hx)
   refine ⟨h1.1, h1.2, ?_⟩
   rw [Nat.zero_add, lD, hx]; rfl)
  simp only [Nat.zero_add] at this
  exact this
 have e23 : ∀ (k : Int) (n : Nat), k ≠ 1 → n ≤ SZ p → (∀ i v, Ws p m ⟨k, ((i : Nat) : Int), ((v : Nat) : Int)⟩ = true → i < n) → kS p m k = (((List.range n).map fun i => (⟨k, ((i : Nat) : Int), 0⟩ : As)).filter fun s => (BV p m s).2 == 0) := by
  intro k n hk hn hi
  unfold kS
  rw [KT (bS p m k) n (fun i hi' => by
   unfold bS
   rw [List.flatMap_eq_nil_iff]
   intro v _
   unfold gS
   rw [if_neg]
   intro h
   have := hi i v h
   omega) (SZ p) hn]
  show _ = List.filter (Ws p m) _
  rw [← KO (fun i => (⟨k, ((i : Nat) : Int), 0⟩ : As)) (Ws p m) n]
  congr 1
  funext i
  unfold bS
  rw [KT (gS p m k i) 1 (fun v hv => by
   unfold gS
   rw [if_neg]
   intro h
   have := (Mu h).2.2.2 hk
   omega) 6 (by omega)]
  simp [gS]
 rw [e1, e23 2 p.fb.length (by decide) (by unfold SZ; omega) (fun i v h => (Mu h).2.1 (by decide)), e23 3 p.fc.length (by decide) (by unfold SZ; omega) (fun i v h => (Mu h).1 rfl)]
theorem RW (a b : Nat) : T5 (a : Int) (b : Int) = ((max a b : Nat) : Int) := by
 unfold T5
 omega
theorem Qa (N : Nat) (hN : N ≤ 1000000) (h20 : 100 ≤ N) {p : Ah} {m : Af} (hv : CR p = 0) (hm : B3 p m) : EV N p m = some (F0 p m) := by
 obtain ⟨hp, _⟩ := DA hv
 have hnv := hp.nv
 have hnt := hp.nt
 have hmx : SZ p ≤ 12 := by unfold SZ; omega
 unfold EV
 have hmix := H0 hv hm
 -- one number
 have inn : ∀ (k : Int) (c0 a : List As) (i : Nat) (d0 : List As) (j : List As → Option (List As)), a.length ≤ 1000 →
   Cr N p m (c0, k) (d0, (i : Int)) j N (a, 0) = j (a ++ bS p m k i) := by
  intro k c0 a i d0 j ha
  have := G1 (Cr N p m (c0, k) (d0, (i : Int)) j) (fun a i => (a, i)) (List.range 6) j (fun v _ => gS p m k i v) 1 2000
   (fun v x _ => UK _ _ _ _ _)
   (fun n v x a hx hl => by
    have hi := (lI.1 hx).1
    simp only [List.length_range] at hi
    rw [Cr, AG (by simp only; omega)]
    simp only [Bf]
    rw [QT N hN h20 (Kb hm), if_pos hmix]
    simp only [oS, AT (show v < 1000000 by omega)]
    unfold gS Ws
    cases hq : (BV p m ⟨k, (i : Int), (v : Int)⟩).2 == 0
    ·rw [Aw, if_neg (by simp), List.append_nil]
    ·rw [AN, if_pos rfl, AI (by simp [Eg]; unfold gS Ws at hl; rw [hq] at hl; simp at hl; omega)])
   (fun n a => by rw [Cr, AC (by simp)]) N a (by simp; omega) (by simp; omega)
  rw [Ix] at this
  exact this
 have mid : ∀ (k : Int) (c0 a : List As) (j : List As → Option (List As)), a.length ≤ 500 →
   Cq N p m (c0, k) j N (a, 0) = j (a ++ kS p m k) := by
  intro k c0 a j ha
  have := G1 (Cq N p m (c0, k) j) (fun a i => (a, i)) (List.range (SZ p)) j (fun i _ => bS p m k i) 6 900
   (fun v x _ => VD _ _ _ _)
   (fun n i x a hx hl => by
    have hi := (lI.1 hx).1
    simp only [List.length_range] at hi
    rw [Cq, AG (by simp only; rw [RW]; unfold SZ at hi; omega)]
    rw [inn k c0 a i a _ (by omega)]
    simp only [AT (show i < 1000000 by omega)])
   (fun n a => by rw [Cq, AC (by simp [RW, SZ])]) N a (by simp; omega) (by simp; omega)
  rw [Ix] at this
  exact this
 have hk := YO hp m
 have go : ∀ (k : Int) (n : Nat) (a : List As), k ≤ 3 → 1 ≤ k → a.length ≤ 300 → BN N p m (fun v2 => some v2) (n + 1) (a, k) = BN N p m (fun v2 => some v2) n (a ++ kS p m k, k + 1) := by
  intro k n a h1 h2 ha
  rw [BN, AG h1]
  rw [mid k a a _ (by omega), CM (by omega) (by omega)]
 obtain ⟨N', hN'⟩ : ∃ q, N = q + 4 := ⟨N - 4, by omega⟩
 have e0 : BN N p m (fun v2 => some v2) N ([], 1) = BN N p m (fun v2 => some v2) (N' + 4) ([], 1) := by rw [hN']
 rw [e0, go 1 (N' + 3) [] (by decide) (by decide) (by simp), List.nil_append]
 rw [show (1 : Int) + 1 = 2 from rfl, go 2 (N' + 2) _ (by decide) (by decide) (by have := hk 1; omega)]
 rw [show (2 : Int) + 1 = 3 from rfl, go 3 (N' + 1) _ (by decide) (by decide) (by have h1 := hk 1; have h2 := hk 2; rw [List.length_append]; omega)]
 rw [BN, AC (by simp), VH hp]
end Go.Lift
namespace Go.Lift
open List renaming mem_of_getElem? → lM
open List renaming getElem?_eq_some_iff → lI
namespace Bfs
section
variable {α σ : Type}
def code (rk : σ → Nat) (K : Nat) (w : List σ) : Nat := w.foldl (fun c s => c * K + rk s) 0
theorem Lq (rk : σ → Nat) (K : Nat) (w : List σ) (s : σ) : code rk K (w ++ [s]) = code rk K w * K + rk s := by
 simp [code]
theorem RL (rk : σ → Nat) (K : Nat) : code rk K ([] : List σ) = 0 := rfl
def aP (rk : σ → Nat) (K : Nat) (w : List σ) : Prop := ∀ s, s ∈ w → 1 ≤ rk s ∧ rk s ≤ K
theorem aP.snoc {rk : σ → Nat} {K : Nat} {w : List σ} {s : σ} (h : aP rk K w) (hs : 1 ≤ rk s ∧ rk s ≤ K) : aP rk K (w ++ [s]) := by
 intro x hx; rcases List.mem_append.1 hx with h1 | h1
 ·exact h x h1
 ·rw [List.mem_singleton.1 h1]; exact hs
theorem TB {c d K a b : Nat} (h : c < d) (_ : 1 ≤ b) (ha : a ≤ K) : c * K + a < d * K + b := by
 have : c * K + K ≤ d * K := by rw [← Nat.succ_mul]; exact Nat.mul_le_mul_right K h
 omega
abbrev Nd (α σ : Type) := α × Int × σ
def put [DecidableEq α] (i : Nat) (l : List (Nd α σ)) (q : σ × α) : List (Nd α σ) := if (l.any fun n => decide (n.1 = q.2)) = true then l else l ++ [(q.2, (i : Int), q.1)]
def inner [DecidableEq α] (most i : Nat) : List (σ × α) → List (Nd α σ) → Option (List (Nd α σ))
 | [], l => some l
 | q :: qs, l => if most < (put i l q).length then none else inner most i qs (put i l q)
def go [DecidableEq α] (nxt : α → List (σ × α)) (most : Nat) : Nat → Nat → List (Nd α σ) → Option (List (Nd α σ))
 | 0, _, _ => none
 | n + 1, i, l => match l[i]? with
  | none => some l
  | some nd => (inner most i (nxt nd.1) l).bind fun l' => go nxt most n (i + 1) l'
structure Inv (nxt : α → List (σ × α)) (rk : σ → Nat) (K : Nat) (root : α) (i : Nat) (done : List (σ × α)) (l : List (Nd α σ)) (ws : List (List σ)) : Prop where
 len : ws.length = l.length
 root : ∃ s, l[0]? = some (root, -1, s)
 root' : ws[0]? = some []
 par : ∀ (k : Nat) x f s, 0 < k → l[k]? = some (x, f, s) → ∃ (j : Nat) (y : α) (g : Int) (t : σ) (w : List σ), f = (j : Int) ∧ j < k ∧ l[j]? = some (y, g, t) ∧ (s, x) ∈ nxt y ∧ ws[j]? = some w ∧ ws[k]? = some (w ++ [s]) ∧ (j < i ∨ (j = i ∧ (s, x) ∈ done))
 nodup : ∀ (a b : Nat) x f s g t, l[a]? = some (x, f, s) → l[b]? = some (x, g, t) → a = b
 inc : ∀ (a b : Nat) u w, ws[a]? = some u → ws[b]? = some w → a < b → code rk K u < code rk K w
 dig : ∀ (k : Nat) w, ws[k]? = some w → aP rk K w
 closed : ∀ (j : Nat) x f s w, l[j]? = some (x, f, s) → ws[j]? = some w → ∀ q, (j < i ∧ q ∈ nxt x) ∨ (j = i ∧ q ∈ done) → ∃ (k : Nat) (f' : Int) (s' : σ) (w' : List σ), l[k]? = some (q.2, f', s') ∧ ws[k]? = some w' ∧ code rk K w' ≤ code rk K (w ++ [q.1])
theorem JE {β : Type} {l : List β} {y x : β} {k : Nat} (h : (l ++ [y])[k]? = some x) : l[k]? = some x ∨ (k = l.length ∧ x = y) := by
 rcases Nat.lt_trichotomy k l.length with h1 | h1 | h1
 ·rw [List.getElem?_append_left h1] at h; exact .inl h
 ·subst h1; simp at h; exact .inr ⟨rfl, h.symm⟩
 ·rw [List.getElem?_eq_none (by simp; omega)] at h; cases h
theorem get_app_of {β : Type} {l : List β} {y x : β} {k : Nat} (h : l[k]? = some x) : (l ++ [y])[k]? = some x := by
 rw [List.getElem?_append_left ((lI.1 h).1)]; exact h
theorem KY {β : Type} {l : List β} {y : β} : (l ++ [y])[l.length]? = some y := by simp
theorem lt_get {β : Type} {l : List β} {k : Nat} {x : β} (h : l[k]? = some x) : k < l.length := (lI.1 h).1
theorem get_ex {β : Type} {l : List β} {k : Nat} (h : k < l.length) : ∃ x, l[k]? = some x := ⟨l[k], List.getElem?_eq_getElem h⟩
theorem W5 [DecidableEq α] {nxt : α → List (σ × α)} {rk : σ → Nat} {K : Nat} {root : α} {i : Nat} {done : List (σ × α)} {l : List (Nd α σ)} {ws : List (List σ)} {x : α} {f : Int} {s : σ} {q : σ × α}
  (hI : Inv nxt rk K root i done l ws) (hx : l[i]? = some (x, f, s)) (hq : q ∈ nxt x) (hd : ∀ r, r ∈ done → rk r.1 < rk q.1) (hr : 1 ≤ rk q.1 ∧ rk q.1 ≤ K) :
  ∃ ws', Inv nxt rk K root i (done ++ [q]) (put i l q) ws' ∧ (∀ (k : Nat) w, ws[k]? = some w → ws'[k]? = some w) ∧ (∀ (k : Nat) n, l[k]? = some n → (put i l q)[k]? = some n) := by
 obtain ⟨w0, hw0⟩ := get_ex (l := ws) (k := i) (by rw [hI.len]; exact lt_get hx)
 unfold put
 by_cases hin : (l.any fun n => decide (n.1 = q.2)) = true
 ·rw [if_pos hin]
  refine ⟨ws, ⟨hI.len, hI.root, hI.root', ?_, hI.nodup, hI.inc, hI.dig, ?_⟩, fun _ _ h => h, fun _ _ h => h⟩
  ·intro k y g t hk hy
   obtain ⟨j, y', g', t', w, h1, h2, h3, h4, h5, h6, h7⟩ := hI.par k y g t hk hy
   exact ⟨j, y', g', t', w, h1, h2, h3, h4, h5, h6, h7.imp id fun h => ⟨h.1, List.mem_append_left _ h.2⟩⟩
  ·intro j y g t w hy hw r hr'
   by_cases hold : (j < i ∧ r ∈ nxt y) ∨ (j = i ∧ r ∈ done)
   ·exact hI.closed j y g t w hy hw r hold
   ·have hjr : j = i ∧ r = q := by
     rcases hr' with h | ⟨h1, h2⟩
     ·exact absurd (.inl h) hold
     ·rcases List.mem_append.1 h2 with h3 | h3
      ·exact absurd (.inr ⟨h1, h3⟩) hold
      ·exact ⟨h1, List.mem_singleton.1 h3⟩
    obtain ⟨rfl, rfl⟩ := hjr
    rw [hw0] at hw; cases hw
    obtain ⟨n, hn1, hn2⟩ := List.any_eq_true.1 hin
    obtain ⟨k, hk⟩ := List.mem_iff_getElem?.1 hn1
    obtain ⟨nx, nf, ns⟩ := n
    have hn2 : nx = r.2 := of_decide_eq_true hn2
    subst hn2
    obtain ⟨wk, hwk⟩ := get_ex (l := ws) (k := k) (by rw [hI.len]; exact lt_get hk)
    refine ⟨k, nf, ns, wk, hk, hwk, ?_⟩
    rw [Lq]
    rcases Nat.eq_zero_or_pos k with rfl | hk0
    ·rw [hI.root'] at hwk; cases hwk; rw [RL]; omega
    ·obtain ⟨j', y', g', t', w, h1, h2, h3, h4, h5, h6, h7⟩ := hI.par k _ _ _ hk0 hk
     rw [h6] at hwk; cases hwk
     rw [Lq]
     have hdg : 1 ≤ rk ns ∧ rk ns ≤ K := hI.dig k _ h6 ns (by simp)
     rcases h7 with h7 | ⟨h7, h8⟩
     ·exact Nat.le_of_lt (TB (hI.inc _ _ _ _ h5 hw0 h7) hr.1 hdg.2)
     ·subst h7; rw [hw0] at h5; cases h5
      have := hd _ h8
      simp only at this; omega
 ·rw [if_neg hin]
  have hnew : ∀ (k : Nat) y g t, l[k]? = some (y, g, t) → y ≠ q.2 := fun k y g t hy e => hin (List.any_eq_true.2 ⟨_, lM hy, decide_eq_true e⟩)
  have hbig : ∀ (k : Nat) u, ws[k]? = some u → code rk K u < code rk K (w0 ++ [q.1]) := by
   intro k u hu
   rw [Lq]
   obtain ⟨⟨nx, nf, ns⟩, hk⟩ := get_ex (l := l) (k := k) (by rw [← hI.len]; exact lt_get hu)
   rcases Nat.eq_zero_or_pos k with rfl | hk0
   ·rw [hI.root'] at hu; cases hu; rw [RL]; omega
   ·obtain ⟨j', y', g', t', w, h1, h2, h3, h4, h5, h6, h7⟩ := hI.par k _ _ _ hk0 hk
    rw [h6] at hu; cases hu
    rw [Lq]
    have hdg : 1 ≤ rk ns ∧ rk ns ≤ K := hI.dig k _ h6 ns (by simp)
    rcases h7 with h7 | ⟨h7, h8⟩
    ·exact TB (hI.inc _ _ _ _ h5 hw0 h7) hr.1 hdg.2
    ·subst h7; rw [hw0] at h5; cases h5
     have := hd _ h8
     simp only at this; omega
  refine ⟨ws ++ [w0 ++ [q.1]], ⟨by simp [hI.len], ?_, get_app_of hI.root', ?_, ?_, ?_, ?_, ?_⟩, fun _ _ h => get_app_of h, fun _ _ h => get_app_of h⟩
  ·obtain ⟨s0, hs0⟩ := hI.root; exact ⟨s0, get_app_of hs0⟩
  ·intro k y g t hk hy
   rcases JE hy with hy | ⟨hk1, hy⟩
   ·obtain ⟨j, y', g', t', w, h1, h2, h3, h4, h5, h6, h7⟩ := hI.par k y g t hk hy
    exact ⟨j, y', g', t', w, h1, h2, get_app_of h3, h4, get_app_of h5, get_app_of h6, h7.imp id fun h => ⟨h.1, List.mem_append_left _ h.2⟩⟩
   ·cases hy
    refine ⟨i, x, f, s, w0, rfl, by rw [hk1]; exact lt_get hx, get_app_of hx, hq, get_app_of hw0, by rw [hk1, ← hI.len]; exact KY, .inr ⟨rfl, by simp⟩⟩
  ·intro a b y g t g' t' ha hb
   rcases JE ha with ha | ⟨ha1, ha⟩ <;> rcases JE hb with hb | ⟨hb1, hb⟩
   ·exact hI.nodup a b y g t g' t' ha hb
   ·cases hb; exact absurd rfl (hnew _ _ _ _ ha)
   ·cases ha; exact absurd rfl (hnew _ _ _ _ hb)
   ·omega
  ·intro a b u w ha hb hab
   rcases JE ha with ha | ⟨ha1, ha⟩ <;> rcases JE hb with hb | ⟨hb1, hb⟩
   ·exact hI.inc a b u w ha hb hab
   ·rw [hb]; exact hbig _ _ ha
   ·have := lt_get hb; omega
   ·omega
  ·intro k w hw
   rcases JE hw with hw | ⟨hw1, hw⟩
   ·exact hI.dig k w hw
   ·rw [hw]; exact (hI.dig _ _ hw0).snoc hr
  ·intro j y g t w hy hw r hr'
   rcases JE hy with hy1 | ⟨hy1, hy2⟩
   ·have hw1 : ws[j]? = some w := by
     rcases JE hw with h | ⟨h, _⟩
     ·exact h
     ·have := lt_get hy1; rw [← hI.len] at this; omega
    by_cases hold : (j < i ∧ r ∈ nxt y) ∨ (j = i ∧ r ∈ done)
    ·obtain ⟨k, f', s', w', h1, h2, h3⟩ := hI.closed j y g t w hy1 hw1 r hold
     exact ⟨k, f', s', w', get_app_of h1, get_app_of h2, h3⟩
    ·have hjr : j = i ∧ r = q := by
      rcases hr' with h | ⟨h1, h2⟩
      ·exact absurd (.inl h) hold
      ·rcases List.mem_append.1 h2 with h3 | h3
       ·exact absurd (.inr ⟨h1, h3⟩) hold
       ·exact ⟨h1, List.mem_singleton.1 h3⟩
     obtain ⟨rfl, rfl⟩ := hjr
     rw [hw0] at hw1; cases hw1
     exact ⟨l.length, _, _, _, KY, by rw [← hI.len]; exact KY, Nat.le_refl _⟩
   ·have := lt_get hx
    rcases hr' with h | h <;> omega
theorem PQ [DecidableEq α] {nxt : α → List (σ × α)} {rk : σ → Nat} {K : Nat} {root : α} {i most : Nat} {x : α} {f : Int} {s : σ} (hP : (nxt x).Pairwise fun a b => rk a.1 < rk b.1) (hD : ∀ q, q ∈ nxt x → 1 ≤ rk q.1 ∧ rk q.1 ≤ K) :
  ∀ (qs done : List (σ × α)) (l l' : List (Nd α σ)) (ws : List (List σ)), done ++ qs = nxt x → Inv nxt rk K root i done l ws → l[i]? = some (x, f, s) → inner most i qs l = some l' →
   ∃ ws', Inv nxt rk K root i (nxt x) l' ws' ∧ (∀ (k : Nat) w, ws[k]? = some w → ws'[k]? = some w) ∧ (∀ (k : Nat) n, l[k]? = some n → l'[k]? = some n)
 | [], done, l, l', ws, he, hI, hx, h => by
  cases h; rw [List.append_nil] at he; subst he; exact ⟨ws, hI, fun _ _ h => h, fun _ _ h => h⟩
 | q :: qs, done, l, l', ws, he, hI, hx, h => by
  have hqm : q ∈ nxt x := by rw [← he]; simp
  have hlt : ∀ r, r ∈ done → rk r.1 < rk q.1 := fun r hr => by
   rw [← he] at hP
   exact (List.pairwise_append.1 hP).2.2 r hr q (by simp)
  obtain ⟨ws1, h1, h2, h3⟩ := W5 hI hx hqm hlt (hD q hqm)
  simp only [inner] at h
  split at h
  ·cases h
  ·obtain ⟨ws2, g1, g2, g3⟩ := PQ hP hD qs (done ++ [q]) _ l' ws1 (by rw [List.append_assoc]; exact he) h1 (h3 _ _ hx) h
   exact ⟨ws2, g1, fun k w hw => g2 k w (h2 k w hw), fun k n hn => g3 k n (h3 k n hn)⟩
theorem VC {nxt : α → List (σ × α)} {rk : σ → Nat} {K : Nat} {root : α} {i : Nat} {x : α} {f : Int} {s : σ} {l : List (Nd α σ)} {ws : List (List σ)} (h : Inv nxt rk K root i (nxt x) l ws) (hx : l[i]? = some (x, f, s)) : Inv nxt rk K root (i + 1) [] l ws := by
 refine ⟨h.len, h.root, h.root', ?_, h.nodup, h.inc, h.dig, ?_⟩
 ·intro k y g t hk hy
  obtain ⟨j, y', g', t', w, h1, h2, h3, h4, h5, h6, h7⟩ := h.par k y g t hk hy
  exact ⟨j, y', g', t', w, h1, h2, h3, h4, h5, h6, .inl (by rcases h7 with h7 | h7 <;> omega)⟩
 ·intro j y g t w hy hw r hr
  rcases hr with ⟨h1, h2⟩ | ⟨_, h2⟩
  ·refine h.closed j y g t w hy hw r ?_
   by_cases hj : j < i
   ·exact .inl ⟨hj, h2⟩
   ·have : j = i := by omega
    subst this; rw [hx] at hy; cases hy; exact .inr ⟨rfl, h2⟩
  ·cases h2
theorem inv_go [DecidableEq α] {nxt : α → List (σ × α)} {rk : σ → Nat} {K : Nat} {root : α} {most : Nat} (P : α → Prop) (hP : ∀ x, P x → (nxt x).Pairwise fun a b => rk a.1 < rk b.1) (hD : ∀ x, P x → ∀ q, q ∈ nxt x → (1 ≤ rk q.1 ∧ rk q.1 ≤ K) ∧ P q.2) (hroot : P root) :
  ∀ (n i : Nat) (l l' : List (Nd α σ)) (ws : List (List σ)), i ≤ l.length → Inv nxt rk K root i [] l ws → (∀ (k : Nat) x f s, l[k]? = some (x, f, s) → P x) → go nxt most n i l = some l' → ∃ ws', Inv nxt rk K root l'.length [] l' ws' ∧ (∀ (k : Nat) x f s, l'[k]? = some (x, f, s) → P x)
 | 0, i, l, l', ws, _, _, _, h => by cases h
 | n + 1, i, l, l', ws, hi, hI, hA, h => by
  simp only [go] at h
  split at h
  ·rename_i hn
   cases h
   have : i = l.length := by
    have := List.getElem?_eq_none_iff.1 hn; omega
   subst this
   exact ⟨ws, hI, hA⟩
  ·rename_i nd hn
   obtain ⟨x, f, s⟩ := nd
   cases hin : inner most i (nxt x) l with
   | none => rw [hin] at h; cases h
   | some l1 =>
    rw [hin] at h
    have hx := hA _ _ _ _ hn
    obtain ⟨ws1, h1, h2, h3⟩ := PQ (hP x hx) (fun q hq => (hD x hx q hq).1) (nxt x) [] l l1 ws rfl hI hn hin
    have hA1 : ∀ (k : Nat) y g t, l1[k]? = some (y, g, t) → P y := fun k y g t hy => by
     rcases Nat.eq_zero_or_pos k with rfl | hk
     ·obtain ⟨s0, hs0⟩ := h1.root; rw [hs0] at hy; cases hy; exact hroot
     ·obtain ⟨j, y', g', t', w, e1, e2, e3, e4, e5, e6, e7⟩ := h1.par k y g t hk hy
      have hj : P y' := by
       have hjl : j < l.length := by rcases e7 with h | h <;> have := lt_get hn <;> omega
       obtain ⟨⟨z, zf, zs⟩, hz⟩ := get_ex hjl
       have := h3 _ _ hz
       rw [e3] at this; cases this
       exact hA _ _ _ _ hz
      exact (hD y' hj _ e4).2
    exact inv_go P hP hD hroot n (i + 1) l1 l' ws1 (by have := lt_get (h3 _ _ hn); omega) (VC h1 (h3 _ _ hn)) hA1 h
theorem inv_start {nxt : α → List (σ × α)} {rk : σ → Nat} {K : Nat} {root : α} {s : σ} : Inv nxt rk K root 0 [] [(root, -1, s)] [[]] := by
 refine ⟨rfl, ⟨s, rfl⟩, rfl, ?_, ?_, ?_, ?_, ?_⟩
 ·intro k x f s hk h; rw [List.getElem?_eq_none (by simp; omega)] at h; cases h
 ·intro a b x f s g t ha hb; have := lt_get ha; have := lt_get hb; simp at *; omega
 ·intro a b u w ha hb hab; have := lt_get hb; simp at this; omega
 ·intro k w hw
  have := lt_get hw; simp at this; subst this; simp at hw; subst hw
  intro s hs; cases hs
 ·intro j x f s w _ _ q h
  rcases h with h | h
  ·omega
  ·cases h.2
def run (nxt : α → List (σ × α)) (x : α) : List σ → α → Prop
 | [], y => y = x
 | s :: w, y => ∃ z, (s, z) ∈ nxt x ∧ run nxt z w y
theorem Ji {nxt : α → List (σ × α)} : ∀ {u w : List σ} {x y : α}, run nxt x (u ++ w) y ↔ ∃ z, run nxt x u z ∧ run nxt z w y
 | [], w, x, y => by simp [run]
 | s :: u, w, x, y => by
  simp only [List.cons_append, run]
  constructor
  ·rintro ⟨z, h1, h2⟩
   obtain ⟨z', h3, h4⟩ := Ji.1 h2
   exact ⟨z', ⟨z, h1, h3⟩, h4⟩
  ·rintro ⟨z', ⟨z, h1, h3⟩, h4⟩
   exact ⟨z, h1, Ji.2 ⟨z', h3, h4⟩⟩
theorem inner_len [DecidableEq α] {most i : Nat} : ∀ (qs : List (σ × α)) (l l' : List (Nd α σ)), l.length ≤ most → inner most i qs l = some l' → l'.length ≤ most
 | [], l, l', h0, h => by cases h; exact h0
 | q :: qs, l, l', h0, h => by
  simp only [inner] at h
  split at h
  ·cases h
  ·exact inner_len qs _ _ (by omega) h
theorem go_len [DecidableEq α] {nxt : α → List (σ × α)} {most : Nat} : ∀ (n i : Nat) (l l' : List (Nd α σ)), l.length ≤ most → go nxt most n i l = some l' → l'.length ≤ most
 | 0, i, l, l', _, h => by cases h
 | n + 1, i, l, l', h0, h => by
  simp only [go] at h
  split at h
  ·cases h; exact h0
  ·rename_i nd hn
   cases hin : inner most i (nxt nd.1) l with
   | none => rw [hin] at h; cases h
   | some l1 => rw [hin] at h; exact go_len n (i + 1) l1 l' (inner_len _ _ _ h0 hin) h
end
end Bfs
end Go.Lift
namespace Go.Lift
open Option renaming bind_some → oS
open List renaming mem_of_getElem? → lM
open List renaming getElem?_eq_some_iff → lI
open Go
theorem Rh : ∀ {l : List Int}, Su l = 0 → ∀ x, x ∈ l → x = 0
 | [], _, x, hx => by cases hx
 | y :: ys, h, x, hx => by
  unfold Su at h
  split at h
  ·rename_i hy
   rcases List.mem_cons.1 hx with rfl | hx
   ·exact hy
   ·exact Rh h x hx
  ·rename_i hy; exact absurd h hy
theorem I5 {a b : Af} (h : EU a b = 0) : a = b := by
 have := Rh h
 have h1 := NW _ _ (this (EY a.fd b.fd) (by simp))
 have h2 := NW _ _ (this (EY a.fa b.fa) (by simp))
 have h3 := NW _ _ (this (EY a.fe b.fe) (by simp))
 cases a; cases b; simp only at h1 h2 h3; subst h1; subst h2; subst h3; rfl
instance bb : DecidableEq Af := fun a b => if h : EU a b = 0 then isTrue (I5 h) else isFalse (fun e => h (by rw [e]; exact Lm b))
theorem U8 (a b : Af) : (EU a b == 0) = decide (a = b) := by
 by_cases h : a = b
 ·rw [decide_eq_true h, h, Lm]; rfl
 ·rw [decide_eq_false h]
  exact beq_eq_false_iff_ne.2 fun e => h (I5 e)
def Ss (p : Ah) (m : Af) (ss : List As) : List (As × Af) := ss.filterMap fun s => if Br p (BV p m s).1 = true then some (s, (BV p m s).1) else none
def Kq (p : Ah) (m : Af) : List (As × Af) := Ss p m (F0 p m)
def NY (s : As) : Nat := if s.fg = 1 then 1 + 8 * s.fj.toNat + s.fo.toNat else if s.fg = 2 then 60 + s.fj.toNat else 70 + s.fj.toNat
theorem Ke {p : Ah} {m : Af} {s : As} (h : s ∈ F0 p m) : s ∈ FF p ∧ (BV p m s).2 = 0 := by
 unfold F0 at h
 have := List.mem_filter.1 h
 exact ⟨this.1, by simpa using this.2⟩
theorem WM {p : Ah} {m : Af} {ss : List As} {q : As × Af} : q ∈ Ss p m ss ↔ q.1 ∈ ss ∧ q.2 = (BV p m q.1).1 ∧ Br p q.2 = true := by
 unfold Ss
 rw [List.mem_filterMap]
 constructor
 ·rintro ⟨s, h1, h2⟩
  split at h2
  ·rename_i h3; cases h2; exact ⟨h1, rfl, h3⟩
  ·cases h2
 ·rintro ⟨h1, h2, h3⟩
  refine ⟨q.1, h1, ?_⟩
  rw [← h2, if_pos h3]
theorem QV {p : Ah} {m : Af} {q : As × Af} : q ∈ Kq p m ↔ q.1 ∈ F0 p m ∧ q.2 = (BV p m q.1).1 ∧ Br p q.2 = true := WM
theorem Oe {p : Ah} {m : Af} (hp : BB p) (hm : B3 p m) {q : As × Af} (h : q ∈ Kq p m) : B3 p q.2 ∧ Br p q.2 = true := by
 obtain ⟨h1, h2, h3⟩ := QV.1 h
 exact ⟨by rw [h2]; exact Lk hp hm (Ke h1).2, h3⟩
theorem V4 {p : Ah} (hp : BB p) {s : As} (h : s ∈ FF p) : s.fg ≤ 3 ∧ 1 ≤ NY s ∧ NY s ≤ 100 := by
 obtain ⟨h1, h2⟩ := Nc hp h
 obtain ⟨a1, a2, a3, a4, a5⟩ := I3 h1
 obtain ⟨b1, b2, b3⟩ := J4 h2
 have hnv := hp.nv
 have hnt := hp.nt
 have hk : s.fg ≤ 3 := by
  unfold FF at h
  rcases List.mem_append.1 h with h | h
  ·rcases List.mem_append.1 h with h | h
   ·obtain ⟨j, x, hx, hk⟩ := Ih.1 h
    unfold JX at hk
    obtain ⟨v, hv, rfl⟩ := List.mem_map.1 hk
    exact (by decide : (1 : Int) ≤ 3)
   ·obtain ⟨v, hv, rfl⟩ := List.mem_map.1 h
    exact (by decide : (2 : Int) ≤ 3)
  ·obtain ⟨v, hv, rfl⟩ := List.mem_map.1 h
   exact (by decide : (3 : Int) ≤ 3)
 refine ⟨hk, ?_⟩
 unfold NY
 by_cases h1 : s.fg = 1
 ·rw [if_pos h1]
  have := b2 (by omega)
  have h3 := b3 h1
  have h4 := (IF hp (i := s.fj.toNat) (by omega)).2
  omega
 ·rw [if_neg h1]
  by_cases h2 : s.fg = 2
  ·rw [if_pos h2]
   have := b2 (by omega)
   omega
  ·rw [if_neg h2]
   have := b1 (by omega)
   omega
theorem Xp (i : Nat) (n : Int) : (JX i n).Pairwise fun a b => NY a < NY b := by
 unfold JX
 rw [List.pairwise_map]
 refine List.Pairwise.imp ?_ List.pairwise_lt_range
 intro a b h
 simp [NY]; omega
theorem Xu {p : Ah} (hp : BB p) : (FF p).Pairwise fun a b => NY a < NY b := by
 have hnv := hp.nv
 have hnt := hp.nt
 have e1 : ∀ (xs : List Int) (i : Nat), (∀ x, x ∈ xs → x ≤ 6) → (Dg JX i xs).Pairwise fun a b => NY a < NY b := by
  intro xs
  induction xs with
  | nil => intro i _; exact List.Pairwise.nil
  | cons x xs ih =>
   intro i hx
   rw [Dg, List.pairwise_append]
   refine ⟨Xp i x, ih (i + 1) fun y hy => hx y (List.mem_cons_of_mem _ hy), ?_⟩
   intro a ha b hb
   unfold JX at ha
   obtain ⟨v, hv, rfl⟩ := List.mem_map.1 ha
   obtain ⟨j, y, hy, hb⟩ := Ih.1 hb
   unfold JX at hb
   obtain ⟨w, hw, rfl⟩ := List.mem_map.1 hb
   have := hx x (by simp)
   have := List.mem_range.1 hv
   simp [NY]; omega
 unfold FF
 rw [List.pairwise_append, List.pairwise_append]
 refine ⟨⟨e1 _ 0 fun x hx => (hp.ver x hx).2, ?_, ?_⟩, ?_, ?_⟩
 ·rw [List.pairwise_map]
  refine List.Pairwise.imp ?_ List.pairwise_lt_range
  intro a b h
  simp [NY]; omega
 ·intro a ha b hb
  obtain ⟨w, hw, rfl⟩ := List.mem_map.1 hb
  obtain ⟨j, y, hy, ha⟩ := Ih.1 ha
  unfold JX at ha
  obtain ⟨v, hv, rfl⟩ := List.mem_map.1 ha
  have := List.mem_range.1 hv
  have := (hp.ver y (lM hy)).2
  have := (lI.1 hy).1
  simp [NY]; omega
 ·rw [List.pairwise_map]
  refine List.Pairwise.imp ?_ List.pairwise_lt_range
  intro a b h
  simp [NY]; omega
 ·intro a ha b hb
  obtain ⟨w, hw, rfl⟩ := List.mem_map.1 hb
  have hw := List.mem_range.1 hw
  rcases List.mem_append.1 ha with ha | ha
  ·obtain ⟨j, y, hy, ha⟩ := Ih.1 ha
   unfold JX at ha
   obtain ⟨v, hv, rfl⟩ := List.mem_map.1 ha
   have := List.mem_range.1 hv
   have := (hp.ver y (lM hy)).2
   have := (lI.1 hy).1
   simp [NY]; omega
  ·obtain ⟨v, hv, rfl⟩ := List.mem_map.1 ha
   have := List.mem_range.1 hv
   simp [NY]; omega
theorem YM {p : Ah} {m : Af} {ss : List As} (h : ss.Pairwise fun a b => NY a < NY b) : (Ss p m ss).Pairwise fun a b => NY a.1 < NY b.1 := by
 unfold Ss
 rw [List.pairwise_filterMap]
 refine List.Pairwise.imp ?_ h
 intro a b hab x hx y hy
 split at hx
 ·cases hx
  split at hy
  ·cases hy; exact hab
  ·cases hy
 ·cases hx
theorem YK {p : Ah} (hp : BB p) (m : Af) : (Kq p m).Pairwise fun a b => NY a.1 < NY b.1 := YM ((Xu hp).filter _)
abbrev Pb := Bfs.Nd Af As
def RS : As := ⟨0, 0, 0⟩
theorem Ux {N : Nat} {p : Ah} {a b : Af} (hN : N ≤ 1000000) (h20 : 100 ≤ N) (hp : BB p) (ha : B3 p a) (hb : B3 p b) : Dx N a b = some (decide (a = b)) := by
 have hnv := hp.nv
 have hnt := hp.nt
 unfold Dx
 rw [Nq hN (by rw [ha.base]; omega) (by rw [ha.next]; omega) (by rw [ha.held]; omega) (by rw [hb.held]; omega) (Kb ha) (Kb hb)]
 simp only [oS]
 rw [U8]
theorem Rj {i : Nat} {l : List Pb} {q : As × Af} {k : Nat} {n : Pb} (h : l[k]? = some n) : (Bfs.put i l q)[k]? = some n := by
 unfold Bfs.put
 split
 ·exact h
 ·exact Bfs.get_app_of h
theorem Qs {i : Nat} {l : List Pb} {q : As × Af} {n : Pb} (h : n ∈ Bfs.put i l q) : n ∈ l ∨ n.1 = q.2 := by
 unfold Bfs.put at h
 split at h
 ·exact .inl h
 ·rcases List.mem_append.1 h with h | h
  ·exact .inl h
  ·rw [List.mem_singleton.1 h]; exact .inr rfl
theorem Ro {p : Ah} {m : Af} {s : As} {ss : List As} : Ss p m (s :: ss) = if Br p (BV p m s).1 = true then (s, (BV p m s).1) :: Ss p m ss else Ss p m ss := by
 unfold Ss
 rw [List.filterMap_cons]
 split <;> rename_i h
 ·split at h
  ·cases h
  ·rename_i h2; rw [if_neg h2]
 ·split at h
  ·rename_i h2; cases h; rw [if_pos h2]
  ·cases h
theorem Kl {p : Ah} {most i : Nat} : ∀ {qs : List (As × Af)} {l l' : List Pb}, Bfs.inner most i qs l = some l' → (∀ q, q ∈ qs → B3 p q.2 ∧ Br p q.2 = true) → (∀ n, n ∈ l → B3 p n.1 ∧ Br p n.1 = true) → (∀ n, n ∈ l' → B3 p n.1 ∧ Br p n.1 = true) ∧ (∀ (k : Nat) n, l[k]? = some n → l'[k]? = some n)
 | [], l, l', h, _, hA => by cases h; exact ⟨hA, fun _ _ h => h⟩
 | q :: qs, l, l', h, hq, hA => by
  simp only [Bfs.inner] at h
  split at h
  ·cases h
  ·obtain ⟨h1, h2⟩ := Kl h (fun q hq' => hq q (List.mem_cons_of_mem _ hq')) (fun n hn => by
    rcases Qs hn with h | h
    ·exact hA n h
    ·rw [h]; exact hq q (by simp))
   exact ⟨h1, fun k n hn => h2 k n (Rj hn)⟩
theorem QK (N : Nat) (hN : N ≤ 1000000) (h20 : 100 ≤ N) {p : Ah} {m : Af} (hp : BB p) (hm : B3 p m) {s : As} (hs : s ∈ F0 p m) : ∃ b, C3 N p m s = some ((BV p m s).1, b) := by
 obtain ⟨h1, h2⟩ := Ke hs
 obtain ⟨h3, h4⟩ := Nc hp h1
 rw [Mv N hN h20 hp hm h3 h4]
 unfold BV at h2 ⊢
 rw [h3, h4, if_neg (by simp), if_neg (by simp)] at h2 ⊢
 cases h : Gu p m s with
 | none => rw [h] at h2; cases h2
 | some x => exact ⟨true, rfl⟩
theorem Me {p : Ah} {m : Af} (hm : B3 p m) (hr : Br p m = true) : ∀ n, n ∈ ([(m, -1, RS)] : List Pb) → B3 p n.1 ∧ Br p n.1 = true := fun n hn => by
 rw [List.mem_singleton.1 hn]; exact ⟨hm, hr⟩
theorem Px {p : Ah} (hp : BB p) (m : Af) : (F0 p m).length ≤ 54 := Nat.le_trans (List.length_filter_le _ _) (NV hp)
def L2 (p : Ah) (m : Af) (most n : Nat) : Option (List Pb) := Bfs.go (Kq p) most n 0 [(m, -1, RS)]
structure aY (p : Ah) (m : Af) (l : List Pb) (ws : List (List As)) : Prop where
 inv : Bfs.Inv (Kq p) NY 100 m l.length [] l ws
 ok : ∀ (k : Nat) x f s, l[k]? = some (x, f, s) → B3 p x ∧ Br p x = true
theorem V9 {p : Ah} (hp : BB p) {m : Af} (hm : B3 p m) (hr : Br p m = true) {most n : Nat} {l : List Pb} (h : L2 p m most n = some l) : ∃ ws, aY p m l ws := by
 obtain ⟨ws, h1, h2⟩ := Bfs.inv_go (rk := NY) (K := 100) (fun x => B3 p x ∧ Br p x = true) (fun x _ => YK hp x) (fun x hx q hq => by
  refine ⟨?_, Oe hp hx.1 hq⟩
  exact (V4 hp (Ke (QV.1 hq).1).1).2) ⟨hm, hr⟩ n 0 [(m, -1, RS)] l [[]] (Nat.zero_le _) Bfs.inv_start (fun k x f s hk => by
   have := Bfs.lt_get hk
   simp at this; subst this
   cases hk; exact ⟨hm, hr⟩) h
 exact ⟨ws, h1, h2⟩
end Go.Lift
namespace Go.Lift
open IntKind renaming wrap → wI
open Option renaming bind_some → oS
open List renaming mem_of_getElem? → lM
open Go
open Go.Sort (swp insInner insOuter insertionSort siftDown heapBuild heapPop heapSort)
section
variable {α : Type} [Inhabited α]
theorem wn {e : Int} {n : Nat} (h : e = (n : Int)) (hn : n < 1000000000) : wI .i64 e = (n : Int) := by
 subst h; exact CM (by omega) (by omega)
theorem gi {d : Array α} {i : Nat} (h : i < d.size) : Bg d.toList (i : Int) = some d[i]! := by
 rw [Bc]
 simp [h, getElem!_pos]
theorem Jv {β γ : Type} {l : List β} {i : Nat} (h : i < l.length) (X : Option γ) : ((Bg l (i : Int)).bind fun _ => X) = X := by
 rw [Bc, List.getElem?_eq_getElem h]; rfl
theorem E8 (d : Array α) (i j : Nat) : (swp d i j).toList = (d.toList.set i d[j]!).set j d[i]! := by
 unfold swp; simp
theorem Bs (d : Array α) (i j : Nat) : (swp d i j).size = d.size := by unfold swp; simp
def Dv (P : α → Prop) (d : Array α) : Prop := ∀ x, x ∈ d.toList → P x
theorem Dv.get {P : α → Prop} {d : Array α} (h : Dv P d) {i : Nat} (hi : i < d.size) : P d[i]! := by
 have := gi hi
 rw [Bc] at this
 exact h _ (lM this)
theorem Dv.swp {P : α → Prop} {d : Array α} (h : Dv P d) {i j : Nat} (hi : i < d.size) (hj : j < d.size) : Dv P (swp d i j) := by
 intro x hx
 rw [E8] at hx
 rcases List.mem_or_eq_of_mem_set hx with hx | hx
 ·rcases List.mem_or_eq_of_mem_set hx with hx | hx
  ·exact h x hx
  ·rw [hx]; exact h.get hj
 ·rw [hx]; exact h.get hi
variable {P : α → Prop} {cmp : α × α → Option Int} {c : α → α → Int}
def Cs (c : α → α → Int) (x y : α) : Bool := decide (c x y < 0)
theorem U2 (hc : ∀ x y, P x → P y → cmp (x, y) = some (c x y)) (N a : Nat) (J : List α → Option (List α)) : ∀ (n j : Nat) (d : Array α), j < n → j < d.size → d.size ≤ 100000 → Dv P d →
  Gs.insertionSort_L4 N (a : Int) cmp J n (d.toList, (j : Int)) = J (insInner (Cs c) a j d).toList ∧ (insInner (Cs c) a j d).size = d.size ∧ Dv P (insInner (Cs c) a j d)
 | 0, j, d, h, _, _, _ => by omega
 | n + 1, j, d, h, hj, hs, hA => by
  rw [Gs.insertionSort_L4]
  simp only [Bf]
  rcases j with _ | j
  ·rw [AC (by omega), Aw]
   exact ⟨rfl, rfl, hA⟩
  ·simp only [wn (e := ((j + 1 : Nat) : Int) - 1) (n := j) (by omega) (by omega), gi hj, gi (show j < d.size by omega), oS, Int.toNat_natCast]
   rw [hc _ _ (hA.get hj) (hA.get (by omega))]
   simp only [oS]
   rw [Jv (by simp; omega), ← E8]
   rw [insInner]
   by_cases ha : a < j + 1
   ·rw [AG (by omega), WF]
    by_cases hl : c d[j + 1]! d[j]! < 0
    ·rw [if_pos (decide_eq_true hl), if_pos (by simp [ha, Cs, hl])]
     have := U2 hc N a J n j (swp d (j + 1) j) (by omega) (by rw [Bs]; omega) (by rw [Bs]; exact hs) (hA.swp hj (by omega))
     rw [Bs] at this
     exact this
    ·rw [if_neg (by simpa using hl), if_neg (by simp [Cs, hl])]
     exact ⟨rfl, rfl, hA⟩
   ·rw [AC (by omega), Aw, if_neg (by simp [ha])]
    exact ⟨rfl, rfl, hA⟩
theorem TW (hc : ∀ x y, P x → P y → cmp (x, y) = some (c x y)) (N a b : Nat) (J : List α → Option (List α)) : ∀ (n i : Nat) (d : Array α), b - i < n → b ≤ d.size → d.size < N → d.size ≤ 100000 → i ≤ 200000 → Dv P d →
  Gs.insertionSort_L1 N (a : Int) (b : Int) cmp J n (d.toList, (i : Int)) = J (insOuter (Cs c) a b i d).toList ∧ (insOuter (Cs c) a b i d).size = d.size ∧ Dv P (insOuter (Cs c) a b i d)
 | 0, i, d, h, _, _, _, _, _ => by omega
 | n + 1, i, d, h, hb, hN, hs, hi2, hA => by
  rw [Gs.insertionSort_L1, insOuter]
  by_cases hi : i < b
  ·rw [AG (by simp only; omega), if_pos hi]
   obtain ⟨e1, e2, e3⟩ := U2 hc N a (fun v5 => Gs.insertionSort_L1 N (a : Int) (b : Int) cmp J n (v5, ((i + 1 : Nat) : Int))) N i d (by omega) (by omega) hs hA
   simp only [wn (e := (i : Int) + 1) (n := i + 1) (by omega) (by omega)]
   rw [e1]
   have := TW hc N a b J n (i + 1) (insInner (Cs c) a i d) (by omega) (by omega) (by omega) (by omega) (by omega) e3
   rw [e2] at this
   exact this
  ·rw [AC (by simp only; omega), if_neg hi]
   exact ⟨rfl, rfl, hA⟩
theorem Yv (hc : ∀ x y, P x → P y → cmp (x, y) = some (c x y)) {N a b : Nat} {d : Array α} (hab : a ≤ b) (hb : b ≤ d.size) (hN : d.size < N) (hs : d.size ≤ 100000) (hA : Dv P d) :
  Gs.insertionSort N d.toList (a : Int) (b : Int) cmp = some (insertionSort (Cs c) d a b).toList ∧ (insertionSort (Cs c) d a b).size = d.size ∧ Dv P (insertionSort (Cs c) d a b) := by
 unfold Gs.insertionSort
 rw [wn (e := (a : Int) + 1) (n := a + 1) (by omega) (by omega)]
 exact TW hc N a b (fun v2 => some v2) N (a + 1) d (by omega) hb hN hs (by omega) hA
theorem QB (hc : ∀ x y, P x → P y → cmp (x, y) = some (c x y)) {N hi first : Nat} : ∀ (n root : Nat) (d : Array α), hi - root < n → first + hi ≤ d.size → d.size ≤ 100000 → root ≤ 100000 → Dv P d → root < hi ∨ hi = 0 ∨ True → (2 * root + 1 < hi → root < hi) →
  Gs.siftDown_L1 N (hi : Int) (first : Int) cmp (fun v2 => some v2) n (d.toList, (root : Int)) = some (siftDown (Cs c) hi first root d).toList ∧ (siftDown (Cs c) hi first root d).size = d.size ∧ Dv P (siftDown (Cs c) hi first root d)
 | 0, root, d, h, _, _, _, _, _, _ => by omega
 | n + 1, root, d, h, hf, hs, hr, hA, _, _ => by
  rw [Gs.siftDown_L1, siftDown]
  simp only [Bf]
  have e1 : wI .i64 ((wI .i64 (2 * (root : Int))) + 1) = ((2 * root + 1 : Nat) : Int) := by
   rw [wn (e := 2 * (root : Int)) (n := 2 * root) (by omega) (by omega), wn (n := 2 * root + 1) (by omega) (by omega)]
  have e2 : wI .i64 (((2 * root + 1 : Nat) : Int) + 1) = ((2 * root + 2 : Nat) : Int) := wn (by omega) (by omega)
  have e3 : wI .i64 ((first : Int) + ((2 * root + 1 : Nat) : Int)) = ((first + (2 * root + 1) : Nat) : Int) := by
   by_cases hx : first < 200000
   ·exact wn (by omega) (by omega)
   ·omega
  have e4 : wI .i64 ((first : Int) + (root : Int)) = ((first + root : Nat) : Int) := wn (by omega) (by omega)
  have e5 : wI .i64 (((first + (2 * root + 1) : Nat) : Int) + 1) = ((first + (2 * root + 1) + 1 : Nat) : Int) := wn (by omega) (by omega)
  have e6 : wI .i64 ((first : Int) + ((2 * root + 2 : Nat) : Int)) = ((first + (2 * root + 2) : Nat) : Int) := wn (by omega) (by omega)
  simp only [e1, e2, e3, e4, e5]
  by_cases h1 : 2 * root + 1 ≥ hi
  ·rw [AG (by omega), dif_pos h1]
   exact ⟨rfl, rfl, hA⟩
  ·rw [AC (by omega), dif_neg h1]
   -- what follows when the child is known
   have tail : ∀ ch : Nat, ch < hi → root < ch → wI .i64 ((first : Int) + (ch : Int)) = ((first + ch : Nat) : Int) →
     (((Bg d.toList ((first + root : Nat) : Int)).bind fun v11 => (Bg d.toList (wI .i64 ((first : Int) + (ch : Int)))).bind fun v12 => (cmp (v11, v12)).bind fun v13 => AW (!(decide (v13 < 0))) (some d.toList)
      ((Bg d.toList (wI .i64 ((first : Int) + (ch : Int)))).bind fun v15 => (Bg d.toList ((first + root : Nat) : Int)).bind fun v16 => (Bg d.toList ((first + root : Nat) : Int)).bind fun _ =>
       (Bg (d.toList.set (((first + root : Nat) : Int)).toNat v15) (wI .i64 ((first : Int) + (ch : Int)))).bind fun _ =>
       Gs.siftDown_L1 N (hi : Int) (first : Int) cmp (fun v2 => some v2) n ((d.toList.set (((first + root : Nat) : Int)).toNat v15).set ((wI .i64 ((first : Int) + (ch : Int)))).toNat v16, (ch : Int)))) =
      some (if !Cs c d[first + root]! d[first + ch]! then d else siftDown (Cs c) hi first ch (swp d (first + root) (first + ch))).toList) ∧
     (if !Cs c d[first + root]! d[first + ch]! then d else siftDown (Cs c) hi first ch (swp d (first + root) (first + ch))).size = d.size ∧ Dv P (if !Cs c d[first + root]! d[first + ch]! then d else siftDown (Cs c) hi first ch (swp d (first + root) (first + ch))) := by
    intro ch h2 h3 h4
    have a1 : first + root < d.size := by omega
    have a2 : first + ch < d.size := by omega
    simp only [h4, gi a1, gi a2, oS, Int.toNat_natCast]
    rw [hc _ _ (hA.get a1) (hA.get a2)]
    simp only [oS]
    rw [Jv (by simp; omega), ← E8]
    unfold Cs
    cases hl : decide (c d[first + root]! d[first + ch]! < 0)
    ·rw [Bool.not_false, AN, if_pos rfl]
     exact ⟨rfl, rfl, hA⟩
    ·rw [Bool.not_true, Aw, if_neg (by simp)]
     have := QB hc (N := N) (hi := hi) (first := first) n ch (swp d (first + root) (first + ch)) (by omega) (by rw [Bs]; omega) (by rw [Bs]; exact hs) (by omega) (hA.swp a1 a2) (.inl h2) (fun _ => h2)
     rw [Bs] at this
     exact this
   have t1 := tail (2 * root + 1) (by omega) (by omega) e3
   rw [e3] at t1
   by_cases h2 : 2 * root + 1 + 1 < hi
   ·rw [AG (by omega)]
    simp only [gi (show first + (2 * root + 1) < d.size by omega), gi (show first + (2 * root + 1) + 1 < d.size by omega), oS] at t1 ⊢
    rw [hc _ _ (hA.get (by omega)) (hA.get (by omega))]
    simp only [oS]
    have t2 := tail (2 * root + 2) (by omega) (by omega) e6
    rw [e6] at t2
    cases hl : decide (c d[first + (2 * root + 1)]! d[first + (2 * root + 1) + 1]! < 0)
    ·rw [Aw, if_neg (by simp [Cs, hl])]
     exact t1
    ·rw [AN, if_pos (by simp [Cs, h2]; simpa using hl), dif_pos (show 2 * root + 2 < hi by omega)]
     simp only [e6]
     exact t2
   ·rw [AC (by omega), Aw, if_neg (by simp [h2])]
    exact t1
theorem Oh (hc : ∀ x y, P x → P y → cmp (x, y) = some (c x y)) {N a b : Nat} (hab : a ≤ b) (J : List α → Option (List α)) : ∀ (n k : Nat) (d : Array α), k < n → b ≤ d.size → d.size < N → d.size ≤ 100000 → k ≤ 100000 → Dv P d →
  Gs.heapSort_L1 N (a : Int) (b : Int) cmp J n (d.toList, (k : Int) - 1) = J (heapBuild (Cs c) (b - a) a k d).toList ∧ (heapBuild (Cs c) (b - a) a k d).size = d.size ∧ Dv P (heapBuild (Cs c) (b - a) a k d)
 | 0, k, d, h, _, _, _, _, _ => by omega
 | n + 1, k, d, h, hb, hN, hs, hk, hA => by
  rw [Gs.heapSort_L1]
  rcases k with _ | k
  ·rw [AC (by simp only; omega)]
   exact ⟨rfl, rfl, hA⟩
  ·have e0 : (((k + 1 : Nat) : Int) - 1) = (k : Int) := by omega
   simp only [e0]
   rw [AG (by omega)]
   unfold Gs.siftDown
   rw [wn (e := (b : Int) - (a : Int)) (n := b - a) (by omega) (by omega)]
   obtain ⟨e1, e2, e3⟩ := QB hc (N := N) (hi := b - a) (first := a) N k d (by omega) (by omega) hs (by omega) hA (.inr (.inr trivial)) (fun _ => by omega)
   rw [e1]
   simp only [oS, heapBuild]
   have ew : wI .i64 ((k : Int) - 1) = (k : Int) - 1 := CM (by omega) (by omega)
   rw [ew]
   have := Oh hc (N := N) hab J n k (siftDown (Cs c) (b - a) a k d) (by omega) (by omega) (by omega) (by omega) (by omega) e3
   rw [e2] at this
   exact this
theorem RD (hc : ∀ x y, P x → P y → cmp (x, y) = some (c x y)) {N a b : Nat} (hab : a ≤ b) (J : List α → Option (List α)) : ∀ (n k : Nat) (d : Array α), k < n → a + k ≤ d.size → d.size < N → d.size ≤ 100000 → Dv P d →
  Gs.heapSort_L5 N (a : Int) cmp J n (d.toList, (k : Int) - 1) = J (heapPop (Cs c) a k d).toList ∧ (heapPop (Cs c) a k d).size = d.size ∧ Dv P (heapPop (Cs c) a k d)
 | 0, k, d, h, _, _, _, _ => by omega
 | n + 1, k, d, h, hb, hN, hs, hA => by
  rw [Gs.heapSort_L5]
  rcases k with _ | k
  ·rw [AC (by simp only; omega)]
   exact ⟨rfl, rfl, hA⟩
  ·have e0 : (((k + 1 : Nat) : Int) - 1) = (k : Int) := by omega
   have a1 : a + k < d.size := by omega
   have a2 : a < d.size := by omega
   have e1 : wI .i64 ((a : Int) + (k : Int)) = ((a + k : Nat) : Int) := wn (by omega) (by omega)
   simp only [e0, e1]
   rw [AG (by omega)]
   simp only [gi a1, gi a2, oS, Int.toNat_natCast]
   rw [Jv (by simp; omega), ← E8]
   unfold Gs.siftDown
   obtain ⟨f1, f2, f3⟩ := QB hc (N := N) (hi := k) (first := a) N 0 (swp d a (a + k)) (by omega) (by rw [Bs]; omega) (by rw [Bs]; exact hs) (by omega) (hA.swp a2 a1) (.inr (.inr trivial)) (fun _ => by omega)
   have f1' : Gs.siftDown_L1 N (k : Int) (a : Int) cmp (fun v2 => some v2) N ((swp d a (a + k)).toList, 0) = _ := f1
   rw [f1']
   rw [Bs] at f2
   simp only [oS, heapPop]
   have ew : wI .i64 ((k : Int) - 1) = (k : Int) - 1 := CM (by omega) (by omega)
   rw [ew]
   have := RD hc (N := N) hab J n k (siftDown (Cs c) k a 0 (swp d a (a + k))) (by omega) (by omega) (by omega) (by omega) f3
   rw [f2] at this
   exact this
theorem WC (hc : ∀ x y, P x → P y → cmp (x, y) = some (c x y)) {N a b : Nat} {d : Array α} (hab : a < b) (hb : b ≤ d.size) (hN : d.size < N) (hs : d.size ≤ 100000) (hA : Dv P d) :
  Gs.heapSort N d.toList (a : Int) (b : Int) cmp = some (heapSort (Cs c) d a b).toList ∧ (heapSort (Cs c) d a b).size = d.size ∧ Dv P (heapSort (Cs c) d a b) := by
 unfold Gs.heapSort heapSort
 have e1 : wI .i64 (Int.tdiv (wI .i64 ((wI .i64 ((b : Int) - (a : Int))) - 1)) 2) = (((b - a - 1) / 2 + 1 : Nat) : Int) - 1 := by
  rw [wn (e := (b : Int) - (a : Int)) (n := b - a) (by omega) (by omega), wn (e := ((b - a : Nat) : Int) - 1) (n := b - a - 1) (by omega) (by omega)]
  rw [wn (n := (b - a - 1) / 2) (by rw [Int.tdiv_eq_ediv_of_nonneg (by omega)]; omega) (by omega)]
  omega
 have e2 : wI .i64 ((wI .i64 ((b : Int) - (a : Int))) - 1) = (((b - a : Nat) : Int)) - 1 := by
  rw [wn (e := (b : Int) - (a : Int)) (n := b - a) (by omega) (by omega)]
  exact CM (by omega) (by omega)
 rw [e1, e2]
 obtain ⟨f1, f2, f3⟩ := Oh hc (N := N) (a := a) (b := b) (by omega) (fun v2 => Gs.heapSort_L5 N (a : Int) cmp (fun v6 => some v6) N (v2, (((b - a : Nat) : Int)) - 1)) N ((b - a - 1) / 2 + 1) d (by omega) hb hN hs (by omega) hA
 rw [f1]
 obtain ⟨g1, g2, g3⟩ := RD hc (N := N) (a := a) (b := b) (by omega) (fun v6 => some v6) N (b - a) (heapBuild (Cs c) (b - a) a ((b - a - 1) / 2 + 1) d) (by omega) (by omega) (by omega) (by omega) f3
 rw [g1]
 exact ⟨rfl, by rw [g2, f2], g3⟩
end
end Go.Lift
namespace Go.Lift
open IntKind renaming wrap → wI
open Option renaming bind_some → oS
open Go
open Go.Sort (swp scanUp scanDown partLoop partition partEqLoop partitionEqual scanSorted shiftDown shiftUp partialIns partialInsertionSort reverseLoop reverseRange)
section
variable {α : Type} [Inhabited α] {P : α → Prop} {cmp : α × α → Option Int} {c : α → α → Int}
theorem PM (N : Nat) (J : List α → Option (List α)) : ∀ (n i j : Nat) (d : Array α), j - i < n → j < d.size → d.size ≤ 100000 → i ≤ 100000 → Dv P d →
  Gs.reverseRange_L1 N J n (d.toList, (i : Int), (j : Int)) = J (reverseLoop i j d).toList ∧ (reverseLoop i j d).size = d.size ∧ Dv P (reverseLoop i j d)
 | 0, i, j, d, h, _, _, _, _ => by omega
 | n + 1, i, j, d, h, hj, hs, hi, hA => by
  rw [Gs.reverseRange_L1, reverseLoop]
  by_cases hij : i < j
  ·rw [AG (by simp only; omega), if_pos hij]
   simp only [gi hj, gi (show i < d.size by omega), oS, Int.toNat_natCast]
   rw [Jv (by simp; omega), ← E8, wn (e := (i : Int) + 1) (n := i + 1) (by omega) (by omega), wn (e := (j : Int) - 1) (n := j - 1) (by omega) (by omega)]
   have := PM N J n (i + 1) (j - 1) (swp d i j) (by omega) (by rw [Bs]; omega) (by rw [Bs]; exact hs) (by omega) (hA.swp (by omega) hj)
   rw [Bs] at this
   exact this
  ·rw [AC (by simp only; omega), if_neg hij]
   exact ⟨rfl, rfl, hA⟩
theorem YJ {N a b : Nat} {d : Array α} (hab : a < b) (hb : b ≤ d.size) (hN : d.size < N) (hs : d.size ≤ 100000) (hA : Dv P d) :
  Gs.reverseRange N d.toList (a : Int) (b : Int) cmp = some (reverseRange d a b).toList ∧ (reverseRange d a b).size = d.size ∧ Dv P (reverseRange d a b) := by
 unfold Gs.reverseRange reverseRange
 rw [wn (e := (b : Int) - 1) (n := b - 1) (by omega) (by omega)]
 exact PM N (fun v2 => some v2) N a (b - 1) d (by omega) (by omega) hs (by omega) hA
theorem Nl (hc : ∀ x y, P x → P y → cmp (x, y) = some (c x y)) (N b : Nat) {d : Array α} (hb : b ≤ d.size) (hs : d.size ≤ 100000) (hA : Dv P d) (x y : Int) (J : Int → Option (Bool × List α)) : ∀ (n i : Nat), b - i < n → 1 ≤ i → i ≤ 100001 →
  Gs.partialInsertionSort_L5 N (b : Int) cmp (d.toList, x, y) J n (i : Int) = J (scanSorted (Cs c) d b i : Nat)
 | 0, i, h, _, _ => by omega
 | n + 1, i, h, hi, hi2 => by
  rw [Gs.partialInsertionSort_L5, scanSorted]
  simp only [Bf]
  by_cases h1 : i < b
  ·rw [AG (by omega)]
   simp only [wn (e := (i : Int) - 1) (n := i - 1) (by omega) (by omega), gi (show i < d.size by omega), gi (show i - 1 < d.size by omega), oS]
   rw [hc _ _ (hA.get (by omega)) (hA.get (by omega))]
   simp only [oS]
   cases hl : decide (c d[i]! d[i - 1]! < 0)
   ·rw [Bool.not_false, AN, if_pos (by simp [h1, Cs, hl]), wn (e := (i : Int) + 1) (n := i + 1) (by omega) (by omega)]
    exact Nl hc N b hb hs hA x y J n (i + 1) (by omega) (by omega) (by omega)
   ·rw [Bool.not_true, Aw, if_neg (by simp [Cs, hl])]
  ·rw [AC (by omega), Aw, if_neg (by simp [h1])]
theorem KP (lt : α → α → Bool) (d : Array α) (b : Nat) : ∀ (n i : Nat), b - i < n → i ≤ scanSorted lt d b i ∧ (i ≤ b → scanSorted lt d b i ≤ b)
 | 0, i, h => by omega
 | n + 1, i, h => by
  rw [scanSorted]
  by_cases h1 : (decide (i < b) && !lt d[i]! d[i - 1]!) = true
  ·rw [if_pos h1]
   simp only [Bool.and_eq_true, decide_eq_true_eq] at h1
   have := KP lt d b n (i + 1) (by omega)
   omega
  ·rw [if_neg h1]; omega
theorem OT (hc : ∀ x y, P x → P y → cmp (x, y) = some (c x y)) (N : Nat) (J : List α → Option (Bool × List α)) : ∀ (n j : Nat) (d : Array α), j < n → j < d.size → d.size ≤ 100000 → Dv P d →
  Gs.partialInsertionSort_L21 N cmp J n (d.toList, (j : Int)) = J (shiftDown (Cs c) j d).toList ∧ (shiftDown (Cs c) j d).size = d.size ∧ Dv P (shiftDown (Cs c) j d)
 | 0, j, d, h, _, _, _ => by omega
 | n + 1, j, d, h, hj, hs, hA => by
  rw [Gs.partialInsertionSort_L21]
  rcases j with _ | j
  ·rw [AC (by simp)]
   exact ⟨rfl, rfl, hA⟩
  ·rw [AG (by simp only; omega)]
   simp only [wn (e := ((j + 1 : Nat) : Int) - 1) (n := j) (by omega) (by omega), gi hj, gi (show j < d.size by omega), oS, Int.toNat_natCast]
   rw [hc _ _ (hA.get hj) (hA.get (by omega))]
   simp only [oS]
   rw [Jv (by simp; omega), ← E8]
   rw [shiftDown]
   cases hl : decide (c d[j + 1]! d[j]! < 0)
   ·rw [Bool.not_false, AN, if_pos (by simp [Cs, hl])]
    exact ⟨rfl, rfl, hA⟩
   ·rw [Bool.not_true, Aw, if_neg (by simp [Cs, hl])]
    have := OT hc N J n j (swp d (j + 1) j) (by omega) (by rw [Bs]; omega) (by rw [Bs]; exact hs) (hA.swp hj (by omega))
    rw [Bs] at this
    exact this
theorem Rs (hc : ∀ x y, P x → P y → cmp (x, y) = some (c x y)) (N b : Nat) (J : List α → Option (Bool × List α)) : ∀ (n j : Nat) (d : Array α), b - j < n → 1 ≤ j → j ≤ 100001 → b ≤ d.size → d.size ≤ 100000 → Dv P d →
  Gs.partialInsertionSort_L33 N (b : Int) cmp J n (d.toList, (j : Int)) = J (shiftUp (Cs c) b j d).toList ∧ (shiftUp (Cs c) b j d).size = d.size ∧ Dv P (shiftUp (Cs c) b j d)
 | 0, j, d, h, _, _, _, _, _ => by omega
 | n + 1, j, d, h, hj, hj2, hb, hs, hA => by
  rw [Gs.partialInsertionSort_L33, shiftUp]
  by_cases h1 : j < b
  ·rw [AG (by simp only; omega), if_pos h1]
   simp only [wn (e := (j : Int) - 1) (n := j - 1) (by omega) (by omega), gi (show j < d.size by omega), gi (show j - 1 < d.size by omega), oS, Int.toNat_natCast]
   rw [hc _ _ (hA.get (by omega)) (hA.get (by omega))]
   simp only [oS]
   rw [Jv (by simp; omega), ← E8]
   cases hl : decide (c d[j]! d[j - 1]! < 0)
   ·rw [Bool.not_false, AN, if_pos (by simp [Cs, hl])]
    exact ⟨rfl, rfl, hA⟩
   ·rw [Bool.not_true, Aw, if_neg (by simp [Cs, hl]), wn (e := (j : Int) + 1) (n := j + 1) (by omega) (by omega)]
    have := Rs hc N b J n (j + 1) (swp d j (j - 1)) (by omega) (by omega) (by omega) (by rw [Bs]; exact hb) (by rw [Bs]; exact hs) (hA.swp (by omega) (by omega))
    rw [Bs] at this
    exact this
  ·rw [AC (by simp only; omega), if_neg h1]
   exact ⟨rfl, rfl, hA⟩
theorem Ko (hc : ∀ x y, P x → P y → cmp (x, y) = some (c x y)) {N a b : Nat} (J : List α → Option (Bool × List α)) (hJ : ∀ l, J l = some (false, l)) : ∀ (s i : Nat) (n : Nat) (d : Array α), s < n → s ≤ 5 → a < i → i ≤ b → b ≤ d.size → d.size < N → d.size ≤ 100000 → Dv P d →
  Gs.partialInsertionSort_L1 N (a : Int) (b : Int) cmp J n (d.toList, (i : Int), ((5 - s : Nat) : Int)) = some ((partialIns (Cs c) a b s i d).2, (partialIns (Cs c) a b s i d).1.toList) ∧ (partialIns (Cs c) a b s i d).1.size = d.size ∧ Dv P (partialIns (Cs c) a b s i d).1
 | s, i, 0, d, h, _, _, _, _, _, _, _ => by omega
 | 0, i, n + 1, d, h, _, _, _, hb, hN, hs, hA => by
  rw [Gs.partialInsertionSort_L1, AC (by simp), hJ]
  exact ⟨rfl, rfl, hA⟩
 | s + 1, i, n + 1, d, h, h5, hai, hib, hb, hN, hs, hA => by
  rw [Gs.partialInsertionSort_L1, AG (by simp only; omega)]
  simp only [Bf]
  rw [Nl hc N b hb hs hA _ _ _ N i (by omega) (by omega) (by omega)]
  obtain ⟨g1, g2⟩ := KP (Cs c) d b (b + 1) i (by omega)
  have g2 := g2 hib
  unfold partialIns
  simp only
  generalize hk : scanSorted (Cs c) d b i = k at g1 g2
  have e5 : wI .i64 (((5 - (s + 1) : Nat) : Int) + 1) = ((5 - s : Nat) : Int) := wn (by omega) (by omega)
  by_cases h1 : k = b
  ·rw [if_pos h1, show (((k : Nat) : Int) == (b : Int)) = true from beq_iff_eq.2 (by omega), AN]
   exact ⟨rfl, rfl, hA⟩
  ·rw [if_neg h1, show (((k : Nat) : Int) == (b : Int)) = false from beq_eq_false_iff_ne.2 (by omega), Aw, wn (e := (b : Int) - (a : Int)) (n := b - a) (by omega) (by omega)]
   by_cases h2 : b - a < 50
   ·rw [if_pos h2, AG (by omega)]
    exact ⟨rfl, rfl, hA⟩
   ·rw [if_neg h2, AC (by omega)]
    have k1 : k < d.size := by omega
    have k2 : k - 1 < d.size := by omega
    simp only [wn (e := (k : Int) - 1) (n := k - 1) (by omega) (by omega), gi k1, gi k2, oS, Int.toNat_natCast]
    rw [Jv (by simp; omega)]
    simp only [← E8]
    rw [wn (e := (k : Int) - (a : Int)) (n := k - a) (by omega) (by omega), e5]
    have hA1 := hA.swp (i := k) (j := k - 1) k1 k2
    have hs1 := Bs d k (k - 1)
    -- the second shift and the next step
    have fin : ∀ d2 : Array α, d2.size = d.size → Dv P d2 →
      (AW (decide (2 ≤ (wI .i64 ((b : Int) - (k : Int)))))
        (Gs.partialInsertionSort_L33 N (b : Int) cmp (fun v34 => Gs.partialInsertionSort_L1 N (a : Int) (b : Int) cmp J n (v34, (k : Int), ((5 - s : Nat) : Int))) N (d2.toList, (wI .i64 ((k : Int) + 1))))
        (Gs.partialInsertionSort_L1 N (a : Int) (b : Int) cmp J n (d2.toList, (k : Int), ((5 - s : Nat) : Int))) =
       some ((partialIns (Cs c) a b s k (if b - k ≥ 2 then shiftUp (Cs c) b (k + 1) d2 else d2)).2, (partialIns (Cs c) a b s k (if b - k ≥ 2 then shiftUp (Cs c) b (k + 1) d2 else d2)).1.toList)) ∧
       (partialIns (Cs c) a b s k (if b - k ≥ 2 then shiftUp (Cs c) b (k + 1) d2 else d2)).1.size = d.size ∧ Dv P (partialIns (Cs c) a b s k (if b - k ≥ 2 then shiftUp (Cs c) b (k + 1) d2 else d2)).1 := by
     intro d2 z1 z2
     rw [wn (e := (b : Int) - (k : Int)) (n := b - k) (by omega) (by omega), wn (e := (k : Int) + 1) (n := k + 1) (by omega) (by omega)]
     by_cases h3 : b - k ≥ 2
     ·rw [AG (by omega), if_pos h3]
      obtain ⟨f1, f2, f3⟩ := Rs hc N b (fun v34 => Gs.partialInsertionSort_L1 N (a : Int) (b : Int) cmp J n (v34, (k : Int), ((5 - s : Nat) : Int))) N (k + 1) d2 (by omega) (by omega) (by omega) (by omega) (by omega) z2
      rw [f1]
      have := Ko hc (N := N) (a := a) (b := b) J hJ s k n (shiftUp (Cs c) b (k + 1) d2) (by omega) (by omega) (by omega) (by omega) (by omega) (by omega) (by omega) f3
      rw [f2, z1] at this
      exact this
     ·rw [AC (by omega), if_neg h3]
      have := Ko hc (N := N) (a := a) (b := b) J hJ s k n d2 (by omega) (by omega) (by omega) (by omega) (by omega) (by omega) (by omega) z2
      rw [z1] at this
      exact this
    by_cases h4 : k - a ≥ 2
    ·rw [AG (by omega), if_pos h4]
     obtain ⟨f1, f2, f3⟩ := OT hc N (fun v22 => AW (decide (2 ≤ (wI .i64 ((b : Int) - (k : Int)))))
        (Gs.partialInsertionSort_L33 N (b : Int) cmp (fun v34 => Gs.partialInsertionSort_L1 N (a : Int) (b : Int) cmp J n (v34, (k : Int), ((5 - s : Nat) : Int))) N (v22, (wI .i64 ((k : Int) + 1))))
        (Gs.partialInsertionSort_L1 N (a : Int) (b : Int) cmp J n (v22, (k : Int), ((5 - s : Nat) : Int)))) N (k - 1) (swp d k (k - 1)) (by omega) (by omega) (by omega) hA1
     rw [f1]
     exact fin _ (by rw [f2, hs1]) f3
    ·rw [AC (by omega), if_neg h4]
     exact fin _ hs1 hA1
theorem S1 (hc : ∀ x y, P x → P y → cmp (x, y) = some (c x y)) {N a b : Nat} {d : Array α} (hab : a < b) (hb : b ≤ d.size) (hN : d.size < N) (h6 : 6 ≤ N) (hs : d.size ≤ 100000) (hA : Dv P d) :
  Gs.partialInsertionSort N d.toList (a : Int) (b : Int) cmp = some ((partialInsertionSort (Cs c) d a b).2, (partialInsertionSort (Cs c) d a b).1.toList) ∧ (partialInsertionSort (Cs c) d a b).1.size = d.size ∧ Dv P (partialInsertionSort (Cs c) d a b).1 := by
 unfold Gs.partialInsertionSort partialInsertionSort
 rw [wn (e := (a : Int) + 1) (n := a + 1) (by omega) (by omega)]
 exact Ko hc (fun v2 => some (false, v2)) (fun _ => rfl) 5 (a + 1) N d (by omega) (Nat.le_refl _) (by omega) (by omega) hb hN hs hA
end
end Go.Lift
namespace Go.Lift
open Option renaming bind_some → oS
open Go
open Go.Sort (swp scanUp scanDown partLoop partition partEqLoop partitionEqual scanUp_ge scanDown_le scanUp_spec scanDown_spec guard_of)
section
variable {α : Type} [Inhabited α] {P : α → Prop} {cmp : α × α → Option Int} {c : α → α → Int}
theorem XP (hc : ∀ x y, P x → P y → cmp (x, y) = some (c x y)) (N a : Nat) {d : Array α} (ha : a < d.size) (hs : d.size ≤ 100000) (hA : Dv P d) (x : Int) {j : Nat} (hj : j < d.size) (J : Int → Option (Int × List α)) : ∀ (n i : Nat), j + 1 - i < n → i ≤ 100001 →
  Gs.partitionEqual_L7 N (a : Int) cmp (d.toList, x, (j : Int)) J n (i : Int) = J (scanUp (fun x => !Cs c d[a]! x) d j i : Nat)
 | 0, i, h, _ => by omega
 | n + 1, i, h, hi => by
  rw [Gs.partitionEqual_L7, scanUp]
  simp only [Bf]
  by_cases h1 : i ≤ j
  ·rw [AG (by omega)]
   simp only [gi ha, gi (show i < d.size by omega), oS]
   rw [hc _ _ (hA.get ha) (hA.get (by omega))]
   simp only [oS]
   cases hl : decide (c d[a]! d[i]! < 0)
   ·rw [Bool.not_false, AN, if_pos (by simp [h1, Cs, hl]), wn (e := (i : Int) + 1) (n := i + 1) (by omega) (by omega)]
    exact XP hc N a ha hs hA x hj J n (i + 1) (by omega) (by omega)
   ·rw [Bool.not_true, Aw, if_neg (by simp [Cs, hl])]
  ·rw [AC (by omega), Aw, if_neg (by simp [h1])]
theorem TR (hc : ∀ x y, P x → P y → cmp (x, y) = some (c x y)) (N a : Nat) {d : Array α} (ha : a < d.size) (hs : d.size ≤ 100000) (hA : Dv P d) (x y : Int) {i : Nat} (hi : 1 ≤ i) (J : Int → Option (Int × List α)) : ∀ (n j : Nat), j < n → j < d.size →
  Gs.partitionEqual_L15 N (a : Int) cmp (d.toList, x, y) (i : Int) J n (j : Int) = J (scanDown (fun x => Cs c d[a]! x) d i j : Nat)
 | 0, j, h, _ => by omega
 | n + 1, j, h, hj => by
  rw [Gs.partitionEqual_L15]
  simp only [Bf]
  rcases j with _ | j
  ·rw [AC (by omega), Aw]; rfl
  ·rw [scanDown]
   by_cases h1 : i ≤ j + 1
   ·rw [AG (by omega)]
    simp only [gi ha, gi hj, oS]
    rw [hc _ _ (hA.get ha) (hA.get hj)]
    simp only [oS]
    cases hl : decide (c d[a]! d[j + 1]! < 0)
    ·rw [Aw, if_neg (by simp [Cs, hl])]
    ·rw [AN, if_pos (by simp [h1, Cs, hl]), wn (e := ((j + 1 : Nat) : Int) - 1) (n := j) (by omega) (by omega)]
     exact TR hc N a ha hs hA x y hi J n j (by omega) (by omega)
   ·rw [AC (by omega), Aw, if_neg (by simp [h1])]
theorem Tp (hc : ∀ x y, P x → P y → cmp (x, y) = some (c x y)) (N a : Nat) (J : List α × Int → Option (Int × List α)) : ∀ (n i j : Nat) (d : Array α), j + 1 - i < n → a < d.size → d.size + 1 < N → d.size ≤ 100000 → 1 ≤ i → i ≤ j + 2 → j < d.size → Dv P d →
  Gs.partitionEqual_L5 N (a : Int) cmp J n (d.toList, (i : Int), (j : Int)) = J ((partEqLoop (Cs c) a i j d).2.toList, ((partEqLoop (Cs c) a i j d).1 : Int)) ∧ (partEqLoop (Cs c) a i j d).2.size = d.size ∧ Dv P (partEqLoop (Cs c) a i j d).2 ∧ i ≤ (partEqLoop (Cs c) a i j d).1 ∧ ∀ B, i ≤ B → j + 1 ≤ B → (partEqLoop (Cs c) a i j d).1 ≤ B
 | 0, i, j, d, h, _, _, _, _, _, _, _ => by omega
 | n + 1, i, j, d, h, ha, hN, hs, hi, hij, hj, hA => by
  rw [Gs.partitionEqual_L5]
  have u1 := scanUp_ge (fun x => !Cs c d[a]! x) d j i
  have u2 := (scanUp_spec (fun x => !Cs c d[a]! x) d j _ i rfl).2.1
  rw [XP hc N a ha hs hA _ hj _ N i (by omega) (by omega)]
  rw [partEqLoop]
  simp only
  generalize hi2 : scanUp (fun x => !Cs c d[a]! x) d j i = i2 at u1 u2
  have d1 := scanDown_le (fun x => Cs c d[a]! x) d i2 j
  have d2 := (scanDown_spec (fun x => Cs c d[a]! x) d i2 j).2.1
  rw [TR hc N a ha hs hA _ _ (show 1 ≤ i2 by omega) _ N j (by omega) hj]
  generalize hj2 : scanDown (fun x => Cs c d[a]! x) d i2 j = j2 at d1 d2
  by_cases h1 : i2 > j2
  ·rw [if_pos h1, AG (by omega)]
   refine ⟨rfl, rfl, hA, u1, fun B h2 h3 => ?_⟩
   by_cases h4 : i ≤ j + 1
   ·exact Nat.le_trans (u2 h4) h3
   ·rw [Go.Sort.scanUp, if_neg (by simp; omega)] at hi2
    simp only; omega
  ·rw [if_neg h1, AC (by omega), dif_pos (guard_of u1 d1 h1)]
   have k1 : i2 < d.size := by omega
   have k2 : j2 < d.size := by omega
   simp only [gi k1, gi k2, oS, Int.toNat_natCast]
   rw [Jv (by simp; omega)]
   simp only [← E8]
   rw [wn (e := (i2 : Int) + 1) (n := i2 + 1) (by omega) (by omega), wn (e := (j2 : Int) - 1) (n := j2 - 1) (by omega) (by omega)]
   obtain ⟨g1, g2, g3, g4, g5⟩ := Tp hc N a J n (i2 + 1) (j2 - 1) (swp d i2 j2) (by omega) (by rw [Bs]; omega) (by rw [Bs]; omega) (by rw [Bs]; omega) (by omega) (by omega) (by rw [Bs]; omega) (hA.swp k1 k2)
   rw [Bs] at g2
   exact ⟨g1, g2, g3, by omega, fun B h2 h3 => g5 B (by omega) (by omega)⟩
theorem Zo (hc : ∀ x y, P x → P y → cmp (x, y) = some (c x y)) {N a b pv : Nat} {d : Array α} (hab : a < b) (hap : a ≤ pv) (hpb : pv < b) (hb : b ≤ d.size) (hN : d.size + 1 < N) (hs : d.size ≤ 100000) (hA : Dv P d) :
  Gs.partitionEqual N d.toList (a : Int) (b : Int) (pv : Int) cmp = some (((partitionEqual (Cs c) d a b pv).1 : Int), (partitionEqual (Cs c) d a b pv).2.toList) ∧ (partitionEqual (Cs c) d a b pv).2.size = d.size ∧ Dv P (partitionEqual (Cs c) d a b pv).2 ∧ a < (partitionEqual (Cs c) d a b pv).1 ∧ (partitionEqual (Cs c) d a b pv).1 ≤ b := by
 unfold Gs.partitionEqual partitionEqual
 have k1 : a < d.size := by omega
 have k2 : pv < d.size := by omega
 simp only [gi k1, gi k2, oS, Int.toNat_natCast]
 rw [Jv (by simp; omega)]
 simp only [← E8]
 rw [wn (e := (a : Int) + 1) (n := a + 1) (by omega) (by omega), wn (e := (b : Int) - 1) (n := b - 1) (by omega) (by omega)]
 obtain ⟨g1, g2, g3, g4, g5⟩ := Tp hc N a (fun v6 => some (v6.2, v6.1)) N (a + 1) (b - 1) (swp d a pv) (by omega) (by rw [Bs]; omega) (by rw [Bs]; omega) (by rw [Bs]; omega) (by omega) (by omega) (by rw [Bs]; omega) (hA.swp k1 k2)
 rw [Bs] at g2
 exact ⟨g1, g2, g3, by omega, g5 b (by omega) (by omega)⟩
theorem XJ (hc : ∀ x y, P x → P y → cmp (x, y) = some (c x y)) (N a : Nat) {d : Array α} (ha : a < d.size) (hs : d.size ≤ 100000) (hA : Dv P d) (x : Int) {j : Nat} (hj : j < d.size) (J : Int → Option (Int × Bool × List α)) : ∀ (n i : Nat), j + 1 - i < n → i ≤ 100001 →
  Gs.partition_L32 N (a : Int) cmp (d.toList, x, (j : Int)) J n (i : Int) = J (scanUp (fun x => Cs c x d[a]!) d j i : Nat)
 | 0, i, h, _ => by omega
 | n + 1, i, h, hi => by
  rw [Gs.partition_L32, scanUp]
  simp only [Bf]
  by_cases h1 : i ≤ j
  ·rw [AG (by omega)]
   simp only [gi ha, gi (show i < d.size by omega), oS]
   rw [hc _ _ (hA.get (by omega)) (hA.get ha)]
   simp only [oS]
   cases hl : decide (c d[i]! d[a]! < 0)
   ·rw [Aw, if_neg (by simp [Cs, hl])]
   ·rw [AN, if_pos (by simp [h1, Cs, hl]), wn (e := (i : Int) + 1) (n := i + 1) (by omega) (by omega)]
    exact XJ hc N a ha hs hA x hj J n (i + 1) (by omega) (by omega)
  ·rw [AC (by omega), Aw, if_neg (by simp [h1])]
theorem Tr (hc : ∀ x y, P x → P y → cmp (x, y) = some (c x y)) (N a : Nat) {d : Array α} (ha : a < d.size) (hs : d.size ≤ 100000) (hA : Dv P d) (x y : Int) {i : Nat} (hi : 1 ≤ i) (J : Int → Option (Int × Bool × List α)) : ∀ (n j : Nat), j < n → j < d.size →
  Gs.partition_L40 N (a : Int) cmp (d.toList, x, y) (i : Int) J n (j : Int) = J (scanDown (fun x => !Cs c x d[a]!) d i j : Nat)
 | 0, j, h, _ => by omega
 | n + 1, j, h, hj => by
  rw [Gs.partition_L40]
  simp only [Bf]
  rcases j with _ | j
  ·rw [AC (by omega), Aw]; rfl
  ·rw [scanDown]
   by_cases h1 : i ≤ j + 1
   ·rw [AG (by omega)]
    simp only [gi ha, gi hj, oS]
    rw [hc _ _ (hA.get hj) (hA.get ha)]
    simp only [oS]
    cases hl : decide (c d[j + 1]! d[a]! < 0)
    ·rw [Bool.not_false, AN, if_pos (by simp [h1, Cs, hl]), wn (e := ((j + 1 : Nat) : Int) - 1) (n := j) (by omega) (by omega)]
     exact Tr hc N a ha hs hA x y hi J n j (by omega) (by omega)
    ·rw [Bool.not_true, Aw, if_neg (by simp [Cs, hl])]
   ·rw [AC (by omega), Aw, if_neg (by simp [h1])]
theorem To (hc : ∀ x y, P x → P y → cmp (x, y) = some (c x y)) (N a : Nat) (J : List α × Int → Option (Int × Bool × List α)) : ∀ (n i j : Nat) (d : Array α), j + 1 - i < n → a < d.size → d.size + 1 < N → d.size ≤ 100000 → 1 ≤ i → i ≤ j + 2 → j < d.size → Dv P d →
  Gs.partition_L30 N (a : Int) cmp J n (d.toList, (i : Int), (j : Int)) = J ((partLoop (Cs c) a i j d).2.toList, ((partLoop (Cs c) a i j d).1 : Int)) ∧ (partLoop (Cs c) a i j d).2.size = d.size ∧ Dv P (partLoop (Cs c) a i j d).2 ∧ (partLoop (Cs c) a i j d).1 ≤ j ∧ ∀ A, A + 1 ≤ i → A ≤ j → A ≤ (partLoop (Cs c) a i j d).1
 | 0, i, j, d, h, _, _, _, _, _, _, _ => by omega
 | n + 1, i, j, d, h, ha, hN, hs, hi, hij, hj, hA => by
  rw [Gs.partition_L30]
  have u1 := scanUp_ge (fun x => Cs c x d[a]!) d j i
  have u2 := (scanUp_spec (fun x => Cs c x d[a]!) d j _ i rfl).2.1
  rw [XJ hc N a ha hs hA _ hj _ N i (by omega) (by omega)]
  rw [partLoop]
  simp only
  generalize hi2 : scanUp (fun x => Cs c x d[a]!) d j i = i2 at u1 u2
  have d1 := scanDown_le (fun x => !Cs c x d[a]!) d i2 j
  rw [Tr hc N a ha hs hA _ _ (show 1 ≤ i2 by omega) _ N j (by omega) hj]
  generalize hj2 : scanDown (fun x => !Cs c x d[a]!) d i2 j = j2 at d1
  by_cases h1 : i2 > j2
  ·rw [if_pos h1, AG (by omega)]
   refine ⟨rfl, rfl, hA, d1, fun A h2 h3 => ?_⟩
   by_cases h4 : i ≤ j + 1
   ·have := (scanDown_spec (fun x => !Cs c x d[a]!) d i2 j).2.1 (u2 h4)
    rw [hj2] at this
    simp only; omega
   ·have : j2 = j := by
     rw [← hj2]
     rcases j with _ | j
     ·rfl
     ·rw [scanDown, if_neg (by simp; omega)]
    simp only; omega
  ·rw [if_neg h1, AC (by omega), dif_pos (guard_of u1 d1 h1)]
   have k1 : i2 < d.size := by omega
   have k2 : j2 < d.size := by omega
   simp only [gi k1, gi k2, oS, Int.toNat_natCast]
   rw [Jv (by simp; omega)]
   simp only [← E8]
   rw [wn (e := (i2 : Int) + 1) (n := i2 + 1) (by omega) (by omega), wn (e := (j2 : Int) - 1) (n := j2 - 1) (by omega) (by omega)]
   obtain ⟨g1, g2, g3, g4, g5⟩ := To hc N a J n (i2 + 1) (j2 - 1) (swp d i2 j2) (by omega) (by rw [Bs]; omega) (by rw [Bs]; omega) (by rw [Bs]; omega) (by omega) (by omega) (by rw [Bs]; omega) (hA.swp k1 k2)
   rw [Bs] at g2
   exact ⟨g1, g2, g3, by omega, fun A h2 h3 => g5 A (by omega) (by omega)⟩
theorem VN (hc : ∀ x y, P x → P y → cmp (x, y) = some (c x y)) (N a pv b : Nat) {p0 : List α} {v1 v2 : α} {d : Array α} (hd : (p0.set ((a : Int)).toNat v1).set ((pv : Int)).toNat v2 = d.toList) (ha : a < d.size) (hs : d.size ≤ 100000) (hA : Dv P d) (hb : b ≤ d.size) (hb1 : 1 ≤ b) (J : Int → Option (Int × Bool × List α)) : ∀ (n i : Nat), b - i < n → i ≤ 100001 →
  Gs.partition_L5 N p0 (a : Int) (b : Int) (pv : Int) cmp v1 v2 J n (i : Int) = J (scanUp (fun x => Cs c x d[a]!) d (b - 1) i : Nat)
 | 0, i, h, _ => by omega
 | n + 1, i, h, hi => by
  rw [Gs.partition_L5, scanUp]
  simp only [Bf, hd]
  rw [wn (e := (b : Int) - 1) (n := b - 1) (by omega) (by omega)]
  by_cases h1 : i ≤ b - 1
  ·rw [AG (by omega)]
   simp only [gi ha, gi (show i < d.size by omega), oS]
   rw [hc _ _ (hA.get (by omega)) (hA.get ha)]
   simp only [oS]
   cases hl : decide (c d[i]! d[a]! < 0)
   ·rw [Aw, if_neg (by simp [Cs, hl])]
   ·rw [AN, if_pos (by simp [h1, Cs, hl]), wn (e := (i : Int) + 1) (n := i + 1) (by omega) (by omega)]
    exact VN hc N a pv b hd ha hs hA hb hb1 J n (i + 1) (by omega) (by omega)
  ·rw [AC (by omega), Aw, if_neg (by simp [h1])]
theorem RH (hc : ∀ x y, P x → P y → cmp (x, y) = some (c x y)) (N a pv : Nat) {p0 : List α} {v1 v2 : α} {d : Array α} (hd : (p0.set ((a : Int)).toNat v1).set ((pv : Int)).toNat v2 = d.toList) (ha : a < d.size) (hs : d.size ≤ 100000) (hA : Dv P d) {i : Nat} (hi : 1 ≤ i) (J : Int → Option (Int × Bool × List α)) : ∀ (n j : Nat), j < n → j < d.size →
  Gs.partition_L13 N p0 (a : Int) (pv : Int) cmp v1 v2 (i : Int) J n (j : Int) = J (scanDown (fun x => !Cs c x d[a]!) d i j : Nat)
 | 0, j, h, _ => by omega
 | n + 1, j, h, hj => by
  rw [Gs.partition_L13]
  simp only [Bf, hd]
  rcases j with _ | j
  ·rw [AC (by omega), Aw]; rfl
  ·rw [scanDown]
   by_cases h1 : i ≤ j + 1
   ·rw [AG (by omega)]
    simp only [gi ha, gi hj, oS]
    rw [hc _ _ (hA.get hj) (hA.get ha)]
    simp only [oS]
    cases hl : decide (c d[j + 1]! d[a]! < 0)
    ·rw [Bool.not_false, AN, if_pos (by simp [h1, Cs, hl]), wn (e := ((j + 1 : Nat) : Int) - 1) (n := j) (by omega) (by omega)]
     exact RH hc N a pv hd ha hs hA hi J n j (by omega) (by omega)
    ·rw [Bool.not_true, Aw, if_neg (by simp [Cs, hl])]
   ·rw [AC (by omega), Aw, if_neg (by simp [h1])]
theorem ac (hc : ∀ x y, P x → P y → cmp (x, y) = some (c x y)) {N a b pv : Nat} {d0 : Array α} (hab : a < b) (hap : a ≤ pv) (hpb : pv < b) (hb : b ≤ d0.size) (hN : d0.size + 1 < N) (hs : d0.size ≤ 100000) (hA0 : Dv P d0) :
  Gs.partition N d0.toList (a : Int) (b : Int) (pv : Int) cmp = some (((partition (Cs c) d0 a b pv).1 : Int), (partition (Cs c) d0 a b pv).2.1, (partition (Cs c) d0 a b pv).2.2.toList) ∧ (partition (Cs c) d0 a b pv).2.2.size = d0.size ∧ Dv P (partition (Cs c) d0 a b pv).2.2 ∧ a ≤ (partition (Cs c) d0 a b pv).1 ∧ (partition (Cs c) d0 a b pv).1 < b := by
 unfold Gs.partition partition
 have k1 : a < d0.size := by omega
 have k2 : pv < d0.size := by omega
 simp only [gi k1, gi k2, oS]
 have hd : (d0.toList.set ((a : Int)).toNat d0[pv]!).set ((pv : Int)).toNat d0[a]! = (swp d0 a pv).toList := by rw [E8]; rfl
 have hsz := Bs d0 a pv
 have hA := hA0.swp k1 k2
 generalize swp d0 a pv = d at hd hsz hA
 rw [Jv (by simp; omega)]
 simp only [Int.toNat_natCast] at hd ⊢
 rw [wn (e := (a : Int) + 1) (n := a + 1) (by omega) (by omega), wn (e := (b : Int) - 1) (n := b - 1) (by omega) (by omega)]
 have u1 := scanUp_ge (fun x => Cs c x d[a]!) d (b - 1) (a + 1)
 have u2 := (scanUp_spec (fun x => Cs c x d[a]!) d (b - 1) _ (a + 1) rfl).2.1
 rw [VN hc N a pv b (p0 := d0.toList) (by simpa using hd) (by omega) (by omega) hA (by omega) (by omega) _ N (a + 1) (by omega) (by omega)]
 generalize hi2 : scanUp (fun x => Cs c x d[a]!) d (b - 1) (a + 1) = i at u1 u2
 have d1 := scanDown_le (fun x => !Cs c x d[a]!) d i (b - 1)
 rw [RH hc N a pv (p0 := d0.toList) (by simpa using hd) (by omega) (by omega) hA (show 1 ≤ i by omega) _ N (b - 1) (by omega) (by omega)]
 generalize hj2 : scanDown (fun x => !Cs c x d[a]!) d i (b - 1) = j at d1
 have a1 : a < d.size := by omega
 have a2 : j < d.size := by omega
 by_cases h1 : i > j
 ·rw [if_pos h1, AG (by omega)]
  simp only [hd, gi a1, gi a2, oS, Int.toNat_natCast]
  rw [Jv (by simp; omega)]
  simp only [← E8]
  refine ⟨trivial, by rw [Bs]; omega, hA.swp a2 a1, ?_, by omega⟩
  have := (scanDown_spec (fun x => !Cs c x d[a]!) d i (b - 1)).2.1 (u2 (by omega))
  rw [hj2] at this
  omega
 ·rw [if_neg h1, AC (by omega)]
  have a3 : i < d.size := by omega
  simp only [hd, gi a3, gi a2, oS, Int.toNat_natCast]
  rw [Jv (by simp; omega)]
  simp only [← E8]
  rw [wn (e := (i : Int) + 1) (n := i + 1) (by omega) (by omega), wn (e := (j : Int) - 1) (n := j - 1) (by omega) (by omega)]
  obtain ⟨g1, g2, g3, g4, g5⟩ := To hc N a (fun v31 => (Bg v31.1 (a : Int)).bind fun v53 => (Bg v31.1 v31.2).bind fun v54 => (Bg v31.1 v31.2).bind fun _ => (Bg (v31.1.set ((v31.2).toNat) v53) (a : Int)).bind fun _ =>
     some (v31.2, false, (v31.1.set ((v31.2).toNat) v53).set a v54)) N (i + 1) (j - 1) (swp d i j) (by omega) (by rw [Bs]; omega) (by rw [Bs]; omega) (by rw [Bs]; omega) (by omega) (by omega) (by rw [Bs]; omega) (hA.swp a3 a2)
  rw [Bs] at g2
  rw [g1]
  generalize hr : partLoop (Cs c) a (i + 1) (j - 1) (swp d i j) = r at g2 g3 g4 g5
  have b1 : a < r.2.size := by omega
  have b2 : r.1 < r.2.size := by omega
  simp only [gi b1, gi b2, oS, Int.toNat_natCast]
  rw [Jv (by simp; omega)]
  simp only [← E8]
  exact ⟨trivial, by rw [Bs]; omega, g3.swp b2 b1, g5 a (by omega) (by omega), by omega⟩
end
end Go.Lift
