/- Lemmas for WavesOrdersCardSaid, which YtncnphcfgojgmaaDoorFinV7 proves. -/
import Derived.Test.YtncnphcfgojgmaaDoorDec
import Derived.KernelRfl
import Derived.Lib.ItoaLen
namespace Go.Lift
open IntKind renaming wrap → wI
open List renaming getElem?_eq_some_iff → lI
theorem JB {α : Type} (xs : List α) (i : Nat) : BX xs (i : Int) = xs[i]? := by
 unfold BX; simp
theorem F3 {n : Int} (h0 : -9223372036854775808 ≤ n) (h1 : n ≤ 9223372036854775807) : wI .i64 n = n := by
 simp [wI, IntKind.signed, IntKind.bits]; omega
theorem FQ {i : Nat} (h : i < 1000000) : wI .i64 ((i : Int) + 1) = ((i + 1 : Nat) : Int) := by
 rw [F3 (by omega) (by omega)]; simp
@[simp] theorem LK {α : Type} {a b : Option α} : AI true a b = a := rfl
@[simp] theorem Jh {α : Type} {a b : Option α} : AI false a b = b := rfl
theorem GJ {α : Type} {p : Prop} [Decidable p] {a b : Option α} (h : p) : AI (decide p) a b = a := by simp [h]
theorem GI {α : Type} {p : Prop} [Decidable p] {a b : Option α} (h : ¬ p) : AI (decide p) a b = b := by simp [h]
def HH : List Int → List Int → Int
 | [], [] => 0
 | [], _ :: _ => -1
 | _ :: _, [] => 1
 | a :: as1, b :: bs => if a < b then -1 else if b < a then 1 else HH as1 bs
theorem Jp {α : Type} {xs : List α} {i : Nat} {x : α} (h : xs[i]? = some x) : xs.drop i = x :: xs.drop (i + 1) := by
 obtain ⟨hi, rfl⟩ := lI.1 h
 exact List.drop_eq_getElem_cons hi
theorem I3 : ∀ a : List Int, HH a a = 0
 | [] => rfl
 | a :: as1 => by simp [HH, I3 as1]
theorem If : ∀ a b : List Int, HH a b = 0 → a = b
 | [], [], _ => rfl
 | [], _ :: _, h => by simp [HH] at h
 | _ :: _, [], h => by simp [HH] at h
 | a :: as1, b :: bs, h => by
  unfold HH at h
  split at h
  ·omega
  ·split at h
   ·omega
   ·rw [If as1 bs h, show a = b from by omega]
def OO : List Int → Int
 | [] => 0
 | x :: xs => if x = 0 then OO xs else x
def Qt (a : Ah) : Prop := a.fb.length ≤ 8 ∧ a.fa.length ≤ 8 ∧ a.fd.length ≤ 14
def MX (a b : Ah) : Int := OO [HH a.fb b.fb, HH a.fa b.fa, HH a.fd b.fd]
theorem Lm (a : Ah) : MX a a = 0 := by unfold MX; simp [I3, OO]
def OI (m : Ah) (s : Nat) : Int :=
 if 0 ≤ m.fa.getD s 0 then M0 .u8 (ET .u8 1 (m.fb.getD s 0)) (ET .u8 1 (m.fa.getD s 0)) else ET .u8 1 (m.fb.getD s 0)
def HA (t : AA) : Bool := t.fe == 3 || t.fe == 4
@[simp] theorem MP {α β : Type} (k : α) (f : α → β) : BF k f = f k := rfl
@[simp] theorem Mf {p : Prop} [Decidable p] (h : p) : Ec p = some () := by unfold Ec; rw [if_pos h]
theorem FF {β : Type} {p : Prop} [Decidable p] (h : p) (f : Unit → Option β) : (Ec p).bind f = f () := by rw [Mf h]; rfl
def NB {α A : Type} (f : Nat → α → A → A) : Nat → List α → A → A
 | _, [], a => a
 | i, x :: xs, a => NB f (i + 1) xs (f i x a)
def NU (s : Int) (v : Nat) : Bool := s.toNat.testBit v
def OC (m : Ah) (s v : Nat) : Bool := decide (m.fb.getD s 0 = (v : Int)) || decide (m.fa.getD s 0 = (v : Int))
def hC (m : Ah) (t : AA) (v : Nat) (ok : Bool) : Bool := OC m t.fo.toNat v && ok
structure Lb (m x : Ah) : Prop where
 base : x.fb = m.fb
 held : x.fd = m.fd
 len : x.fa.length = m.fa.length
 next : ∀ q, q < m.fa.length → x.fa.getD q 0 = m.fa.getD q 0 ∨ (0 ≤ m.fa.getD q 0 ∧ x.fa.getD q 0 = -1)
theorem Lb.refl (m : Ah) : Lb m m := ⟨rfl, rfl, rfl, fun _ _ => .inl rfl⟩
theorem Lb.trans {a b c : Ah} (h1 : Lb a b) (h2 : Lb b c) : Lb a c :=
 ⟨h2.base.trans h1.base, h2.held.trans h1.held, h2.len.trans h1.len, fun q hq => by
  have e1 := h1.next q hq
  have e2 := h2.next q (by rw [h1.len]; exact hq)
  omega⟩
def Me : Ah := ⟨[], [], []⟩
open Go
structure Qp (x y : AA) : Prop where
 k : y.fe = x.fe
 f : y.fi = x.fi
 t : y.fo = x.fo
 a : y.fq = x.fq
 r : y.fk = x.fk
 l : y.fj.length = x.fj.length
 o : ∀ (u : Nat) (row : List Bool), x.fj[u]? = some row → ∃ row', y.fj[u]? = some row' ∧ row'.length = row.length ∧ ∀ v : Nat, row[v]? = some true → row'[v]? = some true
theorem Qp.st {x y : AA} (h : Qp x y) : HA y = HA x := by unfold HA; rw [h.k]
structure Ot (p : Ag) (m x : Ah) : Prop where
 base : m.fb = x.fb
 next : m.fa = x.fa
 held : ∀ i, i < p.fc.length → ∀ v, NU (m.fd.getD i 0) v = true → NU (x.fd.getD i 0) v = true
theorem Ot.refl (p : Ag) (m : Ah) : Ot p m m := ⟨rfl, rfl, fun _ _ _ h => h⟩
theorem Ot.trans {p : Ag} {a b c : Ah} (h : Ot p a b) (g : Ot p b c) : Ot p a c := ⟨h.base.trans g.base, h.next.trans g.next, fun i hi v hv => g.held i hi v (h.held i hi v hv)⟩
def Pg (s : Ab) : Bool := decide (1 ≤ s.fe ∧ s.fe ≤ 4 ∧ 0 ≤ s.fg ∧ 0 ≤ s.fh) && (s.fe == 1 || s.fh == 0)
def ON (p : Ag) (s : Ab) : Bool :=
 if s.fe = 3 then decide (s.fg < (p.fc.length : Int)) else decide (s.fg < (p.ff.length : Int)) && (s.fe != 1 || decide (s.fh < p.ff.getD s.fg.toNat 0))
def Qu (s : Ab) (t : AA) : Bool := t.fi == s.fg && HA t
def Qv (s : Ab) (i : Nat) (t : AA) (a : List Int) : List Int := if Qu s t = true then a.set i (M0 .u8 (a.getD i 0) (ET .u8 1 s.fh)) else a
def NT (p : Ag) (s : Ab) (held : List Int) : List Int := NB (Qv s) 0 p.fc held
def OR (m : Ah) (t : AA) (u : Nat) : Bool := (t.fk.getD u []).getD (m.fb.getD t.fi.toNat 0).toNat false
def PU (m : Ah) (i : Nat) (t : AA) (u : Nat) : Bool := NU (m.fd.getD i 0) u && !OC m t.fi.toNat u
def Ob (_p : Ag) (m : Ah) (i : Nat) (t : AA) : Bool := t.fe == 4 && (List.range 8).any fun u => PU m i t u && !OR m t u
def N6 (p : Ag) (m : Ah) (s : Ab) : Option Ah :=
 let i := s.fg.toNat
 if s.fe = 1 then (if 0 ≤ m.fa.getD i 0 ∨ m.fb.getD i 0 = s.fh then none else some ⟨m.fb, m.fa.set i s.fh, NT p s m.fd⟩)
 else if s.fe = 3 then match p.fc[i]? with
  | none => none
  | some t => if HA t = false ∨ m.fd.getD i 0 = OI m t.fi.toNat ∨ Ob p m i t = true then none else some ⟨m.fb, m.fa, m.fd.set i (OI m t.fi.toNat)⟩
 else if m.fa.getD i 0 < 0 then none
 else some ⟨if s.fe = 2 then m.fb.set i (m.fa.getD i 0) else m.fb, m.fa.set i (-1), m.fd⟩
def NV (p : Ag) (m : Ah) (s : Ab) : Ah × Int :=
 if Pg s = false then (Me, 1) else if ON p s = false then (Me, 4) else match N6 p m s with
  | none => (Me, 11)
  | some x => (x, 0)
end Go.Lift
namespace Go.Lift
open Go
section clear
variable {p : Ag} {m : Ah} {i : Nat} {t : AA}
end clear
end Go.Lift
namespace Go.Lift
open Go
end Go.Lift
namespace Go.Lift
open Go
section
variable {N : Nat} {p : Ag} {l : List Ab}
end
end Go.Lift
namespace Go.Lift
open Go
end Go.Lift
namespace Go.Lift
namespace Bfs
section
variable {α σ : Type}
def code (rk : σ → Nat) (K : Nat) (w : List σ) : Nat := w.foldl (fun c s => c * K + rk s) 0
def PB (rk : σ → Nat) (K : Nat) (w : List σ) : Prop := ∀ s, s ∈ w → 1 ≤ rk s ∧ rk s ≤ K
theorem PB.snoc {rk : σ → Nat} {K : Nat} {w : List σ} {s : σ} (h : PB rk K w) (hs : 1 ≤ rk s ∧ rk s ≤ K) : PB rk K (w ++ [s]) := by
 intro x hx; rcases List.mem_append.1 hx with h1 | h1
 ·exact h x h1
 ·rw [List.mem_singleton.1 h1]; exact hs
abbrev Nd (α σ : Type) := α × Int × σ
def put [DecidableEq α] (i : Nat) (l : List (Nd α σ)) (q : σ × α) : List (Nd α σ) := if (l.any fun n => decide (n.1 = q.2)) = true then l else l ++ [(q.2, (i : Int), q.1)]
def LH [DecidableEq α] (most i : Nat) : List (σ × α) → List (Nd α σ) → Option (List (Nd α σ))
 | [], l => some l
 | q :: qs, l => if most < (put i l q).length then none else LH most i qs (put i l q)
def go [DecidableEq α] (nxt : α → List (σ × α)) (most : Nat) : Nat → Nat → List (Nd α σ) → Option (List (Nd α σ))
 | 0, _, _ => none
 | n + 1, i, l => match l[i]? with
  | none => some l
  | some nd => (LH most i (nxt nd.1) l).bind fun l' => go nxt most n (i + 1) l'
def run (nxt : α → List (σ × α)) (x : α) : List σ → α → Prop
 | [], y => y = x
 | s :: w, y => ∃ z, (s, z) ∈ nxt x ∧ run nxt z w y
theorem E0 {nxt : α → List (σ × α)} : ∀ {u w : List σ} {x y : α}, run nxt x (u ++ w) y ↔ ∃ z, run nxt x u z ∧ run nxt z w y
 | [], w, x, y => by simp [run]
 | s :: u, w, x, y => by
  simp only [List.cons_append, run]
  constructor
  ·rintro ⟨z, h1, h2⟩
   obtain ⟨z', h3, h4⟩ := E0.1 h2
   exact ⟨z', ⟨z, h1, h3⟩, h4⟩
  ·rintro ⟨z', ⟨z, h1, h3⟩, h4⟩
   exact ⟨z, h1, E0.2 ⟨z', h3, h4⟩⟩
end
end Bfs
end Go.Lift
namespace Go.Lift
open Go
theorem Kj : ∀ {l : List Int}, OO l = 0 → ∀ x, x ∈ l → x = 0
 | [], _, x, hx => by cases hx
 | y :: ys, h, x, hx => by
  unfold OO at h
  split at h
  ·rename_i hy
   rcases List.mem_cons.1 hx with rfl | hx
   ·exact hy
   ·exact Kj h x hx
  ·rename_i hy; exact absurd h hy
theorem Lp {a b : Ah} (h : MX a b = 0) : a = b := by
 have := Kj h
 have h1 := If _ _ (this (HH a.fb b.fb) (by simp))
 have h2 := If _ _ (this (HH a.fa b.fa) (by simp))
 have h3 := If _ _ (this (HH a.fd b.fd) (by simp))
 cases a; cases b; simp only at h1 h2 h3; subst h1; subst h2; subst h3; rfl
instance PL : DecidableEq Ah := fun a b => if h : MX a b = 0 then isTrue (Lp h) else isFalse (fun e => h (by rw [e]; exact Lm b))
end Go.Lift
namespace Go.Lift
open Go
section
variable {N : Nat} {p : Ag} {l : List Ab}
end
end Go.Lift
namespace Go.Lift
open Go
section
variable {α β : Type}
end
section
variable {N : Nat} {p : Ag} {m e : Ah}
end
end Go.Lift
namespace Go.Lift
open Go
section
variable {p : Ag} {m : Ah} {l : List Ab}
end
theorem Jq : BT 1000 = some true := by show _ = _; kernel_rfl
end Go.Lift
namespace Go.Lift
open Option renaming bind_some → oS
open List renaming mem_of_getElem? → lM
open Go
def gW : Nat → Nat → Int → Int
 | 0, _, A => A
 | c + 1, i, A => gW c (i + 1) (A * ((i + 1 : Nat) : Int))
def hW : List (List Ab) → Int → Int
 | [], A => A
 | w :: ws, A => hW ws (gW w.length 0 A)
abbrev BU : Int := 1000000000000000
theorem Ki : ∀ (c i : Nat) (A : Int), 1 ≤ A → A ≤ gW c i A
 | 0, _, A, _ => Int.le_refl A
 | c + 1, i, A, h => by
  have h1 : A * 1 ≤ A * ((i + 1 : Nat) : Int) := Int.mul_le_mul_of_nonneg_left (by omega) (by omega)
  exact Int.le_trans (by omega) (Ki c (i + 1) _ (by omega))
theorem Nm : ∀ (l : List (List Ab)) (A : Int), 1 ≤ A → A ≤ hW l A
 | [], A, _ => Int.le_refl A
 | w :: ws, A, h => by
  have := Ki w.length 0 A h
  exact Int.le_trans this (Nm ws _ (by omega))
theorem ME (a b : Int) : IJ a b = min a b := by unfold IJ; split <;> omega
theorem Ng {A k : Int} (hA : 1 ≤ A) (hk : 1 ≤ k) : min BU (min BU A * k) = min BU (A * k) := by
 by_cases h : A ≤ BU
 ·rw [Int.min_eq_right h]
 ·have h1 : min BU A = BU := Int.min_eq_left (by omega)
  have h2 : BU * 1 ≤ BU * k := Int.mul_le_mul_of_nonneg_left hk (by decide)
  have h3 : A * 1 ≤ A * k := Int.mul_le_mul_of_nonneg_left hk (by omega)
  rw [h1, Int.min_eq_left (by omega), Int.min_eq_left (by omega)]
theorem LW {N : Nat} (w : List Ab) (hw : w.length ≤ 25) (j : Int → Option Int) : ∀ (n i : Nat) (A : Int), i ≤ w.length → w.length - i < n → 1 ≤ A →
  Bl N w j n (min BU A, (i : Int)) = j (min BU (gW (w.length - i) i A))
 | 0, i, A, _, h, _ => by omega
 | n + 1, i, A, hi, h, hA => by
  rw [Bl]
  by_cases hlt : i < w.length
  ·obtain ⟨c, hc⟩ : ∃ c, w.length - i = c + 1 := ⟨w.length - i - 1, by omega⟩
   rw [GJ (by simp only; omega), hc, gW]
   simp only [FQ (show i < 1000000 by omega)]
   have e1 : IJ ((i + 1 : Nat) : Int) 1000 = ((i + 1 : Nat) : Int) := by unfold IJ; rw [if_neg (by omega)]
   have hM : BU = 1000000000000000 := rfl
   have h0 : 0 ≤ min BU A := by omega
   have h1 : min BU A ≤ BU := Int.min_le_left _ _
   have hm1 : min BU A * ((i + 1 : Nat) : Int) ≤ BU * ((i + 1 : Nat) : Int) := Int.mul_le_mul_of_nonneg_right h1 (by omega)
   have hm2 : BU * ((i + 1 : Nat) : Int) ≤ BU * 25 := Int.mul_le_mul_of_nonneg_left (by omega) (by decide)
   have hm0 : 0 ≤ min BU A * ((i + 1 : Nat) : Int) := Int.mul_nonneg h0 (by omega)
   have hm3 : BU * 25 = 25000000000000000 := by decide
   have hA2 : A * 1 ≤ A * ((i + 1 : Nat) : Int) := Int.mul_le_mul_of_nonneg_left (by omega) (by omega)
   rw [e1, F3 (by omega) (by omega), ME]
   show Bl N w j n (min BU (min BU A * ((i + 1 : Nat) : Int)), ((i + 1 : Nat) : Int)) = _
   rw [Ng hA (by omega), LW w hw j n (i + 1) _ (by omega) (by omega) (by omega)]
   congr 4
   omega
  ·rw [GI (by simp only; omega), show w.length - i = 0 by omega]; rfl
theorem KT {N : Nat} (hN : 100 ≤ N) (l : List (List Ab)) (hl : l.length ≤ 30) (hw : ∀ w, w ∈ l → w.length ≤ 25) : ∀ (n i : Nat) (A : Int), i ≤ l.length → l.length - i < n → 1 ≤ A →
  Bn N l (fun v2 => some v2) n (min BU A, (i : Int)) = some (min BU (hW (l.drop i) A))
 | 0, i, A, _, h, _ => by omega
 | n + 1, i, A, hi, h, hA => by
  rw [Bn]
  by_cases hlt : i < l.length
  ·have hx : l[i]? = some l[i] := by simp [hlt]
   have hwl := hw _ (lM hx)
   rw [GJ (by simp only; omega), Jp hx, hW]
   simp only [JB, hx, oS, FQ (show i < 1000000 by omega)]
   have e := LW (N := N) l[i] hwl (fun v6 => Bn N l (fun v2 => some v2) n (v6, ((i + 1 : Nat) : Int))) N 0 A (Nat.zero_le _) (by omega) hA
   refine Eq.trans e ?_
   rw [Nat.sub_zero]
   have := Ki l[i].length 0 A hA
   exact KT hN l hl hw n (i + 1) _ (by omega) (by omega) (by omega)
  ·rw [GI (by simp only; omega), List.drop_eq_nil_of_le (by omega)]; rfl
theorem IF {N : Nat} (l : List (List Ab)) (q : Nat) (w : List Ab) (hq : l[q]? = some w) (hw : w.length ≤ 25) (B : Int) (j : Int → Option Int) : ∀ (n i : Nat) (A : Int), 1 ≤ i → i ≤ w.length + 1 → w.length + 1 - i < n → 1 ≤ A → A ≤ BU →
  A5 N l (B, (q : Int)) j n (A, ((i + 1 : Nat) : Int)) = if gW (w.length - i) i A ≤ BU then j (gW (w.length - i) i A) else some BU
 | 0, i, A, _, _, h, _, _ => by omega
 | n + 1, i, A, h1, hi, h, hA, hA2 => by
  rw [A5]
  have hM : BU = 1000000000000000 := rfl
  simp only [JB, hq, oS]
  by_cases hlt : i + 1 ≤ w.length
  ·obtain ⟨c, hc⟩ : ∃ c, w.length - i = c + 1 := ⟨w.length - i - 1, by omega⟩
   have hk : (0 : Int) < ((i + 1 : Nat) : Int) := by omega
   rw [GJ (by omega), FF (by omega), hc, gW]
   have hd0 : 0 ≤ Int.tdiv 1000000000000000 ((i + 1 : Nat) : Int) := Int.tdiv_nonneg (by decide) (by omega)
   have hd1 : Int.tdiv 1000000000000000 ((i + 1 : Nat) : Int) ≤ 1000000000000000 := by
    rw [Int.tdiv_eq_ediv_of_nonneg (by decide)]
    exact Int.ediv_le_self _ (by decide)
   rw [F3 (by omega) (by omega)]
   have hdiv : Int.tdiv 1000000000000000 ((i + 1 : Nat) : Int) < A ↔ BU < A * ((i + 1 : Nat) : Int) := by
    rw [Int.tdiv_eq_ediv_of_nonneg (by decide)]
    exact Int.ediv_lt_iff_lt_mul hk
   have hA3 : A * 1 ≤ A * ((i + 1 : Nat) : Int) := Int.mul_le_mul_of_nonneg_left (by omega) (by omega)
   have hle := Ki c (i + 1) (A * ((i + 1 : Nat) : Int)) (by omega)
   by_cases hbig : BU < A * ((i + 1 : Nat) : Int)
   ·rw [GJ (hdiv.2 hbig), if_neg (by omega)]
   ·have hmm : 0 ≤ A * ((i + 1 : Nat) : Int) := by omega
    rw [GI (fun q => hbig (hdiv.1 q)), F3 (by omega) (by omega), FQ (by omega)]
    have := IF (N := N) l q w hq hw B j n (i + 1) (A * ((i + 1 : Nat) : Int)) (by omega) (by omega) (by omega) (by omega) (by omega)
    rw [show w.length - (i + 1) = c by omega] at this
    exact this
  ·rw [GI (by omega), show w.length - i = 0 by omega, gW, if_pos hA2]
theorem HR {N : Nat} (hN : 100 ≤ N) (l : List (List Ab)) (hl : l.length ≤ 30) (hw : ∀ w, w ∈ l → w.length ≤ 25) : ∀ (n i : Nat) (A : Int), i ≤ l.length → l.length - i < n → 1 ≤ A → A ≤ BU →
  AU N l (fun v2 => some v2) n (A, (i : Int)) = some (min BU (hW (l.drop i) A))
 | 0, i, A, _, h, _, _ => by omega
 | n + 1, i, A, hi, h, hA, hA2 => by
  rw [AU]
  by_cases hlt : i < l.length
  ·have hx : l[i]? = some l[i] := by simp [hlt]
   have hwl := hw _ (lM hx)
   rw [GJ (by simp only; omega), Jp hx, hW]
   simp only [FQ (show i < 1000000 by omega)]
   have e := IF (N := N) l i l[i] hx hwl A (fun v5 => AU N l (fun v2 => some v2) n (v5, ((i + 1 : Nat) : Int))) N 1 A (by omega) (by omega) (by omega) hA hA2
   refine Eq.trans e ?_
   have eg : gW (l[i].length - 1) 1 A = gW l[i].length 0 A := by
    cases hq : l[i].length with
    | zero => rfl
    | succ k => rw [gW]; simp
   rw [eg]
   have h1 := Ki l[i].length 0 A hA
   have h2 := Nm (l.drop (i + 1)) (gW l[i].length 0 A) (by omega)
   by_cases hb : gW l[i].length 0 A ≤ BU
   ·rw [if_pos hb]
    exact HR hN l hl hw n (i + 1) _ (by omega) (by omega) (by omega) hb
   ·rw [if_neg hb, Int.min_eq_left (by omega)]
  ·rw [GI (by simp only; omega), List.drop_eq_nil_of_le (by omega), hW, Int.min_eq_right hA2]
theorem Jj {N : Nat} (xs : List Int) (hx : xs.length ≤ 30) (wx : Pm O6 xs) (j : List (List Ab) → Option Bool) (hj : ∀ l : List (List Ab), l.length ≤ 30 → (∀ w, w ∈ l → w.length ≤ 25) → j l = some true) : ∀ (n i : Nat) (a : List (List Ab)), i ≤ xs.length → xs.length - i < n → a.length ≤ i → (∀ w, w ∈ a → w.length ≤ 25) →
  AQ N xs j n (a, (i : Int)) = some true
 | 0, i, a, _, h, _, _ => by omega
 | n + 1, i, a, hi, h, ha, hw => by
  rw [AQ]
  by_cases hlt : i < xs.length
  ·have hy : xs[i]? = some xs[i] := by simp [hlt]
   have hu : (Lit.int .u8 xs[i]).wf = true := wx _ (List.getElem_mem hlt)
   simp [Lit.wf, IntKind.min, IntKind.max, IntKind.signed, IntKind.bits] at hu
   have h1 : 0 ≤ Int.tmod xs[i] 26 ∧ Int.tmod xs[i] 26 < 26 := ⟨Int.tmod_nonneg _ hu.1, Int.tmod_lt_of_pos _ (by decide)⟩
   rw [GJ (by simp only; omega)]
   simp only [JB, hy, oS, FQ (show i < 1000000 by omega)]
   rw [FF ⟨h1.1, Int.le_refl _, by simp [Gd]; omega⟩, FF (by simp [Gd]; omega)]
   refine Jj xs hx wx j hj n (i + 1) _ (by omega) (by omega) (by simp; omega) fun w hm => ?_
   rcases List.mem_append.1 hm with q | q
   ·exact hw w q
   ·rw [List.mem_singleton] at q; rw [q, List.length_replicate]; omega
  ·rw [GI (by simp only; omega)]
   exact hj a (by omega) hw
theorem Hh (xs : List Int) (wx : Pm O6 xs) : Bd 1000 xs = some true := by
 unfold Bd
 simp only [MP, Jq, oS, Bool.not_true, Jh]
 by_cases h : (30 : Int) < (xs.length : Int)
 ·rw [decide_eq_true h, LK]
 rw [decide_eq_false h, Jh]
 refine Jj (N := 1000) xs (by omega) wx _ (fun l hl hw => ?_) 1000 0 [] (Nat.zero_le _) (by omega) (Nat.zero_le _) (fun w hw => by cases hw)
 have e1 : B1 1000 l = some (min BU (hW l 1)) := by
  unfold B1
  have := KT (N := 1000) (by omega) l hl hw 1000 0 1 (Nat.zero_le _) (by omega) (by omega)
  rw [List.drop_zero] at this
  exact this
 have e2 : BK 1000 l = some (min BU (hW l 1)) := by
  unfold BK
  have := HR (N := 1000) (by omega) l hl hw 1000 0 1 (Nat.zero_le _) (by omega) (by omega) (by decide)
  rw [List.drop_zero] at this
  exact this
 show (B1 1000 l).bind _ = _
 rw [e1, oS, e2, oS, beq_self_eq_true]
end Go.Lift
