/- Lemmas for RefuseBorderSaid, which YtpaobkaighpaaaaGreatFinR5 proves. -/
import Derived.Test.YtpaobkaighpaaaaGreatMSort6
import Derived.KernelRfl
namespace Go.Lift
open IntKind renaming wrap → wI
open Go
variable {α : Type}
def Gs.compact_L11 (z : α) (N : Nat) (p0 : List α) (p1 : (α × α) → Option Bool) (v2 : Int) (j11 : ((List α) × Int) → Option (Nat × (List α))) : Nat → ((List α) × Int × Int) → Option (Nat × (List α))
 | 0, _ => none
 | n11 + 1, v11 =>
  AW ((decide (v11.2.2 < ((((p0.length - (v2).toNat)) : Nat) : Int))))
   (Bi (fun (v14 : (List α) × Int) =>
    Gs.compact_L11 z N p0 p1 v2 j11 n11 (v14.1, v14.2, (wI .i64 (v11.2.2 + 1))))
   fun j14 =>
   (DN (((v2).toNat) + ((p0.length - (v2).toNat)) ≤ v11.1.length)).bind fun _ =>
   (Bf (((v11.1.drop ((v2).toNat)).take ((p0.length - (v2).toNat)))) v11.2.2).bind fun v15 =>
   (Bf (((v11.1.drop ((v2).toNat)).take ((p0.length - (v2).toNat)))) ((wI .i64 (v11.2.2 - 1)))).bind fun v17 =>
   (p1 ((v15, v17))).bind fun v18 =>
   AW ((!v18))
    ((Bf (((v11.1.drop ((v2).toNat)).take ((p0.length - (v2).toNat)))) v11.2.2).bind fun v20 =>
    (Bf v11.1 v11.2.1).bind fun _ =>
    j14 (v11.1.set ((v11.2.1).toNat) v20, (wI .i64 (v11.2.1 + 1))))
    (j14 (v11.1, v11.2.1)))
   (j11 (v11.1, v11.2.1))
def Gs.compact_L2 (z : α) (N : Nat) (p0 : List α) (p1 : (α × α) → Option Bool) (j2 : Unit → Option (Nat × (List α))) : Nat → Int → Option (Nat × (List α))
 | 0, _ => none
 | n2 + 1, v2 =>
  AW ((decide (v2 < (p0.length : Int))))
   ((Bf p0 v2).bind fun v5 =>
   (Bf p0 ((wI .i64 (v2 - 1)))).bind fun v6 =>
   (p1 ((v5, v6))).bind fun v7 =>
   AW v7
    ((DN ((0 : Int) ≤ v2 ∧ (v2).toNat ≤ p0.length ∧ p0.length ≤ p0.length)).bind fun _ =>
    Gs.compact_L11 z N p0 p1 v2 (fun (v12 : (List α) × Int) =>
     (DN ((0 : Int) ≤ v12.2 ∧ (v12.2).toNat ≤ v12.1.length ∧ v12.1.length ≤ v12.1.length)).bind fun _ =>
     (DN ((0 : Int) ≤ v12.2 ∧ 0 ≤ (v12.2).toNat ∧ (v12.2).toNat ≤ (H5 v12.1 ((v12.2).toNat) (List.replicate ((v12.1.length - (v12.2).toNat)) (z))).length)).bind fun _ =>
     some ((v12.2).toNat, H5 v12.1 ((v12.2).toNat) (List.replicate ((v12.1.length - (v12.2).toNat)) (z)))) N (p0, v2, 1))
    (Gs.compact_L2 z N p0 p1 j2 n2 (wI .i64 (v2 + 1))))
   (j2 ())
def Gs.compact (z : α) (N : Nat) (p0 : List α) (p1 : (α × α) → Option Bool) : Option (Nat × (List α)) :=
 AW ((decide ((p0.length : Int) < 2)))
  (some (p0.length, p0))
  (Gs.compact_L2 z N p0 p1 (fun (_ : Unit) =>
   some (p0.length, p0)) N 1)
end Go.Lift
namespace Go.Lift
open Option renaming bind_some → oS
open List renaming mem_of_getElem? → lM
open Go
section
variable {α : Type} {c : α → α → Int}
def Gd (c : α → α → Int) (l : List α) (r : List α) (j : Nat) : Prop := IV c r ∧ ∀ x, x ∈ r ↔ x ∈ l.take (j + 1)
theorem SR {l r : List α} {j : Nat} (h : Gd c l r j) (hj : j + 1 < l.length) (e : l[j + 1] = l[j]) : Gd c l r (j + 1) := by
 refine ⟨h.1, fun x => ?_⟩
 rw [List.take_succ_eq_append_getElem hj, List.mem_append, ← h.2 x, List.mem_singleton, e]
 constructor
 ·exact .inl
 ·rintro (h1 | rfl)
  ·exact h1
  ·exact (h.2 _).2 (List.mem_take_iff_getElem.2 ⟨j, by omega, rfl⟩)
theorem SN (O : JM c) (h0 : ∀ x y, c x y = 0 → x = y) {l r : List α} {j : Nat} (hs : l.Pairwise (fun x y => c x y ≤ 0)) (h : Gd c l r j) (hj : j + 1 < l.length) (e : l[j + 1] ≠ l[j]) : Gd c l (r ++ [l[j + 1]]) (j + 1) := by
 rw [List.pairwise_iff_getElem] at hs
 refine ⟨List.pairwise_append.2 ⟨h.1, List.pairwise_singleton _ _, fun x hx y hy => ?_⟩, fun x => ?_⟩
 ·rw [List.mem_singleton.1 hy]
  obtain ⟨i, hi, rfl⟩ := List.mem_take_iff_getElem.1 ((h.2 x).1 hx)
  have h1 : c l[j] l[j + 1] < 0 := by
   have := hs j (j + 1) (by omega) hj (by omega)
   by_cases q : c l[j] l[j + 1] = 0
   ·exact absurd (h0 _ _ q).symm e
   ·omega
  by_cases q : i = j
  ·subst q; exact h1
  ·exact O.lt2 (hs i j (by omega) (by omega) (by omega)) h1
 ·rw [List.take_succ_eq_append_getElem hj, List.mem_append, List.mem_append, h.2 x]
variable {P : α → Prop} {eq : α × α → Option Bool} {b : α → α → Bool}
theorem P0 (O : JM c) (h0 : ∀ x y, c x y = 0 → x = y) (z : α) (hc : ∀ x y, P x → P y → eq (x, y) = some (b x y)) (hb : ∀ x y, b x y = true ↔ x = y) (N : Nat) (l : List α) (hl : l.length ≤ 1000) (hP : ∀ x, x ∈ l → P x) (hs : l.Pairwise (fun x y => c x y ≤ 0)) (i0 : Nat) (h1 : 1 ≤ i0) (h2 : i0 < l.length) (J : List α × Int → Option (Nat × List α)) :
  ∀ (n q k : Nat) (a : List α), l.length - q < n → i0 < q → q ≤ l.length → k + 1 ≤ q → a.length = l.length → Gd c l (a.take k) (q - 1) → a.drop (q - 1) = l.drop (q - 1) →
  ∃ (a' : List α) (k' : Nat), Gs.compact_L11 z N l eq (i0 : Int) J n (a, (k : Int), ((q - i0 : Nat) : Int)) = J (a', (k' : Int)) ∧ a'.length = l.length ∧ k' ≤ l.length ∧ Gd c l (a'.take k') (l.length - 1)
 | 0, q, k, a, h, _, _, _, _, _, _ => by omega
 | n + 1, q, k, a, h, hq, hql, hk, ha, hg, hd => by
  rw [Gs.compact_L11]
  simp only [Be, Int.toNat_natCast]
  have at_ : ∀ p, q - 1 ≤ p → p < l.length → a[p]? = l[p]? := by
   intro p hp hpl
   have : (a.drop (q - 1))[p - (q - 1)]? = (l.drop (q - 1))[p - (q - 1)]? := by rw [hd]
   rw [List.getElem?_drop, List.getElem?_drop, show q - 1 + (p - (q - 1)) = p by omega] at this
   exact this
  by_cases h3 : q < l.length
  ·rw [AK (by omega), AD (by omega)]
   have hx : l[q]? = some l[q] := by simp [h3]
   have hy : l[q - 1]? = some l[q - 1] := by simp <;> omega
   have ix : ∀ p, i0 ≤ p → q - 1 ≤ p → p < l.length → Bf ((a.drop i0).take (l.length - i0)) ((p - i0 : Nat) : Int) = l[p]? := by
    intro p g1 g2 g3
    rw [Bn, List.getElem?_take_of_lt (by omega), List.getElem?_drop, show i0 + (p - i0) = p by omega]
    exact at_ p g2 g3
   rw [CM (n := ((q - i0 : Nat) : Int) - 1) (by omega) (by omega), show (((q - i0 : Nat) : Int) - 1) = ((q - 1 - i0 : Nat) : Int) by omega, ix q (by omega) (by omega) h3, ix (q - 1) (by omega) (by omega) (by omega), hx, hy]
   simp only [oS]
   rw [hc _ _ (hP _ (lM hx)) (hP _ (lM hy))]
   simp only [oS]
   rw [CM (n := ((q - i0 : Nat) : Int) + 1) (by omega) (by omega), show (((q - i0 : Nat) : Int) + 1) = ((q + 1 - i0 : Nat) : Int) by omega]
   have eq1 : q - 1 + 1 = q := by omega
   by_cases e : l[q] = l[q - 1]
   ·rw [(hb _ _).2 e, Bool.not_true, Ax]
    refine P0 O h0 z hc hb N l hl hP hs i0 h1 h2 J n (q + 1) k a (by omega) (by omega) (by omega) (by omega) ha ?_ ?_
    ·have := SR (j := q - 1) hg (by omega) (by simp only [eq1]; exact e)
     rw [eq1] at this; exact this
    ·show a.drop q = l.drop q
     rw [← eq1, ← List.drop_drop, ← List.drop_drop, hd]
   ·have hbf : b l[q] l[q - 1] = false := by
     cases hh : b l[q] l[q - 1] with
     | false => rfl
     | true => exact absurd ((hb _ _).1 hh) e
    rw [hbf, Bool.not_false, AN]
    rw [Bn, show a[k]? = some a[k] from by simp <;> omega]
    simp only [oS]
    rw [AZ (by omega)]
    refine P0 O h0 z hc hb N l hl hP hs i0 h1 h2 J n (q + 1) (k + 1) (a.set k l[q]) (by omega) (by omega) (by omega) (by omega) (by simp [ha]) ?_ ?_
    ·have := SN O h0 hs (j := q - 1) hg (by omega) (by simp only [eq1]; exact e)
     simp only [eq1] at this
     rw [List.take_succ_eq_append_getElem (by simp; omega), List.take_set_of_le (by omega), List.getElem_set_self]
     exact this
    ·show (a.set k l[q]).drop q = l.drop q
     rw [List.drop_set_of_lt (by omega), ← eq1, ← List.drop_drop, ← List.drop_drop, hd]
  ·rw [AH (by omega)]
   have : q = l.length := by omega
   subst this
   exact ⟨a, k, rfl, ha, by omega, hg⟩
theorem QC (O : JM c) (h0 : ∀ x y, c x y = 0 → x = y) (z : α) (hc : ∀ x y, P x → P y → eq (x, y) = some (b x y)) (hb : ∀ x y, b x y = true ↔ x = y) (N : Nat) (hN : 1010 ≤ N) (l : List α) (hl : l.length ≤ 1000) (hP : ∀ x, x ∈ l → P x) (hs : l.Pairwise (fun x y => c x y ≤ 0)) :
  ∀ (n i : Nat), l.length - i < n → 1 ≤ i → i ≤ l.length → Gd c l (l.take i) (i - 1) →
  ∃ (k : Nat) (r : List α), Gs.compact_L2 z N l eq (fun _ => some (l.length, l)) n (i : Int) = some (k, r) ∧ k ≤ r.length ∧ Gd c l (r.take k) (l.length - 1)
 | 0, i, h, _, _, _ => by omega
 | n + 1, i, h, h1, h2, hg => by
  rw [Gs.compact_L2]
  by_cases h3 : i < l.length
  ·have hx : l[i]? = some l[i] := by simp [h3]
   have hy : l[i - 1]? = some l[i - 1] := by simp <;> omega
   have eq1 : i - 1 + 1 = i := by omega
   rw [AK (by omega), CM (n := (i : Int) - 1) (by omega) (by omega), show ((i : Int) - 1) = ((i - 1 : Nat) : Int) by omega]
   simp only [Bn, hx, hy, oS]
   rw [hc _ _ (hP _ (lM hx)) (hP _ (lM hy))]
   simp only [oS, Int.toNat_natCast]
   by_cases e : l[i] = l[i - 1]
   ·rw [(hb _ _).2 e, AN, AD (by omega)]
    have hg2 : Gd c l (l.take i) i := by
     have := SR (j := i - 1) hg (by omega) (by simp only [eq1]; exact e)
     rw [eq1] at this; exact this
    obtain ⟨a', k', e1, e2, e3, e4⟩ := P0 O h0 z hc hb N l hl hP hs i h1 h3 (fun (v12 : (List α) × Int) =>
     (DN ((0 : Int) ≤ v12.2 ∧ (v12.2).toNat ≤ v12.1.length ∧ v12.1.length ≤ v12.1.length)).bind fun _ =>
     (DN ((0 : Int) ≤ v12.2 ∧ 0 ≤ (v12.2).toNat ∧ (v12.2).toNat ≤ (H5 v12.1 ((v12.2).toNat) (List.replicate ((v12.1.length - (v12.2).toNat)) (z))).length)).bind fun _ =>
     some ((v12.2).toNat, H5 v12.1 ((v12.2).toNat) (List.replicate ((v12.1.length - (v12.2).toNat)) (z)))) N (i + 1) i l (by omega) (by omega) (by omega) (by omega) rfl hg2 rfl
    rw [show ((i + 1 - i : Nat) : Int) = 1 by omega] at e1
    rw [e1]
    simp only [Int.toNat_natCast]
    have hsp : (H5 a' k' (List.replicate (a'.length - k') z)).take k' = a'.take k' ∧ k' ≤ (H5 a' k' (List.replicate (a'.length - k') z)).length := by
     unfold H5
     constructor
     ·simp only [List.append_assoc]
      rw [List.take_append_of_le_length (by simp; omega), List.take_take, Nat.min_self]
     ·simp; omega
    rw [AD (by omega), AD (by omega)]
    exact ⟨k', _, rfl, hsp.2, by rw [hsp.1]; exact e4⟩
   ·have hbf : b l[i] l[i - 1] = false := by
     cases hh : b l[i] l[i - 1] with
     | false => rfl
     | true => exact absurd ((hb _ _).1 hh) e
    rw [hbf, Ax, AZ (by omega)]
    refine QC O h0 z hc hb N hN l hl hP hs n (i + 1) (by omega) (by omega) (by omega) ?_
    have := SN O h0 hs (j := i - 1) hg (by omega) (by simp only [eq1]; exact e)
    simp only [eq1] at this
    rw [List.take_succ_eq_append_getElem h3]
    exact this
  ·rw [AH (by omega)]
   have : i = l.length := by omega
   subst this
   exact ⟨_, _, rfl, Nat.le_refl _, hg⟩
theorem Tl (O : JM c) (h0 : ∀ x y, c x y = 0 → x = y) (z : α) (hc : ∀ x y, P x → P y → eq (x, y) = some (b x y)) (hb : ∀ x y, b x y = true ↔ x = y) {N : Nat} (hN : 1010 ≤ N) (l : List α) (hl : l.length ≤ 1000) (hP : ∀ x, x ∈ l → P x) (hs : l.Pairwise (fun x y => c x y ≤ 0)) :
  ∃ (k : Nat) (r : List α), Gs.compact z N l eq = some (k, r) ∧ k ≤ r.length ∧ IV c (r.take k) ∧ ∀ x, x ∈ r.take k ↔ x ∈ l := by
 unfold Gs.compact
 match l, hl, hP, hs with
 | [], _, _, _ => exact ⟨0, [], rfl, Nat.le_refl _, by simp, by simp⟩
 | [x], _, _, _ => exact ⟨1, [x], rfl, Nat.le_refl _, by simp, by simp⟩
 | x :: y :: l, hl, hP, hs =>
  rw [AH (by simp; omega)]
  obtain ⟨k, r, e1, e2, e3, e4⟩ := QC O h0 z hc hb N hN (x :: y :: l) hl hP hs N 1 (by omega) (by omega) (by simp) ⟨by simp, by simp⟩
  refine ⟨k, r, e1, e2, e3, fun w => ?_⟩
  rw [e4 w, List.take_of_length_le (by simp)]
end
end Go.Lift
namespace Go.Lift
open Option renaming bind_some → oS
open List renaming mem_of_getElem? → lM
open Go
instance : Inhabited Ag := ⟨⟨0, 0, 0⟩⟩
theorem Qa : EK 2000 = some true := by kernel_rfl
theorem TN : Gs.pdqsort = @Gs.pdqsort Ag := by kernel_rfl
theorem PS : Bs = fun N p => @Gs.compact Ag (Ag.mk 0 0 0) N p (fun x => some ((x.1.fTable == x.2.fTable) && ((x.1.fWriter == x.2.fWriter) && ((x.1.fReader == x.2.fReader) && true)))) := by kernel_rfl
def JN (x y : Int) : Int := if x < y then -1 else if x = y then 0 else 1
theorem Qw (N : Nat) (x y : Int) : Dn N x y = some (JN x y) := by
 unfold Dn FM JN
 simp only [oS, bne_self_eq_false, Ax]
 by_cases h : x < y
 ·rw [AK h, if_pos h]
 ·rw [AH h, if_neg h]
  by_cases e : x = y
  ·rw [if_pos e, AH (by omega)]
  ·rw [if_neg e, AK (by omega)]
def KB (a b : Ag) : Int := PC [JN a.fTable b.fTable, JN a.fWriter b.fWriter, JN a.fReader b.fReader]
theorem Vz (N : Nat) (hN : N ≤ 1000000) (h20 : 100 ≤ N) (a b : Ag) : Cv N a b = some (KB a b) := by
 unfold Cv
 rw [Qw, Qw, Qw]
 simp only [oS]
 rw [XM (by simp; omega) hN]; rfl
theorem N0 : JM KB := by
 have := (Vq.pull Ag.fTable).or ((Vq.pull Ag.fWriter).or (Vq.pull Ag.fReader))
 have e : KB = fun (x y : Ag) => if JN x.fTable y.fTable = 0 then (if JN x.fWriter y.fWriter = 0 then JN x.fReader y.fReader else JN x.fWriter y.fWriter) else JN x.fTable y.fTable := by
  funext x y
  unfold KB PC PC PC PC
  repeat' split
  all_goals (first | rfl | omega | simp_all)
 rw [e]; exact this
theorem Lg {x y : Int} (h : JN x y = 0) : x = y := by
 unfold JN at h
 split at h
 ·cases h
 ·split at h
  ·assumption
  ·cases h
theorem Py (a b : Ag) (h : KB a b = 0) : a = b := by
 have := Oy h
 have h1 := Lg (this (JN a.fTable b.fTable) (by simp))
 have h2 := Lg (this (JN a.fWriter b.fWriter) (by simp))
 have h3 := Lg (this (JN a.fReader b.fReader) (by simp))
 cases a; cases b; simp only at h1 h2 h3; subst h1; subst h2; subst h3; rfl
def Zq (a b : Ag) : Bool := (a.fTable == b.fTable) && ((a.fWriter == b.fWriter) && ((a.fReader == b.fReader) && true))
theorem Mg (a b : Ag) : Zq a b = true ↔ a = b := by
 cases a; cases b
 simp [Zq]
theorem VV (N : Nat) (a b : Ag) : Eg N a b = some (decide (KB a b < 0)) := by
 have k : ∀ x y : Int, decide (x < y) = decide (JN x y < 0) := fun x y => by
  unfold JN; rw [decide_eq_decide]; repeat' split
  all_goals omega
 have z : ∀ x : Int, JN x x = 0 := fun x => by unfold JN; simp
 have nz : ∀ x y : Int, x ≠ y → JN x y ≠ 0 := fun x y h e => h (Lg e)
 unfold Eg KB PC PC PC PC
 by_cases h1 : a.fTable = b.fTable
 ·rw [h1, bne_self_eq_false, Ax, z, if_pos rfl]
  by_cases h2 : a.fWriter = b.fWriter
  ·rw [h2, bne_self_eq_false, Ax, z, if_pos rfl, k]
   by_cases h3 : JN a.fReader b.fReader = 0
   ·rw [if_pos h3, h3]
   ·rw [if_neg h3]
  ·rw [bne_iff_ne.2 h2, AN, if_neg (nz _ _ h2), k]
 ·rw [bne_iff_ne.2 h1, AN, if_neg (nz _ _ h1), k]
theorem M4 (N : Nat) (hN : N ≤ 1000000) (h20 : 100 ≤ N) (p : Ak) (hp : B7 p) (l : List Ah) (hl : l.length ≤ 1000) (hw : ∀ m, m ∈ l → J0 I4 m.fHeld) : ∀ (n i : Nat) (a : List A1), i ≤ l.length → l.length - i < n → a.length ≤ 54 * i →
  DJ N p l (fun v4 => some (v4, 0)) n (a, (i : Int)) = some (match DE (Ln p) i (l.drop i) with | none => (a ++ D7 (fun _ m => JD p m) i (l.drop i), 0) | some e => ([], e))
 | 0, i, _, _, h, _ => by omega
 | n + 1, i, a, hi, h, ha => by
  rw [DJ]
  by_cases h1 : i < l.length
  ·have hx : l[i]? = some l[i] := by simp [h1]
   rw [AK (by first | omega | (simp only; omega)), Hy hx]
   simp only [Bn, hx, oS]
   rw [Sm N hN h20 (hw _ (lM hx))]
   simp only [oS]
   rw [DE, D7]
   by_cases h0 : DW p l[i] = 0
   ·have hbl := K4 hp l[i]
    rw [if_pos h0]
    simp only [bne_self_eq_false, Ax]
    rw [AD (by simp only [D2]; omega), AZ (by omega), M4 N hN h20 p hp l hl hw n (i + 1) _ (by omega) (by omega) (by simp; omega)]
    rw [show Ln p i l[i] = none from by unfold Ln; rw [if_pos h0]]
    cases DE (Ln p) (i + 1) (l.drop (i + 1)) <;> simp
   ·rw [if_neg h0]
    simp only
    rw [bne_iff_ne.2 h0, AN, show Ln p i l[i] = some (DW p l[i]) from by unfold Ln; rw [if_neg h0]]
  ·rw [AH (by first | omega | (simp only; omega)), List.drop_eq_nil_of_le (by omega)]
   simp [DE, D7]
theorem Pz (N : Nat) (hN : N ≤ 1000000) (h20 : 100 ≤ N) (p : Ak) (l : List Ah) (hl : l.length < N) (hl2 : l.length ≤ 1000) (hw : ∀ m, m ∈ l → J0 I4 m.fHeld) : C8 N p l = some (if Hs p l = 0 then (GK p l, 0) else ([], Hs p l)) := by
 unfold C8
 rw [Ma N p (by omega) (by omega)]
 simp only [oS]
 by_cases hv : DT p = 0
 ·obtain ⟨hp, _⟩ := E7 hv
  rw [hv, bne_self_eq_false, Ax]
  have := M4 N hN h20 p hp l hl2 hw N 0 [] (Nat.zero_le _) (by omega) (by simp)
  have e : DJ N p l (fun v4 => some (v4, 0)) N (([] : List A1), 0) = _ := this
  have hE : Hs p l = (DE (Ln p) 0 l).getD 0 := by unfold Hs; rw [if_neg (by simp [hv])]
  rw [e, List.drop_zero, hE]
  cases hs : DE (Ln p) 0 l with
  | none => rfl
  | some e =>
   obtain ⟨j, m, hm, he⟩ := E1 hs
   unfold Ln at he
   split at he
   ·cases he
   ·rename_i hne
    cases he
    simp [hne]
 ·rw [bne_iff_ne.2 hv, AN]
  unfold Hs
  rw [if_pos hv, if_neg hv]
theorem Ph (N : Nat) (hN : N ≤ 1000000) (l : List A1) (hl : l.length ≤ 1000) (e : Int) (J : List Ag → Option (List Ag × Int)) : ∀ (n i : Nat) (a : List Ag), i ≤ l.length → l.length - i < n → a.length = i →
  Dr N (l, e) J n (a, (i : Int)) = J (a ++ (l.drop i).map (·.fConflict))
 | 0, i, _, _, h, _ => by omega
 | n + 1, i, a, hi, h, ha => by
  rw [Dr]
  by_cases h1 : i < l.length
  ·have hx : l[i]? = some l[i] := by simp [h1]
   rw [AK (by first | omega | (simp only; omega)), Hy hx]
   simp only [Bn, hx, oS]
   rw [AD (by simp [D2]; omega), AZ (by omega), Ph N hN l hl e J n (i + 1) _ (by omega) (by omega) (by simp [ha])]
   rw [List.map_cons, List.append_assoc]; rfl
  ·rw [AH (by first | omega | (simp only; omega)), List.drop_eq_nil_of_le (by omega)]
   simp
theorem N2 (N : Nat) (hN : N ≤ 1000000) (h20 : 1010 ≤ N) (p : Ak) (l : List Ah) (hl : l.length ≤ 6) (hw : ∀ m, m ∈ l → J0 I4 m.fHeld) : ∃ r : List Ag, CX N p l = some (r, Hs p l) ∧ (Hs p l = 0 → IV KB r ∧ ∀ x, x ∈ r ↔ x ∈ (GK p l).map (·.fConflict)) ∧ (Hs p l ≠ 0 → r = []) := by
 unfold CX
 rw [Pz N hN (by omega) p l (by omega) (by omega) hw]
 simp only [oS]
 by_cases h0 : Hs p l = 0
 ·rw [if_pos h0, h0]
  simp only [bne_self_eq_false, Ax]
  have hp := (E7 (L0 h0).1).1
  have hbl := Jv hp l
  have e := Ph N hN (GK p l) (by omega) 0 (fun (v4 : (List Ag)) =>
   (Bp N v4 ((fun (x : Ag × Ag) => Cv N x.1 x.2))).bind fun v8 =>
   (Bs N v8).bind fun v9 =>
   (DN (v9.1 ≤ v9.2.length)).bind fun _ =>
   some (v9.2.take v9.1, 0)) N 0 [] (Nat.zero_le _) (by omega) rfl
  rw [List.drop_zero, List.nil_append] at e
  have e' : Dr N (GK p l, 0) (fun (v4 : (List Ag)) =>
   (Bp N v4 ((fun (x : Ag × Ag) => Cv N x.1 x.2))).bind fun v8 =>
   (Bs N v8).bind fun v9 =>
   (DN (v9.1 ≤ v9.2.length)).bind fun _ =>
   some (v9.2.take v9.1, 0)) N (([] : List Ag), 0) = _ := e
  rw [e']
  have hml : ((GK p l).map (·.fConflict)).length ≤ 1000 := by simp; omega
  generalize (GK p l).map (·.fConflict) = cs at hml
  have hcmp : ∀ x y : Ag, True → True → (fun (x : Ag × Ag) => Cv N x.1 x.2) (x, y) = some (KB x y) := fun x y _ _ => Vz N hN (by omega) x y
  obtain ⟨r1, s1, s2, s3⟩ := S8 (cmp := fun x => Cv N x.1 x.2) N0 hcmp (N := N) h20 cs hml (fun _ _ => trivial)
  unfold Bp
  rw [Kf (by omega), U1 N hml, TN]
  simp only [oS]
  rw [s1]
  simp only [oS]
  rw [PS]
  have heq : ∀ x y : Ag, True → True → (fun (x : Ag × Ag) => (some ((x.1.fTable == x.2.fTable) && ((x.1.fWriter == x.2.fWriter) && ((x.1.fReader == x.2.fReader) && true))) : Option Bool)) (x, y) = some (Zq x y) := fun x y _ _ => rfl
  obtain ⟨k, r, t1, t2, t3, t4⟩ := Tl (eq := fun x => some ((x.1.fTable == x.2.fTable) && ((x.1.fWriter == x.2.fWriter) && ((x.1.fReader == x.2.fReader) && true)))) N0 Py (Ag.mk 0 0 0) heq Mg (N := N) h20 r1 (by rw [s2.length_eq]; exact hml) (fun _ _ => trivial) s3
  simp only
  rw [t1]
  simp only [oS]
  rw [AD t2]
  exact ⟨r.take k, rfl, fun _ => ⟨t3, fun x => (t4 x).trans s2.mem_iff⟩, fun h => absurd rfl h⟩
 ·rw [if_neg h0]
  simp only
  rw [bne_iff_ne.2 h0, AN]
  exact ⟨[], rfl, fun h => absurd h h0, fun _ => rfl⟩
end Go.Lift
namespace Go.Lift
open IntKind renaming wrap → wI
open Option renaming bind_some → oS
open List renaming getElem?_eq_some_iff → lI
open Go
theorem O9 (N : Nat) (bl : List A1) (e : Int) (out : List Ag) (ho : out.length ≤ 1000) (i : Nat) (b : A1) (hb : bl[i]? = some b) : ∀ (n j : Nat), out.length - j < n → j ≤ out.length →
  ∃ k : Nat, j ≤ k ∧ k ≤ out.length ∧ (∀ q y, j ≤ q → q < k → out[q]? = some y → KB y b.fConflict < 0) ∧ (∀ y, out[k]? = some y → ¬ KB y b.fConflict < 0) ∧ ∀ J : Int → Option (List Ag × Int), Bv N (bl, e) (out, (i : Int)) J n (j : Int) = J (k : Int)
 | 0, j, h, _ => by omega
 | n + 1, j, h, hj => by
  have hL : ∀ J : Int → Option (List Ag × Int), Bv N (bl, e) (out, (i : Int)) J (n + 1) (j : Int) = AW (decide ((j : Int) < (out.length : Int))) ((Bf out (j : Int)).bind fun v11 => (Bf bl (i : Int)).bind fun v12 => (Eg N v11 ((Ag.mk v12.fConflict.fTable v12.fConflict.fWriter v12.fConflict.fReader))).bind fun v13 => AW v13 (Bv N (bl, e) (out, (i : Int)) J n (wI .i64 ((j : Int) + 1))) (J (j : Int))) (AW false (Bv N (bl, e) (out, (i : Int)) J n (wI .i64 ((j : Int) + 1))) (J (j : Int))) := fun J => rfl
  by_cases h1 : j < out.length
  ·have hx : out[j]? = some out[j] := by simp [h1]
   have hM : ∀ J : Int → Option (List Ag × Int), Bv N (bl, e) (out, (i : Int)) J (n + 1) (j : Int) = AW (decide (KB out[j] b.fConflict < 0)) (Bv N (bl, e) (out, (i : Int)) J n ((j + 1 : Nat) : Int)) (J (j : Int)) := fun J => by
    rw [hL, AK (by omega)]
    simp only [Bn, hx, hb, oS]
    rw [VV]
    simp only [oS]
    rw [AZ (by omega)]
   by_cases hl : KB out[j] b.fConflict < 0
   ·obtain ⟨k, k1, k2, k3, k4, k5⟩ := O9 N bl e out ho i b hb n (j + 1) (by omega) (by omega)
    refine ⟨k, by omega, k2, fun q y h1 h2 h3 => ?_, k4, fun J => by rw [hM, AK hl]; exact k5 J⟩
    by_cases hq : q = j
    ·subst hq; rw [hx] at h3; cases h3; exact hl
    ·exact k3 q y (by omega) h2 h3
   ·refine ⟨j, Nat.le_refl _, hj, fun q y h1 h2 => by omega, fun y hy => ?_, fun J => by rw [hM, AH hl]⟩
    rw [hx] at hy; cases hy; exact hl
  ·refine ⟨j, Nat.le_refl _, hj, fun q y h1 h2 => by omega, fun y hy => ?_, fun J => by rw [hL, AH (by omega), Ax]⟩
   have := (lI.1 hy).1
   omega
theorem Sk {α : Type} {c : α → α → Int} (O : JM c) (h0 : ∀ x y, c x y = 0 → x = y) {out : List α} {x : α} {k : Nat} (hs : IV c out) (hk : k ≤ out.length) (h1 : ∀ q y, q < k → out[q]? = some y → c y x < 0) (h2 : ∀ y, out[k]? = some y → ¬ c y x < 0) (h3 : out[k]? ≠ some x) :
  IV c (out.take k ++ [x] ++ out.drop k) ∧ ∀ y, y ∈ out.take k ++ [x] ++ out.drop k ↔ y ∈ out ∨ y = x := by
 have hlow : ∀ y, y ∈ out.take k → c y x < 0 := fun y hy => by
  obtain ⟨q, hq, rfl⟩ := List.mem_take_iff_getElem.1 hy
  exact h1 q _ (by omega) (by simp)
 have hhigh : ∀ y, y ∈ out.drop k → c x y < 0 := fun y hy => by
  obtain ⟨q, hq, rfl⟩ := List.mem_drop_iff_getElem.1 hy
  have hkl : k < out.length := by omega
  have hz : out[k]? = some out[k] := by simp [hkl]
  have a1 := h2 _ hz
  have a2 : out[k] ≠ x := fun e => h3 (by rw [hz, e])
  have a3 : c x out[k] < 0 := by
   have := O.anti out[k] x
   by_cases q0 : c out[k] x = 0
   ·exact absurd (h0 _ _ q0) a2
   ·omega
  by_cases hq0 : q = 0
  ·subst hq0; simpa using a3
  ·have := List.pairwise_iff_getElem.1 hs k (k + q) hkl (by omega) (by omega)
   exact O.lt1 a3 (Int.le_of_lt this)
 constructor
 ·refine List.pairwise_append.2 ⟨List.pairwise_append.2 ⟨hs.sublist (List.take_sublist _ _), List.pairwise_singleton _ _, fun a ha b hb => ?_⟩, hs.sublist (List.drop_sublist _ _), fun a ha b hb => ?_⟩
  ·rw [List.mem_singleton.1 hb]; exact hlow a ha
  ·rcases List.mem_append.1 ha with ha | ha
   ·exact O.lt1 (hlow a ha) (Int.le_of_lt (hhigh b hb))
   ·rw [List.mem_singleton.1 ha]; exact hhigh b hb
 ·intro y
  rw [List.mem_append, List.mem_append, List.mem_singleton]
  conv => rhs; rw [← List.take_append_drop k out, List.mem_append]
  constructor
  ·rintro ((h | h) | h)
   ·exact .inl (.inl h)
   ·exact .inr h
   ·exact .inl (.inr h)
  ·rintro ((h | h) | h)
   ·exact .inl (.inl h)
   ·exact .inr h
   ·exact .inl (.inr h)
theorem Ke (N : Nat) (hN : N ≤ 1000000) (bl : List A1) (hl : bl.length ≤ 900) (h20 : bl.length < N) (e : Int) : ∀ (n i : Nat) (out : List Ag), bl.length - i < n → i ≤ bl.length → out.length ≤ i → IV KB out → (∀ y, y ∈ out ↔ y ∈ (bl.take i).map (·.fConflict)) →
  ∃ r : List Ag, Cw N (bl, e) (fun v4 => some (v4, 0)) n (out, (i : Int)) = some (r, 0) ∧ IV KB r ∧ ∀ y, y ∈ r ↔ y ∈ bl.map (·.fConflict)
 | 0, i, _, h, _, _, _, _ => by omega
 | n + 1, i, out, h, hi, ho, hs, hm => by
  rw [Cw]
  by_cases h1 : i < bl.length
  ·have hx : bl[i]? = some bl[i] := by simp [h1]
   rw [AK (by first | omega | (simp only; omega))]
   simp only [Be]
   have hmem : ∀ o' : List Ag, (∀ y, y ∈ o' ↔ y ∈ out ∨ y = bl[i].fConflict) → ∀ y, y ∈ o' ↔ y ∈ (bl.take (i + 1)).map (·.fConflict) := fun o' ho' y => by
    rw [ho' y, hm y, List.take_succ_eq_append_getElem h1, List.map_append, List.mem_append]
    simp
   obtain ⟨k, _, k2, k3, k4, k5⟩ := O9 N bl e out (by omega) i bl[i] hx N 0 (by omega) (Nat.zero_le _)
   have k6 : ∀ J : Int → Option (List Ag × Int), Bv N (bl, e) (out, (i : Int)) J N 0 = J (k : Int) := k5
   rw [k6]
   ·simp only [Int.toNat_natCast, Nat.sub_zero, List.drop_zero, List.nil_append, Bn, hx, oS]
    have hkl : (out.take k).length = k := by simp; omega
    have hins : out[k]? ≠ some bl[i].fConflict → ∃ r : List Ag, ((DN ((0 : Int) ≤ (k : Int) ∧ 0 ≤ k ∧ k ≤ out.length)).bind fun _ =>
      (DN ((([] : List Ag)).length + (out.take k).length ≤ D2)).bind fun _ =>
      (DN ((out.take k).length + (([(Ag.mk bl[i].fConflict.fTable bl[i].fConflict.fWriter bl[i].fConflict.fReader)] : List Ag)).length ≤ D2)).bind fun _ =>
      (DN ((0 : Int) ≤ (k : Int) ∧ k ≤ out.length ∧ out.length ≤ out.length)).bind fun _ =>
      (DN ((out.take k ++ (([(Ag.mk bl[i].fConflict.fTable bl[i].fConflict.fWriter bl[i].fConflict.fReader)] : List Ag))).length + (((out.drop k).take (out.length - k))).length ≤ D2)).bind fun _ =>
      Cw N (bl, e) (fun v4 => some (v4, 0)) n (out.take k ++ (([(Ag.mk bl[i].fConflict.fTable bl[i].fConflict.fWriter bl[i].fConflict.fReader)] : List Ag)) ++ (((out.drop k).take (out.length - k))), (wI .i64 ((i : Int) + 1)))) = some (r, 0) ∧ IV KB r ∧ ∀ y, y ∈ r ↔ y ∈ bl.map (·.fConflict) := by
     intro hne
     rw [AD (by omega), AD (by simp [D2]; omega), AD (by simp [D2]; omega), AD (by omega), AD (by simp [D2]; omega), AZ (by omega), show (out.drop k).take (out.length - k) = out.drop k from List.take_of_length_le (by simp)]
     obtain ⟨i1, i2⟩ := Sk N0 Py hs k2 (fun q y hq hy => k3 q y (Nat.zero_le _) hq hy) k4 hne
     exact Ke N hN bl hl h20 e n (i + 1) (out.take k ++ [bl[i].fConflict] ++ out.drop k) (by omega) (by omega) (by simp; omega) i1 (hmem _ i2)
    by_cases hkn : k = out.length
    ·rw [show ((k : Int) == (out.length : Int)) = true from beq_iff_eq.2 (by omega), AN, AN]
     exact hins (by rw [hkn]; simp)
    ·rw [show ((k : Int) == (out.length : Int)) = false from beq_eq_false_iff_ne.2 (by omega), Ax]
     have hz : out[k]? = some out[k] := by simp <;> omega
     rw [hz]
     simp only [oS]
     by_cases he : out[k] = bl[i].fConflict
     ·have h9 : ((out[k].fTable == bl[i].fConflict.fTable) && ((out[k].fWriter == bl[i].fConflict.fWriter) && ((out[k].fReader == bl[i].fConflict.fReader) && true))) = true := (Mg _ _).2 he
      rw [h9, Bool.not_true, Ax, AZ (by omega)]
      refine Ke N hN bl hl h20 e n (i + 1) out (by omega) (by omega) (by omega) hs (hmem _ fun y => ⟨.inl, fun hy => ?_⟩)
      rcases hy with hy | hy
      ·exact hy
      ·rw [hy, ← he]; exact List.getElem_mem _
     ·have h9 : ((out[k].fTable == bl[i].fConflict.fTable) && ((out[k].fWriter == bl[i].fConflict.fWriter) && ((out[k].fReader == bl[i].fConflict.fReader) && true))) = false := by
       cases hh : Zq out[k] bl[i].fConflict with
       | false => exact hh
       | true => exact absurd ((Mg _ _).1 hh) he
      rw [h9, Bool.not_false, AN]
      exact hins (by rw [hz]; exact fun hh => he (Option.some.inj hh))
  ·rw [AH (by first | omega | (simp only; omega))]
   rw [List.take_of_length_le (by omega)] at hm
   exact ⟨out, rfl, hs, hm⟩
theorem Q9 (N : Nat) (hN : N ≤ 1000000) (h20 : 1010 ≤ N) (p : Ak) (l : List Ah) (hl : l.length ≤ 6) (hw : ∀ m, m ∈ l → J0 I4 m.fHeld) : ∃ r : List Ag, Ca N p l = some (r, Hs p l) ∧ (Hs p l = 0 → IV KB r ∧ ∀ x, x ∈ r ↔ x ∈ (GK p l).map (·.fConflict)) ∧ (Hs p l ≠ 0 → r = []) := by
 unfold Ca
 rw [Ly N hN (by omega) p l (by omega) (by omega) hw]
 simp only [oS]
 by_cases h0 : Hs p l = 0
 ·rw [if_pos h0, h0]
  simp only [bne_self_eq_false, Ax]
  have hp := (E7 (L0 h0).1).1
  have hbl := Jv hp l
  obtain ⟨r, r1, r2, r3⟩ := Ke N hN (GK p l) (by omega) (by omega) 0 N 0 [] (by omega) (Nat.zero_le _) (Nat.le_refl _) (by simp) (by simp)
  exact ⟨r, r1, fun _ => ⟨r2, r3⟩, fun h => absurd rfl h⟩
 ·rw [if_neg h0]
  simp only
  rw [bne_iff_ne.2 h0, AN]
  exact ⟨[], rfl, fun h => absurd h h0, fun _ => rfl⟩
theorem Qe (N : Nat) (hN : N ≤ 1000000) (h20 : 1010 ≤ N) (p : Ak) (l : List Ah) (hl : l.length ≤ 6) (hw : ∀ m, m ∈ l → J0 I4 m.fHeld) : ∃ r : List Ag, CX N p l = some (r, Hs p l) ∧ Ca N p l = some (r, Hs p l) ∧ (Hs p l ≠ 0 → r = []) := by
 obtain ⟨r, r1, r2, r3⟩ := N2 N hN h20 p l hl hw
 obtain ⟨s, s1, s2, s3⟩ := Q9 N hN h20 p l hl hw
 have : r = s := by
  by_cases h0 : Hs p l = 0
  ·exact OK N0 r s (r2 h0).1 (s2 h0).1 fun x => ((r2 h0).2 x).trans ((s2 h0).2 x).symm
  ·rw [r3 h0, s3 h0]
 subst this
 exact ⟨r, r1, s1, r3⟩
end Go.Lift
namespace Go.Lift
open Option renaming bind_some → oS
open List renaming mem_of_getElem? → lM
open Go
instance ZG : DecidableEq Ag := fun a b => if h : Zq a b = true then isTrue ((Mg a b).1 h) else isFalse fun e => h ((Mg a b).2 e)
theorem PA {α : Type} [DecidableEq α] : ∀ (r cs : List α), r.Nodup → (∀ x, x ∈ r → x ∈ cs) → r.length ≤ cs.length
 | [], _, _, _ => Nat.zero_le _
 | x :: r, cs, hn, hs => by
  obtain ⟨h1, h2⟩ := List.nodup_cons.1 hn
  have hx := hs x (by simp)
  have := PA r (cs.erase x) h2 fun y hy => (List.mem_erase_of_ne (show y ≠ x from fun e => h1 (by rw [← e]; exact hy))).2 (hs y (by simp [hy]))
  rw [List.length_erase_of_mem hx] at this
  have := List.length_pos_of_mem hx
  simp only [List.length_cons]
  omega
theorem Sl {p : Ak} {l : List Ah} (h : Hs p l = 0) (hw : ∀ m, m ∈ l → J0 I4 m.fHeld) : ∀ b, b ∈ GK p l → EH p b.fMix := by
 obtain ⟨hv, hall⟩ := L0 h
 have hp := (E7 hv).1
 intro b hb
 obtain ⟨j, m, hm, hb⟩ := Lj.1 hb
 have hmm := lM hm
 exact TA hp (HR (hw m hmm) (hall m hmm)).2 b hb
theorem Ta (N : Nat) (hN : N ≤ 1000000) (h20 : 1010 ≤ N) (p : Ak) (l : List Ah) (hl : l.length ≤ 6) (hw : ∀ m, m ∈ l → J0 I4 m.fHeld) : Cu N (if Hs p l = 0 then (GK p l, (0 : Int)) else ([], Hs p l)).1 (if Hs p l = 0 then (GK p l, (0 : Int)) else ([], Hs p l)).1 = some true := by
 by_cases h0 : Hs p l = 0
 ·rw [if_pos h0]
  have hp := (E7 (L0 h0).1).1
  have := Jv hp l
  exact QW N hN (by omega) hp _ (by simp only; omega) (Sl h0 hw)
 ·rw [if_neg h0]
  unfold Cu
  obtain ⟨q, rfl⟩ : ∃ q, N = q + 1 := ⟨N - 1, by omega⟩
  rfl
theorem LC (d : CU) (l : List B1) (wd : Gk d) (wl : J0 Fk l) : Da 2000 d l = some true := by
 obtain ⟨p, ok, e, hok⟩ := au 2000 d (by omega) (by omega) wd
 unfold Da
 rw [e]
 simp only [oS, Be, Qa, Bool.not_true, Ax]
 cases ok
 ·rfl
 simp only [Bool.not_true, Ax]
 by_cases h6 : (6 : Int) < (l.length : Int)
 ·rw [decide_eq_true h6, AN]
 rw [decide_eq_false h6, Ax]
 have hg := hok rfl
 obtain ⟨hp, _⟩ := E7 hg.valid
 have fin : ∀ ms : List Ah, ms.length = l.length → (∀ m, m ∈ ms → EH p m) → ((C8 2000 p ms).bind fun v14 =>
    (Cn 2000 p ms).bind fun v15 =>
    (CX 2000 p ms).bind fun v16 =>
    (Ca 2000 p ms).bind fun v17 =>
    AW ((v14.2 == v15.2))
     (AW ((v16.2 == v17.2))
      ((Cu 2000 v14.1 v15.1).bind fun v21 =>
      AW v21
       ((BO 2000 v16.1 v17.1).bind fun v23 =>
       some v23)
       (some false))
      (some false))
     (some false)) = some true := by
  intro ms hml hms
  have hw : ∀ m, m ∈ ms → J0 I4 m.fHeld := fun m hm => Pd (hms m hm)
  rw [Pz 2000 (by omega) (by omega) p ms (by omega) (by omega) hw, Ly 2000 (by omega) (by omega) p ms (by omega) (by omega) hw]
  obtain ⟨r, r1, r2, _⟩ := Qe 2000 (by omega) (by omega) p ms (by omega) hw
  rw [r1, r2]
  simp only [oS, beq_self_eq_true, AN]
  rw [Ta 2000 (by omega) (by omega) p ms (by omega) hw]
  simp only [oS, AN]
  have hrl : r.length < 2000 := by
   obtain ⟨r', q1, q2, q3⟩ := N2 2000 (by omega) (by omega) p ms (by omega) hw
   rw [r1] at q1; cases q1
   by_cases h0 : Hs p ms = 0
   ·have hs := (q2 h0).1
    have hbl := Jv hp ms
    have hnd : r.Nodup := hs.imp fun {a b} h => by
     intro e; subst e; have := N0.self a; omega
    have := PA r _ hnd (fun x hx => ((q2 h0).2 x).1 hx)
    simp at this
    omega
   ·rw [q3 h0]; simp
  rw [NB 2000 r (by omega) hrl]; rfl
 obtain ⟨ms, e2, hms⟩ := Fb (BS 2000 l (p, true) fun (v9 : (List Ah)) =>
    (C8 2000 p v9).bind fun v14 =>
    (Cn 2000 p v9).bind fun v15 =>
    (CX 2000 p v9).bind fun v16 =>
    (Ca 2000 p v9).bind fun v17 =>
    AW ((v14.2 == v15.2))
     (AW ((v16.2 == v17.2))
      ((Cu 2000 v14.1 v15.1).bind fun v21 =>
      AW v21
       ((BO 2000 v16.1 v17.1).bind fun v23 =>
       some v23)
       (some false))
      (some false))
     (some false)) (fun (a : List Ah) i => (a, i)) l.length (fun (v9 : (List Ah)) =>
    (C8 2000 p v9).bind fun v14 =>
    (Cn 2000 p v9).bind fun v15 =>
    (CX 2000 p v9).bind fun v16 =>
    (Ca 2000 p v9).bind fun v17 =>
    AW ((v14.2 == v15.2))
     (AW ((v16.2 == v17.2))
      ((Cu 2000 v14.1 v15.1).bind fun v21 =>
      AW v21
       ((BO 2000 v16.1 v17.1).bind fun v23 =>
       some v23)
       (some false))
      (some false))
     (some false)) (fun i a => a.length = i ∧ ∀ m, m ∈ a → EH p m)
  (fun n i a hi ha => by
   have hx : l[i]? = some l[i] := by simp [hi]
   obtain ⟨m, e3, _, hm⟩ := aq 2000 p l[i] (by omega) (by omega) hp (wl _ (lM hx))
   rw [BS, AK (by simp only; omega)]
   simp only [Bn, hx, oS, e3]
   rw [AD (by simp [D2]; omega), AZ (by omega)]
   refine ⟨_, rfl, by simp [ha.1], fun y hy => ?_⟩
   rcases List.mem_append.1 hy with hy | hy
   ·exact ha.2 y hy
   ·rw [List.mem_singleton.1 hy]; exact hm)
  (fun n a ha => by rw [BS, AH (by simp)]) 2000 0 [] (Nat.zero_le _) (by omega) ⟨rfl, fun m hm => by cases hm⟩
 refine Eq.trans e2 ?_
 exact fin ms hms.1 hms.2
instance Ya : Inhabited Ah := ⟨GR⟩
end Go.Lift
