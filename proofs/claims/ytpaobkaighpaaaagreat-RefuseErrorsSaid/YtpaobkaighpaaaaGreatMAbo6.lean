/- Lemmas for RefuseErrorsSaid, which YtpaobkaighpaaaaGreatFinR8 proves. -/
import Derived.Test.YtpaobkaighpaaaaGreatGComp
import Derived.KernelRfl
namespace Go.Lift
open Option renaming bind_some → oS
open List renaming mem_of_getElem? → lM
open Go
section
variable {α : Type} {c : α → α → Int}
def Gd (c : α → α → Int) (l : List α) (r : List α) (j : Nat) : Prop := Rk c r ∧ ∀ x, x ∈ r ↔ x ∈ l.take (j + 1)
theorem SA {l r : List α} {j : Nat} (h : Gd c l r j) (hj : j + 1 < l.length) (e : l[j + 1] = l[j]) : Gd c l r (j + 1) := by
 refine ⟨h.1, fun x => ?_⟩
 rw [List.take_succ_eq_append_getElem hj, List.mem_append, ← h.2 x, List.mem_singleton, e]
 constructor
 ·exact .inl
 ·rintro (h1 | rfl)
  ·exact h1
  ·exact (h.2 _).2 (List.mem_take_iff_getElem.2 ⟨j, by omega, rfl⟩)
theorem Sb (O : J1 c) (h0 : ∀ x y, c x y = 0 → x = y) {l r : List α} {j : Nat} (hs : l.Pairwise (fun x y => c x y ≤ 0)) (h : Gd c l r j) (hj : j + 1 < l.length) (e : l[j + 1] ≠ l[j]) : Gd c l (r ++ [l[j + 1]]) (j + 1) := by
 rw [List.pairwise_iff_getElem] at hs
 refine ⟨List.pairwise_append.2 ⟨h.1, List.pairwise_singleton _ _, fun x hx y hy => ?_⟩, fun x => ?_⟩
 ·rw [List.mem_singleton.1 hy]
  obtain ⟨i, hi, rfl⟩ := List.mem_take_iff_getElem.1 ((h.2 x).1 hx)
  have h1 : c l[j] l[j + 1] < 0 := by
   have := hs j (j + 1) (by omega) hj (by omega)
   by_cases q : c l[j] l[j + 1] = 0
   ·exact absurd (h0 _ _ q).symm e
   ·omega
  by_cases q : i = j
  ·subst q; exact h1
  ·exact O.lt2 (hs i j (by omega) (by omega) (by omega)) h1
 ·rw [List.take_succ_eq_append_getElem hj, List.mem_append, List.mem_append, h.2 x]
variable {P : α → Prop} {eq : α × α → Option Bool} {b : α → α → Bool}
theorem Ps (O : J1 c) (h0 : ∀ x y, c x y = 0 → x = y) (z : α) (hc : ∀ x y, P x → P y → eq (x, y) = some (b x y)) (hb : ∀ x y, b x y = true ↔ x = y) (N : Nat) (l : List α) (hl : l.length ≤ 1000) (hP : ∀ x, x ∈ l → P x) (hs : l.Pairwise (fun x y => c x y ≤ 0)) (i0 : Nat) (h1 : 1 ≤ i0) (h2 : i0 < l.length) (J : List α × Int → Option (Nat × List α)) :
  ∀ (n q k : Nat) (a : List α), l.length - q < n → i0 < q → q ≤ l.length → k + 1 ≤ q → a.length = l.length → Gd c l (a.take k) (q - 1) → a.drop (q - 1) = l.drop (q - 1) →
  ∃ (a' : List α) (k' : Nat), Gs.compact_L11 z N l eq (i0 : Int) J n (a, (k : Int), ((q - i0 : Nat) : Int)) = J (a', (k' : Int)) ∧ a'.length = l.length ∧ k' ≤ l.length ∧ Gd c l (a'.take k') (l.length - 1)
 | 0, q, k, a, h, _, _, _, _, _, _ => by omega
 | n + 1, q, k, a, h, hq, hql, hk, ha, hg, hd => by
  rw [Gs.compact_L11]
  simp only [Bk, Int.toNat_natCast]
  have at_ : ∀ p, q - 1 ≤ p → p < l.length → a[p]? = l[p]? := by
   intro p hp hpl
   have : (a.drop (q - 1))[p - (q - 1)]? = (l.drop (q - 1))[p - (q - 1)]? := by rw [hd]
   rw [List.getElem?_drop, List.getElem?_drop, show q - 1 + (p - (q - 1)) = p by omega] at this
   exact this
  by_cases h3 : q < l.length
  ·rw [AH (by omega), AS (by omega)]
   have hx : l[q]? = some l[q] := by simp [h3]
   have hy : l[q - 1]? = some l[q - 1] := by simp <;> omega
   have ix : ∀ p, i0 ≤ p → q - 1 ≤ p → p < l.length → Bf ((a.drop i0).take (l.length - i0)) ((p - i0 : Nat) : Int) = l[p]? := by
    intro p g1 g2 g3
    rw [Be, List.getElem?_take_of_lt (by omega), List.getElem?_drop, show i0 + (p - i0) = p by omega]
    exact at_ p g2 g3
   rw [Fm (n := ((q - i0 : Nat) : Int) - 1) (by omega) (by omega), show (((q - i0 : Nat) : Int) - 1) = ((q - 1 - i0 : Nat) : Int) by omega, ix q (by omega) (by omega) h3, ix (q - 1) (by omega) (by omega) (by omega), hx, hy]
   simp only [oS]
   rw [hc _ _ (hP _ (lM hx)) (hP _ (lM hy))]
   simp only [oS]
   rw [Fm (n := ((q - i0 : Nat) : Int) + 1) (by omega) (by omega), show (((q - i0 : Nat) : Int) + 1) = ((q + 1 - i0 : Nat) : Int) by omega]
   have eq1 : q - 1 + 1 = q := by omega
   by_cases e : l[q] = l[q - 1]
   ·rw [(hb _ _).2 e, Bool.not_true, Av]
    refine Ps O h0 z hc hb N l hl hP hs i0 h1 h2 J n (q + 1) k a (by omega) (by omega) (by omega) (by omega) ha ?_ ?_
    ·have := SA (j := q - 1) hg (by omega) (by simp only [eq1]; exact e)
     rw [eq1] at this; exact this
    ·show a.drop q = l.drop q
     rw [← eq1, ← List.drop_drop, ← List.drop_drop, hd]
   ·have hbf : b l[q] l[q - 1] = false := by
     cases hh : b l[q] l[q - 1] with
     | false => rfl
     | true => exact absurd ((hb _ _).1 hh) e
    rw [hbf, Bool.not_false, AI]
    rw [Be, show a[k]? = some a[k] from by simp <;> omega]
    simp only [oS]
    rw [AZ (by omega)]
    refine Ps O h0 z hc hb N l hl hP hs i0 h1 h2 J n (q + 1) (k + 1) (a.set k l[q]) (by omega) (by omega) (by omega) (by omega) (by simp [ha]) ?_ ?_
    ·have := Sb O h0 hs (j := q - 1) hg (by omega) (by simp only [eq1]; exact e)
     simp only [eq1] at this
     rw [List.take_succ_eq_append_getElem (by simp; omega), List.take_set_of_le (by omega), List.getElem_set_self]
     exact this
    ·show (a.set k l[q]).drop q = l.drop q
     rw [List.drop_set_of_lt (by omega), ← eq1, ← List.drop_drop, ← List.drop_drop, hd]
  ·rw [AF (by omega)]
   have : q = l.length := by omega
   subst this
   exact ⟨a, k, rfl, ha, by omega, hg⟩
theorem QD (O : J1 c) (h0 : ∀ x y, c x y = 0 → x = y) (z : α) (hc : ∀ x y, P x → P y → eq (x, y) = some (b x y)) (hb : ∀ x y, b x y = true ↔ x = y) (N : Nat) (hN : 1010 ≤ N) (l : List α) (hl : l.length ≤ 1000) (hP : ∀ x, x ∈ l → P x) (hs : l.Pairwise (fun x y => c x y ≤ 0)) :
  ∀ (n i : Nat), l.length - i < n → 1 ≤ i → i ≤ l.length → Gd c l (l.take i) (i - 1) →
  ∃ (k : Nat) (r : List α), Gs.compact_L2 z N l eq (fun _ => some (l.length, l)) n (i : Int) = some (k, r) ∧ k ≤ r.length ∧ Gd c l (r.take k) (l.length - 1)
 | 0, i, h, _, _, _ => by omega
 | n + 1, i, h, h1, h2, hg => by
  rw [Gs.compact_L2]
  by_cases h3 : i < l.length
  ·have hx : l[i]? = some l[i] := by simp [h3]
   have hy : l[i - 1]? = some l[i - 1] := by simp <;> omega
   have eq1 : i - 1 + 1 = i := by omega
   rw [AH (by omega), Fm (n := (i : Int) - 1) (by omega) (by omega), show ((i : Int) - 1) = ((i - 1 : Nat) : Int) by omega]
   simp only [Be, hx, hy, oS]
   rw [hc _ _ (hP _ (lM hx)) (hP _ (lM hy))]
   simp only [oS, Int.toNat_natCast]
   by_cases e : l[i] = l[i - 1]
   ·rw [(hb _ _).2 e, AI, AS (by omega)]
    have hg2 : Gd c l (l.take i) i := by
     have := SA (j := i - 1) hg (by omega) (by simp only [eq1]; exact e)
     rw [eq1] at this; exact this
    obtain ⟨a', k', e1, e2, e3, e4⟩ := Ps O h0 z hc hb N l hl hP hs i h1 h3 (fun (v12 : (List α) × Int) =>
     (EJ ((0 : Int) ≤ v12.2 ∧ (v12.2).toNat ≤ v12.1.length ∧ v12.1.length ≤ v12.1.length)).bind fun _ =>
     (EJ ((0 : Int) ≤ v12.2 ∧ 0 ≤ (v12.2).toNat ∧ (v12.2).toNat ≤ (HQ v12.1 ((v12.2).toNat) (List.replicate ((v12.1.length - (v12.2).toNat)) (z))).length)).bind fun _ =>
     some ((v12.2).toNat, HQ v12.1 ((v12.2).toNat) (List.replicate ((v12.1.length - (v12.2).toNat)) (z)))) N (i + 1) i l (by omega) (by omega) (by omega) (by omega) rfl hg2 rfl
    rw [show ((i + 1 - i : Nat) : Int) = 1 by omega] at e1
    rw [e1]
    simp only [Int.toNat_natCast]
    have hsp : (HQ a' k' (List.replicate (a'.length - k') z)).take k' = a'.take k' ∧ k' ≤ (HQ a' k' (List.replicate (a'.length - k') z)).length := by
     unfold HQ
     constructor
     ·simp only [List.append_assoc]
      rw [List.take_append_of_le_length (by simp; omega), List.take_take, Nat.min_self]
     ·simp; omega
    rw [AS (by omega), AS (by omega)]
    exact ⟨k', _, rfl, hsp.2, by rw [hsp.1]; exact e4⟩
   ·have hbf : b l[i] l[i - 1] = false := by
     cases hh : b l[i] l[i - 1] with
     | false => rfl
     | true => exact absurd ((hb _ _).1 hh) e
    rw [hbf, Av, AZ (by omega)]
    refine QD O h0 z hc hb N hN l hl hP hs n (i + 1) (by omega) (by omega) (by omega) ?_
    have := Sb O h0 hs (j := i - 1) hg (by omega) (by simp only [eq1]; exact e)
    simp only [eq1] at this
    rw [List.take_succ_eq_append_getElem h3]
    exact this
  ·rw [AF (by omega)]
   have : i = l.length := by omega
   subst this
   exact ⟨_, _, rfl, Nat.le_refl _, hg⟩
theorem SN (O : J1 c) (h0 : ∀ x y, c x y = 0 → x = y) (z : α) (hc : ∀ x y, P x → P y → eq (x, y) = some (b x y)) (hb : ∀ x y, b x y = true ↔ x = y) {N : Nat} (hN : 1010 ≤ N) (l : List α) (hl : l.length ≤ 1000) (hP : ∀ x, x ∈ l → P x) (hs : l.Pairwise (fun x y => c x y ≤ 0)) :
  ∃ (k : Nat) (r : List α), Gs.compact z N l eq = some (k, r) ∧ k ≤ r.length ∧ Rk c (r.take k) ∧ ∀ x, x ∈ r.take k ↔ x ∈ l := by
 unfold Gs.compact
 match l, hl, hP, hs with
 | [], _, _, _ => exact ⟨0, [], rfl, Nat.le_refl _, by simp, by simp⟩
 | [x], _, _, _ => exact ⟨1, [x], rfl, Nat.le_refl _, by simp, by simp⟩
 | x :: y :: l, hl, hP, hs =>
  rw [AF (by simp; omega)]
  obtain ⟨k, r, e1, e2, e3, e4⟩ := QD O h0 z hc hb N hN (x :: y :: l) hl hP hs N 1 (by omega) (by omega) (by simp) ⟨by simp, by simp⟩
  refine ⟨k, r, e1, e2, e3, fun w => ?_⟩
  rw [e4 w, List.take_of_length_le (by simp)]
end
end Go.Lift
namespace Go.Lift
open Option renaming bind_some → oS
open List renaming mem_of_getElem? → lM
open Go
instance : Inhabited Ah := ⟨⟨0, 0, 0⟩⟩
theorem PB : Ev 2000 = some true := by kernel_rfl
theorem T0 : Gs.pdqsort = @Gs.pdqsort Ah := by kernel_rfl
theorem PP : Bq = fun N p => @Gs.compact Ah (Ah.mk 0 0 0) N p (fun x => some ((x.1.fTable == x.2.fTable) && ((x.1.fWriter == x.2.fWriter) && ((x.1.fReader == x.2.fReader) && true)))) := by kernel_rfl
def Ln (x y : Int) : Int := if x < y then -1 else if x = y then 0 else 1
theorem PG (N : Nat) (x y : Int) : C8 N x y = some (Ln x y) := by
 unfold C8 FC Ln
 simp only [oS, bne_self_eq_false, Av]
 by_cases h : x < y
 ·rw [AH h, if_pos h]
 ·rw [AF h, if_neg h]
  by_cases e : x = y
  ·rw [if_pos e, AF (by omega)]
  ·rw [if_neg e, AH (by omega)]
def Ru (a b : Ah) : Int := Rg [Ln a.fTable b.fTable, Ln a.fWriter b.fWriter, Ln a.fReader b.fReader]
theorem Vq (N : Nat) (hN : N ≤ 1000000) (h20 : 100 ≤ N) (a b : Ah) : Cp N a b = some (Ru a b) := by
 unfold Cp
 rw [PG, PG, PG]
 simp only [oS]
 rw [WG (by simp; omega) hN]; rfl
theorem TT : J1 Ru := by
 have := (Ts.pull Ah.fTable).or ((Ts.pull Ah.fWriter).or (Ts.pull Ah.fReader))
 have e : Ru = fun (x y : Ah) => if Ln x.fTable y.fTable = 0 then (if Ln x.fWriter y.fWriter = 0 then Ln x.fReader y.fReader else Ln x.fWriter y.fWriter) else Ln x.fTable y.fTable := by
  funext x y
  unfold Ru Rg Rg Rg Rg
  repeat' split
  all_goals (first | rfl | omega | simp_all)
 rw [e]; exact this
theorem Mo {x y : Int} (h : Ln x y = 0) : x = y := by
 unfold Ln at h
 split at h
 ·cases h
 ·split at h
  ·assumption
  ·cases h
theorem SS (a b : Ah) (h : Ru a b = 0) : a = b := by
 have := Nn h
 have h1 := Mo (this (Ln a.fTable b.fTable) (by simp))
 have h2 := Mo (this (Ln a.fWriter b.fWriter) (by simp))
 have h3 := Mo (this (Ln a.fReader b.fReader) (by simp))
 cases a; cases b; simp only at h1 h2 h3; subst h1; subst h2; subst h3; rfl
def YQ (a b : Ah) : Bool := (a.fTable == b.fTable) && ((a.fWriter == b.fWriter) && ((a.fReader == b.fReader) && true))
theorem PJ (a b : Ah) : YQ a b = true ↔ a = b := by
 cases a; cases b
 simp [YQ]
theorem MF (N : Nat) (hN : N ≤ 1000000) (h20 : 100 ≤ N) (p : Aj) (hp : Cd p) (l : List Ag) (hl : l.length ≤ 1000) (hw : ∀ m, m ∈ l → Iu JR m.fHeld) : ∀ (n i : Nat) (a : List A3), i ≤ l.length → l.length - i < n → a.length ≤ 54 * i →
  Dr N p l (fun v4 => some (v4, 0)) n (a, (i : Int)) = some (match Dk (I7 p) i (l.drop i) with | none => (a ++ DA (fun _ m => H0 p m) i (l.drop i), 0) | some e => ([], e))
 | 0, i, _, _, h, _ => by omega
 | n + 1, i, a, hi, h, ha => by
  rw [Dr]
  by_cases h1 : i < l.length
  ·have hx : l[i]? = some l[i] := by simp [h1]
   rw [AH (by first | omega | (simp only; omega)), F3 hx]
   simp only [Be, hx, oS]
   rw [Nh N hN h20 (hw _ (lM hx))]
   simp only [oS]
   rw [Dk, DA]
   by_cases h0 : CW p l[i] = 0
   ·have hbl := KE hp l[i]
    rw [if_pos h0]
    simp only [bne_self_eq_false, Av]
    rw [AS (by simp only [Fa]; omega), AZ (by omega), MF N hN h20 p hp l hl hw n (i + 1) _ (by omega) (by omega) (by simp; omega)]
    rw [show I7 p i l[i] = none from by unfold I7; rw [if_pos h0]]
    cases Dk (I7 p) (i + 1) (l.drop (i + 1)) <;> simp
   ·rw [if_neg h0]
    simp only
    rw [bne_iff_ne.2 h0, AI, show I7 p i l[i] = some (CW p l[i]) from by unfold I7; rw [if_neg h0]]
  ·rw [AF (by first | omega | (simp only; omega)), List.drop_eq_nil_of_le (by omega)]
   simp [Dk, DA]
theorem OL (N : Nat) (hN : N ≤ 1000000) (h20 : 100 ≤ N) (p : Aj) (l : List Ag) (hl : l.length < N) (hl2 : l.length ≤ 1000) (hw : ∀ m, m ∈ l → Iu JR m.fHeld) : Ej N p l = some (if FY p l = 0 then (FJ p l, 0) else ([], FY p l)) := by
 unfold Ej
 rw [Ix N p (by omega) (by omega)]
 simp only [oS]
 by_cases hv : Ce p = 0
 ·obtain ⟨hp, _⟩ := DM hv
  rw [hv, bne_self_eq_false, Av]
  have := MF N hN h20 p hp l hl2 hw N 0 [] (Nat.zero_le _) (by omega) (by simp)
  have e : Dr N p l (fun v4 => some (v4, 0)) N (([] : List A3), 0) = _ := this
  have hE : FY p l = (Dk (I7 p) 0 l).getD 0 := by unfold FY; rw [if_neg (by simp [hv])]
  rw [e, List.drop_zero, hE]
  cases hs : Dk (I7 p) 0 l with
  | none => rfl
  | some e =>
   obtain ⟨j, m, hm, he⟩ := ED hs
   unfold I7 at he
   split at he
   ·cases he
   ·rename_i hne
    cases he
    simp [hne]
 ·rw [bne_iff_ne.2 hv, AI]
  unfold FY
  rw [if_pos hv, if_neg hv]
theorem OT (N : Nat) (hN : N ≤ 1000000) (l : List A3) (hl : l.length ≤ 1000) (e : Int) (J : List Ah → Option (List Ah × Int)) : ∀ (n i : Nat) (a : List Ah), i ≤ l.length → l.length - i < n → a.length = i →
  Dg N (l, e) J n (a, (i : Int)) = J (a ++ (l.drop i).map (·.fConflict))
 | 0, i, _, _, h, _ => by omega
 | n + 1, i, a, hi, h, ha => by
  rw [Dg]
  by_cases h1 : i < l.length
  ·have hx : l[i]? = some l[i] := by simp [h1]
   rw [AH (by first | omega | (simp only; omega)), F3 hx]
   simp only [Be, hx, oS]
   rw [AS (by simp [Fa]; omega), AZ (by omega), OT N hN l hl e J n (i + 1) _ (by omega) (by omega) (by simp [ha])]
   rw [List.map_cons, List.append_assoc]; rfl
  ·rw [AF (by first | omega | (simp only; omega)), List.drop_eq_nil_of_le (by omega)]
   simp
theorem Rt (N : Nat) (hN : N ≤ 1000000) (h20 : 1010 ≤ N) (p : Aj) (l : List Ag) (hl : l.length ≤ 6) (hw : ∀ m, m ∈ l → Iu JR m.fHeld) : ∃ r : List Ah, EF N p l = some (r, FY p l) ∧ (FY p l = 0 → Rk Ru r ∧ ∀ x, x ∈ r ↔ x ∈ (FJ p l).map (·.fConflict)) ∧ (FY p l ≠ 0 → r = []) := by
 unfold EF
 rw [OL N hN (by omega) p l (by omega) (by omega) hw]
 simp only [oS]
 by_cases h0 : FY p l = 0
 ·rw [if_pos h0, h0]
  simp only [bne_self_eq_false, Av]
  have hp := (DM (J0 h0).1).1
  have hbl := MM hp l
  have e := OT N hN (FJ p l) (by omega) 0 (fun (v4 : (List Ah)) =>
   (Bn N v4 ((fun (x : Ah × Ah) => Cp N x.1 x.2))).bind fun v8 =>
   (Bq N v8).bind fun v9 =>
   (EJ (v9.1 ≤ v9.2.length)).bind fun _ =>
   some (v9.2.take v9.1, 0)) N 0 [] (Nat.zero_le _) (by omega) rfl
  rw [List.drop_zero, List.nil_append] at e
  have e' : Dg N (FJ p l, 0) (fun (v4 : (List Ah)) =>
   (Bn N v4 ((fun (x : Ah × Ah) => Cp N x.1 x.2))).bind fun v8 =>
   (Bq N v8).bind fun v9 =>
   (EJ (v9.1 ≤ v9.2.length)).bind fun _ =>
   some (v9.2.take v9.1, 0)) N (([] : List Ah), 0) = _ := e
  rw [e']
  have hml : ((FJ p l).map (·.fConflict)).length ≤ 1000 := by simp; omega
  generalize (FJ p l).map (·.fConflict) = cs at hml
  have hcmp : ∀ x y : Ah, True → True → (fun (x : Ah × Ah) => Cp N x.1 x.2) (x, y) = some (Ru x y) := fun x y _ _ => Vq N hN (by omega) x y
  obtain ⟨r1, s1, s2, s3⟩ := SW (cmp := fun x => Cp N x.1 x.2) TT hcmp (N := N) h20 cs hml (fun _ _ => trivial)
  unfold Bn
  rw [JP (by omega), TE N hml, T0]
  simp only [oS]
  rw [s1]
  simp only [oS]
  rw [PP]
  have heq : ∀ x y : Ah, True → True → (fun (x : Ah × Ah) => (some ((x.1.fTable == x.2.fTable) && ((x.1.fWriter == x.2.fWriter) && ((x.1.fReader == x.2.fReader) && true))) : Option Bool)) (x, y) = some (YQ x y) := fun x y _ _ => rfl
  obtain ⟨k, r, t1, t2, t3, t4⟩ := SN (eq := fun x => some ((x.1.fTable == x.2.fTable) && ((x.1.fWriter == x.2.fWriter) && ((x.1.fReader == x.2.fReader) && true)))) TT SS (Ah.mk 0 0 0) heq PJ (N := N) h20 r1 (by rw [s2.length_eq]; exact hml) (fun _ _ => trivial) s3
  simp only
  rw [t1]
  simp only [oS]
  rw [AS t2]
  exact ⟨r.take k, rfl, fun _ => ⟨t3, fun x => (t4 x).trans s2.mem_iff⟩, fun h => absurd rfl h⟩
 ·rw [if_neg h0]
  simp only
  rw [bne_iff_ne.2 h0, AI]
  exact ⟨[], rfl, fun h => absurd h h0, fun _ => rfl⟩
instance YZ : DecidableEq Ah := fun a b => if h : YQ a b = true then isTrue ((PJ a b).1 h) else isFalse fun e => h ((PJ a b).2 e)
theorem Rw {p : Aj} {l : List Ag} (h : FY p l = 0) (hw : ∀ m, m ∈ l → Iu JR m.fHeld) : ∀ b, b ∈ FJ p l → Er p b.fMix := by
 obtain ⟨hv, hall⟩ := J0 h
 have hp := (DM hv).1
 intro b hb
 obtain ⟨j, m, hm, hb⟩ := KN.1 hb
 have hmm := lM hm
 exact S1 hp (Fw (hw m hmm) (hall m hmm)).2 b hb
theorem Td (N : Nat) (hN : N ≤ 1000000) (h20 : 1010 ≤ N) (p : Aj) (l : List Ag) (hl : l.length ≤ 6) (hw : ∀ m, m ∈ l → Iu JR m.fHeld) : CZ N (if FY p l = 0 then (FJ p l, (0 : Int)) else ([], FY p l)).1 (if FY p l = 0 then (FJ p l, (0 : Int)) else ([], FY p l)).1 = some true := by
 by_cases h0 : FY p l = 0
 ·rw [if_pos h0]
  have hp := (DM (J0 h0).1).1
  have := MM hp l
  exact QV N hN (by omega) hp _ (by simp only; omega) (Rw h0 hw)
 ·rw [if_neg h0]
  unfold CZ
  obtain ⟨q, rfl⟩ : ∃ q, N = q + 1 := ⟨N - 1, by omega⟩
  rfl
theorem Vz {p : Aj} {l : List Ag} : (if FY p l = 0 then (FJ p l, (0 : Int)) else ([], FY p l)).2 = FY p l := by
 split
 ·rename_i h; exact h.symm
 ·rfl
theorem Qv (N : Nat) (hN : N ≤ 1000000) (l : List Ag) (hl : l.length ≤ 1000) (f : Ag → Option Bool) (hf : ∀ x, x ∈ l → ∃ b, f x = some b) : ∀ (n i : Nat), l.length - i < n → i ≤ l.length → ∃ r, Bp N l f (fun _ => some (-1)) n (i : Int) = some r
 | 0, i, h, _ => by omega
 | n + 1, i, h, hi => by
  rw [Bp]
  by_cases h1 : i < l.length
  ·have hx : l[i]? = some l[i] := by simp [h1]
   rw [AH (by omega)]
   simp only [Be, hx, oS]
   obtain ⟨b, e⟩ := hf _ (lM hx)
   rw [e]
   simp only [oS]
   cases b
   ·rw [Av, AZ (by omega)]
    exact Qv N hN l hl f hf n (i + 1) (by omega) (by omega)
   ·exact ⟨_, rfl⟩
  ·rw [AF (by omega)]; exact ⟨_, rfl⟩
theorem QB (N : Nat) (hN : N ≤ 1000000) (l : List Ag) (hl : l.length ≤ 1000) (h2 : l.length < N) (f : Ag → Option Bool) (hf : ∀ x, x ∈ l → ∃ b, f x = some b) : ∃ b, Bz N l f = some b := by
 unfold Bz CN
 obtain ⟨r, e⟩ := Qv N hN l hl f hf N 0 (by omega) (Nat.zero_le _)
 have e' : Bp N l f (fun _ => some (-1)) N 0 = some r := e
 rw [e']; exact ⟨_, rfl⟩
theorem Lc (p : Aj) (l : List Ag) (_ : KL p) (wl : Iu M9 l) : C6 2000 p l = some true := by
 have hw : ∀ m, m ∈ l → Iu JR m.fHeld := fun x hx => (wl x hx).2.2.1
 unfold C6
 simp only [Bk, PB, oS, Bool.not_true, Av]
 obtain ⟨b1, e1⟩ := SV 2000 (by omega) (by omega) p
 rw [e1]
 simp only [oS]
 cases b1
 ·rfl
 simp only [Bool.not_true, Av]
 by_cases h : (4 : Int) < (l.length : Int)
 ·rw [decide_eq_true h, AI, AI]
 rw [decide_eq_false h, Av]
 obtain ⟨b2, e2⟩ := QB 2000 (by omega) l (by omega) (by omega) (fun (x : Ag) => Ci 2000 x) (fun x _ => by
  obtain ⟨b, e, _⟩ := VH 2000 x
  exact ⟨!b, by unfold Ci; rw [e]; rfl⟩)
 rw [e2]
 simp only [oS]
 by_cases hb2 : b2 = true
 ·subst hb2; rfl
 have : b2 = false := by simpa using hb2
 subst this
 rw [Av]
 rw [OL 2000 (by omega) (by omega) p l (by omega) (by omega) hw, K4 2000 (by omega) (by omega) p l (by omega) (by omega) hw, Rn 2000 (by omega) (by omega) p l (by omega) (by omega) hw, Nl 2000 (by omega) (by omega) p l (by omega) (by omega) hw]
 obtain ⟨r, r1, _, r3⟩ := Rt 2000 (by omega) (by omega) p l (by omega) hw
 rw [r1]
 simp only [oS, bne_self_eq_false, Av, Vz]
 rw [Rz 2000 (by omega) (by omega) p l hw]
 simp only [oS, Bool.not_true, Av]
 -- the rest
 have rest : ((BA 2000 p).bind fun v34 =>
      AT ((v34 != 0))
       ((EI 2000 p).bind fun v36 =>
       AT ((v36.2 == v34))
        (AT (((v36.1.length : Int) == 0))
         ((DG 2000 p l).bind fun v40 =>
         some (!v40))
         (some false))
        (some false))
       (some true)) = some true := by
  rw [JQ 2000 p (by omega) (by omega)]
  simp only [oS]
  by_cases hv : Ce p = 0
  ·rw [hv, bne_self_eq_false, Av]
  ·have hn : (Ce p != 0) = true := bne_iff_ne.2 hv
   have hst : FI 2000 p = some (⟨[], [], []⟩, Ce p) := by rw [PK 2000 p (by omega) (by omega), if_neg hv]
   have r2 : Gn 2000 p = some (⟨[], [], []⟩, false, Ce p) := by
    unfold Gn; rw [hst]; simp only [oS, hn, AI]
   have c3 : FX 2000 p = some ([], Ce p) := by
    unfold FX; rw [r2]; simp only [Bk, oS, hn, AI]
   have c4 : EI 2000 p = some ([], Ce p) := by
    unfold EI; rw [c3]; simp only [oS, hn, AI]
   have c5 : DG 2000 p l = some false := by
    unfold DG; rw [hst]; simp only [oS, hn, AI]
   rw [hn, AI, c4, c5]
   simp only [oS, beq_self_eq_true, AI]
   rfl
 have mid : (AT ((decide (0 < (l.length : Int))))
      ((Bf l 0).bind fun v26 =>
      (D0 2000 p v26).bind fun v27 =>
      (EJ ((0 : Int) ≤ 1 ∧ 0 ≤ (1 : Int).toNat ∧ (1 : Int).toNat ≤ l.length)).bind fun _ =>
      (C0 2000 p (((l.drop 0).take ((1 : Int).toNat - 0)))).bind fun v29 =>
      AT ((v27.2 != v29.2))
       (AT true (some false) (some true))
       ((CZ 2000 v27.1 v29.1).bind fun v32 =>
       AT (!v32) (some false) (some true)))
      (some true)) = some true := by
  match l, h, hw with
  | [], _, _ => rfl
  | m :: l, h, hw =>
   rw [AH (by simp <;> omega), show Bf (m :: l) 0 = some m from rfl]
   simp only [oS]
   simp only [show EJ ((0 : Int) ≤ 1 ∧ 0 ≤ (1 : Int).toNat ∧ (1 : Int).toNat ≤ (m :: l).length) = some () from Qt (by simp), oS]
   have hwm : ∀ x, x ∈ [m] → Iu JR x.fHeld := fun x hx => by rw [List.mem_singleton.1 hx]; exact hw m (by simp)
   rw [Nh 2000 (by omega) (by omega) (hw m (by simp)), show (((m :: l).drop 0).take ((1 : Int).toNat - 0)) = [m] from rfl, K4 2000 (by omega) (by omega) p [m] (by simp) (by simp) hwm]
   simp only [oS]
   have hE : (if CW p m = 0 then (H0 p m, (0 : Int)) else ([], CW p m)) = (if FY p [m] = 0 then (FJ p [m], (0 : Int)) else ([], FY p [m])) := by
    have e1 : FY p [m] = CW p m := by
     unfold FY
     by_cases hv : Ce p = 0
     ·rw [if_neg (by simp [hv])]
      unfold Dk I7
      by_cases h0 : CW p m = 0
      ·rw [if_pos h0, h0]; rfl
      ·rw [if_neg h0]; rfl
     ·rw [if_pos hv, show CW p m = Ce p from by unfold CW; rw [if_pos hv]]
    have e2 : FJ p [m] = H0 p m := by unfold FJ DA DA; simp
    rw [e1, e2]
   rw [hE, bne_self_eq_false, Av, Td 2000 (by omega) (by omega) p [m] (by simp) hwm]
   rfl
 simp only [rest]
 rw [mid]
 by_cases h0 : FY p l = 0
 ·rw [h0, bne_self_eq_false, Av]
 ·rw [bne_iff_ne.2 h0, AI, if_neg h0, r3 h0]; rfl
instance Yq : Inhabited Ag := ⟨ES⟩
end Go.Lift
