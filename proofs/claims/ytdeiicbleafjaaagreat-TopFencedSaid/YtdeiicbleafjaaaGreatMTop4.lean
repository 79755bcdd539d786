/- Lemmas for TopFencedSaid, which YtdeiicbleafjaaaGreatFinT3 proves. -/
import Derived.Test.YtdeiicbleafjaaaGreatDec
import Derived.KernelRfl
open Bool renaming and_eq_true → zF, not_eq_true' → xF
open Int renaming le_refl → xG, tmod → zI, tmod_lt_of_pos → xM, tmod_nonneg → xQ
open List renaming all_eq_true → zC, getElem?_eq_getElem → yB, getElem?_map → zG, length_append → xA, length_cons → yO, length_map → zJ, mem_append → y9, mem_cons → zY, pairwise_iff_getElem → yU, range → yQ
open Nat renaming le_refl → yD
open Option renaming map_some → yE
namespace Go.Lift
open IntKind renaming wrap → wI
open Option renaming bind_some → oS
theorem Dm {n : Int} (h0 : -9223372036854775808 ≤ n) (h1 : n ≤ 9223372036854775807) : wI .i64 n = n := by
 simp [wI, IntKind.signed, IntKind.bits]; omega
theorem FE {α : Type} {b : Bool} {x y : Option α} (h : b = true) : AE b x y = x := by subst h; rfl
theorem DG {α : Type} {b : Bool} {x y : Option α} (h : b = false) : AE b x y = y := by subst h; rfl
theorem Du {α β : Type} (k : α) (f : α → β) : Bp k f = f k := rfl
theorem FY {β : Type} {p : Prop} [Decidable p] (h : p) (f : Unit → Option β) : (E6 p).bind f = f () := by unfold E6; rw [if_pos h]; rfl
theorem Pd {α : Type} (xs : List α) (i : Nat) : B9 xs (i : Int) = xs[i]? := by unfold B9; simp
theorem K4 {α : Type} {x y : Option α} : AE ((0 : Int) != 0) x y = y := rfl
theorem Ra {α : Type} {x y : Option α} : AE (!true) x y = y := rfl
def M7 (x : Int × Int) : AC := ⟨x.1, x.2, 0, ⟨#[]⟩⟩
def N3 (x : Int × Int) : ByteArray := DL [x.1, x.2, 0]
def P7 (x : Int × Int) : ByteArray := match DY 1000 (N3 x) with
 | some r => r.1
 | none => ⟨#[]⟩
def Qs (x : Int × Int) : Prop := (x.1 = 1 ∨ x.1 = 5) ∧ 0 ≤ x.2 ∧ x.2 ≤ 30
def RM (a b : ByteArray) : Bool := a.data.toList == b.data.toList
theorem Nw {a b : ByteArray} (h : RM a b = true) : a = b := by
 cases a with | mk a => cases b with | mk b =>
  have : a.toList = b.toList := by simpa [RM] using h
  rw [Array.toList_inj.1 this]
def Ug (a : AC) (x : Int × Int) : Bool := a.fw == x.1 && a.fe == x.2 && a.fy == 0 && RM a.fS ⟨#[]⟩
theorem SS {a : AC} {x : Int × Int} (h : Ug a x = true) : a = M7 x := by
 cases a with | mk k t i d =>
  simp only [Ug, zF, beq_iff_eq] at h
  obtain ⟨⟨⟨h1, h2⟩, h3⟩, h4⟩ := h
  subst h1; subst h2; subst h3
  rw [Nw h4]; rfl
def oB {α : Type} (o : Option α) (p : α → Bool) : Bool := match o with
 | some a => p a
 | none => false
theorem PV {α : Type} {o : Option α} {p : α → Bool} (h : oB o p = true) : ∃ a, o = some a ∧ p a = true := by
 cases o with
 | none => cases h
 | some a => exact ⟨a, rfl, h⟩
def Ux (x : Int × Int) : Bool :=
 oB (D9 1000 (M7 x)) (fun b => RM b (N3 x)) && (oB (DY 1000 (N3 x)) (fun r => r.2 == 0) && ((P7 x).size == 8 && (HH (P7 x) 0 == some 3 &&
  (oB (BV 1000 (P7 x)) (fun r => RM r.1 (N3 x) && (r.2.1 == 8 && r.2.2 == 0)) && oB (Et 1000 (N3 x)) (fun r => Ug r.1 x && r.2 == 0)))))
theorem Qx : (([1, 5] : List Int).all fun k => (yQ 31).all fun t => Ux (k, (t : Int))) = true := by kernel_rfl
structure VL (x : Int × Int) : Prop where
 fmt : D9 1000 (M7 x) = some (N3 x)
 frame : DY 1000 (N3 x) = some (P7 x, 0)
 size : (P7 x).size = 8
 first : HH (P7 x) 0 = some 3
 unf : BV 1000 (P7 x) = some (N3 x, 8, 0)
 parse : Et 1000 (N3 x) = some (M7 x, 0)
theorem TD {x : Int × Int} (h : Qs x) : VL x := by
 obtain ⟨k, t⟩ := x
 obtain ⟨h1, h2, h3⟩ := h
 have hk : k ∈ ([1, 5] : List Int) := by rcases h1 with h | h <;> (have h : k = _ := h; subst h; simp)
 have ht : t.toNat ∈ yQ 31 := by rw [List.mem_range]; have h3 : t ≤ 30 := h3; omega
 have hc := zC.1 (zC.1 Qx k hk) _ ht
 rw [show ((t.toNat : Nat) : Int) = t from Int.toNat_of_nonneg h2] at hc
 unfold Ux at hc
 simp only [zF] at hc
 obtain ⟨c1, c2, c3, c4, c5, c6⟩ := hc
 obtain ⟨b1, e1, d1⟩ := PV c1
 obtain ⟨b2, e2, d2⟩ := PV c2
 obtain ⟨b5, e5, d5⟩ := PV c5
 obtain ⟨b6, e6, d6⟩ := PV c6
 simp only [zF, beq_iff_eq] at d2 d5 d6 c3 c4
 refine ⟨?_, ?_, c3, c4, ?_, ?_⟩
 ·rw [e1, Nw d1]
 ·have : P7 (k, t) = b2.1 := by unfold P7; rw [e2]
  rw [e2, this, ← d2]
 ·rw [e5, ← Nw d5.1, ← d5.2.1, ← d5.2.2]
 ·rw [e6, ← SS d6.1, ← d6.2]
theorem T9 (b : ByteArray) (j : Unit → Option (Int × Int × Int)) (n : Nat) (hb : 1 ≤ b.size) (h3 : HH b 0 = some 3) : Dy 1000 b j (n + 1) (0, 0) = some (3, 1, 0) := by
 unfold Dy
 rw [FE (by unfold Ox; simp; omega), h3]
 simp only [oS, Du]
 rfl
theorem Wq (b : ByteArray) (hb : 1 ≤ b.size) (h3 : HH b 0 = some 3) : FC 1000 b = some (3, 1, 0) := T9 b _ 999 hb h3
def WQ (a b c d : Option Int) (e : ByteArray) : Option (ByteArray × Int × Int) :=
 a.bind fun v9 => b.bind fun v10 => c.bind fun v11 => d.bind fun v12 => (FG 1000 e).bind fun v13 =>
  AE (((O2 .u32 ((O2 .u32 ((O2 .u32 ((GI .u32 ((wI .u32 v9)) 24)) ((GI .u32 ((wI .u32 v10)) 16)))) ((GI .u32 ((wI .u32 v11)) 8)))) ((wI .u32 v12))) != v13))
   (some ((⟨#[]⟩ : ByteArray), 0, 17)) (some (e, 8, 0))
theorem ML (b : ByteArray) (hb : 8 ≤ b.size) (h3 : HH b 0 = some 3) : BV 1000 b = WQ (HH b 1) (HH b 2) (HH b 3) (HH b 4) (b.extract 5 8) := by
 unfold BV
 rw [Wq b (by omega) h3]
 simp only [oS, Du]
 have e1 : wI .i64 ((1 : Int) + 4) = 5 := rfl
 have e2 : wI .i64 ((5 : Int) + wI .i64 3) = 8 := rfl
 have e3 : wI .i64 ((1 : Int) + 1) = 2 := rfl
 have e4 : wI .i64 ((1 : Int) + 2) = 3 := rfl
 have e5 : wI .i64 ((1 : Int) + 3) = 4 := rfl
 rw [e1, e2, e3, e4, e5]
 rw [DG (by decide), FE (by decide), DG (by decide), DG (by decide), DG (decide_eq_false (by omega)), FY (by refine ⟨by decide, by decide, by decide, ?_⟩; exact hb)]
 rfl
theorem Jj {f r : ByteArray} {i : Int} (h0 : 0 ≤ i) (h : i.toNat < f.size) : HH (f ++ r) i = HH f i := by
 unfold HH
 rw [if_pos h0, if_pos h0, getElem?_pos f i.toNat h, getElem?_pos (f ++ r) i.toNat (by rw [ByteArray.size_append]; omega), ByteArray.getElem_append_left h]
theorem OQ (f r : ByteArray) (hf : f.size = 8) (h3 : HH f 0 = some 3) : BV 1000 (f ++ r) = BV 1000 f := by
 rw [ML (f ++ r) (by rw [ByteArray.size_append]; omega) (by rw [Jj (by decide) (by rw [hf]; decide)]; exact h3), ML f (by omega) h3,
  Jj (by decide) (by rw [hf]; decide), Jj (by decide) (by rw [hf]; decide), Jj (by decide) (by rw [hf]; decide), Jj (by decide) (by rw [hf]; decide)]
 rw [show (f ++ r).extract 5 8 = f.extract 5 8 from by rw [← hf]; exact ByteArray.extract_append_size_left]
def Ek : List (Int × Int) → ByteArray
 | [] => ⟨#[]⟩
 | x :: xs => P7 x ++ Ek xs
theorem Ju : ∀ (a b : List (Int × Int)), Ek (a ++ b) = Ek a ++ Ek b
 | [], b => by
  show Ek b = ByteArray.empty ++ Ek b
  rw [ByteArray.empty_append]
 | x :: a, b => by rw [List.cons_append, Ek, Ek, Ju a b, ByteArray.append_assoc]
theorem Iw : ∀ {a : List (Int × Int)}, (∀ x, x ∈ a → Qs x) → (Ek a).size = 8 * a.length
 | [], _ => rfl
 | x :: a, h => by
  rw [Ek, ByteArray.size_append, (TD (h x (by simp))).size, Iw (fun y hy => h y (by simp [hy])), yO]; omega
theorem Rc (j : (List AC × Int) → Option (List AC × Int × Int)) : ∀ (n : Nat) (done rest : List (Int × Int)), (∀ x, x ∈ done → Qs x) → (∀ x, x ∈ rest → Qs x) → rest.length < n → done.length + rest.length ≤ 1000 →
  Cl 1000 (Ek (done ++ rest)) j n (done.map M7, ((8 * done.length : Nat) : Int)) = j ((done ++ rest).map M7, ((8 * (done ++ rest).length : Nat) : Int))
 | 0, _, _, _, _, h, _ => by omega
 | n + 1, done, [], hd, _, _, _ => by
  unfold Cl
  rw [List.append_nil, DG (decide_eq_false (by rw [Iw hd]; omega))]
 | n + 1, done, x :: rest, hd, hr, hn, hl => by
  have hx := TD (hr x (by simp))
  have hda : ∀ y, y ∈ done ++ x :: rest → Qs y := fun y hy => (y9.1 hy).elim (hd y) (hr y)
  have hsz := Iw hda
  rw [xA, yO] at hsz
  rw [yO] at hl hn
  unfold Cl
  rw [FE (decide_eq_true (by rw [hsz]; simp only; omega)), FY (by refine ⟨by simp only; omega, ?_, yD _⟩; rw [hsz]; simp only; omega)]
  have hext : (Ek (done ++ x :: rest)).extract ((8 * done.length : Nat) : Int).toNat (Ek (done ++ x :: rest)).size = P7 x ++ Ek rest := by
   rw [Ju, Ek, ByteArray.size_append]
   exact ByteArray.extract_append_eq_right (by rw [Iw hd]; rfl) rfl
  simp only [hext]
  rw [OQ _ _ hx.size hx.first, hx.unf]
  simp only [oS]
  rw [K4, hx.parse]
  simp only [oS]
  rw [K4, FY (by simp [Hj]; omega)]
  have e1 : wI .i64 (((8 * done.length : Nat) : Int) + 8) = ((8 * (done ++ [x]).length : Nat) : Int) := by
   rw [Dm (by omega) (by omega), xA]; simp; omega
  have e2 : done.map M7 ++ [M7 x] = (done ++ [x]).map M7 := by simp
  have e3 : done ++ x :: rest = (done ++ [x]) ++ rest := by simp
  rw [e1, e2, e3]
  exact Rc j n (done ++ [x]) rest (fun y hy => hda y (by rw [e3]; simp only [y9] at hy ⊢; exact .inl hy)) (fun y hy => hr y (by simp [hy])) (by omega) (by rw [xA]; simp; omega)
theorem PH {es : List (Int × Int)} (h : ∀ x, x ∈ es → Qs x) (hl : es.length ≤ 500) : Dd 1000 (Ek es) = some (es.map M7, ((8 * es.length : Nat) : Int), 0) := by
 have := Rc (fun v2 => some (v2.1, v2.2, 0)) 1000 [] es (fun _ h => by cases h) h (by omega) (by simp; omega)
 exact this
def Ps (es : List (Int × Int)) : Int := es.foldl (fun m x => Hk m x.2) 0
theorem PR (es : List (Int × Int)) (hl : es.length ≤ 500) : ∀ (n i : Nat) (m : Int), i ≤ es.length → es.length - i < n →
  CJ 1000 (es.map M7) (fun v2 => some v2) n (m, (i : Int)) = some ((es.drop i).foldl (fun m x => Hk m x.2) m)
 | 0, _, _, _, h => by omega
 | n + 1, i, m, hi, h => by
  unfold CJ
  by_cases hlt : i < es.length
  ·rw [FE (decide_eq_true (by rw [zJ]; simp only; omega))]
   simp only [Pd]
   have hx : es[i]? = some es[i] := by simp [hlt]
   rw [zG, hx]
   simp only [yE, oS]
   rw [Dm (by omega) (by omega), show ((i : Int) + 1) = ((i + 1 : Nat) : Int) from rfl, PR es hl n (i + 1) _ hlt (by omega), List.drop_eq_getElem_cons hlt]
   rfl
  ·rw [DG (decide_eq_false (by rw [zJ]; simp only; omega)), List.drop_eq_nil_of_le (by omega)]
   rfl
theorem QL (es : List (Int × Int)) (hl : es.length ≤ 500) : Fn 1000 (es.map M7) = some (Ps es) := PR es hl 1000 0 0 (Nat.zero_le _) (by omega)
theorem OZ {es : List (Int × Int)} {x : Int × Int} (h : ∀ x, x ∈ es → Qs x) (hl : es.length ≤ 500) (hx : Qs x) : BE 1000 (Ek es) (M7 x) = if x.2 < Ps es then some (⟨#[]⟩, 16) else some (Ek (es ++ [x]), 0) := by
 have hf := TD hx
 have hv : CW 1000 (M7 x) = some true := by
  unfold CW
  rw [Du, FE (decide_eq_true (show 0 ≤ (M7 x).fw from by rcases hx.1 with h | h <;> (show (0 : Int) ≤ x.1; omega))), FE (decide_eq_true (show 0 ≤ (M7 x).fe from hx.2.1))]
  rfl
 have hsz := Iw h
 have hxt : (Ek es).extract 0 (((8 * es.length : Nat) : Int)).toNat = Ek es := by
  have := ByteArray.extract_append_eq_left (a := Ek es) (b := ByteArray.empty) (i := (Ek es).size) rfl
  rw [ByteArray.append_empty] at this
  rw [show (((8 * es.length : Nat) : Int)).toNat = (Ek es).size from by rw [hsz]; rfl]
  exact this
 unfold BE
 rw [hv]
 simp only [oS]
 rw [Ra, PH h hl]
 simp only [oS]
 rw [QL es hl]
 simp only [oS]
 by_cases hlt : x.2 < Ps es
 ·rw [if_pos hlt, FE (decide_eq_true (show (M7 x).fe < Ps es from hlt))]
 ·rw [if_neg hlt, DG (decide_eq_false (show ¬ (M7 x).fe < Ps es from hlt)), FY (by refine ⟨by omega, Nat.zero_le _, ?_⟩; rw [hsz]; exact yD _)]
  simp only [hxt]
  unfold EX
  rw [hv]
  simp only [oS]
  rw [Ra, hf.fmt]
  simp only [oS]
  rw [hf.frame]
  simp only [oS]
  rw [K4, FY (by rw [hsz, hf.size]; omega), Ju]
  show some (Ek es ++ P7 x, (0 : Int)) = some (Ek es ++ (P7 x ++ ByteArray.empty), 0)
  rw [ByteArray.append_empty]
def Iy (l : AB) (now : Int) : Bool := decide (0 ≤ l.fE) && (decide (0 ≤ now) && decide (now < l.fI))
def F9 (l : AB) (w t now : Int) : Bool := Iy l now && (l.fE == w && l.fe == t)
theorem NB (N : Nat) (l : AB) (now : Int) : Dw N l now = some (Iy l now) := by
 unfold Dw Iy
 rw [Du]
 cases decide (0 ≤ l.fE) <;> cases decide (0 ≤ now) <;> rfl
theorem NY (N : Nat) (l : AB) (w t now : Int) : Ed N l w t now = some (F9 l w t now) := by
 unfold Ed F9
 rw [Du, NB]
 simp only [oS]
 cases Iy l now <;> cases (l.fE == w) <;> rfl
structure OD (l : AB) (now : Int) : Prop where
 h0 : -1 ≤ l.fE
 t0 : 0 ≤ l.fe
 t1 : l.fe ≤ 30
 u0 : 0 ≤ l.fI
 u1 : l.fI ≤ 1000
 n0 : 0 ≤ now
 n1 : now ≤ 1000
theorem JH {N : Nat} {l : AB} {now : Int} (h : OD l now) : C3 N l = some true := by
 unfold C3
 rw [Du, FE (decide_eq_true h.h0), FE (decide_eq_true h.t0), decide_eq_true h.u0]
theorem Mt {N : Nat} {l : AB} {now w t ttl : Int} (h : OD l now) (hw : 0 ≤ w) (ht : 0 ≤ t) (h1 : 1 ≤ ttl) (h2 : ttl ≤ 100) : Dx N l w t now ttl = some 0 := by
 have := h.n0; have := h.n1
 unfold Dx
 rw [JH h]
 simp only [oS]
 rw [DG (by rfl), Du, DG (decide_eq_false (by omega)), DG (decide_eq_false (by omega)), DG (decide_eq_false (by omega)), DG (decide_eq_false (by omega)), Dm (by omega) (by omega), decide_eq_false (by omega)]
 rfl
theorem P5 {N : Nat} {l : AB} {now : Int} (h : OD l now) : EO N l now = some (if Iy l now = true then l.fE else -1) := by
 unfold EO
 rw [Du, JH h, NB]
 simp only [oS]
 rw [DG (by rfl)]
 cases Iy l now <;> rfl
theorem QM {N : Nat} {l : AB} {now w t : Int} (h : OD l now) : Fb N l w t now 0 = some (F9 l w t now) := by
 have := h.n0; have := h.n1; have := h.u0; have := h.u1
 unfold Fb
 rw [Du, JH h, NY]
 simp only [oS]
 rw [FE rfl, FE (by decide)]
 cases ho : F9 l w t now
 ·rfl
 ·have hh : Iy l now = true := by unfold F9 at ho; exact (zF _ _ ▸ ho).1
  unfold Iy at hh
  simp only [zF, decide_eq_true_eq] at hh
  rw [FE rfl, Dm (by omega) (by omega), decide_eq_true (by omega)]
theorem LA (N : Nat) (l : AB) (u : Int) : Eb N l u = some ⟨l.fE, l.fe, Hk l.fI u⟩ := rfl
theorem Ph {N : Nat} {l : AB} {now w ttl : Int} (h : OD l now) (hw : 0 ≤ w) (h1 : 1 ≤ ttl) (h2 : ttl ≤ 100) :
  Ey N l w now ttl = some (if Iy l now = true then (if l.fE = w then (⟨l.fE, l.fe, Hk l.fI (now + ttl)⟩, 0) else (⟨0, 0, 0⟩, 11)) else (⟨w, l.fe + 1, now + ttl⟩, 0)) := by
 have := h.n0; have := h.n1; have := h.t0; have := h.t1
 unfold Ey
 rw [Mt h hw (xG 0) h1 h2, NB, LA, Dm (n := now + ttl) (by omega) (by omega), Dm (n := l.fe + 1) (by omega) (by omega)]
 simp only [oS]
 rw [K4, Du]
 have ht : (l.fe == 9223372036854775807) = false := by rw [beq_eq_false_iff_ne]; omega
 rw [ht]
 cases Iy l now
 ·rfl
 ·rw [if_pos rfl]
  show AE (l.fE != w) (some (_, 11)) (some (_, 0)) = _
  by_cases e : l.fE = w
  ·rw [if_pos e, DG (by rw [e]; exact bne_self_eq_false w)]
  ·rw [if_neg e, FE (bne_iff_ne.2 e)]
theorem Qw {N : Nat} {l : AB} {now w t ttl : Int} (h : OD l now) (hw : 0 ≤ w) (ht : 0 ≤ t) (h1 : 1 ≤ ttl) (h2 : ttl ≤ 100) :
  Fe N l w t now ttl = some (if F9 l w t now = true then (⟨l.fE, l.fe, Hk l.fI (now + ttl)⟩, 0) else (⟨0, 0, 0⟩, 11)) := by
 have := h.n0; have := h.n1
 unfold Fe
 rw [Mt h hw ht h1 h2, NY, LA, Dm (n := now + ttl) (by omega) (by omega)]
 simp only [oS]
 rw [K4]
 cases F9 l w t now <;> rfl
theorem Pa {N : Nat} {l : AB} {now w t : Int} (h : OD l now) (hw : 0 ≤ w) (ht : 0 ≤ t) :
  Ev N l w t now = some (if F9 l w t now = true then (⟨-1, l.fe, 0⟩, 0) else (⟨0, 0, 0⟩, 11)) := by
 have := h.n0
 unfold Ev
 rw [JH h, NY]
 simp only [oS]
 rw [DG (by rfl), Du, DG (decide_eq_false (by omega)), DG (decide_eq_false (by omega)), decide_eq_false (by omega)]
 show AE (!F9 l w t now) (some (_, 11)) (some (_, 0)) = _
 cases F9 l w t now <;> rfl
theorem Tn : ∀ (es : List (Int × Int)) (m : Int), m ≤ es.foldl (fun m x => Hk m x.2) m ∧ ∀ x, x ∈ es → x.2 ≤ es.foldl (fun m x => Hk m x.2) m
 | [], m => ⟨xG m, fun _ h => by cases h⟩
 | y :: es, m => by
  obtain ⟨h1, h2⟩ := Tn es (Hk m y.2)
  have h3 : m ≤ Hk m y.2 := by unfold Hk; split <;> omega
  have h4 : y.2 ≤ Hk m y.2 := by unfold Hk; split <;> omega
  rw [List.foldl_cons]
  refine ⟨by omega, fun x hx => ?_⟩
  rcases zY.1 hx with e | e
  ·subst e; omega
  ·exact h2 x e
theorem Uh {es : List (Int × Int)} {x : Int × Int} (h : x ∈ es) : x.2 ≤ Ps es := (Tn es 0).2 x h
theorem R6 (es : List (Int × Int)) (x : Int × Int) : Ps (es ++ [x]) = Hk (Ps es) x.2 := by unfold Ps; rw [List.foldl_append]; rfl
structure TI (l : AB) (a b now : Int) (es : List (Int × Int)) (k : Nat) : Prop where
 n0 : 0 ≤ now
 n1 : now ≤ 7 * k
 h0 : -1 ≤ l.fE
 h1 : l.fE ≤ 1
 t0 : 0 ≤ l.fe
 t1 : l.fe ≤ k
 u0 : 0 ≤ l.fI
 u1 : l.fI ≤ 7 * k + 10
 a0 : 0 ≤ a
 a1 : a ≤ l.fe
 b0 : 0 ≤ b
 b1 : b ≤ l.fe
 ab : a = b → a = 0
 ha : l.fE = 0 → a = l.fe
 hb : l.fE = 1 → b = l.fe
 ok : ∀ x, x ∈ es → Qs x
 len : es.length ≤ k
 mx : Ps es = l.fe
 so : es.Pairwise (fun x y => x.2 ≤ y.2)
theorem TI.lok {l : AB} {a b now : Int} {es : List (Int × Int)} {k : Nat} (h : TI l a b now es k) (hk : k ≤ 30) : OD l now :=
 ⟨h.h0, h.t0, by have := h.t1; omega, h.u0, by have := h.u1; omega, h.n0, by have := h.n1; omega⟩
theorem TI.later {l : AB} {a b now : Int} {es : List (Int × Int)} {k : Nat} (h : TI l a b now es k) {d : Int} (h0 : 0 ≤ d) (h1 : d ≤ 7) : TI l a b (now + d) es (k + 1) := by
 obtain ⟨n0, n1, h0', h1', t0, t1, u0, u1, a0, a1, b0, b1, ab, ha, hb, ok, len, mx, so⟩ := h
 exact ⟨by omega, by omega, h0', h1', t0, by omega, u0, by omega, a0, a1, b0, b1, ab, ha, hb, ok, by omega, mx, so⟩
def Lk (w a b : Int) : Int := if w = 0 then a else b
theorem JJ {w : Int} (h : w = 0 ∨ w = 1) (a b : Int) : B9 [a, b] w = some (Lk w a b) := by rcases h with h | h <;> subst h <;> rfl
theorem TI.write {l : AB} {a b now : Int} {es : List (Int × Int)} {k : Nat} (h : TI l a b now es k) (hk : k ≤ 30) {w : Int} :
  BE 1000 (Ek es) ⟨1, Lk w a b, 0, ⟨#[]⟩⟩ = if Lk w a b < l.fe then some (⟨#[]⟩, 16) else some (Ek (es ++ [(1, Lk w a b)]), 0) := by
 have h1 := h.len; have h2 := h.a0; have h3 := h.a1; have h4 := h.b0; have h5 := h.b1; have h6 := h.t1
 have hs : 0 ≤ Lk w a b ∧ Lk w a b ≤ 30 := by unfold Lk; split <;> omega
 have := OZ (es := es) (x := (1, Lk w a b)) h.ok (by omega) ⟨.inl rfl, hs.1, hs.2⟩
 rw [h.mx] at this
 exact this
theorem S3 {l : AB} {a b now : Int} {es : List (Int × Int)} {k : Nat} (h : TI l a b now es k) {w : Int} (hw : w = 0 ∨ w = 1) (e : l.fE = w) : Lk w a b = l.fe := by
 rcases hw with rfl | rfl
 ·exact h.ha e
 ·exact h.hb e
theorem RB {l : AB} {a b now : Int} {es : List (Int × Int)} {k : Nat} (h : TI l a b now es k) (w : Int) : 0 ≤ Lk w a b ∧ Lk w a b ≤ l.fe := by
 have h2 := h.a0; have h3 := h.a1; have h4 := h.b0; have h5 := h.b1
 unfold Lk; split <;> omega
def N6 (t : Int) (T : Int) : Bool := decide (0 < t) && !decide (t < T)
theorem Ti {l : AB} {a b now : Int} {es : List (Int × Int)} {k : Nat} (h : TI l a b now es k) (hk : k ≤ 30) (v6 : AB × (List Int) × Int × ByteArray × Int) (v10 : Ch)
  (hn : wI .i64 (v6.2.2.1 + (wI .i64 ((zI v10.fB 8)))) = now) (j : (Int × Int) → Option Bool) (w : Int) (hw : w = 0 ∨ w = 1) (n : Nat) (x y : Int) (hx : 0 ≤ x ∧ x ≤ 2) (hy : 0 ≤ y ∧ y ≤ 2) :
  AK 1000 v6 v10 (l, [a, b], Ek es) j (n + 1) (x, y, w) = AK 1000 v6 v10 (l, [a, b], Ek es) j n
   ((if F9 l w (Lk w a b) now = true then x + 1 else x), (if N6 (Lk w a b) l.fe = true then y + 1 else y), w + 1) := by
 have hs := RB h w
 rw [AK]
 have hw2 : w < 2 := by omega
 rw [FE (decide_eq_true hw2), Du, Du, FY (by rfl)]
 simp only [JJ hw, oS, hn, QM (h.lok hk), Du]
 rw [Dm (n := x + 1) (by omega) (by omega), Dm (n := y + 1) (by omega) (by omega), Dm (n := w + 1) (by omega) (by omega)]
 have key : ∀ x' : Int, ((E6 ([a, b].length = 2)).bind fun _ => (BE 1000 (Ek es) (AC.mk 1 (Lk w a b) 0 ⟨#[]⟩)).bind fun v53 =>
   (E6 ([a, b].length = 2)).bind fun _ => AE (decide (0 < Lk w a b)) (AE (v53.2 == 0) (AK 1000 v6 v10 (l, [a, b], Ek es) j n (x', y + 1, w + 1)) (AK 1000 v6 v10 (l, [a, b], Ek es) j n (x', y, w + 1)))
    (AE false (AK 1000 v6 v10 (l, [a, b], Ek es) j n (x', y + 1, w + 1)) (AK 1000 v6 v10 (l, [a, b], Ek es) j n (x', y, w + 1)))) =
   AK 1000 v6 v10 (l, [a, b], Ek es) j n (x', (if N6 (Lk w a b) l.fe = true then y + 1 else y), w + 1) := by
  intro x'
  rw [FY (by rfl), h.write hk]
  unfold N6
  by_cases h1 : Lk w a b < l.fe
  ·rw [if_pos h1, decide_eq_true h1]
   simp only [oS]
   rw [FY (by rfl)]
   cases decide (0 < Lk w a b) <;> rfl
  ·rw [if_neg h1, decide_eq_false h1]
   simp only [oS]
   rw [FY (by rfl)]
   cases decide (0 < Lk w a b) <;> rfl
 cases ho : F9 l w (Lk w a b) now
 ·exact key x
 ·exact key (x + 1)
theorem UG (es : List (Int × Int)) (hl : es.length ≤ 500) (so : es.Pairwise (fun x y => x.2 ≤ y.2)) (p q : Int) (j : Unit → Option Bool) : ∀ (n i : Nat), 1 ≤ i → es.length - i < n →
  Bt 1000 (es.map M7, p, q) j n (i : Int) = j ()
 | 0, _, _, h => by omega
 | n + 1, i, hi, h => by
  unfold Bt
  by_cases hlt : i < es.length
  ·rw [FE (decide_eq_true (by simp only [zJ]; omega))]
   rw [Dm (n := (i : Int) - 1) (by omega) (by omega), Dm (n := (i : Int) + 1) (by omega) (by omega)]
   rw [show (i : Int) - 1 = ((i - 1 : Nat) : Int) from by omega]
   simp only [Pd]
   rw [zG, zG, yB hlt, yB (show i - 1 < es.length from by omega)]
   simp only [yE, oS]
   have := yU.1 so (i - 1) i (by omega) hlt (by omega)
   rw [DG (decide_eq_false (show ¬ (M7 es[i]).fe < (M7 es[i - 1]).fe from by show ¬ es[i].2 < es[i - 1].2; omega))]
   exact UG es hl so p q j n (i + 1) (by omega) (by omega)
  ·rw [DG (decide_eq_false (by simp only [zJ]; omega))]
theorem Qt {l : AB} {s t now : Int} (h0 : F9 l 0 s now = true) (h1 : F9 l 1 t now = true) : False := by
 unfold F9 at h0 h1
 simp only [zF, beq_iff_eq] at h0 h1
 omega
theorem Rv {l : AB} {a b now : Int} {es : List (Int × Int)} {k : Nat} (h : TI l a b now es k) (h0 : N6 a l.fe = true) (h1 : N6 b l.fe = true) : False := by
 unfold N6 at h0 h1
 simp only [zF, decide_eq_true_eq, xF, decide_eq_false_iff_not] at h0 h1
 have := h.a1; have := h.b1; have := h.ab
 omega
theorem QV {l : AB} {a b now : Int} {es : List (Int × Int)} {k : Nat} (h : TI l a b now es k) (hk : k ≤ 30) (v6 : AB × (List Int) × Int × ByteArray × Int) (v10 : Ch)
  (hn : wI .i64 (v6.2.2.1 + (wI .i64 ((zI v10.fB 8)))) = now) (j : Unit → Option Bool) :
  ((Dd 1000 (Ek es)).bind fun v40 =>
    AE ((v40.2.2 != 0))
     (some false)
     (AK 1000 v6 v10 (l, [a, b], Ek es) (fun (v43 : Int × Int) =>
      Bp (fun (v59 : Bool) =>
       AE v59
        (some false)
        (Bt 1000 v40 j 1000 1))
      fun j59 =>
      AE ((decide (1 < v43.1)))
       (j59 true)
       (j59 (decide (1 < v43.2)))) 1000 (0, 0, 0))) = j () := by
 have hl := h.len
 rw [PH h.ok (by omega)]
 simp only [oS]
 rw [K4, Ti h hk v6 v10 hn _ 0 (.inl rfl) 999 0 0 (by omega) (by omega), Ti h hk v6 v10 hn _ (0 + 1) (.inr rfl) 998 _ _ (by split <;> omega) (by split <;> omega)]
 rw [show (0 + 1 + 1 : Int) = 2 from rfl, show (0 + 1 : Int) = 1 from rfl]
 rw [AK, DG (by rfl), Du]
 have e0 : Lk 0 a b = a := rfl
 have e1 : Lk 1 a b = b := rfl
 rw [e0, e1]
 have hx : ¬ (1 : Int) < (if F9 l 1 b now = true then (if F9 l 0 a now = true then 1 else 0) + 1 else (if F9 l 0 a now = true then 1 else 0)) := by
  split
  ·rename_i h1
   split
   ·rename_i h0; exact (Qt h0 h1).elim
   ·omega
  ·split <;> omega
 have hy : ¬ (1 : Int) < (if N6 b l.fe = true then (if N6 a l.fe = true then 1 else 0) + 1 else (if N6 a l.fe = true then 1 else 0)) := by
  split
  ·rename_i h1
   split
   ·rename_i h0; exact (Rv h h0 h1).elim
   ·omega
  ·split <;> omega
 rw [DG (decide_eq_false hx), decide_eq_false hy]
 exact UG es (by omega) h.so _ _ j 1000 1 (yD 1) (by omega)
theorem Sm {a b c : Int} (h1 : a ≤ c) (h2 : b ≤ c) : Hk a b ≤ c := by unfold Hk; split <;> omega
theorem Su (a b : Int) : a ≤ Hk a b := by unfold Hk; split <;> omega
theorem Qe {l : AB} {now : Int} (h : Iy l now = true) : 0 ≤ l.fE := by
 unfold Iy at h
 simp only [zF, decide_eq_true_eq] at h
 exact h.1
theorem TI.ext {l : AB} {a b now : Int} {es : List (Int × Int)} {k : Nat} (h : TI l a b now es k) {ttl : Int} (h1 : 1 ≤ ttl) (h2 : ttl ≤ 10) :
  TI ⟨l.fE, l.fe, Hk l.fI (now + ttl)⟩ a b now es k := by
 obtain ⟨n0, n1, h0', h1', t0, t1, u0, u1, a0, a1, b0, b1, ab, ha, hb, ok, len, mx, so⟩ := h
 exact ⟨n0, n1, h0', h1', t0, t1, Int.le_trans u0 (Su _ _), Sm u1 (by omega), a0, a1, b0, b1, ab, ha, hb, ok, len, mx, so⟩
theorem TI.rel {l : AB} {a b now : Int} {es : List (Int × Int)} {k : Nat} (h : TI l a b now es k) : TI ⟨-1, l.fe, 0⟩ a b now es k := by
 obtain ⟨n0, n1, h0', h1', t0, t1, u0, u1, a0, a1, b0, b1, ab, ha, hb, ok, len, mx, so⟩ := h
 exact ⟨n0, n1, xG _, by show (-1 : Int) ≤ 1; decide, t0, t1, xG _, by show (0 : Int) ≤ _; omega, a0, a1, b0, b1, ab, (fun e => by have e : (-1 : Int) = 0 := e; omega), (fun e => by have e : (-1 : Int) = 1 := e; omega), ok, len, mx, so⟩
theorem Rz {es : List (Int × Int)} {x : Int × Int} (so : es.Pairwise (fun x y => x.2 ≤ y.2)) (h : Ps es ≤ x.2) : (es ++ [x]).Pairwise (fun x y => x.2 ≤ y.2) := by
 rw [List.pairwise_append]
 refine ⟨so, List.pairwise_singleton _ _, fun y hy z hz => ?_⟩
 rw [List.mem_singleton] at hz
 subst hz
 have := Uh hy
 omega
theorem QQ {es : List (Int × Int)} {x : Int × Int} (h : ∀ y, y ∈ es → Qs y) (hx : Qs x) : ∀ y, y ∈ es ++ [x] → Qs y := by
 intro y hy
 rcases y9.1 hy with e | e
 ·exact h y e
 ·rw [List.mem_singleton] at e; subst e; exact hx
theorem Ru {es : List (Int × Int)} {x : Int × Int} (h : Ps es ≤ x.2) : Ps (es ++ [x]) = x.2 := by rw [R6]; unfold Hk; split <;> omega
theorem TI.app {l : AB} {a b now : Int} {es : List (Int × Int)} {k : Nat} (h : TI l a b now es k) (hk : k ≤ 30) (hlen : es.length + 1 ≤ k) :
  TI l a b now (es ++ [(1, l.fe)]) k := by
 obtain ⟨n0, n1, h0', h1', t0, t1, u0, u1, a0, a1, b0, b1, ab, ha, hb, ok, len, mx, so⟩ := h
 exact ⟨n0, n1, h0', h1', t0, t1, u0, u1, a0, a1, b0, b1, ab, ha, hb, QQ ok ⟨.inl rfl, t0, by show l.fe ≤ 30; omega⟩, by rw [xA]; exact hlen, Ru (by rw [mx]; exact xG _), Rz so (by rw [mx]; exact xG _)⟩
theorem TI.new {l : AB} {a b now : Int} {es : List (Int × Int)} {k : Nat} (h : TI l a b now es k) (hk : k ≤ 30) (hlen : es.length + 1 ≤ k) (ht : l.fe + 1 ≤ k) {w ttl : Int} (hw : w = 0 ∨ w = 1) (h1 : 1 ≤ ttl) (h2 : ttl ≤ 10) :
  TI ⟨w, l.fe + 1, now + ttl⟩ (if w = 0 then l.fe + 1 else a) (if w = 0 then b else l.fe + 1) now (es ++ [(5, l.fe + 1)]) k := by
 obtain ⟨n0, n1, h0', h1', t0, t1, u0, u1, a0, a1, b0, b1, ab, ha, hb, ok, len, mx, so⟩ := h
 have hm : Ps es ≤ l.fe + 1 := by omega
 refine ⟨n0, n1, by show -1 ≤ w; omega, by show w ≤ 1; omega, by show 0 ≤ l.fe + 1; omega, ht, by show 0 ≤ now + ttl; omega, by show now + ttl ≤ _; omega, ?_, ?_, ?_, ?_, ?_, ?_, ?_, QQ ok ⟨.inr rfl, by show 0 ≤ l.fe + 1; omega, by show l.fe + 1 ≤ 30; omega⟩, by rw [xA]; exact hlen, Ru hm, Rz so hm⟩
 ·split <;> omega
 ·show _ ≤ l.fe + 1; split <;> omega
 ·split <;> omega
 ·show _ ≤ l.fe + 1; split <;> omega
 ·rcases hw with rfl | rfl
  ·rw [if_pos rfl, if_pos rfl]; omega
  ·rw [if_neg (by decide), if_neg (by decide)]; omega
 ·intro e; have e : w = 0 := e; rw [if_pos e]
 ·intro e; have e : w = 1 := e; rw [if_neg (by omega)]
theorem R3 {w : Int} (hw : w = 0 ∨ w = 1) (a b t : Int) : [a, b].set w.toNat t = [if w = 0 then t else a, if w = 0 then b else t] := by rcases hw with rfl | rfl <;> rfl
theorem TI.write5 {l : AB} {a b now : Int} {es : List (Int × Int)} {k : Nat} (h : TI l a b now es k) (hk : k ≤ 30) (ht : l.fe + 1 ≤ 30) :
  BE 1000 (Ek es) ⟨5, l.fe + 1, 0, ⟨#[]⟩⟩ = some (Ek (es ++ [(5, l.fe + 1)]), 0) := by
 have h1 := h.len; have h2 := h.t0; have h3 := h.mx
 have := OZ (es := es) (x := (5, l.fe + 1)) h.ok (by omega) ⟨.inr rfl, by show 0 ≤ l.fe + 1; omega, ht⟩
 rw [if_neg (by show ¬ l.fe + 1 < Ps es; omega)] at this
 exact this
theorem L0 {x : Int} (h : 0 ≤ x) : zI x 2 = 0 ∨ zI x 2 = 1 := by
 have := xQ 2 h; have := xM x (show (0 : Int) < 2 by decide); omega
theorem Pn {x : Int} (h : Uj x) : 0 ≤ x := by
 unfold Uj at h
 simp [Lit.wf] at h
 have e : IntKind.u8.min = 0 := rfl
 omega
theorem PM (p0 : List Ch) (hp : Vz Fd p0) (hl : p0.length ≤ 30) : ∀ (n k : Nat) (l : AB) (a b now : Int) (es : List (Int × Int)), TI l a b now es k → k ≤ p0.length → p0.length - k < n →
  Bl 1000 p0 (fun _ => some true) n (l, [a, b], now, Ek es, (k : Int)) = some true
 | 0, _, _, _, _, _, _, _, _, h => by omega
 | n + 1, k, l, a, b, now, es, hi, hk, h => by
  rw [Bl]
  by_cases hlt : k < p0.length
  ·rw [FE (decide_eq_true (by simp only; omega)), Du]
   simp only [Pd]
   rw [yB hlt]
   simp only [oS]
   generalize hx : p0[k] = x
   have wx := hp _ (List.getElem_mem hlt)
   rw [hx] at wx
   obtain ⟨w1, _, w3, w4, _⟩ := wx
   have w1 := Pn w1; have w3 := Pn w3; have w4 := Pn w4
   -- the numbers
   obtain ⟨w, hw, ew⟩ : ∃ w, (w = 0 ∨ w = 1) ∧ wI .i64 (zI x.fH 2) = w := ⟨_, L0 w1, Dm (by have := L0 w1; omega) (by have := L0 w1; omega)⟩
   have d0 := xQ 8 w3
   have d1 := xM x.fB (show (0 : Int) < 8 by decide)
   have q0 := xQ 10 w4
   have q1 := xM x.fQ (show (0 : Int) < 10 by decide)
   have hi2 := hi.later d0 (by omega)
   have nb0 := hi2.n0
   have nb1 := hi2.n1
   have en : wI .i64 (now + wI .i64 (zI x.fB 8)) = now + zI x.fB 8 := by
    rw [Dm (n := zI x.fB 8) (by omega) (by omega), Dm (by omega) (by omega)]
   have et : wI .i64 (1 + wI .i64 (zI x.fQ 10)) = 1 + zI x.fQ 10 := by
    rw [Dm (n := zI x.fQ 10) (by omega) (by omega), Dm (by omega) (by omega)]
   have e1 : wI .i64 (1 - w) = 1 - w := Dm (by omega) (by omega)
   have ek : wI .i64 ((k : Int) + 1) = ((k + 1 : Nat) : Int) := by rw [Dm (by omega) (by omega)]; rfl
   simp only [ew, e1, ek, et, en]
   have hk1 : k + 1 ≤ 30 := by omega
   have next : ∀ (l : AB) (a b : Int) (es : List (Int × Int)), TI l a b (now + zI x.fB 8) es (k + 1) →
     Bl 1000 p0 (fun _ => some true) n (l, [a, b], now + zI x.fB 8, Ek es, ((k + 1 : Nat) : Int)) = some true := by
    intro l a b es ht
    exact PM p0 hp hl n (k + 1) l a b _ es ht (by omega) (by omega)
   rw [Du]
   have chkd : ∀ (l : AB) (a b : Int) (es : List (Int × Int)), TI l a b (now + zI x.fB 8) es (k + 1) → _ = some true := fun l' a' b' es' ht =>
    (QV ht hk1 (l, [a, b], now, Ek es, (k : Int)) x en (fun _ => Bl 1000 p0 (fun _ => some true) n (l', [a', b'], now + zI x.fB 8, Ek es', ((k + 1 : Nat) : Int)))).trans (next l' a' b' es' ht)
   have hlen := hi.len
   have ht1 := hi.t1
   have hlok := hi2.lok hk1
   have hwn : 0 ≤ w := by omega
   have hs := RB hi2 w
   by_cases k0 : zI x.fw 4 = 0
   ·rw [FE (beq_iff_eq.2 k0), Ph hlok hwn (by omega) (by omega)]
    simp only [oS]
    cases hh : Iy l (now + zI x.fB 8)
    ·rw [if_neg (by decide)]
     simp only
     rw [DG (by rfl), FY (by rfl), JJ hw]
     simp only [oS]
     rw [FE (by rw [bne_iff_ne]; omega), FY (by rfl)]
     rw [hi2.write5 hk1 (by omega)]
     simp only [oS]
     rw [DG (by rfl), R3 hw]
     exact chkd _ _ _ _ (hi2.new hk1 (by omega) (by omega) hw (by omega) (by omega))
    ·rw [if_pos rfl]
     by_cases e : l.fE = w
     ·rw [if_pos e]
      simp only
      rw [DG (by rfl), FY (by rfl), JJ hw]
      simp only [oS]
      rw [DG (by rw [S3 hi2 hw e]; exact bne_self_eq_false _)]
      exact chkd _ _ _ _ (hi2.ext (by omega) (by omega))
     ·rw [if_neg e]
      simp only
      rw [FE (by decide), Du, DG (by decide), P5 hlok]
      simp only [oS]
      have h0 := Qe hh
      have h1 := hi2.h1
      rw [hh, if_pos rfl, DG (by rw [bne_eq_false_iff_eq]; omega)]
      exact next _ _ _ _ hi2
   ·rw [DG (by rw [beq_eq_false_iff_ne]; exact k0)]
    by_cases k1 : zI x.fw 4 = 1
    ·rw [FE (beq_iff_eq.2 k1), FY (by rfl), JJ hw]
     simp only [oS]
     rw [Qw hlok hwn hs.1 (by omega) (by omega)]
     simp only [oS]
     cases F9 l w (Lk w a b) (now + zI x.fB 8)
     ·rw [if_neg (by decide)]
      exact chkd _ _ _ _ hi2
     ·rw [if_pos rfl]
      exact chkd _ _ _ _ (hi2.ext (by omega) (by omega))
    ·rw [DG (by rw [beq_eq_false_iff_ne]; exact k1)]
     by_cases k2 : zI x.fw 4 = 2
     ·rw [FE (beq_iff_eq.2 k2), FY (by rfl), JJ hw]
      simp only [oS]
      rw [Pa hlok hwn hs.1]
      simp only [oS]
      cases F9 l w (Lk w a b) (now + zI x.fB 8)
      ·rw [if_neg (by decide)]
       exact chkd _ _ _ _ hi2
      ·rw [if_pos rfl]
       exact chkd _ _ _ _ hi2.rel
     ·rw [DG (by rw [beq_eq_false_iff_ne]; exact k2), FY (by rfl), JJ hw]
      simp only [oS]
      rw [hi2.write hk1]
      by_cases hs2 : Lk w a b < l.fe
      ·rw [if_pos hs2]
       exact chkd _ _ _ _ hi2
      ·rw [if_neg hs2, show Lk w a b = l.fe from by omega]
       exact chkd _ _ _ _ (hi2.app hk1 (by omega))
  ·rw [DG (decide_eq_false (by simp only; omega))]
theorem NU : C7 1000 = some true := by kernel_rfl
theorem LP (p0 : List Ch) (hp : Vz Fd p0) : CG 1000 p0 = some true := by
 unfold CG
 rw [Du, NU]
 simp only [oS]
 rw [Ra]
 by_cases hl : p0.length ≤ 30
 ·rw [decide_eq_false (by omega)]
  refine PM p0 hp hl 1000 0 ⟨-1, 0, 0⟩ 0 0 0 [] ?_ (Nat.zero_le _) (by omega)
  exact ⟨by decide, by decide, by decide, by decide, by decide, by decide, by decide, by decide, by decide, by decide, by decide, by decide, fun _ => rfl, fun _ => rfl, fun _ => rfl, (fun _ h => by cases h), yD 0, rfl, List.Pairwise.nil⟩
 ·rw [decide_eq_true (by omega)]
  rfl
end Go.Lift
