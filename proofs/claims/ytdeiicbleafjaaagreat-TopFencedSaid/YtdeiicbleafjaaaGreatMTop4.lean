import Derived.Test.YtdeiicbleafjaaaGreatDec
import Derived.KernelRfl
open Bool renaming and_eq_true → uA, not_eq_true' → zB1
open Int renaming le_refl → zB2, tmod → uF, tmod_lt_of_pos → zB7, tmod_nonneg → zC1
open List renaming all_eq_true → x8, getElem?_eq_getElem → uY, getElem?_map → uB, length_append → zA7, length_cons → vS, length_map → uG, mem_append → zA6, mem_cons → uU, pairwise_iff_getElem → vY, range → vU
open Nat renaming le_refl → vC
open Option renaming map_some → vF
namespace Go.Lift
open IntKind renaming wrap → wI
open Option renaming bind_some → oS
theorem Dk {n : Int} (h0 : -9223372036854775808 ≤ n) (h1 : n ≤ 9223372036854775807) : wI .i64 n = n := by
 simp [wI, IntKind.signed, IntKind.bits]; omega
theorem FG {α : Type} {b : Bool} {x y : Option α} (h : b = true) : AE b x y = x := by subst h; rfl
theorem DC {α : Type} {b : Bool} {x y : Option α} (h : b = false) : AE b x y = y := by subst h; rfl
theorem Dq {α β : Type} (k : α) (f : α → β) : Bp k f = f k := rfl
theorem F3 {β : Type} {p : Prop} [Decidable p] (h : p) (f : Unit → Option β) : (E6 p).bind f = f () := by unfold E6; rw [if_pos h]; rfl
theorem Pw {α : Type} (xs : List α) (i : Nat) : Cc xs (i : Int) = xs[i]? := by unfold Cc; simp
theorem K9 {α : Type} {x y : Option α} : AE ((0 : Int) != 0) x y = y := rfl
theorem RS {α : Type} {x y : Option α} : AE (!true) x y = y := rfl
def M0 (x : Int × Int) : AC := ⟨x.1, x.2, 0, ⟨#[]⟩⟩
def Nt (x : Int × Int) : ByteArray := DK [x.1, x.2, 0]
def Qk (x : Int × Int) : ByteArray := match D0 1000 (Nt x) with
 | some r => r.1
 | none => ⟨#[]⟩
def Qp (x : Int × Int) : Prop := (x.1 = 1 ∨ x.1 = 5) ∧ 0 ≤ x.2 ∧ x.2 ≤ 30
def RD (a b : ByteArray) : Bool := a.data.toList == b.data.toList
theorem NQ {a b : ByteArray} (h : RD a b = true) : a = b := by
 cases a with | mk a => cases b with | mk b =>
  have : a.toList = b.toList := by simpa [RD] using h
  rw [Array.toList_inj.1 this]
def Uh (a : AC) (x : Int × Int) : Bool := a.fw == x.1 && a.fe == x.2 && a.fy == 0 && RD a.fS ⟨#[]⟩
theorem SV {a : AC} {x : Int × Int} (h : Uh a x = true) : a = M0 x := by
 cases a with | mk k t i d =>
  simp only [Uh, uA, beq_iff_eq] at h
  obtain ⟨⟨⟨h1, h2⟩, h3⟩, h4⟩ := h
  subst h1; subst h2; subst h3
  rw [NQ h4]; rfl
def oB {α : Type} (o : Option α) (p : α → Bool) : Bool := match o with
 | some a => p a
 | none => false
theorem PR {α : Type} {o : Option α} {p : α → Bool} (h : oB o p = true) : ∃ a, o = some a ∧ p a = true := by
 cases o with
 | none => cases h
 | some a => exact ⟨a, rfl, h⟩
def Vi (x : Int × Int) : Bool :=
 oB (D6 1000 (M0 x)) (fun b => RD b (Nt x)) && (oB (D0 1000 (Nt x)) (fun r => r.2 == 0) && ((Qk x).size == 8 && (HO (Qk x) 0 == some 3 &&
  (oB (BW 1000 (Qk x)) (fun r => RD r.1 (Nt x) && (r.2.1 == 8 && r.2.2 == 0)) && oB (Ez 1000 (Nt x)) (fun r => Uh r.1 x && r.2 == 0)))))
theorem Rk : (([1, 5] : List Int).all fun k => (vU 31).all fun t => Vi (k, (t : Int))) = true := by kernel_rfl
structure Wd (x : Int × Int) : Prop where
 fmt : D6 1000 (M0 x) = some (Nt x)
 frame : D0 1000 (Nt x) = some (Qk x, 0)
 size : (Qk x).size = 8
 first : HO (Qk x) 0 = some 3
 unf : BW 1000 (Qk x) = some (Nt x, 8, 0)
 parse : Ez 1000 (Nt x) = some (M0 x, 0)
theorem TH {x : Int × Int} (h : Qp x) : Wd x := by
 obtain ⟨k, t⟩ := x
 obtain ⟨h1, h2, h3⟩ := h
 have hk : k ∈ ([1, 5] : List Int) := by rcases h1 with h | h <;> (have h : k = _ := h; subst h; simp)
 have ht : t.toNat ∈ vU 31 := by rw [List.mem_range]; have h3 : t ≤ 30 := h3; omega
 have hc := x8.1 (x8.1 Rk k hk) _ ht
 rw [show ((t.toNat : Nat) : Int) = t from Int.toNat_of_nonneg h2] at hc
 unfold Vi at hc
 simp only [uA] at hc
 obtain ⟨c1, c2, c3, c4, c5, c6⟩ := hc
 obtain ⟨b1, e1, d1⟩ := PR c1
 obtain ⟨b2, e2, d2⟩ := PR c2
 obtain ⟨b5, e5, d5⟩ := PR c5
 obtain ⟨b6, e6, d6⟩ := PR c6
 simp only [uA, beq_iff_eq] at d2 d5 d6 c3 c4
 refine ⟨?_, ?_, c3, c4, ?_, ?_⟩
 ·rw [e1, NQ d1]
 ·have : Qk (k, t) = b2.1 := by unfold Qk; rw [e2]
  rw [e2, this, ← d2]
 ·rw [e5, ← NQ d5.1, ← d5.2.1, ← d5.2.2]
 ·rw [e6, ← SV d6.1, ← d6.2]
theorem Uc (b : ByteArray) (j : Unit → Option (Int × Int × Int)) (n : Nat) (hb : 1 ≤ b.size) (h3 : HO b 0 = some 3) : Dz 1000 b j (n + 1) (0, 0) = some (3, 1, 0) := by
 unfold Dz
 rw [FG (by unfold OG; simp; omega), h3]
 simp only [oS, Dq]
 rfl
theorem VW (b : ByteArray) (hb : 1 ≤ b.size) (h3 : HO b 0 = some 3) : FE 1000 b = some (3, 1, 0) := Uc b _ 999 hb h3
def WO (a b c d : Option Int) (e : ByteArray) : Option (ByteArray × Int × Int) :=
 a.bind fun v9 => b.bind fun v10 => c.bind fun v11 => d.bind fun v12 => (FD 1000 e).bind fun v13 =>
  AE (((O2 .u32 ((O2 .u32 ((O2 .u32 ((GI .u32 ((wI .u32 v9)) 24)) ((GI .u32 ((wI .u32 v10)) 16)))) ((GI .u32 ((wI .u32 v11)) 8)))) ((wI .u32 v12))) != v13))
   (some ((⟨#[]⟩ : ByteArray), 0, 17)) (some (e, 8, 0))
theorem Mf (b : ByteArray) (hb : 8 ≤ b.size) (h3 : HO b 0 = some 3) : BW 1000 b = WO (HO b 1) (HO b 2) (HO b 3) (HO b 4) (b.extract 5 8) := by
 unfold BW
 rw [VW b (by omega) h3]
 simp only [oS, Dq]
 have e1 : wI .i64 ((1 : Int) + 4) = 5 := rfl
 have e2 : wI .i64 ((5 : Int) + wI .i64 3) = 8 := rfl
 have e3 : wI .i64 ((1 : Int) + 1) = 2 := rfl
 have e4 : wI .i64 ((1 : Int) + 2) = 3 := rfl
 have e5 : wI .i64 ((1 : Int) + 3) = 4 := rfl
 rw [e1, e2, e3, e4, e5]
 rw [DC (by decide), FG (by decide), DC (by decide), DC (by decide), DC (decide_eq_false (by omega)), F3 (by refine ⟨by decide, by decide, by decide, ?_⟩; exact hb)]
 rfl
theorem Jm {f r : ByteArray} {i : Int} (h0 : 0 ≤ i) (h : i.toNat < f.size) : HO (f ++ r) i = HO f i := by
 unfold HO
 rw [if_pos h0, if_pos h0, getElem?_pos f i.toNat h, getElem?_pos (f ++ r) i.toNat (by rw [ByteArray.size_append]; omega), ByteArray.getElem_append_left h]
theorem Ol (f r : ByteArray) (hf : f.size = 8) (h3 : HO f 0 = some 3) : BW 1000 (f ++ r) = BW 1000 f := by
 rw [Mf (f ++ r) (by rw [ByteArray.size_append]; omega) (by rw [Jm (by decide) (by rw [hf]; decide)]; exact h3), Mf f (by omega) h3,
  Jm (by decide) (by rw [hf]; decide), Jm (by decide) (by rw [hf]; decide), Jm (by decide) (by rw [hf]; decide), Jm (by decide) (by rw [hf]; decide)]
 rw [show (f ++ r).extract 5 8 = f.extract 5 8 from by rw [← hf]; exact ByteArray.extract_append_size_left]
def Ej : List (Int × Int) → ByteArray
 | [] => ⟨#[]⟩
 | x :: xs => Qk x ++ Ej xs
theorem Jq : ∀ (a b : List (Int × Int)), Ej (a ++ b) = Ej a ++ Ej b
 | [], b => by
  show Ej b = ByteArray.empty ++ Ej b
  rw [ByteArray.empty_append]
 | x :: a, b => by rw [List.cons_append, Ej, Ej, Jq a b, ByteArray.append_assoc]
theorem IE : ∀ {a : List (Int × Int)}, (∀ x, x ∈ a → Qp x) → (Ej a).size = 8 * a.length
 | [], _ => rfl
 | x :: a, h => by
  rw [Ej, ByteArray.size_append, (TH (h x (by simp))).size, IE (fun y hy => h y (by simp [hy])), vS]; omega
theorem Qy (j : (List AC × Int) → Option (List AC × Int × Int)) : ∀ (n : Nat) (done rest : List (Int × Int)), (∀ x, x ∈ done → Qp x) → (∀ x, x ∈ rest → Qp x) → rest.length < n → done.length + rest.length ≤ 1000 →
  Ck 1000 (Ej (done ++ rest)) j n (done.map M0, ((8 * done.length : Nat) : Int)) = j ((done ++ rest).map M0, ((8 * (done ++ rest).length : Nat) : Int))
 | 0, _, _, _, _, h, _ => by omega
 | n + 1, done, [], hd, _, _, _ => by
  unfold Ck
  rw [List.append_nil, DC (decide_eq_false (by rw [IE hd]; omega))]
 | n + 1, done, x :: rest, hd, hr, hn, hl => by
  have hx := TH (hr x (by simp))
  have hda : ∀ y, y ∈ done ++ x :: rest → Qp y := fun y hy => (zA6.1 hy).elim (hd y) (hr y)
  have hsz := IE hda
  rw [zA7, vS] at hsz
  rw [vS] at hl hn
  unfold Ck
  rw [FG (decide_eq_true (by rw [hsz]; simp only; omega)), F3 (by refine ⟨by simp only; omega, ?_, vC _⟩; rw [hsz]; simp only; omega)]
  have hext : (Ej (done ++ x :: rest)).extract ((8 * done.length : Nat) : Int).toNat (Ej (done ++ x :: rest)).size = Qk x ++ Ej rest := by
   rw [Jq, Ej, ByteArray.size_append]
   exact ByteArray.extract_append_eq_right (by rw [IE hd]; rfl) rfl
  simp only [hext]
  rw [Ol _ _ hx.size hx.first, hx.unf]
  simp only [oS]
  rw [K9, hx.parse]
  simp only [oS]
  rw [K9, F3 (by simp [Hj]; omega)]
  have e1 : wI .i64 (((8 * done.length : Nat) : Int) + 8) = ((8 * (done ++ [x]).length : Nat) : Int) := by
   rw [Dk (by omega) (by omega), zA7]; simp; omega
  have e2 : done.map M0 ++ [M0 x] = (done ++ [x]).map M0 := by simp
  have e3 : done ++ x :: rest = (done ++ [x]) ++ rest := by simp
  rw [e1, e2, e3]
  exact Qy j n (done ++ [x]) rest (fun y hy => hda y (by rw [e3]; simp only [zA6] at hy ⊢; exact .inl hy)) (fun y hy => hr y (by simp [hy])) (by omega) (by rw [zA7]; simp; omega)
theorem P0 {es : List (Int × Int)} (h : ∀ x, x ∈ es → Qp x) (hl : es.length ≤ 500) : De 1000 (Ej es) = some (es.map M0, ((8 * es.length : Nat) : Int), 0) := by
 have := Qy (fun v2 => some (v2.1, v2.2, 0)) 1000 [] es (fun _ h => by cases h) h (by omega) (by simp; omega)
 exact this
def Pm (es : List (Int × Int)) : Int := es.foldl (fun m x => Hq m x.2) 0
theorem PY (es : List (Int × Int)) (hl : es.length ≤ 500) : ∀ (n i : Nat) (m : Int), i ≤ es.length → es.length - i < n →
  CJ 1000 (es.map M0) (fun v2 => some v2) n (m, (i : Int)) = some ((es.drop i).foldl (fun m x => Hq m x.2) m)
 | 0, _, _, _, h => by omega
 | n + 1, i, m, hi, h => by
  unfold CJ
  by_cases hlt : i < es.length
  ·rw [FG (decide_eq_true (by rw [uG]; simp only; omega))]
   simp only [Pw]
   have hx : es[i]? = some es[i] := by simp [hlt]
   rw [uB, hx]
   simp only [vF, oS]
   rw [Dk (by omega) (by omega), show ((i : Int) + 1) = ((i + 1 : Nat) : Int) from rfl, PY es hl n (i + 1) _ hlt (by omega), List.drop_eq_getElem_cons hlt]
   rfl
  ·rw [DC (decide_eq_false (by rw [uG]; simp only; omega)), List.drop_eq_nil_of_le (by omega)]
   rfl
theorem RJ (es : List (Int × Int)) (hl : es.length ≤ 500) : Fo 1000 (es.map M0) = some (Pm es) := PY es hl 1000 0 0 (Nat.zero_le _) (by omega)
theorem OZ {es : List (Int × Int)} {x : Int × Int} (h : ∀ x, x ∈ es → Qp x) (hl : es.length ≤ 500) (hx : Qp x) : BF 1000 (Ej es) (M0 x) = if x.2 < Pm es then some (⟨#[]⟩, 16) else some (Ej (es ++ [x]), 0) := by
 have hf := TH hx
 have hv : CY 1000 (M0 x) = some true := by
  unfold CY
  rw [Dq, FG (decide_eq_true (show 0 ≤ (M0 x).fw from by rcases hx.1 with h | h <;> (show (0 : Int) ≤ x.1; omega))), FG (decide_eq_true (show 0 ≤ (M0 x).fe from hx.2.1))]
  rfl
 have hsz := IE h
 have hxt : (Ej es).extract 0 (((8 * es.length : Nat) : Int)).toNat = Ej es := by
  have := ByteArray.extract_append_eq_left (a := Ej es) (b := ByteArray.empty) (i := (Ej es).size) rfl
  rw [ByteArray.append_empty] at this
  rw [show (((8 * es.length : Nat) : Int)).toNat = (Ej es).size from by rw [hsz]; rfl]
  exact this
 unfold BF
 rw [hv]
 simp only [oS]
 rw [RS, P0 h hl]
 simp only [oS]
 rw [RJ es hl]
 simp only [oS]
 by_cases hlt : x.2 < Pm es
 ·rw [if_pos hlt, FG (decide_eq_true (show (M0 x).fe < Pm es from hlt))]
 ·rw [if_neg hlt, DC (decide_eq_false (show ¬ (M0 x).fe < Pm es from hlt)), F3 (by refine ⟨by omega, Nat.zero_le _, ?_⟩; rw [hsz]; exact vC _)]
  simp only [hxt]
  unfold E3
  rw [hv]
  simp only [oS]
  rw [RS, hf.fmt]
  simp only [oS]
  rw [hf.frame]
  simp only [oS]
  rw [K9, F3 (by rw [hsz, hf.size]; omega), Jq]
  show some (Ej es ++ Qk x, (0 : Int)) = some (Ej es ++ (Qk x ++ ByteArray.empty), 0)
  rw [ByteArray.append_empty]
def Iy (l : AB) (now : Int) : Bool := decide (0 ≤ l.fE) && (decide (0 ≤ now) && decide (now < l.fI))
def F6 (l : AB) (w t now : Int) : Bool := Iy l now && (l.fE == w && l.fe == t)
theorem N4 (N : Nat) (l : AB) (now : Int) : Dw N l now = some (Iy l now) := by
 unfold Dw Iy
 rw [Dq]
 cases decide (0 ≤ l.fE) <;> cases decide (0 ≤ now) <;> rfl
theorem NS (N : Nat) (l : AB) (w t now : Int) : Ed N l w t now = some (F6 l w t now) := by
 unfold Ed F6
 rw [Dq, N4]
 simp only [oS]
 cases Iy l now <;> cases (l.fE == w) <;> rfl
structure Oq (l : AB) (now : Int) : Prop where
 h0 : -1 ≤ l.fE
 t0 : 0 ≤ l.fe
 t1 : l.fe ≤ 30
 u0 : 0 ≤ l.fI
 u1 : l.fI ≤ 1000
 n0 : 0 ≤ now
 n1 : now ≤ 1000
theorem JQ {N : Nat} {l : AB} {now : Int} (h : Oq l now) : C3 N l = some true := by
 unfold C3
 rw [Dq, FG (decide_eq_true h.h0), FG (decide_eq_true h.t0), decide_eq_true h.u0]
theorem MM {N : Nat} {l : AB} {now w t ttl : Int} (h : Oq l now) (hw : 0 ≤ w) (ht : 0 ≤ t) (h1 : 1 ≤ ttl) (h2 : ttl ≤ 100) : Dx N l w t now ttl = some 0 := by
 have := h.n0; have := h.n1
 unfold Dx
 rw [JQ h]
 simp only [oS]
 rw [DC (by rfl), Dq, DC (decide_eq_false (by omega)), DC (decide_eq_false (by omega)), DC (decide_eq_false (by omega)), DC (decide_eq_false (by omega)), Dk (by omega) (by omega), decide_eq_false (by omega)]
 rfl
theorem Qf {N : Nat} {l : AB} {now : Int} (h : Oq l now) : EP N l now = some (if Iy l now = true then l.fE else -1) := by
 unfold EP
 rw [Dq, JQ h, N4]
 simp only [oS]
 rw [DC (by rfl)]
 cases Iy l now <;> rfl
theorem QD {N : Nat} {l : AB} {now w t : Int} (h : Oq l now) : Fa N l w t now 0 = some (F6 l w t now) := by
 have := h.n0; have := h.n1; have := h.u0; have := h.u1
 unfold Fa
 rw [Dq, JQ h, NS]
 simp only [oS]
 rw [FG rfl, FG (by decide)]
 cases ho : F6 l w t now
 ·rfl
 ·have hh : Iy l now = true := by unfold F6 at ho; exact (uA _ _ ▸ ho).1
  unfold Iy at hh
  simp only [uA, decide_eq_true_eq] at hh
  rw [FG rfl, Dk (by omega) (by omega), decide_eq_true (by omega)]
theorem Ly (N : Nat) (l : AB) (u : Int) : D9 N l u = some ⟨l.fE, l.fe, Hq l.fI u⟩ := rfl
theorem O9 {N : Nat} {l : AB} {now w ttl : Int} (h : Oq l now) (hw : 0 ≤ w) (h1 : 1 ≤ ttl) (h2 : ttl ≤ 100) :
  Eu N l w now ttl = some (if Iy l now = true then (if l.fE = w then (⟨l.fE, l.fe, Hq l.fI (now + ttl)⟩, 0) else (⟨0, 0, 0⟩, 11)) else (⟨w, l.fe + 1, now + ttl⟩, 0)) := by
 have := h.n0; have := h.n1; have := h.t0; have := h.t1
 unfold Eu
 rw [MM h hw (zB2 0) h1 h2, N4, Ly, Dk (n := now + ttl) (by omega) (by omega), Dk (n := l.fe + 1) (by omega) (by omega)]
 simp only [oS]
 rw [K9, Dq]
 have ht : (l.fe == 9223372036854775807) = false := by rw [beq_eq_false_iff_ne]; omega
 rw [ht]
 cases Iy l now
 ·rfl
 ·rw [if_pos rfl]
  show AE (l.fE != w) (some (_, 11)) (some (_, 0)) = _
  by_cases e : l.fE = w
  ·rw [if_pos e, DC (by rw [e]; exact bne_self_eq_false w)]
  ·rw [if_neg e, FG (bne_iff_ne.2 e)]
theorem QB {N : Nat} {l : AB} {now w t ttl : Int} (h : Oq l now) (hw : 0 ≤ w) (ht : 0 ≤ t) (h1 : 1 ≤ ttl) (h2 : ttl ≤ 100) :
  Ff N l w t now ttl = some (if F6 l w t now = true then (⟨l.fE, l.fe, Hq l.fI (now + ttl)⟩, 0) else (⟨0, 0, 0⟩, 11)) := by
 have := h.n0; have := h.n1
 unfold Ff
 rw [MM h hw ht h1 h2, NS, Ly, Dk (n := now + ttl) (by omega) (by omega)]
 simp only [oS]
 rw [K9]
 cases F6 l w t now <;> rfl
theorem Pa {N : Nat} {l : AB} {now w t : Int} (h : Oq l now) (hw : 0 ≤ w) (ht : 0 ≤ t) :
  Ev N l w t now = some (if F6 l w t now = true then (⟨-1, l.fe, 0⟩, 0) else (⟨0, 0, 0⟩, 11)) := by
 have := h.n0
 unfold Ev
 rw [JQ h, NS]
 simp only [oS]
 rw [DC (by rfl), Dq, DC (decide_eq_false (by omega)), DC (decide_eq_false (by omega)), decide_eq_false (by omega)]
 show AE (!F6 l w t now) (some (_, 11)) (some (_, 0)) = _
 cases F6 l w t now <;> rfl
theorem Te : ∀ (es : List (Int × Int)) (m : Int), m ≤ es.foldl (fun m x => Hq m x.2) m ∧ ∀ x, x ∈ es → x.2 ≤ es.foldl (fun m x => Hq m x.2) m
 | [], m => ⟨zB2 m, fun _ h => by cases h⟩
 | y :: es, m => by
  obtain ⟨h1, h2⟩ := Te es (Hq m y.2)
  have h3 : m ≤ Hq m y.2 := by unfold Hq; split <;> omega
  have h4 : y.2 ≤ Hq m y.2 := by unfold Hq; split <;> omega
  rw [List.foldl_cons]
  refine ⟨by omega, fun x hx => ?_⟩
  rcases uU.1 hx with e | e
  ·subst e; omega
  ·exact h2 x e
theorem TD {es : List (Int × Int)} {x : Int × Int} (h : x ∈ es) : x.2 ≤ Pm es := (Te es 0).2 x h
theorem SE (es : List (Int × Int)) (x : Int × Int) : Pm (es ++ [x]) = Hq (Pm es) x.2 := by unfold Pm; rw [List.foldl_append]; rfl
structure TI (l : AB) (a b now : Int) (es : List (Int × Int)) (k : Nat) : Prop where
 n0 : 0 ≤ now
 n1 : now ≤ 7 * k
 h0 : -1 ≤ l.fE
 h1 : l.fE ≤ 1
 t0 : 0 ≤ l.fe
 t1 : l.fe ≤ k
 u0 : 0 ≤ l.fI
 u1 : l.fI ≤ 7 * k + 10
 a0 : 0 ≤ a
 a1 : a ≤ l.fe
 b0 : 0 ≤ b
 b1 : b ≤ l.fe
 ab : a = b → a = 0
 ha : l.fE = 0 → a = l.fe
 hb : l.fE = 1 → b = l.fe
 ok : ∀ x, x ∈ es → Qp x
 len : es.length ≤ k
 mx : Pm es = l.fe
 so : es.Pairwise (fun x y => x.2 ≤ y.2)
theorem TI.lok {l : AB} {a b now : Int} {es : List (Int × Int)} {k : Nat} (h : TI l a b now es k) (hk : k ≤ 30) : Oq l now :=
 ⟨h.h0, h.t0, by have := h.t1; omega, h.u0, by have := h.u1; omega, h.n0, by have := h.n1; omega⟩
theorem TI.later {l : AB} {a b now : Int} {es : List (Int × Int)} {k : Nat} (h : TI l a b now es k) {d : Int} (h0 : 0 ≤ d) (h1 : d ≤ 7) : TI l a b (now + d) es (k + 1) := by
 obtain ⟨n0, n1, h0', h1', t0, t1, u0, u1, a0, a1, b0, b1, ab, ha, hb, ok, len, mx, so⟩ := h
 exact ⟨by omega, by omega, h0', h1', t0, by omega, u0, by omega, a0, a1, b0, b1, ab, ha, hb, ok, by omega, mx, so⟩
def Li (w a b : Int) : Int := if w = 0 then a else b
theorem JH {w : Int} (h : w = 0 ∨ w = 1) (a b : Int) : Cc [a, b] w = some (Li w a b) := by rcases h with h | h <;> subst h <;> rfl
theorem TI.write {l : AB} {a b now : Int} {es : List (Int × Int)} {k : Nat} (h : TI l a b now es k) (hk : k ≤ 30) {w : Int} (hw : w = 0 ∨ w = 1) :
  BF 1000 (Ej es) ⟨1, Li w a b, 0, ⟨#[]⟩⟩ = if Li w a b < l.fe then some (⟨#[]⟩, 16) else some (Ej (es ++ [(1, Li w a b)]), 0) := by
 have h1 := h.len; have h2 := h.a0; have h3 := h.a1; have h4 := h.b0; have h5 := h.b1; have h6 := h.t1
 have hs : 0 ≤ Li w a b ∧ Li w a b ≤ 30 := by unfold Li; split <;> omega
 have := OZ (es := es) (x := (1, Li w a b)) h.ok (by omega) ⟨.inl rfl, hs.1, hs.2⟩
 rw [h.mx] at this
 exact this
theorem R7 {l : AB} {a b now : Int} {es : List (Int × Int)} {k : Nat} (h : TI l a b now es k) {w : Int} (hw : w = 0 ∨ w = 1) (e : l.fE = w) : Li w a b = l.fe := by
 rcases hw with rfl | rfl
 ·exact h.ha e
 ·exact h.hb e
theorem QY {l : AB} {a b now : Int} {es : List (Int × Int)} {k : Nat} (h : TI l a b now es k) (w : Int) : 0 ≤ Li w a b ∧ Li w a b ≤ l.fe := by
 have h2 := h.a0; have h3 := h.a1; have h4 := h.b0; have h5 := h.b1
 unfold Li; split <;> omega
def Ny (t : Int) (T : Int) : Bool := decide (0 < t) && !decide (t < T)
theorem To {l : AB} {a b now : Int} {es : List (Int × Int)} {k : Nat} (h : TI l a b now es k) (hk : k ≤ 30) (v6 : AB × (List Int) × Int × ByteArray × Int) (v10 : Cg)
  (hn : wI .i64 (v6.2.2.1 + (wI .i64 ((uF v10.fB 8)))) = now) (j : (Int × Int) → Option Bool) (w : Int) (hw : w = 0 ∨ w = 1) (n : Nat) (x y : Int) (hx : 0 ≤ x ∧ x ≤ 2) (hy : 0 ≤ y ∧ y ≤ 2) :
  AK 1000 v6 v10 (l, [a, b], Ej es) j (n + 1) (x, y, w) = AK 1000 v6 v10 (l, [a, b], Ej es) j n
   ((if F6 l w (Li w a b) now = true then x + 1 else x), (if Ny (Li w a b) l.fe = true then y + 1 else y), w + 1) := by
 have hs := QY h w
 rw [AK]
 have hw2 : w < 2 := by omega
 rw [FG (decide_eq_true hw2), Dq, Dq, F3 (by rfl)]
 simp only [JH hw, oS, hn, QD (h.lok hk), Dq]
 rw [Dk (n := x + 1) (by omega) (by omega), Dk (n := y + 1) (by omega) (by omega), Dk (n := w + 1) (by omega) (by omega)]
 have key : ∀ x' : Int, ((E6 ([a, b].length = 2)).bind fun _ => (BF 1000 (Ej es) (AC.mk 1 (Li w a b) 0 ⟨#[]⟩)).bind fun v53 =>
   (E6 ([a, b].length = 2)).bind fun _ => AE (decide (0 < Li w a b)) (AE (v53.2 == 0) (AK 1000 v6 v10 (l, [a, b], Ej es) j n (x', y + 1, w + 1)) (AK 1000 v6 v10 (l, [a, b], Ej es) j n (x', y, w + 1)))
    (AE false (AK 1000 v6 v10 (l, [a, b], Ej es) j n (x', y + 1, w + 1)) (AK 1000 v6 v10 (l, [a, b], Ej es) j n (x', y, w + 1)))) =
   AK 1000 v6 v10 (l, [a, b], Ej es) j n (x', (if Ny (Li w a b) l.fe = true then y + 1 else y), w + 1) := by
  intro x'
  rw [F3 (by rfl), h.write hk hw]
  unfold Ny
  by_cases h1 : Li w a b < l.fe
  ·rw [if_pos h1, decide_eq_true h1]
   simp only [oS]
   rw [F3 (by rfl)]
   cases decide (0 < Li w a b) <;> rfl
  ·rw [if_neg h1, decide_eq_false h1]
   simp only [oS]
   rw [F3 (by rfl)]
   cases decide (0 < Li w a b) <;> rfl
 cases ho : F6 l w (Li w a b) now
 ·exact key x
 ·exact key (x + 1)
theorem UY (es : List (Int × Int)) (hl : es.length ≤ 500) (so : es.Pairwise (fun x y => x.2 ≤ y.2)) (p q : Int) (j : Unit → Option Bool) : ∀ (n i : Nat), 1 ≤ i → es.length - i < n →
  Bt 1000 (es.map M0, p, q) j n (i : Int) = j ()
 | 0, _, _, h => by omega
 | n + 1, i, hi, h => by
  unfold Bt
  by_cases hlt : i < es.length
  ·rw [FG (decide_eq_true (by simp only [uG]; omega))]
   rw [Dk (n := (i : Int) - 1) (by omega) (by omega), Dk (n := (i : Int) + 1) (by omega) (by omega)]
   rw [show (i : Int) - 1 = ((i - 1 : Nat) : Int) from by omega]
   simp only [Pw]
   rw [uB, uB, uY hlt, uY (show i - 1 < es.length from by omega)]
   simp only [vF, oS]
   have := vY.1 so (i - 1) i (by omega) hlt (by omega)
   rw [DC (decide_eq_false (show ¬ (M0 es[i]).fe < (M0 es[i - 1]).fe from by show ¬ es[i].2 < es[i - 1].2; omega))]
   exact UY es hl so p q j n (i + 1) (by omega) (by omega)
  ·rw [DC (decide_eq_false (by simp only [uG]; omega))]
theorem QL {l : AB} {s t now : Int} (h0 : F6 l 0 s now = true) (h1 : F6 l 1 t now = true) : False := by
 unfold F6 at h0 h1
 simp only [uA, beq_iff_eq] at h0 h1
 omega
theorem RH {l : AB} {a b now : Int} {es : List (Int × Int)} {k : Nat} (h : TI l a b now es k) (h0 : Ny a l.fe = true) (h1 : Ny b l.fe = true) : False := by
 unfold Ny at h0 h1
 simp only [uA, decide_eq_true_eq, zB1, decide_eq_false_iff_not] at h0 h1
 have := h.a1; have := h.b1; have := h.ab
 omega
theorem Rz {l : AB} {a b now : Int} {es : List (Int × Int)} {k : Nat} (h : TI l a b now es k) (hk : k ≤ 30) (v6 : AB × (List Int) × Int × ByteArray × Int) (v10 : Cg)
  (hn : wI .i64 (v6.2.2.1 + (wI .i64 ((uF v10.fB 8)))) = now) (j : Unit → Option Bool) :
  ((De 1000 (Ej es)).bind fun v40 =>
    AE ((v40.2.2 != 0))
     (some false)
     (AK 1000 v6 v10 (l, [a, b], Ej es) (fun (v43 : Int × Int) =>
      Bp (fun (v59 : Bool) =>
       AE v59
        (some false)
        (Bt 1000 v40 j 1000 1))
      fun j59 =>
      AE ((decide (1 < v43.1)))
       (j59 true)
       (j59 (decide (1 < v43.2)))) 1000 (0, 0, 0))) = j () := by
 have hl := h.len
 rw [P0 h.ok (by omega)]
 simp only [oS]
 rw [K9, To h hk v6 v10 hn _ 0 (.inl rfl) 999 0 0 (by omega) (by omega), To h hk v6 v10 hn _ (0 + 1) (.inr rfl) 998 _ _ (by split <;> omega) (by split <;> omega)]
 rw [show (0 + 1 + 1 : Int) = 2 from rfl, show (0 + 1 : Int) = 1 from rfl]
 rw [AK, DC (by rfl), Dq]
 have e0 : Li 0 a b = a := rfl
 have e1 : Li 1 a b = b := rfl
 rw [e0, e1]
 have hx : ¬ (1 : Int) < (if F6 l 1 b now = true then (if F6 l 0 a now = true then 1 else 0) + 1 else (if F6 l 0 a now = true then 1 else 0)) := by
  split
  ·rename_i h1
   split
   ·rename_i h0; exact (QL h0 h1).elim
   ·omega
  ·split <;> omega
 have hy : ¬ (1 : Int) < (if Ny b l.fe = true then (if Ny a l.fe = true then 1 else 0) + 1 else (if Ny a l.fe = true then 1 else 0)) := by
  split
  ·rename_i h1
   split
   ·rename_i h0; exact (RH h h0 h1).elim
   ·omega
  ·split <;> omega
 rw [DC (decide_eq_false hx), decide_eq_false hy]
 exact UY es (by omega) h.so _ _ j 1000 1 (vC 1) (by omega)
theorem SG {a b c : Int} (h1 : a ≤ c) (h2 : b ≤ c) : Hq a b ≤ c := by unfold Hq; split <;> omega
theorem SI (a b : Int) : a ≤ Hq a b := by unfold Hq; split <;> omega
theorem Qc {l : AB} {now : Int} (h : Iy l now = true) : 0 ≤ l.fE := by
 unfold Iy at h
 simp only [uA, decide_eq_true_eq] at h
 exact h.1
theorem TI.ext {l : AB} {a b now : Int} {es : List (Int × Int)} {k : Nat} (h : TI l a b now es k) {ttl : Int} (h1 : 1 ≤ ttl) (h2 : ttl ≤ 10) :
  TI ⟨l.fE, l.fe, Hq l.fI (now + ttl)⟩ a b now es k := by
 obtain ⟨n0, n1, h0', h1', t0, t1, u0, u1, a0, a1, b0, b1, ab, ha, hb, ok, len, mx, so⟩ := h
 exact ⟨n0, n1, h0', h1', t0, t1, Int.le_trans u0 (SI _ _), SG u1 (by omega), a0, a1, b0, b1, ab, ha, hb, ok, len, mx, so⟩
theorem TI.rel {l : AB} {a b now : Int} {es : List (Int × Int)} {k : Nat} (h : TI l a b now es k) : TI ⟨-1, l.fe, 0⟩ a b now es k := by
 obtain ⟨n0, n1, h0', h1', t0, t1, u0, u1, a0, a1, b0, b1, ab, ha, hb, ok, len, mx, so⟩ := h
 exact ⟨n0, n1, zB2 _, by show (-1 : Int) ≤ 1; decide, t0, t1, zB2 _, by show (0 : Int) ≤ _; omega, a0, a1, b0, b1, ab, (fun e => by have e : (-1 : Int) = 0 := e; omega), (fun e => by have e : (-1 : Int) = 1 := e; omega), ok, len, mx, so⟩
theorem QZ {es : List (Int × Int)} {x : Int × Int} (so : es.Pairwise (fun x y => x.2 ≤ y.2)) (h : Pm es ≤ x.2) : (es ++ [x]).Pairwise (fun x y => x.2 ≤ y.2) := by
 rw [List.pairwise_append]
 refine ⟨so, List.pairwise_singleton _ _, fun y hy z hz => ?_⟩
 rw [List.mem_singleton] at hz
 subst hz
 have := TD hy
 omega
theorem QF {es : List (Int × Int)} {x : Int × Int} (h : ∀ y, y ∈ es → Qp y) (hx : Qp x) : ∀ y, y ∈ es ++ [x] → Qp y := by
 intro y hy
 rcases zA6.1 hy with e | e
 ·exact h y e
 ·rw [List.mem_singleton] at e; subst e; exact hx
theorem RO {es : List (Int × Int)} {x : Int × Int} (h : Pm es ≤ x.2) : Pm (es ++ [x]) = x.2 := by rw [SE]; unfold Hq; split <;> omega
theorem TI.app {l : AB} {a b now : Int} {es : List (Int × Int)} {k : Nat} (h : TI l a b now es k) (hk : k ≤ 30) (hlen : es.length + 1 ≤ k) :
  TI l a b now (es ++ [(1, l.fe)]) k := by
 obtain ⟨n0, n1, h0', h1', t0, t1, u0, u1, a0, a1, b0, b1, ab, ha, hb, ok, len, mx, so⟩ := h
 exact ⟨n0, n1, h0', h1', t0, t1, u0, u1, a0, a1, b0, b1, ab, ha, hb, QF ok ⟨.inl rfl, t0, by show l.fe ≤ 30; omega⟩, by rw [zA7]; exact hlen, RO (by rw [mx]; exact zB2 _), QZ so (by rw [mx]; exact zB2 _)⟩
theorem TI.new {l : AB} {a b now : Int} {es : List (Int × Int)} {k : Nat} (h : TI l a b now es k) (hk : k ≤ 30) (hlen : es.length + 1 ≤ k) (ht : l.fe + 1 ≤ k) {w ttl : Int} (hw : w = 0 ∨ w = 1) (h1 : 1 ≤ ttl) (h2 : ttl ≤ 10) :
  TI ⟨w, l.fe + 1, now + ttl⟩ (if w = 0 then l.fe + 1 else a) (if w = 0 then b else l.fe + 1) now (es ++ [(5, l.fe + 1)]) k := by
 obtain ⟨n0, n1, h0', h1', t0, t1, u0, u1, a0, a1, b0, b1, ab, ha, hb, ok, len, mx, so⟩ := h
 have hm : Pm es ≤ l.fe + 1 := by omega
 refine ⟨n0, n1, by show -1 ≤ w; omega, by show w ≤ 1; omega, by show 0 ≤ l.fe + 1; omega, ht, by show 0 ≤ now + ttl; omega, by show now + ttl ≤ _; omega, ?_, ?_, ?_, ?_, ?_, ?_, ?_, QF ok ⟨.inr rfl, by show 0 ≤ l.fe + 1; omega, by show l.fe + 1 ≤ 30; omega⟩, by rw [zA7]; exact hlen, RO hm, QZ so hm⟩
 ·split <;> omega
 ·show _ ≤ l.fe + 1; split <;> omega
 ·split <;> omega
 ·show _ ≤ l.fe + 1; split <;> omega
 ·rcases hw with rfl | rfl
  ·rw [if_pos rfl, if_pos rfl]; omega
  ·rw [if_neg (by decide), if_neg (by decide)]; omega
 ·intro e; have e : w = 0 := e; rw [if_pos e]
 ·intro e; have e : w = 1 := e; rw [if_neg (by omega)]
theorem Sm {w : Int} (hw : w = 0 ∨ w = 1) (a b t : Int) : [a, b].set w.toNat t = [if w = 0 then t else a, if w = 0 then b else t] := by rcases hw with rfl | rfl <;> rfl
theorem TI.write5 {l : AB} {a b now : Int} {es : List (Int × Int)} {k : Nat} (h : TI l a b now es k) (hk : k ≤ 30) (ht : l.fe + 1 ≤ 30) :
  BF 1000 (Ej es) ⟨5, l.fe + 1, 0, ⟨#[]⟩⟩ = some (Ej (es ++ [(5, l.fe + 1)]), 0) := by
 have h1 := h.len; have h2 := h.t0; have h3 := h.mx
 have := OZ (es := es) (x := (5, l.fe + 1)) h.ok (by omega) ⟨.inr rfl, by show 0 ≤ l.fe + 1; omega, ht⟩
 rw [if_neg (by show ¬ l.fe + 1 < Pm es; omega)] at this
 exact this
theorem MA {x : Int} (h : 0 ≤ x) : uF x 2 = 0 ∨ uF x 2 = 1 := by
 have := zC1 2 h; have := zB7 x (show (0 : Int) < 2 by decide); omega
theorem Pi {x : Int} (h : TL x) : 0 ≤ x := by
 unfold TL at h
 simp [Lit.wf] at h
 have e : IntKind.u8.min = 0 := rfl
 omega
theorem PC (p0 : List Cg) (hp : Vw Fe p0) (hl : p0.length ≤ 30) : ∀ (n k : Nat) (l : AB) (a b now : Int) (es : List (Int × Int)), TI l a b now es k → k ≤ p0.length → p0.length - k < n →
  Bl 1000 p0 (fun _ => some true) n (l, [a, b], now, Ej es, (k : Int)) = some true
 | 0, _, _, _, _, _, _, _, _, h => by omega
 | n + 1, k, l, a, b, now, es, hi, hk, h => by
  rw [Bl]
  by_cases hlt : k < p0.length
  ·rw [FG (decide_eq_true (by simp only; omega)), Dq]
   simp only [Pw]
   rw [uY hlt]
   simp only [oS]
   generalize hx : p0[k] = x
   have wx := hp _ (List.getElem_mem hlt)
   rw [hx] at wx
   obtain ⟨w1, _, w3, w4, _⟩ := wx
   have w1 := Pi w1; have w3 := Pi w3; have w4 := Pi w4
   -- the numbers
   obtain ⟨w, hw, ew⟩ : ∃ w, (w = 0 ∨ w = 1) ∧ wI .i64 (uF x.fH 2) = w := ⟨_, MA w1, Dk (by have := MA w1; omega) (by have := MA w1; omega)⟩
   have d0 := zC1 8 w3
   have d1 := zB7 x.fB (show (0 : Int) < 8 by decide)
   have q0 := zC1 10 w4
   have q1 := zB7 x.fQ (show (0 : Int) < 10 by decide)
   have hi2 := hi.later d0 (by omega)
   have nb0 := hi2.n0
   have nb1 := hi2.n1
   have en : wI .i64 (now + wI .i64 (uF x.fB 8)) = now + uF x.fB 8 := by
    rw [Dk (n := uF x.fB 8) (by omega) (by omega), Dk (by omega) (by omega)]
   have et : wI .i64 (1 + wI .i64 (uF x.fQ 10)) = 1 + uF x.fQ 10 := by
    rw [Dk (n := uF x.fQ 10) (by omega) (by omega), Dk (by omega) (by omega)]
   have e1 : wI .i64 (1 - w) = 1 - w := Dk (by omega) (by omega)
   have ek : wI .i64 ((k : Int) + 1) = ((k + 1 : Nat) : Int) := by rw [Dk (by omega) (by omega)]; rfl
   simp only [ew, e1, ek, et, en]
   have hk1 : k + 1 ≤ 30 := by omega
   have next : ∀ (l : AB) (a b : Int) (es : List (Int × Int)), TI l a b (now + uF x.fB 8) es (k + 1) →
     Bl 1000 p0 (fun _ => some true) n (l, [a, b], now + uF x.fB 8, Ej es, ((k + 1 : Nat) : Int)) = some true := by
    intro l a b es ht
    exact PC p0 hp hl n (k + 1) l a b _ es ht (by omega) (by omega)
   rw [Dq]
   have chkd : ∀ (l : AB) (a b : Int) (es : List (Int × Int)), TI l a b (now + uF x.fB 8) es (k + 1) → _ = some true := fun l' a' b' es' ht =>
    (Rz ht hk1 (l, [a, b], now, Ej es, (k : Int)) x en (fun _ => Bl 1000 p0 (fun _ => some true) n (l', [a', b'], now + uF x.fB 8, Ej es', ((k + 1 : Nat) : Int)))).trans (next l' a' b' es' ht)
   have hlen := hi.len
   have ht1 := hi.t1
   have hlok := hi2.lok hk1
   have hwn : 0 ≤ w := by omega
   have hs := QY hi2 w
   by_cases k0 : uF x.fw 4 = 0
   ·rw [FG (beq_iff_eq.2 k0), O9 hlok hwn (by omega) (by omega)]
    simp only [oS]
    cases hh : Iy l (now + uF x.fB 8)
    ·rw [if_neg (by decide)]
     simp only
     rw [DC (by rfl), F3 (by rfl), JH hw]
     simp only [oS]
     rw [FG (by rw [bne_iff_ne]; omega), F3 (by rfl)]
     rw [hi2.write5 hk1 (by omega)]
     simp only [oS]
     rw [DC (by rfl), Sm hw]
     exact chkd _ _ _ _ (hi2.new hk1 (by omega) (by omega) hw (by omega) (by omega))
    ·rw [if_pos rfl]
     by_cases e : l.fE = w
     ·rw [if_pos e]
      simp only
      rw [DC (by rfl), F3 (by rfl), JH hw]
      simp only [oS]
      rw [DC (by rw [R7 hi2 hw e]; exact bne_self_eq_false _)]
      exact chkd _ _ _ _ (hi2.ext (by omega) (by omega))
     ·rw [if_neg e]
      simp only
      rw [FG (by decide), Dq, DC (by decide), Qf hlok]
      simp only [oS]
      have h0 := Qc hh
      have h1 := hi2.h1
      rw [hh, if_pos rfl, DC (by rw [bne_eq_false_iff_eq]; omega)]
      exact next _ _ _ _ hi2
   ·rw [DC (by rw [beq_eq_false_iff_ne]; exact k0)]
    by_cases k1 : uF x.fw 4 = 1
    ·rw [FG (beq_iff_eq.2 k1), F3 (by rfl), JH hw]
     simp only [oS]
     rw [QB hlok hwn hs.1 (by omega) (by omega)]
     simp only [oS]
     cases F6 l w (Li w a b) (now + uF x.fB 8)
     ·rw [if_neg (by decide)]
      exact chkd _ _ _ _ hi2
     ·rw [if_pos rfl]
      exact chkd _ _ _ _ (hi2.ext (by omega) (by omega))
    ·rw [DC (by rw [beq_eq_false_iff_ne]; exact k1)]
     by_cases k2 : uF x.fw 4 = 2
     ·rw [FG (beq_iff_eq.2 k2), F3 (by rfl), JH hw]
      simp only [oS]
      rw [Pa hlok hwn hs.1]
      simp only [oS]
      cases F6 l w (Li w a b) (now + uF x.fB 8)
      ·rw [if_neg (by decide)]
       exact chkd _ _ _ _ hi2
      ·rw [if_pos rfl]
       exact chkd _ _ _ _ hi2.rel
     ·rw [DC (by rw [beq_eq_false_iff_ne]; exact k2), F3 (by rfl), JH hw]
      simp only [oS]
      rw [hi2.write hk1 hw]
      by_cases hs2 : Li w a b < l.fe
      ·rw [if_pos hs2]
       exact chkd _ _ _ _ hi2
      ·rw [if_neg hs2, show Li w a b = l.fe from by omega]
       exact chkd _ _ _ _ (hi2.app hk1 (by omega))
  ·rw [DC (decide_eq_false (by simp only; omega))]
theorem NE : C6 1000 = some true := by kernel_rfl
theorem LU (p0 : List Cg) (hp : Vw Fe p0) : CG 1000 p0 = some true := by
 unfold CG
 rw [Dq, NE]
 simp only [oS]
 rw [RS]
 by_cases hl : p0.length ≤ 30
 ·rw [decide_eq_false (by omega)]
  refine PC p0 hp hl 1000 0 ⟨-1, 0, 0⟩ 0 0 0 [] ?_ (Nat.zero_le _) (by omega)
  exact ⟨by decide, by decide, by decide, by decide, by decide, by decide, by decide, by decide, by decide, by decide, by decide, by decide, fun _ => rfl, fun _ => rfl, fun _ => rfl, (fun _ h => nomatch h), vC 0, rfl, List.Pairwise.nil⟩
 ·rw [decide_eq_true (by omega)]
  rfl
end Go.Lift
