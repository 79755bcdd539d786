/- Lemmas for CoreFreeCardSaid, which YtbfklmmnpdifaaaGreatDoorFinC4 proves. -/
import Derived.Test.YtbfklmmnpdifaaaGreatDoorMReg3
import Derived.KernelRfl
open Bool renaming and_eq_true → zA6, false_and → zK2, not_true → zC0, true_and → zE7
open Int renaming natCast_nonneg → zK7, toNat_natCast → zB3
open List renaming all_cons → zG9, all_eq_true → zA3, any_eq_true → zF3, append_assoc → zD1, append_nil → zG2, cons_append → zI5, drop_eq_nil_of_le → zD4, drop_zero → zB9, eq_nil_of_length_eq_zero → zD3, getElem?_append_right → zC6, getElem?_eq_none → zE1, getElem?_map → zA2, getElem?_set → zF0, getElem_mem → zF2, length_append → zB6, length_cons → zC3, length_map → zA9, length_nil → zD2, length_singleton → zB8, map_append → zE6, map_cons → zC5, map_nil → zI4, mem_append → zC2, mem_cons → zB2, mem_cons_of_mem → zH0, mem_iff_getElem? → zB4, mem_map → zB5, mem_singleton → zD8, nil_append → zG0, nodup_cons → zG4, not_mem_nil → zI6, range' → zF9, replicate → zA5, set_cons_succ → zJ8
open Nat renaming eq_zero_or_pos → zH9, le_refl → zB0, le_trans → zG5, sub_self → zJ4, zero_add → zA1, zero_le → zA8
open Option renaming getD_some → zC4, map_some → zD6
namespace Go.Lift
open IntKind renaming wrap → wI
open Option renaming bind_some → oS
open List renaming mem_of_getElem? → lM
open List renaming getElem?_eq_some_iff → lI
open List renaming getD_eq_getElem?_getD → lD
open Go
theorem Li {N : Nat} (hN : N ≤ 1000000) (h20 : 100 ≤ N) {p : Aa} (hv : BM p = 0) {most : Nat} (hmo : most ≤ 20000) (j : List AD → Option (List AD × Int)) :
  ∀ (n i : Nat) (pl : List AD) (q : List (Ac × Int)) (l' : List Jy), i ≤ pl.length → (∀ n, n ∈ pl.map Ez → BX p n.1 ∧ BA p n.1 = true) → pl.length ≤ most → OO p q (pl.map Ez) → MO p i [] pl → (∀ (b : Nat) nb, i ≤ b → pl[b]? = some nb → nb.fb = []) →
   Bfs.go (I5 p) most n i (pl.map Ez) = some l' →
   ∃ pl', DN N p j n (pl, Ml q, (i : Int)) = j pl' ∧ pl'.map Ez = l' ∧ MO p l'.length [] pl'
 | 0, i, pl, q, l', _, _, _, _, _, _, h => by cases h
 | n + 1, i, pl, q, l', hi, hA, hlm, hpl, hnx, hem, h => by
  obtain ⟨hp, _⟩ := C3 hv
  simp only [Bfs.go] at h
  rw [DN]
  by_cases h1 : i < pl.length
  ·obtain ⟨nd, hx⟩ := Bfs.get_ex h1
   have hxl : (pl.map Ez)[i]? = some (Ez nd) := by rw [zA2, hx]; rfl
   have hm := (hA _ (lM hxl)).1
   have hm : BX p nd.fp := hm
   rw [hxl] at h
   simp only at h
   rw [AB (by simp only; omega)]
   simp only [AT, hx, oS]
   rw [show (Ac.mk nd.fp.fd nd.fp.fb nd.fp.fe) = nd.fp from rfl, TQ N hN h20 hv hm]
   simp only [oS, bne_self_eq_false, Al]
   have hsl := Q1 hp nd.fp
   cases hin : Bfs.inner most i (I5 p nd.fp) (pl.map Ez) with
   | none =>
    have hin' : Bfs.inner most i (I5 p (Ez nd).1) (pl.map Ez) = none := hin
    rw [hin'] at h; cases h
   | some l1 =>
    have hin' : Bfs.inner most i (I5 p (Ez nd).1) (pl.map Ez) = some l1 := hin
    rw [hin'] at h
    simp only [oS] at h
    obtain ⟨pl1, q1, e1, e2, e3, e4, e5⟩ := Hx hN h20 hv hm hmo (v2 := (pl, Ml q, (i : Int))) rfl (Gd p nd.fp) 0 (fun s hs => hs) (by omega) (fun (v9 : (List AD) × (List (ByteArray × Int))) =>
     DN N p j n (v9.1, v9.2, (wI .i64 ((i : Int) + 1)))) N 0 pl q l1 (zA8 _) (by omega) ⟨nd, hx, rfl⟩ hA hlm hpl (by
      rw [List.take_zero]; exact hnx) ⟨nd, hx, by rw [hem i nd (zB0 _) hx]; exact zB0 _⟩ hin
    have e1' : Cu N p (pl, Ml q, (i : Int)) (Gd p nd.fp, 0) (fun (v9 : (List AD) × (List (ByteArray × Int))) =>
     DN N p j n (v9.1, v9.2, (wI .i64 ((i : Int) + 1)))) N (pl, Ml q, 0) = _ := e1
    rw [e1']
    simp only
    obtain ⟨k1, k2⟩ := KR hin (fun q hq => Up hp hm hq) hA
    have hl1 : l1.length = pl1.length := by rw [← e2, zA9]
    have hil : i < pl1.length := by rw [← hl1]; exact Bfs.lt_get (k2 _ _ hxl)
    rw [AF (by have := Bfs.inner_len _ _ _ (by rw [zA9]; exact hlm) hin; omega)]
    refine Li hN h20 hv hmo j n (i + 1) pl1 q1 l' (by omega) (by rw [e2]; exact k1) (by rw [← hl1]; exact Bfs.inner_len _ _ _ (by rw [zA9]; exact hlm) hin) (by rw [e2]; exact e3) ?_ ?_ (by rw [e2]; exact h)
    ·have hmi : ∀ nb, pl1[i]? = some nb → nb.fp = nd.fp := fun nb hb => by
      have := k2 _ _ hxl
      rw [← e2, zA2, hb] at this
      exact congrArg (fun n : Jy => n.1) (Option.some.inj this)
     constructor
     ·intro b nb hb r hr
      obtain ⟨s, y, g1, g2⟩ := e4.to b nb hb r hr
      refine ⟨s, y, .inl ?_, g2⟩
      rcases g1 with g1 | ⟨g1, g3⟩
      ·exact ⟨by omega, g1.2⟩
      ·subst g1; exact ⟨by omega, by rw [hmi nb hb]; exact g3⟩
     ·intro b nb hb s y hs
      refine e4.of b nb hb s y ?_
      rcases hs with ⟨h2, h3⟩ | ⟨_, h3⟩
      ·by_cases hbi : b < i
       ·exact .inl ⟨hbi, h3⟩
       ·have : b = i := by omega
        subst this
        exact .inr ⟨rfl, by rw [hmi nb hb] at h3; exact h3⟩
      ·cases h3
    ·intro b nb hb hb2
     rcases e5 b nb hb2 (by omega) with h2 | h2
     ·exact hem b nb (by omega) h2
     ·exact h2
  ·have hi' : i = pl.length := by omega
   subst hi'
   rw [zE1 (by rw [zA9]; exact zB0 _)] at h
   have h : some (pl.map Ez) = some l' := h
   cases h
   rw [Ay (by simp)]
   exact ⟨pl, rfl, rfl, by rw [zA9]; exact hnx⟩
theorem Pc {N : Nat} (hN : N ≤ 1000000) (h20 : 100 ≤ N) {p : Aa} (hv : BM p = 0) {m : Ac} (hm : BX p m) (hr : BA p m = true) {most : Nat} (hmo : most ≤ 20000) (h1 : 1 ≤ most) {l : List Jy} (hs : IB p m most N = some l) :
  ∃ pl, G9 N p m = some (pl, 0) ∧ pl.map Ez = l ∧ MO p l.length [] pl := by
 obtain ⟨hp, _⟩ := C3 hv
 unfold G9
 rw [XB N hN h20 hp hm]
 simp only [oS]
 obtain ⟨pl, e1, e2, e3⟩ := Li hN h20 hv hmo (fun (v3 : (List AD)) => some (v3, 0)) N 0 [AD.mk m (-1) Nb []] [(m, 0)] l (zA8 _) (Vg hm hr) h1 (by
  refine ⟨fun e he => by rw [zD8.1 he]; exact hm, ?_, ?_⟩
  ·intro x _ hq n hn
   have hn : n = (m, -1, Nb) := zD8.1 hn
   simp only [JT] at hq
   split at hq
   ·cases hq
   ·rename_i h; rw [hn]; exact fun e => h e.symm
  ·intro x r _ hq
   simp only [JT] at hq
   split at hq
   ·rename_i h
    cases hq; right; exact ⟨0, -1, Nb, rfl, by rw [h]; rfl⟩
   ·cases hq) (by
  constructor
  ·intro b nb hb r hr
   have := Bfs.lt_get hb
   simp at this; subst this
   cases hb; cases hr
  ·intro b nb hb s y hs
   rcases hs with h | h
   ·omega
   ·cases h.2) (fun b nb _ hb => by
    have := Bfs.lt_get hb
    simp at this; subst this
    cases hb; rfl) hs
 refine ⟨pl, ?_, e2, e3⟩
 exact e1
theorem UG {α : Type} (xs : List α) (x y : α) : ∀ (A B : List α), ((A ++ x :: (xs ++ y :: B)).set A.length y).set (A.length + 1 + xs.length) x = A ++ y :: (xs ++ x :: B)
 | [], B => by
  rw [zG0, zD2, List.set_cons_zero, show 0 + 1 + xs.length = xs.length + 1 from by omega, zJ8, List.set_append_right _ _ (zB0 _), zJ4]
  rfl
 | a :: A, B => by
  have := UG xs x y A B
  simp only [zI5, zC3]
  rw [zJ8, show A.length + 1 + 1 + xs.length = (A.length + 1 + xs.length) + 1 from by omega, zJ8, this]
theorem TI (N : Nat) (j : List Ad → Option (List Ad)) : ∀ (n : Nat) (xs A B : List Ad), xs.length < 2 * n → A.length + xs.length ≤ 100000 →
  Bl N j n (A ++ (xs ++ B), (A.length : Int), ((A.length + xs.length : Nat) : Int) - 1) = j (A ++ (xs.reverse ++ B))
 | 0, xs, A, B, h, _ => by omega
 | n + 1, xs, A, B, h, h2 => by
  rw [Bl]
  rcases xs with _ | ⟨x, xs⟩
  ·rw [Ay (by simp only [zD2]; omega)]; rfl
  ·rcases Bfs.list_snoc xs with rfl | ⟨xs, y, rfl⟩
   ·rw [Ay (by simp only [zC3, zD2]; omega)]; rfl
   ·simp only [zC3, zB6, zD2] at h h2
    rw [AB (by simp only [zC3, zB6, zD2]; omega)]
    have e1 : (((A.length + (x :: (xs ++ [y])).length : Nat) : Int) - 1) = ((A.length + 1 + xs.length : Nat) : Int) := by simp only [zC3, zB6, zD2]; omega
    have e2 : A ++ (x :: (xs ++ [y]) ++ B) = A ++ x :: (xs ++ y :: B) := by simp
    simp only [e1, e2, AT, zB3]
    have g1 : (A ++ x :: (xs ++ y :: B))[A.length + 1 + xs.length]? = some y := by
     rw [zC6 (by omega), show A.length + 1 + xs.length - A.length = xs.length + 1 from by omega, List.getElem?_cons_succ, zC6 (zB0 _), zJ4]; rfl
    have g2 : (A ++ x :: (xs ++ y :: B))[A.length]? = some x := by
     rw [zC6 (zB0 _), zJ4]; rfl
    rw [g1, g2]
    simp only [oS]
    rw [zF0, if_neg (by omega), g1]
    simp only [oS]
    rw [UG, AF (by omega), show wI .i64 (((A.length + 1 + xs.length : Nat) : Int) - 1) = (((A ++ [y]).length + xs.length : Nat) : Int) - 1 from by
     rw [CO (by omega) (by omega)]; simp only [zB6, zB8]]
    have := TI N j n xs (A ++ [y]) (x :: B) (by omega) (by simp only [zB6, zB8]; omega)
    rw [show ((A.length + 1 : Nat) : Int) = (((A ++ [y]).length : Nat) : Int) from by simp]
    rw [show A ++ y :: (xs ++ x :: B) = (A ++ [y]) ++ (xs ++ x :: B) from by simp, this]
    simp
theorem UA (N : Nat) (h20 : 100 ≤ N) (l : List Ad) (h : l.length < 2 * N) (h2 : l.length ≤ 100000) : Bz N l = some l.reverse := by
 unfold Bz
 rw [CO (by omega) (by omega)]
 have := TI N (fun v2 => some v2) N l [] [] h (by simpa using h2)
 simp only [zG0, zG2, zD2, zA1] at this
 exact this
theorem Mv {p : Aa} {m : Ac} {l : List Jy} {ws : List (List Ad)} (h : YA p m l ws) (N : Nat) {pl : List AD} (hpl : pl.map Ez = l) (j : List Ad → Option (List Ad)) : ∀ (n k : Nat) {w acc : List Ad}, k < n → ws[k]? = some w → acc.length + k ≤ 20000 →
  Gg N pl j n ((k : Int), acc) = j (acc ++ w.reverse)
 | 0, k, _, _, hk, _, _ => by omega
 | n + 1, k, w, acc, hk, hw, ha => by
  obtain ⟨⟨x, f, s⟩, hx⟩ := Bfs.get_ex (l := l) (k := k) (by rw [← h.inv.len]; exact Bfs.lt_get hw)
  have hx2 := hx
  rw [← hpl, zA2] at hx2
  cases hnd : pl[k]? with
  | none => rw [hnd] at hx2; cases hx2
  | some nd =>
   rw [hnd] at hx2
   have hx2 : Ez nd = (x, f, s) := Option.some.inj hx2
   have hf : nd.fg = f := congrArg (fun n : Jy => n.2.1) hx2
   have hs : nd.ft = s := congrArg (fun n : Jy => n.2.2) hx2
   rw [Gg]
   simp only [AT, hnd, oS]
   rw [hf]
   rcases zH9 k with rfl | hk0
   ·obtain ⟨s0, hs0⟩ := h.inv.root; rw [hs0] at hx; cases hx
    rw [h.inv.root'] at hw; cases hw
    rw [Ay (by decide)]; simp
   ·obtain ⟨i, y', g', t', w', e1, e2, e3, e4, e5, e6, e7⟩ := h.inv.par k _ _ _ hk0 hx
    rw [e6] at hw; cases hw
    subst e1
    rw [AB (zK7 i), Au (by simp [C5]; omega)]
    have := Mv h N hpl j n i (w := w') (acc := acc ++ [Ad.mk nd.ft.ff nd.ft.fh nd.ft.fo]) (by omega) e5 (by simp; omega)
    rw [this, show (Ad.mk nd.ft.ff nd.ft.fh nd.ft.fo) = s from hs]
    simp
theorem Vi {p : Aa} {l : List Jy} {k : Nat} (h : KY p l = some k) : k < l.length := by
 obtain ⟨⟨x, f, s, h1, _⟩, _⟩ := QG h
 exact Bfs.lt_get h1
theorem R5 {N : Nat} (hN : N ≤ 1000000) (h20 : 100 ≤ N) {p : Aa} (hv : BM p = 0) {m : Ac} (hm : BX p m) (hr : BA p m = true) {most : Nat} (hmo : most ≤ 20000) (h1 : 1 ≤ most) {l : List Jy} (hs : IB p m most N = some l) (hl : l.length < N) {ws : List (List Ad)} (h : YA p m l ws) :
  FU N p m = some (Mu p l ws) := by
 obtain ⟨hp, _⟩ := C3 hv
 have hl2 : l.length ≤ 20000 := zG5 (Bfs.go_len _ _ _ _ (by simpa using h1) hs) hmo
 unfold FU
 rw [Kn N p m hN h20 (MD hm) (I0 hv hm), hr]
 simp only [oS, bne_self_eq_false, Al, zC0]
 obtain ⟨pl, e1, e2, e3⟩ := Pc hN h20 hv hm hr hmo h1 hs
 rw [e1]
 simp only [oS, bne_self_eq_false, Al]
 have hpll : pl.length = l.length := by rw [← e2, zA9]
 unfold Cl
 have := BQ (AW N pl ((fun (x : AD) => E6 N x p.fa p.fi p.fm p.fc)) fun _ => some (-1)) l (some (-1)) (fun i n => (if Ie p n.1 = true then some i else none).map fun (k : Nat) => (k : Int))
  (fun n i nd hnd => by
   have hi := (lI.1 hnd).1
   have hnd2 := hnd
   rw [← e2, zA2] at hnd2
   cases hq : pl[i]? with
   | none => rw [hq] at hnd2; cases hnd2
   | some nq =>
    rw [hq] at hnd2
    have hnd2 : Ez nq = nd := Option.some.inj hnd2
    rw [AW, AB (by omega), AT, hq]
    simp only [oS]
    have hok := (h.ok _ _ _ _ (show l[i]? = some (nd.1, nd.2.1, nd.2.2) from hnd)).1
    have hM : nq.fp = nd.1 := congrArg (fun n : Jy => n.1) hnd2
    unfold E6
    simp only
    rw [show (Aa.mk p.fa p.fi p.fm p.fc) = p from rfl, show (Ac.mk nq.fp.fd nq.fp.fb nq.fp.fe) = nd.1 from hM, Tn N p nd.1 hN h20 (MD hok), AF (by omega)]
    simp only [oS]
    cases hg : Ie p nd.1 <;> rfl)
  (fun n => by rw [AW, Ay (by omega)]) N 0 (zA8 _) (by omega)
 have e3 : AW N pl ((fun (x : AD) => E6 N x p.fa p.fi p.fm p.fc)) (fun _ => some (-1)) N 0 = _ := this
 rw [e3, zB9, LB]
 unfold Mu
 cases hg : KY p l with
 | none =>
  unfold KY at hg
  rw [hg]; rfl
 | some k =>
  have hk := Vi hg
  unfold KY at hg
  rw [hg]
  simp only [zD6, BL, oS]
  rw [Ay (by omega)]
  obtain ⟨w, hw⟩ := Bfs.get_ex (l := ws) (k := k) (by rw [h.inv.len]; exact hk)
  have e4 := Mv h N e2 (fun (v2 : (List Ad)) => (Bz N v2).bind fun v8 => some v8) N k (w := w) (acc := []) (by omega) hw (by simp; omega)
  unfold Kl
  have hwl := RV h (k + 1) k (Nat.lt_succ_self k) hw
  rw [e4, zG0, UA N h20 _ (by rw [List.length_reverse]; omega) (by rw [List.length_reverse]; omega), List.reverse_reverse]
  simp only [oS]
  rw [lD, hw]; rfl
def Zw (p : Aa) (m : Ac) (w : List Ad) : Prop := M5 p m w = true ∧ Bfs.Dig MY 100 w ∧ ∀ u, M5 p m u = true → Bfs.code MY 100 w ≤ Bfs.code MY 100 u
theorem UZ {p : Aa} (hp : Bc p) : ∀ {w : List Ad} {m x : Ac}, PR p m w = some x → Bfs.Dig MY 100 w ∧ ∀ s, s ∈ w → s ∈ E1 p
 | [], _, _, _ => ⟨fun s hs => (by cases hs), fun s hs => (by cases hs)⟩
 | s :: w, m, x, h => by
  simp only [PR] at h
  cases hs : Nr p m s with
  | none => rw [hs] at h; cases h
  | some z =>
   rw [hs] at h
   obtain ⟨h1, h2⟩ := UZ hp h
   have h3 := (IP (Np.1 (Q3 hs)).1).1
   refine ⟨fun t ht => ?_, fun t ht => ?_⟩
   ·rcases zB2.1 ht with rfl | ht
    ·exact (PY hp h3).2
    ·exact h1 t ht
   ·rcases zB2.1 ht with rfl | ht
    ·exact h3
    ·exact h2 t ht
theorem QW {p : Aa} (hp : Bc p) {m : Ac} {l : List Jy} {ws : List (List Ad)} (h : YA p m l ws) :
  ((Mu p l ws).2 = 0 ∧ Zw p m (Mu p l ws).1 ∧ (Mu p l ws).1.length ≤ l.length) ∨ (Mu p l ws = ([], 14) ∧ ∀ u, M5 p m u = false) := by
 unfold Mu
 cases hg : KY p l with
 | none =>
  right
  refine ⟨rfl, fun u => ?_⟩
  cases hu : M5 p m u
  ·rfl
  ·obtain ⟨x, h1, h2⟩ := QL hu
   obtain ⟨k, f, s, w, g1, g2, g3⟩ := QJ hp h h1
   rw [VU hg g1] at h2; cases h2
 | some k =>
  left
  obtain ⟨⟨x, f, s, h1, h2⟩, h3⟩ := QG hg
  have hk := Vi hg
  obtain ⟨w, hw⟩ := Bfs.get_ex (l := ws) (k := k) (by rw [h.inv.len]; exact hk)
  have hwe : ws.getD k [] = w := by rw [lD, hw]; rfl
  simp only [hwe]
  have hrun := Y0 hp h h1 hw
  refine ⟨trivial, ⟨?_, (UZ hp hrun).1, ?_⟩, ?_⟩
  ·unfold M5; rw [hrun]; exact h2
  ·intro u hu
   obtain ⟨y, g1, g2⟩ := QL hu
   obtain ⟨k', f', s', w', e1, e2, e3⟩ := QJ hp h g1
   refine zG5 ?_ e3
   by_cases hkk : k' < k
   ·rw [h3 k' y f' s' hkk e1] at g2; cases g2
   ·rcases Nat.lt_or_eq_of_le (Nat.le_of_not_lt hkk) with h4 | h4
    ·exact Nat.le_of_lt (h.inv.inc _ _ _ _ hw e2 h4)
    ·subst h4; rw [hw] at e2; cases e2; exact zB0 _
  ·have := RV h (k + 1) k (Nat.lt_succ_self k) hw
   omega
def TC (p : Aa) (m : Ac) (r : List Ad × Int) : Prop := (r.2 = 0 ∧ Zw p m r.1 ∧ r.1.length ≤ 120) ∨ (r = ([], 14) ∧ ∀ u, M5 p m u = false)
def KO (p : Aa) : Prop := BA p (FH p) = false ∨ ∃ l, IB p (FH p) 120 1000 = some l
def M9 (p : Aa) (r : List Ad × Int) : Prop := (BA p (FH p) = false ∧ r = ([], 13)) ∨ (BA p (FH p) = true ∧ TC p (FH p) r)
theorem PZ {α : Type} [DecidableEq α] : ∀ (L S : List α), L.Nodup → (∀ x, x ∈ L → x ∈ S) → L.length ≤ S.length
 | [], S, _, _ => zA8 _
 | x :: L, S, hn, hs => by
  obtain ⟨h1, h2⟩ := zG4.1 hn
  have hx := hs x (by simp)
  have := PZ L (S.erase x) h2 (fun y hy => by
   have hne : y ≠ x := fun e => h1 (e ▸ hy)
   exact (List.mem_erase_of_ne hne).2 (hs y (zH0 _ hy)))
  rw [List.length_erase_of_mem hx] at this
  have := List.length_pos_of_mem hx
  simp only [zC3]
  omega
def Ln (l : List Jy) : List Ac := l.map fun n => n.1
theorem Wy {i : Nat} {l : List Jy} {q : Ad × Ac} (h : (Ln l).Nodup) : (Ln (Bfs.put i l q)).Nodup ∧ ∀ x, x ∈ Ln (Bfs.put i l q) → x ∈ Ln l ∨ x = q.2 := by
 unfold Bfs.put
 split
 ·exact ⟨h, fun x hx => .inl hx⟩
 ·rename_i hn
  unfold Ln at h ⊢
  rw [zE6]
  refine ⟨?_, ?_⟩
  ·rw [List.nodup_append]
   refine ⟨h, by simp, ?_⟩
   intro a ha b hb
   have hb : b = q.2 := by simpa using hb
   subst hb
   intro e
   subst e
   obtain ⟨n, hn1, hn2⟩ := zB5.1 ha
   exact hn (zF3.2 ⟨n, hn1, decide_eq_true hn2⟩)
  ·intro x hx
   rcases zC2.1 hx with hx | hx
   ·exact .inl hx
   ·exact .inr (by simpa using hx)
theorem Oy {S : List Ac} {most i : Nat} (hS : S.length ≤ most) : ∀ (qs : List (Ad × Ac)) (l : List Jy), (Ln l).Nodup → (∀ x, x ∈ Ln l → x ∈ S) → (∀ q, q ∈ qs → q.2 ∈ S) →
  ∃ l', Bfs.inner most i qs l = some l' ∧ (Ln l').Nodup ∧ (∀ x, x ∈ Ln l' → x ∈ S) ∧ l.length ≤ l'.length
 | [], l, h1, h2, _ => ⟨l, rfl, h1, h2, zB0 _⟩
 | q :: qs, l, h1, h2, h3 => by
  obtain ⟨g1, g2⟩ := Wy (i := i) (q := q) h1
  have g3 : ∀ x, x ∈ Ln (Bfs.put i l q) → x ∈ S := fun x hx => (g2 x hx).elim (h2 x) fun e => by rw [e]; exact h3 q (by simp)
  have := PZ _ S g1 g3
  unfold Ln at this
  rw [zA9] at this
  simp only [Bfs.inner]
  rw [if_neg (by omega)]
  obtain ⟨l', e1, e2, e3, e4⟩ := Oy hS qs (Bfs.put i l q) g1 g3 (fun q hq => h3 q (zH0 _ hq))
  refine ⟨l', e1, e2, e3, zG5 ?_ e4⟩
  unfold Bfs.put; split
  ·exact zB0 _
  ·simp
theorem SA {p : Aa} {S : List Ac} {most : Nat} (hS : S.length ≤ most) (hc : ∀ x, x ∈ S → ∀ q, q ∈ I5 p x → q.2 ∈ S) : ∀ (n i : Nat) (l : List Jy), (Ln l).Nodup → (∀ x, x ∈ Ln l → x ∈ S) → i ≤ l.length → most < n + i → ∃ l', Bfs.go (I5 p) most n i l = some l'
 | 0, i, l, h1, h2, hi, hn => by
  have := PZ _ S h1 h2
  unfold Ln at this
  rw [zA9] at this
  omega
 | n + 1, i, l, h1, h2, hi, hn => by
  simp only [Bfs.go]
  cases hx : l[i]? with
  | none => exact ⟨l, rfl⟩
  | some nd =>
   have hS2 : nd.1 ∈ S := h2 _ (zB5.2 ⟨nd, lM hx, rfl⟩)
   obtain ⟨l1, e1, e2, e3, e4⟩ := Oy (i := i) hS (I5 p nd.1) l h1 h2 (hc _ hS2)
   simp only [e1, oS]
   have := Bfs.lt_get hx
   exact SA hS hc n (i + 1) l1 e2 e3 (by omega) (by omega)
theorem ah {p : Aa} {t : An} (hp : Bc p) (ht : Ot p t) : t.fk.length ≤ 6 ∧ ∀ row, row ∈ t.fk → row.length ≤ 6 := by
 have h1 := Kp hp.ver ht.from0.1 ht.from0.2
 refine ⟨?_, fun row hr => by have := ht.reR row hr; omega⟩
 by_cases hk : t.ff = 4
 ·have := ht.reL hk; omega
 ·rw [ht.reN hk]; simp
theorem Sq (N : Nat) {l : List (List Bool)} (h : l.length ≤ 100000) : C1 N l = some l := by
 unfold C1
 rw [Au (by simp only [zD2]; unfold C5; omega)]; rfl
theorem UO (N : Nat) {l : List Bool} (h : l.length ≤ 100000) : CD N l = some l := by
 unfold CD
 rw [Au (by simp only [zD2]; unfold C5; omega)]; rfl
theorem Oq {α : Type} {l : List α} {i : Nat} {x : α} (h : l[i]? = some x) : l.set i x = l := by
 apply List.ext_getElem?
 intro k
 rw [zF0]
 have := (lI.1 h).1
 by_cases e : i = k
 ·subst e; rw [if_pos rfl, if_pos this, h]
 ·rw [if_neg e]
structure ce (N : Nat) (p : Aa) : Prop where
 v : p.fa.length < N
 n : p.fi.length < N
 t : p.fm.length < N
 s : p.fc.length < N
 m : ∀ t, t ∈ p.fc → t.fq.length < N ∧ (∀ row, row ∈ t.fq → row.length < N) ∧ t.fk.length < N ∧ ∀ row, row ∈ t.fk → row.length < N
def dI (p : Aa) : Prop := BA p (FH p) = true ∧ ∃ u, M5 p (FH p) u = true
theorem VC {N : Nat} (hN : N ≤ 1000000) (h1 : 1000 ≤ N) {p : Aa} (hv : BM p = 0) {m : Ac} (hm : BX p m) (hr : BA p m = true) {l : List Jy} (hs : IB p m 120 1000 = some l) :
  ∃ r, FU N p m = some r ∧ TC p m r := by
 obtain ⟨hp, _⟩ := C3 hv
 obtain ⟨ws, h⟩ := UD hp hm hr hs
 have hl : l.length ≤ 120 := Bfs.go_len _ _ _ _ (by simp) hs
 refine ⟨_, R5 (N := N) (by omega) (by omega) hv hm hr (by omega) (by omega) (Bfs.go_more (zB0 _) _ _ _ _ _ h1 hs) (by omega) h, ?_⟩
 rcases QW hp h with ⟨k1, h2, h3⟩ | k1
 ·exact .inl ⟨k1, h2, by omega⟩
 ·exact .inr k1
theorem Ul {N : Nat} (hN : N ≤ 1000000) (h1 : 1000 ≤ N) {p : Aa} (hv : BM p = 0) {m : Ac} (hm : BX p m) (hr : BA p m = false) : FU N p m = some ([], 13) := by
 unfold FU
 rw [Kn N p m (by omega) (by omega) (MD hm) (I0 hv hm), hr]; rfl
theorem Q5 {N : Nat} (hN : N ≤ 1000000) (h1 : 1000 ≤ N) {p : Aa} (hv : BM p = 0) (hl : KO p) : ∃ r, Gr N p = some r ∧ M9 p r := by
 have hm := O6 hv
 unfold Gr
 rw [Rr N p (by omega) (by omega), if_pos hv]
 simp only [oS, hv, bne_self_eq_false, Al]
 cases hr : BA p (FH p)
 ·rw [Ul hN h1 hv hm hr]
  exact ⟨_, rfl, .inl ⟨hr, rfl⟩⟩
 ·rcases hl with h | ⟨l, hs⟩
  ·rw [hr] at h; cases h
  ·obtain ⟨r, e1, e3⟩ := VC hN h1 hv hm hr hs
   rw [e1]
   exact ⟨r, rfl, .inr ⟨hr, e3⟩⟩
theorem Uu {N : Nat} (hN : N ≤ 1000000) (h1 : 1000 ≤ N) {p : Aa} (hv : BM p = 0) (hl : KO p) : ∃ r, Fj N p = some r ∧ M9 p r := by
 obtain ⟨hp, _⟩ := C3 hv
 have hm := O6 hv
 unfold Fj
 rw [NS N p (by omega) (by omega), if_pos hv]
 simp only [oS, hv, bne_self_eq_false, Al]
 cases hr : BA p (FH p)
 ·unfold Er
  rw [Js N p _ (by omega) (by omega), I0 hv hm, IH N p _ (by omega) (by omega) hp hm, hr]
  exact ⟨_, rfl, .inl ⟨hr, rfl⟩⟩
 ·rcases hl with h | ⟨l, hs⟩
  ·rw [hr] at h; cases h
  ·obtain ⟨ws, h⟩ := UD hp hm hr hs
   have hl : l.length ≤ 120 := Bfs.go_len _ _ _ _ (by simp) hs
   have hs2 : IB p (FH p) 20000 N = some l := Bfs.go_more (by omega) _ _ _ _ _ h1 hs
   rw [SC (N := N) (by omega) (by omega) hv hm hr hs2 (by omega) h]
   refine ⟨_, rfl, .inr ⟨hr, ?_⟩⟩
   rcases QW hp h with ⟨k1, h2, h3⟩ | k1
   ·exact .inl ⟨k1, h2, by show (Mu p l ws).1.length ≤ 120; omega⟩
   ·exact .inr k1
theorem Tu {p : Aa} {r : List Ad × Int} (h : M9 p r) : ((r.2 == 0) = true ↔ dI p) ∧ (r.2 == 3) = false ∧ (r.2 = 0 ∨ r.2 = 13 ∨ r.2 = 14) := by
 rcases h with ⟨h1, h2⟩ | ⟨h1, ⟨h2, h3, _⟩ | ⟨h2, h3⟩⟩
 ·subst h2
  refine ⟨⟨(fun h => by cases h), fun h => ?_⟩, rfl, .inr (.inl rfl)⟩
  rw [h.1] at h1; cases h1
 ·rw [h2]
  exact ⟨⟨fun _ => ⟨h1, _, h3.1⟩, fun _ => rfl⟩, rfl, .inl rfl⟩
 ·subst h2
  refine ⟨⟨(fun h => by cases h), fun h => ?_⟩, rfl, .inr (.inr rfl)⟩
  obtain ⟨_, u, hu⟩ := h
  rw [h3 u] at hu; cases hu
def zP : Aa := ⟨[], [], [], []⟩
def Lm (l : List Int) (i : Nat) (x : Int) : Option (Aa × Int) := if 0 < i ∧ x ≤ l.getD (i - 1) 0 then some (zP, 1) else none
def N8 (l : List Int) : Bool := (CE (Lm l) 0 l).isNone
def V3 (p : Aa) (x : Int) : Bool := decide (0 ≤ x ∧ x < (p.fa.length : Int))
def KH (l : List Int) (x : Int) : Int := (CE (fun i y => if (y == x) = true then some ((i : Nat) : Int) else none) 0 l).getD (-1)
def Oa (l : List Int) (t : An) : List An := if 0 ≤ KH l t.fg ∧ 0 ≤ KH l t.fj then [⟨t.ff, KH l t.fg, KH l t.fj, t.fr, t.fq, t.fk⟩] else []
def P9 (xs : List Int) (s : Int) : Int := xs.getD s.toNat 0
def Hz (p : Aa) (l : List Int) : Aa := ⟨l.map (P9 p.fa), l.map (P9 p.fi), l.map (P9 p.fm), CF (fun _ t => Oa l t) 0 p.fc⟩
def H8 (p : Aa) (l : List Int) : Aa × Int := if N8 l = true then (if l.all (V3 p) = true then (Hz p l, 0) else (zP, 4)) else (zP, 1)
theorem Th (l : List Int) {r : Aa × Int} (h : CE (Lm l) 0 l = some r) : r = (zP, 1) := by
 obtain ⟨j, x, _, h⟩ := DT h
 unfold Lm at h
 split at h
 ·cases h; rfl
 ·cases h
theorem Vr {N : Nat} (hN : N ≤ 1000000) (l : List Int) (hl : l.length < N) (j : Unit → Option (Aa × Int)) : Cx N l j N 0 = if N8 l = true then j () else some (zP, 1) := by
 have h := BQ (Cx N l j) l (j ()) (Lm l)
  (fun n i x hx => by
   have hi := (lI.1 hx).1
   rw [Cx, AB (by omega)]
   simp only [Bh]
   unfold Lm
   by_cases h0 : 0 < i
   ·rw [AB (by omega), AT, hx, CO (by omega) (by omega), show (i : Int) - 1 = ((i - 1 : Nat) : Int) from by omega, Da (d := 0) (by omega)]
    simp only [oS, h0, true_and]
    rw [AF (by omega)]
    by_cases h1 : x ≤ l.getD (i - 1) 0
    ·rw [AB h1, if_pos h1]; rfl
    ·rw [Ay h1, if_neg h1]; rfl
   ·rw [Ay (by omega), if_neg (fun h => h0 h.1), Al, AF (by omega)]; rfl)
  (fun n => by rw [Cx, Ay (by omega)]) N 0 (zA8 _) (by omega)
 rw [zB9] at h
 have h' : Cx N l j N 0 = _ := h
 rw [h']
 unfold N8
 cases hs : CE (Lm l) 0 l with
 | none => rfl
 | some r => rw [Th l hs]; rfl
theorem Y9 {N : Nat} (hN : N ≤ 1000000) (l : List Int) (hl : l.length < N) (j : Unit → Option (Aa × Int)) : A0 N l j N 1 = if N8 l = true then j () else some (zP, 1) := by
 cases hc : l with
 | nil =>
  obtain ⟨n, rfl⟩ : ∃ n, N = n + 1 := ⟨N - 1, by omega⟩
  rw [A0, Ay (by simp)]; rfl
 | cons y ys =>
  rw [← hc]
  have hll : l.length = ys.length + 1 := by rw [hc]; rfl
  have h := BQ (fun n i => A0 N l j n (i + 1)) ys (j ()) (fun i x => Lm l (i + 1) x)
   (fun n i x hx => by
    have hi := (lI.1 hx).1
    have hx' : l[i + 1]? = some x := by rw [hc]; simpa using hx
    show A0 N l j (n + 1) ((i : Int) + 1) = _
    rw [show (i : Int) + 1 = ((i + 1 : Nat) : Int) from by omega, A0, AB (by omega), AT, hx', CO (by omega) (by omega), show ((i + 1 : Nat) : Int) - 1 = (i : Int) from by omega, Da (d := 0) (by omega)]
    simp only [oS]
    unfold Lm
    rw [AF (by omega)]
    simp only [Nat.zero_lt_succ, true_and, Nat.add_sub_cancel]
    by_cases h1 : x ≤ l.getD i 0
    ·rw [AB h1, if_pos h1]; rfl
    ·rw [Ay h1, if_neg h1]
     show _ = A0 N l j n (((i + 1 : Nat) : Int) + 1)
     rw [show ((i + 1 : Nat) : Int) + 1 = ((i + 1 + 1 : Nat) : Int) from by omega])
   (fun n => by
    show A0 N l j (n + 1) ((ys.length : Int) + 1) = _
    rw [A0, Ay (by omega)]) N 0 (zA8 _) (by omega)
  rw [zB9] at h
  have h' : A0 N l j N 1 = _ := h
  rw [h']
  have e : CE (Lm l) 0 l = CE (fun i x => Lm l (i + 1) x) 0 ys := by
   have sh : ∀ (ys : List Int) (i : Nat), CE (Lm l) (i + 1) ys = CE (fun i x => Lm l (i + 1) x) i ys := by
    intro ys
    induction ys with
    | nil => intro i; rfl
    | cons z zs ih => intro i; rw [FJ, FJ, ih]
   have h0 : Lm l 0 y = none := by unfold Lm; rw [if_neg (by omega)]
   have q : ∀ g : Nat → Int → Option (Aa × Int), CE g 0 l = CE g 0 (y :: ys) := fun g => by rw [hc]
   rw [q, FJ, h0, ← sh ys 0]
  unfold N8
  rw [e]
  cases hs : CE (fun i x => Lm l (i + 1) x) 0 ys with
  | none => rfl
  | some r => rw [← e] at hs; rw [Th l hs]; rfl
theorem Ni {N : Nat} (hN : N ≤ 1000000) (l : List Int) (hl : l.length < N) (x : Int) : Dn N l x = some (KH l x) ∧ D8 N l x = some (KH l x) := by
 constructor
 ·unfold Dn
  have h := BQ (BK N l x fun _ => some (-1)) l (some (-1)) (fun i y => if (x == y) = true then some ((i : Nat) : Int) else none)
   (fun n i y hy => by
    have hi := (lI.1 hy).1
    rw [BK, AB (by omega), AT, hy]
    simp only [oS]
    rw [AF (by omega)]
    cases x == y <;> rfl)
   (fun n => by rw [BK, Ay (by omega)]) N 0 (zA8 _) (by omega)
  rw [zB9] at h
  have h' : BK N l x (fun _ => some (-1)) N 0 = _ := h
  refine h'.trans ?_
  unfold KH
  have e : (fun (i : Nat) (y : Int) => if (x == y) = true then some (i : Int) else none) = fun i y => if (y == x) = true then some ((i : Nat) : Int) else none := by
   funext i y
   rw [Bool.beq_comm]
  rw [e]
  cases CE (fun i y => if (y == x) = true then some ((i : Nat) : Int) else none) 0 l <;> rfl
 ·unfold D8
  have h := BQ (Cd N l x fun _ => some (-1)) l (some (-1)) (fun i y => if (y == x) = true then some ((i : Nat) : Int) else none)
   (fun n i y hy => by
    have hi := (lI.1 hy).1
    rw [Cd, AB (by omega), AT, hy]
    simp only [oS]
    rw [AF (by omega)]
    cases y == x <;> rfl)
   (fun n => by rw [Cd, Ay (by omega)]) N 0 (zA8 _) (by omega)
  rw [zB9] at h
  have h' : Cd N l x (fun _ => some (-1)) N 0 = _ := h
  refine h'.trans ?_
  unfold KH
  cases CE (fun i y => if (y == x) = true then some ((i : Nat) : Int) else none) 0 l <;> rfl
theorem Qq {N : Nat} (hN : N ≤ 1000000) {p : Aa} (h2 : p.fi.length = p.fa.length) (h3 : p.fm.length = p.fa.length) (l : List Int) (hl : l.length ≤ 1000) (j : List Int × List Int × List Int → Option (Aa × Int)) : ∀ (n i : Nat) (a b c : List Int), i ≤ l.length → l.length - i < n → a.length = i → b.length = i → c.length = i →
  DP N p l j n (a, b, c, (i : Int)) = if (l.drop i).all (V3 p) = true then j (a ++ (l.drop i).map (P9 p.fa), b ++ (l.drop i).map (P9 p.fi), c ++ (l.drop i).map (P9 p.fm)) else some (zP, 4)
 | 0, i, _, _, _, _, h, _, _, _ => by omega
 | n + 1, i, a, b, c, hi, h, ha, hb, hc => by
  rw [DP]
  by_cases h1 : i < l.length
  ·have hx : l[i]? = some l[i] := by simp [h1]
   rw [AB (by simp only; omega), Ga hx]
   simp only [AT, hx, oS, zG9, zC5]
   generalize l[i] = x
   unfold Dz
   simp only [Bh]
   by_cases hr : 0 ≤ x ∧ x < (p.fa.length : Int)
   ·have hin : V3 p x = true := decide_eq_true hr
    rw [hin, zE7, AB hr.1, decide_eq_true hr.2]
    simp only [oS, zC0, Al]
    rw [Ei (d := 0) hr.1 hr.2, Ei (d := 0) hr.1 (by omega), Ei (d := 0) hr.1 (by omega)]
    simp only [oS]
    rw [Au (by simp only [zB8]; unfold C5; omega), Au (by simp only [zB8]; unfold C5; omega), Au (by simp only [zB8]; unfold C5; omega), AF (by omega),
     Qq hN h2 h3 l hl j n (i + 1) _ _ _ (by omega) (by omega) (by simp [ha]) (by simp [hb]) (by simp [hc])]
    simp only [zD1, List.singleton_append]
    rfl
   ·have hin : V3 p x = false := decide_eq_false hr
    rw [hin, zK2, if_neg (by decide)]
    by_cases h0 : 0 ≤ x
    ·rw [AB h0, decide_eq_false (fun h => hr ⟨h0, h⟩)]; rfl
    ·rw [Ay h0]; rfl
  ·have : i = l.length := by omega
   subst this
   rw [Ay (by simp only; omega), zD4 (zB0 _)]
   simp
theorem U0 {N : Nat} (hN : N ≤ 1000000) {p : Aa} (h2 : p.fi.length = p.fa.length) (h3 : p.fm.length = p.fa.length) (l : List Int) (hl : l.length ≤ 1000) (j : List Int × List Int × List Int → Option (Aa × Int)) : ∀ (n i : Nat) (a b c : List Int), i ≤ l.length → l.length - i < n → a.length = i → b.length = i → c.length = i →
  CK N p l j n (a, b, c, (i : Int)) = if (l.drop i).all (V3 p) = true then j (a ++ (l.drop i).map (P9 p.fa), b ++ (l.drop i).map (P9 p.fi), c ++ (l.drop i).map (P9 p.fm)) else some (zP, 4)
 | 0, i, _, _, _, _, h, _, _, _ => by omega
 | n + 1, i, a, b, c, hi, h, ha, hb, hc => by
  rw [CK]
  by_cases h1 : i < l.length
  ·have hx : l[i]? = some l[i] := by simp [h1]
   rw [AB (by simp only; omega), Ga hx]
   simp only [AT, hx, oS, zG9, zC5, Bh]
   generalize l[i] = x
   by_cases hr : 0 ≤ x ∧ x < (p.fa.length : Int)
   ·have hin : V3 p x = true := decide_eq_true hr
    rw [hin, zE7, Ay (by omega), decide_eq_false (by omega), Al]
    rw [Ei (d := 0) hr.1 hr.2, Ei (d := 0) hr.1 (by omega), Ei (d := 0) hr.1 (by omega)]
    simp only [oS]
    rw [Au (by simp only [zB8]; unfold C5; omega), Au (by simp only [zB8]; unfold C5; omega), Au (by simp only [zB8]; unfold C5; omega), AF (by omega),
     U0 hN h2 h3 l hl j n (i + 1) _ _ _ (by omega) (by omega) (by simp [ha]) (by simp [hb]) (by simp [hc])]
    simp only [zD1, List.singleton_append]
    rfl
   ·have hin : V3 p x = false := decide_eq_false hr
    rw [hin, zK2, if_neg (by decide)]
    by_cases h0 : x < 0
    ·rw [AB h0]; rfl
    ·rw [Ay h0, decide_eq_true (by omega)]; rfl
  ·have : i = l.length := by omega
   subst this
   rw [Ay (by simp only; omega), zD4 (zB0 _)]
   simp
theorem T6 {N : Nat} (h20 : 100 ≤ N) (t : An) (h1 : t.fq.length ≤ 6) (h2 : ∀ row, row ∈ t.fq → row.length ≤ 6) (h3 : t.fk.length ≤ 6) (h4 : ∀ row, row ∈ t.fk → row.length ≤ 6) : GK N t = some t := by
 unfold GK
 rw [Sq N (by omega), Sq N (by omega)]
 simp only [oS]
 have l2 : ∀ v4, C8 N t.fk (fun v10 => some ⟨t.ff, t.fg, t.fj, t.fr, v4, v10⟩) N (t.fk, 0) = some ⟨t.ff, t.fg, t.fj, t.fr, v4, t.fk⟩ := fun v4 => by
  have l2 := H4 (C8 N t.fk fun v12 => some ⟨t.ff, t.fg, t.fj, t.fr, v4, v12⟩) (fun a i => (a, i)) t.fk (fun v12 => some ⟨t.ff, t.fg, t.fj, t.fr, v4, v12⟩) (fun _ _ a => a) (fun _ a => a = t.fk)
   (fun n i x a hx ha => by
    subst ha
    have hi := (lI.1 hx).1
    refine ⟨?_, rfl⟩
    rw [C8]
    simp only [AT, hx, oS]
    rw [AB (by omega), UO N (by have := h4 x (lM hx); omega)]
    simp only [oS]
    rw [AF (by omega), zB3, Oq hx])
   (fun n a ha => by
    subst ha
    rw [C8, Ay (by omega)]) N 0 t.fk (zA8 _) (by omega) rfl
  have e := l2.1
  rw [l2.2] at e
  exact e
 have l1 := H4 (D5 N t.fq fun v4 => C8 N t.fk (fun v10 => some ⟨t.ff, t.fg, t.fj, t.fr, v4, v10⟩) N (t.fk, 0)) (fun a i => (a, i)) t.fq (fun v4 => some ⟨t.ff, t.fg, t.fj, t.fr, v4, t.fk⟩) (fun _ _ a => a) (fun _ a => a = t.fq)
  (fun n i x a hx ha => by
   subst ha
   have hi := (lI.1 hx).1
   refine ⟨?_, rfl⟩
   rw [D5]
   simp only [AT, hx, oS]
   rw [AB (by omega), UO N (by have := h2 x (lM hx); omega)]
   simp only [oS]
   rw [AF (by omega), zB3, Oq hx])
  (fun n a ha => by
   subst ha
   rw [D5, Ay (by omega)]
   exact l2 t.fq) N 0 t.fq (zA8 _) (by omega) rfl
 have e := l1.1
 rw [l1.2] at e
 exact e
theorem PH {N : Nat} (h20 : 100 ≤ N) (l : List (List Bool)) (h1 : l.length ≤ 6) (h2 : ∀ row, row ∈ l → row.length ≤ 6) : DR N l = some l := by
 unfold DR
 rw [FK (CA N l _) (fun a i => (a, i)) l some (fun _ x => [x]) 1 1000
  (fun i x hx => by simp)
  (fun n i x a hx ha => by
   have hi := (lI.1 hx).1
   have hr := h2 x (lM hx)
   rw [CA]
   simp only [AT, hx, oS]
   rw [AB (by omega), Au (by simp only [zD2]; unfold C5; omega), Au (by simp only [zB8] at ha ⊢; unfold C5; omega), AF (by omega)]
   rfl)
  (fun n a => by
   rw [CA, Ay (by omega)]) N [] (by omega) (by simp only [zD2]; omega), S3]
 rfl
theorem Tz {p : Aa} (hp : Bc p) {t : An} (h : t ∈ p.fc) : (t.fq.length ≤ 6 ∧ ∀ row, row ∈ t.fq → row.length ≤ 6) ∧ t.fk.length ≤ 6 ∧ ∀ row, row ∈ t.fk → row.length ≤ 6 := by
 have ht := LU (hp.tab t h)
 exact ⟨Nn hp ht, ah hp ht⟩
theorem Nk {N : Nat} (hN : N ≤ 1000000) (h20 : 100 ≤ N) {p : Aa} (hv : BM p = 0) (l : List Int) (hl : l.length ≤ 90) : FT N p l = some (H8 p l) := by
 obtain ⟨hp, _⟩ := C3 hv
 have hnt := hp.nt
 unfold FT H8
 rw [H9 N p hN (by omega)]
 simp only [oS, hv, bne_self_eq_false, Al]
 rw [Vr hN l (by omega)]
 split
 ·have h := Qq hN hp.now hp.tgt l (by omega) (fun v12 => CH N p l (fun v24 => some (Aa.mk v12.1 v12.2.1 v12.2.2 v24, 0)) N ([], 0)) N 0 [] [] [] (zA8 _) (by omega) rfl rfl rfl
  rw [zB9] at h
  refine Eq.trans h ?_
  split
  ·rw [FK (CH N p l _) (fun a i => (a, i)) p.fc (fun v24 => some (Aa.mk _ _ _ v24, 0)) (fun _ t => Oa l t) 1 1000
    (fun i t ht => by unfold Oa; split <;> simp)
    (fun n i t a ht ha => by
     have hi := (lI.1 ht).1
     obtain ⟨⟨a1, a2⟩, a3, a4⟩ := Tz hp (lM ht)
     rw [CH]
     simp only [Bh, AT, ht, oS]
     rw [AB (by omega), (Ni hN l (by omega) t.fg).1, (Ni hN l (by omega) t.fj).1]
     simp only [oS]
     rw [AF (by omega), T6 h20 t a1 a2 a3 a4]
     simp only [oS]
     unfold Oa at ha ⊢
     by_cases h1 : 0 ≤ KH l t.fg
     ·rw [AB h1]
      by_cases h2 : 0 ≤ KH l t.fj
      ·rw [decide_eq_true h2, AQ, if_pos ⟨h1, h2⟩]
       rw [if_pos ⟨h1, h2⟩] at ha
       rw [Au (by simp only [zB8] at ha ⊢; unfold C5; omega)]
      ·rw [decide_eq_false h2, Al, if_neg (fun h => h2 h.2), zG2]
     ·rw [Ay h1, Al, if_neg (fun h => h1 h.1), zG2])
    (fun n a => by rw [CH, Ay (by omega)]) N [] (by omega) (by simp only [zD2]; omega)]
   rfl
  ·rfl
 ·rfl
theorem Lk {N : Nat} (hN : N ≤ 1000000) (h20 : 100 ≤ N) {p : Aa} (hv : BM p = 0) (l : List Int) (hl : l.length ≤ 90) : Dp N p l = some (H8 p l) := by
 obtain ⟨hp, _⟩ := C3 hv
 have hnt := hp.nt
 unfold Dp H8
 rw [JL N p hN (by omega)]
 simp only [oS, hv, bne_self_eq_false, Al]
 rw [Y9 hN l (by omega)]
 split
 ·have h := U0 hN hp.now hp.tgt l (by omega) (fun v10 => BE N p l (fun v23 => some (Aa.mk v10.1 v10.2.1 v10.2.2 v23, 0)) N ([], 0)) N 0 [] [] [] (zA8 _) (by omega) rfl rfl rfl
  rw [zB9] at h
  refine Eq.trans h ?_
  split
  ·rw [FK (BE N p l _) (fun a i => (a, i)) p.fc (fun v24 => some (Aa.mk _ _ _ v24, 0)) (fun _ t => Oa l t) 1 1000
    (fun i t ht => by unfold Oa; split <;> simp)
    (fun n i t a ht ha => by
     have hi := (lI.1 ht).1
     obtain ⟨⟨a1, a2⟩, a3, a4⟩ := Tz hp (lM ht)
     rw [BE]
     simp only [Bh, AT, ht, oS]
     rw [AB (by omega), (Ni hN l (by omega) t.fg).2, (Ni hN l (by omega) t.fj).2]
     simp only [oS]
     unfold FE
     rw [AF (by omega), PH h20 _ a1 a2, PH h20 _ a3 a4]
     simp only [oS]
     unfold Oa at ha ⊢
     by_cases h1 : 0 ≤ KH l t.fg
     ·rw [AB h1]
      by_cases h2 : 0 ≤ KH l t.fj
      ·rw [decide_eq_true h2, AQ, if_pos ⟨h1, h2⟩]
       rw [if_pos ⟨h1, h2⟩] at ha
       rw [Au (by simp only [zB8] at ha ⊢; unfold C5; omega)]
      ·rw [decide_eq_false h2, Al, if_neg (fun h => h2 h.2), zG2]
     ·rw [Ay h1, Al, if_neg (fun h => h1 h.1), zG2])
    (fun n a => by rw [BE, Ay (by omega)]) N [] (by omega) (by simp only [zD2]; omega)]
   rfl
  ·rfl
 ·rfl
theorem OR {α R : Type} {f : Nat → α → Option R} {i : Nat} {xs : List α} (h : ∀ j x, xs[j]? = some x → f (i + j) x = none) : CE f i xs = none := by
 cases hs : CE f i xs with
 | none => rfl
 | some r =>
  obtain ⟨j, x, h1, h2⟩ := DT hs
  rw [h j x h1] at h2; cases h2
theorem Lq {l : List Int} (h : N8 l = true) {i : Nat} {x y : Int} (hx : l[i]? = some x) (hy : l[i + 1]? = some y) : x < y := by
 unfold N8 at h
 have h0 : CE (Lm l) 0 l = none := by
  cases hs : CE (Lm l) 0 l with
  | none => rfl
  | some r => rw [hs] at h; cases h
 have h1 := Fd h0 (i + 1) y hy
 unfold Lm at h1
 split at h1
 ·cases h1
 ·rename_i hn
  have e : l.getD (0 + (i + 1) - 1) 0 = x := by
   rw [show 0 + (i + 1) - 1 = i from by omega, lD, hx]; rfl
  rw [e] at hn
  omega
theorem W5 {l : List Int} (h : N8 l = true) (h0 : ∀ x, x ∈ l → 0 ≤ x) : ∀ (i : Nat) (x : Int), l[i]? = some x → (i : Int) ≤ x
 | 0, x, hx => h0 x (lM hx)
 | i + 1, x, hx => by
  have hi := (lI.1 hx).1
  have hy : l[i]? = some l[i] := by simp
  have h1 := W5 h h0 i _ hy
  have h2 := Lq h hy hx
  omega
theorem RW {p : Aa} {l : List Int} (h : l.all (V3 p) = true) : ∀ x, x ∈ l → 0 ≤ x ∧ x < (p.fa.length : Int) := fun x hx => of_decide_eq_true (zA3.1 h x hx)
theorem YD {p : Aa} {l : List Int} (h : N8 l = true) (h0 : l.all (V3 p) = true) : l.length ≤ p.fa.length := by
 by_cases hl : l.length = 0
 ·omega
 ·have hx : l[l.length - 1]? = some l[l.length - 1] := by simp [show l.length - 1 < l.length from by omega]
  have h1 := W5 h (fun x hx => (RW h0 x hx).1) _ _ hx
  have h2 := (RW h0 _ (lM hx)).2
  omega
theorem Xo {l : List Int} {x : Int} (h : 0 ≤ KH l x) : KH l x < (l.length : Int) ∧ l.getD (KH l x).toNat 0 = x := by
 unfold KH at h ⊢
 cases hs : CE (fun i y => if (y == x) = true then some ((i : Nat) : Int) else none) 0 l with
 | none => rw [hs] at h; simp at h
 | some r =>
  obtain ⟨j, y, hj, hq⟩ := DT hs
  split at hq
  ·rename_i he
   cases hq
   have hjl := (lI.1 hj).1
   refine ⟨by simp only [zC4]; omega, ?_⟩
   simp only [zC4, zA1, zB3]
   rw [lD, hj]
   simpa using he
  ·cases hq
theorem Sb {l xs : List Int} {k : Nat} (h : k < l.length) : (l.map (P9 xs)).getD k 0 = xs.getD (l.getD k 0).toNat 0 := by
 rw [lD, zA2, lD (l := l)]
 have : l[k]? = some l[k] := by simp [h]
 rw [this]; rfl
theorem Wj {p : Aa} {l : List Int} {t t' : An} (ht : D2 p t = 0) (hl : t' ∈ Oa l t) : D2 (Hz p l) t' = 0 := by
 unfold Oa at hl
 split at hl
 ·rename_i hp
  obtain ⟨h1, h2⟩ := Xo hp.1
  obtain ⟨h3, h4⟩ := Xo hp.2
  have : t' = ⟨t.ff, KH l t.fg, KH l t.fj, t.fr, t.fq, t.fk⟩ := by simpa using hl
  subst this
  have e1 : (Hz p l).fa.getD (KH l t.fg).toNat 0 = p.fa.getD t.fg.toNat 0 := by
   show (l.map (P9 p.fa)).getD _ 0 = _
   rw [Sb (by omega), h2]
  have e2 : (Hz p l).fa.getD (KH l t.fj).toNat 0 = p.fa.getD t.fj.toNat 0 := by
   show (l.map (P9 p.fa)).getD _ 0 = _
   rw [Sb (by omega), h4]
  have e3 : (Hz p l).fa.length = l.length := by show (l.map _).length = _; rw [zA9]
  have hok := LU ht
  unfold D2 at ht ⊢
  simp only [e1, e2, e3]
  split at ht
  ·cases ht
  ·rename_i g1
   rw [if_neg g1]
   split at ht
   ·cases ht
   ·rw [if_neg (by omega)]
    exact ht
 ·cases hl
theorem MP {p : Aa} (hv : BM p = 0) {l : List Int} (ha : N8 l = true) (hi : l.all (V3 p) = true) : BM (Hz p l) = 0 := by
 obtain ⟨hp, hx⟩ := C3 hv
 have hn := YD ha hi
 have h6 := hp.nv
 have h12 := hp.nt
 have ht : (Hz p l).fc.length ≤ 12 := by
  have : (CF (fun _ t => Oa l t) 0 p.fc).length ≤ 1 * p.fc.length := Gj fun j t _ => by unfold Oa; split <;> simp
  show (CF (fun _ t => Oa l t) 0 p.fc).length ≤ 12
  omega
 have e3 : ∀ xs : List Int, (l.map (P9 xs)).length = l.length := fun xs => zA9 _
 unfold BM
 rw [if_neg (by show ¬ (6 < (l.map (P9 p.fa)).length ∨ 12 < (Hz p l).fc.length); rw [e3]; omega),
  if_neg (by show ¬ ((l.map (P9 p.fi)).length ≠ (l.map (P9 p.fa)).length ∨ (l.map (P9 p.fm)).length ≠ (l.map (P9 p.fa)).length); rw [e3, e3, e3]; simp)]
 have s1 : CE (Ge (Hz p l)) 0 (Hz p l).fa = none := by
  refine OR fun j v hj => ?_
  have hj' : (l.map (P9 p.fa))[j]? = some v := hj
  rw [zA2] at hj'
  cases hs : l[j]? with
  | none => rw [hs] at hj'; cases hj'
  | some s =>
   rw [hs] at hj'; cases hj'
   have hjl := (lI.1 hs).1
   have hin := RW hi s (lM hs)
   obtain ⟨b1, b2, b3, b4⟩ := hx s.toNat (by omega)
   have b5 := Kp hp.ver hin.1 hin.2
   have e : l.getD j 0 = s := by rw [lD, hs]; rfl
   have q1 : (Hz p l).fi.getD (0 + j) 0 = p.fi.getD s.toNat 0 := by
    show (l.map (P9 p.fi)).getD _ 0 = _; rw [zA1, Sb hjl, e]
   have q2 : (Hz p l).fm.getD (0 + j) 0 = p.fm.getD s.toNat 0 := by
    show (l.map (P9 p.fm)).getD _ 0 = _; rw [zA1, Sb hjl, e]
   unfold Ge
   rw [q1, q2, if_neg]
   show ¬ (p.fa.getD s.toNat 0 < 1 ∨ 6 < p.fa.getD s.toNat 0 ∨ _ ∨ p.fa.getD s.toNat 0 ≤ _ ∨ _ ∨ p.fa.getD s.toNat 0 ≤ _)
   omega
 have s2 : CE (Me (Hz p l)) 0 (Hz p l).fc = none := by
  refine OR fun j t hj => ?_
  have hm : t ∈ CF (fun _ t => Oa l t) 0 p.fc := lM hj
  obtain ⟨k, t0, hk, hm⟩ := Hf.1 hm
  unfold Me
  rw [if_pos (Wj (hp.tab t0 (lM hk)) hm)]
 rw [s1, s2]; rfl
def Lt (p : Aa) (l : List Int) : Bool := match Gr 2000 (Hz p l) with
 | some r => !(r.2 == 0)
 | none => false
def SU (p : Aa) (l : List Int) : Bool × Int := if (H8 p l).2 = 0 then (Lt p l, 0) else (false, (H8 p l).2)
theorem OM {p : Aa} {l : List Int} (h : (H8 p l).2 = 0) : N8 l = true ∧ l.all (V3 p) = true ∧ H8 p l = (Hz p l, 0) := by
 unfold H8 at h ⊢
 split at h
 ·rename_i h1
  split at h
  ·rename_i h2
   exact ⟨h1, h2, by rw [if_pos h1, if_pos h2]⟩
  ·cases h
 ·cases h
theorem UL (p : Aa) (l : List Int) (h : (H8 p l).2 ≠ 0) : ((H8 p l).2 == 0) = false ∧ ((H8 p l).2 != 0) = true := by
 refine ⟨beq_eq_false_iff_ne.2 h, ?_⟩
 unfold bne; rw [beq_eq_false_iff_ne.2 h]; rfl
theorem QQ {q : Aa} (hv : BM q = 0) (hL : KO q) {r : List Ad × Int} (hs : M9 q r) : ∃ b : Bool, (r.2 == 0) = b ∧ (r.2 == 3) = false ∧ (match Gr 2000 q with | some r => !(r.2 == 0) | none => false) = !b := by
 obtain ⟨r2, e2, hs2⟩ := Q5 (N := 2000) (by omega) (by omega) hv hL
 obtain ⟨q1, q2, _⟩ := Tu hs
 obtain ⟨q1'', _, _⟩ := Tu hs2
 have eb : ∀ a : Int, (a == 0) = (r2.2 == 0) ↔ ((a == 0) = true ↔ (r2.2 == 0) = true) := fun a => by cases a == 0 <;> cases r2.2 == 0 <;> simp
 have w : (r.2 == 0) = (r2.2 == 0) := (eb _).2 (q1.trans q1''.symm)
 exact ⟨_, w, q2, by rw [e2]⟩
theorem Ub {N : Nat} (hN : N ≤ 1000000) (h1 : 1000 ≤ N) {p : Aa} (hv : BM p = 0) {l : List Int} (hl : l.length ≤ 90) (hL : (H8 p l).2 = 0 → KO (Hz p l)) : Fu N p l = some (SU p l) := by
 unfold Fu SU
 rw [H9 N p hN (by omega), Nk hN (by omega) hv l hl]
 simp only [oS, hv, bne_self_eq_false, Al]
 by_cases h : (H8 p l).2 = 0
 ·obtain ⟨g1, g2, g3⟩ := OM h
  have hvr := MP hv g1 g2
  obtain ⟨r, e, hs⟩ := Q5 hN h1 hvr (hL h)
  obtain ⟨b, w, q2, hb⟩ := QQ hvr (hL h) hs
  have hb : Lt p l = !b := hb
  rw [if_pos h, g3]
  simp only [bne_self_eq_false, Al]
  rw [e]
  simp only [oS]
  rw [q2, Al, hb, w]
  cases b <;> rfl
 ·rw [if_neg h, (UL p l h).2]; rfl
theorem Ua {N : Nat} (hN : N ≤ 1000000) (h1 : 1000 ≤ N) {p : Aa} (hv : BM p = 0) {l : List Int} (hl : l.length ≤ 90) (hL : (H8 p l).2 = 0 → KO (Hz p l)) : DQ N p l = some (SU p l) := by
 unfold DQ SU
 rw [Lk hN (by omega) hv l hl]
 simp only [oS]
 by_cases h : (H8 p l).2 = 0
 ·obtain ⟨g1, g2, g3⟩ := OM h
  have hvr := MP hv g1 g2
  obtain ⟨r, e, hs⟩ := Uu hN h1 hvr (hL h)
  obtain ⟨b, w, q2, hb⟩ := QQ hvr (hL h) hs
  have hb : Lt p l = !b := hb
  rw [if_pos h, g3]
  simp only [bne_self_eq_false, Al]
  rw [e]
  simp only [oS]
  rw [q2, Al, hb]
  unfold bne
  rw [w]
 ·rw [if_neg h, (UL p l h).2]; rfl
def Cj : Nat → List (List Int)
 | 0 => [[]]
 | 1 => [[], [0]]
 | 2 => [[], [0], [1], [0, 1]]
 | _ => [[], [0], [1], [2], [0, 1], [0, 2], [1, 2], [0, 1, 2]]
structure K1 (p : Aa) : Prop where
 v : BM p = 0
 n : p.fa.length ≤ 3
 l : ∀ s, s ∈ Cj p.fa.length → KO (Hz p s)
theorem Yk {l : List Int} {n : Nat} (hn : n ≤ 3) (h : N8 l = true) (h0 : ∀ x, x ∈ l → 0 ≤ x ∧ x < (n : Int)) : l ∈ Cj n := by
 match l, h, h0 with
 | [], _, _ => match n with | 0 => simp [Cj] | 1 => simp [Cj] | 2 => simp [Cj] | n + 3 => simp [Cj]
 | [a], h, h0 =>
  have ha := h0 a (by simp)
  match n, hn with
  | 0, _ => omega
  | 1, _ =>
   obtain rfl : a = 0 := by omega
   simp [Cj]
  | 2, _ => rcases (by omega : a = 0 ∨ a = 1) with rfl | rfl <;> simp [Cj]
  | 3, _ => rcases (by omega : a = 0 ∨ a = 1 ∨ a = 2) with rfl | rfl | rfl <;> simp [Cj]
  | n + 4, hn => omega
 | [a, b], h, h0 =>
  have ha := h0 a (by simp)
  have hb := h0 b (by simp)
  have hab := Lq h (i := 0) (x := a) (y := b) rfl rfl
  match n, hn with
  | 0, _ => omega
  | 1, _ => omega
  | 2, _ =>
   obtain ⟨rfl, rfl⟩ : a = 0 ∧ b = 1 := by omega
   simp [Cj]
  | 3, _ => rcases (by omega : (a = 0 ∧ b = 1) ∨ (a = 0 ∧ b = 2) ∨ (a = 1 ∧ b = 2)) with ⟨rfl, rfl⟩ | ⟨rfl, rfl⟩ | ⟨rfl, rfl⟩ <;> simp [Cj]
  | n + 4, hn => omega
 | a :: b :: c :: r, h, h0 =>
  have ha := h0 a (by simp)
  have hc := h0 c (by simp)
  have hab := Lq h (i := 0) (x := a) (y := b) rfl rfl
  have hbc := Lq h (i := 1) (x := b) (y := c) rfl rfl
  match n, hn with
  | 0, _ => omega
  | 1, _ => omega
  | 2, _ => omega
  | 3, _ =>
   obtain ⟨rfl, rfl, rfl⟩ : a = 0 ∧ b = 1 ∧ c = 2 := by omega
   cases r with
   | nil => simp [Cj]
   | cons d r =>
    have hd := h0 d (by simp)
    have hcd := Lq h (i := 2) (x := 2) (y := d) rfl rfl
    omega
  | n + 4, hn => omega
theorem Uv {p : Aa} (hn : p.fa.length ≤ 3) {s : List Int} (hs : s ∈ Cj p.fa.length) : (H8 p s).2 = 0 ∧ s.length ≤ 3 := by
 have key : ∀ n : Nat, n ≤ 3 → ∀ s, s ∈ Cj n → N8 s = true ∧ s.length ≤ 3 ∧ ∀ x, x ∈ s → 0 ≤ x ∧ x < (n : Int) := by
  intro n hn
  match n, hn with
  | 0, _ => decide
  | 1, _ => decide
  | 2, _ => decide
  | 3, _ => decide
  | n + 4, hn => omega
 obtain ⟨h1, h2, h3⟩ := key _ hn s hs
 refine ⟨?_, h2⟩
 unfold H8
 rw [if_pos h1, if_pos (show s.all (V3 p) = true from zA3.2 fun x hx => decide_eq_true (h3 x hx))]
theorem Ra {p : Aa} (h : K1 p) {l : List Int} (hl : (H8 p l).2 = 0) : KO (Hz p l) := by
 obtain ⟨h1, h2, _⟩ := OM hl
 exact h.l l (Yk h.n h1 (RW h2))
theorem P8 {p : Aa} (hp : Bc p) {m : Ac} (hm : BX p m) (hr : BA p m = true) {n : Nat} {l : List Jy} (hs : IB p m 120 n = some l) : ∃ l', IB p m 120 1000 = some l' := by
 obtain ⟨ws, hg⟩ := UD hp hm hr hs
 have hl : l.length ≤ 120 := Bfs.go_len _ _ _ _ (by simp) hs
 refine SA (S := Ln l) (by unfold Ln; rw [zA9]; omega) ?_ 1000 0 [(m, -1, Nb)] (by simp [Ln]) (fun y hy => ?_) (zA8 _) (by omega)
 ·intro y hy w hw
  obtain ⟨⟨y0, f, s⟩, hmem, rfl⟩ := zB5.1 hy
  obtain ⟨k, hk⟩ := zB4.1 hmem
  have hkl := Bfs.lt_get hk
  obtain ⟨wy, hwy⟩ := Bfs.get_ex (l := ws) (k := k) (by rw [hg.inv.len]; exact hkl)
  obtain ⟨k', f', s', w', e1, _, _⟩ := hg.inv.closed k y0 f s wy hk hwy w (.inl ⟨hkl, hw⟩)
  exact zB5.2 ⟨_, lM e1, rfl⟩
 ·simp only [Ln, zC5, zI4, zD8] at hy
  subst hy
  obtain ⟨s0, hs0⟩ := hg.inv.root
  exact zB5.2 ⟨_, lM hs0, rfl⟩
theorem SV {N : Nat} (hN : N ≤ 1000000) (h1 : 1000 ≤ N) {p : Aa} (hv : BM p = 0) : ∃ b, EW N p 120 = some b ∧ (b = true → KO p) := by
 obtain ⟨hp, _⟩ := C3 hv
 have hm := O6 hv
 unfold EW
 rw [NS N p (by omega) (by omega), if_pos hv]
 simp only [oS, Bh, hv, bne_self_eq_false, Al]
 rw [IH N p _ (by omega) (by omega) hp hm]
 simp only [oS]
 cases hr : BA p (FH p)
 ·exact ⟨true, rfl, fun _ => .inl hr⟩
 ·have e := M3 (N := N) (by omega) (by omega) hv hm hr (most := 120) (by omega) (by omega) (.inl (by omega))
  have e' : CZ N p (FH p) 120 = _ := e
  rw [zC0, Al, e']
  cases hs : IB p (FH p) 120 N with
  | none => exact ⟨false, rfl, fun h => by cases h⟩
  | some l => exact ⟨true, rfl, fun _ => .inr (P8 hp hm hr hs)⟩
theorem RX : Fa 2000 = some true := by kernel_rfl
theorem UV {n : Nat} (h : n ≤ 3) : CJ 2000 (n : Int) = some (Cj n) := by
 match n, h with
 | 0, _ => show CJ 2000 0 = some (Cj 0); kernel_rfl
 | 1, _ => show CJ 2000 1 = some (Cj 1); kernel_rfl
 | 2, _ => show CJ 2000 2 = some (Cj 2); kernel_rfl
 | 3, _ => show CJ 2000 3 = some (Cj 3); kernel_rfl
 | n + 4, h => omega
theorem L9 (n : Nat) : (Cj n).length ≤ 8 := by
 match n with
 | 0 => decide
 | 1 => decide
 | 2 => decide
 | n + 3 => simp [Cj]
theorem O4 {p : Aa} (hv : BM p = 0) (hn : p.fa.length ≤ 3) : ∀ (n i : Nat), i ≤ (Cj p.fa.length).length → (Cj p.fa.length).length - i < n →
  ∃ b, CR 2000 p (Cj p.fa.length) (fun _ => some true) n (i : Int) = some b ∧ (b = true → ∀ s, s ∈ (Cj p.fa.length).drop i → KO (Hz p s))
 | 0, i, _, h => by omega
 | n + 1, i, hi, h => by
  have h8 := L9 p.fa.length
  rw [CR]
  by_cases h1 : i < (Cj p.fa.length).length
  ·have hx : (Cj p.fa.length)[i]? = some (Cj p.fa.length)[i] := by simp [h1]
   have hm : (Cj p.fa.length)[i] ∈ Cj p.fa.length := zF2 _
   rw [AB (by omega), AT, hx, Ga hx]
   generalize (Cj p.fa.length)[i] = s at hx hm ⊢
   obtain ⟨g1, g2⟩ := Uv hn hm
   obtain ⟨k1, k2, k3⟩ := OM g1
   simp only [oS, Bh]
   rw [Lk (by omega) (by omega) hv s (by omega), k3]
   simp only [oS, bne_self_eq_false, Al]
   obtain ⟨b, e, hb⟩ := SV (N := 2000) (by omega) (by omega) (MP hv k1 k2)
   rw [e]
   simp only [oS]
   cases b
   ·exact ⟨false, rfl, fun h => by cases h⟩
   ·obtain ⟨b2, e2, hb2⟩ := O4 hv hn n (i + 1) (by omega) (by omega)
    rw [zC0, Al, AF (by omega)]
    refine ⟨b2, e2, fun h t ht => ?_⟩
    rcases zB2.1 ht with rfl | ht
    ·exact hb rfl
    ·exact hb2 h t ht
  ·rw [Ay (by omega)]
   exact ⟨true, rfl, fun _ s hs => by rw [zD4 (by omega)] at hs; cases hs⟩
theorem WY (d : BG) (wd : FO d) : ∃ p b, FR 2000 d = some (p, b) ∧ (b = true → K1 p) := by
 obtain ⟨p, ok, e, h⟩ := eH 2000 d (by omega) (by omega) wd
 unfold FR
 rw [e]
 simp only [oS, Bh]
 cases ok
 ·exact ⟨p, false, rfl, fun h => by cases h⟩
 ·rw [AQ]
  have hv := (h rfl).valid
  unfold FQ
  rw [JL 2000 p (by omega) (by omega)]
  simp only [oS, hv, bne_self_eq_false, Al]
  by_cases h3 : 3 < (p.fa.length : Int)
  ·rw [AB h3]
   exact ⟨p, false, rfl, fun h => by cases h⟩
  ·rw [Ay h3, UV (by omega)]
   simp only [oS]
   obtain ⟨b, e2, hb⟩ := O4 hv (by omega) 2000 0 (zA8 _) (by have := L9 p.fa.length; omega)
   have e2' : CR 2000 p (Cj p.fa.length) (fun _ => some true) 2000 0 = some b := e2
   rw [e2']
   exact ⟨p, b, rfl, fun h => ⟨hv, by omega, fun s hs => hb h s (by rw [zB9]; exact hs)⟩⟩
def Ej : Nat → List Int
 | 0 => [0]
 | 1 => [0, 1]
 | 2 => [0, 1, 2, 3]
 | _ => [0, 1, 2, 4, 3, 5, 6, 7]
def aK : Nat → List Int
 | 0 => [0]
 | 1 => [0, 1]
 | 2 => [0, 1, 2, 3]
 | _ => [0, 1, 2, 3, 4, 5, 6, 7]
def JY (x : Int) : List Int := (Bo 2000 x).getD []
def YE (f : List Int → Bool) (n : Nat) : List (Int × Bool) := (Ej n).map fun x => (x, f (JY x))
theorem So (n : Nat) : (Ej n).length ≤ 8 := by
 match n with
 | 0 => decide
 | 1 => decide
 | 2 => decide
 | k + 3 => simp [Ej]
theorem Wp {i : Nat} (h : i < 1000000) : wI .u64 ((i : Int) + 1) = ((i + 1 : Nat) : Int) := by
 rw [show (i : Int) + 1 = ((i + 1 : Nat) : Int) from by omega]
 show (((i + 1 : Nat) : Int) % (18446744073709551616 : Int)) = _
 exact Int.emod_eq_of_lt (by omega) (by omega)
theorem Wi {p : Aa} (c : Nat) (hc : DX .u64 1 (p.fa.length : Int) = (c : Int)) (h8 : c ≤ 8) (j : List Int → Option (List Int × List (Int × Bool) × Int)) : ∀ (n i : Nat) (a : List Int), i ≤ c → c - i < n → a.length = i →
  Fr 2000 p j n (a, (i : Int)) = j (a ++ (zF9 i (c - i)).map fun (k : Nat) => (k : Int))
 | 0, i, _, _, h, _ => by omega
 | n + 1, i, a, hi, h, ha => by
  rw [Fr]
  simp only [hc]
  by_cases h1 : i < c
  ·rw [AB (by omega), Au (by simp only [zB8]; unfold C5; omega), Wp (by omega), Wi c hc h8 j n (i + 1) _ (by omega) (by omega) (by simp [ha]),
    show c - i = (c - (i + 1)) + 1 from by omega, List.range'_succ]
   simp
  ·rw [Ay (by omega), show c - i = 0 from by omega]
   simp
theorem Yg {n : Nat} (hn : n ≤ 3) : ∀ x, x ∈ Ej n → Bo 2000 x = some (JY x) ∧ JY x ∈ Cj n := by
 have h0 : Bo 2000 0 = some [] := by kernel_rfl
 have h1 : Bo 2000 1 = some [0] := by kernel_rfl
 have h2 : Bo 2000 2 = some [1] := by kernel_rfl
 have h3 : Bo 2000 3 = some [0, 1] := by kernel_rfl
 have h4 : Bo 2000 4 = some [2] := by kernel_rfl
 have h5 : Bo 2000 5 = some [0, 2] := by kernel_rfl
 have h6 : Bo 2000 6 = some [1, 2] := by kernel_rfl
 have h7 : Bo 2000 7 = some [0, 1, 2] := by kernel_rfl
 intro x hx
 match n, hn with
 | 0, _ => simp only [Ej, zB2, zI6, or_false] at hx; subst hx; unfold JY; rw [h0]; simp [Cj]
 | 1, _ => simp only [Ej, zB2, zI6, or_false] at hx; unfold JY; rcases hx with rfl | rfl <;> simp only [h0, h1] <;> simp [Cj]
 | 2, _ => simp only [Ej, zB2, zI6, or_false] at hx; unfold JY; rcases hx with rfl | rfl | rfl | rfl <;> simp only [h0, h1, h2, h3] <;> simp [Cj]
 | 3, _ => simp only [Ej, zB2, zI6, or_false] at hx; unfold JY; rcases hx with rfl | rfl | rfl | rfl | rfl | rfl | rfl | rfl <;> simp only [h0, h1, h2, h3, h4, h5, h6, h7] <;> simp [Cj]
 | n + 4, hn => omega
theorem ZM {p : Aa} (h : K1 p) {s : List Int} (hs : s ∈ Cj p.fa.length) : Fu 2000 p s = some (Lt p s, 0) := by
 obtain ⟨g1, g2⟩ := Uv h.n hs
 have e1 := Ub (N := 2000) (by omega) (by omega) h.v (l := s) (by omega) (Ra h)
 have e : SU p s = (Lt p s, 0) := by unfold SU; rw [if_pos g1]
 rw [e] at e1
 exact e1
theorem ZY {p : Aa} (h : K1 p) {s : List Int} (hs : s ∈ Cj p.fa.length) : DQ 2000 p s = some (Lt p s, 0) := by
 obtain ⟨g1, g2⟩ := Uv h.n hs
 have e1 := Ua (N := 2000) (by omega) (by omega) h.v (l := s) (by omega) (Ra h)
 have e : SU p s = (Lt p s, 0) := by unfold SU; rw [if_pos g1]
 rw [e] at e1
 exact e1
theorem Sr {x : Int} {b : Bool} : ∀ {m : List (Int × Bool)}, (∀ q, q ∈ m → q.1 ≠ x) → LT x b m = m ++ [(x, b)]
 | [], _ => rfl
 | q :: m, h => by
  have : (x == q.1) = false := beq_eq_false_iff_ne.2 fun e => h q (by simp) e.symm
  rw [LT, this, if_neg (by decide), Sr fun r hr => h r (by simp [hr])]; rfl
theorem U1 {p : Aa} (h : K1 p) (hd : (Ej p.fa.length).Nodup) (j : List (Int × Bool) → Option (List Int × List (Int × Bool) × Int)) : ∀ (n i : Nat) (m : List (Int × Bool)), i ≤ (Ej p.fa.length).length → (Ej p.fa.length).length - i < n → m = ((Ej p.fa.length).take i).map (fun x => (x, Lt p (JY x))) →
  EI 2000 p (Ej p.fa.length) j n (m, (i : Int)) = j (YE (Lt p) p.fa.length)
 | 0, i, _, _, h, _ => by omega
 | n + 1, i, m, hi, hn, hm => by
  have h8 := So p.fa.length
  rw [EI]
  by_cases h1 : i < (Ej p.fa.length).length
  ·have hx : (Ej p.fa.length)[i]? = some (Ej p.fa.length)[i] := by simp [h1]
   obtain ⟨k1, k2⟩ := Yg h.n _ (zF2 h1)
   rw [AB (by simp only; omega)]
   simp only [AT, hx, oS]
   unfold In
   rw [k1]
   simp only [oS]
   rw [ZM h k2]
   simp only [oS, bne_self_eq_false, Al]
   have hnew : ∀ q, q ∈ m → q.1 ≠ (Ej p.fa.length)[i] := by
    intro q hq e
    rw [hm] at hq
    obtain ⟨x, hxm, rfl⟩ := zB5.1 hq
    obtain ⟨k, hk, e2⟩ := List.mem_take_iff_getElem.1 hxm
    have e : x = (Ej p.fa.length)[i] := e
    rw [← e2] at e
    have := (List.getElem_inj hd).1 e
    omega
   rw [AF (by omega), Sr hnew]
   refine U1 h hd j n (i + 1) _ (by omega) (by omega) ?_
   rw [hm, List.take_succ_eq_append_getElem h1, zE6]
   rfl
  ·rw [Ay (by simp only; omega)]
   simp only
   rw [hm, List.take_of_length_le (by omega)]; rfl
theorem Yj (n : Nat) : (Ej n).Nodup := by
 match n with
 | 0 => decide
 | 1 => decide
 | 2 => decide
 | k + 3 => show ([0, 1, 2, 4, 3, 5, 6, 7] : List Int).Nodup; decide
theorem Wf {n : Nat} (hn : n ≤ 3) : Bv 2000 (aK n) (fun x => DA 2000 x.1 x.2) = some (Ej n) := by
 match n, hn with
 | 0, _ => show Bv 2000 (aK 0) (fun x => DA 2000 x.1 x.2) = some (Ej 0); kernel_rfl
 | 1, _ => show Bv 2000 (aK 1) (fun x => DA 2000 x.1 x.2) = some (Ej 1); kernel_rfl
 | 2, _ => show Bv 2000 (aK 2) (fun x => DA 2000 x.1 x.2) = some (Ej 2); kernel_rfl
 | 3, _ => show Bv 2000 (aK 3) (fun x => DA 2000 x.1 x.2) = some (Ej 3); kernel_rfl
 | n + 4, hn => omega
theorem cq {n : Nat} (hn : n ≤ 3) : ∃ c : Nat, c ≤ 8 ∧ DX .u64 1 (n : Int) = (c : Int) ∧ (zF9 0 c).map (fun (k : Nat) => (k : Int)) = aK n := by
 match n, hn with
 | 0, _ => exact ⟨1, by omega, by decide, rfl⟩
 | 1, _ => exact ⟨2, by omega, by decide, rfl⟩
 | 2, _ => exact ⟨4, by omega, by decide, rfl⟩
 | 3, _ => exact ⟨8, by omega, by decide, rfl⟩
 | n + 4, hn => omega
theorem Xx {p : Aa} (h : K1 p) : FZ 2000 p = some (Ej p.fa.length, YE (Lt p) p.fa.length, 0) := by
 unfold FZ
 rw [H9 2000 p (by omega) (by omega)]
 simp only [oS, h.v, bne_self_eq_false, Al]
 rw [Au (by omega)]
 obtain ⟨c, h8, hc, hu⟩ := cq h.n
 have e := Wi c hc h8 (fun v5 => (Bv 2000 v5 fun x => DA 2000 x.1 x.2).bind fun v8 => EI 2000 p v8 (fun v10 => some (v8, v10, 0)) 2000 ([], 0)) 2000 0 [] (zA8 _) (by omega) rfl
 refine Eq.trans e ?_
 simp only [Nat.sub_zero, hu, zG0]
 rw [Wf h.n, oS]
 exact U1 h (Yj _) (fun v10 => some (Ej p.fa.length, v10, 0)) 2000 0 [] (zA8 _) (by have := So p.fa.length; omega) rfl
theorem Sj {p : Aa} (h : K1 p) (j : List Bool → Option (List (List Int) × List Bool × Int)) : ∀ (n i : Nat) (a : List Bool), i ≤ (Cj p.fa.length).length → (Cj p.fa.length).length - i < n → a.length = i →
  CP 2000 p (Cj p.fa.length) j n (a, (i : Int)) = j (a ++ ((Cj p.fa.length).drop i).map (Lt p))
 | 0, i, _, _, h, _ => by omega
 | n + 1, i, a, hi, hn, ha => by
  have h8 := L9 p.fa.length
  rw [CP]
  by_cases h1 : i < (Cj p.fa.length).length
  ·have hx : (Cj p.fa.length)[i]? = some (Cj p.fa.length)[i] := by simp [h1]
   rw [AB (by simp only; omega), Ga hx]
   simp only [AT, hx, oS]
   rw [ZY h (zF2 h1)]
   simp only [oS, bne_self_eq_false, Al]
   rw [Au (by simp only [zB8]; unfold C5; omega), AF (by omega), Sj h j n (i + 1) _ (by omega) (by omega) (by simp [ha]), zD1, zC5]
   rfl
  ·rw [Ay (by simp only; omega), zD4 (by omega)]
   simp
theorem TH {p : Aa} (h : K1 p) : Do 2000 p = some (Cj p.fa.length, (Cj p.fa.length).map (Lt p), 0) := by
 unfold Do
 rw [JL 2000 p (by omega) (by omega), oS, h.v, show ((0 : Int) != 0) = false from rfl, Al, UV h.n, oS]
 have e := Sj h (fun v5 => some (Cj p.fa.length, v5, 0)) 2000 0 [] (zA8 _) (by have := L9 p.fa.length; omega) rfl
 rw [zB9, zG0] at e
 exact e
def ep (n : Nat) : Aa := ⟨zA5 n 0, [], [], []⟩
theorem UI {p q : Aa} (h : p.fa.length = q.fa.length) (v1 : List (List Int) × Int) (j : List Int → Option (List Int × Int)) : ∀ (n : Nat) (s : List Int × Int), Bs 2000 p v1 j n s = Bs 2000 q v1 j n s
 | 0, _ => rfl
 | n + 1, s => by
  rw [Bs, Bs, h]
  have e : (fun (v8 : List Int) => Bs 2000 p v1 j n (v8, wI .i64 (s.2 + 1))) = fun v8 => Bs 2000 q v1 j n (v8, wI .i64 (s.2 + 1)) := funext fun v8 => UI h v1 j n _
  rw [e]
def XK (sets : List Int) (fnd : List (Int × Bool)) : Option (List (List Int)) := (Fe 2000 sets fnd).bind fun v3 => GN 2000 v3
def bX (sets : List Int) (fnd : List (Int × Bool)) : Option (List Int × Int) := (Fe 2000 sets fnd).bind fun v3 => Ht 2000 v3 (fun v5 => (Bo 2000 v5).bind fun v8 => some (v8, 0)) 2000 (0, 0)
def WR (sets : List Int) (fnd : List (Int × Bool)) : Option (List (List Int)) :=
 (DE 2000 sets).bind fun v3 => (CM 2000 v3 (fun x => Fs 2000 x fnd sets)).bind fun v4 => (DF (v4.1 ≤ v4.2.length)).bind fun _ => GN 2000 (v4.2.take v4.1)
def ek (n : Nat) (bs : List Bool) : Option (List (List Int) × Int) := GR 2000 (Cj n, bs, 0) (fun v3 => some (v3, 0)) 2000 ([], 0)
def eL (n : Nat) (bs : List Bool) : Option (List (List Int) × Int) := Eo 2000 (Cj n, bs, 0) (fun v3 => some (v3, 0)) 2000 ([], 0)
def dC (n : Nat) (a : List (List Int)) : Option (List Int × Int) := Bs 2000 (ep n) (a, 0) (fun v3 => some (v3, 0)) 2000 ([], 0)
def R9 (n : Nat) (bs : List Bool) : List (Int × Bool) := (Ej n).zip bs
def Vx (n : Nat) (bs : List Bool) : Bool :=
 match XK (Ej n) (R9 n bs), ek n bs, bX (Ej n) (R9 n bs), WR (Ej n) (R9 n bs), eL n bs with
 | some a, some (a', e), some (i, ei), some f, some (f', e') => decide (ei = 0) && decide (a = a') && decide (e = 0) && decide (f = f') && decide (e' = 0) && decide (a.length ≤ 8) && decide (f.length ≤ 8) && (a.all fun s => decide (s.length ≤ 8)) && (f.all fun s => decide (s.length ≤ 8)) && decide (i.length ≤ 8) && (match dC n a with | some (i', e'') => decide (i = i') && decide (e'' = 0) | none => false)
 | _, _, _, _, _ => false
def Le : Nat → List (List Bool)
 | 0 => [[]]
 | k + 1 => (Le k).map (true :: ·) ++ (Le k).map (false :: ·)
theorem JM : ∀ (k : Nat) (bs : List Bool), bs.length = k → bs ∈ Le k
 | 0, bs, h => by rw [zD3 h]; simp [Le]
 | k + 1, b :: bs, h => by
  have := JM k bs (by simpa using h)
  rw [Le, zC2]
  cases b
  ·exact .inr (zB5.2 ⟨bs, this, rfl⟩)
  ·exact .inl (zB5.2 ⟨bs, this, rfl⟩)
 | k + 1, [], h => by simp at h
theorem dT : (Le 1).all (Vx 0) = true := by kernel_rfl
theorem dw : (Le 2).all (Vx 1) = true := by kernel_rfl
theorem dt : (Le 4).all (Vx 2) = true := by kernel_rfl
theorem ex : (Le 8).all (Vx 3) = true := by kernel_rfl
theorem Yw {n : Nat} (hn : n ≤ 3) {bs : List Bool} (h : bs.length = (Cj n).length) : Vx n bs = true := by
 match n, hn with
 | 0, _ => exact zA3.1 dT bs (JM 1 bs h)
 | 1, _ => exact zA3.1 dw bs (JM 2 bs h)
 | 2, _ => exact zA3.1 dt bs (JM 4 bs h)
 | 3, _ => exact zA3.1 ex bs (JM 8 bs h)
 | n + 4, hn => omega
theorem YU (f : List Int → Bool) {n : Nat} (hn : n ≤ 3) : YE f n = R9 n ((Cj n).map f) := by
 have key : ∀ n, n ≤ 3 → (Ej n).map JY = Cj n := by
  intro n hn
  match n, hn with
  | 0, _ => show (Ej 0).map JY = Cj 0; kernel_rfl
  | 1, _ => show (Ej 1).map JY = Cj 1; kernel_rfl
  | 2, _ => show (Ej 2).map JY = Cj 2; kernel_rfl
  | 3, _ => show (Ej 3).map JY = Cj 3; kernel_rfl
  | n + 4, hn => omega
 unfold YE R9
 rw [← key n hn, List.map_map]
 have : ∀ l : List Int, (l.map fun x => (x, f (JY x))) = l.zip (l.map (f ∘ JY)) := by
  intro l
  induction l with
  | nil => rfl
  | cons x l ih => simp [ih]
 exact this _
structure dX (p : Aa) (a f : List (List Int)) (i : List Int) : Prop where
 ca : IT 2000 p = some (a, 0)
 ra : GD 2000 p = some (a, 0)
 ci : KG 2000 p = some (i, 0)
 ri : HZ 2000 p = some (i, 0)
 cf : GE 2000 p = some (f, 0)
 rf : Es 2000 p = some (f, 0)
 la : a.length ≤ 8 ∧ ∀ s, s ∈ a → s.length ≤ 8
 lf : f.length ≤ 8 ∧ ∀ s, s ∈ f → s.length ≤ 8
 li : i.length ≤ 8
 qa : XK (Ej p.fa.length) (R9 p.fa.length ((Cj p.fa.length).map (Lt p))) = some a
 qf : WR (Ej p.fa.length) (R9 p.fa.length ((Cj p.fa.length).map (Lt p))) = some f
theorem ab {p : Aa} (h : K1 p) : ∃ a f i, dX p a f i := by
 have ht := Xx h
 rw [YU (Lt p) h.n] at ht
 have hv := TH h
 have hc := Yw h.n (bs := (Cj p.fa.length).map (Lt p)) (by simp)
 generalize hB : (Cj p.fa.length).map (Lt p) = bs at ht hv hc
 unfold Vx at hc
 split at hc
 ·rename_i a a' e i ei f f' e' e1 e2 e3 e4 e5
  simp only [zA6, decide_eq_true_eq, zA3] at hc
  obtain ⟨⟨⟨⟨⟨⟨⟨⟨⟨⟨c0, c1⟩, c2⟩, c3⟩, c4⟩, c5⟩, c6⟩, c7⟩, c8⟩, c9⟩, c10⟩ := hc
  subst c0 c1 c2 c3 c4
  split at c10
  ·rename_i i' e'' e6
   rw [zA6, decide_eq_true_eq, decide_eq_true_eq] at c10
   obtain ⟨rfl, rfl⟩ := c10
   have hra : GD 2000 p = some (a, 0) := by
    unfold GD; rw [hv, oS]; exact e2
   refine ⟨a, f, i, ?_, hra, ?_, ?_, ?_, ?_, ⟨c5, c7⟩, ⟨c6, c8⟩, c9, ?_, ?_⟩
   ·unfold IT
    rw [ht, oS, show ((0 : Int) != 0) = false from rfl, Al]
    unfold XK at e1
    cases hm : Fe 2000 (Ej p.fa.length) (R9 p.fa.length bs) with
    | none => rw [hm] at e1; cases e1
    | some v3 => rw [hm, oS] at e1; rw [oS, e1]; rfl
   ·unfold KG
    rw [ht, oS, show ((0 : Int) != 0) = false from rfl, Al]
    exact e3
   ·unfold HZ
    rw [hra, oS, UI (q := ep p.fa.length) (by simp [ep])]
    exact e6
   ·unfold GE
    rw [ht, oS, show ((0 : Int) != 0) = false from rfl, Al]
    unfold WR at e4
    cases hm : DE 2000 (Ej p.fa.length) with
    | none => rw [hm] at e4; cases e4
    | some v3 =>
     rw [hm, oS] at e4
     rw [oS]
     cases hd : CM 2000 v3 (fun x => Fs 2000 x (R9 p.fa.length bs) (Ej p.fa.length)) with
     | none => rw [hd] at e4; cases e4
     | some v4 =>
      rw [hd, oS] at e4
      rw [oS]
      cases hk : DF (v4.1 ≤ v4.2.length) with
      | none => rw [hk] at e4; cases e4
      | some u =>
       rw [hk, oS] at e4
       rw [oS, e4]; rfl
   ·unfold Es; rw [hv, oS]; exact e5
   ·rw [hB]; exact e1
   ·rw [hB]; exact e4
  ·cases c10
 ·cases hc
theorem SZ (N : Nat) (hN : N ≤ 1000000) (a : List Int) (h : a.length < N) : Fi N a a = some true := by
 unfold Fi
 rw [show ((a.length : Int) != (a.length : Int)) = false by simp, Al]
 have key := BQ (C7 N a a fun _ => some true) a (some true) (fun _ _ => none)
  (fun n i x hx => by
   have hi := (lI.1 hx).1
   rw [C7, AB (by omega), AT, hx, oS, oS, show (x != x) = false by simp, Al, AF (by omega)]; rfl)
  (fun n => by rw [C7, Ay (by omega)]) N 0 (zA8 _) (by omega)
 refine Eq.trans key ?_
 rw [OR fun _ _ _ => rfl]; rfl
theorem Ro (N : Nat) (hN : N ≤ 1000000) (a : List (List Int)) (h : a.length < N) (h2 : ∀ s, s ∈ a → s.length < N) : Cr N a a = some true := by
 unfold Cr
 rw [show ((a.length : Int) != (a.length : Int)) = false by simp, Al]
 have key := BQ (CQ N a a fun _ => some true) a (some true) (fun _ _ => none)
  (fun n i x hx => by
   have hi := (lI.1 hx).1
   rw [CQ, AB (by omega), AT, hx, oS, oS, SZ N hN x (h2 x (lM hx)), oS, zC0, Al, AF (by omega)]; rfl)
  (fun n => by rw [CQ, Ay (by omega)]) N 0 (zA8 _) (by omega)
 refine Eq.trans key ?_
 rw [OR fun _ _ _ => rfl]; rfl
theorem PG (d : BG) (wd : FO d) : D6 2000 d = some true := by
 obtain ⟨p, b, e, hb⟩ := WY d wd
 unfold D6
 rw [e, RX]
 cases b
 ·rfl
 ·obtain ⟨a, f, i, R⟩ := ab (hb rfl)
  show ((GE 2000 p).bind fun v7 => (Es 2000 p).bind fun v8 => AP (v7.2 == v8.2) ((Cr 2000 v7.1 v8.1).bind fun v11 => some v11) (some false)) = some true
  rw [R.cf, R.rf]
  show ((Cr 2000 f f).bind fun v11 => some v11) = some true
  rw [Ro 2000 (by omega) f (by have := R.lf.1; omega) (fun s hs => by have := R.lf.2 s hs; omega)]
  rfl
end Go.Lift
