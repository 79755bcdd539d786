/- Lemmas for UnblockAllSaid, which YtjpgllmfenogoaaGreatFinU8 proves. -/
import Derived.Test.YtjpgllmfenogoaaGreatMReg3
import Derived.KernelRfl
open Bool renaming and_eq_true → zH, and_true → vW, false_eq_true → vC, false_or → uZ, not_false → yT, not_true → zV, or_eq_true → xO
open Int renaming natCast_nonneg → zA1, toNat_natCast → zK
open List renaming all_eq_true → zG, any_eq_true → y7, append_assoc → yQ, append_nil → xM, cons_append → uT, drop_drop → vI, drop_eq_nil_of_le → yP, drop_zero → yM, ext_getElem? → yX, filter_append → xP, getElem?_append_right → yJ, getElem?_drop → yU, getElem?_eq_none → yG, getElem?_map → zF, getElem?_mapIdx → yB, getElem?_set → uA, getElem?_take_of_lt → yI, getElem_mem → xF, length_append → zT, length_cons → zZ, length_drop → y8, length_filter_le → xQ, length_map → zI, length_mapIdx → vP, length_nil → zX, length_singleton → zU, map_append → xH, map_cons → yH, map_nil → xZ, mem_append → yA, mem_cons → zO, mem_cons_of_mem → xR, mem_cons_self → vX, mem_filter → uX, mem_iff_getElem? → zN, mem_map → zQ, mem_singleton → yE, mem_take_iff_getElem → uS, nil_append → yR, nodup_cons → xW, pairwise_append → uK, pairwise_cons → xB, pairwise_iff_getElem → x8, pairwise_singleton → zA6, replicate → zD, set_cons_succ → vO, take_add_one → yV, take_length → uU, take_of_length_le → uC, take_succ_eq_append_getElem → xN
open Nat renaming add_assoc → x9, add_zero → xK, eq_zero_or_pos → uO, le_refl → zM, le_trans → xA, sub_self → vM, zero_add → zC, zero_le → zL
open Option renaming map_some → yC
namespace Go.Lift
open IntKind renaming wrap → wI
open Option renaming bind_some → oS
open List renaming mem_of_getElem? → lM
open List renaming getElem?_eq_some_iff → lI
open List renaming getD_eq_getElem?_getD → lD
open Go
theorem LD {N : Nat} (hN : N ≤ 1000000) (h20 : 100 ≤ N) {p : Ab} (hv : BK p = 0) {most : Nat} (hmo : most ≤ 20000) (j : List AG → Option (List AG × Int)) :
  ∀ (n i : Nat) (pl : List AG) (q : List (Ae × Int)) (l' : List Jz), i ≤ pl.length → (∀ n, n ∈ pl.map Fi → B4 p n.1 ∧ Bs p n.1 = true) → pl.length ≤ most → PK p q (pl.map Fi) → Nr p i [] pl → (∀ (b : Nat) nb, i ≤ b → pl[b]? = some nb → nb.f7 = []) →
   Bfs.go (Jj p) most n i (pl.map Fi) = some l' →
   ∃ pl', Ea N p j n (pl, MI q, (i : Int)) = j pl' ∧ pl'.map Fi = l' ∧ Nr p l'.length [] pl'
 | 0, i, pl, q, l', _, _, _, _, _, _, h => by cases h
 | n + 1, i, pl, q, l', hi, hA, hlm, hpl, hnx, hem, h => by
  obtain ⟨hp, _⟩ := Co hv
  simp only [Bfs.go] at h
  rw [Ea]
  by_cases h1 : i < pl.length
  ·obtain ⟨nd, hx⟩ := Bfs.get_ex h1
   have hxl : (pl.map Fi)[i]? = some (Fi nd) := by rw [zF, hx]; rfl
   have hm := (hA _ (lM hxl)).1
   have hm : B4 p nd.gq := hm
   rw [hxl] at h
   simp only at h
   rw [AB (by simp only; omega)]
   simp only [AO, hx, oS]
   rw [show (Ae.mk nd.gq.gb nd.gq.f7 nd.gq.gc) = nd.gq from rfl, V5 N hN h20 hv hm]
   simp only [oS, bne_self_eq_false, An]
   have hsl := RI hp nd.gq
   cases hin : Bfs.inner most i (Jj p nd.gq) (pl.map Fi) with
   | none =>
    have hin' : Bfs.inner most i (Jj p (Fi nd).1) (pl.map Fi) = none := hin
    rw [hin'] at h; cases h
   | some l1 =>
    have hin' : Bfs.inner most i (Jj p (Fi nd).1) (pl.map Fi) = some l1 := hin
    rw [hin'] at h
    simp only [oS] at h
    obtain ⟨pl1, q1, e1, e2, e3, e4, e5⟩ := H5 hN h20 hv hm hmo (v2 := (pl, MI q, (i : Int))) rfl (Gz p nd.gq) 0 (fun s hs => hs) (by omega) (fun (v9 : (List AG) × (List (ByteArray × Int))) =>
     Ea N p j n (v9.1, v9.2, (wI .i64 ((i : Int) + 1)))) N 0 pl q l1 (zL _) (by omega) ⟨nd, hx, rfl⟩ hA hlm hpl (by
      rw [List.take_zero]; exact hnx) ⟨nd, hx, by rw [hem i nd (zM _) hx]; exact zM _⟩ hin
    have e1' : CI N p (pl, MI q, (i : Int)) (Gz p nd.gq, 0) (fun (v9 : (List AG) × (List (ByteArray × Int))) =>
     Ea N p j n (v9.1, v9.2, (wI .i64 ((i : Int) + 1)))) N (pl, MI q, 0) = _ := e1
    rw [e1']
    simp only
    obtain ⟨k1, k2⟩ := Lc hin (fun q hq => Vb hp hm hq) hA
    have hl1 : l1.length = pl1.length := by rw [← e2, zI]
    have hil : i < pl1.length := by rw [← hl1]; exact Bfs.lt_get (k2 _ _ hxl)
    rw [Ay (by have := Bfs.inner_len _ _ _ (by rw [zI]; exact hlm) hin; omega)]
    refine LD hN h20 hv hmo j n (i + 1) pl1 q1 l' (by omega) (by rw [e2]; exact k1) (by rw [← hl1]; exact Bfs.inner_len _ _ _ (by rw [zI]; exact hlm) hin) (by rw [e2]; exact e3) ?_ ?_ (by rw [e2]; exact h)
    ·have hmi : ∀ nb, pl1[i]? = some nb → nb.gq = nd.gq := fun nb hb => by
      have := k2 _ _ hxl
      rw [← e2, zF, hb] at this
      exact congrArg (fun n : Jz => n.1) (Option.some.inj this)
     constructor
     ·intro b nb hb r hr
      obtain ⟨s, y, g1, g2⟩ := e4.to b nb hb r hr
      refine ⟨s, y, .inl ?_, g2⟩
      rcases g1 with g1 | ⟨g1, g3⟩
      ·exact ⟨by omega, g1.2⟩
      ·subst g1; exact ⟨by omega, by rw [hmi nb hb]; exact g3⟩
     ·intro b nb hb s y hs
      refine e4.of b nb hb s y ?_
      rcases hs with ⟨h2, h3⟩ | ⟨_, h3⟩
      ·by_cases hbi : b < i
       ·exact .inl ⟨hbi, h3⟩
       ·have : b = i := by omega
        subst this
        exact .inr ⟨rfl, by rw [hmi nb hb] at h3; exact h3⟩
      ·cases h3
    ·intro b nb hb hb2
     rcases e5 b nb hb2 (by omega) with h2 | h2
     ·exact hem b nb (by omega) h2
     ·exact h2
  ·have hi' : i = pl.length := by omega
   subst hi'
   rw [yG (by rw [zI]; exact zM _)] at h
   have h : some (pl.map Fi) = some l' := h
   cases h
   rw [Av (by simp)]
   exact ⟨pl, rfl, rfl, by rw [zI]; exact hnx⟩
theorem QX {N : Nat} (hN : N ≤ 1000000) (h20 : 100 ≤ N) {p : Ab} (hv : BK p = 0) {m : Ae} (hm : B4 p m) (hr : Bs p m = true) {most : Nat} (hmo : most ≤ 20000) (h1 : 1 ≤ most) {l : List Jz} (hs : IW p m most N = some l) :
  ∃ pl, HA N p m = some (pl, 0) ∧ pl.map Fi = l ∧ Nr p l.length [] pl := by
 obtain ⟨hp, _⟩ := Co hv
 unfold HA
 rw [YB N hN h20 hp hm]
 simp only [oS]
 obtain ⟨pl, e1, e2, e3⟩ := LD hN h20 hv hmo (fun (v3 : (List AG)) => some (v3, 0)) N 0 [AG.mk m (-1) MZ []] [(m, 0)] l (zL _) (V9 hm hr) h1 (by
  refine ⟨fun e he => by rw [yE.1 he]; exact hm, ?_, ?_⟩
  ·intro x _ hq n hn
   have hn : n = (m, -1, MZ) := yE.1 hn
   simp only [J7] at hq
   split at hq
   ·cases hq
   ·rename_i h; rw [hn]; exact fun e => h e.symm
  ·intro x r _ hq
   simp only [J7] at hq
   split at hq
   ·rename_i h
    cases hq; right; exact ⟨0, -1, MZ, rfl, by rw [h]; rfl⟩
   ·cases hq) (by
  constructor
  ·intro b nb hb r hr
   have := Bfs.lt_get hb
   simp at this; subst this
   cases hb; cases hr
  ·intro b nb hb s y hs
   rcases hs with h | h
   ·omega
   ·cases h.2) (fun b nb _ hb => by
    have := Bfs.lt_get hb
    simp at this; subst this
    cases hb; rfl) hs
 refine ⟨pl, ?_, e2, e3⟩
 exact e1
theorem Wk {α : Type} (xs : List α) (x y : α) : ∀ (A B : List α), ((A ++ x :: (xs ++ y :: B)).set A.length y).set (A.length + 1 + xs.length) x = A ++ y :: (xs ++ x :: B)
 | [], B => by
  rw [yR, zX, List.set_cons_zero, show 0 + 1 + xs.length = xs.length + 1 from by omega, vO, List.set_append_right _ _ (zM _), vM]
  rfl
 | a :: A, B => by
  have := Wk xs x y A B
  simp only [uT, zZ]
  rw [vO, show A.length + 1 + 1 + xs.length = (A.length + 1 + xs.length) + 1 from by omega, vO, this]
theorem US (N : Nat) (j : List Af → Option (List Af)) : ∀ (n : Nat) (xs A B : List Af), xs.length < 2 * n → A.length + xs.length ≤ 100000 →
  Bn N j n (A ++ (xs ++ B), (A.length : Int), ((A.length + xs.length : Nat) : Int) - 1) = j (A ++ (xs.reverse ++ B))
 | 0, xs, A, B, h, _ => by omega
 | n + 1, xs, A, B, h, h2 => by
  rw [Bn]
  rcases xs with _ | ⟨x, xs⟩
  ·rw [Av (by simp only [zX]; omega)]; rfl
  ·rcases Bfs.list_snoc xs with rfl | ⟨xs, y, rfl⟩
   ·rw [Av (by simp only [zZ, zX]; omega)]; rfl
   ·simp only [zZ, zT, zX] at h h2
    rw [AB (by simp only [zZ, zT, zX]; omega)]
    have e1 : (((A.length + (x :: (xs ++ [y])).length : Nat) : Int) - 1) = ((A.length + 1 + xs.length : Nat) : Int) := by simp only [zZ, zT, zX]; omega
    have e2 : A ++ (x :: (xs ++ [y]) ++ B) = A ++ x :: (xs ++ y :: B) := by simp
    simp only [e1, e2, AO, zK]
    have g1 : (A ++ x :: (xs ++ y :: B))[A.length + 1 + xs.length]? = some y := by
     rw [yJ (by omega), show A.length + 1 + xs.length - A.length = xs.length + 1 from by omega, List.getElem?_cons_succ, yJ (zM _), vM]; rfl
    have g2 : (A ++ x :: (xs ++ y :: B))[A.length]? = some x := by
     rw [yJ (zM _), vM]; rfl
    rw [g1, g2]
    simp only [oS]
    rw [uA, if_neg (by omega), g1]
    simp only [oS]
    rw [Wk, Ay (by omega), show wI .i64 (((A.length + 1 + xs.length : Nat) : Int) - 1) = (((A ++ [y]).length + xs.length : Nat) : Int) - 1 from by
     rw [B2 (by omega) (by omega)]; simp only [zT, zU]]
    have := US N j n xs (A ++ [y]) (x :: B) (by omega) (by simp only [zT, zU]; omega)
    rw [show ((A.length + 1 : Nat) : Int) = (((A ++ [y]).length : Nat) : Int) from by simp]
    rw [show A ++ y :: (xs ++ x :: B) = (A ++ [y]) ++ (xs ++ x :: B) from by simp, this]
    simp
theorem Vu (N : Nat) (h20 : 100 ≤ N) (l : List Af) (h : l.length < 2 * N) (h2 : l.length ≤ 100000) : BC N l = some l.reverse := by
 unfold BC
 rw [B2 (by omega) (by omega)]
 have := US N (fun v2 => some v2) N l [] [] h (by simpa using h2)
 simp only [yR, xM, zX, zC] at this
 exact this
theorem M0 {p : Ab} {m : Ae} {l : List Jz} {ws : List (List Af)} (h : aC p m l ws) (N : Nat) {pl : List AG} (hpl : pl.map Fi = l) (j : List Af → Option (List Af)) : ∀ (n k : Nat) {w acc : List Af}, k < n → ws[k]? = some w → acc.length + k ≤ 20000 →
  GQ N pl j n ((k : Int), acc) = j (acc ++ w.reverse)
 | 0, k, _, _, hk, _, _ => by omega
 | n + 1, k, w, acc, hk, hw, ha => by
  obtain ⟨⟨x, f, s⟩, hx⟩ := Bfs.get_ex (l := l) (k := k) (by rw [← h.inv.len]; exact Bfs.lt_get hw)
  have hx2 := hx
  rw [← hpl, zF] at hx2
  cases hnd : pl[k]? with
  | none => rw [hnd] at hx2; cases hx2
  | some nd =>
   rw [hnd] at hx2
   have hx2 : Fi nd = (x, f, s) := Option.some.inj hx2
   have hf : nd.ge = f := congrArg (fun n : Jz => n.2.1) hx2
   have hs : nd.gw = s := congrArg (fun n : Jz => n.2.2) hx2
   rw [GQ]
   simp only [AO, hnd, oS]
   rw [hf]
   rcases uO k with rfl | hk0
   ·obtain ⟨s0, hs0⟩ := h.inv.root; rw [hs0] at hx; cases hx
    rw [h.inv.root'] at hw; cases hw
    rw [Av (by decide)]; simp
   ·obtain ⟨i, y', g', t', w', e1, e2, e3, e4, e5, e6, e7⟩ := h.inv.par k _ _ _ hk0 hx
    rw [e6] at hw; cases hw
    subst e1
    rw [AB (zA1 i), Ap (by simp [CP]; omega)]
    have := M0 h N hpl j n i (w := w') (acc := acc ++ [Af.mk nd.gw.gd nd.gw.gg nd.gw.gp]) (by omega) e5 (by simp; omega)
    rw [this, show (Af.mk nd.gw.gd nd.gw.gg nd.gw.gp) = s from hs]
    simp
theorem WJ {p : Ab} {l : List Jz} {k : Nat} (h : Ll p l = some k) : k < l.length := by
 obtain ⟨⟨x, f, s, h1, _⟩, _⟩ := R8 h
 exact Bfs.lt_get h1
theorem Su {N : Nat} (hN : N ≤ 1000000) (h20 : 100 ≤ N) {p : Ab} (hv : BK p = 0) {m : Ae} (hm : B4 p m) (hr : Bs p m = true) {most : Nat} (hmo : most ≤ 20000) (h1 : 1 ≤ most) {l : List Jz} (hs : IW p m most N = some l) (hl : l.length < N) {ws : List (List Af)} (h : aC p m l ws) :
  Gn N p m = some (MX p l ws) := by
 obtain ⟨hp, _⟩ := Co hv
 have hl2 : l.length ≤ 20000 := xA (Bfs.go_len _ _ _ _ (by simpa using h1) hs) hmo
 unfold Gn
 rw [KN N p m hN h20 (M5 hm) (Jf hv hm), hr]
 simp only [oS, bne_self_eq_false, An, zV]
 obtain ⟨pl, e1, e2, e3⟩ := QX hN h20 hv hm hr hmo h1 hs
 rw [e1]
 simp only [oS, bne_self_eq_false, An]
 have hpll : pl.length = l.length := by rw [← e2, zI]
 unfold CA
 have := CX (AX N pl ((fun (x : AG) => FE N x p.f9 p.gf p.gj p.ga)) fun _ => some (-1)) l (some (-1)) (fun i n => (if II p n.1 = true then some i else none).map fun (k : Nat) => (k : Int))
  (fun n i nd hnd => by
   have hi := (lI.1 hnd).1
   have hnd2 := hnd
   rw [← e2, zF] at hnd2
   cases hq : pl[i]? with
   | none => rw [hq] at hnd2; cases hnd2
   | some nq =>
    rw [hq] at hnd2
    have hnd2 : Fi nq = nd := Option.some.inj hnd2
    rw [AX, AB (by omega), AO, hq]
    simp only [oS]
    have hok := (h.ok _ _ _ _ (show l[i]? = some (nd.1, nd.2.1, nd.2.2) from hnd)).1
    have hM : nq.gq = nd.1 := congrArg (fun n : Jz => n.1) hnd2
    unfold FE
    simp only
    rw [show (Ab.mk p.f9 p.gf p.gj p.ga) = p from rfl, show (Ae.mk nq.gq.gb nq.gq.f7 nq.gq.gc) = nd.1 from hM, UK N p nd.1 hN h20 (M5 hok), Ay (by omega)]
    simp only [oS]
    cases hg : II p nd.1 <;> rfl)
  (fun n => by rw [AX, Av (by omega)]) N 0 (zL _) (by omega)
 have e3 : AX N pl ((fun (x : AG) => FE N x p.f9 p.gf p.gj p.ga)) (fun _ => some (-1)) N 0 = _ := this
 rw [e3, yM, Mj]
 unfold MX
 cases hg : Ll p l with
 | none =>
  unfold Ll at hg
  rw [hg]; rfl
 | some k =>
  have hk := WJ hg
  unfold Ll at hg
  rw [hg]
  simp only [yC, BS, oS]
  rw [Av (by omega)]
  obtain ⟨w, hw⟩ := Bfs.get_ex (l := ws) (k := k) (by rw [h.inv.len]; exact hk)
  have e4 := M0 h N e2 (fun (v2 : (List Af)) => (BC N v2).bind fun v8 => some v8) N k (w := w) (acc := []) (by omega) hw (by simp; omega)
  unfold Kz
  have hwl := Tk h (k + 1) k (Nat.lt_succ_self k) hw
  rw [e4, yR, Vu N h20 _ (by rw [List.length_reverse]; omega) (by rw [List.length_reverse]; omega), List.reverse_reverse]
  simp only [oS]
  rw [lD, hw]; rfl
def aX (p : Ab) (m : Ae) (w : List Af) : Prop := Ot p m w = true ∧ Bfs.Dig NB 100 w ∧ ∀ u, Ot p m u = true → Bfs.code NB 100 w ≤ Bfs.code NB 100 u
theorem Wj {p : Ab} (hp : Be p) : ∀ {w : List Af} {m x : Ae}, PO p m w = some x → Bfs.Dig NB 100 w ∧ ∀ s, s ∈ w → s ∈ ED p
 | [], _, _, _ => ⟨fun s hs => (by cases hs), fun s hs => (by cases hs)⟩
 | s :: w, m, x, h => by
  simp only [PO] at h
  cases hs : Og p m s with
  | none => rw [hs] at h; cases h
  | some z =>
   rw [hs] at h
   obtain ⟨h1, h2⟩ := Wj hp h
   have h3 := (Iw (ND.1 (R7 hs)).1).1
   refine ⟨fun t ht => ?_, fun t ht => ?_⟩
   ·rcases zO.1 ht with rfl | ht
    ·exact (Qg hp h3).2
    ·exact h1 t ht
   ·rcases zO.1 ht with rfl | ht
    ·exact h3
    ·exact h2 t ht
theorem Se {p : Ab} (hp : Be p) {m : Ae} {l : List Jz} {ws : List (List Af)} (h : aC p m l ws) :
  ((MX p l ws).2 = 0 ∧ aX p m (MX p l ws).1 ∧ (MX p l ws).1.length ≤ l.length) ∨ (MX p l ws = ([], 14) ∧ ∀ u, Ot p m u = false) := by
 unfold MX
 cases hg : Ll p l with
 | none =>
  right
  refine ⟨rfl, fun u => ?_⟩
  cases hu : Ot p m u
  ·rfl
  ·obtain ⟨x, h1, h2⟩ := Sm hu
   obtain ⟨k, f, s, w, g1, g2, g3⟩ := RE hp h h1
   rw [WZ hg g1] at h2; cases h2
 | some k =>
  left
  obtain ⟨⟨x, f, s, h1, h2⟩, h3⟩ := R8 hg
  have hk := WJ hg
  obtain ⟨w, hw⟩ := Bfs.get_ex (l := ws) (k := k) (by rw [h.inv.len]; exact hk)
  have hwe : ws.getD k [] = w := by rw [lD, hw]; rfl
  simp only [hwe]
  have hrun := ZD hp h h1 hw
  refine ⟨trivial, ⟨?_, (Wj hp hrun).1, ?_⟩, ?_⟩
  ·unfold Ot; rw [hrun]; exact h2
  ·intro u hu
   obtain ⟨y, g1, g2⟩ := Sm hu
   obtain ⟨k', f', s', w', e1, e2, e3⟩ := RE hp h g1
   refine xA ?_ e3
   by_cases hkk : k' < k
   ·rw [h3 k' y f' s' hkk e1] at g2; cases g2
   ·rcases Nat.lt_or_eq_of_le (Nat.le_of_not_lt hkk) with h4 | h4
    ·exact Nat.le_of_lt (h.inv.inc _ _ _ _ hw e2 h4)
    ·subst h4; rw [hw] at e2; cases e2; exact zM _
  ·have := Tk h (k + 1) k (Nat.lt_succ_self k) hw
   omega
def UU (p : Ab) (m : Ae) (r : List Af × Int) : Prop := (r.2 = 0 ∧ aX p m r.1 ∧ r.1.length ≤ 120) ∨ (r = ([], 14) ∧ ∀ u, Ot p m u = false)
def Nt (p : Ab) : Prop := Bs p (Fq p) = false ∨ ∃ l, IW p (Fq p) 120 1000 = some l
def LW (p : Ab) (r : List Af × Int) : Prop := (Bs p (Fq p) = false ∧ r = ([], 13)) ∨ (Bs p (Fq p) = true ∧ UU p (Fq p) r)
theorem PY {α : Type} [DecidableEq α] : ∀ (L S : List α), L.Nodup → (∀ x, x ∈ L → x ∈ S) → L.length ≤ S.length
 | [], S, _, _ => zL _
 | x :: L, S, hn, hs => by
  obtain ⟨h1, h2⟩ := xW.1 hn
  have hx := hs x (by simp)
  have := PY L (S.erase x) h2 (fun y hy => by
   have hne : y ≠ x := fun e => h1 (e ▸ hy)
   exact (List.mem_erase_of_ne hne).2 (hs y (xR _ hy)))
  rw [List.length_erase_of_mem hx] at this
  have := List.length_pos_of_mem hx
  simp only [zZ]
  omega
def Kl (l : List Jz) : List Ae := l.map fun n => n.1
theorem Zg {i : Nat} {l : List Jz} {q : Af × Ae} (h : (Kl l).Nodup) : (Kl (Bfs.put i l q)).Nodup ∧ ∀ x, x ∈ Kl (Bfs.put i l q) → x ∈ Kl l ∨ x = q.2 := by
 unfold Bfs.put
 split
 ·exact ⟨h, fun x hx => .inl hx⟩
 ·rename_i hn
  unfold Kl at h ⊢
  rw [xH]
  refine ⟨?_, ?_⟩
  ·rw [List.nodup_append]
   refine ⟨h, by simp, ?_⟩
   intro a ha b hb
   have hb : b = q.2 := by simpa using hb
   subst hb
   intro e
   subst e
   obtain ⟨n, hn1, hn2⟩ := zQ.1 ha
   exact hn (y7.2 ⟨n, hn1, decide_eq_true hn2⟩)
  ·intro x hx
   rcases yA.1 hx with hx | hx
   ·exact .inl hx
   ·exact .inr (by simpa using hx)
theorem Pr {S : List Ae} {most i : Nat} (hS : S.length ≤ most) : ∀ (qs : List (Af × Ae)) (l : List Jz), (Kl l).Nodup → (∀ x, x ∈ Kl l → x ∈ S) → (∀ q, q ∈ qs → q.2 ∈ S) →
  ∃ l', Bfs.inner most i qs l = some l' ∧ (Kl l').Nodup ∧ (∀ x, x ∈ Kl l' → x ∈ S) ∧ l.length ≤ l'.length
 | [], l, h1, h2, _ => ⟨l, rfl, h1, h2, zM _⟩
 | q :: qs, l, h1, h2, h3 => by
  obtain ⟨g1, g2⟩ := Zg (i := i) (q := q) h1
  have g3 : ∀ x, x ∈ Kl (Bfs.put i l q) → x ∈ S := fun x hx => (g2 x hx).elim (h2 x) fun e => by rw [e]; exact h3 q (by simp)
  have := PY _ S g1 g3
  unfold Kl at this
  rw [zI] at this
  simp only [Bfs.inner]
  rw [if_neg (by omega)]
  obtain ⟨l', e1, e2, e3, e4⟩ := Pr hS qs (Bfs.put i l q) g1 g3 (fun q hq => h3 q (xR _ hq))
  refine ⟨l', e1, e2, e3, xA ?_ e4⟩
  unfold Bfs.put; split
  ·exact zM _
  ·simp
theorem QC {p : Ab} {S : List Ae} {most : Nat} (hS : S.length ≤ most) (hc : ∀ x, x ∈ S → ∀ q, q ∈ Jj p x → q.2 ∈ S) : ∀ (n i : Nat) (l : List Jz), (Kl l).Nodup → (∀ x, x ∈ Kl l → x ∈ S) → i ≤ l.length → most < n + i → ∃ l', Bfs.go (Jj p) most n i l = some l'
 | 0, i, l, h1, h2, hi, hn => by
  have := PY _ S h1 h2
  unfold Kl at this
  rw [zI] at this
  omega
 | n + 1, i, l, h1, h2, hi, hn => by
  simp only [Bfs.go]
  cases hx : l[i]? with
  | none => exact ⟨l, rfl⟩
  | some nd =>
   have hS2 : nd.1 ∈ S := h2 _ (zQ.2 ⟨nd, lM hx, rfl⟩)
   obtain ⟨l1, e1, e2, e3, e4⟩ := Pr (i := i) hS (Jj p nd.1) l h1 h2 (hc _ hS2)
   simp only [e1, oS]
   have := Bfs.lt_get hx
   exact QC hS hc n (i + 1) l1 e2 e3 (by omega) (by omega)
def NO (t u v : Nat) (ok : Bool) : List Aa := if ok = true then [] else [⟨(t : Int), (u : Int), (v : Int)⟩]
def NA (t u : Nat) (row : List Bool) : List Aa := BU (NO t u) 0 row
def Ng (t : Nat) (x : Ao) : List Aa := BU (NA t) 0 x.gh
def A5 (p : Ab) : List Aa := BU Ng 0 p.ga
theorem QD (t u v : Nat) (ok : Bool) : (NO t u v ok).length ≤ 1 := by unfold NO; split <;> simp
theorem JX (t u : Nat) {row : List Bool} (h : row.length ≤ 6) : (NA t u row).length ≤ 6 := by
 have := F0 (g := NO t u) (c := 1) (i := 0) (xs := row) (fun j x _ => QD _ _ _ _)
 unfold NA; omega
theorem J1 {p : Ab} {t : Ao} (hp : Be p) (ht : NH p t) (i : Nat) : (Ng i t).length ≤ 36 := by
 have h1 := JM hp ht
 have := F0 (g := NA i) (c := 6) (i := 0) (xs := t.gh) (fun j x hx => JX i _ (h1.2 x (lM hx)))
 unfold Ng; omega
theorem Tm {p : Ab} (hp : Be p) : (A5 p).length ≤ 432 := by
 have := F0 (g := Ng) (c := 36) (i := 0) (xs := p.ga) (fun j x hx => J1 hp (IX (hp.tab x (lM hx))) _)
 have := hp.nt
 unfold A5; omega
theorem J9 {N : Nat} (hN : N ≤ 1000000) (h20 : 100 ≤ N) {p : Ab} (hp : Be p) : Dm N p = some (A5 p) := by
 unfold Dm
 have hnt := hp.nt
 rw [CC (BE N p _) (fun a k => (a, k)) p.ga some Ng 36 9000
  (fun i t hx => J1 hp (IX (hp.tab t (lM hx))) i)
  (fun n i t a hx ha => by
   have hi := (lI.1 hx).1
   have ht := IX (hp.tab t (lM hx))
   have hv := JM hp ht
   have het := J1 hp ht i
   rw [BE]
   rw [AB (by omega), CC (B3 N p (a, (i : Int)) _) (fun a k => (a, k)) t.gh (fun b => BE N p (fun v2 => some v2) n (b, wI .i64 ((i : Int) + 1))) (NA i) 6 10000
    (fun u row hu => JX i u (hv.2 row (lM hu)))
    (fun n2 u row b hu hb => by
     have hui := (lI.1 hu).1
     have hrl := hv.2 row (lM hu)
     rw [B3]
     simp only [AO, hx, oS]
     rw [AB (by omega), CC (CB N p (a, (i : Int)) (b, (u : Int)) _) (fun a k => (a, k)) row (fun c => B3 N p (a, (i : Int)) (fun v5 => BE N p (fun v2 => some v2) n (v5, wI .i64 ((i : Int) + 1))) n2 (c, wI .i64 ((u : Int) + 1))) (NO i u) 1 20000
      (fun v ok _ => QD i u v ok)
      (fun n3 v ok c hv hc => by
       have hvi := (lI.1 hv).1
       rw [CB]
       simp only [AO, hx, hu, hv, oS, Ba]
       rw [AB (by omega), Ay (i := v) (by omega)]
       cases ok
       ·simp only [yT, AN]
        rw [Ap (by simp only [NO, vC, if_false, zU] at hc ⊢; unfold CP; omega)]
        rfl
       ·simp only [zV, An, NO, if_true, xM])
      (fun n3 c => by
       rw [CB]
       simp only [AO, hx, hu, oS, Ba]
       rw [Av (by omega)]) N b (by omega) (by have := JX i u hrl; omega), Ay (i := u) (by omega)]
     rfl)
    (fun n2 b => by
     rw [B3]
     simp only [AO, hx, oS]
     rw [Av (by omega)]) N a (by omega) (by omega), Ay (i := i) (by omega)]
   rfl)
  (fun n a => by
   rw [BE]
   rw [Av (by omega)]) N [] (by omega) (by simp; omega)]
 rfl
theorem Qj {N : Nat} (hN : N ≤ 1000000) (h20 : 100 ≤ N) {p : Ab} (hp : Be p) : Ek N p = some (A5 p) := by
 unfold Ek
 have hnt := hp.nt
 rw [CC (Cq N p _) (fun a k => (a, k)) p.ga some Ng 36 9000
  (fun i t hx => J1 hp (IX (hp.tab t (lM hx))) i)
  (fun n i t a hx ha => by
   have hi := (lI.1 hx).1
   have ht := IX (hp.tab t (lM hx))
   have hv := JM hp ht
   have het := J1 hp ht i
   rw [Cq]
   simp only [AO, hx, oS]
   rw [AB (by omega), CC (C0 N (a, (i : Int)) t _) (fun a k => (a, k)) t.gh (fun b => Cq N p (fun v2 => some v2) n (b, wI .i64 ((i : Int) + 1))) (NA i) 6 10000
    (fun u row hu => JX i u (hv.2 row (lM hu)))
    (fun n2 u row b hu hb => by
     have hui := (lI.1 hu).1
     have hrl := hv.2 row (lM hu)
     rw [C0]
     simp only [AO, hu, oS]
     rw [AB (by omega), CC (Dz N (a, (i : Int)) (b, (u : Int)) row _) (fun a k => (a, k)) row (fun c => C0 N (a, (i : Int)) t (fun v5 => Cq N p (fun v2 => some v2) n (v5, wI .i64 ((i : Int) + 1))) n2 (c, wI .i64 ((u : Int) + 1))) (NO i u) 1 20000
      (fun v ok _ => QD i u v ok)
      (fun n3 v ok c hv hc => by
       have hvi := (lI.1 hv).1
       rw [Dz]
       simp only [AO, hv, oS, Ba]
       rw [AB (by omega), Ay (i := v) (by omega)]
       cases ok
       ·simp only [yT, AN]
        rw [Ap (by simp only [NO, vC, if_false, zU] at hc ⊢; unfold CP; omega)]
        rfl
       ·simp only [zV, An, NO, if_true, xM])
      (fun n3 c => by
       rw [Dz]
       simp only [Ba]
       rw [Av (by omega)]) N b (by omega) (by have := JX i u hrl; omega), Ay (i := u) (by omega)]
     rfl)
    (fun n2 b => by
     rw [C0]
     rw [Av (by omega)]) N a (by omega) (by omega), Ay (i := i) (by omega)]
   rfl)
  (fun n a => by
   rw [Cq]
   rw [Av (by omega)]) N [] (by omega) (by simp; omega)]
 rfl
def aq (a b : Aa) : Bool := (a.gt == b.gt) && ((a.gr == b.gr) && ((a.gu == b.gu) && true))
theorem PN (a b : Aa) : aq a b = true ↔ a = b := by
 unfold aq
 cases a; cases b
 simp
def SJ (l : List Aa) (c : Aa) : Bool := l.any fun x => aq x c
theorem Mx {l : List Aa} {c : Aa} : SJ l c = true ↔ c ∈ l := by
 unfold SJ
 rw [y7]
 constructor
 ·rintro ⟨x, h1, h2⟩; rw [PN] at h2; exact h2 ▸ h1
 ·intro h; exact ⟨c, h, (PN c c).2 rfl⟩
theorem Yr (x : Aa) (l : List Aa) (c : Aa) : SJ (x :: l) c = (aq x c || SJ l c) := rfl
theorem WD (N : Nat) (l : List Aa) (c : Aa) (hl : l.length < 1000000) : ∀ (n i : Nat), i ≤ l.length → l.length - i < n → Ey N l c (fun _ => some false) n (i : Int) = some (SJ (l.drop i) c)
 | 0, i, _, h => by omega
 | n + 1, i, hi, h => by
  rw [Ey]
  by_cases h1 : i < l.length
  ·have hx : l[i]? = some l[i] := by simp [h1]
   rw [AB (by omega), AO, hx, GT hx, Yr, Ay (by omega), WD N l c hl n (i + 1) (by omega) (by omega)]
   simp only [oS]
   show AR (aq l[i] c) _ _ = _
   cases aq l[i] c <;> rfl
  ·rw [Av (by omega), yP (by omega)]; rfl
theorem OJ {N : Nat} {l : List Aa} (hN : N ≤ 1000000) (hl : l.length < N) (c : Aa) : EO N l c = some (SJ l c) := by
 unfold EO
 have := WD N l c (by omega) N 0 (by omega) (by omega)
 simpa using this
def Xd (l : List Aa) (t u v : Nat) (ok : Bool) : Bool := ok || SJ l ⟨(t : Int), (u : Int), (v : Int)⟩
def Kn (l : List Aa) (t u : Nat) (row : List Bool) : List Bool := row.mapIdx (Xd l t u)
def LJ (l : List Aa) (t : Nat) (x : Ao) : Ao := ⟨x.gd, x.ge, x.gi, x.gl, x.gh.mapIdx (Kn l t), x.gk⟩
def Jn (p : Ab) (l : List Aa) : Ab := ⟨p.f9, p.gf, p.gj, p.ga.mapIdx (LJ l)⟩
theorem R1 {α β : Type} (f : Nat → α → β) : ∀ (k : Nat) (xs : List α), BU (fun i x => [f i x]) k xs = xs.mapIdx fun i x => f (k + i) x
 | _, [] => rfl
 | k, x :: xs => by
  rw [BU, R1 f (k + 1) xs, List.mapIdx_cons]
  simp only [List.singleton_append, xK, x9, Nat.add_comm 1]
theorem I1 {α β : Type} (f : Nat → α → β) (xs : List α) : BU (fun i x => [f i x]) 0 xs = xs.mapIdx f := by
 rw [R1]; simp only [zC]
theorem KR {α β : Type} {f g : Nat → α → β} {xs : List α} {k : Nat} {x : α} (hx : xs[k]? = some x) (h : ∀ j y, xs[j]? = some y → j ≠ k → g j y = f j y) : xs.mapIdx g = (xs.mapIdx f).set k (g k x) := by
 apply yX
 intro j
 rw [yB, uA, yB]
 have hk := (lI.1 hx).1
 by_cases e : k = j
 ·subst e; rw [if_pos rfl, if_pos (by simpa using hk), hx]; rfl
 ·rw [if_neg e]
  cases hy : xs[j]? with
  | none => rfl
  | some y => simp only [yC]; rw [h j y hy (fun e' => e e'.symm)]
theorem Y6 {N : Nat} (hN : N ≤ 1000000) {l : List Aa} (hl : l.length < N) (v4 : List Ao × Int) (v8 : List (List Bool) × Int) (t u : Nat) (h4 : v4.2 = (t : Int)) (h8 : v8.2 = (u : Int)) (row : List Bool) (hr : row.length ≤ 6) (h20 : 100 ≤ N) (j : List Bool → Option Ab) :
  Cy N l v4 v8 j N (row, 0) = j (Kn l t u row) := by
 obtain ⟨a, e, h⟩ := FN (A := List Bool) (Cy N l v4 v8 j) (fun a k => (a, k)) row.length j (fun i a => a.length = row.length ∧ (∀ k, i ≤ k → a[k]? = row[k]?) ∧ ∀ k, k < i → a[k]? = (row[k]?).map (Xd l t u k))
  (fun n i a hi h => by
   obtain ⟨h1, h2, h3⟩ := h
   have hx : row[i]? = some row[i] := by simp [hi]
   have ha : a[i]? = some row[i] := by rw [h2 i (zM _), hx]
   refine ⟨a.set i (Xd l t u i row[i]), ?_, by simpa using h1, fun k hk => ?_, fun k hk => ?_⟩
   ·rw [Cy]
    simp only [Ba, AO, ha, oS]
    rw [AB (by omega), Ay (by omega), h4, h8, OJ hN hl]
    simp only [oS, Xd, zK]
    cases row[i]
    ·rw [An, uZ]
    ·rw [AN, Bool.true_or]
   ·rw [uA, if_neg (by omega)]; exact h2 k (by omega)
   ·rw [uA]
    by_cases e : i = k
    ·subst e; rw [if_pos rfl, if_pos (by omega), hx]; rfl
    ·rw [if_neg e]; exact h3 k (by omega))
  (fun n a h => by
   rw [Cy, Av (by simp only; omega)]) N 0 row (zL _) (by omega) ⟨rfl, fun _ _ => rfl, fun k hk => by omega⟩
 have : a = Kn l t u row := by
  apply yX
  intro k
  rw [Kn, yB]
  by_cases hk : k < row.length
  ·exact h.2.2 k hk
  ·rw [h.2.1 k (by omega), yG (by omega)]; rfl
 rw [← this]
 exact e
theorem Pe {N : Nat} (hN : N ≤ 1000000) (h20 : 100 ≤ N) {p : Ab} (hp : Be p) {l : List Aa} (hl : l.length < N) : EZ N p l = some (Jn p l) := by
 unfold EZ
 have hnt := hp.nt
 have hnv := hp.nv
 have hnow := hp.now
 have htg := hp.tgt
 rw [Ap (by simp only [zX]; unfold CP; omega), Ap (by simp only [zX]; unfold CP; omega), Ap (by simp only [zX]; unfold CP; omega)]
 rw [CC (Ca N p l _) (fun a k => (a, k)) p.ga (fun v5 => some (Ab.mk ([] ++ p.f9) ([] ++ p.gf) ([] ++ p.gj) v5)) (fun t x => [LJ l t x]) 1 1000
  (fun i t hx => by simp)
  (fun n i t a hx ha => by
   have hi := (lI.1 hx).1
   have ht := IX (hp.tab t (lM hx))
   have hv := JM hp ht
   have hrw : t.gk.length ≤ 6 ∧ ∀ row, row ∈ t.gk → row.length ≤ 6 := by
    have h1 := KQ hp.ver ht.from0.1 ht.from0.2
    refine ⟨?_, fun row hr => by have := ht.reR row hr; omega⟩
    by_cases hk : t.gd = 4
    ·have := ht.reL hk; omega
    ·rw [ht.reN hk]; simp
   rw [Ca]
   simp only [AO, hx, oS]
   rw [AB (by omega), CC (Dq N p l (a, (i : Int)) _) (fun a k => (a, k)) t.gh (fun v9 => Cs N p (a, (i : Int)) (fun v26 => (Dt (a.length + ([(Ao.mk t.gd t.ge t.gi t.gl v9 v26)] : List Ao).length ≤ CP)).bind fun _ => Ca N p l (fun v5 => some (Ab.mk ([] ++ p.f9) ([] ++ p.gf) ([] ++ p.gj) v5)) n (a ++ [(Ao.mk t.gd t.ge t.gi t.gl v9 v26)], wI .i64 ((i : Int) + 1))) N ([], 0)) (fun u row => [Kn l i u row]) 1 1000
    (fun u row hu => by simp)
    (fun n2 u row b hu hb => by
     have hui := (lI.1 hu).1
     have hrl := hv.2 row (lM hu)
     rw [Dq]
     simp only [AO, hx, hu, oS]
     rw [AB (by omega), Ap (by simp only [zX]; unfold CP; omega)]
     simp only [yR]
     rw [Y6 hN hl _ _ i u rfl rfl row hrl h20, Ap (by simp only [zU] at hb ⊢; unfold CP; omega), Ay (i := u) (by omega)])
    (fun n2 b => by
     rw [Dq]
     simp only [AO, hx, oS]
     rw [Av (by omega)]) N [] (by omega) (by simp only [zX]; omega)]
   rw [CC (Cs N p (a, (i : Int)) _) (fun a k => (a, k)) t.gk (fun v26 => (Dt (a.length + ([(Ao.mk t.gd t.ge t.gi t.gl ([] ++ BU (fun u row => [Kn l i u row]) 0 t.gh) v26)] : List Ao).length ≤ CP)).bind fun _ => Ca N p l (fun v5 => some (Ab.mk ([] ++ p.f9) ([] ++ p.gf) ([] ++ p.gj) v5)) n (a ++ [(Ao.mk t.gd t.ge t.gi t.gl ([] ++ BU (fun u row => [Kn l i u row]) 0 t.gh) v26)], wI .i64 ((i : Int) + 1))) (fun _ row => [row]) 1 1000
    (fun u row hu => by simp)
    (fun n2 u row b hu hb => by
     have hui := (lI.1 hu).1
     have hrl := hrw.2 row (lM hu)
     rw [Cs]
     simp only [AO, hx, hu, oS]
     rw [AB (by omega), Ap (by simp only [zX]; unfold CP; omega), Ap (by simp only [zU] at hb ⊢; unfold CP; omega), Ay (i := u) (by omega)]
     rfl)
    (fun n2 b => by
     rw [Cs]
     simp only [AO, hx, oS]
     rw [Av (by omega)]) N [] (by omega) (by simp only [zX]; omega)]
   rw [Ap (by simp only [zU] at ha ⊢; unfold CP; omega), Ay (i := i) (by omega), I1, I1 (fun _ row => row)]
   simp only [yR, LJ]
   have : t.gk.mapIdx (fun _ row => row) = t.gk := by
    apply yX; intro k; rw [yB]; cases t.gk[k]? <;> rfl
   rw [this])
  (fun n a => by
   rw [Ca]
   rw [Av (by omega)]) N [] (by omega) (by simp only [zX]; omega), I1]
 rfl
theorem bV {p : Ab} {t : Ao} (hp : Be p) (ht : NH p t) : t.gk.length ≤ 6 ∧ ∀ row, row ∈ t.gk → row.length ≤ 6 := by
 have h1 := KQ hp.ver ht.from0.1 ht.from0.2
 refine ⟨?_, fun row hr => by have := ht.reR row hr; omega⟩
 by_cases hk : t.gd = 4
 ·have := ht.reL hk; omega
 ·rw [ht.reN hk]; simp
theorem UH (N : Nat) {l : List (List Bool)} (h : l.length ≤ 100000) : Dk N l = some l := by
 unfold Dk
 rw [Ap (by simp only [zX]; unfold CP; omega)]; rfl
theorem Wb (N : Nat) {l : List Bool} (h : l.length ≤ 100000) : CW N l = some l := by
 unfold CW
 rw [Ap (by simp only [zX]; unfold CP; omega)]; rfl
theorem SV (N : Nat) {l : List Int} (h : l.length ≤ 100000) : A1 N l = some l := by
 unfold A1
 rw [Ap (by simp only [zX]; unfold CP; omega)]; rfl
theorem Ph {α : Type} {l : List α} {i : Nat} {x : α} (h : l[i]? = some x) : l.set i x = l := by
 apply yX
 intro k
 rw [uA]
 have := (lI.1 h).1
 by_cases e : i = k
 ·subst e; rw [if_pos rfl, if_pos this, h]
 ·rw [if_neg e]
theorem W9 {N : Nat} (h20 : 100 ≤ N) (t : Ao) (h1 : t.gh.length ≤ 6) (h2 : ∀ row, row ∈ t.gh → row.length ≤ 6) (h3 : t.gk.length ≤ 6) (h4 : ∀ row, row ∈ t.gk → row.length ≤ 6) : Gl N t = some t := by
 unfold Gl
 rw [UH N (by omega), UH N (by omega)]
 simp only [oS]
 have l1 := Ip (DM N t.gh fun v4 => B0 N t.gk (fun v12 => some ⟨t.gd, t.ge, t.gi, t.gl, v4, v12⟩) N (t.gk, 0)) (fun a i => (a, i)) t.gh (fun v4 => B0 N t.gk (fun v12 => some ⟨t.gd, t.ge, t.gi, t.gl, v4, v12⟩) N (t.gk, 0)) (fun _ _ a => a) (fun _ a => a = t.gh)
  (fun n i x a hx ha => by
   subst ha
   have hi := (lI.1 hx).1
   refine ⟨?_, rfl⟩
   rw [DM]
   simp only [AO, hx, oS]
   rw [AB (by omega), Wb N (by have := h2 x (lM hx); omega)]
   simp only [oS]
   rw [Ay (by omega), Ap (by omega), zK, Ph hx])
  (fun n a ha => by
   subst ha
   rw [DM, Av (by omega), Ap (by simp only [zK])]) N 0 t.gh (zL _) (by omega) rfl
 have l2 := Ip (B0 N t.gk fun v12 => some ⟨t.gd, t.ge, t.gi, t.gl, t.gh, v12⟩) (fun a i => (a, i)) t.gk (fun v12 => some ⟨t.gd, t.ge, t.gi, t.gl, t.gh, v12⟩) (fun _ _ a => a) (fun _ a => a = t.gk)
  (fun n i x a hx ha => by
   subst ha
   have hi := (lI.1 hx).1
   refine ⟨?_, rfl⟩
   rw [B0]
   simp only [AO, hx, oS]
   rw [AB (by omega), Wb N (by have := h4 x (lM hx); omega)]
   simp only [oS]
   rw [Ay (by omega), Ap (by omega), zK, Ph hx])
  (fun n a ha => by
   subst ha
   rw [B0, Av (by omega), Ap (by simp only [zK])]) N 0 t.gk (zL _) (by omega) rfl
 have e1 := l1.1.trans (congrArg (fun v4 => B0 N t.gk (fun v12 => some (Ao.mk t.gd t.ge t.gi t.gl v4 v12)) N (t.gk, 0)) l1.2)
 have e2 := l2.1.trans (congrArg (fun v12 => some (Ao.mk t.gd t.ge t.gi t.gl t.gh v12)) l2.2)
 exact e1.trans e2
theorem Vl {N : Nat} (hN : N ≤ 1000000) (h20 : 100 ≤ N) {p : Ab} (hv : BK p = 0) : F5 N p p.gf p.gj = some (p, 0) := by
 obtain ⟨hp, _⟩ := Co hv
 have hnt := hp.nt
 have hnv := hp.nv
 have hnow := hp.now
 have htg := hp.tgt
 unfold F5
 rw [IN N p hN (by omega), SV N (by omega), SV N (by omega), SV N (by omega)]
 simp only [oS, hv, bne_self_eq_false, An]
 rw [CC (Dw N p _) (fun a i => (a, i)) p.ga (fun v7 => (BG N (Ab.mk p.f9 p.gf p.gj v7)).bind fun v12 => AR (v12 != 0) (some (Ab.mk [] [] [] [], v12)) (some (Ab.mk p.f9 p.gf p.gj v7, 0))) (fun _ x => [x]) 1 1000
  (fun i x hx => by simp)
  (fun n i x a hx ha => by
   have hi := (lI.1 hx).1
   have ht := IX (hp.tab x (lM hx))
   have hl := JM hp ht
   have hr := bV hp ht
   rw [Dw]
   simp only [AO, hx, oS]
   rw [AB (by omega), W9 h20 x hl.1 hl.2 hr.1 hr.2]
   simp only [oS]
   rw [Ap (by simp only [zU] at ha ⊢; unfold CP; omega), Ay (by omega)])
  (fun n a => by
   rw [Dw, Av (by omega)]) N [] (by omega) (by simp only [zX]; omega)]
 have e : ([] : List Ao) ++ BU (fun _ x => [x]) 0 p.ga = p.ga := by
  rw [yR, I1 (fun _ x => x)]
  apply yX; intro k; rw [yB]; cases p.ga[k]? <;> rfl
 simp only [e]
 rw [IN N _ hN (by omega)]
 simp only [oS, hv, bne_self_eq_false, An]
theorem Uu {p : Ab} {c : Aa} (h : c ∈ A5 p) : ∃ (t u v : Nat) (x : Ao) (row : List Bool), p.ga[t]? = some x ∧ x.gh[u]? = some row ∧ row[v]? = some false ∧ c = ⟨(t : Int), (u : Int), (v : Int)⟩ := by
 obtain ⟨t, x, hx, h⟩ := EX.1 h
 obtain ⟨u, row, hu, h⟩ := EX.1 h
 obtain ⟨v, ok, hv, h⟩ := EX.1 h
 simp only [zC, NO] at h
 cases ok
 ·simp only [vC, if_false, yE] at h
  exact ⟨t, u, v, x, row, hx, hu, hv, h⟩
 ·simp at h
theorem TU (l : List Aa) (c : Aa) (t u v : Nat) (ok : Bool) : Xd (l ++ [c]) t u v ok = (Xd l t u v ok || aq c ⟨(t : Int), (u : Int), (v : Int)⟩) := by
 unfold Xd SJ
 rw [List.any_append, List.any_cons, List.any_nil, Bool.or_false, Bool.or_assoc]
theorem VW {l : List Aa} {t u v t' u' v' : Nat} (h : t ≠ t' ∨ u ≠ u' ∨ v ≠ v') (ok : Bool) : Xd (l ++ [⟨(t : Int), (u : Int), (v : Int)⟩]) t' u' v' ok = Xd l t' u' v' ok := by
 rw [TU]
 have : aq ⟨(t : Int), (u : Int), (v : Int)⟩ ⟨(t' : Int), (u' : Int), (v' : Int)⟩ = false := by
  cases hh : aq ⟨(t : Int), (u : Int), (v : Int)⟩ ⟨(t' : Int), (u' : Int), (v' : Int)⟩
  ·rfl
  ·rw [PN] at hh
   simp only [Aa.mk.injEq] at hh
   omega
 rw [this, Bool.or_false]
theorem Xw {l : List Aa} {t u v : Nat} {x : Ao} {row : List Bool} (hu : x.gh[u]? = some row) (hv : v < row.length) :
  LJ (l ++ [⟨(t : Int), (u : Int), (v : Int)⟩]) t x = ⟨x.gd, x.ge, x.gi, x.gl, (x.gh.mapIdx (Kn l t)).set u ((Kn l t u row).set v true), x.gk⟩ := by
 have hz : row[v]? = some row[v] := by simp [hv]
 unfold LJ
 congr 1
 rw [KR (f := Kn l t) hu (fun j y _ hj => by
  unfold Kn
  exact congrArg (fun f => y.mapIdx f) (funext fun k => funext fun ok => VW (.inr (.inl (Ne.symm hj))) ok))]
 congr 1
 unfold Kn
 rw [KR (f := Xd l t u) hz (fun j y _ hj => VW (.inr (.inr (Ne.symm hj))) y)]
 congr 1
 rw [TU, (PN _ _).2 rfl, Bool.or_true]
theorem V2 {ts : List Ao} {l : List Aa} {t u v : Nat} {x : Ao} {row : List Bool} (hx : ts[t]? = some x) (hu : x.gh[u]? = some row) (hv : v < row.length) :
  ts.mapIdx (LJ (l ++ [⟨(t : Int), (u : Int), (v : Int)⟩])) = (ts.mapIdx (LJ l)).set t ⟨x.gd, x.ge, x.gi, x.gl, (x.gh.mapIdx (Kn l t)).set u ((Kn l t u row).set v true), x.gk⟩ := by
 rw [KR (f := LJ l) hx (fun j y _ hj => by
  unfold LJ
  congr 1
  exact congrArg (fun f => y.gh.mapIdx f) (funext fun k => funext fun r => congrArg (fun f => r.mapIdx f) (funext fun q => funext fun ok => VW (.inl (Ne.symm hj)) ok))), Xw hu hv]
theorem RP (ts : List Ao) : ts.mapIdx (LJ []) = ts := by
 apply yX
 intro k
 rw [yB]
 cases ts[k]? with
 | none => rfl
 | some x =>
  have : LJ [] k x = x := by
   unfold LJ
   have : x.gh.mapIdx (Kn [] k) = x.gh := by
    apply yX
    intro u
    rw [yB]
    cases x.gh[u]? with
    | none => rfl
    | some row =>
     simp only [yC, Option.some.injEq]
     apply yX
     intro v
     rw [Kn, yB]
     cases row[v]? with
     | none => rfl
     | some ok => simp [Xd, SJ]
   rw [this]
  rw [yC, this]
theorem W8 (p : Ab) : Jn p [] = p := by unfold Jn; rw [RP]
theorem T6 {N : Nat} (hN : N ≤ 1000000) (h20 : 100 ≤ N) {p : Ab} (hv : BK p = 0) {l : List Aa} (hl : l.length < N) (hm : ∀ c, c ∈ l → c ∈ A5 p) : Hd N p l = some (Jn p l) := by
 unfold Hd
 rw [Vl hN h20 hv]
 simp only [oS]
 obtain ⟨a, e, h⟩ := FN (A := List Ao) (Em N l fun v3 => some ⟨p.f9, p.gf, p.gj, v3⟩) (fun a k => (a, k)) l.length (fun v3 => some ⟨p.f9, p.gf, p.gj, v3⟩) (fun i a => a = p.ga.mapIdx (LJ (l.take i)))
  (fun n i a hi ha => by
   subst ha
   have hc : l[i]? = some l[i] := by simp [hi]
   obtain ⟨t, u, v, x, row, hx, hu, hv, e⟩ := Uu (hm l[i] (xF hi))
   have hvl := (lI.1 hv).1
   refine ⟨_, ?_, rfl⟩
   have e1 : (p.ga.mapIdx (LJ (l.take i)))[t]? = some (LJ (l.take i) t x) := by rw [yB, hx]; rfl
   have e2 : (LJ (l.take i) t x).gh[u]? = some (Kn (l.take i) t u row) := by
    show (x.gh.mapIdx (Kn (l.take i) t))[u]? = _
    rw [yB, hu]; rfl
   have e3 : (Kn (l.take i) t u row)[v]? = some (Xd (l.take i) t u v false) := by rw [Kn, yB, hv]; rfl
   rw [Em]
   simp only [AO, hc, oS, e, e1, e2, e3, zK]
   rw [AB (by omega), Ay (by omega)]
   have : l.take (i + 1) = l.take i ++ [⟨(t : Int), (u : Int), (v : Int)⟩] := by rw [yV, hc, e]; rfl
   rw [this, V2 hx hu hvl]
   rfl)
  (fun n a h => by
   rw [Em, Av (by simp only; omega)]) N 0 p.ga (zL _) (by omega) (by rw [List.take_zero, RP])
 rw [uU] at h
 subst h
 exact e
theorem Te : Ex 2000 = some true := by kernel_rfl
structure cT (N : Nat) (p : Ab) : Prop where
 v : p.f9.length < N
 n : p.gf.length < N
 t : p.gj.length < N
 s : p.ga.length < N
 m : ∀ t, t ∈ p.ga → t.gh.length < N ∧ (∀ row, row ∈ t.gh → row.length < N) ∧ t.gk.length < N ∧ ∀ row, row ∈ t.gk → row.length < N
theorem KH {N : Nat} (hN : N ≤ 1000000) {a : List Aa} (h : a.length < N) : D3 N a a = some true := by
 have : ∀ n i, i ≤ a.length → a.length - i < n → D0 N a a (fun _ => some true) n (i : Int) = some true := by
  intro n
  induction n with
  | zero => intro i _ h; omega
  | succ n ih =>
   intro i hi hn
   rw [D0]
   by_cases h1 : i < a.length
   ·have hx : a[i]? = some a[i] := by simp [h1]
    rw [AB (by omega), AO, hx, Ay (by omega)]
    simp only [oS, beq_self_eq_true, vW, zV, An]
    exact ih (i + 1) (by omega) (by omega)
   ·rw [Av (by omega)]
 unfold D3
 rw [bne_self_eq_false, An]
 exact this N 0 (by omega) (by omega)
def cb (p : Ab) : List Aa × Int := if BK p = 0 then (A5 p, 0) else ([], BK p)
theorem QT {N : Nat} (hN : N ≤ 1000000) (h20 : 500 ≤ N) (p : Ab) : Fj N p = some (cb p) := by
 unfold Fj cb
 rw [IN N p hN (by omega)]
 simp only [oS]
 by_cases hv : BK p = 0
 ·rw [if_pos hv, hv, bne_self_eq_false, An, Qj hN (by omega) (Co hv).1]; rfl
 ·rw [if_neg hv, bne_iff_ne.2 hv, AN]
theorem ZT {β : Type} {p q : Ab} (h : XH p q) {f g : Ao → β} (hf : ∀ x y, bv x y → g y = f x) : q.ga.map g = p.ga.map f := by
 apply yX
 intro i
 rw [zF, zF]
 by_cases hi : i < p.ga.length
 ·have hx : p.ga[i]? = some p.ga[i] := by simp [hi]
  obtain ⟨y, hy, ht⟩ := h.o i _ hx
  rw [hx, hy, yC, yC, hf _ _ ht]
 ·rw [yG (by rw [h.l]; omega), yG (by omega)]; rfl
theorem VN {p q : Ab} (h : XH p q) : Fq q = Fq p := by
 unfold Fq
 rw [h.n, ZT h (f := Gu p) (g := Gu q) fun x y ht => by unfold Gu; rw [ht.st, ht.f, h.n]]
theorem VA {p q : Ab} (h : XH p q) (s : Af) (held : List Int) : IQ q s held = IQ p s held := by
 unfold IQ
 have : ∀ (xs ys : List Ao) (i : Nat) (a : List Int), ys.length = xs.length → (∀ (j : Nat) x, xs[j]? = some x → ∃ y, ys[j]? = some y ∧ bv x y) → Im (UP s) i ys a = Im (UP s) i xs a := by
  intro xs
  induction xs with
  | nil => intro ys i a hl _; rw [List.length_eq_zero_iff.1 (by simpa using hl : ys.length = 0)]
  | cons x xs ih =>
   intro ys i a hl hh
   cases ys with
   | nil => simp at hl
   | cons y ys =>
    obtain ⟨y', e1, e2⟩ := hh 0 x rfl
    simp only [List.getElem?_cons_zero, Option.some.injEq] at e1
    subst e1
    have : UP s i y a = UP s i x a := by unfold UP U5; rw [e2.f, e2.st]
    rw [Im, Im, this]
    exact ih ys (i + 1) _ (by simpa using hl) fun j x' hx => by
     obtain ⟨y', e1, e2⟩ := hh (j + 1) x' (by simpa using hx)
     exact ⟨y', by simpa using e1, e2⟩
 exact this _ _ _ _ h.l h.o
theorem Ve {p q : Ab} (h : XH p q) (m : Ae) (s : Af) : F4 q m s = F4 p m s := by
 unfold F4
 simp only [VA h]
 by_cases hi : s.gg.toNat < p.ga.length
 ·have hx : p.ga[s.gg.toNat]? = some p.ga[s.gg.toNat] := by simp [hi]
  obtain ⟨y, hy, ht⟩ := h.o _ _ hx
  rw [hx, hy]
  have : H9 q m s.gg.toNat y = H9 p m s.gg.toNat p.ga[s.gg.toNat] := by
   unfold H9 Pz LK; rw [ht.k, ht.f, ht.r]
  simp only [this, ht.st, ht.f]
 ·rw [yG (by rw [h.l]; omega), yG (by omega)]
theorem Qv {p q : Ab} (h : XH p q) (m : Ae) (s : Af) : A7 q m s = A7 p m s := by
 unfold A7 GG
 rw [h.v, h.l, Ve h]
theorem SO {p q : Ab} (h : XH p q) : ED q = ED p := by
 unfold ED; rw [h.v, h.l]
def dV (p : Ab) : Prop := Bs p (Fq p) = true ∧ ∃ u, Ot p (Fq p) u = true
theorem P3 {p q : Ab} (h : XH p q) (hv : BK p = 0) (hq : Nt q) : Nt p := by
 have hvq : BK q = 0 := by rw [QH h]; exact hv
 have hmq := Ov hvq
 obtain ⟨hpq, _⟩ := Co hvq
 unfold Nt at hq ⊢
 rw [VN h] at hq hmq
 cases hr : Bs p (Fq p)
 ·exact .inl rfl
 ·have hrq := NX h hr
  rcases hq with hq | ⟨l, hs⟩
  ·rw [hrq] at hq; cases hq
  ·obtain ⟨ws, hg⟩ := Ts hpq hmq hrq hs
   have hl : l.length ≤ 120 := Bfs.go_len _ _ _ _ (by simp) hs
   refine .inr (QC (S := Kl l) (by unfold Kl; rw [zI]; exact hl) ?_ 1000 0 [(Fq p, -1, MZ)] (by simp [Kl]) (fun y hy => ?_) (zL _) (by omega))
   ·intro y hy w hw
    obtain ⟨⟨y0, f, s⟩, hm, rfl⟩ := zQ.1 hy
    obtain ⟨k, hk⟩ := zN.1 hm
    obtain ⟨hw1, hw2, hw3⟩ := PI.1 hw
    have hwq : w ∈ Jj q y0 := by
     refine PI.2 ⟨?_, by rw [hw2, Qv h], NX h hw3⟩
     have := Iw hw1
     unfold Gz
     rw [SO h]
     exact uX.2 ⟨this.1, by rw [Qv h]; simpa using this.2⟩
    have hkl := Bfs.lt_get hk
    obtain ⟨wy, hwy⟩ := Bfs.get_ex (l := ws) (k := k) (by rw [hg.inv.len]; exact hkl)
    obtain ⟨k', f', s', w', e1, _, _⟩ := hg.inv.closed k y0 f s wy hk hwy w (.inl ⟨hkl, hwq⟩)
    exact zQ.2 ⟨_, lM e1, rfl⟩
   ·simp only [Kl, yH, xZ, yE] at hy
    subst hy
    obtain ⟨s0, hs0⟩ := hg.inv.root
    exact zQ.2 ⟨_, lM hs0, rfl⟩
theorem QY {p : Ab} {l l' : List Aa} (h : ∀ c, c ∈ l → c ∈ l') : XH (Jn p l) (Jn p l') := by
 refine ⟨rfl, rfl, rfl, by simp only [Jn, vP], fun i x hx => ?_⟩
 simp only [Jn] at hx ⊢
 rw [yB] at hx ⊢
 cases hz : p.ga[i]? with
 | none => rw [hz] at hx; cases hx
 | some z =>
  rw [hz] at hx
  simp only [yC, Option.some.injEq] at hx
  subst hx
  refine ⟨_, rfl, ⟨rfl, rfl, rfl, rfl, rfl, by simp only [LJ, vP], fun u row hu => ?_⟩⟩
  simp only [LJ] at hu ⊢
  rw [yB] at hu ⊢
  cases hr : z.gh[u]? with
  | none => rw [hr] at hu; cases hu
  | some r =>
   rw [hr] at hu
   simp only [yC, Option.some.injEq] at hu
   subst hu
   refine ⟨_, rfl, by simp only [Kn, vP], fun v hv => ?_⟩
   simp only [Kn] at hv ⊢
   rw [yB] at hv ⊢
   cases hb : r[v]? with
   | none => rw [hb] at hv; cases hv
   | some b =>
    rw [hb] at hv
    simp only [yC, Option.some.injEq] at hv ⊢
    unfold Xd at hv ⊢
    rw [xO] at hv ⊢
    exact hv.imp id fun hv => Mx.2 (h _ (Mx.1 hv))
theorem Je (p : Ab) (l : List Aa) : BK (Jn p l) = BK p := by
 have := QH (QY (p := p) (l := []) (l' := l) fun c hc => by cases hc)
 rw [W8] at this
 exact this
def FM : List Aa → Nat → List (List Aa)
 | _, 0 => [[]]
 | [], _ + 1 => []
 | x :: l, k + 1 => (FM l k).map (fun s => x :: s) ++ FM l (k + 1)
theorem Ln (l : List Aa) : FM l 0 = [[]] := by cases l <;> rfl
theorem U4 {α β : Type} (g : Nat → α → List β) : ∀ (i : Nat) (xs : List α), BU g (i + 1) xs = BU (fun j x => g (j + 1) x) i xs
 | _, [] => rfl
 | i, x :: xs => by rw [BU, BU, U4 g (i + 1) xs]
theorem Na (k : Nat) : ∀ (l : List Aa), FM l (k + 1) = BU (fun i c => (FM (l.drop (i + 1)) k).map fun s => c :: s) 0 l
 | [] => rfl
 | x :: l => by
  rw [FM, BU, U4, Na k l]
  rfl
theorem GJ : ∀ (l : List Aa) (k : Nat), (FM l k).length ≤ 2 ^ l.length
 | l, 0 => by rw [Ln]; exact Nat.one_le_two_pow
 | [], _ + 1 => by simp [FM]
 | x :: l, k + 1 => by
  rw [FM, zT, zI, zZ, Nat.pow_succ]
  have := GJ l k
  have := GJ l (k + 1)
  omega
theorem Ik : ∀ (l : List Aa) (k : Nat) (s : List Aa), s ∈ FM l k ↔ s.Sublist l ∧ s.length = k
 | l, 0, s => by
  rw [Ln, yE]
  constructor
  ·rintro rfl; exact ⟨List.nil_sublist _, rfl⟩
  ·rintro ⟨_, h⟩; exact List.length_eq_zero_iff.1 h
 | [], k + 1, s => by
  simp only [FM, List.not_mem_nil, false_iff]
  rintro ⟨h1, h2⟩
  rw [List.sublist_nil.1 h1] at h2; cases h2
 | x :: l, k + 1, s => by
  rw [FM, yA, zQ, Ik l (k + 1)]
  constructor
  ·rintro (⟨r, hr, rfl⟩ | ⟨h1, h2⟩)
   ·obtain ⟨h1, h2⟩ := (Ik l k r).1 hr
    exact ⟨h1.cons_cons x, by rw [zZ, h2]⟩
   ·exact ⟨h1.cons x, h2⟩
  ·rintro ⟨h1, h2⟩
   cases h1 with
   | cons _ h => exact .inr ⟨h, h2⟩
   | cons_cons _ h => exact .inl ⟨_, (Ik l k _).2 ⟨h, by simpa using h2⟩, rfl⟩
theorem F8 {n : Nat} (h : n ≤ 7) : 2 ^ n ≤ 128 := Nat.pow_le_pow_right (n := 2) (by omega) h
theorem Pf (N : Nat) (hN : N ≤ 1000000) (h20 : 500 ≤ N) : ∀ (k f : Nat) (l : List Aa), k < f → k ≤ 3 → l.length ≤ 7 → D9 N f l (k : Int) = some (FM l k)
 | k, 0, l, h, _, _ => by omega
 | 0, f + 1, l, _, _, _ => by rw [Ln]; rfl
 | k + 1, f + 1, l, hf, hk, hl => by
  have p128 := F8 hl
  rw [D9, Hk, beq_eq_false_iff_ne.2 (by omega : ((k + 1 : Nat) : Int) ≠ 0), An]
  rw [CC (DK N l ((k + 1 : Nat) : Int) (D9 N f) _) (fun a i => (a, i)) l some (fun i c => (FM (l.drop (i + 1)) k).map fun s => c :: s) 128 2000
   (fun i c hc => by
    have := GJ (l.drop (i + 1)) k
    have := F8 (show (l.drop (i + 1)).length ≤ 7 by rw [y8]; omega)
    rw [zI]; omega)
   (fun n i c a hc ha => by
    have hi := (lI.1 hc).1
    have hd : (l.drop (i + 1)).take (l.length - (i + 1)) = l.drop (i + 1) := uC (by rw [y8]; omega)
    have hlen := GJ (l.drop (i + 1)) k
    have hpow := F8 (show (l.drop (i + 1)).length ≤ 7 by rw [y8]; omega)
    have hw : wI .i64 (((k + 1 : Nat) : Int) - 1) = (k : Int) := by rw [B2 (by omega) (by omega)]; omega
    rw [DK]
    simp only [AO, hc, oS]
    rw [AB (by omega), Ay (by omega), Ap (by omega), zK, hd, hw, Pf N hN h20 k f _ (by omega) (by omega) (by rw [y8]; omega)]
    simp only [oS]
    rw [zI] at ha
    rw [CC (Eo N c (FM (l.drop (i + 1)) k) _) (fun a i => (a, i)) (FM (l.drop (i + 1)) k) (fun v9 => DK N l ((k + 1 : Nat) : Int) (D9 N f) some n (v9, ((i + 1 : Nat) : Int))) (fun _ s => [c :: s]) 1 3000
     (fun j s hs => by simp)
     (fun n2 j s b hs hb => by
      have hj := (lI.1 hs).1
      have hsl := (List.Sublist.length_le ((Ik _ _ s).1 (lM hs)).1)
      rw [y8] at hsl
      rw [Eo]
      simp only [AO, hs, oS]
      rw [AB (by omega), Ap (by simp only [zU]; unfold CP; omega), Ap (by simp only [zU] at hb ⊢; unfold CP; omega), Ay (by omega)]
      rfl)
     (fun n2 b => by
      rw [Eo, Av (by omega)]) N a (by omega) (by omega)]
    rw [I1 (fun _ s => c :: s)]
    have : (FM (l.drop (i + 1)) k).mapIdx (fun _ s => c :: s) = (FM (l.drop (i + 1)) k).map fun s => c :: s := by
     apply yX; intro q; rw [yB, zF]
    rw [this])
   (fun n a => by
    rw [DK, Av (by omega)]) N [] (by omega) (by simp only [zX]; omega)]
  rw [yR, Na]
structure Ic (p : Ab) : Prop where
 v : BK p = 0
 e : (A5 p).length ≤ 7
 l : Nt (Jn p (A5 p))
def Zc (p : Ab) (l : List Aa) : Bool := match G1 1000 (Jn p l) with
 | some r => r.2 == 0
 | none => false
theorem W6 {N : Nat} (hN : N ≤ 1000000) (h1 : 1000 ≤ N) {p : Ab} (hv : BK p = 0) {m : Ae} (hm : B4 p m) (hr : Bs p m = true) {l : List Jz} (hs : IW p m 120 1000 = some l) :
  ∃ r, Gn N p m = some r ∧ UU p m r := by
 obtain ⟨hp, _⟩ := Co hv
 obtain ⟨ws, h⟩ := Ts hp hm hr hs
 have hl : l.length ≤ 120 := Bfs.go_len _ _ _ _ (by simp) hs
 refine ⟨_, Su (N := N) (by omega) (by omega) hv hm hr (by omega) (by omega) (Bfs.go_more (zM _) _ _ _ _ _ h1 hs) (by omega) h, ?_⟩
 rcases Se hp h with ⟨k1, h2, h3⟩ | k1
 ·exact .inl ⟨k1, h2, by omega⟩
 ·exact .inr k1
theorem Vq {N : Nat} (hN : N ≤ 1000000) (h1 : 1000 ≤ N) {p : Ab} (hv : BK p = 0) {m : Ae} (hm : B4 p m) (hr : Bs p m = false) : Gn N p m = some ([], 13) := by
 unfold Gn
 rw [KN N p m (by omega) (by omega) (M5 hm) (Jf hv hm), hr]; rfl
theorem XD {N : Nat} (hN : N ≤ 1000000) (h1 : 1000 ≤ N) {p : Ab} (hv : BK p = 0) (hl : Nt p) : ∃ r, G1 N p = some r ∧ LW p r := by
 have hm := Ov hv
 unfold G1
 rw [SZ N p (by omega) (by omega), if_pos hv]
 simp only [oS, hv, bne_self_eq_false, An]
 cases hr : Bs p (Fq p)
 ·rw [Vq hN h1 hv hm hr]
  exact ⟨_, rfl, .inl ⟨hr, rfl⟩⟩
 ·rcases hl with h | ⟨l, hs⟩
  ·rw [hr] at h; cases h
  ·obtain ⟨r, e1, e3⟩ := W6 hN h1 hv hm hr hs
   rw [e1]
   exact ⟨r, rfl, .inr ⟨hr, e3⟩⟩
theorem Y4 {N : Nat} (hN : N ≤ 1000000) (h1 : 1000 ≤ N) {p : Ab} (hu : Ic p) {l : List Aa} (hl : ∀ c, c ∈ l → c ∈ A5 p) : ∃ r, G1 N (Jn p l) = some r ∧ LW (Jn p l) r :=
 XD hN h1 (by rw [Je]; exact hu.v) (P3 (QY hl) (by rw [Je]; exact hu.v) hu.l)
theorem NC {p : Ab} {r : List Af × Int} (h : LW p r) : ((r.2 == 0) = true ↔ dV p) ∧ (r.2 == 3) = false ∧ (r.2 = 0 ∨ r.2 = 13 ∨ r.2 = 14) := by
 rcases h with ⟨h1, h2⟩ | ⟨h1, ⟨h2, h3, _⟩ | ⟨h2, h3⟩⟩
 ·subst h2
  refine ⟨⟨(fun h => by cases h), fun h => ?_⟩, rfl, .inr (.inl rfl)⟩
  rw [h.1] at h1; cases h1
 ·rw [h2]
  exact ⟨⟨fun _ => ⟨h1, _, h3.1⟩, fun _ => rfl⟩, rfl, .inl rfl⟩
 ·subst h2
  refine ⟨⟨(fun h => by cases h), fun h => ?_⟩, rfl, .inr (.inr rfl)⟩
  obtain ⟨_, u, hu⟩ := h
  rw [h3 u] at hu; cases hu
theorem ac {p : Ab} (hu : Ic p) {l : List Aa} (hl : ∀ c, c ∈ l → c ∈ A5 p) : Zc p l = true ↔ dV (Jn p l) := by
 obtain ⟨r, e1, e3⟩ := Y4 (N := 1000) (by omega) (by omega) hu hl
 unfold Zc
 rw [e1]
 exact (NC e3).1
theorem WB {p : Ab} (hu : Ic p) {l : List Aa} (hl : ∀ c, c ∈ l → c ∈ A5 p) {r : List Af × Int} (h : LW (Jn p l) r) : (r.2 == 0) = Zc p l := by
 rw [Bool.eq_iff_iff, ac hu hl]; exact (NC h).1
theorem Vs {N : Nat} (hN : N ≤ 1000000) (h1 : 1000 ≤ N) {p : Ab} (hu : Ic p) {l : List Aa} (hl : ∀ c, c ∈ l → c ∈ A5 p) (hs : l.length < 1000) : Ei N p l = some (Zc p l, 0) := by
 obtain ⟨r, e1, e3⟩ := Y4 hN h1 hu hl
 unfold Ei
 rw [T6 hN (by omega) hu.v (by omega) hl]
 simp only [oS, e1, (NC e3).2.1, An, WB hu hl e3]
def HJ (p : Ab) (k : Nat) : List (List Aa) := (FM (A5 p) k).filter (Zc p)
theorem Oz {p : Ab} {k : Nat} {s : List Aa} : s ∈ HJ p k ↔ s.Sublist (A5 p) ∧ s.length = k ∧ Zc p s = true := by
 unfold HJ
 rw [uX, Ik, and_assoc]
def N9 (p : Ab) : Nat → Nat → List (List Aa) × Int
 | 0, _ => ([], 14)
 | n + 1, k => if HJ p k = [] then N9 p n (k + 1) else (HJ p k, 0)
theorem La {α : Type} (f : α → Bool) : ∀ (i : Nat) (xs : List α), BU (fun _ x => if f x = true then [x] else []) i xs = xs.filter f
 | _, [] => rfl
 | i, x :: xs => by
  rw [BU, La f (i + 1) xs, List.filter_cons]
  split <;> rfl
theorem Xp {N : Nat} (hN : N ≤ 1000000) (h1 : 1000 ≤ N) {p : Ab} (hu : Ic p) (k : Nat) (j : List (List Aa) → Option (List (List Aa) × Int)) : D7 N p (FM (A5 p) k) j N ([], 0) = j (HJ p k) := by
 have hl := GJ (A5 p) k
 have hp := F8 hu.e
 rw [CC (D7 N p (FM (A5 p) k) j) (fun a i => (a, i)) (FM (A5 p) k) j (fun _ s => if Zc p s = true then [s] else []) 1 500
  (fun i s hs => by split <;> simp)
  (fun n i s a hs ha => by
   have hi := (lI.1 hs).1
   obtain ⟨k1, h2⟩ := (Ik _ _ s).1 (lM hs)
   have h3 := k1.length_le
   have := hu.e
   rw [D7]
   simp only [AO, hs, oS, Ba]
   rw [AB (by omega), Vs hN h1 hu (fun c hc => k1.subset hc) (by omega), Ay (by omega)]
   simp only [oS, bne_self_eq_false, An]
   cases hb : Zc p s
   ·rw [An, if_neg (by simp), xM]
   ·rw [hb, if_pos rfl] at ha
    rw [AN, if_pos rfl, Ap (by simp only [zU] at ha ⊢; unfold CP; omega)])
  (fun n a => by
   rw [D7, Av (by omega)]) N [] (by omega) (by simp only [zX]; omega)]
 rw [yR, La]; rfl
theorem Sb {N : Nat} (hN : N ≤ 1000000) (h1 : 1000 ≤ N) {p : Ab} (hu : Ic p) : ∀ (n k m : Nat), k + n = 4 → n < m → ER N p (fun _ => some ([], 14)) m (A5 p, (k : Int)) = some (N9 p n k)
 | n, k, 0, _, h => by omega
 | 0, k, m + 1, hk, _ => by
  rw [ER, Av (by omega)]; rfl
 | n + 1, k, m + 1, hk, hm => by
  rw [ER, AB (by omega)]
  simp only [Jr]
  rw [Pf N (by omega) (by omega) k N _ (by omega) (by omega) hu.e]
  simp only [oS]
  rw [Xp hN h1 hu k, Ay (by omega), N9]
  cases hr : HJ p k with
  | nil =>
   rw [if_pos rfl, Av (by simp)]
   exact Sb hN h1 hu n (k + 1) m (by omega) (by omega)
  | cons s l =>
   rw [if_neg (by simp), AB (by simp only [zZ]; omega)]
def Oi (p : Ab) : List (List Aa) × Int := N9 p 4 0
theorem Nf {N : Nat} (hN : N ≤ 1000000) (h1 : 1000 ≤ N) {p : Ab} (hu : Ic p) : FH N p = some (Oi p) := by
 unfold FH
 have := hu.e
 rw [QT (by omega) (by omega)]
 unfold cb
 rw [if_pos hu.v]
 simp only [oS, bne_self_eq_false, An]
 rw [Av (by omega)]
 exact Sb hN h1 hu 4 0 N rfl (by omega)
theorem PQ (p : Ab) : ∀ (n k : Nat), (N9 p n k = ([], 14) ∧ ∀ j, k ≤ j → j < k + n → HJ p j = []) ∨ ∃ j, k ≤ j ∧ j < k + n ∧ N9 p n k = (HJ p j, 0) ∧ HJ p j ≠ [] ∧ ∀ i, k ≤ i → i < j → HJ p i = []
 | 0, k => .inl ⟨rfl, fun j h1 h2 => by omega⟩
 | n + 1, k => by
  rw [N9]
  by_cases h : HJ p k = []
  ·rw [if_pos h]
   rcases PQ p n (k + 1) with ⟨h1, h2⟩ | ⟨j, h1, h2, h3, h4, h5⟩
   ·exact .inl ⟨h1, fun j hj1 hj2 => by
     by_cases e : j = k
     ·rw [e]; exact h
     ·exact h2 j (by omega) (by omega)⟩
   ·exact .inr ⟨j, by omega, by omega, h3, h4, fun i hi1 hi2 => by
     by_cases e : i = k
     ·rw [e]; exact h
     ·exact h5 i (by omega) hi2⟩
  ·rw [if_neg h]
   exact .inr ⟨k, zM _, by omega, rfl, h, fun i h1 h2 => by omega⟩
theorem Mv (p : Ab) : (Oi p = ([], 14) ∧ ∀ j, j < 4 → HJ p j = []) ∨ ∃ j, j < 4 ∧ Oi p = (HJ p j, 0) ∧ HJ p j ≠ [] ∧ ∀ i, i < j → HJ p i = [] := by
 rcases PQ p 4 0 with ⟨h1, h2⟩ | ⟨j, _, h2, h3, h4, h5⟩
 ·exact .inl ⟨h1, fun j hj => h2 j (zL _) (by omega)⟩
 ·exact .inr ⟨j, by omega, h3, h4, fun i hi => h5 i (zL _) hi⟩
def VX (p : Ab) : List Aa × Int := if (Oi p).2 = 0 then ((Oi p).1.headD [], 0) else ([], (Oi p).2)
theorem SG {N : Nat} (hN : N ≤ 1000000) (h1 : 1000 ≤ N) {p : Ab} (hu : Ic p) : F1 N p = some (VX p) := by
 unfold F1 VX
 rw [Nf hN h1 hu]
 simp only [oS]
 rcases Mv p with ⟨h, _⟩ | ⟨j, _, h, hn, _⟩
 ·rw [h]; rfl
 ·rw [h]
  simp only [bne_self_eq_false, An, if_true]
  cases hr : HJ p j with
  | nil => exact absurd hr hn
  | cons s l => rfl
theorem Vw {p : Ab} (hp : Be p) {m : Ae} (hm : B4 p m) (hr : Bs p m = true) {n : Nat} {l : List Jz} (hs : IW p m 60 n = some l) : ∃ l', IW p m 120 1000 = some l' := by
 obtain ⟨ws, hg⟩ := Ts hp hm hr hs
 have hl : l.length ≤ 60 := Bfs.go_len _ _ _ _ (by simp) hs
 refine QC (S := Kl l) (by unfold Kl; rw [zI]; omega) ?_ 1000 0 [(m, -1, MZ)] (by simp [Kl]) (fun y hy => ?_) (zL _) (by omega)
 ·intro y hy w hw
  obtain ⟨⟨y0, f, s⟩, hmem, rfl⟩ := zQ.1 hy
  obtain ⟨k, hk⟩ := zN.1 hmem
  have hkl := Bfs.lt_get hk
  obtain ⟨wy, hwy⟩ := Bfs.get_ex (l := ws) (k := k) (by rw [hg.inv.len]; exact hkl)
  obtain ⟨k', f', s', w', e1, _, _⟩ := hg.inv.closed k y0 f s wy hk hwy w (.inl ⟨hkl, hw⟩)
  exact zQ.2 ⟨_, lM e1, rfl⟩
 ·simp only [Kl, yH, xZ, yE] at hy
  subst hy
  obtain ⟨s0, hs0⟩ := hg.inv.root
  exact zQ.2 ⟨_, lM hs0, rfl⟩
theorem Vv {N : Nat} (hN : N ≤ 1000000) (h1 : 1000 ≤ N) {p : Ab} (hv : BK p = 0) : ∃ b, Fv N p 60 = some b ∧ (b = true → Nt p) := by
 obtain ⟨hp, _⟩ := Co hv
 have hm := Ov hv
 unfold Fv
 rw [N4 N p (by omega) (by omega), if_pos hv]
 simp only [oS, Ba, hv, bne_self_eq_false, An]
 rw [I6 N p _ (by omega) (by omega) hp hm]
 simp only [oS]
 cases hr : Bs p (Fq p)
 ·exact ⟨true, rfl, fun _ => .inl hr⟩
 ·have e := Ol (N := N) (by omega) (by omega) hv hm hr (most := 60) (by omega) (by omega) (.inl (by omega))
  have e' : De N p (Fq p) 60 = _ := e
  rw [zV, An, e']
  cases hs : IW p (Fq p) 60 N with
  | none => exact ⟨false, rfl, fun h => by cases h⟩
  | some l => exact ⟨true, rfl, fun _ => .inr (Vw hp hm hr hs)⟩
theorem Ya {N : Nat} (hN : N ≤ 1000000) (h1 : 1000 ≤ N) (d : Bz) (wd : FK d) : ∃ p b, Gp N d = some (p, b) ∧ (b = true → Ic p) := by
 obtain ⟨p, ok, e, h⟩ := e8 N d (by omega) (by omega) wd
 unfold Gp
 rw [e]
 simp only [oS, Ba]
 cases ok
 ·exact ⟨p, false, rfl, fun h => by cases h⟩
 ·rw [AN]
  have hv := (h rfl).valid
  obtain ⟨hp, _⟩ := Co hv
  have he := Tm hp
  by_cases h2 : (p.f9.length : Int) ≤ 2
  ·rw [AB h2]
   unfold Gr
   rw [J9 (by omega) (by omega) hp]
   simp only [oS, Ba]
   by_cases h7 : ((A5 p).length : Int) ≤ 7
   ·rw [AB h7, Pe (by omega) (by omega) hp (by omega)]
    simp only [oS]
    obtain ⟨b, e2, h3⟩ := Vv hN h1 (p := Jn p (A5 p)) (by rw [Je]; exact hv)
    rw [e2]
    exact ⟨p, b, rfl, fun hb => ⟨hv, by omega, h3 hb⟩⟩
   ·rw [Av h7]
    exact ⟨p, false, rfl, fun h => by cases h⟩
  ·rw [Av h2]
   exact ⟨p, false, rfl, fun h => by cases h⟩
end Go.Lift
namespace Go.Lift
open Go
structure Kk {α : Type} (c : α → α → Int) : Prop where
 anti : ∀ x y, c y x = - c x y
 le : ∀ x y z, c x y ≤ 0 → c y z ≤ 0 → c x z ≤ 0
namespace Kk
variable {α : Type} {c : α → α → Int}
theorem self (O : Kk c) (x : α) : c x x = 0 := by have := O.anti x x; omega
theorem lt1 (O : Kk c) {x y z : α} (h : c x y < 0) (h2 : c y z ≤ 0) : c x z < 0 := by
 have h3 := O.le x y z (by omega) h2
 by_cases h0 : c x z = 0
 ·have h4 := O.anti x z
  have h5 := O.le y z x h2 (by omega)
  have h6 := O.anti x y
  omega
 ·omega
theorem lt2 (O : Kk c) {x y z : α} (h : c x y ≤ 0) (h2 : c y z < 0) : c x z < 0 := by
 have h3 := O.le x y z h (by omega)
 by_cases h0 : c x z = 0
 ·have h4 := O.anti x z
  have h5 := O.le z x y (by omega) h
  have h6 := O.anti y z
  omega
 ·omega
theorem or {d : α → α → Int} (O : Kk c) (Q : Kk d) : Kk (fun x y => if c x y = 0 then d x y else c x y) := by
 refine ⟨fun x y => ?_, fun x y z => ?_⟩
 ·have := O.anti x y
  by_cases h : c x y = 0
  ·simp only [h, show c y x = 0 by omega, if_true]; exact Q.anti x y
  ·simp only [h, show ¬ c y x = 0 by omega, if_false]; exact this
 ·intro h1 h2
  have a1 : c x y ≤ 0 := by revert h1; split <;> omega
  have a2 : c y z ≤ 0 := by revert h2; split <;> omega
  have a3 := O.le x y z a1 a2
  by_cases h0 : c x z = 0
  ·have b1 : c x y = 0 := by
    by_cases q : c x y = 0
    ·exact q
    ·have := O.lt1 (show c x y < 0 by omega) a2; omega
   have b2 : c y z = 0 := by
    by_cases q : c y z = 0
    ·exact q
    ·have := O.lt2 a1 (show c y z < 0 by omega); omega
   simp only [b1, b2, h0, if_true] at h1 h2 ⊢
   exact Q.le x y z h1 h2
  ·simp only [h0, if_false]; exact a3
end Kk
section
variable {α : Type} {P : α → Prop} {cmp : α × α → Option Int} {bq : α → α → Bool} {c : α → α → Int}
theorem Pg (O : Kk c) (hc : ∀ x y, P x → P y → cmp (x, y) = some (c x y)) {x : α} (hx : P x) : ∀ l : List α, (∀ y, y ∈ l → P y) → l.Pairwise (fun x y => c x y ≤ 0) → (Vi cmp x l).Pairwise (fun x y => c x y ≤ 0)
 | [], _, _ => by simp [Vi]
 | y :: ys, hl, hp => by
  obtain ⟨p1, p2⟩ := xB.1 hp
  have hy := hl y (by simp)
  unfold Vi
  rw [hc x y hx hy]
  simp only
  split
  ·rename_i h
   refine xB.2 ⟨fun z hz => ?_, hp⟩
   rcases zO.1 hz with e | e
   ·subst e; exact h
   ·exact O.le _ _ _ h (p1 z e)
  ·refine xB.2 ⟨fun z hz => ?_, Pg O hc hx ys (fun z hz => hl z (by simp [hz])) p2⟩
   rcases zO.1 ((O4 cmp x ys).mem_iff.1 hz) with e | e
   ·subst e; have := O.anti z y; omega
   ·exact p1 z e
theorem Pk (O : Kk c) (hc : ∀ x y, P x → P y → cmp (x, y) = some (c x y)) : ∀ l : List α, (∀ y, y ∈ l → P y) → (Vy cmp l).Pairwise (fun x y => c x y ≤ 0)
 | [], _ => List.Pairwise.nil
 | x :: l, hl => Pg O hc (hl x (by simp)) _ (fun y hy => hl y (by simp [(Mr cmp l).mem_iff.1 hy])) (Pk O hc l fun y hy => hl y (by simp [hy]))
theorem YL (O : Kk c) (hc : ∀ x y, P x → P y → cmp (x, y) = some (c x y)) (h0 : ∀ x y, P x → P y → c x y = 0 → bq x y = true) : ∀ l : List α, (∀ y, y ∈ l → P y) → l.Pairwise (fun x y => c x y ≤ 0) → cR cmp bq l = true
 | [], _, _ => rfl
 | y :: ys, hl, hp => by
  obtain ⟨p1, p2⟩ := xB.1 hp
  have hy := hl y (by simp)
  unfold cR
  rw [hc y y hy hy, YL O hc h0 ys (fun z hz => hl z (by simp [hz])) p2, vW, zH, zG]
  refine ⟨decide_eq_true (O.self y), fun z hz => ?_⟩
  have hz' := hl z (by simp [hz])
  unfold Wf
  rw [hc y z hy hz', hc z y hz' hy]
  simp only
  have h1 := p1 z hz
  have h2 := O.anti y z
  by_cases h : c y z = 0
  ·rw [h0 y z hy hz' h, decide_eq_true h, decide_eq_true (show c z y = 0 by omega)]; simp
  ·rw [decide_eq_true (show c y z < 0 by omega), decide_eq_true (show 0 < c z y by omega)]; simp
theorem Xj (O : Kk c) (hc : ∀ x y, P x → P y → cmp (x, y) = some (c x y)) (h0 : ∀ x y, P x → P y → c x y = 0 → bq x y = true) (l : List α) (hl : l.length ≤ 1000) (hP : ∀ x, x ∈ l → P x) :
  ∃ r : List α, RH cmp bq l = some r ∧ r.Perm l ∧ r.Pairwise (fun x y => c x y ≤ 0) := by
 have hp := Mr cmp l
 have hs := Pk O hc l hP
 refine ⟨Vy cmp l, ?_, hp, hs⟩
 unfold RH
 rw [YL O hc h0 _ (fun y hy => hP y (hp.mem_iff.1 hy)) hs, decide_eq_true (show l.length < 4611686018427387904 by omega)]
 rfl
end
section
variable {α : Type} {c : α → α → Int}
abbrev OC (c : α → α → Int) (l : List α) : Prop := l.Pairwise (fun x y => c x y < 0)
theorem PV (O : Kk c) : ∀ (a b : List α), OC c a → OC c b → (∀ x, x ∈ a ↔ x ∈ b) → a = b
 | [], [], _, _, _ => rfl
 | [], y :: ys, _, _, h => by have := (h y).2 (by simp); simp at this
 | x :: xs, [], _, _, h => by have := (h x).1 (by simp); simp at this
 | x :: xs, y :: ys, ha, hb, h => by
  obtain ⟨a1, a2⟩ := xB.1 ha
  obtain ⟨b1, b2⟩ := xB.1 hb
  have exy : x = y := by
   rcases zO.1 ((h x).1 (by simp)) with e | e
   ·exact e
   rcases zO.1 ((h y).2 (by simp)) with f | f
   ·exact f.symm
   have := b1 x e
   have := a1 y f
   have := O.anti x y
   omega
  subst exy
  rw [PV O xs ys a2 b2 fun z => ?_]
  constructor
  ·intro hz
   rcases zO.1 ((h z).1 (by simp [hz])) with e | e
   ·subst e; have := a1 z hz; have := O.self z; omega
   ·exact e
  ·intro hz
   rcases zO.1 ((h z).2 (by simp [hz])) with e | e
   ·subst e; have := b1 z hz; have := O.self z; omega
   ·exact e
end
theorem Kk.pull {α β : Type} {c : α → α → Int} (O : Kk c) (f : β → α) : Kk (fun x y => c (f x) (f y)) := ⟨fun _x _y => O.anti _ _, fun _x _y _z => O.le _ _ _⟩
theorem XQ : Kk (fun (x y : Int) => if x < y then -1 else if x = y then 0 else 1) := by
 refine ⟨fun x y => ?_, fun x y z => ?_⟩
 ·repeat' split
  all_goals omega
 ·repeat' split
  all_goals omega
end Go.Lift
namespace Go.Lift
open IntKind renaming wrap → wI
open Go
variable {α : Type}
def Gs.compact_L11 (z : α) (N : Nat) (p0 : List α) (p1 : (α × α) → Option Bool) (v2 : Int) (j11 : ((List α) × Int) → Option (Nat × (List α))) : Nat → ((List α) × Int × Int) → Option (Nat × (List α))
 | 0, _ => none
 | n11 + 1, v11 =>
  AR ((decide (v11.2.2 < ((((p0.length - (v2).toNat)) : Nat) : Int))))
   (Bi (fun (v14 : (List α) × Int) =>
    Gs.compact_L11 z N p0 p1 v2 j11 n11 (v14.1, v14.2, (wI .i64 (v11.2.2 + 1))))
   fun j14 =>
   (Dt (((v2).toNat) + ((p0.length - (v2).toNat)) ≤ v11.1.length)).bind fun _ =>
   (Bh (((v11.1.drop ((v2).toNat)).take ((p0.length - (v2).toNat)))) v11.2.2).bind fun v15 =>
   (Bh (((v11.1.drop ((v2).toNat)).take ((p0.length - (v2).toNat)))) ((wI .i64 (v11.2.2 - 1)))).bind fun v17 =>
   (p1 ((v15, v17))).bind fun v18 =>
   AR ((!v18))
    ((Bh (((v11.1.drop ((v2).toNat)).take ((p0.length - (v2).toNat)))) v11.2.2).bind fun v20 =>
    (Bh v11.1 v11.2.1).bind fun _ =>
    j14 (v11.1.set ((v11.2.1).toNat) v20, (wI .i64 (v11.2.1 + 1))))
    (j14 (v11.1, v11.2.1)))
   (j11 (v11.1, v11.2.1))
def Gs.compact_L2 (z : α) (N : Nat) (p0 : List α) (p1 : (α × α) → Option Bool) (j2 : Unit → Option (Nat × (List α))) : Nat → Int → Option (Nat × (List α))
 | 0, _ => none
 | n2 + 1, v2 =>
  AR ((decide (v2 < (p0.length : Int))))
   ((Bh p0 v2).bind fun v5 =>
   (Bh p0 ((wI .i64 (v2 - 1)))).bind fun v6 =>
   (p1 ((v5, v6))).bind fun v7 =>
   AR v7
    ((Dt ((0 : Int) ≤ v2 ∧ (v2).toNat ≤ p0.length ∧ p0.length ≤ p0.length)).bind fun _ =>
    Gs.compact_L11 z N p0 p1 v2 (fun (v12 : (List α) × Int) =>
     (Dt ((0 : Int) ≤ v12.2 ∧ (v12.2).toNat ≤ v12.1.length ∧ v12.1.length ≤ v12.1.length)).bind fun _ =>
     (Dt ((0 : Int) ≤ v12.2 ∧ 0 ≤ (v12.2).toNat ∧ (v12.2).toNat ≤ (GZ v12.1 ((v12.2).toNat) (zD ((v12.1.length - (v12.2).toNat)) (z))).length)).bind fun _ =>
     some ((v12.2).toNat, GZ v12.1 ((v12.2).toNat) (zD ((v12.1.length - (v12.2).toNat)) (z)))) N (p0, v2, 1))
    (Gs.compact_L2 z N p0 p1 j2 n2 (wI .i64 (v2 + 1))))
   (j2 ())
def Gs.compact (z : α) (N : Nat) (p0 : List α) (p1 : (α × α) → Option Bool) : Option (Nat × (List α)) :=
 AR ((decide ((p0.length : Int) < 2)))
  (some (p0.length, p0))
  (Gs.compact_L2 z N p0 p1 (fun (_ : Unit) =>
   some (p0.length, p0)) N 1)
end Go.Lift
namespace Go.Lift
open Option renaming bind_some → oS
open List renaming mem_of_getElem? → lM
open Go
section
variable {α : Type} {c : α → α → Int}
def Gd (c : α → α → Int) (l : List α) (r : List α) (j : Nat) : Prop := OC c r ∧ ∀ x, x ∈ r ↔ x ∈ l.take (j + 1)
theorem WM {l r : List α} {j : Nat} (h : Gd c l r j) (hj : j + 1 < l.length) (e : l[j + 1] = l[j]) : Gd c l r (j + 1) := by
 refine ⟨h.1, fun x => ?_⟩
 rw [xN hj, yA, ← h.2 x, yE, e]
 constructor
 ·exact .inl
 ·rintro (h1 | rfl)
  ·exact h1
  ·exact (h.2 _).2 (uS.2 ⟨j, by omega, rfl⟩)
theorem WC (O : Kk c) (h0 : ∀ x y, c x y = 0 → x = y) {l r : List α} {j : Nat} (hs : l.Pairwise (fun x y => c x y ≤ 0)) (h : Gd c l r j) (hj : j + 1 < l.length) (e : l[j + 1] ≠ l[j]) : Gd c l (r ++ [l[j + 1]]) (j + 1) := by
 rw [x8] at hs
 refine ⟨uK.2 ⟨h.1, zA6 _ _, fun x hx y hy => ?_⟩, fun x => ?_⟩
 ·rw [yE.1 hy]
  obtain ⟨i, hi, rfl⟩ := uS.1 ((h.2 x).1 hx)
  have h1 : c l[j] l[j + 1] < 0 := by
   have := hs j (j + 1) (by omega) hj (by omega)
   by_cases q : c l[j] l[j + 1] = 0
   ·exact absurd (h0 _ _ q).symm e
   ·omega
  by_cases q : i = j
  ·subst q; exact h1
  ·exact O.lt2 (hs i j (by omega) (by omega) (by omega)) h1
 ·rw [xN hj, yA, yA, h.2 x]
variable {P : α → Prop} {eq : α × α → Option Bool} {b : α → α → Bool}
theorem S9 (O : Kk c) (h0 : ∀ x y, c x y = 0 → x = y) (z : α) (hc : ∀ x y, P x → P y → eq (x, y) = some (b x y)) (hb : ∀ x y, b x y = true ↔ x = y) (N : Nat) (l : List α) (hl : l.length ≤ 1000) (hP : ∀ x, x ∈ l → P x) (hs : l.Pairwise (fun x y => c x y ≤ 0)) (i0 : Nat) (h1 : 1 ≤ i0) (h2 : i0 < l.length) (J : List α × Int → Option (Nat × List α)) :
  ∀ (n q k : Nat) (a : List α), l.length - q < n → i0 < q → q ≤ l.length → k + 1 ≤ q → a.length = l.length → Gd c l (a.take k) (q - 1) → a.drop (q - 1) = l.drop (q - 1) →
  ∃ (a' : List α) (k' : Nat), Gs.compact_L11 z N l eq (i0 : Int) J n (a, (k : Int), ((q - i0 : Nat) : Int)) = J (a', (k' : Int)) ∧ a'.length = l.length ∧ k' ≤ l.length ∧ Gd c l (a'.take k') (l.length - 1)
 | 0, q, k, a, h, _, _, _, _, _, _ => by omega
 | n + 1, q, k, a, h, hq, hql, hk, ha, hg, hd => by
  rw [Gs.compact_L11]
  simp only [Ba, zK]
  have at_ : ∀ p, q - 1 ≤ p → p < l.length → a[p]? = l[p]? := by
   intro p hp hpl
   have : (a.drop (q - 1))[p - (q - 1)]? = (l.drop (q - 1))[p - (q - 1)]? := by rw [hd]
   rw [yU, yU, show q - 1 + (p - (q - 1)) = p by omega] at this
   exact this
  by_cases h3 : q < l.length
  ·rw [AB (by omega), Ap (by omega)]
   have hx : l[q]? = some l[q] := by simp [h3]
   have hy : l[q - 1]? = some l[q - 1] := by simp <;> omega
   have ix : ∀ p, i0 ≤ p → q - 1 ≤ p → p < l.length → Bh ((a.drop i0).take (l.length - i0)) ((p - i0 : Nat) : Int) = l[p]? := by
    intro p g1 g2 g3
    rw [AO, yI (by omega), yU, show i0 + (p - i0) = p by omega]
    exact at_ p g2 g3
   rw [B2 (n := ((q - i0 : Nat) : Int) - 1) (by omega) (by omega), show (((q - i0 : Nat) : Int) - 1) = ((q - 1 - i0 : Nat) : Int) by omega, ix q (by omega) (by omega) h3, ix (q - 1) (by omega) (by omega) (by omega), hx, hy]
   simp only [oS]
   rw [hc _ _ (hP _ (lM hx)) (hP _ (lM hy))]
   simp only [oS]
   rw [B2 (n := ((q - i0 : Nat) : Int) + 1) (by omega) (by omega), show (((q - i0 : Nat) : Int) + 1) = ((q + 1 - i0 : Nat) : Int) by omega]
   have eq1 : q - 1 + 1 = q := by omega
   by_cases e : l[q] = l[q - 1]
   ·rw [(hb _ _).2 e, zV, An]
    refine S9 O h0 z hc hb N l hl hP hs i0 h1 h2 J n (q + 1) k a (by omega) (by omega) (by omega) (by omega) ha ?_ ?_
    ·have := WM (j := q - 1) hg (by omega) (by simp only [eq1]; exact e)
     rw [eq1] at this; exact this
    ·show a.drop q = l.drop q
     rw [← eq1, ← vI, ← vI, hd]
   ·have hbf : b l[q] l[q - 1] = false := by
     cases hh : b l[q] l[q - 1] with
     | false => rfl
     | true => exact absurd ((hb _ _).1 hh) e
    rw [hbf, yT, AN]
    rw [AO, show a[k]? = some a[k] from by simp <;> omega]
    simp only [oS]
    rw [Ay (by omega)]
    refine S9 O h0 z hc hb N l hl hP hs i0 h1 h2 J n (q + 1) (k + 1) (a.set k l[q]) (by omega) (by omega) (by omega) (by omega) (by simp [ha]) ?_ ?_
    ·have := WC O h0 hs (j := q - 1) hg (by omega) (by simp only [eq1]; exact e)
     simp only [eq1] at this
     rw [xN (by simp; omega), List.take_set_of_le (by omega), List.getElem_set_self]
     exact this
    ·show (a.set k l[q]).drop q = l.drop q
     rw [List.drop_set_of_lt (by omega), ← eq1, ← vI, ← vI, hd]
  ·rw [Av (by omega)]
   have : q = l.length := by omega
   subst this
   exact ⟨a, k, rfl, ha, by omega, hg⟩
theorem UN (O : Kk c) (h0 : ∀ x y, c x y = 0 → x = y) (z : α) (hc : ∀ x y, P x → P y → eq (x, y) = some (b x y)) (hb : ∀ x y, b x y = true ↔ x = y) (N : Nat) (hN : 1010 ≤ N) (l : List α) (hl : l.length ≤ 1000) (hP : ∀ x, x ∈ l → P x) (hs : l.Pairwise (fun x y => c x y ≤ 0)) :
  ∀ (n i : Nat), l.length - i < n → 1 ≤ i → i ≤ l.length → Gd c l (l.take i) (i - 1) →
  ∃ (k : Nat) (r : List α), Gs.compact_L2 z N l eq (fun _ => some (l.length, l)) n (i : Int) = some (k, r) ∧ k ≤ r.length ∧ Gd c l (r.take k) (l.length - 1)
 | 0, i, h, _, _, _ => by omega
 | n + 1, i, h, h1, h2, hg => by
  rw [Gs.compact_L2]
  by_cases h3 : i < l.length
  ·have hx : l[i]? = some l[i] := by simp [h3]
   have hy : l[i - 1]? = some l[i - 1] := by simp <;> omega
   have eq1 : i - 1 + 1 = i := by omega
   rw [AB (by omega), B2 (n := (i : Int) - 1) (by omega) (by omega), show ((i : Int) - 1) = ((i - 1 : Nat) : Int) by omega]
   simp only [AO, hx, hy, oS]
   rw [hc _ _ (hP _ (lM hx)) (hP _ (lM hy))]
   simp only [oS, zK]
   by_cases e : l[i] = l[i - 1]
   ·rw [(hb _ _).2 e, AN, Ap (by omega)]
    have hg2 : Gd c l (l.take i) i := by
     have := WM (j := i - 1) hg (by omega) (by simp only [eq1]; exact e)
     rw [eq1] at this; exact this
    obtain ⟨a', k', e1, e2, e3, e4⟩ := S9 O h0 z hc hb N l hl hP hs i h1 h3 (fun (v12 : (List α) × Int) =>
     (Dt ((0 : Int) ≤ v12.2 ∧ (v12.2).toNat ≤ v12.1.length ∧ v12.1.length ≤ v12.1.length)).bind fun _ =>
     (Dt ((0 : Int) ≤ v12.2 ∧ 0 ≤ (v12.2).toNat ∧ (v12.2).toNat ≤ (GZ v12.1 ((v12.2).toNat) (zD ((v12.1.length - (v12.2).toNat)) (z))).length)).bind fun _ =>
     some ((v12.2).toNat, GZ v12.1 ((v12.2).toNat) (zD ((v12.1.length - (v12.2).toNat)) (z)))) N (i + 1) i l (by omega) (by omega) (by omega) (by omega) rfl hg2 rfl
    rw [show ((i + 1 - i : Nat) : Int) = 1 by omega] at e1
    rw [e1]
    simp only [zK]
    have hsp : (GZ a' k' (zD (a'.length - k') z)).take k' = a'.take k' ∧ k' ≤ (GZ a' k' (zD (a'.length - k') z)).length := by
     unfold GZ
     constructor
     ·simp only [yQ]
      rw [List.take_append_of_le_length (by simp; omega), List.take_take, Nat.min_self]
     ·simp; omega
    rw [Ap (by omega), Ap (by omega)]
    exact ⟨k', _, rfl, hsp.2, by rw [hsp.1]; exact e4⟩
   ·have hbf : b l[i] l[i - 1] = false := by
     cases hh : b l[i] l[i - 1] with
     | false => rfl
     | true => exact absurd ((hb _ _).1 hh) e
    rw [hbf, An, Ay (by omega)]
    refine UN O h0 z hc hb N hN l hl hP hs n (i + 1) (by omega) (by omega) (by omega) ?_
    have := WC O h0 hs (j := i - 1) hg (by omega) (by simp only [eq1]; exact e)
    simp only [eq1] at this
    rw [xN h3]
    exact this
  ·rw [Av (by omega)]
   have : i = l.length := by omega
   subst this
   exact ⟨_, _, rfl, zM _, hg⟩
theorem Xs (O : Kk c) (h0 : ∀ x y, c x y = 0 → x = y) (z : α) (hc : ∀ x y, P x → P y → eq (x, y) = some (b x y)) (hb : ∀ x y, b x y = true ↔ x = y) {N : Nat} (hN : 1010 ≤ N) (l : List α) (hl : l.length ≤ 1000) (hP : ∀ x, x ∈ l → P x) (hs : l.Pairwise (fun x y => c x y ≤ 0)) :
  ∃ (k : Nat) (r : List α), Gs.compact z N l eq = some (k, r) ∧ k ≤ r.length ∧ OC c (r.take k) ∧ ∀ x, x ∈ r.take k ↔ x ∈ l := by
 unfold Gs.compact
 match l, hl, hP, hs with
 | [], _, _, _ => exact ⟨0, [], rfl, zM _, by simp, by simp⟩
 | [x], _, _, _ => exact ⟨1, [x], rfl, zM _, by simp, by simp⟩
 | x :: y :: l, hl, hP, hs =>
  rw [Av (by simp; omega)]
  obtain ⟨k, r, e1, e2, e3, e4⟩ := UN O h0 z hc hb N hN (x :: y :: l) hl hP hs N 1 (by omega) (by omega) (by simp) ⟨by simp, by simp⟩
  refine ⟨k, r, e1, e2, e3, fun w => ?_⟩
  rw [e4 w, uC (by simp)]
end
end Go.Lift
namespace Go.Lift
open Option renaming bind_some → oS
open Go
instance : Inhabited Aa := ⟨⟨0, 0, 0⟩⟩
theorem Sz : Bt = fun N p => @Gs.compact Aa (Aa.mk 0 0 0) N p (fun x => some ((x.1.gt == x.2.gt) && ((x.1.gr == x.2.gr) && ((x.1.gu == x.2.gu) && true)))) := by kernel_rfl
def Lv (x y : Int) : Int := if x < y then -1 else if x = y then 0 else 1
theorem Tn (N : Nat) (x y : Int) : En N x y = some (Lv x y) := by
 unfold En GO Lv
 simp only [oS, bne_self_eq_false, An]
 by_cases h : x < y
 ·rw [AB h, if_pos h]
 ·rw [Av h, if_neg h]
  by_cases e : x = y
  ·rw [if_pos e, Av (by omega)]
  ·rw [if_neg e, AB (by omega)]
def Tw (a b : Aa) : Int := Q4 [Lv a.gt b.gt, Lv a.gr b.gr, Lv a.gu b.gu]
theorem Sp : Kk Tw := by
 have := (XQ.pull Aa.gt).or ((XQ.pull Aa.gr).or (XQ.pull Aa.gu))
 have e : Tw = fun (x y : Aa) => if Lv x.gt y.gt = 0 then (if Lv x.gr y.gr = 0 then Lv x.gu y.gu else Lv x.gr y.gr) else Lv x.gt y.gt := by
  funext x y
  unfold Tw Q4 Q4 Q4 Q4
  repeat' split
  all_goals (first | rfl | omega | simp_all)
 rw [e]; exact this
theorem OS {x y : Int} (h : Lv x y = 0) : x = y := by
 unfold Lv at h
 split at h
 ·cases h
 ·split at h
  ·assumption
  ·cases h
theorem RM (a b : Aa) (h : Tw a b = 0) : a = b := by
 have := QQ h
 have h1 := OS (this (Lv a.gt b.gt) (by simp))
 have h2 := OS (this (Lv a.gr b.gr) (by simp))
 have h3 := OS (this (Lv a.gu b.gu) (by simp))
 cases a; cases b; simp only at h1 h2 h3; subst h1; subst h2; subst h3; rfl
def eP (a b : Aa) : Bool := (a.gt == b.gt) && ((a.gr == b.gr) && ((a.gu == b.gu) && true))
theorem ag (x y : Aa) (_ : True) (_ : True) (h : Tw x y = 0) : H3 x y = true := by rw [RM x y h]; simp [H3]
theorem Tt (a b : Aa) : eP a b = true ↔ a = b := by
 cases a; cases b
 simp [eP]
instance eQ : DecidableEq Aa := fun a b => if h : eP a b = true then isTrue ((Tt a b).1 h) else isFalse fun e => h ((Tt a b).2 e)
theorem VC {N : Nat} (hN : N ≤ 1000000) (h1 : 1000 ≤ N) {p : Ab} (hv : BK p = 0) (hl : Nt p) : ∃ r, zFS N p = some r ∧ LW p r := by
 obtain ⟨hp, _⟩ := Co hv
 have hm := Ov hv
 unfold zFS
 rw [N4 N p (by omega) (by omega), if_pos hv]
 simp only [oS, hv, bne_self_eq_false, An]
 cases hr : Bs p (Fq p)
 ·unfold ET
  rw [JC N p _ (by omega) (by omega), Jf hv hm, I6 N p _ (by omega) (by omega) hp hm, hr]
  exact ⟨_, rfl, .inl ⟨hr, rfl⟩⟩
 ·rcases hl with h | ⟨l, hs⟩
  ·rw [hr] at h; cases h
  ·obtain ⟨ws, h⟩ := Ts hp hm hr hs
   have hl : l.length ≤ 120 := Bfs.go_len _ _ _ _ (by simp) hs
   have hs2 : IW p (Fq p) 20000 N = some l := Bfs.go_more (by omega) _ _ _ _ _ h1 hs
   rw [TZ (N := N) (by omega) (by omega) hv hm hr hs2 (by omega) h]
   refine ⟨_, rfl, .inr ⟨hr, ?_⟩⟩
   rcases Se hp h with ⟨k1, h2, h3⟩ | k1
   ·exact .inl ⟨k1, h2, by show (MX p l ws).1.length ≤ 120; omega⟩
   ·exact .inr k1
theorem VO {N : Nat} (hN : N ≤ 1000000) (h1 : 1000 ≤ N) {p : Ab} (hu : Ic p) {l : List Aa} (hl : ∀ c, c ∈ l → c ∈ A5 p) (hs : l.length < 1000) : EK N p l = some (Zc p l, 0) := by
 obtain ⟨r, e1, e3⟩ := VC (p := Jn p l) hN h1 (by rw [Je]; exact hu.v) (P3 (QY hl) (by rw [Je]; exact hu.v) hu.l)
 unfold EK
 rw [Pe hN (by omega) (Co hu.v).1 (by omega)]
 simp only [oS, e1, (NC e3).2.1, An, WB hu hl e3]
theorem Z6 (N : Nat) (hN : N ≤ 1000000) (h20 : 100 ≤ N) (a b : Aa) : CU N a b = some (Tw a b) := by
 unfold CU
 rw [Tn, Tn, Tn]
 simp only [oS]
 rw [cn (by simp; omega) hN]; rfl
theorem Ty {l : List Aa} (h : OC Tw l) : l.Nodup :=
 List.Pairwise.imp (fun {a b} hab e => by subst e; have := Sp.self a; omega) h
end Go.Lift
namespace Go.Lift
open IntKind renaming wrap → wI
open Option renaming bind_some → oS
open List renaming mem_of_getElem? → lM
open List renaming getElem?_eq_some_iff → lI
open Go
theorem MU (N : Nat) (hN : N ≤ 1000000) (h20 : 500 ≤ N) : ∀ (k f : Nat) (l : List Aa), k < f → k ≤ 3 → l.length ≤ 7 → Cx N f l (k : Int) = some (FM l k)
 | k, 0, l, h, _, _ => by omega
 | 0, f + 1, l, _, _, _ => by rw [Ln]; rfl
 | k + 1, f + 1, l, hf, hk, hl => by
  have p128 := F8 hl
  rw [Cx, FI, beq_eq_false_iff_ne.2 (by omega : ((k + 1 : Nat) : Int) ≠ 0), An]
  rw [CC (Ci N l ((k + 1 : Nat) : Int) (Cx N f) _) (fun a i => (a, i)) l some (fun i c => (FM (l.drop (i + 1)) k).map fun s => c :: s) 128 2000
   (fun i c hc => by
    have := GJ (l.drop (i + 1)) k
    have := F8 (show (l.drop (i + 1)).length ≤ 7 by rw [y8]; omega)
    rw [zI]; omega)
   (fun n i c a hc ha => by
    have hi := (lI.1 hc).1
    have hd : (l.drop (i + 1)).take (l.length - (i + 1)) = l.drop (i + 1) := uC (by rw [y8]; omega)
    have hlen := GJ (l.drop (i + 1)) k
    have hpow := F8 (show (l.drop (i + 1)).length ≤ 7 by rw [y8]; omega)
    have hw : wI .i64 (((k + 1 : Nat) : Int) - 1) = (k : Int) := by rw [B2 (by omega) (by omega)]; omega
    rw [Ci]
    rw [AB (by omega), Ay (by omega), Ap (by omega), zK, hd, hw, MU N hN h20 k f _ (by omega) (by omega) (by rw [y8]; omega)]
    simp only [oS]
    rw [zI] at ha
    rw [CC (CT N l (a, (i : Int)) (FM (l.drop (i + 1)) k) _) (fun a i => (a, i)) (FM (l.drop (i + 1)) k) (fun v9 => Ci N l ((k + 1 : Nat) : Int) (Cx N f) some n (v9, ((i + 1 : Nat) : Int))) (fun _ s => [c :: s]) 1 3000
     (fun j s hs => by simp)
     (fun n2 j s b hs hb => by
      have hj := (lI.1 hs).1
      have hsl := (List.Sublist.length_le ((Ik _ _ s).1 (lM hs)).1)
      rw [y8] at hsl
      rw [CT]
      simp only [AO, hc, hs, oS]
      rw [AB (by omega), Ap (by simp only [zU]; unfold CP; omega), Ap (by simp only [zU] at hb ⊢; unfold CP; omega), Ay (by omega)]
      rfl)
     (fun n2 b => by
      rw [CT, Av (by omega)]) N a (by omega) (by omega)]
    rw [I1 (fun _ s => c :: s)]
    have : (FM (l.drop (i + 1)) k).mapIdx (fun _ s => c :: s) = (FM (l.drop (i + 1)) k).map fun s => c :: s := by
     apply yX; intro q; rw [yB, zF]
    rw [this])
   (fun n a => by
    rw [Ci, Av (by omega)]) N [] (by omega) (by simp only [zX]; omega)]
  rw [yR, Na]
theorem Rn {N : Nat} (hN : N ≤ 1000000) (h1 : 1000 ≤ N) {p : Ab} (hu : Ic p) (k : Nat) (j : List (List Aa) → Option (List (List Aa) × Int)) : CY N p (FM (A5 p) k) j N ([], 0) = j (HJ p k) := by
 have hl := GJ (A5 p) k
 have hp := F8 hu.e
 rw [CC (CY N p (FM (A5 p) k) j) (fun a i => (a, i)) (FM (A5 p) k) j (fun _ s => if Zc p s = true then [s] else []) 1 500
  (fun i s hs => by split <;> simp)
  (fun n i s a hs ha => by
   have hi := (lI.1 hs).1
   obtain ⟨k1, h2⟩ := (Ik _ _ s).1 (lM hs)
   have h3 := k1.length_le
   have := hu.e
   rw [CY]
   simp only [AO, hs, oS, Ba]
   rw [AB (by omega), VO hN h1 hu (fun c hc => k1.subset hc) (by omega), Ay (by omega)]
   simp only [oS, bne_self_eq_false, An]
   cases hb : Zc p s
   ·rw [An, if_neg (by simp), xM]
   ·rw [hb, if_pos rfl] at ha
    rw [AN, if_pos rfl, Ap (by simp only [zU] at ha ⊢; unfold CP; omega)])
  (fun n a => by
   rw [CY, Av (by omega)]) N [] (by omega) (by simp only [zX]; omega)]
 rw [yR, La]; rfl
theorem M3 {N : Nat} (hN : N ≤ 1000000) (h1 : 1000 ≤ N) {p : Ab} (hu : Ic p) : ∀ (n k m : Nat), k + n = 4 → n < m → Dy N p (fun _ => some ([], 14)) m (A5 p, (k : Int)) = some (N9 p n k)
 | n, k, 0, _, h => by omega
 | 0, k, m + 1, hk, _ => by
  rw [Dy, Av (by omega)]; rfl
 | n + 1, k, m + 1, hk, hm => by
  rw [Dy, AB (by omega)]
  simp only [Hh]
  rw [MU N (by omega) (by omega) k N _ (by omega) (by omega) hu.e]
  simp only [oS]
  rw [Rn hN h1 hu k, Ay (by omega), N9]
  cases hr : HJ p k with
  | nil =>
   rw [if_pos rfl, Av (by simp)]
   exact M3 hN h1 hu n (k + 1) m (by omega) (by omega)
  | cons s l =>
   rw [if_neg (by simp), AB (by simp only [zZ]; omega)]
theorem QS {N : Nat} (hN : N ≤ 1000000) (h1 : 1000 ≤ N) {p : Ab} (hu : Ic p) : Fo N p = some (Oi p) := by
 have := hu.e
 unfold Fo
 rw [Ns N p hN (by omega), hu.v, oS, bne_self_eq_false, An, J9 hN (by omega) (Co hu.v).1, oS, Av (by omega)]
 exact M3 hN h1 hu 4 0 N rfl (by omega)
theorem Ld {α β : Type} {R : β → β → Prop} {g : Nat → α → List β} : ∀ (i : Nat) (xs : List α), (∀ j x, (g j x).Pairwise R) → (∀ j k x y a b, j < k → a ∈ g j x → b ∈ g k y → R a b) → (BU g i xs).Pairwise R
 | _, [], _, _ => List.Pairwise.nil
 | i, x :: xs, h1, h2 => by
  rw [BU]
  refine uK.2 ⟨h1 i x, Ld (i + 1) xs h1 h2, fun a ha b hb => ?_⟩
  obtain ⟨j, y, _, hy⟩ := EX.1 hb
  exact h2 i (i + 1 + j) x y a b (by omega) ha hy
theorem So {t u v : Nat} {ok : Bool} {a : Aa} (h : a ∈ NO t u v ok) : a = ⟨(t : Int), (u : Int), (v : Int)⟩ := by
 unfold NO at h
 split at h
 ·cases h
 ·exact yE.1 h
theorem O2 {t u : Nat} {r : List Bool} {a : Aa} (h : a ∈ NA t u r) : ∃ v : Nat, a = ⟨(t : Int), (u : Int), (v : Int)⟩ := by
 obtain ⟨j, x, _, hy⟩ := EX.1 h
 exact ⟨_, So hy⟩
theorem RJ {t : Nat} {x : Ao} {a : Aa} (h : a ∈ Ng t x) : ∃ u v : Nat, a = ⟨(t : Int), (u : Int), (v : Int)⟩ := by
 obtain ⟨j, r, _, hy⟩ := EX.1 h
 obtain ⟨v, hv⟩ := O2 hy
 exact ⟨_, v, hv⟩
theorem L2 (p : Ab) : OC Tw (A5 p) := by
 have neg : ∀ {x y : Nat}, x < y → Lv (x : Int) (y : Int) = -1 := fun h => by unfold Lv; rw [if_pos (by omega)]
 have eq0 : ∀ x : Int, Lv x x = 0 := fun x => by unfold Lv; rw [if_neg (by omega), if_pos rfl]
 refine Ld 0 _ (fun t x => Ld 0 _ (fun u r => Ld 0 _ (fun v ok => ?_) fun v v' x y a b hv ha hb => ?_) fun u u' x y a b hv ha hb => ?_) fun t t' x y a b hv ha hb => ?_
 ·unfold NO; split
  ·exact List.Pairwise.nil
  ·exact zA6 _ _
 ·rw [So ha, So hb]
  show Q4 _ < 0
  rw [eq0, eq0, neg hv]; decide
 ·obtain ⟨_, rfl⟩ := O2 ha
  obtain ⟨_, rfl⟩ := O2 hb
  show Q4 _ < 0
  rw [eq0, neg hv]; simp [Q4]
 ·obtain ⟨_, _, rfl⟩ := RJ ha
  obtain ⟨_, _, rfl⟩ := RJ hb
  show Q4 _ < 0
  rw [neg hv]; simp [Q4]
def Um (p : Ab) (L : List (List Aa)) : List Aa := (A5 p).filter fun x => L.any fun s => SJ s x
theorem Kv {N : Nat} (hN : N ≤ 1000000) (h1 : 1000 ≤ N) (L : List (List Aa) × Int) (hL : L.1.length ≤ 200) (hs : ∀ s, s ∈ L.1 → s.length ≤ 7) (E : List Aa) (q : Nat) (x : Aa) (b : List Aa) (hx : E[q]? = some x) (j : List Aa → Option (List Aa × Int)) : ∀ (n k : Nat) (out : List Aa), L.1.length - k < n → k ≤ L.1.length → out.length + (if SJ out x = true then 0 else 1) ≤ 50 →
  Du N L E (b, (q : Int)) j n (out, (k : Int)) = j (if SJ out x = true then out else if (L.1.drop k).any (fun s => SJ s x) = true then out ++ [x] else out)
 | 0, k, out, h, _, _ => by omega
 | n + 1, k, out, h, hk, ho => by
  rw [Du]
  by_cases hlt : k < L.1.length
  ·have hy : L.1[k]? = some L.1[k] := by simp [hlt]
   have hsl := hs _ (lM hy)
   rw [AB (by simp only; omega), GT hy, List.any_cons]
   simp only [Ba, AO, hy, hx, oS, Ay (show k < 1000000 by omega)]
   rw [OJ hN (by omega)]
   simp only [oS]
   cases hi : SJ L.1[k] x
   ·rw [An, An, Kv hN h1 L hL hs E q x b hx j n (k + 1) out (by omega) (by omega) ho, uZ]
   ·rw [AN, OJ hN (by omega)]
    simp only [oS, Bool.true_or, if_true]
    cases hc : SJ out x
    ·rw [yT, AN, Ap (by simp only [zU]; unfold CP; omega)]
     have hin : SJ (out ++ [x]) x = true := Mx.2 (by simp)
     rw [hc, if_neg (by simp)] at ho
     rw [Kv hN h1 L hL hs E q x b hx j n (k + 1) (out ++ [x]) (by omega) (by omega) (by rw [hin, if_pos rfl]; simp; omega), if_pos hin, if_neg (by simp)]
    ·rw [zV, An, Kv hN h1 L hL hs E q x b hx j n (k + 1) out (by omega) (by omega) ho, if_pos hc, if_pos rfl]
  ·rw [Av (by simp only; omega), yP (by omega)]; simp
theorem Rm {N : Nat} (hN : N ≤ 1000000) (h1 : 1000 ≤ N) {p : Ab} (hu : Ic p) : Fd N p = some (if (Oi p).2 = 0 then Um p (Oi p).1 else [], (Oi p).2) := by
 have he := hu.e
 unfold Fd
 rw [QS hN h1 hu, oS]
 rcases Mv p with ⟨h, _⟩ | ⟨k, hk, h, hn, _⟩
 ·rw [h]; rfl
 rw [h]
 simp only
 rw [bne_self_eq_false, An, J9 hN (by omega) (Co hu.v).1, oS, if_pos trivial]
 have hlen : (HJ p k).length ≤ 200 := by
  have h3 := GJ (A5 p) k
  have h4 := F8 hu.e
  have h5 : (HJ p k).length ≤ (FM (A5 p) k).length := xQ _ _
  omega
 have hs : ∀ s, s ∈ HJ p k → s.length ≤ 7 := fun s hs => by
  have := (Oz.1 hs).2.1
  omega
 have hnd := Ty (L2 p)
 have key : ∀ (n i : Nat) (out : List Aa), (A5 p).length - i < n → i ≤ (A5 p).length → out = ((A5 p).take i).filter (fun x => (HJ p k).any fun s => SJ s x) →
   Dv N (HJ p k, 0) (A5 p) (fun v5 => some (v5, 0)) n (out, (i : Int)) = some (Um p (HJ p k), 0) := by
  intro n
  induction n with
  | zero => intro i out h; omega
  | succ n ih =>
   intro i out h hi ho
   rw [Dv]
   by_cases hlt : i < (A5 p).length
   ·have hx : (A5 p)[i]? = some (A5 p)[i] := by simp [hlt]
    have htk : (A5 p).take (i + 1) = (A5 p).take i ++ [(A5 p)[i]] := by rw [yV, hx]; rfl
    have hni : SJ out (A5 p)[i] = false := by
     rw [← Bool.not_eq_true, Mx, ho, uX]
     rintro ⟨hm, _⟩
     obtain ⟨q, hq, e⟩ := uS.1 hm
     have hqi : q < i := by omega
     exact (x8.1 hnd) q i (by omega) hlt hqi e
    have hol : out.length ≤ 7 := by
     rw [ho]
     refine xA (xQ _ _) ?_
     rw [List.length_take]; omega
    rw [AB (by simp only; omega)]
    refine (Kv hN h1 (HJ p k, 0) hlen hs (A5 p) i (A5 p)[i] out hx _ N 0 out (by simp only; omega) (zL _) (by split <;> omega)).trans ?_
    rw [hni, if_neg (by simp), yM, Ay (by omega)]
    refine ih (i + 1) _ (by omega) (by omega) ?_
    rw [htk, xP, ← ho]
    show (if (HJ p k).any (fun s => SJ s (A5 p)[i]) = true then _ else _) = _
    rw [List.filter_cons]
    split <;> simp
   ·rw [Av (by simp only; omega), ho, uC (by omega)]; rfl
 exact key N 0 [] (by omega) (zL _) (by simp)
theorem Zt (N s : Nat) (hs : s ≤ 10000) : A0 N (s : Int) = some [] := by
 unfold A0
 simp only [Ba]
 have e : wI .i64 ((s : Int) - wI .i64 (0 - ((0 : Nat) : Int))) = (s : Int) := by
  rw [show wI .i64 (0 - ((0 : Nat) : Int)) = 0 from by decide, B2 (by omega) (by omega)]; omega
 rw [Av (by omega), e]
 by_cases h : (0 : Int) < (s : Int)
 ·rw [AB h, Ap (by unfold CP; omega), Ap (by refine ⟨by omega, by omega, by simp⟩)]
  simp
 ·rw [Av h]
theorem Xt {N : Nat} (hN : 1000 ≤ N) (W : List (List Aa)) (hW : W.length ≤ 200) (hw : ∀ s, s ∈ W → s.length ≤ 7) : Bw N W = some W.flatten := by
 unfold Bw
 have k2 : ∀ (n i : Nat) (out : List Aa), W.length - i < n → i ≤ W.length → out.length ≤ 7 * i → AV N W (fun v9 => some v9) n (out, (i : Int)) = some (out ++ (W.drop i).flatten) := by
  intro n
  induction n with
  | zero => intro i out h; omega
  | succ n ih =>
   intro i out h hi ho
   rw [AV]
   by_cases hlt : i < W.length
   ·have hx : W[i]? = some W[i] := by simp [hlt]
    have hl := hw _ (lM hx)
    rw [AB (by simp only; omega), GT hx, List.flatten_cons]
    simp only [AO, hx, oS, Ay (show i < 1000000 by omega)]
    rw [Ap (by unfold CP; omega), ih (i + 1) _ (by omega) (by omega) (by simp; omega), yQ]
   ·rw [Av (by simp only; omega), yP (by omega), List.flatten_nil, xM]
 have k1 : ∀ (n i s : Nat), W.length - i < n → i ≤ W.length → s ≤ 7 * i → ∃ t : Nat, t ≤ 7 * W.length ∧ A9 N W (fun v2 => (A0 N v2).bind fun v7 => AV N W (fun v9 => some v9) N (v7, 0)) n ((s : Int), (i : Int)) = (A0 N (t : Int)).bind fun v7 => AV N W (fun v9 => some v9) N (v7, 0) := by
  intro n
  induction n with
  | zero => intro i s h; omega
  | succ n ih =>
   intro i s h hi hs
   rw [A9]
   by_cases hlt : i < W.length
   ·have hx : W[i]? = some W[i] := by simp [hlt]
    have hl := hw _ (lM hx)
    have e : wI .i64 ((s : Int) + (W[i].length : Int)) = ((s + W[i].length : Nat) : Int) := by rw [B2 (by omega) (by omega)]; omega
    rw [AB (by simp only; omega)]
    simp only [Ba, AO, hx, oS, Ay (show i < 1000000 by omega), e]
    rw [Av (by omega)]
    exact ih (i + 1) _ (by omega) (by omega) (by omega)
   ·refine ⟨s, by omega, ?_⟩
    rw [Av (by simp only; omega)]
 obtain ⟨t, ht, e⟩ := k1 N 0 0 (by omega) (zL _) (zL _)
 refine Eq.trans e ?_
 rw [Zt N t (by omega), oS]
 exact (k2 N 0 [] (by omega) (zL _) (zL _)).trans (by rw [yR, yM])
theorem Rl {N : Nat} (hN : N ≤ 1000000) (h1 : 1010 ≤ N) {p : Ab} (hu : Ic p) : Gq N p = some (if (Oi p).2 = 0 then Um p (Oi p).1 else [], (Oi p).2) := by
 have he := hu.e
 unfold Gq
 rw [Nf hN (by omega) hu, oS]
 rcases Mv p with ⟨h, _⟩ | ⟨k, hk, h, hn, _⟩
 ·rw [h]; rfl
 rw [h]
 simp only
 have hlen : (HJ p k).length ≤ 128 := by
  have h3 := GJ (A5 p) k
  have h4 := F8 hu.e
  have h5 : (HJ p k).length ≤ (FM (A5 p) k).length := xQ _ _
  omega
 have hs : ∀ s, s ∈ HJ p k → s.length ≤ 3 := fun s hs => by
  have := (Oz.1 hs).2.1
  omega
 rw [bne_self_eq_false, An, Xt (by omega) _ (by omega) (fun s hx => by have := hs s hx; omega), oS, if_pos trivial]
 have hfl : ∀ W : List (List Aa), (∀ s, s ∈ W → s.length ≤ 3) → W.flatten.length ≤ 3 * W.length := by
  intro W
  induction W with
  | nil => intro _; simp
  | cons w W ih =>
   intro h
   have h1 := h w vX
   have h2 := ih fun s hs => h s (xR _ hs)
   rw [List.flatten_cons, zT, zZ]; omega
 have hf := hfl _ hs
 have hcmp : ∀ x y : Aa, True → True → (fun (x : Aa × Aa) => CU N x.1 x.2) (x, y) = some (Tw x y) := fun x y _ _ => Z6 N hN (by omega) x y
 obtain ⟨r1, s1, s2, s3⟩ := Xj (cmp := fun x => CU N x.1 x.2) Sp hcmp ag (HJ p k).flatten (by omega) (fun _ _ => trivial)
 have heq : ∀ x y : Aa, True → True → (fun (x : Aa × Aa) => (some ((x.1.gt == x.2.gt) && ((x.1.gr == x.2.gr) && ((x.1.gu == x.2.gu) && true))) : Option Bool)) (x, y) = some (eP x y) := fun x y _ _ => rfl
 obtain ⟨q, r, t1, t2, t3, t4⟩ := Xs (eq := fun x => some ((x.1.gt == x.2.gt) && ((x.1.gr == x.2.gr) && ((x.1.gu == x.2.gu) && true)))) Sp RM (Aa.mk 0 0 0) heq Tt (N := N) h1 r1 (by rw [s2.length_eq]; omega) (fun _ _ => trivial) s3
 unfold BX
 rw [s1, oS, Sz]
 simp only
 rw [t1, oS, Ap t2]
 refine congrArg some (Prod.ext ?_ rfl)
 refine PV Sp _ _ t3 ((L2 p).filter _) fun x => ?_
 rw [t4, s2.mem_iff]
 unfold Um
 rw [List.mem_flatten, uX, y7]
 constructor
 ·rintro ⟨s, h1, h2⟩
  exact ⟨(Oz.1 h1).1.subset h2, s, h1, Mx.2 h2⟩
 ·rintro ⟨_, s, h1, h2⟩
  exact ⟨s, h1, Mx.1 h2⟩
theorem P9 {N : Nat} (hN : N ≤ 1000000) (l : List (List Aa)) (h : l.length < N) (hw : ∀ w, w ∈ l → w.length < N) : Fz N l l = some true := by
 unfold Fz
 rw [bne_self_eq_false, An]
 have := CX (C8 N l l fun _ => some true) l (some true) (fun _ _ => none)
  (fun n i x hx => by
   have hi := (lI.1 hx).1
   rw [C8, AB (by omega), AO, hx]
   simp only [oS]
   rw [KH hN (hw x (lM hx))]
   simp only [oS, zV, An]
   rw [Ay (by omega)]; rfl)
  (fun n => by rw [C8, Av (by simp)]) N 0 (zL _) (by omega)
 refine this.trans ?_
 rw [FU fun j x hx => rfl]; rfl
theorem PZ {N : Nat} (hN : N ≤ 1000000) (h1 : 1010 ≤ N) (haw : Ex N = some true) (d : Bz) (wd : FK d) : Di N d = some true := by
 unfold Di
 obtain ⟨p, b, e, h⟩ := Ya (N := N) hN (by omega) d wd
 rw [e]
 simp only [oS, Ba, haw, zV, An]
 cases b
 ·rfl
 have hu := h rfl
 have he := hu.e
 rw [zV, An, Nf hN (by omega) hu, QS hN (by omega) hu, SG hN (by omega) hu, Rl hN h1 hu, Rm hN (by omega) hu]
 simp only [oS, bne_self_eq_false, An]
 have hul : (Um p (Oi p).1).length ≤ 7 := xA (xQ _ _) he
 unfold VX
 rcases Mv p with ⟨h, _⟩ | ⟨k, hk, h, hn, _⟩
 ·rw [h] at hul ⊢
  simp only
  rw [if_neg (by decide), if_neg (by decide), bne_self_eq_false, An, P9 hN [] (by simp; omega) (by simp), oS, zV, An, KH hN (by simp; omega)]
  rfl
 ·have hlen : (HJ p k).length ≤ 128 := by
   have h3 := GJ (A5 p) k
   have h4 := F8 hu.e
   have h5 : (HJ p k).length ≤ (FM (A5 p) k).length := xQ _ _
   omega
  have hs : ∀ s, s ∈ HJ p k → s.length ≤ 3 := fun s hs => by
   have := (Oz.1 hs).2.1
   omega
  rw [h] at hul ⊢
  simp only at hul ⊢
  simp only [if_true]
  rw [bne_self_eq_false, An, P9 hN _ (by omega) (fun w hw => by have := hs w hw; omega), oS, zV, An, KH hN (by omega)]
  simp only [oS, zV, An, beq_self_eq_true, AN]
  cases hr : HJ p k with
  | nil => exact absurd hr hn
  | cons s l =>
   have hsl := hs s (by rw [hr]; exact vX)
   have i0 : Bh (s :: l) 0 = some s := AO _ 0
   rw [i0, oS, List.headD_cons, KH hN (by omega)]
   rfl
theorem OA (d : Bz) (wd : FK d) : Di 2000 d = some true := PZ (by omega) (by omega) Te d wd
end Go.Lift
