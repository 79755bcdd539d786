/- Lemmas for CoreCheckCardSaid, which YtbfklmmnpdifaaaGreatDoorFinC7 proves. -/
import Derived.Test.YtbfklmmnpdifaaaGreatDoorMReg3
import Derived.KernelRfl
open Bool renaming and_eq_true → zI, false_and → vM, false_or → vO, not_false → yT, not_true → yA, true_and → yP
open Int renaming toNat_natCast → zT
open List renaming all_cons → y8, all_eq_true → zG, any_eq_true → xF, append_assoc → yS, append_nil → x8, cons_append → uQ, drop_eq_nil_of_le → zL, drop_zero → zX, getElem?_append_right → yG, getElem?_eq_none → yV, getElem?_map → zD, getElem?_set → xB, getElem_mem → xQ, length_append → zY, length_cons → yC, length_map → zO, length_nil → yL, length_singleton → yB, map_append → xE, map_cons → yI, map_nil → uP, mem_append → yE, mem_cons → zQ, mem_cons_of_mem → xZ, mem_iff_getElem? → zU, mem_map → zW, mem_singleton → yR, nil_append → uF, nodup_cons → xR, pairwise_cons → uK, pairwise_iff_getElem → uI, set_cons_succ → vH
open Nat renaming eq_zero_or_pos → uS, le_refl → zN, le_trans → xU, sub_self → vC, zero_add → zC, zero_le → zK
open Option renaming getD_some → yF, map_some → y7
namespace Go.Lift
open IntKind renaming wrap → wI
open Option renaming bind_some → oS
open List renaming mem_of_getElem? → lM
open List renaming getElem?_eq_some_iff → lI
open List renaming getD_eq_getElem?_getD → lD
open Go
theorem Lu {N : Nat} (hN : N ≤ 1000000) (h20 : 100 ≤ N) {p : Aa} (hv : BB p = 0) {most : Nat} (hmo : most ≤ 20000) (j : List AD → Option (List AD × Int)) :
  ∀ (n i : Nat) (pl : List AD) (q : List (Ab × Int)) (l' : List Km), i ≤ pl.length → (∀ n, n ∈ pl.map EH → BV p n.1 ∧ A6 p n.1 = true) → pl.length ≤ most → Pd p q (pl.map EH) → Nf p i [] pl → (∀ (b : Nat) nb, i ≤ b → pl[b]? = some nb → nb.fI = []) →
   Bfs.go (Jl p) most n i (pl.map EH) = some l' →
   ∃ pl', DS N p j n (pl, MD q, (i : Int)) = j pl' ∧ pl'.map EH = l' ∧ Nf p l'.length [] pl'
 | 0, i, pl, q, l', _, _, _, _, _, _, h => by cases h
 | n + 1, i, pl, q, l', hi, hA, hlm, hpl, hnx, hem, h => by
  obtain ⟨hp, _⟩ := CM hv
  simp only [Bfs.go] at h
  rw [DS]
  by_cases h1 : i < pl.length
  ·obtain ⟨nd, hx⟩ := Bfs.get_ex h1
   have hxl : (pl.map EH)[i]? = some (EH nd) := by rw [zD, hx]; rfl
   have hm := (hA _ (lM hxl)).1
   have hm : BV p nd.fV := hm
   rw [hxl] at h
   simp only at h
   rw [Az (by simp only; omega)]
   simp only [AT, hx, oS]
   rw [show (Ab.mk nd.fV.fL nd.fV.fI nd.fV.fN) = nd.fV from rfl, Qv N hN h20 hv hm]
   simp only [oS, bne_self_eq_false, Ao]
   have hsl := Mt hp nd.fV
   cases hin : Bfs.inner most i (Jl p nd.fV) (pl.map EH) with
   | none =>
    have hin' : Bfs.inner most i (Jl p (EH nd).1) (pl.map EH) = none := hin
    rw [hin'] at h; cases h
   | some l1 =>
    have hin' : Bfs.inner most i (Jl p (EH nd).1) (pl.map EH) = some l1 := hin
    rw [hin'] at h
    simp only [oS] at h
    obtain ⟨pl1, q1, e1, e2, e3, e4, e5⟩ := HN hN h20 hv hm hmo (v2 := (pl, MD q, (i : Int))) rfl (Fk p nd.fV) 0 (fun s hs => hs) (by omega) (fun (v9 : (List AD) × (List (ByteArray × Int))) =>
     DS N p j n (v9.1, v9.2, (wI .i64 ((i : Int) + 1)))) N 0 pl q l1 (zK _) (by omega) ⟨nd, hx, rfl⟩ hA hlm hpl (by
      rw [List.take_zero]; exact hnx) ⟨nd, hx, by rw [hem i nd (zN _) hx]; exact zN _⟩ hin
    have e1' : Cy N p (pl, MD q, (i : Int)) (Fk p nd.fV, 0) (fun (v9 : (List AD) × (List (ByteArray × Int))) =>
     DS N p j n (v9.1, v9.2, (wI .i64 ((i : Int) + 1)))) N (pl, MD q, 0) = _ := e1
    rw [e1']
    simp only
    obtain ⟨k1, k2⟩ := Ln hin (fun q hq => Ve hp hm hq) hA
    have hl1 : l1.length = pl1.length := by rw [← e2, zO]
    have hil : i < pl1.length := by rw [← hl1]; exact Bfs.lt_get (k2 _ _ hxl)
    rw [AB (by have := Bfs.inner_len _ _ _ (by rw [zO]; exact hlm) hin; omega)]
    refine Lu hN h20 hv hmo j n (i + 1) pl1 q1 l' (by omega) (by rw [e2]; exact k1) (by rw [← hl1]; exact Bfs.inner_len _ _ _ (by rw [zO]; exact hlm) hin) (by rw [e2]; exact e3) ?_ ?_ (by rw [e2]; exact h)
    ·have hmi : ∀ nb, pl1[i]? = some nb → nb.fV = nd.fV := fun nb hb => by
      have := k2 _ _ hxl
      rw [← e2, zD, hb] at this
      exact congrArg (fun n : Km => n.1) (Option.some.inj this)
     constructor
     ·intro b nb hb r hr
      obtain ⟨s, y, g1, g2⟩ := e4.to b nb hb r hr
      refine ⟨s, y, .inl ?_, g2⟩
      rcases g1 with g1 | ⟨g1, g3⟩
      ·exact ⟨by omega, g1.2⟩
      ·subst g1; exact ⟨by omega, by rw [hmi nb hb]; exact g3⟩
     ·intro b nb hb s y hs
      refine e4.of b nb hb s y ?_
      rcases hs with ⟨h2, h3⟩ | ⟨_, h3⟩
      ·by_cases hbi : b < i
       ·exact .inl ⟨hbi, h3⟩
       ·have : b = i := by omega
        subst this
        exact .inr ⟨rfl, by rw [hmi nb hb] at h3; exact h3⟩
      ·cases h3
    ·intro b nb hb hb2
     rcases e5 b nb hb2 (by omega) with h2 | h2
     ·exact hem b nb (by omega) h2
     ·exact h2
  ·have hi' : i = pl.length := by omega
   subst hi'
   rw [yV (by rw [zO]; exact zN _)] at h
   have h : some (pl.map EH) = some l' := h
   cases h
   rw [Av (by simp)]
   exact ⟨pl, rfl, rfl, by rw [zO]; exact hnx⟩
theorem PW {N : Nat} (hN : N ≤ 1000000) (h20 : 100 ≤ N) {p : Aa} (hv : BB p = 0) {m : Ab} (hm : BV p m) (hr : A6 p m = true) {most : Nat} (hmo : most ≤ 20000) (h1 : 1 ≤ most) {l : List Km} (hs : Kk p m most N = some l) :
  ∃ pl, G9 N p m = some (pl, 0) ∧ pl.map EH = l ∧ Nf p l.length [] pl := by
 obtain ⟨hp, _⟩ := CM hv
 unfold G9
 rw [XK N hN h20 hp hm]
 simp only [oS]
 obtain ⟨pl, e1, e2, e3⟩ := Lu hN h20 hv hmo (fun (v3 : (List AD)) => some (v3, 0)) N 0 [AD.mk m (-1) NY []] [(m, 0)] l (zK _) (VC hm hr) h1 (by
  refine ⟨fun e he => by rw [yR.1 he]; exact hm, ?_, ?_⟩
  ·intro x _ hq n hn
   have hn : n = (m, -1, NY) := yR.1 hn
   simp only [J1] at hq
   split at hq
   ·cases hq
   ·rename_i h; rw [hn]; exact fun e => h e.symm
  ·intro x r _ hq
   simp only [J1] at hq
   split at hq
   ·rename_i h
    cases hq; right; exact ⟨0, -1, NY, rfl, by rw [h]; rfl⟩
   ·cases hq) (by
  constructor
  ·intro b nb hb r hr
   have := Bfs.lt_get hb
   simp at this; subst this
   cases hb; cases hr
  ·intro b nb hb s y hs
   rcases hs with h | h
   ·omega
   ·cases h.2) (fun b nb _ hb => by
    have := Bfs.lt_get hb
    simp at this; subst this
    cases hb; rfl) hs
 refine ⟨pl, ?_, e2, e3⟩
 exact e1
theorem VD {α : Type} (xs : List α) (x y : α) : ∀ (A B : List α), ((A ++ x :: (xs ++ y :: B)).set A.length y).set (A.length + 1 + xs.length) x = A ++ y :: (xs ++ x :: B)
 | [], B => by
  rw [uF, yL, List.set_cons_zero, show 0 + 1 + xs.length = xs.length + 1 from by omega, vH, List.set_append_right _ _ (zN _), vC]
  rfl
 | a :: A, B => by
  have := VD xs x y A B
  simp only [uQ, yC]
  rw [vH, show A.length + 1 + 1 + xs.length = (A.length + 1 + xs.length) + 1 from by omega, vH, this]
theorem Ts (N : Nat) (j : List Ae → Option (List Ae)) : ∀ (n : Nat) (xs A B : List Ae), xs.length < 2 * n → A.length + xs.length ≤ 100000 →
  Bo N j n (A ++ (xs ++ B), (A.length : Int), ((A.length + xs.length : Nat) : Int) - 1) = j (A ++ (xs.reverse ++ B))
 | 0, xs, A, B, h, _ => by omega
 | n + 1, xs, A, B, h, h2 => by
  rw [Bo]
  rcases xs with _ | ⟨x, xs⟩
  ·rw [Av (by simp only [yL]; omega)]; rfl
  ·rcases Bfs.list_snoc xs with rfl | ⟨xs, y, rfl⟩
   ·rw [Av (by simp only [yC, yL]; omega)]; rfl
   ·simp only [yC, zY, yL] at h h2
    rw [Az (by simp only [yC, zY, yL]; omega)]
    have e1 : (((A.length + (x :: (xs ++ [y])).length : Nat) : Int) - 1) = ((A.length + 1 + xs.length : Nat) : Int) := by simp only [yC, zY, yL]; omega
    have e2 : A ++ (x :: (xs ++ [y]) ++ B) = A ++ x :: (xs ++ y :: B) := by simp
    simp only [e1, e2, AT, zT]
    have g1 : (A ++ x :: (xs ++ y :: B))[A.length + 1 + xs.length]? = some y := by
     rw [yG (by omega), show A.length + 1 + xs.length - A.length = xs.length + 1 from by omega, List.getElem?_cons_succ, yG (zN _), vC]; rfl
    have g2 : (A ++ x :: (xs ++ y :: B))[A.length]? = some x := by
     rw [yG (zN _), vC]; rfl
    rw [g1, g2]
    simp only [oS]
    rw [xB, if_neg (by omega), g1]
    simp only [oS]
    rw [VD, AB (by omega), show wI .i64 (((A.length + 1 + xs.length : Nat) : Int) - 1) = (((A ++ [y]).length + xs.length : Nat) : Int) - 1 from by
     rw [Ch (by omega) (by omega)]; simp only [zY, yB]]
    have := Ts N j n xs (A ++ [y]) (x :: B) (by omega) (by simp only [zY, yB]; omega)
    rw [show ((A.length + 1 : Nat) : Int) = (((A ++ [y]).length : Nat) : Int) from by simp]
    rw [show A ++ y :: (xs ++ x :: B) = (A ++ [y]) ++ (xs ++ x :: B) from by simp, this]
    simp
theorem U8 (N : Nat) (h20 : 100 ≤ N) (l : List Ae) (h : l.length < 2 * N) (h2 : l.length ≤ 100000) : BH N l = some l.reverse := by
 unfold BH
 rw [Ch (by omega) (by omega)]
 have := Ts N (fun v2 => some v2) N l [] [] h (by simpa using h2)
 simp only [uF, x8, yL, zC] at this
 exact this
theorem MZ {p : Aa} {m : Ab} {l : List Km} {ws : List (List Ae)} (h : bv p m l ws) (N : Nat) {pl : List AD} (hpl : pl.map EH = l) (j : List Ae → Option (List Ae)) : ∀ (n k : Nat) {w acc : List Ae}, k < n → ws[k]? = some w → acc.length + k ≤ 20000 →
  Gm N pl j n ((k : Int), acc) = j (acc ++ w.reverse)
 | 0, k, _, _, hk, _, _ => by omega
 | n + 1, k, w, acc, hk, hw, ha => by
  obtain ⟨⟨x, f, s⟩, hx⟩ := Bfs.get_ex (l := l) (k := k) (by rw [← h.inv.len]; exact Bfs.lt_get hw)
  have hx2 := hx
  rw [← hpl, zD] at hx2
  cases hnd : pl[k]? with
  | none => rw [hnd] at hx2; cases hx2
  | some nd =>
   rw [hnd] at hx2
   have hx2 : EH nd = (x, f, s) := Option.some.inj hx2
   have hf : nd.fO = f := congrArg (fun n : Km => n.2.1) hx2
   have hs : nd.fZ = s := congrArg (fun n : Km => n.2.2) hx2
   rw [Gm]
   simp only [AT, hnd, oS]
   rw [hf]
   rcases uS k with rfl | hk0
   ·obtain ⟨s0, hs0⟩ := h.inv.root; rw [hs0] at hx; cases hx
    rw [h.inv.root'] at hw; cases hw
    rw [Av (by decide)]; simp
   ·obtain ⟨i, y', g', t', w', e1, e2, e3, e4, e5, e6, e7⟩ := h.inv.par k _ _ _ hk0 hx
    rw [e6] at hw; cases hw
    subst e1
    rw [Az (Int.natCast_nonneg i), Au (by simp [Dh]; omega)]
    have := MZ h N hpl j n i (w := w') (acc := acc ++ [Ae.mk nd.fZ.fP nd.fZ.fR nd.fZ.fW]) (by omega) e5 (by simp; omega)
    rw [this, show (Ae.mk nd.fZ.fP nd.fZ.fR nd.fZ.fW) = s from hs]
    simp
theorem Vr {p : Aa} {l : List Km} {k : Nat} (h : LM p l = some k) : k < l.length := by
 obtain ⟨⟨x, f, s, h1, _⟩, _⟩ := Rs h
 exact Bfs.lt_get h1
theorem SM {N : Nat} (hN : N ≤ 1000000) (h20 : 100 ≤ N) {p : Aa} (hv : BB p = 0) {m : Ab} (hm : BV p m) (hr : A6 p m = true) {most : Nat} (hmo : most ≤ 20000) (h1 : 1 ≤ most) {l : List Km} (hs : Kk p m most N = some l) (hl : l.length < N) {ws : List (List Ae)} (h : bv p m l ws) :
  FZ N p m = some (Qh p l ws) := by
 obtain ⟨hp, _⟩ := CM hv
 have hl2 : l.length ≤ 20000 := xU (Bfs.go_len _ _ _ _ (by simpa using h1) hs) hmo
 unfold FZ
 rw [GY N p m hN h20 (K2 hm) (Iw hv hm), hr]
 simp only [oS, bne_self_eq_false, Ao, yA]
 obtain ⟨pl, e1, e2, e3⟩ := PW hN h20 hv hm hr hmo h1 hs
 rw [e1]
 simp only [oS, bne_self_eq_false, Ao]
 have hpll : pl.length = l.length := by rw [← e2, zO]
 unfold Cu
 have := Cm (AZ N pl ((fun (x : AD) => Fd N x p.fJ p.fQ p.fU p.fK)) fun _ => some (-1)) l (some (-1)) (fun i n => (if GQ p n.1 = true then some i else none).map fun (k : Nat) => (k : Int))
  (fun n i nd hnd => by
   have hi := (lI.1 hnd).1
   have hnd2 := hnd
   rw [← e2, zD] at hnd2
   cases hq : pl[i]? with
   | none => rw [hq] at hnd2; cases hnd2
   | some nq =>
    rw [hq] at hnd2
    have hnd2 : EH nq = nd := Option.some.inj hnd2
    rw [AZ, Az (by omega), AT, hq]
    simp only [oS]
    have hok := (h.ok _ _ _ _ (show l[i]? = some (nd.1, nd.2.1, nd.2.2) from hnd)).1
    have hM : nq.fV = nd.1 := congrArg (fun n : Km => n.1) hnd2
    unfold Fd
    simp only
    rw [show (Aa.mk p.fJ p.fQ p.fU p.fK) = p from rfl, show (Ab.mk nq.fV.fL nq.fV.fI nq.fV.fN) = nd.1 from hM, OX N p nd.1 hN h20 (K2 hok), AB (by omega)]
    simp only [oS]
    cases hg : GQ p nd.1 <;> rfl)
  (fun n => by rw [AZ, Av (by omega)]) N 0 (zK _) (by omega)
 have e3 : AZ N pl ((fun (x : AD) => Fd N x p.fJ p.fQ p.fU p.fK)) (fun _ => some (-1)) N 0 = _ := this
 rw [e3, zX, N4]
 unfold Qh
 cases hg : LM p l with
 | none =>
  unfold LM at hg
  rw [hg]; rfl
 | some k =>
  have hk := Vr hg
  unfold LM at hg
  rw [hg]
  simp only [y7, BG, oS]
  rw [Av (by omega)]
  obtain ⟨w, hw⟩ := Bfs.get_ex (l := ws) (k := k) (by rw [h.inv.len]; exact hk)
  have e4 := MZ h N e2 (fun (v2 : (List Ae)) => (BH N v2).bind fun v8 => some v8) N k (w := w) (acc := []) (by omega) hw (by simp; omega)
  unfold Kx
  have hwl := Sa h (k + 1) k (Nat.lt_succ_self k) hw
  rw [e4, uF, U8 N h20 _ (by rw [List.length_reverse]; omega) (by rw [List.length_reverse]; omega), List.reverse_reverse]
  simp only [oS]
  rw [lD, hw]; rfl
def ZZ (p : Aa) (m : Ab) (w : List Ae) : Prop := MY p m w = true ∧ Bfs.Dig Nl 100 w ∧ ∀ u, MY p m u = true → Bfs.code Nl 100 w ≤ Bfs.code Nl 100 u
theorem VF {p : Aa} (hp : Bg p) : ∀ {w : List Ae} {m x : Ab}, NM p m w = some x → Bfs.Dig Nl 100 w ∧ ∀ s, s ∈ w → s ∈ Fe p
 | [], _, _, _ => ⟨fun s hs => (by cases hs), fun s hs => (by cases hs)⟩
 | s :: w, m, x, h => by
  simp only [NM] at h
  cases hs : MR p m s with
  | none => rw [hs] at h; cases h
  | some z =>
   rw [hs] at h
   obtain ⟨h1, h2⟩ := VF hp h
   have h3 := (HV (Mo.1 (OG hs)).1).1
   refine ⟨fun t ht => ?_, fun t ht => ?_⟩
   ·rcases zQ.1 ht with rfl | ht
    ·exact (Pt hp h3).2
    ·exact h1 t ht
   ·rcases zQ.1 ht with rfl | ht
    ·exact h3
    ·exact h2 t ht
theorem Wh {p : Aa} (hp : Bg p) {m : Ab} {l : List Km} {ws : List (List Ae)} (h : bv p m l ws) :
  ((Qh p l ws).2 = 0 ∧ ZZ p m (Qh p l ws).1 ∧ (Qh p l ws).1.length ≤ l.length) ∨ (Qh p l ws = ([], 14) ∧ ∀ u, MY p m u = false) := by
 unfold Qh
 cases hg : LM p l with
 | none =>
  right
  refine ⟨rfl, fun u => ?_⟩
  cases hu : MY p m u
  ·rfl
  ·obtain ⟨x, h1, h2⟩ := RN hu
   obtain ⟨k, f, s, w, g1, g2, g3⟩ := Q8 hp h h1
   rw [Wv hg g1] at h2; cases h2
 | some k =>
  left
  obtain ⟨⟨x, f, s, h1, h2⟩, h3⟩ := Rs hg
  have hk := Vr hg
  obtain ⟨w, hw⟩ := Bfs.get_ex (l := ws) (k := k) (by rw [h.inv.len]; exact hk)
  have hwe : ws.getD k [] = w := by rw [lD, hw]; rfl
  simp only [hwe]
  have hrun := YJ hp h h1 hw
  refine ⟨trivial, ⟨?_, (VF hp hrun).1, ?_⟩, ?_⟩
  ·unfold MY; rw [hrun]; exact h2
  ·intro u hu
   obtain ⟨y, g1, g2⟩ := RN hu
   obtain ⟨k', f', s', w', e1, e2, e3⟩ := Q8 hp h g1
   refine xU ?_ e3
   by_cases hkk : k' < k
   ·rw [h3 k' y f' s' hkk e1] at g2; cases g2
   ·rcases Nat.lt_or_eq_of_le (Nat.le_of_not_lt hkk) with h4 | h4
    ·exact Nat.le_of_lt (h.inv.inc _ _ _ _ hw e2 h4)
    ·subst h4; rw [hw] at e2; cases e2; exact zN _
  ·have := Sa h (k + 1) k (Nat.lt_succ_self k) hw
   omega
def Ug (p : Aa) (m : Ab) (r : List Ae × Int) : Prop := (r.2 = 0 ∧ ZZ p m r.1 ∧ r.1.length ≤ 120) ∨ (r = ([], 14) ∧ ∀ u, MY p m u = false)
def Ma (p : Aa) : Prop := A6 p (EU p) = false ∨ ∃ l, Kk p (EU p) 120 1000 = some l
def Qa (p : Aa) (r : List Ae × Int) : Prop := (A6 p (EU p) = false ∧ r = ([], 13)) ∨ (A6 p (EU p) = true ∧ Ug p (EU p) r)
theorem Qy {α : Type} [DecidableEq α] : ∀ (L S : List α), L.Nodup → (∀ x, x ∈ L → x ∈ S) → L.length ≤ S.length
 | [], S, _, _ => zK _
 | x :: L, S, hn, hs => by
  obtain ⟨h1, h2⟩ := xR.1 hn
  have hx := hs x (by simp)
  have := Qy L (S.erase x) h2 (fun y hy => by
   have hne : y ≠ x := fun e => h1 (e ▸ hy)
   exact (List.mem_erase_of_ne hne).2 (hs y (xZ _ hy)))
  rw [List.length_erase_of_mem hx] at this
  have := List.length_pos_of_mem hx
  simp only [yC]
  omega
def LE (l : List Km) : List Ab := l.map fun n => n.1
theorem Yp {i : Nat} {l : List Km} {q : Ae × Ab} (h : (LE l).Nodup) : (LE (Bfs.put i l q)).Nodup ∧ ∀ x, x ∈ LE (Bfs.put i l q) → x ∈ LE l ∨ x = q.2 := by
 unfold Bfs.put
 split
 ·exact ⟨h, fun x hx => .inl hx⟩
 ·rename_i hn
  unfold LE at h ⊢
  rw [xE]
  refine ⟨?_, ?_⟩
  ·rw [List.nodup_append]
   refine ⟨h, by simp, ?_⟩
   intro a ha b hb
   have hb : b = q.2 := by simpa using hb
   subst hb
   intro e
   subst e
   obtain ⟨n, hn1, hn2⟩ := zW.1 ha
   exact hn (xF.2 ⟨n, hn1, decide_eq_true hn2⟩)
  ·intro x hx
   rcases yE.1 hx with hx | hx
   ·exact .inl hx
   ·exact .inr (by simpa using hx)
theorem OU {S : List Ab} {most i : Nat} (hS : S.length ≤ most) : ∀ (qs : List (Ae × Ab)) (l : List Km), (LE l).Nodup → (∀ x, x ∈ LE l → x ∈ S) → (∀ q, q ∈ qs → q.2 ∈ S) →
  ∃ l', Bfs.inner most i qs l = some l' ∧ (LE l').Nodup ∧ (∀ x, x ∈ LE l' → x ∈ S) ∧ l.length ≤ l'.length
 | [], l, h1, h2, _ => ⟨l, rfl, h1, h2, zN _⟩
 | q :: qs, l, h1, h2, h3 => by
  obtain ⟨g1, g2⟩ := Yp (i := i) (q := q) h1
  have g3 : ∀ x, x ∈ LE (Bfs.put i l q) → x ∈ S := fun x hx => (g2 x hx).elim (h2 x) fun e => by rw [e]; exact h3 q (by simp)
  have := Qy _ S g1 g3
  unfold LE at this
  rw [zO] at this
  simp only [Bfs.inner]
  rw [if_neg (by omega)]
  obtain ⟨l', e1, e2, e3, e4⟩ := OU hS qs (Bfs.put i l q) g1 g3 (fun q hq => h3 q (xZ _ hq))
  refine ⟨l', e1, e2, e3, xU ?_ e4⟩
  unfold Bfs.put; split
  ·exact zN _
  ·simp
theorem S3 {p : Aa} {S : List Ab} {most : Nat} (hS : S.length ≤ most) (hc : ∀ x, x ∈ S → ∀ q, q ∈ Jl p x → q.2 ∈ S) : ∀ (n i : Nat) (l : List Km), (LE l).Nodup → (∀ x, x ∈ LE l → x ∈ S) → i ≤ l.length → most < n + i → ∃ l', Bfs.go (Jl p) most n i l = some l'
 | 0, i, l, h1, h2, hi, hn => by
  have := Qy _ S h1 h2
  unfold LE at this
  rw [zO] at this
  omega
 | n + 1, i, l, h1, h2, hi, hn => by
  simp only [Bfs.go]
  cases hx : l[i]? with
  | none => exact ⟨l, rfl⟩
  | some nd =>
   have hS2 : nd.1 ∈ S := h2 _ (zW.2 ⟨nd, lM hx, rfl⟩)
   obtain ⟨l1, e1, e2, e3, e4⟩ := OU (i := i) hS (Jl p nd.1) l h1 h2 (hc _ hS2)
   simp only [e1, oS]
   have := Bfs.lt_get hx
   exact S3 hS hc n (i + 1) l1 e2 e3 (by omega) (by omega)
theorem bG {p : Aa} {t : An} (hp : Bg p) (ht : OI p t) : t.fT.length ≤ 6 ∧ ∀ row, row ∈ t.fT → row.length ≤ 6 := by
 have h1 := KE hp.ver ht.from0.1 ht.from0.2
 refine ⟨?_, fun row hr => by have := ht.reR row hr; omega⟩
 by_cases hk : t.fP = 4
 ·have := ht.reL hk; omega
 ·rw [ht.reN hk]; simp
theorem TS (N : Nat) {l : List (List Bool)} (h : l.length ≤ 100000) : C8 N l = some l := by
 unfold C8
 rw [Au (by simp only [yL]; unfold Dh; omega)]; rfl
theorem Vl (N : Nat) {l : List Bool} (h : l.length ≤ 100000) : CT N l = some l := by
 unfold CT
 rw [Au (by simp only [yL]; unfold Dh; omega)]; rfl
theorem YS (N : Nat) {l : List Int} (h : l.length ≤ 100000) : Bb N l = some l := by
 unfold Bb
 rw [Au (by simp only [yL]; unfold Dh; omega)]; rfl
theorem OV {α : Type} {l : List α} {i : Nat} {x : α} (h : l[i]? = some x) : l.set i x = l := by
 apply List.ext_getElem?
 intro k
 rw [xB]
 have := (lI.1 h).1
 by_cases e : i = k
 ·subst e; rw [if_pos rfl, if_pos this, h]
 ·rw [if_neg e]
structure cD (N : Nat) (p : Aa) : Prop where
 v : p.fJ.length < N
 n : p.fQ.length < N
 t : p.fU.length < N
 s : p.fK.length < N
 m : ∀ t, t ∈ p.fK → t.fX.length < N ∧ (∀ row, row ∈ t.fX → row.length < N) ∧ t.fT.length < N ∧ ∀ row, row ∈ t.fT → row.length < N
def bO (p : Aa) : Prop := A6 p (EU p) = true ∧ ∃ u, MY p (EU p) u = true
theorem V6 {N : Nat} (hN : N ≤ 1000000) (h1 : 1000 ≤ N) {p : Aa} (hv : BB p = 0) {m : Ab} (hm : BV p m) (hr : A6 p m = true) {l : List Km} (hs : Kk p m 120 1000 = some l) :
  ∃ r, FZ N p m = some r ∧ Ug p m r := by
 obtain ⟨hp, _⟩ := CM hv
 obtain ⟨ws, h⟩ := XM hp hm hr hs
 have hl : l.length ≤ 120 := Bfs.go_len _ _ _ _ (by simp) hs
 refine ⟨_, SM (N := N) (by omega) (by omega) hv hm hr (by omega) (by omega) (Bfs.go_more (zN _) _ _ _ _ _ h1 hs) (by omega) h, ?_⟩
 rcases Wh hp h with ⟨k1, h2, h3⟩ | k1
 ·exact .inl ⟨k1, h2, by omega⟩
 ·exact .inr k1
theorem U7 {N : Nat} (hN : N ≤ 1000000) (h1 : 1000 ≤ N) {p : Aa} (hv : BB p = 0) {m : Ab} (hm : BV p m) (hr : A6 p m = false) : FZ N p m = some ([], 13) := by
 unfold FZ
 rw [GY N p m (by omega) (by omega) (K2 hm) (Iw hv hm), hr]; rfl
theorem Og {N : Nat} (hN : N ≤ 1000000) (h1 : 1000 ≤ N) {p : Aa} (hv : BB p = 0) (hl : Ma p) : ∃ r, GG N p = some r ∧ Qa p r := by
 have hm := NB hv
 unfold GG
 rw [NL N p (by omega) (by omega), if_pos hv]
 simp only [oS, hv, bne_self_eq_false, Ao]
 cases hr : A6 p (EU p)
 ·rw [U7 hN h1 hv hm hr]
  exact ⟨_, rfl, .inl ⟨hr, rfl⟩⟩
 ·rcases hl with h | ⟨l, hs⟩
  ·rw [hr] at h; cases h
  ·obtain ⟨r, e1, e3⟩ := V6 hN h1 hv hm hr hs
   rw [e1]
   exact ⟨r, rfl, .inr ⟨hr, e3⟩⟩
theorem PJ {p : Aa} {r : List Ae × Int} (h : Qa p r) : ((r.2 == 0) = true ↔ bO p) ∧ (r.2 == 3) = false ∧ (r.2 = 0 ∨ r.2 = 13 ∨ r.2 = 14) := by
 rcases h with ⟨h1, h2⟩ | ⟨h1, ⟨h2, h3, _⟩ | ⟨h2, h3⟩⟩
 ·subst h2
  refine ⟨⟨(fun h => by cases h), fun h => ?_⟩, rfl, .inr (.inl rfl)⟩
  rw [h.1] at h1; cases h1
 ·rw [h2]
  exact ⟨⟨fun _ => ⟨h1, _, h3.1⟩, fun _ => rfl⟩, rfl, .inl rfl⟩
 ·subst h2
  refine ⟨⟨(fun h => by cases h), fun h => ?_⟩, rfl, .inr (.inr rfl)⟩
  obtain ⟨_, u, hu⟩ := h
  rw [h3 u] at hu; cases hu
end Go.Lift
namespace Go.Lift
open IntKind renaming wrap → wI
open Go
theorem Y3 {n : Nat} (h : n < 18446744073709551616) : wI .u64 (n : Int) = (n : Int) := by
 show ((n : Int) % (18446744073709551616 : Int)) = n
 exact Int.emod_eq_of_lt (by omega) (by omega)
structure Or {α : Type} (c : α → α → Int) : Prop where
 anti : ∀ x y, c y x = - c x y
 le : ∀ x y z, c x y ≤ 0 → c y z ≤ 0 → c x z ≤ 0
namespace Or
variable {α : Type} {c : α → α → Int}
theorem self (O : Or c) (x : α) : c x x = 0 := by have := O.anti x x; omega
theorem lt1 (O : Or c) {x y z : α} (h : c x y < 0) (h2 : c y z ≤ 0) : c x z < 0 := by
 have h3 := O.le x y z (by omega) h2
 by_cases h0 : c x z = 0
 ·have h4 := O.anti x z
  have h5 := O.le y z x h2 (by omega)
  have h6 := O.anti x y
  omega
 ·omega
theorem lt2 (O : Or c) {x y z : α} (h : c x y ≤ 0) (h2 : c y z < 0) : c x z < 0 := by
 have h3 := O.le x y z h (by omega)
 by_cases h0 : c x z = 0
 ·have h4 := O.anti x z
  have h5 := O.le z x y (by omega) h
  have h6 := O.anti y z
  omega
 ·omega
theorem or {d : α → α → Int} (O : Or c) (Q : Or d) : Or (fun x y => if c x y = 0 then d x y else c x y) := by
 refine ⟨fun x y => ?_, fun x y z => ?_⟩
 ·have := O.anti x y
  by_cases h : c x y = 0
  ·simp only [h, show c y x = 0 by omega, if_true]; exact Q.anti x y
  ·simp only [h, show ¬ c y x = 0 by omega, if_false]; exact this
 ·intro h1 h2
  have a1 : c x y ≤ 0 := by revert h1; split <;> omega
  have a2 : c y z ≤ 0 := by revert h2; split <;> omega
  have a3 := O.le x y z a1 a2
  by_cases h0 : c x z = 0
  ·have b1 : c x y = 0 := by
    by_cases q : c x y = 0
    ·exact q
    ·have := O.lt1 (show c x y < 0 by omega) a2; omega
   have b2 : c y z = 0 := by
    by_cases q : c y z = 0
    ·exact q
    ·have := O.lt2 a1 (show c y z < 0 by omega); omega
   simp only [b1, b2, h0, if_true] at h1 h2 ⊢
   exact Q.le x y z h1 h2
  ·simp only [h0, if_false]; exact a3
end Or
section
variable {α : Type} {P : α → Prop} {cmp : α × α → Option Int} {bq : α → α → Bool} {c : α → α → Int}
end
section
variable {α : Type} {c : α → α → Int}
abbrev OA (c : α → α → Int) (l : List α) : Prop := l.Pairwise (fun x y => c x y < 0)
end
theorem UM : Or E7 := ⟨fun a b => Q9 a b, VQ⟩
theorem Or.pull {α β : Type} {c : α → α → Int} (O : Or c) (f : β → α) : Or (fun x y => c (f x) (f y)) := ⟨fun _x _y => O.anti _ _, fun _x _y _z => O.le _ _ _⟩
theorem U4 : Or G4 := by
 have := (UM.pull Ab.fL).or ((UM.pull Ab.fI).or (UM.pull Ab.fN))
 have e : G4 = fun (x y : Ab) => if E7 x.fL y.fL = 0 then (if E7 x.fI y.fI = 0 then E7 x.fN y.fN else E7 x.fI y.fI) else E7 x.fL y.fL := by
  funext x y
  unfold G4 Ut Ut Ut Ut
  repeat' split
  all_goals (first | rfl | omega | simp_all)
 rw [e]; exact this
end Go.Lift
namespace Go.Lift
open Go
variable {α : Type}
end Go.Lift
namespace Go.Lift
open Go
section
variable {α : Type} {c : α → α → Int}
variable {P : α → Prop} {eq : α × α → Option Bool} {b : α → α → Bool}
end
end Go.Lift
namespace Go.Lift
open Option renaming bind_some → oS
open List renaming getElem?_eq_some_iff → lI
open Go
def zP : Aa := ⟨[], [], [], []⟩
def LC (l : List Int) (i : Nat) (x : Int) : Option (Aa × Int) := if 0 < i ∧ x ≤ l.getD (i - 1) 0 then some (zP, 1) else none
def Oo (l : List Int) : Bool := (CU (LC l) 0 l).isNone
def WJ (p : Aa) (x : Int) : Bool := decide (0 ≤ x ∧ x < (p.fJ.length : Int))
def KZ (l : List Int) (x : Int) : Int := (CU (fun i y => if (y == x) = true then some ((i : Nat) : Int) else none) 0 l).getD (-1)
def OE (l : List Int) (t : An) : List An := if 0 ≤ KZ l t.fO ∧ 0 ≤ KZ l t.fS then [⟨t.fP, KZ l t.fO, KZ l t.fS, t.fY, t.fX, t.fT⟩] else []
def QI (xs : List Int) (s : Int) : Int := xs.getD s.toNat 0
def Hf (p : Aa) (l : List Int) : Aa := ⟨l.map (QI p.fJ), l.map (QI p.fQ), l.map (QI p.fU), CY (fun _ t => OE l t) 0 p.fK⟩
def HT (p : Aa) (l : List Int) : Aa × Int := if Oo l = true then (if l.all (WJ p) = true then (Hf p l, 0) else (zP, 4)) else (zP, 1)
theorem S5 (l : List Int) {r : Aa × Int} (h : CU (LC l) 0 l = some r) : r = (zP, 1) := by
 obtain ⟨j, x, _, h⟩ := Dw h
 unfold LC at h
 split at h
 ·cases h; rfl
 ·cases h
theorem WC {N : Nat} (hN : N ≤ 1000000) (l : List Int) (hl : l.length < N) (j : Unit → Option (Aa × Int)) : CC N l j N 0 = if Oo l = true then j () else some (zP, 1) := by
 have h := Cm (CC N l j) l (j ()) (LC l)
  (fun n i x hx => by
   have hi := (lI.1 hx).1
   rw [CC, Az (by omega)]
   simp only [A8]
   unfold LC
   by_cases h0 : 0 < i
   ·rw [Az (by omega), AT, hx, Ch (by omega) (by omega), show (i : Int) - 1 = ((i - 1 : Nat) : Int) from by omega, Dd (d := 0) (by omega)]
    simp only [oS, h0, true_and]
    rw [AB (by omega)]
    by_cases h1 : x ≤ l.getD (i - 1) 0
    ·rw [Az h1, if_pos h1]; rfl
    ·rw [Av h1, if_neg h1]; rfl
   ·rw [Av (by omega), if_neg (fun h => h0 h.1), Ao, AB (by omega)]; rfl)
  (fun n => by rw [CC, Av (by omega)]) N 0 (zK _) (by omega)
 rw [zX] at h
 have h' : CC N l j N 0 = _ := h
 rw [h']
 unfold Oo
 cases hs : CU (LC l) 0 l with
 | none => rfl
 | some r => rw [S5 l hs]; rfl
theorem Zv {N : Nat} (hN : N ≤ 1000000) (l : List Int) (hl : l.length < N) (j : Unit → Option (Aa × Int)) : A3 N l j N 1 = if Oo l = true then j () else some (zP, 1) := by
 cases hc : l with
 | nil =>
  obtain ⟨n, rfl⟩ : ∃ n, N = n + 1 := ⟨N - 1, by omega⟩
  rw [A3, Av (by simp)]; rfl
 | cons y ys =>
  rw [← hc]
  have hll : l.length = ys.length + 1 := by rw [hc]; rfl
  have h := Cm (fun n i => A3 N l j n (i + 1)) ys (j ()) (fun i x => LC l (i + 1) x)
   (fun n i x hx => by
    have hi := (lI.1 hx).1
    have hx' : l[i + 1]? = some x := by rw [hc]; simpa using hx
    show A3 N l j (n + 1) ((i : Int) + 1) = _
    rw [show (i : Int) + 1 = ((i + 1 : Nat) : Int) from by omega, A3, Az (by omega), AT, hx', Ch (by omega) (by omega), show ((i + 1 : Nat) : Int) - 1 = (i : Int) from by omega, Dd (d := 0) (by omega)]
    simp only [oS]
    unfold LC
    rw [AB (by omega)]
    simp only [Nat.zero_lt_succ, true_and, Nat.add_sub_cancel]
    by_cases h1 : x ≤ l.getD i 0
    ·rw [Az h1, if_pos h1]; rfl
    ·rw [Av h1, if_neg h1]
     show _ = A3 N l j n (((i + 1 : Nat) : Int) + 1)
     rw [show ((i + 1 : Nat) : Int) + 1 = ((i + 1 + 1 : Nat) : Int) from by omega])
   (fun n => by
    show A3 N l j (n + 1) ((ys.length : Int) + 1) = _
    rw [A3, Av (by omega)]) N 0 (zK _) (by omega)
  rw [zX] at h
  have h' : A3 N l j N 1 = _ := h
  rw [h']
  have e : CU (LC l) 0 l = CU (fun i x => LC l (i + 1) x) 0 ys := by
   have sh : ∀ (ys : List Int) (i : Nat), CU (LC l) (i + 1) ys = CU (fun i x => LC l (i + 1) x) i ys := by
    intro ys
    induction ys with
    | nil => intro i; rfl
    | cons z zs ih => intro i; rw [FR, FR, ih]
   have h0 : LC l 0 y = none := by unfold LC; rw [if_neg (by omega)]
   have q : ∀ g : Nat → Int → Option (Aa × Int), CU g 0 l = CU g 0 (y :: ys) := fun g => by rw [hc]
   rw [q, FR, h0, ← sh ys 0]
  unfold Oo
  rw [e]
  cases hs : CU (fun i x => LC l (i + 1) x) 0 ys with
  | none => rfl
  | some r => rw [← e] at hs; rw [S5 l hs]; rfl
theorem N9 {N : Nat} (hN : N ≤ 1000000) (l : List Int) (hl : l.length < N) (x : Int) : DA N l x = some (KZ l x) ∧ Eh N l x = some (KZ l x) := by
 constructor
 ·unfold DA
  have h := Cm (BY N l x fun _ => some (-1)) l (some (-1)) (fun i y => if (x == y) = true then some ((i : Nat) : Int) else none)
   (fun n i y hy => by
    have hi := (lI.1 hy).1
    rw [BY, Az (by omega), AT, hy]
    simp only [oS]
    rw [AB (by omega)]
    cases x == y <;> rfl)
   (fun n => by rw [BY, Av (by omega)]) N 0 (zK _) (by omega)
  rw [zX] at h
  have h' : BY N l x (fun _ => some (-1)) N 0 = _ := h
  refine h'.trans ?_
  unfold KZ
  have e : (fun (i : Nat) (y : Int) => if (x == y) = true then some (i : Int) else none) = fun i y => if (y == x) = true then some ((i : Nat) : Int) else none := by
   funext i y
   rw [Bool.beq_comm]
  rw [e]
  cases CU (fun i y => if (y == x) = true then some ((i : Nat) : Int) else none) 0 l <;> rfl
 ·unfold Eh
  have h := Cm (Cp N l x fun _ => some (-1)) l (some (-1)) (fun i y => if (y == x) = true then some ((i : Nat) : Int) else none)
   (fun n i y hy => by
    have hi := (lI.1 hy).1
    rw [Cp, Az (by omega), AT, hy]
    simp only [oS]
    rw [AB (by omega)]
    cases y == x <;> rfl)
   (fun n => by rw [Cp, Av (by omega)]) N 0 (zK _) (by omega)
  rw [zX] at h
  have h' : Cp N l x (fun _ => some (-1)) N 0 = _ := h
  refine h'.trans ?_
  unfold KZ
  cases CU (fun i y => if (y == x) = true then some ((i : Nat) : Int) else none) 0 l <;> rfl
theorem Q1 {N : Nat} (hN : N ≤ 1000000) {p : Aa} (h2 : p.fQ.length = p.fJ.length) (h3 : p.fU.length = p.fJ.length) (l : List Int) (hl : l.length ≤ 1000) (j : List Int × List Int × List Int → Option (Aa × Int)) : ∀ (n i : Nat) (a b c : List Int), i ≤ l.length → l.length - i < n → a.length = i → b.length = i → c.length = i →
  DW N p l j n (a, b, c, (i : Int)) = if (l.drop i).all (WJ p) = true then j (a ++ (l.drop i).map (QI p.fJ), b ++ (l.drop i).map (QI p.fQ), c ++ (l.drop i).map (QI p.fU)) else some (zP, 4)
 | 0, i, _, _, _, _, h, _, _, _ => by omega
 | n + 1, i, a, b, c, hi, h, ha, hb, hc => by
  rw [DW]
  by_cases h1 : i < l.length
  ·have hx : l[i]? = some l[i] := by simp [h1]
   rw [Az (by simp only; omega), CQ hx]
   simp only [AT, hx, oS, y8, yI]
   generalize l[i] = x
   unfold DI
   simp only [A8]
   by_cases hr : 0 ≤ x ∧ x < (p.fJ.length : Int)
   ·have hin : WJ p x = true := decide_eq_true hr
    rw [hin, yP, Az hr.1, decide_eq_true hr.2]
    simp only [oS, yA, Ao]
    rw [Eo (d := 0) hr.1 hr.2, Eo (d := 0) hr.1 (by omega), Eo (d := 0) hr.1 (by omega)]
    simp only [oS]
    rw [Au (by simp only [yB]; unfold Dh; omega), Au (by simp only [yB]; unfold Dh; omega), Au (by simp only [yB]; unfold Dh; omega), AB (by omega),
     Q1 hN h2 h3 l hl j n (i + 1) _ _ _ (by omega) (by omega) (by simp [ha]) (by simp [hb]) (by simp [hc])]
    simp only [yS, List.singleton_append]
    rfl
   ·have hin : WJ p x = false := decide_eq_false hr
    rw [hin, vM, if_neg (by decide)]
    by_cases h0 : 0 ≤ x
    ·rw [Az h0, decide_eq_false (fun h => hr ⟨h0, h⟩)]; rfl
    ·rw [Av h0]; rfl
  ·have : i = l.length := by omega
   subst this
   rw [Av (by simp only; omega), zL (zN _)]
   simp
theorem V2 {N : Nat} (hN : N ≤ 1000000) {p : Aa} (h2 : p.fQ.length = p.fJ.length) (h3 : p.fU.length = p.fJ.length) (l : List Int) (hl : l.length ≤ 1000) (j : List Int × List Int × List Int → Option (Aa × Int)) : ∀ (n i : Nat) (a b c : List Int), i ≤ l.length → l.length - i < n → a.length = i → b.length = i → c.length = i →
  C0 N p l j n (a, b, c, (i : Int)) = if (l.drop i).all (WJ p) = true then j (a ++ (l.drop i).map (QI p.fJ), b ++ (l.drop i).map (QI p.fQ), c ++ (l.drop i).map (QI p.fU)) else some (zP, 4)
 | 0, i, _, _, _, _, h, _, _, _ => by omega
 | n + 1, i, a, b, c, hi, h, ha, hb, hc => by
  rw [C0]
  by_cases h1 : i < l.length
  ·have hx : l[i]? = some l[i] := by simp [h1]
   rw [Az (by simp only; omega), CQ hx]
   simp only [AT, hx, oS, y8, yI, A8]
   generalize l[i] = x
   by_cases hr : 0 ≤ x ∧ x < (p.fJ.length : Int)
   ·have hin : WJ p x = true := decide_eq_true hr
    rw [hin, yP, Av (by omega), decide_eq_false (by omega), Ao]
    rw [Eo (d := 0) hr.1 hr.2, Eo (d := 0) hr.1 (by omega), Eo (d := 0) hr.1 (by omega)]
    simp only [oS]
    rw [Au (by simp only [yB]; unfold Dh; omega), Au (by simp only [yB]; unfold Dh; omega), Au (by simp only [yB]; unfold Dh; omega), AB (by omega),
     V2 hN h2 h3 l hl j n (i + 1) _ _ _ (by omega) (by omega) (by simp [ha]) (by simp [hb]) (by simp [hc])]
    simp only [yS, List.singleton_append]
    rfl
   ·have hin : WJ p x = false := decide_eq_false hr
    rw [hin, vM, if_neg (by decide)]
    by_cases h0 : x < 0
    ·rw [Az h0]; rfl
    ·rw [Av h0, decide_eq_true (by omega)]; rfl
  ·have : i = l.length := by omega
   subst this
   rw [Av (by simp only; omega), zL (zN _)]
   simp
end Go.Lift
namespace Go.Lift
open Option renaming bind_some → oS
open List renaming mem_of_getElem? → lM
open List renaming getElem?_eq_some_iff → lI
open Go
theorem Uz {N : Nat} (h20 : 100 ≤ N) (t : An) (h1 : t.fX.length ≤ 6) (h2 : ∀ row, row ∈ t.fX → row.length ≤ 6) (h3 : t.fT.length ≤ 6) (h4 : ∀ row, row ∈ t.fT → row.length ≤ 6) : GP N t = some t := by
 unfold GP
 rw [TS N (by omega), TS N (by omega)]
 simp only [oS]
 have l2 : ∀ v4, Da N t.fT (fun v10 => some ⟨t.fP, t.fO, t.fS, t.fY, v4, v10⟩) N (t.fT, 0) = some ⟨t.fP, t.fO, t.fS, t.fY, v4, t.fT⟩ := fun v4 => by
  have l2 := Ih (Da N t.fT fun v12 => some ⟨t.fP, t.fO, t.fS, t.fY, v4, v12⟩) (fun a i => (a, i)) t.fT (fun v12 => some ⟨t.fP, t.fO, t.fS, t.fY, v4, v12⟩) (fun _ _ a => a) (fun _ a => a = t.fT)
   (fun n i x a hx ha => by
    subst ha
    have hi := (lI.1 hx).1
    refine ⟨?_, rfl⟩
    rw [Da]
    simp only [AT, hx, oS]
    rw [Az (by omega), Vl N (by have := h4 x (lM hx); omega)]
    simp only [oS]
    rw [AB (by omega), zT, OV hx])
   (fun n a ha => by
    subst ha
    rw [Da, Av (by omega)]) N 0 t.fT (zK _) (by omega) rfl
  have e := l2.1
  rw [l2.2] at e
  exact e
 have l1 := Ih (D7 N t.fX fun v4 => Da N t.fT (fun v10 => some ⟨t.fP, t.fO, t.fS, t.fY, v4, v10⟩) N (t.fT, 0)) (fun a i => (a, i)) t.fX (fun v4 => some ⟨t.fP, t.fO, t.fS, t.fY, v4, t.fT⟩) (fun _ _ a => a) (fun _ a => a = t.fX)
  (fun n i x a hx ha => by
   subst ha
   have hi := (lI.1 hx).1
   refine ⟨?_, rfl⟩
   rw [D7]
   simp only [AT, hx, oS]
   rw [Az (by omega), Vl N (by have := h2 x (lM hx); omega)]
   simp only [oS]
   rw [AB (by omega), zT, OV hx])
  (fun n a ha => by
   subst ha
   rw [D7, Av (by omega)]
   exact l2 t.fX) N 0 t.fX (zK _) (by omega) rfl
 have e := l1.1
 rw [l1.2] at e
 exact e
theorem Qn {N : Nat} (h20 : 100 ≤ N) (l : List (List Bool)) (h1 : l.length ≤ 6) (h2 : ∀ row, row ∈ l → row.length ≤ 6) : DV N l = some l := by
 unfold DV
 rw [FQ (CL N l _) (fun a i => (a, i)) l some (fun _ x => [x]) 1 1000
  (fun i x hx => by simp)
  (fun n i x a hx ha => by
   have hi := (lI.1 hx).1
   have hr := h2 x (lM hx)
   rw [CL]
   simp only [AT, hx, oS]
   rw [Az (by omega), Au (by simp only [yL]; unfold Dh; omega), Au (by simp only [yB] at ha ⊢; unfold Dh; omega), AB (by omega)]
   rfl)
  (fun n a => by
   rw [CL, Av (by omega)]) N [] (by omega) (by simp only [yL]; omega), TY]
 rfl
theorem Tx {p : Aa} (hp : Bg p) {t : An} (h : t ∈ p.fK) : (t.fX.length ≤ 6 ∧ ∀ row, row ∈ t.fX → row.length ≤ 6) ∧ t.fT.length ≤ 6 ∧ ∀ row, row ∈ t.fT → row.length ≤ 6 := by
 have ht := L0 (hp.tab t h)
 exact ⟨NQ hp ht, bG hp ht⟩
theorem Ky {N : Nat} (hN : N ≤ 1000000) (h20 : 100 ≤ N) {p : Aa} (hv : BB p = 0) (l : List Int) (hl : l.length ≤ 90) : Ff N p l = some (HT p l) := by
 obtain ⟨hp, _⟩ := CM hv
 have hnt := hp.nt
 unfold Ff HT
 rw [JN N p hN (by omega)]
 simp only [oS, hv, bne_self_eq_false, Ao]
 rw [WC hN l (by omega)]
 split
 ·have h := Q1 hN hp.now hp.tgt l (by omega) (fun v12 => CX N p l (fun v24 => some (Aa.mk v12.1 v12.2.1 v12.2.2 v24, 0)) N ([], 0)) N 0 [] [] [] (zK _) (by omega) rfl rfl rfl
  rw [zX] at h
  refine Eq.trans h ?_
  split
  ·rw [FQ (CX N p l _) (fun a i => (a, i)) p.fK (fun v24 => some (Aa.mk _ _ _ v24, 0)) (fun _ t => OE l t) 1 1000
    (fun i t ht => by unfold OE; split <;> simp)
    (fun n i t a ht ha => by
     have hi := (lI.1 ht).1
     obtain ⟨⟨a1, a2⟩, a3, a4⟩ := Tx hp (lM ht)
     rw [CX]
     simp only [A8, AT, ht, oS]
     rw [Az (by omega), (N9 hN l (by omega) t.fO).1, (N9 hN l (by omega) t.fS).1]
     simp only [oS]
     rw [AB (by omega), Uz h20 t a1 a2 a3 a4]
     simp only [oS]
     unfold OE at ha ⊢
     by_cases h1 : 0 ≤ KZ l t.fO
     ·rw [Az h1]
      by_cases h2 : 0 ≤ KZ l t.fS
      ·rw [decide_eq_true h2, AO, if_pos ⟨h1, h2⟩]
       rw [if_pos ⟨h1, h2⟩] at ha
       rw [Au (by simp only [yB] at ha ⊢; unfold Dh; omega)]
      ·rw [decide_eq_false h2, Ao, if_neg (fun h => h2 h.2), x8]
     ·rw [Av h1, Ao, if_neg (fun h => h1 h.1), x8])
    (fun n a => by rw [CX, Av (by omega)]) N [] (by omega) (by simp only [yL]; omega)]
   rfl
  ·rfl
 ·rfl
theorem Lv {N : Nat} (hN : N ≤ 1000000) (h20 : 100 ≤ N) {p : Aa} (hv : BB p = 0) (l : List Int) (hl : l.length ≤ 90) : Dx N p l = some (HT p l) := by
 obtain ⟨hp, _⟩ := CM hv
 have hnt := hp.nt
 unfold Dx HT
 rw [Lo N p hN (by omega)]
 simp only [oS, hv, bne_self_eq_false, Ao]
 rw [Zv hN l (by omega)]
 split
 ·have h := V2 hN hp.now hp.tgt l (by omega) (fun v10 => BM N p l (fun v23 => some (Aa.mk v10.1 v10.2.1 v10.2.2 v23, 0)) N ([], 0)) N 0 [] [] [] (zK _) (by omega) rfl rfl rfl
  rw [zX] at h
  refine Eq.trans h ?_
  split
  ·rw [FQ (BM N p l _) (fun a i => (a, i)) p.fK (fun v24 => some (Aa.mk _ _ _ v24, 0)) (fun _ t => OE l t) 1 1000
    (fun i t ht => by unfold OE; split <;> simp)
    (fun n i t a ht ha => by
     have hi := (lI.1 ht).1
     obtain ⟨⟨a1, a2⟩, a3, a4⟩ := Tx hp (lM ht)
     rw [BM]
     simp only [A8, AT, ht, oS]
     rw [Az (by omega), (N9 hN l (by omega) t.fO).2, (N9 hN l (by omega) t.fS).2]
     simp only [oS]
     unfold FG
     rw [AB (by omega), Qn h20 _ a1 a2, Qn h20 _ a3 a4]
     simp only [oS]
     unfold OE at ha ⊢
     by_cases h1 : 0 ≤ KZ l t.fO
     ·rw [Az h1]
      by_cases h2 : 0 ≤ KZ l t.fS
      ·rw [decide_eq_true h2, AO, if_pos ⟨h1, h2⟩]
       rw [if_pos ⟨h1, h2⟩] at ha
       rw [Au (by simp only [yB] at ha ⊢; unfold Dh; omega)]
      ·rw [decide_eq_false h2, Ao, if_neg (fun h => h2 h.2), x8]
     ·rw [Av h1, Ao, if_neg (fun h => h1 h.1), x8])
    (fun n a => by rw [BM, Av (by omega)]) N [] (by omega) (by simp only [yL]; omega)]
   rfl
  ·rfl
 ·rfl
end Go.Lift
namespace Go.Lift
open List renaming mem_of_getElem? → lM
open List renaming getElem?_eq_some_iff → lI
open List renaming getD_eq_getElem?_getD → lD
open Go
theorem VI {α R : Type} {f : Nat → α → Option R} {i : Nat} {xs : List α} (h : ∀ j x, xs[j]? = some x → f (i + j) x = none) : CU f i xs = none := by
 cases hs : CU f i xs with
 | none => rfl
 | some r =>
  obtain ⟨j, x, h1, h2⟩ := Dw hs
  rw [h j x h1] at h2; cases h2
theorem L8 {l : List Int} (h : Oo l = true) {i : Nat} {x y : Int} (hx : l[i]? = some x) (hy : l[i + 1]? = some y) : x < y := by
 unfold Oo at h
 have h0 : CU (LC l) 0 l = none := by
  cases hs : CU (LC l) 0 l with
  | none => rfl
  | some r => rw [hs] at h; cases h
 have h1 := Fg h0 (i + 1) y hy
 unfold LC at h1
 split at h1
 ·cases h1
 ·rename_i hn
  have e : l.getD (0 + (i + 1) - 1) 0 = x := by
   rw [show 0 + (i + 1) - 1 = i from by omega, lD, hx]; rfl
  rw [e] at hn
  omega
theorem Xs {l : List Int} (h : Oo l = true) (h0 : ∀ x, x ∈ l → 0 ≤ x) : ∀ (i : Nat) (x : Int), l[i]? = some x → (i : Int) ≤ x
 | 0, x, hx => h0 x (lM hx)
 | i + 1, x, hx => by
  have hi := (lI.1 hx).1
  have hy : l[i]? = some l[i] := by simp
  have h1 := Xs h h0 i _ hy
  have h2 := L8 h hy hx
  omega
theorem Sd {p : Aa} {l : List Int} (h : l.all (WJ p) = true) : ∀ x, x ∈ l → 0 ≤ x ∧ x < (p.fJ.length : Int) := fun x hx => of_decide_eq_true (zG.1 h x hx)
theorem ZP {p : Aa} {l : List Int} (h : Oo l = true) (h0 : l.all (WJ p) = true) : l.length ≤ p.fJ.length := by
 by_cases hl : l.length = 0
 ·omega
 ·have hx : l[l.length - 1]? = some l[l.length - 1] := by simp [show l.length - 1 < l.length from by omega]
  have h1 := Xs h (fun x hx => (Sd h0 x hx).1) _ _ hx
  have h2 := (Sd h0 _ (lM hx)).2
  omega
theorem Yi {l : List Int} {x : Int} (h : 0 ≤ KZ l x) : KZ l x < (l.length : Int) ∧ l.getD (KZ l x).toNat 0 = x := by
 unfold KZ at h ⊢
 cases hs : CU (fun i y => if (y == x) = true then some ((i : Nat) : Int) else none) 0 l with
 | none => rw [hs] at h; simp at h
 | some r =>
  obtain ⟨j, y, hj, hq⟩ := Dw hs
  split at hq
  ·rename_i he
   cases hq
   have hjl := (lI.1 hj).1
   refine ⟨by simp only [yF]; omega, ?_⟩
   simp only [yF, zC, zT]
   rw [lD, hj]
   simpa using he
  ·cases hq
theorem Sm {l xs : List Int} {k : Nat} (h : k < l.length) : (l.map (QI xs)).getD k 0 = xs.getD (l.getD k 0).toNat 0 := by
 rw [lD, zD, lD (l := l)]
 have : l[k]? = some l[k] := by simp [h]
 rw [this]; rfl
theorem Ym {p : Aa} {l : List Int} {t t' : An} (ht : D9 p t = 0) (hl : t' ∈ OE l t) : D9 (Hf p l) t' = 0 := by
 unfold OE at hl
 split at hl
 ·rename_i hp
  obtain ⟨h1, h2⟩ := Yi hp.1
  obtain ⟨h3, h4⟩ := Yi hp.2
  have : t' = ⟨t.fP, KZ l t.fO, KZ l t.fS, t.fY, t.fX, t.fT⟩ := by simpa using hl
  subst this
  have e1 : (Hf p l).fJ.getD (KZ l t.fO).toNat 0 = p.fJ.getD t.fO.toNat 0 := by
   show (l.map (QI p.fJ)).getD _ 0 = _
   rw [Sm (by omega), h2]
  have e2 : (Hf p l).fJ.getD (KZ l t.fS).toNat 0 = p.fJ.getD t.fS.toNat 0 := by
   show (l.map (QI p.fJ)).getD _ 0 = _
   rw [Sm (by omega), h4]
  have e3 : (Hf p l).fJ.length = l.length := by show (l.map _).length = _; rw [zO]
  have hok := L0 ht
  unfold D9 at ht ⊢
  simp only [e1, e2, e3]
  split at ht
  ·cases ht
  ·rename_i g1
   rw [if_neg g1]
   split at ht
   ·cases ht
   ·rw [if_neg (by omega)]
    exact ht
 ·cases hl
theorem Kc {p : Aa} (hv : BB p = 0) {l : List Int} (ha : Oo l = true) (hi : l.all (WJ p) = true) : BB (Hf p l) = 0 := by
 obtain ⟨hp, hx⟩ := CM hv
 have hn := ZP ha hi
 have h6 := hp.nv
 have h12 := hp.nt
 have ht : (Hf p l).fK.length ≤ 12 := by
  have : (CY (fun _ t => OE l t) 0 p.fK).length ≤ 1 * p.fK.length := Gr fun j t _ => by unfold OE; split <;> simp
  show (CY (fun _ t => OE l t) 0 p.fK).length ≤ 12
  omega
 have e3 : ∀ xs : List Int, (l.map (QI xs)).length = l.length := fun xs => zO _
 unfold BB
 rw [if_neg (by show ¬ (6 < (l.map (QI p.fJ)).length ∨ 12 < (Hf p l).fK.length); rw [e3]; omega),
  if_neg (by show ¬ ((l.map (QI p.fQ)).length ≠ (l.map (QI p.fJ)).length ∨ (l.map (QI p.fU)).length ≠ (l.map (QI p.fJ)).length); rw [e3, e3, e3]; simp)]
 have s1 : CU (Gq (Hf p l)) 0 (Hf p l).fJ = none := by
  refine VI fun j v hj => ?_
  have hj' : (l.map (QI p.fJ))[j]? = some v := hj
  rw [zD] at hj'
  cases hs : l[j]? with
  | none => rw [hs] at hj'; cases hj'
  | some s =>
   rw [hs] at hj'; cases hj'
   have hjl := (lI.1 hs).1
   have hin := Sd hi s (lM hs)
   obtain ⟨b1, b2, b3, b4⟩ := hx s.toNat (by omega)
   have b5 := KE hp.ver hin.1 hin.2
   have e : l.getD j 0 = s := by rw [lD, hs]; rfl
   have q1 : (Hf p l).fQ.getD (0 + j) 0 = p.fQ.getD s.toNat 0 := by
    show (l.map (QI p.fQ)).getD _ 0 = _; rw [zC, Sm hjl, e]
   have q2 : (Hf p l).fU.getD (0 + j) 0 = p.fU.getD s.toNat 0 := by
    show (l.map (QI p.fU)).getD _ 0 = _; rw [zC, Sm hjl, e]
   unfold Gq
   rw [q1, q2, if_neg]
   show ¬ (p.fJ.getD s.toNat 0 < 1 ∨ 6 < p.fJ.getD s.toNat 0 ∨ _ ∨ p.fJ.getD s.toNat 0 ≤ _ ∨ _ ∨ p.fJ.getD s.toNat 0 ≤ _)
   omega
 have s2 : CU (MH (Hf p l)) 0 (Hf p l).fK = none := by
  refine VI fun j t hj => ?_
  have hm : t ∈ CY (fun _ t => OE l t) 0 p.fK := lM hj
  obtain ⟨k, t0, hk, hm⟩ := Hq.1 hm
  unfold MH
  rw [if_pos (Ym (hp.tab t0 (lM hk)) hm)]
 rw [s1, s2]; rfl
end Go.Lift
namespace Go.Lift
open Option renaming bind_some → oS
open Go
def Xw (p : Aa) (l : List Int) : Bool := match GG 2000 (Hf p l) with
 | some r => !(r.2 == 0)
 | none => false
def XB (p : Aa) (l : List Int) : Bool × Int := if (HT p l).2 = 0 then (Xw p l, 0) else (false, (HT p l).2)
theorem Mu {p : Aa} {l : List Int} (h : (HT p l).2 = 0) : Oo l = true ∧ l.all (WJ p) = true ∧ HT p l = (Hf p l, 0) := by
 unfold HT at h ⊢
 split at h
 ·rename_i h1
  split at h
  ·rename_i h2
   exact ⟨h1, h2, by rw [if_pos h1, if_pos h2]⟩
  ·cases h
 ·cases h
theorem SH (p : Aa) (l : List Int) (h : (HT p l).2 ≠ 0) : ((HT p l).2 == 0) = false ∧ ((HT p l).2 != 0) = true := by
 refine ⟨beq_eq_false_iff_ne.2 h, ?_⟩
 unfold bne; rw [beq_eq_false_iff_ne.2 h]; rfl
theorem Y1 {p : Aa} (hv : BB p = 0) {l : List Int} (h : (HT p l).2 = 0) (hl : Ma (Hf p l)) : Xw p l = true ↔ ¬ bO (Hf p l) := by
 obtain ⟨h1, h2, _⟩ := Mu h
 obtain ⟨r, e, hs⟩ := Og (N := 2000) (by omega) (by omega) (Kc hv h1 h2) hl
 unfold Xw
 rw [e]
 obtain ⟨q, _, _⟩ := PJ hs
 show (!(r.2 == 0)) = true ↔ _
 rw [← q]
 generalize (r.2 == 0) = b
 cases b <;> simp
theorem Wu {q : Aa} (hv : BB q = 0) (hL : Ma q) {r : List Ae × Int} (hs : Qa q r) : ∃ b : Bool, (r.2 == 0) = b ∧ (r.2 == 3) = false ∧ (match GG 2000 q with | some r => !(r.2 == 0) | none => false) = !b := by
 obtain ⟨r2, e2, hs2⟩ := Og (N := 2000) (by omega) (by omega) hv hL
 obtain ⟨q1, q2, _⟩ := PJ hs
 obtain ⟨q1'', _, _⟩ := PJ hs2
 have eb : ∀ a : Int, (a == 0) = (r2.2 == 0) ↔ ((a == 0) = true ↔ (r2.2 == 0) = true) := fun a => by cases a == 0 <;> cases r2.2 == 0 <;> simp
 have w : (r.2 == 0) = (r2.2 == 0) := (eb _).2 (q1.trans q1''.symm)
 exact ⟨_, w, q2, by rw [e2]⟩
theorem UW {N : Nat} (hN : N ≤ 1000000) (h1 : 1000 ≤ N) {p : Aa} (hv : BB p = 0) {l : List Int} (hl : l.length ≤ 90) (hL : (HT p l).2 = 0 → Ma (Hf p l)) : E9 N p l = some (XB p l) := by
 unfold E9 XB
 rw [JN N p hN (by omega), Ky hN (by omega) hv l hl]
 simp only [oS, hv, bne_self_eq_false, Ao]
 by_cases h : (HT p l).2 = 0
 ·obtain ⟨g1, g2, g3⟩ := Mu h
  have hvr := Kc hv g1 g2
  obtain ⟨r, e, hs⟩ := Og hN h1 hvr (hL h)
  obtain ⟨b, w, q2, hb⟩ := Wu hvr (hL h) hs
  have hb : Xw p l = !b := hb
  rw [if_pos h, g3]
  simp only [bne_self_eq_false, Ao]
  rw [e]
  simp only [oS]
  rw [q2, Ao, hb, w]
  cases b <;> rfl
 ·rw [if_neg h, (SH p l h).2]; rfl
def Fs : Nat → List (List Int)
 | 0 => [[]]
 | 1 => [[], [0]]
 | 2 => [[], [0], [1], [0, 1]]
 | _ => [[], [0], [1], [2], [0, 1], [0, 2], [1, 2], [0, 1, 2]]
structure WO (p : Aa) : Prop where
 v : BB p = 0
 n : p.fJ.length ≤ 3
 l : ∀ s, s ∈ Fs p.fJ.length → Ma (Hf p s)
theorem ZM {l : List Int} {n : Nat} (hn : n ≤ 3) (h : Oo l = true) (h0 : ∀ x, x ∈ l → 0 ≤ x ∧ x < (n : Int)) : l ∈ Fs n := by
 match l, h, h0 with
 | [], _, _ => match n with | 0 => simp [Fs] | 1 => simp [Fs] | 2 => simp [Fs] | n + 3 => simp [Fs]
 | [a], h, h0 =>
  have ha := h0 a (by simp)
  match n, hn with
  | 0, _ => omega
  | 1, _ =>
   obtain rfl : a = 0 := by omega
   simp [Fs]
  | 2, _ => rcases (by omega : a = 0 ∨ a = 1) with rfl | rfl <;> simp [Fs]
  | 3, _ => rcases (by omega : a = 0 ∨ a = 1 ∨ a = 2) with rfl | rfl | rfl <;> simp [Fs]
  | n + 4, hn => omega
 | [a, b], h, h0 =>
  have ha := h0 a (by simp)
  have hb := h0 b (by simp)
  have hab := L8 h (i := 0) (x := a) (y := b) rfl rfl
  match n, hn with
  | 0, _ => omega
  | 1, _ => omega
  | 2, _ =>
   obtain ⟨rfl, rfl⟩ : a = 0 ∧ b = 1 := by omega
   simp [Fs]
  | 3, _ => rcases (by omega : (a = 0 ∧ b = 1) ∨ (a = 0 ∧ b = 2) ∨ (a = 1 ∧ b = 2)) with ⟨rfl, rfl⟩ | ⟨rfl, rfl⟩ | ⟨rfl, rfl⟩ <;> simp [Fs]
  | n + 4, hn => omega
 | a :: b :: c :: r, h, h0 =>
  have ha := h0 a (by simp)
  have hc := h0 c (by simp)
  have hab := L8 h (i := 0) (x := a) (y := b) rfl rfl
  have hbc := L8 h (i := 1) (x := b) (y := c) rfl rfl
  match n, hn with
  | 0, _ => omega
  | 1, _ => omega
  | 2, _ => omega
  | 3, _ =>
   obtain ⟨rfl, rfl, rfl⟩ : a = 0 ∧ b = 1 ∧ c = 2 := by omega
   cases r with
   | nil => simp [Fs]
   | cons d r =>
    have hd := h0 d (by simp)
    have hcd := L8 h (i := 2) (x := 2) (y := d) rfl rfl
    omega
  | n + 4, hn => omega
theorem aO {p : Aa} (hn : p.fJ.length ≤ 3) {s : List Int} (hs : s ∈ Fs p.fJ.length) : (HT p s).2 = 0 ∧ s.length ≤ 3 := by
 have key : ∀ n : Nat, n ≤ 3 → ∀ s, s ∈ Fs n → Oo s = true ∧ s.length ≤ 3 ∧ ∀ x, x ∈ s → 0 ≤ x ∧ x < (n : Int) := by
  intro n hn
  match n, hn with
  | 0, _ => decide
  | 1, _ => decide
  | 2, _ => decide
  | 3, _ => decide
  | n + 4, hn => omega
 obtain ⟨h1, h2, h3⟩ := key _ hn s hs
 refine ⟨?_, h2⟩
 unfold HT
 rw [if_pos h1, if_pos (show s.all (WJ p) = true from zG.2 fun x hx => decide_eq_true (h3 x hx))]
theorem Q3 {p : Aa} (h : WO p) {l : List Int} (hl : (HT p l).2 = 0) : Ma (Hf p l) := by
 obtain ⟨h1, h2, _⟩ := Mu hl
 exact h.l l (ZM h.n h1 (Sd h2))
end Go.Lift
namespace Go.Lift
open Option renaming bind_some → oS
open List renaming mem_of_getElem? → lM
open Go
theorem QE {p : Aa} (hp : Bg p) {m : Ab} (hm : BV p m) (hr : A6 p m = true) {n : Nat} {l : List Km} (hs : Kk p m 120 n = some l) : ∃ l', Kk p m 120 1000 = some l' := by
 obtain ⟨ws, hg⟩ := XM hp hm hr hs
 have hl : l.length ≤ 120 := Bfs.go_len _ _ _ _ (by simp) hs
 refine S3 (S := LE l) (by unfold LE; rw [zO]; omega) ?_ 1000 0 [(m, -1, NY)] (by simp [LE]) (fun y hy => ?_) (zK _) (by omega)
 ·intro y hy w hw
  obtain ⟨⟨y0, f, s⟩, hmem, rfl⟩ := zW.1 hy
  obtain ⟨k, hk⟩ := zU.1 hmem
  have hkl := Bfs.lt_get hk
  obtain ⟨wy, hwy⟩ := Bfs.get_ex (l := ws) (k := k) (by rw [hg.inv.len]; exact hkl)
  obtain ⟨k', f', s', w', e1, _, _⟩ := hg.inv.closed k y0 f s wy hk hwy w (.inl ⟨hkl, hw⟩)
  exact zW.2 ⟨_, lM e1, rfl⟩
 ·simp only [LE, yI, uP, yR] at hy
  subst hy
  obtain ⟨s0, hs0⟩ := hg.inv.root
  exact zW.2 ⟨_, lM hs0, rfl⟩
theorem Uj {N : Nat} (hN : N ≤ 1000000) (h1 : 1000 ≤ N) {p : Aa} (hv : BB p = 0) : ∃ b, E6 N p 120 = some b ∧ (b = true → Ma p) := by
 obtain ⟨hp, _⟩ := CM hv
 have hm := NB hv
 unfold E6
 rw [Nu N p (by omega) (by omega), if_pos hv]
 simp only [oS, A8, hv, bne_self_eq_false, Ao]
 rw [HY N p _ (by omega) (by omega) hp hm]
 simp only [oS]
 cases hr : A6 p (EU p)
 ·exact ⟨true, rfl, fun _ => .inl hr⟩
 ·have e := Ss (N := N) (by omega) (by omega) hv hm hr (most := 120) (by omega) (by omega) (.inl (by omega))
  have e' : Ek N p (EU p) 120 = _ := e
  rw [yA, Ao, e']
  cases hs : Kk p (EU p) 120 N with
  | none => exact ⟨false, rfl, fun h => by cases h⟩
  | some l => exact ⟨true, rfl, fun _ => .inr (QE hp hm hr hs)⟩
theorem RW : E2 2000 = some true := by kernel_rfl
theorem Zb {n : Nat} (h : n ≤ 3) : Dj 2000 (n : Int) = some (Fs n) := by
 match n, h with
 | 0, _ => show Dj 2000 0 = some (Fs 0); kernel_rfl
 | 1, _ => show Dj 2000 1 = some (Fs 1); kernel_rfl
 | 2, _ => show Dj 2000 2 = some (Fs 2); kernel_rfl
 | 3, _ => show Dj 2000 3 = some (Fs 3); kernel_rfl
 | n + 4, h => omega
theorem Ro (n : Nat) : (Fs n).length ≤ 8 := by
 match n with
 | 0 => decide
 | 1 => decide
 | 2 => decide
 | n + 3 => simp [Fs]
theorem Qi {p : Aa} (hv : BB p = 0) (hn : p.fJ.length ≤ 3) : ∀ (n i : Nat), i ≤ (Fs p.fJ.length).length → (Fs p.fJ.length).length - i < n →
  ∃ b, C2 2000 p (Fs p.fJ.length) (fun _ => some true) n (i : Int) = some b ∧ (b = true → ∀ s, s ∈ (Fs p.fJ.length).drop i → Ma (Hf p s))
 | 0, i, _, h => by omega
 | n + 1, i, hi, h => by
  have h8 := Ro p.fJ.length
  rw [C2]
  by_cases h1 : i < (Fs p.fJ.length).length
  ·have hx : (Fs p.fJ.length)[i]? = some (Fs p.fJ.length)[i] := by simp [h1]
   have hm : (Fs p.fJ.length)[i] ∈ Fs p.fJ.length := xQ _
   rw [Az (by omega), AT, hx, CQ hx]
   generalize (Fs p.fJ.length)[i] = s at hx hm ⊢
   obtain ⟨g1, g2⟩ := aO hn hm
   obtain ⟨k1, k2, k3⟩ := Mu g1
   simp only [oS, A8]
   rw [Lv (by omega) (by omega) hv s (by omega), k3]
   simp only [oS, bne_self_eq_false, Ao]
   obtain ⟨b, e, hb⟩ := Uj (N := 2000) (by omega) (by omega) (Kc hv k1 k2)
   rw [e]
   simp only [oS]
   cases b
   ·exact ⟨false, rfl, fun h => by cases h⟩
   ·obtain ⟨b2, e2, hb2⟩ := Qi hv hn n (i + 1) (by omega) (by omega)
    rw [yA, Ao, AB (by omega)]
    refine ⟨b2, e2, fun h t ht => ?_⟩
    rcases zQ.1 ht with rfl | ht
    ·exact hb rfl
    ·exact hb2 h t ht
  ·rw [Av (by omega)]
   exact ⟨true, rfl, fun _ s hs => by rw [zL (by omega)] at hs; cases hs⟩
theorem Xg (d : BP) (wd : F4 d) : ∃ p b, FY 2000 d = some (p, b) ∧ (b = true → WO p) := by
 obtain ⟨p, ok, e, h⟩ := eI 2000 d (by omega) (by omega) wd
 unfold FY
 rw [e]
 simp only [oS, A8]
 cases ok
 ·exact ⟨p, false, rfl, fun h => by cases h⟩
 ·rw [AO]
  have hv := (h rfl).valid
  unfold FV
  rw [Lo 2000 p (by omega) (by omega)]
  simp only [oS, hv, bne_self_eq_false, Ao]
  by_cases h3 : 3 < (p.fJ.length : Int)
  ·rw [Az h3]
   exact ⟨p, false, rfl, fun h => by cases h⟩
  ·rw [Av h3, Zb (by omega)]
   simp only [oS]
   obtain ⟨b, e2, hb⟩ := Qi hv (by omega) 2000 0 (zK _) (by have := Ro p.fJ.length; omega)
   have e2' : C2 2000 p (Fs p.fJ.length) (fun _ => some true) 2000 0 = some b := e2
   rw [e2']
   exact ⟨p, b, rfl, fun h => ⟨hv, by omega, fun s hs => hb h s (by rw [zX]; exact hs)⟩⟩
instance cW : Inhabited Ab := ⟨HR⟩
theorem To {N : Nat} (hN : N ≤ 1000000) {a b : Ab} (h1 : a.fL.length < N) (h2 : a.fI.length < N) (h3 : a.fN.length < N) (h4 : 3 < N) : De N a b = some (G4 a b) := by
 unfold De
 rw [PG h1 hN, PG h2 hN, Tn h3 hN]
 simp only [oS]
 rw [bi (by simp; omega) hN]
 rfl
end Go.Lift
namespace Go.Lift
open IntKind renaming wrap → wI
open Option renaming bind_some → oS
open List renaming mem_of_getElem? → lM
open List renaming getElem?_eq_some_iff → lI
open Go
structure Q7 (m : Ab) : Prop where
 base : m.fL.length ≤ 100
 next : m.fI.length ≤ 100
 held : m.fN.length ≤ 100
 u8 : LH Ly m.fN
theorem BV.lok {p : Aa} (hp : Bg p) {m : Ab} (h : BV p m) : Q7 m := by
 have hnv := hp.nv
 have hnt := hp.nt
 exact ⟨by rw [h.base]; omega, by rw [h.next]; omega, by rw [h.held]; omega, K2 h⟩
theorem U0 {N : Nat} (hN : N ≤ 1000000) (h20 : 1010 ≤ N) {a b : Ab} (ha : Q7 a) (hb : Q7 b) : BS N a b = some (G4 a b) :=
 OR hN (by have := ha.base; omega) (by have := ha.next; omega) (by have := ha.held; omega) (by have := hb.held; omega) ha.u8 hb.u8
theorem Vc {N : Nat} (hN : N ≤ 1000000) (h20 : 1010 ≤ N) {a b : Ab} (ha : Q7 a) : De N a b = some (G4 a b) :=
 To hN (by have := ha.base; omega) (by have := ha.next; omega) (by have := ha.held; omega) (by omega)
def Ia (x : Ab) : List Ab → Nat
 | [] => 0
 | y :: ys => if G4 y x < 0 then Ia x ys + 1 else 0
def HG (x : Ab) : List Ab → Bool
 | [] => false
 | y :: ys => if G4 y x < 0 then HG x ys else G4 y x == 0
theorem Qb (x : Ab) : ∀ l : List Ab, HG x l = match l[Ia x l]? with
  | none => false
  | some y => G4 y x == 0
 | [] => rfl
 | y :: ys => by
  simp only [Ia, HG]
  split
  ·rw [List.getElem?_cons_succ]; exact Qb x ys
  ·rfl
theorem IX {x : Ab} : ∀ {l : List Ab}, OA G4 l → HG x l = decide (x ∈ l)
 | [], _ => by simp [HG]
 | y :: ys, h => by
  obtain ⟨h1, h2⟩ := uK.1 h
  simp only [HG]
  split
  ·rename_i hy
   rw [IX h2]
   have : y ≠ x := fun e => by rw [e, Ms] at hy; omega
   rw [Bool.eq_iff_iff, decide_eq_true_eq, decide_eq_true_eq, zQ]
   exact ⟨.inr, fun h => h.resolve_left fun e => this e.symm⟩
  ·rename_i hy
   rw [Bool.eq_iff_iff, beq_iff_eq, decide_eq_true_eq, zQ]
   constructor
   ·intro e; exact .inl (OB e).symm
   ·rintro (rfl | hx)
    ·exact Ms _
    ·exact absurd (h1 x hx) hy
theorem Po {N : Nat} (hN : N ≤ 1000000) (h20 : 1010 ≤ N) {x : Ab} (hx : Q7 x) (l : List Ab) (hl : l.length ≤ 100000) (hA : ∀ y, y ∈ l → Q7 y) (J : Int → Option (Int × Bool)) : ∀ (n i : Nat), l.length - i < n → i ≤ l.length →
  Dy N l x J n (i : Int) = J (((i + Ia x (l.drop i) : Nat)) : Int)
 | 0, i, h, _ => by omega
 | n + 1, i, h, hi => by
  rw [Dy]
  simp only [A8]
  by_cases h1 : i < l.length
  ·have hy : l[i]? = some l[i] := by simp [h1]
   rw [Az (by omega), CQ hy]
   simp only [AT, hy, oS]
   rw [U0 hN h20 (hA _ (lM hy)) hx]
   simp only [oS, Ia]
   by_cases e : G4 l[i] x < 0
   ·rw [Az e, if_pos e, AB (by omega), Po hN h20 hx l hl hA J n (i + 1) (by omega) (by omega)]
    rw [show i + 1 + Ia x (l.drop (i + 1)) = i + (Ia x (l.drop (i + 1)) + 1) from by omega]
   ·rw [Av e, if_neg e]; rfl
  ·rw [Av (by omega), Ao, zL (by omega)]
   rfl
theorem Uk {N : Nat} (hN : N ≤ 1000000) (h20 : 1010 ≤ N) {x : Ab} (hx : Q7 x) (l : List Ab) (hl : l.length ≤ 100000) (hl2 : l.length < N) (hA : ∀ y, y ∈ l → Q7 y) : Ej N l x = some (((Ia x l : Nat) : Int), HG x l) := by
 unfold Ej
 have e := Po hN h20 hx l hl hA (fun (v2 : Int) =>
  Bc (fun (v8 : Bool) =>
   some (v2, v8))
  fun j8 =>
  AN ((decide (v2 < (l.length : Int))))
   ((Bl l v2).bind fun v10 =>
   (BS N v10 x).bind fun v11 =>
   j8 (v11 == 0))
   (j8 false)) N 0 (by omega) (zK _)
 refine Eq.trans e ?_
 simp only [A8, zX, zC]
 rw [Qb]
 cases hx2 : l[Ia x l]? with
 | none =>
  have : l.length ≤ Ia x l := List.getElem?_eq_none_iff.1 hx2
  rw [Av (by omega)]
 | some y =>
  have := (lI.1 hx2).1
  rw [Az (by omega)]
  simp only [AT, hx2, oS]
  rw [U0 hN h20 (hA _ (lM hx2)) hx]
  rfl
theorem WU {n : Nat} : A0 .u64 (n : Int) 1 = ((n / 2 : Nat) : Int) := by
 unfold A0
 have : (2 : Int) ^ min (1 : Int).toNat (IntKind.bits .u64) = 2 := by decide
 rw [this, Int.fdiv_eq_ediv_of_nonneg _ (by omega)]
 omega
theorem ZB {i j : Nat} (h : i + j ≤ 1000000) : wI .i64 (A0 .u64 (wI .u64 (wI .i64 ((i : Int) + (j : Int)))) 1) = (((i + j) / 2 : Nat) : Int) := by
 rw [Ch (n := (i : Int) + j) (by omega) (by omega), show (i : Int) + (j : Int) = ((i + j : Nat) : Int) from by omega, Y3 (by omega), WU, Ch (by omega) (by omega)]
theorem Sp {N : Nat} (hN : N ≤ 1000000) (h20 : 1010 ≤ N) {x : Ab} (l : List Ab) (hl : l.length ≤ 100000) (hA : ∀ y, y ∈ l → Q7 y) (hs : OA G4 l) (J : Int → Option (Int × Bool)) : ∀ (n i j : Nat), j - i < n → i ≤ j → j ≤ l.length → (∀ k y, k < i → l[k]? = some y → G4 y x < 0) → (∀ k y, j ≤ k → l[k]? = some y → ¬ G4 y x < 0) →
  AQ N l x (fun (x : Ab × Ab) => De N x.1 x.2) J n ((i : Int), (j : Int)) = J ((Ia x l : Nat) : Int)
 | 0, i, j, h, _, _, _, _ => by omega
 | n + 1, i, j, h, hij, hj, h1, h2 => by
  rw [AQ]
  by_cases hlt : i < j
  ·have hh : (i + j) / 2 < l.length := by omega
   have hy : l[(i + j) / 2]? = some l[(i + j) / 2] := by simp [hh]
   rw [Az (by simp only; omega)]
   simp only [ZB (show i + j ≤ 1000000 by omega), AT, hy, oS]
   rw [Vc hN h20 (hA _ (lM hy))]
   simp only [oS]
   have hlt2 : ∀ (a b : Nat) u v, a < b → l[a]? = some u → l[b]? = some v → G4 u v < 0 := fun a b u v hab ha hb => by
    obtain ⟨ha1, rfl⟩ := lI.1 ha
    obtain ⟨hb1, rfl⟩ := lI.1 hb
    exact uI.1 hs a b ha1 hb1 hab
   by_cases e : G4 l[(i + j) / 2] x < 0
   ·rw [Az e, AB (by omega)]
    exact Sp hN h20 l hl hA hs J n ((i + j) / 2 + 1) j (by omega) (by omega) hj (fun k y hk hky => by
     by_cases hk2 : k = (i + j) / 2
     ·subst hk2; rw [hy] at hky; cases hky; exact e
     ·exact U4.lt1 (hlt2 k _ _ _ (by omega) hky hy) (by omega)) h2
   ·rw [Av e]
    exact Sp hN h20 l hl hA hs J n i ((i + j) / 2) (by omega) (by omega) (by omega) h1 (fun k y hk hky => by
     by_cases hk2 : k = (i + j) / 2
     ·subst hk2; rw [hy] at hky; cases hky; exact e
     ·intro hc
      exact e (U4.lt1 (hlt2 _ k _ _ (by omega) hy hky) (by omega)))
  ·have : i = j := by omega
   subst this
   rw [Av (by simp only; omega)]
   have key : ∀ (l : List Ab) (i : Nat), i ≤ l.length → (∀ k y, k < i → l[k]? = some y → G4 y x < 0) → (∀ k y, i ≤ k → l[k]? = some y → ¬ G4 y x < 0) → Ia x l = i := by
    intro l
    induction l with
    | nil => intro i hi _ _; simp at hi; subst hi; rfl
    | cons y ys ih =>
     intro i hi g1 g2
     simp only [Ia]
     cases i with
     | zero => rw [if_neg (g2 0 y (zN _) rfl)]
     | succ i =>
      rw [if_pos (g1 0 y (by omega) rfl), ih i (by simpa using hi) (fun k z hk hz => g1 (k + 1) z (by omega) (by simpa using hz)) (fun k z hk hz => g2 (k + 1) z (by omega) (by simpa using hz))]
   rw [key l i hj h1 h2]
theorem RA {N : Nat} (hN : N ≤ 1000000) (h20 : 1010 ≤ N) {x : Ab} (l : List Ab) (hl : l.length ≤ 100000) (hl2 : l.length < N) (hA : ∀ y, y ∈ l → Q7 y) (hs : OA G4 l) : Fu N l x = some (decide (x ∈ l)) := by
 unfold Fu Bw
 have e := Sp hN h20 (x := x) l hl hA hs (fun (v2 : Int) =>
  Bc (fun (v7 : Bool) =>
   some (v2, v7))
  fun j7 =>
  AN ((decide (v2 < (l.length : Int))))
   ((Bl l v2).bind fun v9 =>
   (De N v9 x).bind fun v10 =>
   j7 (v10 == 0))
   (j7 false)) N 0 l.length (by omega) (zK _) (zN _) (fun k y hk => by omega) (fun k y hk hy => by
    have := (lI.1 hy).1; omega)
 have e' : AQ N l x (fun (x : Ab × Ab) => De N x.1 x.2) (fun (v2 : Int) =>
  Bc (fun (v7 : Bool) =>
   some (v2, v7))
  fun j7 =>
  AN ((decide (v2 < (l.length : Int))))
   ((Bl l v2).bind fun v9 =>
   (De N v9 x).bind fun v10 =>
   j7 (v10 == 0))
   (j7 false)) N (0, (l.length : Int)) = _ := e
 rw [e']
 rw [← IX hs, Qb]
 simp only [A8]
 cases hx2 : l[Ia x l]? with
 | none =>
  have : l.length ≤ Ia x l := List.getElem?_eq_none_iff.1 hx2
  rw [Av (by omega)]; rfl
 | some y =>
  have := (lI.1 hx2).1
  rw [Az (by omega)]
  simp only [AT, hx2, oS]
  rw [Vc hN h20 (hA _ (lM hx2))]
  rfl
theorem PA {N : Nat} (hN : N ≤ 1000000) (h20 : 100 ≤ N) {p : Aa} {m : Ab} (hw : LH Ly m.fN) : DZ N p m = some (if BX p m = 0 then (A6 p m, 0) else (false, BX p m)) := by
 by_cases hv : BX p m = 0
 ·rw [if_pos hv]; exact GY N p m hN h20 hw hv
 ·have hb : (BX p m == 0) = false := beq_eq_false_iff_ne.2 hv
  have hn : (BX p m != 0) = true := bne_iff_ne.2 hv
  have c3 : Gd N p m = some ([], BX p m) := by
   unfold Gd; rw [IC N p m hN (by omega) hw]; simp only [oS, hn, AO]
  have c4 : GE N p m = some (HR, Vq, BX p m) := by
   unfold GE; rw [c3]; simp only [oS, hn, AO]; rfl
  rw [if_neg hv]
  unfold DZ; rw [c4]; simp only [oS, hb, Ao]
  rw [beq_eq_false_iff_ne.2 (by have := Sn p m; omega : BX p m ≠ 15)]; rfl
def P4 (p : Aa) (o : Option Ab) (m : Ab) : Bool := (match o with | none => true | some y => decide (G4 y m < 0)) && (BX p m == 0 && (A6 p m && !GQ p m))
def Jz (p : Aa) : Option Ab → List Ab → Bool
 | _, [] => true
 | o, m :: ms => P4 p o m && Jz p (some m) ms
def KX (p : Aa) (q : Ab → Bool) (m : Ab) : Bool := (Fk p m).all fun s => !A6 p (A2 p m s).1 || q (A2 p m s).1
def U3 (p : Aa) (q : Ab → Bool) : Option Ab → List Ab → Bool
 | _, [] => true
 | o, m :: ms => P4 p o m && (KX p q m && U3 p q (some m) ms)
theorem VV {p : Aa} {q : Ab → Bool} : ∀ {o : Option Ab} {ms : List Ab}, U3 p q o ms = (Jz p o ms && ms.all (KX p q))
 | _, [] => rfl
 | o, m :: ms => by
  simp only [U3, Jz, y8]
  rw [VV]
  cases P4 p o m <;> cases KX p q m <;> cases Jz p (some m) ms <;> rfl
theorem WA {p : Aa} {o : Option Ab} {m : Ab} (h : P4 p o m = true) : (∀ y, o = some y → G4 y m < 0) ∧ BX p m = 0 ∧ A6 p m = true ∧ GQ p m = false := by
 unfold P4 at h
 rw [zI, zI, zI] at h
 obtain ⟨h1, h2, h3, h4⟩ := h
 refine ⟨fun y hy => ?_, beq_iff_eq.1 h2, h3, by simpa using h4⟩
 subst hy
 exact of_decide_eq_true h1
theorem NT {p : Aa} : ∀ {ms : List Ab} {o : Option Ab}, Jz p o ms = true → OA G4 ms ∧ (∀ y, o = some y → ∀ z, z ∈ ms → G4 y z < 0) ∧ ∀ m, m ∈ ms → BX p m = 0 ∧ A6 p m = true ∧ GQ p m = false
 | [], _, _ => ⟨List.Pairwise.nil, fun _ _ _ hz => (List.not_mem_nil hz).elim, fun _ hm => (List.not_mem_nil hm).elim⟩
 | m :: ms, o, h => by
  simp only [Jz] at h
  rw [zI] at h
  obtain ⟨h1, h2⟩ := h
  obtain ⟨g1, g2, g3, g4⟩ := WA h1
  obtain ⟨k1, k2, k3⟩ := NT h2
  refine ⟨uK.2 ⟨k2 m rfl, k1⟩, fun y hy z hz => ?_, fun x hx => ?_⟩
  ·rcases zQ.1 hz with rfl | hz
   ·exact g1 y hy
   ·have a1 := g1 y hy
    have a2 := k2 m rfl z hz
    exact U4.lt1 a1 (by omega)
  ·rcases zQ.1 hx with rfl | hx
   ·exact ⟨g2, g3, g4⟩
   ·exact k3 x hx
def PI (p : Aa) (l : List Ab) : Bool :=
 if A6 p (EU p) = true then Jz p none l && (decide (EU p ∈ l) && l.all (KX p fun x => decide (x ∈ l))) else l.isEmpty
def Rw (l : List Ab) : Nat → Option Ab
 | 0 => none
 | i + 1 => l[i]?
theorem T3 {N : Nat} (hN : N ≤ 1000000) (h20 : 1010 ≤ N) (p : Aa) (l : List Ab) (hl : l.length ≤ 100000) (hA : ∀ y, y ∈ l → Q7 y) (J : Unit → Option Bool) : ∀ (n i : Nat), l.length - i < n → i ≤ l.length →
  EP N p l J n (i : Int) = AN (Jz p (Rw l i) (l.drop i)) (J ()) (some false)
 | 0, i, h, _ => by omega
 | n + 1, i, h, hi => by
  rw [EP]
  simp only [A8]
  by_cases h1 : i < l.length
  ·have hy : l[i]? = some l[i] := by simp [h1]
   have hyo := hA _ (lM hy)
   rw [Az (by omega), CQ hy]
   simp only [AT, hy, oS, Jz]
   rw [PA hN (by omega) hyo.u8, OX N p _ hN (by omega) hyo.u8]
   have ih := T3 hN h20 p l hl hA J n (i + 1) (by omega) (by omega)
   have hp1 : Rw l (i + 1) = some l[i] := hy
   rw [hp1] at ih
   rw [AB (by omega), ih]
   have body : (if BX p l[i] = 0 then (A6 p l[i], (0 : Int)) else (false, BX p l[i])).1 = (BX p l[i] == 0 && A6 p l[i]) := by
    by_cases hv : BX p l[i] = 0
    ·rw [if_pos hv, hv]; rfl
    ·rw [if_neg hv, beq_eq_false_iff_ne.2 hv]; rfl
   have body2 : (BX p l[i] == 0) = true → (if BX p l[i] = 0 then (A6 p l[i], (0 : Int)) else (false, BX p l[i])).2 = 0 := fun hv => by
    rw [if_pos (beq_iff_eq.1 hv)]
   have fin : ∀ b : Bool, (AN b (some false) ((some (if BX p l[i] = 0 then (A6 p l[i], (0 : Int)) else (false, BX p l[i]))).bind fun v14 =>
     AN (!v14.1) (AN true (some false) (AN (Jz p (some l[i]) (l.drop (i + 1))) (J ()) (some false)))
      (AN (v14.2 != 0) (AN true (some false) (AN (Jz p (some l[i]) (l.drop (i + 1))) (J ()) (some false)))
       ((some (GQ p l[i])).bind fun v18 => AN v18 (some false) (AN (Jz p (some l[i]) (l.drop (i + 1))) (J ()) (some false)))))) =
     AN (!b && (BX p l[i] == 0 && (A6 p l[i] && !GQ p l[i])) && Jz p (some l[i]) (l.drop (i + 1))) (J ()) (some false) := by
    intro b
    simp only [oS]
    rw [body]
    cases b
    ·cases hv : BX p l[i] == 0
     ·simp [AN]
     ·rw [body2 hv]
      cases A6 p l[i] <;> cases GQ p l[i] <;> simp [AN]
    ·simp [AN]
   cases i with
   | zero =>
    rw [Av (by omega)]
    refine Eq.trans (fin false) ?_
    rfl
   | succ q =>
    have hq : l[q]? = some l[q] := by simp [show q < l.length by omega]
    rw [Az (by omega), Rd (by omega)]
    simp only [AT, hq, oS]
    rw [Vc hN h20 (hA _ (lM hq))]
    simp only [oS]
    refine Eq.trans (fin (decide (0 ≤ G4 l[q] l[q + 1]))) ?_
    have hp2 : Rw l (q + 1) = some l[q] := hq
    rw [hp2]
    unfold P4
    simp only
    by_cases hc : G4 l[q] l[q + 1] < 0
    ·rw [decide_eq_true hc, decide_eq_false (by omega)]; rfl
    ·rw [decide_eq_false hc, decide_eq_true (by omega)]; rfl
  ·rw [Av (by omega), zL (by omega)]; rfl
theorem Vs {N : Nat} (hN : N ≤ 1000000) (h20 : 1010 ≤ N) {p : Aa} (hv : BB p = 0) (l : List Ab) (hl : l.length ≤ 100000) (hl2 : l.length < N) (hA : ∀ y, y ∈ l → Q7 y) (hs : OA G4 l) {m : Ab} (hm : BV p m) (ss : List Ae) (e : Int) (hss : ∀ s, s ∈ ss → s ∈ Fk p m) (hsl : ss.length ≤ 1000) (J : Unit → Option Bool) : ∀ (n i : Nat), ss.length - i < n → i ≤ ss.length →
  EB N p l m (ss, e) J n (i : Int) = AN ((ss.drop i).all fun s => !A6 p (A2 p m s).1 || decide ((A2 p m s).1 ∈ l)) (J ()) (some false)
 | 0, i, h, _ => by omega
 | n + 1, i, h, hi => by
  obtain ⟨hp, _⟩ := CM hv
  rw [EB]
  simp only [A8]
  by_cases h1 : i < ss.length
  ·have hy : ss[i]? = some ss[i] := by simp [h1]
   have hsm := hss _ (lM hy)
   have hxo := JV hp hm (HV hsm).2
   rw [Az (by first | omega | (simp only; omega)), CQ hy]
   simp only [AT, hy, oS, y8]
   rw [MP N hN (by omega) (K2 hm), if_pos (Iw hv hm)]
   simp only [oS]
   rw [GY N p _ hN (by omega) (K2 hxo) (Iw hv hxo)]
   simp only [oS]
   rw [AB (by omega), Vs hN h20 hv l hl hl2 hA hs hm ss e hss hsl J n (i + 1) (by omega) (by omega)]
   cases A6 p (A2 p m ss[i]).1
   ·rw [Ao, Ao]; simp
   ·rw [AO, RA hN h20 l hl hl2 hA hs]
    simp only [oS]
    cases decide ((A2 p m ss[i]).1 ∈ l) <;> simp [AN]
  ·rw [Av (by first | omega | (simp only; omega)), zL (by omega)]; rfl
theorem Tf {N : Nat} (hN : N ≤ 1000000) (h20 : 1010 ≤ N) {p : Aa} (hv : BB p = 0) (l : List Ab) (hl : l.length ≤ 100000) (hl2 : l.length < N) (hA : ∀ y, y ∈ l → Q7 y) (hs : OA G4 l) (hM : ∀ y, y ∈ l → BX p y = 0) (J : Unit → Option Bool) : ∀ (n i : Nat), l.length - i < n → i ≤ l.length →
  Ex N p l J n (i : Int) = AN ((l.drop i).all (KX p fun x => decide (x ∈ l))) (J ()) (some false)
 | 0, i, h, _ => by omega
 | n + 1, i, h, hi => by
  obtain ⟨hp, _⟩ := CM hv
  rw [Ex]
  by_cases h1 : i < l.length
  ·have hy : l[i]? = some l[i] := by simp [h1]
   have hyl := lM hy
   have hm := (I7 (hA _ hyl).u8 (hM _ hyl)).2
   rw [Az (by omega), CQ hy]
   simp only [AT, hy, oS, y8]
   rw [Qv N hN (by omega) hv hm]
   simp only [oS]
   have hsl := Mt hp l[i]
   rw [show (0 : Int) = ((0 : Nat) : Int) from rfl, Vs hN h20 hv l hl hl2 hA hs hm (Fk p l[i]) _ (fun s hs => hs) (by omega) _ N 0 (by omega) (zK _), zX, AB (by omega), Tf hN h20 hv l hl hl2 hA hs hM J n (i + 1) (by omega) (by omega)]
   show AN (KX p (fun x => decide (x ∈ l)) l[i]) _ _ = _
   cases KX p (fun x => decide (x ∈ l)) l[i] <;> simp
  ·rw [Av (by omega), zL (by omega)]; rfl
theorem O7 {N : Nat} (hN : N ≤ 1000000) (h20 : 1010 ≤ N) {p : Aa} (hv : BB p = 0) (l : List Ab) (hl : l.length ≤ 100000) (hl2 : l.length < N) (hA : ∀ y, y ∈ l → Q7 y) : GU N p l = some (PI p l) := by
 have hs := NB hv
 unfold GU PI
 rw [NL N p hN (by omega), if_pos hv, hv]
 simp only [oS, bne_self_eq_false, Ao]
 rw [GY N p _ hN (by omega) (K2 hs) (Iw hv hs)]
 simp only [oS]
 cases hr : A6 p (EU p)
 ·rw [yT, AO, if_neg (by simp)]
  cases l with
  | nil => rfl
  | cons x l => rw [beq_eq_false_iff_ne.2 (by simp only [yC]; omega)]; rfl
 ·rw [yA, Ao, if_pos rfl, show (0 : Int) = ((0 : Nat) : Int) from rfl, T3 hN h20 p l hl hA _ N 0 (by omega) (zK _)]
  show AN (Jz p none (l.drop 0)) _ _ = _
  rw [zX]
  cases hg : Jz p none l
  ·rfl
  ·obtain ⟨g1, _, g3⟩ := NT hg
   rw [AO, RA hN h20 l hl hl2 hA g1, yP]
   simp only [oS]
   cases decide (EU p ∈ l)
   ·rfl
   ·rw [yA, Ao, yP, Tf hN h20 hv l hl hl2 hA g1 (fun y hy => (g3 y hy).1) _ N 0 (by omega) (zK _), zX]
    cases l.all (KX p fun x => decide (x ∈ l)) <;> rfl
theorem T5 {N : Nat} (hN : N ≤ 1000000) (h20 : 1010 ≤ N) {p : Aa} (hp : Bg p) (l : List Ab) (hl : l.length ≤ 100000) (hl2 : l.length < N) (hA : ∀ y, y ∈ l → Q7 y) {q : Nat} {m : Ab} (hq : l[q]? = some m) (hm : BV p m) (ss : List Ae) (hss : ∀ s, s ∈ ss → s ∈ Fk p m) (hsl : ss.length ≤ 1000) (J : Unit → Option Bool) : ∀ (n i : Nat), ss.length - i < n → i ≤ ss.length →
  BR N p l (q : Int) ss J n (i : Int) = AN ((ss.drop i).all fun s => !A6 p (A2 p m s).1 || HG (A2 p m s).1 l) (J ()) (some false)
 | 0, i, h, _ => by omega
 | n + 1, i, h, hi => by
  rw [BR]
  simp only [A8]
  by_cases h1 : i < ss.length
  ·have hy : ss[i]? = some ss[i] := by simp [h1]
   have hsm := hss _ (lM hy)
   have hxo := JV hp hm (HV hsm).2
   obtain ⟨b, ea⟩ := NH N hN (by omega) hp hm hsm
   rw [Az (by first | omega | (simp only; omega)), CQ hy]
   simp only [AT, hy, hq, oS, y8]
   rw [ea]
   simp only [oS]
   rw [Uk hN h20 (hxo.lok hp) l hl hl2 hA, HY N p _ hN (by omega) hp hxo]
   simp only [oS]
   rw [AB (by omega), T5 hN h20 hp l hl hl2 hA hq hm ss hss hsl J n (i + 1) (by omega) (by omega)]
   cases HG (A2 p m ss[i]).1 l <;> cases A6 p (A2 p m ss[i]).1 <;> simp [AN]
  ·rw [Av (by first | omega | (simp only; omega)), zL (by omega)]; rfl
theorem RF {N : Nat} (hN : N ≤ 1000000) (h20 : 1010 ≤ N) {p : Aa} (hv : BB p = 0) (l : List Ab) (hl : l.length ≤ 100000) (hl2 : l.length < N) (hA : ∀ y, y ∈ l → Q7 y) (J : Unit → Option Bool) : ∀ (n i : Nat), l.length - i < n → i ≤ l.length →
  B3 N p l J n (i : Int) = AN (U3 p (fun x => HG x l) (Rw l i) (l.drop i)) (J ()) (some false)
 | 0, i, h, _ => by omega
 | n + 1, i, h, hi => by
  obtain ⟨hp, _⟩ := CM hv
  rw [B3]
  simp only [A8]
  by_cases h1 : i < l.length
  ·have hy : l[i]? = some l[i] := by simp [h1]
   have hyl := lM hy
   have hyo := hA _ hyl
   rw [Az (by omega), CQ hy]
   simp only [AT, hy, oS, U3]
   rw [Ld N p _ hN (by omega)]
   have hp1 : Rw l (i + 1) = some l[i] := hy
   simp only [oS]
   have fin : ∀ b : Bool, (AN b (some false) (AN (BX p l[i] != 0) (AN true (some false) ((CA N p l[i]).bind fun v25 =>
       BR N p l (i : Int) v25 (fun (_ : Unit) => B3 N p l J n (wI .i64 ((i : Int) + 1))) N 0))
      ((BJ N p l[i]).bind fun v19 => AN (!v19) (AN true (some false) ((CA N p l[i]).bind fun v25 =>
       BR N p l (i : Int) v25 (fun (_ : Unit) => B3 N p l J n (wI .i64 ((i : Int) + 1))) N 0))
       ((Ez N p l[i]).bind fun v22 => AN v22 (some false) ((CA N p l[i]).bind fun v25 =>
       BR N p l (i : Int) v25 (fun (_ : Unit) => B3 N p l J n (wI .i64 ((i : Int) + 1))) N 0))))) =
     AN ((!b && (BX p l[i] == 0 && (A6 p l[i] && !GQ p l[i]))) && (KX p (fun x => HG x l) l[i] && U3 p (fun x => HG x l) (some l[i]) (l.drop (i + 1)))) (J ()) (some false) := by
    intro b
    cases b
    ·by_cases hvm : BX p l[i] = 0
     ·have hm := (I7 hyo.u8 hvm).2
      rw [hvm, HY N p _ hN (by omega) hp hm, SU N p _ hN (by omega) hyo.u8]
      simp only [oS, bne_self_eq_false, Ao]
      cases A6 p l[i]
      ·simp [AN]
      ·cases GQ p l[i]
       ·rw [yA, Ao, Ao, NC N hN (by omega) hv hm]
        simp only [oS]
        have hsl := Mt hp l[i]
        rw [show (0 : Int) = ((0 : Nat) : Int) from rfl, T5 hN h20 hp l hl hl2 hA hy hm (Fk p l[i]) (fun s hs => hs) (by omega) _ N 0 (by omega) (zK _), zX, AB (by omega), RF hN h20 hv l hl hl2 hA J n (i + 1) (by omega) (by omega), hp1]
        show AN (KX p (fun x => HG x l) l[i]) _ _ = _
        cases KX p (fun x => HG x l) l[i] <;> simp
       ·simp [AN]
     ·rw [bne_iff_ne.2 hvm, beq_eq_false_iff_ne.2 hvm]
      simp [AN]
    ·simp [AN]
   cases i with
   | zero =>
    rw [Av (by omega)]
    refine Eq.trans (fin false) ?_
    rfl
   | succ r =>
    have hq : l[r]? = some l[r] := by simp [show r < l.length by omega]
    rw [Az (by omega), Rd (by omega)]
    simp only [AT, hq, oS]
    rw [U0 hN h20 (hA _ (lM hq)) hyo]
    simp only [oS]
    refine Eq.trans (fin (decide (0 ≤ G4 l[r] l[r + 1]))) ?_
    have hp2 : Rw l (r + 1) = some l[r] := hq
    rw [hp2]
    unfold P4
    simp only
    by_cases hc : G4 l[r] l[r + 1] < 0
    ·rw [decide_eq_true hc, decide_eq_false (by omega)]; rfl
    ·rw [decide_eq_false hc, decide_eq_true (by omega)]; rfl
  ·rw [Av (by omega), zL (by omega)]; rfl
theorem Ux {N : Nat} (hN : N ≤ 1000000) (h20 : 1010 ≤ N) {p : Aa} (hv : BB p = 0) (l : List Ab) (hl : l.length ≤ 100000) (hl2 : l.length < N) (hA : ∀ y, y ∈ l → Q7 y) : E5 N p l = some (PI p l) := by
 obtain ⟨hp, _⟩ := CM hv
 have hs := NB hv
 unfold E5 PI
 rw [Nu N p hN (by omega), if_pos hv, hv]
 simp only [oS, bne_self_eq_false, Ao]
 rw [HY N p _ hN (by omega) hp hs]
 simp only [oS]
 cases hr : A6 p (EU p)
 ·rw [yT, AO, if_neg (by simp)]
  cases l with
  | nil => rfl
  | cons x l => rw [beq_eq_false_iff_ne.2 (by simp only [yC]; omega)]; rfl
 ·rw [yA, Ao, if_pos rfl, show (0 : Int) = ((0 : Nat) : Int) from rfl, RF hN h20 hv l hl hl2 hA _ N 0 (by omega) (zK _)]
  show AN (U3 p (fun x => HG x l) none (l.drop 0)) _ _ = _
  rw [zX, VV, Uk hN h20 (hs.lok hp) l hl hl2 hA]
  simp only [oS]
  cases hg : Jz p none l
  ·rfl
  ·obtain ⟨g1, _, g3⟩ := NT hg
   have : (fun x => HG x l) = fun x => decide (x ∈ l) := funext fun x => IX g1
   rw [this, IX g1, yP, yP]
   cases l.all (KX p fun x => decide (x ∈ l)) <;> cases decide (EU p ∈ l) <;> rfl
theorem Qt {q : Aa} {l : List Ab} (hc : l.all (KX q fun x => decide (x ∈ l)) = true) : ∀ {u : List Ae} {m x : Ab}, m ∈ l → NM q m u = some x → x ∈ l
 | [], m, x, hm, h => by cases h; exact hm
 | s :: u, m, x, hm, h => by
  rw [NM] at h
  cases hs : MR q m s with
  | none => rw [hs] at h; cases h
  | some y =>
   rw [hs, oS] at h
   obtain ⟨h1, h2, h3⟩ := Mo.1 (OG hs)
   have := zG.1 (zG.1 hc m hm) s h1
   have h2' : y = (A2 q m s).1 := h2
   have h3' : A6 q y = true := h3
   rw [← h2', h3', yA, vO, decide_eq_true_eq] at this
   exact Qt hc this h
theorem TV {q : Aa} {l : List Ab} (hc : PI q l = true) : ¬ bO q := by
 rintro ⟨hr, u, hu⟩
 unfold PI at hc
 rw [if_pos hr, zI, zI, decide_eq_true_eq] at hc
 obtain ⟨h1, h2, h3⟩ := hc
 unfold MY at hu
 cases hx : NM q (EU q) u with
 | none => rw [hx] at hu; cases hu
 | some x =>
  rw [hx] at hu
  have hu : GQ q x = true := hu
  have := (NT h1).2.2 x (Qt h3 h2 hx)
  rw [this.2.2] at hu; cases hu
theorem T8 (N : Nat) {l : List Ab} (h : l.length ≤ 100000) : CV N l = some l := by
 unfold CV
 rw [Au (by simp only [yL]; unfold Dh; omega)]; rfl
def SK (p : Aa) (l : List Int) (ms : List Ab) : Bool := if (HT p l).2 = 0 then PI (Hf p l) ms else false
theorem QW {p : Aa} (hv : BB p = 0) {l : List Int} (hl : l.length ≤ 90) {ms : List Ab} (hm : ms.length ≤ 1500) (hA : ∀ y, y ∈ ms → Q7 y) : GW 2000 p l ms = some (SK p l ms) := by
 unfold GW SK
 rw [Ky (by omega) (by omega) hv l hl, oS]
 simp only [A8]
 by_cases h : (HT p l).2 = 0
 ·obtain ⟨g1, g2, g3⟩ := Mu h
  have hvr := Kc hv g1 g2
  rw [if_pos h, g3]
  have e1 := O7 (N := 2000) (by omega) (by omega) hvr ms (by omega) (by omega) hA
  rw [e1]; rfl
 ·rw [if_neg h, (SH p l h).1]; rfl
theorem PH {p : Aa} (hv : BB p = 0) {l : List Int} (hl : l.length ≤ 90) {ms : List Ab} (hm : ms.length ≤ 1500) (hA : ∀ y, y ∈ ms → Q7 y) : Eb 2000 p l ms = some (SK p l ms) := by
 unfold Eb SK
 rw [Lv (by omega) (by omega) hv l hl, oS]
 simp only [A8]
 by_cases h : (HT p l).2 = 0
 ·obtain ⟨g1, g2, g3⟩ := Mu h
  have hvr := Kc hv g1 g2
  rw [if_pos h, g3]
  have e2 := Ux (N := 2000) (by omega) (by omega) hvr ms (by omega) (by omega) hA
  rw [e2]; rfl
 ·rw [if_neg h, (SH p l h).1]; rfl
theorem Ru {p2 : List Ab} (hl : p2.length ≤ 20) (j : Unit → Option Bool) : ∀ (n i : Nat), i ≤ p2.length → p2.length - i < n → BO 2000 p2 j n (i : Int) = some true ∨ (BO 2000 p2 j n (i : Int) = j () ∧ ∀ m, m ∈ p2.drop i → eY m)
 | 0, i, _, h => by omega
 | n + 1, i, hi, h => by
  rw [BO]
  by_cases h1 : i < p2.length
  ·have hx : p2[i]? = some p2[i] := by simp [h1]
   rw [Az (by omega), AT, hx, CQ hx, oS]
   obtain ⟨b, e, hb⟩ := ZA 2000 p2[i]
   rw [e, oS]
   cases b
   ·exact .inl rfl
   ·rw [yA, Ao, AB (by omega)]
    rcases Ru hl j n (i + 1) (by omega) (by omega) with h2 | ⟨h2, h3⟩
    ·exact .inl h2
    ·refine .inr ⟨h2, fun m hm => ?_⟩
     rcases zQ.1 hm with rfl | hm
     ·exact hb rfl
     ·exact h3 m hm
  ·rw [Av (by omega), zL (by omega)]
   exact .inr ⟨rfl, fun m hm => by cases hm⟩
theorem O4 (d : BP) (l : List Int) (ms : List Ab) (wd : F4 d) (_ : LH Wn l) (wm : LH Pg ms) : D2 2000 d l ms = some true := by
 obtain ⟨p, b, e, hb⟩ := Xg d wd
 unfold D2
 rw [e, RW]
 cases b
 ·rfl
 ·have hL := hb rfl
  show AN (decide (6 < (l.length : Int))) _ _ = some true
  by_cases h6 : 6 < (l.length : Int)
  ·rw [Az h6]; rfl
  rw [Av h6]
  by_cases h20 : 20 < (ms.length : Int)
  ·rw [decide_eq_true h20]; rfl
  rw [decide_eq_false h20]
  show BO 2000 ms _ 2000 0 = some true
  rcases Ru (p2 := ms) (by omega) _ 2000 0 (zK _) (by omega) with h | ⟨h, hf⟩
  ·exact h
  refine Eq.trans h ?_
  rw [zX] at hf
  have hA : ∀ y, y ∈ ms → Q7 y := fun y hy => by
   obtain ⟨f1, f2, f3⟩ := hf y hy
   exact ⟨by omega, by omega, by omega, (wm y hy).2.2.1⟩
  have c1 := QW hL.v (l := l) (by omega) (ms := ms) (by omega) hA
  have c2 := PH hL.v (l := l) (by omega) (ms := ms) (by omega) hA
  have b1 := UW (N := 2000) (by omega) (by omega) hL.v (l := l) (by omega) (Q3 hL)
  rw [YS 2000 (by omega), T8 2000 (by omega)]
  show ((GW 2000 p l ms).bind fun v17 => (E9 2000 p l).bind fun v19 => (Eb 2000 p l ms).bind fun v21 => AN (v17 == v21) (AN (!v17) (some true) (AN (v19.2 == 0) (some v19.1) (some false))) (some false)) = some true
  rw [c1, c2, b1]
  show AN (SK p l ms == SK p l ms) (AN (!SK p l ms) (some true) (AN ((XB p l).2 == 0) (some (XB p l).1) (some false))) (some false) = some true
  rw [beq_self_eq_true, AO]
  cases hc : SK p l ms
  ·rfl
  ·unfold SK at hc
   split at hc
   ·rename_i h0
    have : Xw p l = true := (Y1 hL.v h0 (Q3 hL h0)).2 (TV hc)
    unfold XB
    rw [if_pos h0, this]; rfl
   ·cases hc
end Go.Lift
