/- Lemmas for CoreCertificateCardSaid, which YtbfklmmnpdifaaaGreatDoorFinC8 proves. -/
import Derived.Test.YtbfklmmnpdifaaaGreatDoorMReg3
import Derived.KernelRfl
open Bool renaming and_eq_true → zA6, false_and → zJ9, false_or → zI8, not_false → zE0, not_true → zB9, true_and → zE1
open Int renaming toNat_natCast → zB3
open List renaming all_cons → zF7, all_eq_true → zA4, any_eq_false → zI7, any_eq_true → zE8, append_assoc → zD7, append_nil → zH1, cons_append → zH7, drop_eq_nil_of_le → zB2, drop_zero → zC0, getElem?_append_right → zC6, getElem?_eq_none → zD8, getElem?_map → zA3, getElem?_set → zF2, getElem_mem → zG1, length_append → zB7, length_cons → zC1, length_map → zA8, length_nil → zD2, length_singleton → zC2, map_append → zF5, map_cons → zC8, map_nil → zI5, mem_append → zC4, mem_cons → zB1, mem_cons_of_mem → zH0, mem_iff_getElem? → zB5, mem_map → zB6, mem_singleton → zD6, nil_append → zG9, nodup_cons → zG3, pairwise_cons → zF1, pairwise_iff_getElem → zH9, set_cons_succ → zJ6
open Nat renaming eq_zero_or_pos → zI6, le_refl → zB0, le_trans → zG5, sub_self → zJ4, zero_add → zA1, zero_le → zA9
open Option renaming getD_some → zC9, map_some → zE7
namespace Go.Lift
open IntKind renaming wrap → wI
open Option renaming bind_some → oS
open List renaming mem_of_getElem? → lM
open List renaming getElem?_eq_some_iff → lI
open List renaming getD_eq_getElem?_getD → lD
open Go
theorem LB {N : Nat} (hN : N ≤ 1000000) (h20 : 100 ≤ N) {p : Aa} (hv : Bx p = 0) {most : Nat} (hmo : most ≤ 20000) (j : List AD → Option (List AD × Int)) :
  ∀ (n i : Nat) (pl : List AD) (q : List (Ab × Int)) (l' : List IP), i ≤ pl.length → (∀ n, n ∈ pl.map EJ → Bz p n.1 ∧ AZ p n.1 = true) → pl.length ≤ most → Pd p q (pl.map EJ) → Ni p i [] pl → (∀ (b : Nat) nb, i ≤ b → pl[b]? = some nb → nb.fB = []) →
   Bfs.go (Ih p) most n i (pl.map EJ) = some l' →
   ∃ pl', DV N p j n (pl, MN q, (i : Int)) = j pl' ∧ pl'.map EJ = l' ∧ Ni p l'.length [] pl'
 | 0, i, pl, q, l', _, _, _, _, _, _, h => by cases h
 | n + 1, i, pl, q, l', hi, hA, hlm, hpl, hnx, hem, h => by
  obtain ⟨hp, _⟩ := Ch hv
  simp only [Bfs.go] at h
  rw [DV]
  by_cases h1 : i < pl.length
  ·obtain ⟨nd, hx⟩ := Bfs.get_ex h1
   have hxl : (pl.map EJ)[i]? = some (EJ nd) := by rw [zA3, hx]; rfl
   have hm := (hA _ (lM hxl)).1
   have hm : Bz p nd.fN := hm
   rw [hxl] at h
   simp only at h
   rw [Az (by simp only; omega)]
   simp only [AT, hx, oS]
   rw [show (Ab.mk nd.fN.fD nd.fN.fB nd.fN.fE) = nd.fN from rfl, Px N hN h20 hv hm]
   simp only [oS, bne_self_eq_false, Ao]
   have hsl := My hp nd.fN
   cases hin : Bfs.inner most i (Ih p nd.fN) (pl.map EJ) with
   | none =>
    have hin' : Bfs.inner most i (Ih p (EJ nd).1) (pl.map EJ) = none := hin
    rw [hin'] at h; cases h
   | some l1 =>
    have hin' : Bfs.inner most i (Ih p (EJ nd).1) (pl.map EJ) = some l1 := hin
    rw [hin'] at h
    simp only [oS] at h
    obtain ⟨pl1, q1, e1, e2, e3, e4, e5⟩ := HT hN h20 hv hm hmo (v2 := (pl, MN q, (i : Int))) rfl (Fb p nd.fN) 0 (fun s hs => hs) (by omega) (fun (v9 : (List AD) × (List (ByteArray × Int))) =>
     DV N p j n (v9.1, v9.2, (wI .i64 ((i : Int) + 1)))) N 0 pl q l1 (zA9 _) (by omega) ⟨nd, hx, rfl⟩ hA hlm hpl (by
      rw [List.take_zero]; exact hnx) ⟨nd, hx, by rw [hem i nd (zB0 _) hx]; exact zB0 _⟩ hin
    have e1' : CA N p (pl, MN q, (i : Int)) (Fb p nd.fN, 0) (fun (v9 : (List AD) × (List (ByteArray × Int))) =>
     DV N p j n (v9.1, v9.2, (wI .i64 ((i : Int) + 1)))) N (pl, MN q, 0) = _ := e1
    rw [e1']
    simp only
    obtain ⟨k1, k2⟩ := IN hin (fun q hq => Pw hp hm hq) hA
    have hl1 : l1.length = pl1.length := by rw [← e2, zA8]
    have hil : i < pl1.length := by rw [← hl1]; exact Bfs.lt_get (k2 _ _ hxl)
    rw [AB (by have := Bfs.inner_len _ _ _ (by rw [zA8]; exact hlm) hin; omega)]
    refine LB hN h20 hv hmo j n (i + 1) pl1 q1 l' (by omega) (by rw [e2]; exact k1) (by rw [← hl1]; exact Bfs.inner_len _ _ _ (by rw [zA8]; exact hlm) hin) (by rw [e2]; exact e3) ?_ ?_ (by rw [e2]; exact h)
    ·have hmi : ∀ nb, pl1[i]? = some nb → nb.fN = nd.fN := fun nb hb => by
      have := k2 _ _ hxl
      rw [← e2, zA3, hb] at this
      exact congrArg (fun n : IP => n.1) (Option.some.inj this)
     constructor
     ·intro b nb hb r hr
      obtain ⟨s, y, g1, g2⟩ := e4.to b nb hb r hr
      refine ⟨s, y, .inl ?_, g2⟩
      rcases g1 with g1 | ⟨g1, g3⟩
      ·exact ⟨by omega, g1.2⟩
      ·subst g1; exact ⟨by omega, by rw [hmi nb hb]; exact g3⟩
     ·intro b nb hb s y hs
      refine e4.of b nb hb s y ?_
      rcases hs with ⟨h2, h3⟩ | ⟨_, h3⟩
      ·by_cases hbi : b < i
       ·exact .inl ⟨hbi, h3⟩
       ·have : b = i := by omega
        subst this
        exact .inr ⟨rfl, by rw [hmi nb hb] at h3; exact h3⟩
      ·cases h3
    ·intro b nb hb hb2
     rcases e5 b nb hb2 (by omega) with h2 | h2
     ·exact hem b nb (by omega) h2
     ·exact h2
  ·have hi' : i = pl.length := by omega
   subst hi'
   rw [zD8 (by rw [zA8]; exact zB0 _)] at h
   have h : some (pl.map EJ) = some l' := h
   cases h
   rw [Ax (by simp)]
   exact ⟨pl, rfl, rfl, by rw [zA8]; exact hnx⟩
theorem Po {N : Nat} (hN : N ≤ 1000000) (h20 : 100 ≤ N) {p : Aa} (hv : Bx p = 0) {m : Ab} (hm : Bz p m) (hr : AZ p m = true) {most : Nat} (hmo : most ≤ 20000) (h1 : 1 ≤ most) {l : List IP} (hs : Hz p m most N = some l) :
  ∃ pl, G8 N p m = some (pl, 0) ∧ pl.map EJ = l ∧ Ni p l.length [] pl := by
 obtain ⟨hp, _⟩ := Ch hv
 unfold G8
 rw [WR N hN h20 hp hm]
 simp only [oS]
 obtain ⟨pl, e1, e2, e3⟩ := LB hN h20 hv hmo (fun (v3 : (List AD)) => some (v3, 0)) N 0 [AD.mk m (-1) MT []] [(m, 0)] l (zA9 _) (Ny hm hr) h1 (by
  refine ⟨fun e he => by rw [zD6.1 he]; exact hm, ?_, ?_⟩
  ·intro x _ hq n hn
   have hn : n = (m, -1, MT) := zD6.1 hn
   simp only [JU] at hq
   split at hq
   ·cases hq
   ·rename_i h; rw [hn]; exact fun e => h e.symm
  ·intro x r _ hq
   simp only [JU] at hq
   split at hq
   ·rename_i h
    cases hq; right; exact ⟨0, -1, MT, rfl, by rw [h]; rfl⟩
   ·cases hq) (by
  constructor
  ·intro b nb hb r hr
   have := Bfs.lt_get hb
   simp at this; subst this
   cases hb; cases hr
  ·intro b nb hb s y hs
   rcases hs with h | h
   ·omega
   ·cases h.2) (fun b nb _ hb => by
    have := Bfs.lt_get hb
    simp at this; subst this
    cases hb; rfl) hs
 refine ⟨pl, ?_, e2, e3⟩
 exact e1
theorem VB {α : Type} (xs : List α) (x y : α) : ∀ (A B : List α), ((A ++ x :: (xs ++ y :: B)).set A.length y).set (A.length + 1 + xs.length) x = A ++ y :: (xs ++ x :: B)
 | [], B => by
  rw [zG9, zD2, List.set_cons_zero, show 0 + 1 + xs.length = xs.length + 1 from by omega, zJ6, List.set_append_right _ _ (zB0 _), zJ4]
  rfl
 | a :: A, B => by
  have := VB xs x y A B
  simp only [zH7, zC1]
  rw [zJ6, show A.length + 1 + 1 + xs.length = (A.length + 1 + xs.length) + 1 from by omega, zJ6, this]
theorem SW (N : Nat) (j : List Ad → Option (List Ad)) : ∀ (n : Nat) (xs A B : List Ad), xs.length < 2 * n → A.length + xs.length ≤ 100000 →
  Bp N j n (A ++ (xs ++ B), (A.length : Int), ((A.length + xs.length : Nat) : Int) - 1) = j (A ++ (xs.reverse ++ B))
 | 0, xs, A, B, h, _ => by omega
 | n + 1, xs, A, B, h, h2 => by
  rw [Bp]
  rcases xs with _ | ⟨x, xs⟩
  ·rw [Ax (by simp only [zD2]; omega)]; rfl
  ·rcases Bfs.list_snoc xs with rfl | ⟨xs, y, rfl⟩
   ·rw [Ax (by simp only [zC1, zD2]; omega)]; rfl
   ·simp only [zC1, zB7, zD2] at h h2
    rw [Az (by simp only [zC1, zB7, zD2]; omega)]
    have e1 : (((A.length + (x :: (xs ++ [y])).length : Nat) : Int) - 1) = ((A.length + 1 + xs.length : Nat) : Int) := by simp only [zC1, zB7, zD2]; omega
    have e2 : A ++ (x :: (xs ++ [y]) ++ B) = A ++ x :: (xs ++ y :: B) := by simp
    simp only [e1, e2, AT, zB3]
    have g1 : (A ++ x :: (xs ++ y :: B))[A.length + 1 + xs.length]? = some y := by
     rw [zC6 (by omega), show A.length + 1 + xs.length - A.length = xs.length + 1 from by omega, List.getElem?_cons_succ, zC6 (zB0 _), zJ4]; rfl
    have g2 : (A ++ x :: (xs ++ y :: B))[A.length]? = some x := by
     rw [zC6 (zB0 _), zJ4]; rfl
    rw [g1, g2]
    simp only [oS]
    rw [zF2, if_neg (by omega), g1]
    simp only [oS]
    rw [VB, AB (by omega), show wI .i64 (((A.length + 1 + xs.length : Nat) : Int) - 1) = (((A ++ [y]).length + xs.length : Nat) : Int) - 1 from by
     rw [Ce (by omega) (by omega)]; simp only [zB7, zC2]]
    have := SW N j n xs (A ++ [y]) (x :: B) (by omega) (by simp only [zB7, zC2]; omega)
    rw [show ((A.length + 1 : Nat) : Int) = (((A ++ [y]).length : Nat) : Int) from by simp]
    rw [show A ++ y :: (xs ++ x :: B) = (A ++ [y]) ++ (xs ++ x :: B) from by simp, this]
    simp
theorem UH (N : Nat) (h20 : 100 ≤ N) (l : List Ad) (h : l.length < 2 * N) (h2 : l.length ≤ 100000) : BF N l = some l.reverse := by
 unfold BF
 rw [Ce (by omega) (by omega)]
 have := SW N (fun v2 => some v2) N l [] [] h (by simpa using h2)
 simp only [zG9, zH1, zD2, zA1] at this
 exact this
theorem M0 {p : Aa} {m : Ab} {l : List IP} {ws : List (List Ad)} (h : bk p m l ws) (N : Nat) {pl : List AD} (hpl : pl.map EJ = l) (j : List Ad → Option (List Ad)) : ∀ (n k : Nat) {w acc : List Ad}, k < n → ws[k]? = some w → acc.length + k ≤ 20000 →
  Gq N pl j n ((k : Int), acc) = j (acc ++ w.reverse)
 | 0, k, _, _, hk, _, _ => by omega
 | n + 1, k, w, acc, hk, hw, ha => by
  obtain ⟨⟨x, f, s⟩, hx⟩ := Bfs.get_ex (l := l) (k := k) (by rw [← h.inv.len]; exact Bfs.lt_get hw)
  have hx2 := hx
  rw [← hpl, zA3] at hx2
  cases hnd : pl[k]? with
  | none => rw [hnd] at hx2; cases hx2
  | some nd =>
   rw [hnd] at hx2
   have hx2 : EJ nd = (x, f, s) := Option.some.inj hx2
   have hf : nd.fF = f := congrArg (fun n : IP => n.2.1) hx2
   have hs : nd.fR = s := congrArg (fun n : IP => n.2.2) hx2
   rw [Gq]
   simp only [AT, hnd, oS]
   rw [hf]
   rcases zI6 k with rfl | hk0
   ·obtain ⟨s0, hs0⟩ := h.inv.root; rw [hs0] at hx; cases hx
    rw [h.inv.root'] at hw; cases hw
    rw [Ax (by decide)]; simp
   ·obtain ⟨i, y', g', t', w', e1, e2, e3, e4, e5, e6, e7⟩ := h.inv.par k _ _ _ hk0 hx
    rw [e6] at hw; cases hw
    subst e1
    rw [Az (Int.natCast_nonneg i), As (by simp [Db]; omega)]
    have := M0 h N hpl j n i (w := w') (acc := acc ++ [Ad.mk nd.fR.fG nd.fR.fI nd.fR.fO]) (by omega) e5 (by simp; omega)
    rw [this, show (Ad.mk nd.fR.fG nd.fR.fI nd.fR.fO) = s from hs]
    simp
theorem VC {p : Aa} {l : List IP} {k : Nat} (h : LW p l = some k) : k < l.length := by
 obtain ⟨⟨x, f, s, h1, _⟩, _⟩ := Q3 h
 exact Bfs.lt_get h1
theorem RZ {N : Nat} (hN : N ≤ 1000000) (h20 : 100 ≤ N) {p : Aa} (hv : Bx p = 0) {m : Ab} (hm : Bz p m) (hr : AZ p m = true) {most : Nat} (hmo : most ≤ 20000) (h1 : 1 ≤ most) {l : List IP} (hs : Hz p m most N = some l) (hl : l.length < N) {ws : List (List Ad)} (h : bk p m l ws) :
  F2 N p m = some (PS p l ws) := by
 obtain ⟨hp, _⟩ := Ch hv
 have hl2 : l.length ≤ 20000 := zG5 (Bfs.go_len _ _ _ _ (by simpa using h1) hs) hmo
 unfold F2
 rw [GT N p m hN h20 (KZ hm) (HN hv hm), hr]
 simp only [oS, bne_self_eq_false, Ao, zB9]
 obtain ⟨pl, e1, e2, e3⟩ := Po hN h20 hv hm hr hmo h1 hs
 rw [e1]
 simp only [oS, bne_self_eq_false, Ao]
 have hpll : pl.length = l.length := by rw [← e2, zA8]
 unfold Ct
 have := Cx (A1 N pl ((fun (x : AD) => E1 N x p.fA p.fH p.fL p.fC)) fun _ => some (-1)) l (some (-1)) (fun i n => (if Hb p n.1 = true then some i else none).map fun (k : Nat) => (k : Int))
  (fun n i nd hnd => by
   have hi := (lI.1 hnd).1
   have hnd2 := hnd
   rw [← e2, zA3] at hnd2
   cases hq : pl[i]? with
   | none => rw [hq] at hnd2; cases hnd2
   | some nq =>
    rw [hq] at hnd2
    have hnd2 : EJ nq = nd := Option.some.inj hnd2
    rw [A1, Az (by omega), AT, hq]
    simp only [oS]
    have hok := (h.ok _ _ _ _ (show l[i]? = some (nd.1, nd.2.1, nd.2.2) from hnd)).1
    have hM : nq.fN = nd.1 := congrArg (fun n : IP => n.1) hnd2
    unfold E1
    simp only
    rw [show (Aa.mk p.fA p.fH p.fL p.fC) = p from rfl, show (Ab.mk nq.fN.fD nq.fN.fB nq.fN.fE) = nd.1 from hM, O0 N p nd.1 hN h20 (KZ hok), AB (by omega)]
    simp only [oS]
    cases hg : Hb p nd.1 <;> rfl)
  (fun n => by rw [A1, Ax (by omega)]) N 0 (zA9 _) (by omega)
 have e3 : A1 N pl ((fun (x : AD) => E1 N x p.fA p.fH p.fL p.fC)) (fun _ => some (-1)) N 0 = _ := this
 rw [e3, zC0, NX]
 unfold PS
 cases hg : LW p l with
 | none =>
  unfold LW at hg
  rw [hg]; rfl
 | some k =>
  have hk := VC hg
  unfold LW at hg
  rw [hg]
  simp only [zE7, BI, oS]
  rw [Ax (by omega)]
  obtain ⟨w, hw⟩ := Bfs.get_ex (l := ws) (k := k) (by rw [h.inv.len]; exact hk)
  have e4 := M0 h N e2 (fun (v2 : (List Ad)) => (BF N v2).bind fun v8 => some v8) N k (w := w) (acc := []) (by omega) hw (by simp; omega)
  unfold Kr
  have hwl := Sw h (k + 1) k (Nat.lt_succ_self k) hw
  rw [e4, zG9, UH N h20 _ (by rw [List.length_reverse]; omega) (by rw [List.length_reverse]; omega), List.reverse_reverse]
  simp only [oS]
  rw [lD, hw]; rfl
def ab (p : Aa) (m : Ab) (w : List Ad) : Prop := Mb p m w = true ∧ Bfs.Dig Nm 100 w ∧ ∀ u, Mb p m u = true → Bfs.code Nm 100 w ≤ Bfs.code Nm 100 u
theorem V0 {p : Aa} (hp : Bf p) : ∀ {w : List Ad} {m x : Ab}, N1 p m w = some x → Bfs.Dig Nm 100 w ∧ ∀ s, s ∈ w → s ∈ Fa p
 | [], _, _, _ => ⟨fun s hs => (by cases hs), fun s hs => (by cases hs)⟩
 | s :: w, m, x, h => by
  simp only [N1] at h
  cases hs : MU p m s with
  | none => rw [hs] at h; cases h
  | some z =>
   rw [hs] at h
   obtain ⟨h1, h2⟩ := V0 hp h
   have h3 := (HG (K8.1 (Oz hs)).1).1
   refine ⟨fun t ht => ?_, fun t ht => ?_⟩
   ·rcases zB1.1 ht with rfl | ht
    ·exact (Qz hp h3).2
    ·exact h1 t ht
   ·rcases zB1.1 ht with rfl | ht
    ·exact h3
    ·exact h2 t ht
theorem Wg {p : Aa} (hp : Bf p) {m : Ab} {l : List IP} {ws : List (List Ad)} (h : bk p m l ws) :
  ((PS p l ws).2 = 0 ∧ ab p m (PS p l ws).1 ∧ (PS p l ws).1.length ≤ l.length) ∨ (PS p l ws = ([], 14) ∧ ∀ u, Mb p m u = false) := by
 unfold PS
 cases hg : LW p l with
 | none =>
  right
  refine ⟨rfl, fun u => ?_⟩
  cases hu : Mb p m u
  ·rfl
  ·obtain ⟨x, h1, h2⟩ := RH hu
   obtain ⟨k, f, s, w, g1, g2, g3⟩ := Q6 hp h h1
   rw [Wk hg g1] at h2; cases h2
 | some k =>
  left
  obtain ⟨⟨x, f, s, h1, h2⟩, h3⟩ := Q3 hg
  have hk := VC hg
  obtain ⟨w, hw⟩ := Bfs.get_ex (l := ws) (k := k) (by rw [h.inv.len]; exact hk)
  have hwe : ws.getD k [] = w := by rw [lD, hw]; rfl
  simp only [hwe]
  have hrun := VU hp h h1 hw
  refine ⟨trivial, ⟨?_, (V0 hp hrun).1, ?_⟩, ?_⟩
  ·unfold Mb; rw [hrun]; exact h2
  ·intro u hu
   obtain ⟨y, g1, g2⟩ := RH hu
   obtain ⟨k', f', s', w', e1, e2, e3⟩ := Q6 hp h g1
   refine zG5 ?_ e3
   by_cases hkk : k' < k
   ·rw [h3 k' y f' s' hkk e1] at g2; cases g2
   ·rcases Nat.lt_or_eq_of_le (Nat.le_of_not_lt hkk) with h4 | h4
    ·exact Nat.le_of_lt (h.inv.inc _ _ _ _ hw e2 h4)
    ·subst h4; rw [hw] at e2; cases e2; exact zB0 _
  ·have := Sw h (k + 1) k (Nat.lt_succ_self k) hw
   omega
def Uo (p : Aa) (m : Ab) (r : List Ad × Int) : Prop := (r.2 = 0 ∧ ab p m r.1 ∧ r.1.length ≤ 120) ∨ (r = ([], 14) ∧ ∀ u, Mb p m u = false)
def Lr (p : Aa) : Prop := AZ p (Dz p) = false ∨ ∃ l, Hz p (Dz p) 120 1000 = some l
def PW (p : Aa) (r : List Ad × Int) : Prop := (AZ p (Dz p) = false ∧ r = ([], 13)) ∨ (AZ p (Dz p) = true ∧ Uo p (Dz p) r)
theorem PO {α : Type} [DecidableEq α] : ∀ (L S : List α), L.Nodup → (∀ x, x ∈ L → x ∈ S) → L.length ≤ S.length
 | [], S, _, _ => zA9 _
 | x :: L, S, hn, hs => by
  obtain ⟨h1, h2⟩ := zG3.1 hn
  have hx := hs x (by simp)
  have := PO L (S.erase x) h2 (fun y hy => by
   have hne : y ≠ x := fun e => h1 (e ▸ hy)
   exact (List.mem_erase_of_ne hne).2 (hs y (zH0 _ hy)))
  rw [List.length_erase_of_mem hx] at this
  have := List.length_pos_of_mem hx
  simp only [zC1]
  omega
def LI (l : List IP) : List Ab := l.map fun n => n.1
theorem XQ {i : Nat} {l : List IP} {q : Ad × Ab} (h : (LI l).Nodup) : (LI (Bfs.put i l q)).Nodup ∧ ∀ x, x ∈ LI (Bfs.put i l q) → x ∈ LI l ∨ x = q.2 := by
 unfold Bfs.put
 split
 ·exact ⟨h, fun x hx => .inl hx⟩
 ·rename_i hn
  unfold LI at h ⊢
  rw [zF5]
  refine ⟨?_, ?_⟩
  ·rw [List.nodup_append]
   refine ⟨h, by simp, ?_⟩
   intro a ha b hb
   have hb : b = q.2 := by simpa using hb
   subst hb
   intro e
   subst e
   obtain ⟨n, hn1, hn2⟩ := zB6.1 ha
   exact hn (zE8.2 ⟨n, hn1, decide_eq_true hn2⟩)
  ·intro x hx
   rcases zC4.1 hx with hx | hx
   ·exact .inl hx
   ·exact .inr (by simpa using hx)
theorem OR {S : List Ab} {most i : Nat} (hS : S.length ≤ most) : ∀ (qs : List (Ad × Ab)) (l : List IP), (LI l).Nodup → (∀ x, x ∈ LI l → x ∈ S) → (∀ q, q ∈ qs → q.2 ∈ S) →
  ∃ l', Bfs.inner most i qs l = some l' ∧ (LI l').Nodup ∧ (∀ x, x ∈ LI l' → x ∈ S) ∧ l.length ≤ l'.length
 | [], l, h1, h2, _ => ⟨l, rfl, h1, h2, zB0 _⟩
 | q :: qs, l, h1, h2, h3 => by
  obtain ⟨g1, g2⟩ := XQ (i := i) (q := q) h1
  have g3 : ∀ x, x ∈ LI (Bfs.put i l q) → x ∈ S := fun x hx => (g2 x hx).elim (h2 x) fun e => by rw [e]; exact h3 q (by simp)
  have := PO _ S g1 g3
  unfold LI at this
  rw [zA8] at this
  simp only [Bfs.inner]
  rw [if_neg (by omega)]
  obtain ⟨l', e1, e2, e3, e4⟩ := OR hS qs (Bfs.put i l q) g1 g3 (fun q hq => h3 q (zH0 _ hq))
  refine ⟨l', e1, e2, e3, zG5 ?_ e4⟩
  unfold Bfs.put; split
  ·exact zB0 _
  ·simp
theorem T0 {p : Aa} {S : List Ab} {most : Nat} (hS : S.length ≤ most) (hc : ∀ x, x ∈ S → ∀ q, q ∈ Ih p x → q.2 ∈ S) : ∀ (n i : Nat) (l : List IP), (LI l).Nodup → (∀ x, x ∈ LI l → x ∈ S) → i ≤ l.length → most < n + i → ∃ l', Bfs.go (Ih p) most n i l = some l'
 | 0, i, l, h1, h2, hi, hn => by
  have := PO _ S h1 h2
  unfold LI at this
  rw [zA8] at this
  omega
 | n + 1, i, l, h1, h2, hi, hn => by
  simp only [Bfs.go]
  cases hx : l[i]? with
  | none => exact ⟨l, rfl⟩
  | some nd =>
   have hS2 : nd.1 ∈ S := h2 _ (zB6.2 ⟨nd, lM hx, rfl⟩)
   obtain ⟨l1, e1, e2, e3, e4⟩ := OR (i := i) hS (Ih p nd.1) l h1 h2 (hc _ hS2)
   simp only [e1, oS]
   have := Bfs.lt_get hx
   exact T0 hS hc n (i + 1) l1 e2 e3 (by omega) (by omega)
theorem aY {p : Aa} {t : Am} (hp : Bf p) (ht : OU p t) : t.fK.length ≤ 6 ∧ ∀ row, row ∈ t.fK → row.length ≤ 6 := by
 have h1 := Kx hp.ver ht.from0.1 ht.from0.2
 refine ⟨?_, fun row hr => by have := ht.reR row hr; omega⟩
 by_cases hk : t.fG = 4
 ·have := ht.reL hk; omega
 ·rw [ht.reN hk]; simp
theorem S3 (N : Nat) {l : List (List Bool)} (h : l.length ≤ 100000) : C8 N l = some l := by
 unfold C8
 rw [As (by simp only [zD2]; unfold Db; omega)]; rfl
theorem VV (N : Nat) {l : List Bool} (h : l.length ≤ 100000) : CQ N l = some l := by
 unfold CQ
 rw [As (by simp only [zD2]; unfold Db; omega)]; rfl
theorem OY {α : Type} {l : List α} {i : Nat} {x : α} (h : l[i]? = some x) : l.set i x = l := by
 apply List.ext_getElem?
 intro k
 rw [zF2]
 have := (lI.1 h).1
 by_cases e : i = k
 ·subst e; rw [if_pos rfl, if_pos this, h]
 ·rw [if_neg e]
structure ec (N : Nat) (p : Aa) : Prop where
 v : p.fA.length < N
 n : p.fH.length < N
 t : p.fL.length < N
 s : p.fC.length < N
 m : ∀ t, t ∈ p.fC → t.fP.length < N ∧ (∀ row, row ∈ t.fP → row.length < N) ∧ t.fK.length < N ∧ ∀ row, row ∈ t.fK → row.length < N
def Zc (p : Aa) : Prop := AZ p (Dz p) = true ∧ ∃ u, Mb p (Dz p) u = true
theorem Wj {N : Nat} (hN : N ≤ 1000000) (h1 : 1000 ≤ N) {p : Aa} (hv : Bx p = 0) {m : Ab} (hm : Bz p m) (hr : AZ p m = true) {l : List IP} (hs : Hz p m 120 1000 = some l) :
  ∃ r, F2 N p m = some r ∧ Uo p m r := by
 obtain ⟨hp, _⟩ := Ch hv
 obtain ⟨ws, h⟩ := SO hp hm hr hs
 have hl : l.length ≤ 120 := Bfs.go_len _ _ _ _ (by simp) hs
 refine ⟨_, RZ (N := N) (by omega) (by omega) hv hm hr (by omega) (by omega) (Bfs.go_more (zB0 _) _ _ _ _ _ h1 hs) (by omega) h, ?_⟩
 rcases Wg hp h with ⟨k1, h2, h3⟩ | k1
 ·exact .inl ⟨k1, h2, by omega⟩
 ·exact .inr k1
theorem UI {N : Nat} (hN : N ≤ 1000000) (h1 : 1000 ≤ N) {p : Aa} (hv : Bx p = 0) {m : Ab} (hm : Bz p m) (hr : AZ p m = false) : F2 N p m = some ([], 13) := by
 unfold F2
 rw [GT N p m (by omega) (by omega) (KZ hm) (HN hv hm), hr]; rfl
theorem OE {N : Nat} (hN : N ≤ 1000000) (h1 : 1000 ≤ N) {p : Aa} (hv : Bx p = 0) (hl : Lr p) : ∃ r, GC N p = some r ∧ PW p r := by
 have hm := K3 hv
 unfold GC
 rw [N3 N p (by omega) (by omega), if_pos hv]
 simp only [oS, hv, bne_self_eq_false, Ao]
 cases hr : AZ p (Dz p)
 ·rw [UI hN h1 hv hm hr]
  exact ⟨_, rfl, .inl ⟨hr, rfl⟩⟩
 ·rcases hl with h | ⟨l, hs⟩
  ·rw [hr] at h; cases h
  ·obtain ⟨r, e1, e3⟩ := Wj hN h1 hv hm hr hs
   rw [e1]
   exact ⟨r, rfl, .inr ⟨hr, e3⟩⟩
theorem Qk {p : Aa} {r : List Ad × Int} (h : PW p r) : ((r.2 == 0) = true ↔ Zc p) ∧ (r.2 == 3) = false ∧ (r.2 = 0 ∨ r.2 = 13 ∨ r.2 = 14) := by
 rcases h with ⟨h1, h2⟩ | ⟨h1, ⟨h2, h3, _⟩ | ⟨h2, h3⟩⟩
 ·subst h2
  refine ⟨⟨(fun h => by cases h), fun h => ?_⟩, rfl, .inr (.inl rfl)⟩
  rw [h.1] at h1; cases h1
 ·rw [h2]
  exact ⟨⟨fun _ => ⟨h1, _, h3.1⟩, fun _ => rfl⟩, rfl, .inl rfl⟩
 ·subst h2
  refine ⟨⟨(fun h => by cases h), fun h => ?_⟩, rfl, .inr (.inr rfl)⟩
  obtain ⟨_, u, hu⟩ := h
  rw [h3 u] at hu; cases hu
end Go.Lift
namespace Go.Lift
open IntKind renaming wrap → wI
open Go
theorem YP {n : Nat} (h : n < 18446744073709551616) : wI .u64 (n : Int) = (n : Int) := by
 show ((n : Int) % (18446744073709551616 : Int)) = n
 exact Int.emod_eq_of_lt (by omega) (by omega)
structure OD {α : Type} (c : α → α → Int) : Prop where
 anti : ∀ x y, c y x = - c x y
 le : ∀ x y z, c x y ≤ 0 → c y z ≤ 0 → c x z ≤ 0
namespace OD
variable {α : Type} {c : α → α → Int}
theorem self (O : OD c) (x : α) : c x x = 0 := by have := O.anti x x; omega
theorem lt1 (O : OD c) {x y z : α} (h : c x y < 0) (h2 : c y z ≤ 0) : c x z < 0 := by
 have h3 := O.le x y z (by omega) h2
 by_cases h0 : c x z = 0
 ·have h4 := O.anti x z
  have h5 := O.le y z x h2 (by omega)
  have h6 := O.anti x y
  omega
 ·omega
theorem lt2 (O : OD c) {x y z : α} (h : c x y ≤ 0) (h2 : c y z < 0) : c x z < 0 := by
 have h3 := O.le x y z h (by omega)
 by_cases h0 : c x z = 0
 ·have h4 := O.anti x z
  have h5 := O.le z x y (by omega) h
  have h6 := O.anti y z
  omega
 ·omega
theorem or {d : α → α → Int} (O : OD c) (Q : OD d) : OD (fun x y => if c x y = 0 then d x y else c x y) := by
 refine ⟨fun x y => ?_, fun x y z => ?_⟩
 ·have := O.anti x y
  by_cases h : c x y = 0
  ·simp only [h, show c y x = 0 by omega, if_true]; exact Q.anti x y
  ·simp only [h, show ¬ c y x = 0 by omega, if_false]; exact this
 ·intro h1 h2
  have a1 : c x y ≤ 0 := by revert h1; split <;> omega
  have a2 : c y z ≤ 0 := by revert h2; split <;> omega
  have a3 := O.le x y z a1 a2
  by_cases h0 : c x z = 0
  ·have b1 : c x y = 0 := by
    by_cases q : c x y = 0
    ·exact q
    ·have := O.lt1 (show c x y < 0 by omega) a2; omega
   have b2 : c y z = 0 := by
    by_cases q : c y z = 0
    ·exact q
    ·have := O.lt2 a1 (show c y z < 0 by omega); omega
   simp only [b1, b2, h0, if_true] at h1 h2 ⊢
   exact Q.le x y z h1 h2
  ·simp only [h0, if_false]; exact a3
end OD
section
variable {α : Type} {P : α → Prop} {cmp : α × α → Option Int} {bq : α → α → Bool} {c : α → α → Int}
end
section
variable {α : Type} {c : α → α → Int}
abbrev IA (c : α → α → Int) (l : List α) : Prop := l.Pairwise (fun x y => c x y < 0)
end
theorem Uu : OD E4 := ⟨fun a b => KK a b, VM⟩
theorem OD.pull {α β : Type} {c : α → α → Int} (O : OD c) (f : β → α) : OD (fun x y => c (f x) (f y)) := ⟨fun _x _y => O.anti _ _, fun _x _y _z => O.le _ _ _⟩
theorem Sl : OD Fk := by
 have := (Uu.pull Ab.fD).or ((Uu.pull Ab.fB).or (Uu.pull Ab.fE))
 have e : Fk = fun (x y : Ab) => if E4 x.fD y.fD = 0 then (if E4 x.fB y.fB = 0 then E4 x.fE y.fE else E4 x.fB y.fB) else E4 x.fD y.fD := by
  funext x y
  unfold Fk Us Us Us Us
  repeat' split
  all_goals (first | rfl | omega | simp_all)
 rw [e]; exact this
end Go.Lift
namespace Go.Lift
open Go
variable {α : Type}
end Go.Lift
namespace Go.Lift
open Go
section
variable {α : Type} {c : α → α → Int}
variable {P : α → Prop} {eq : α × α → Option Bool} {b : α → α → Bool}
end
end Go.Lift
namespace Go.Lift
open Option renaming bind_some → oS
open List renaming getElem?_eq_some_iff → lI
open Go
def zP : Aa := ⟨[], [], [], []⟩
def LJ (l : List Int) (i : Nat) (x : Int) : Option (Aa × Int) := if 0 < i ∧ x ≤ l.getD (i - 1) 0 then some (zP, 1) else none
def Ok (l : List Int) : Bool := (CR (LJ l) 0 l).isNone
def WO (p : Aa) (x : Int) : Bool := decide (0 ≤ x ∧ x < (p.fA.length : Int))
def KQ (l : List Int) (x : Int) : Int := (CR (fun i y => if (y == x) = true then some ((i : Nat) : Int) else none) 0 l).getD (-1)
def Oy (l : List Int) (t : Am) : List Am := if 0 ≤ KQ l t.fF ∧ 0 ≤ KQ l t.fJ then [⟨t.fG, KQ l t.fF, KQ l t.fJ, t.fQ, t.fP, t.fK⟩] else []
def QD (xs : List Int) (s : Int) : Int := xs.getD s.toNat 0
def F3 (p : Aa) (l : List Int) : Aa := ⟨l.map (QD p.fA), l.map (QD p.fH), l.map (QD p.fL), CS (fun _ t => Oy l t) 0 p.fC⟩
def If (p : Aa) (l : List Int) : Aa × Int := if Ok l = true then (if l.all (WO p) = true then (F3 p l, 0) else (zP, 4)) else (zP, 1)
theorem Ts (l : List Int) {r : Aa × Int} (h : CR (LJ l) 0 l = some r) : r = (zP, 1) := by
 obtain ⟨j, x, _, h⟩ := DI h
 unfold LJ at h
 split at h
 ·cases h; rfl
 ·cases h
theorem Wt {N : Nat} (hN : N ≤ 1000000) (l : List Int) (hl : l.length < N) (j : Unit → Option (Aa × Int)) : CH N l j N 0 = if Ok l = true then j () else some (zP, 1) := by
 have h := Cx (CH N l j) l (j ()) (LJ l)
  (fun n i x hx => by
   have hi := (lI.1 hx).1
   rw [CH, Az (by omega)]
   simp only [Bd]
   unfold LJ
   by_cases h0 : 0 < i
   ·rw [Az (by omega), AT, hx, Ce (by omega) (by omega), show (i : Int) - 1 = ((i - 1 : Nat) : Int) from by omega, Dt (d := 0) (by omega)]
    simp only [oS, h0, true_and]
    rw [AB (by omega)]
    by_cases h1 : x ≤ l.getD (i - 1) 0
    ·rw [Az h1, if_pos h1]; rfl
    ·rw [Ax h1, if_neg h1]; rfl
   ·rw [Ax (by omega), if_neg (fun h => h0 h.1), Ao, AB (by omega)]; rfl)
  (fun n => by rw [CH, Ax (by omega)]) N 0 (zA9 _) (by omega)
 rw [zC0] at h
 have h' : CH N l j N 0 = _ := h
 rw [h']
 unfold Ok
 cases hs : CR (LJ l) 0 l with
 | none => rfl
 | some r => rw [Ts l hs]; rfl
theorem ZU {N : Nat} (hN : N ≤ 1000000) (l : List Int) (hl : l.length < N) (j : Unit → Option (Aa × Int)) : A5 N l j N 1 = if Ok l = true then j () else some (zP, 1) := by
 cases hc : l with
 | nil =>
  obtain ⟨n, rfl⟩ : ∃ n, N = n + 1 := ⟨N - 1, by omega⟩
  rw [A5, Ax (by simp)]; rfl
 | cons y ys =>
  rw [← hc]
  have hll : l.length = ys.length + 1 := by rw [hc]; rfl
  have h := Cx (fun n i => A5 N l j n (i + 1)) ys (j ()) (fun i x => LJ l (i + 1) x)
   (fun n i x hx => by
    have hi := (lI.1 hx).1
    have hx' : l[i + 1]? = some x := by rw [hc]; simpa using hx
    show A5 N l j (n + 1) ((i : Int) + 1) = _
    rw [show (i : Int) + 1 = ((i + 1 : Nat) : Int) from by omega, A5, Az (by omega), AT, hx', Ce (by omega) (by omega), show ((i + 1 : Nat) : Int) - 1 = (i : Int) from by omega, Dt (d := 0) (by omega)]
    simp only [oS]
    unfold LJ
    rw [AB (by omega)]
    simp only [Nat.zero_lt_succ, true_and, Nat.add_sub_cancel]
    by_cases h1 : x ≤ l.getD i 0
    ·rw [Az h1, if_pos h1]; rfl
    ·rw [Ax h1, if_neg h1]
     show _ = A5 N l j n (((i + 1 : Nat) : Int) + 1)
     rw [show ((i + 1 : Nat) : Int) + 1 = ((i + 1 + 1 : Nat) : Int) from by omega])
   (fun n => by
    show A5 N l j (n + 1) ((ys.length : Int) + 1) = _
    rw [A5, Ax (by omega)]) N 0 (zA9 _) (by omega)
  rw [zC0] at h
  have h' : A5 N l j N 1 = _ := h
  rw [h']
  have e : CR (LJ l) 0 l = CR (fun i x => LJ l (i + 1) x) 0 ys := by
   have sh : ∀ (ys : List Int) (i : Nat), CR (LJ l) (i + 1) ys = CR (fun i x => LJ l (i + 1) x) i ys := by
    intro ys
    induction ys with
    | nil => intro i; rfl
    | cons z zs ih => intro i; rw [FN, FN, ih]
   have h0 : LJ l 0 y = none := by unfold LJ; rw [if_neg (by omega)]
   have q : ∀ g : Nat → Int → Option (Aa × Int), CR g 0 l = CR g 0 (y :: ys) := fun g => by rw [hc]
   rw [q, FN, h0, ← sh ys 0]
  unfold Ok
  rw [e]
  cases hs : CR (fun i x => LJ l (i + 1) x) 0 ys with
  | none => rfl
  | some r => rw [← e] at hs; rw [Ts l hs]; rfl
theorem NL {N : Nat} (hN : N ≤ 1000000) (l : List Int) (hl : l.length < N) (x : Int) : Dv N l x = some (KQ l x) ∧ Ec N l x = some (KQ l x) := by
 constructor
 ·unfold Dv
  have h := Cx (BT N l x fun _ => some (-1)) l (some (-1)) (fun i y => if (x == y) = true then some ((i : Nat) : Int) else none)
   (fun n i y hy => by
    have hi := (lI.1 hy).1
    rw [BT, Az (by omega), AT, hy]
    simp only [oS]
    rw [AB (by omega)]
    cases x == y <;> rfl)
   (fun n => by rw [BT, Ax (by omega)]) N 0 (zA9 _) (by omega)
  rw [zC0] at h
  have h' : BT N l x (fun _ => some (-1)) N 0 = _ := h
  refine h'.trans ?_
  unfold KQ
  have e : (fun (i : Nat) (y : Int) => if (x == y) = true then some (i : Int) else none) = fun i y => if (y == x) = true then some ((i : Nat) : Int) else none := by
   funext i y
   rw [Bool.beq_comm]
  rw [e]
  cases CR (fun i y => if (y == x) = true then some ((i : Nat) : Int) else none) 0 l <;> rfl
 ·unfold Ec
  have h := Cx (Cl N l x fun _ => some (-1)) l (some (-1)) (fun i y => if (y == x) = true then some ((i : Nat) : Int) else none)
   (fun n i y hy => by
    have hi := (lI.1 hy).1
    rw [Cl, Az (by omega), AT, hy]
    simp only [oS]
    rw [AB (by omega)]
    cases y == x <;> rfl)
   (fun n => by rw [Cl, Ax (by omega)]) N 0 (zA9 _) (by omega)
  rw [zC0] at h
  have h' : Cl N l x (fun _ => some (-1)) N 0 = _ := h
  refine h'.trans ?_
  unfold KQ
  cases CR (fun i y => if (y == x) = true then some ((i : Nat) : Int) else none) 0 l <;> rfl
theorem RF {N : Nat} (hN : N ≤ 1000000) {p : Aa} (h2 : p.fH.length = p.fA.length) (h3 : p.fL.length = p.fA.length) (l : List Int) (hl : l.length ≤ 1000) (j : List Int × List Int × List Int → Option (Aa × Int)) : ∀ (n i : Nat) (a b c : List Int), i ≤ l.length → l.length - i < n → a.length = i → b.length = i → c.length = i →
  DW N p l j n (a, b, c, (i : Int)) = if (l.drop i).all (WO p) = true then j (a ++ (l.drop i).map (QD p.fA), b ++ (l.drop i).map (QD p.fH), c ++ (l.drop i).map (QD p.fL)) else some (zP, 4)
 | 0, i, _, _, _, _, h, _, _, _ => by omega
 | n + 1, i, a, b, c, hi, h, ha, hb, hc => by
  rw [DW]
  by_cases h1 : i < l.length
  ·have hx : l[i]? = some l[i] := by simp [h1]
   rw [Az (by simp only; omega), C9 hx]
   simp only [AT, hx, oS, zF7, zC8]
   generalize l[i] = x
   unfold DF
   simp only [Bd]
   by_cases hr : 0 ≤ x ∧ x < (p.fA.length : Int)
   ·have hin : WO p x = true := decide_eq_true hr
    rw [hin, zE1, Az hr.1, decide_eq_true hr.2]
    simp only [oS, zB9, Ao]
    rw [Em (d := 0) hr.1 hr.2, Em (d := 0) hr.1 (by omega), Em (d := 0) hr.1 (by omega)]
    simp only [oS]
    rw [As (by simp only [zC2]; unfold Db; omega), As (by simp only [zC2]; unfold Db; omega), As (by simp only [zC2]; unfold Db; omega), AB (by omega),
     RF hN h2 h3 l hl j n (i + 1) _ _ _ (by omega) (by omega) (by simp [ha]) (by simp [hb]) (by simp [hc])]
    simp only [zD7, List.singleton_append]
    rfl
   ·have hin : WO p x = false := decide_eq_false hr
    rw [hin, zJ9, if_neg (by decide)]
    by_cases h0 : 0 ≤ x
    ·rw [Az h0, decide_eq_false (fun h => hr ⟨h0, h⟩)]; rfl
    ·rw [Ax h0]; rfl
  ·have : i = l.length := by omega
   subst this
   rw [Ax (by simp only; omega), zB2 (zB0 _)]
   simp
theorem V5 {N : Nat} (hN : N ≤ 1000000) {p : Aa} (h2 : p.fH.length = p.fA.length) (h3 : p.fL.length = p.fA.length) (l : List Int) (hl : l.length ≤ 1000) (j : List Int × List Int × List Int → Option (Aa × Int)) : ∀ (n i : Nat) (a b c : List Int), i ≤ l.length → l.length - i < n → a.length = i → b.length = i → c.length = i →
  C0 N p l j n (a, b, c, (i : Int)) = if (l.drop i).all (WO p) = true then j (a ++ (l.drop i).map (QD p.fA), b ++ (l.drop i).map (QD p.fH), c ++ (l.drop i).map (QD p.fL)) else some (zP, 4)
 | 0, i, _, _, _, _, h, _, _, _ => by omega
 | n + 1, i, a, b, c, hi, h, ha, hb, hc => by
  rw [C0]
  by_cases h1 : i < l.length
  ·have hx : l[i]? = some l[i] := by simp [h1]
   rw [Az (by simp only; omega), C9 hx]
   simp only [AT, hx, oS, zF7, zC8, Bd]
   generalize l[i] = x
   by_cases hr : 0 ≤ x ∧ x < (p.fA.length : Int)
   ·have hin : WO p x = true := decide_eq_true hr
    rw [hin, zE1, Ax (by omega), decide_eq_false (by omega), Ao]
    rw [Em (d := 0) hr.1 hr.2, Em (d := 0) hr.1 (by omega), Em (d := 0) hr.1 (by omega)]
    simp only [oS]
    rw [As (by simp only [zC2]; unfold Db; omega), As (by simp only [zC2]; unfold Db; omega), As (by simp only [zC2]; unfold Db; omega), AB (by omega),
     V5 hN h2 h3 l hl j n (i + 1) _ _ _ (by omega) (by omega) (by simp [ha]) (by simp [hb]) (by simp [hc])]
    simp only [zD7, List.singleton_append]
    rfl
   ·have hin : WO p x = false := decide_eq_false hr
    rw [hin, zJ9, if_neg (by decide)]
    by_cases h0 : x < 0
    ·rw [Az h0]; rfl
    ·rw [Ax h0, decide_eq_true (by omega)]; rfl
  ·have : i = l.length := by omega
   subst this
   rw [Ax (by simp only; omega), zB2 (zB0 _)]
   simp
end Go.Lift
namespace Go.Lift
open Option renaming bind_some → oS
open List renaming mem_of_getElem? → lM
open List renaming getElem?_eq_some_iff → lI
open Go
theorem U9 {N : Nat} (h20 : 100 ≤ N) (t : Am) (h1 : t.fP.length ≤ 6) (h2 : ∀ row, row ∈ t.fP → row.length ≤ 6) (h3 : t.fK.length ≤ 6) (h4 : ∀ row, row ∈ t.fK → row.length ≤ 6) : GJ N t = some t := by
 unfold GJ
 rw [S3 N (by omega), S3 N (by omega)]
 simp only [oS]
 have l2 : ∀ v4, De N t.fK (fun v10 => some ⟨t.fG, t.fF, t.fJ, t.fQ, v4, v10⟩) N (t.fK, 0) = some ⟨t.fG, t.fF, t.fJ, t.fQ, v4, t.fK⟩ := fun v4 => by
  have l2 := Ic (De N t.fK fun v12 => some ⟨t.fG, t.fF, t.fJ, t.fQ, v4, v12⟩) (fun a i => (a, i)) t.fK (fun v12 => some ⟨t.fG, t.fF, t.fJ, t.fQ, v4, v12⟩) (fun _ _ a => a) (fun _ a => a = t.fK)
   (fun n i x a hx ha => by
    subst ha
    have hi := (lI.1 hx).1
    refine ⟨?_, rfl⟩
    rw [De]
    simp only [AT, hx, oS]
    rw [Az (by omega), VV N (by have := h4 x (lM hx); omega)]
    simp only [oS]
    rw [AB (by omega), zB3, OY hx])
   (fun n a ha => by
    subst ha
    rw [De, Ax (by omega)]) N 0 t.fK (zA9 _) (by omega) rfl
  have e := l2.1
  rw [l2.2] at e
  exact e
 have l1 := Ic (D7 N t.fP fun v4 => De N t.fK (fun v10 => some ⟨t.fG, t.fF, t.fJ, t.fQ, v4, v10⟩) N (t.fK, 0)) (fun a i => (a, i)) t.fP (fun v4 => some ⟨t.fG, t.fF, t.fJ, t.fQ, v4, t.fK⟩) (fun _ _ a => a) (fun _ a => a = t.fP)
  (fun n i x a hx ha => by
   subst ha
   have hi := (lI.1 hx).1
   refine ⟨?_, rfl⟩
   rw [D7]
   simp only [AT, hx, oS]
   rw [Az (by omega), VV N (by have := h2 x (lM hx); omega)]
   simp only [oS]
   rw [AB (by omega), zB3, OY hx])
  (fun n a ha => by
   subst ha
   rw [D7, Ax (by omega)]
   exact l2 t.fP) N 0 t.fP (zA9 _) (by omega) rfl
 have e := l1.1
 rw [l1.2] at e
 exact e
theorem Qd {N : Nat} (h20 : 100 ≤ N) (l : List (List Bool)) (h1 : l.length ≤ 6) (h2 : ∀ row, row ∈ l → row.length ≤ 6) : DZ N l = some l := by
 unfold DZ
 rw [FQ (CP N l _) (fun a i => (a, i)) l some (fun _ x => [x]) 1 1000
  (fun i x hx => by simp)
  (fun n i x a hx ha => by
   have hi := (lI.1 hx).1
   have hr := h2 x (lM hx)
   rw [CP]
   simp only [AT, hx, oS]
   rw [Az (by omega), As (by simp only [zD2]; unfold Db; omega), As (by simp only [zC2] at ha ⊢; unfold Db; omega), AB (by omega)]
   rfl)
  (fun n a => by
   rw [CP, Ax (by omega)]) N [] (by omega) (by simp only [zD2]; omega), Ta]
 rfl
theorem TE {p : Aa} (hp : Bf p) {t : Am} (h : t ∈ p.fC) : (t.fP.length ≤ 6 ∧ ∀ row, row ∈ t.fP → row.length ≤ 6) ∧ t.fK.length ≤ 6 ∧ ∀ row, row ∈ t.fK → row.length ≤ 6 := by
 have ht := LP (hp.tab t h)
 exact ⟨N0 hp ht, aY hp ht⟩
theorem Km {N : Nat} (hN : N ≤ 1000000) (h20 : 100 ≤ N) {p : Aa} (hv : Bx p = 0) (l : List Int) (hl : l.length ≤ 90) : Fg N p l = some (If p l) := by
 obtain ⟨hp, _⟩ := Ch hv
 have hnt := hp.nt
 unfold Fg If
 rw [JN N p hN (by omega)]
 simp only [oS, hv, bne_self_eq_false, Ao]
 rw [Wt hN l (by omega)]
 split
 ·have h := RF hN hp.now hp.tgt l (by omega) (fun v12 => CV N p l (fun v24 => some (Aa.mk v12.1 v12.2.1 v12.2.2 v24, 0)) N ([], 0)) N 0 [] [] [] (zA9 _) (by omega) rfl rfl rfl
  rw [zC0] at h
  refine Eq.trans h ?_
  split
  ·rw [FQ (CV N p l _) (fun a i => (a, i)) p.fC (fun v24 => some (Aa.mk _ _ _ v24, 0)) (fun _ t => Oy l t) 1 1000
    (fun i t ht => by unfold Oy; split <;> simp)
    (fun n i t a ht ha => by
     have hi := (lI.1 ht).1
     obtain ⟨⟨a1, a2⟩, a3, a4⟩ := TE hp (lM ht)
     rw [CV]
     simp only [Bd, AT, ht, oS]
     rw [Az (by omega), (NL hN l (by omega) t.fF).1, (NL hN l (by omega) t.fJ).1]
     simp only [oS]
     rw [AB (by omega), U9 h20 t a1 a2 a3 a4]
     simp only [oS]
     unfold Oy at ha ⊢
     by_cases h1 : 0 ≤ KQ l t.fF
     ·rw [Az h1]
      by_cases h2 : 0 ≤ KQ l t.fJ
      ·rw [decide_eq_true h2, AN, if_pos ⟨h1, h2⟩]
       rw [if_pos ⟨h1, h2⟩] at ha
       rw [As (by simp only [zC2] at ha ⊢; unfold Db; omega)]
      ·rw [decide_eq_false h2, Ao, if_neg (fun h => h2 h.2), zH1]
     ·rw [Ax h1, Ao, if_neg (fun h => h1 h.1), zH1])
    (fun n a => by rw [CV, Ax (by omega)]) N [] (by omega) (by simp only [zD2]; omega)]
   rfl
  ·rfl
 ·rfl
theorem LA {N : Nat} (hN : N ≤ 1000000) (h20 : 100 ≤ N) {p : Aa} (hv : Bx p = 0) (l : List Int) (hl : l.length ≤ 90) : C2 N p l = some (If p l) := by
 obtain ⟨hp, _⟩ := Ch hv
 have hnt := hp.nt
 unfold C2 If
 rw [K9 N p hN (by omega)]
 simp only [oS, hv, bne_self_eq_false, Ao]
 rw [ZU hN l (by omega)]
 split
 ·have h := V5 hN hp.now hp.tgt l (by omega) (fun v10 => BL N p l (fun v23 => some (Aa.mk v10.1 v10.2.1 v10.2.2 v23, 0)) N ([], 0)) N 0 [] [] [] (zA9 _) (by omega) rfl rfl rfl
  rw [zC0] at h
  refine Eq.trans h ?_
  split
  ·rw [FQ (BL N p l _) (fun a i => (a, i)) p.fC (fun v24 => some (Aa.mk _ _ _ v24, 0)) (fun _ t => Oy l t) 1 1000
    (fun i t ht => by unfold Oy; split <;> simp)
    (fun n i t a ht ha => by
     have hi := (lI.1 ht).1
     obtain ⟨⟨a1, a2⟩, a3, a4⟩ := TE hp (lM ht)
     rw [BL]
     simp only [Bd, AT, ht, oS]
     rw [Az (by omega), (NL hN l (by omega) t.fF).2, (NL hN l (by omega) t.fJ).2]
     simp only [oS]
     unfold FE
     rw [AB (by omega), Qd h20 _ a1 a2, Qd h20 _ a3 a4]
     simp only [oS]
     unfold Oy at ha ⊢
     by_cases h1 : 0 ≤ KQ l t.fF
     ·rw [Az h1]
      by_cases h2 : 0 ≤ KQ l t.fJ
      ·rw [decide_eq_true h2, AN, if_pos ⟨h1, h2⟩]
       rw [if_pos ⟨h1, h2⟩] at ha
       rw [As (by simp only [zC2] at ha ⊢; unfold Db; omega)]
      ·rw [decide_eq_false h2, Ao, if_neg (fun h => h2 h.2), zH1]
     ·rw [Ax h1, Ao, if_neg (fun h => h1 h.1), zH1])
    (fun n a => by rw [BL, Ax (by omega)]) N [] (by omega) (by simp only [zD2]; omega)]
   rfl
  ·rfl
 ·rfl
end Go.Lift
namespace Go.Lift
open List renaming mem_of_getElem? → lM
open List renaming getElem?_eq_some_iff → lI
open List renaming getD_eq_getElem?_getD → lD
open Go
theorem Vi {α R : Type} {f : Nat → α → Option R} {i : Nat} {xs : List α} (h : ∀ j x, xs[j]? = some x → f (i + j) x = none) : CR f i xs = none := by
 cases hs : CR f i xs with
 | none => rfl
 | some r =>
  obtain ⟨j, x, h1, h2⟩ := DI hs
  rw [h j x h1] at h2; cases h2
theorem Mi {l : List Int} (h : Ok l = true) {i : Nat} {x y : Int} (hx : l[i]? = some x) (hy : l[i + 1]? = some y) : x < y := by
 unfold Ok at h
 have h0 : CR (LJ l) 0 l = none := by
  cases hs : CR (LJ l) 0 l with
  | none => rfl
  | some r => rw [hs] at h; cases h
 have h1 := Fu h0 (i + 1) y hy
 unfold LJ at h1
 split at h1
 ·cases h1
 ·rename_i hn
  have e : l.getD (0 + (i + 1) - 1) 0 = x := by
   rw [show 0 + (i + 1) - 1 = i from by omega, lD, hx]; rfl
  rw [e] at hn
  omega
theorem Xx {l : List Int} (h : Ok l = true) (h0 : ∀ x, x ∈ l → 0 ≤ x) : ∀ (i : Nat) (x : Int), l[i]? = some x → (i : Int) ≤ x
 | 0, x, hx => h0 x (lM hx)
 | i + 1, x, hx => by
  have hi := (lI.1 hx).1
  have hy : l[i]? = some l[i] := by simp
  have h1 := Xx h h0 i _ hy
  have h2 := Mi h hy hx
  omega
theorem Sa {p : Aa} {l : List Int} (h : l.all (WO p) = true) : ∀ x, x ∈ l → 0 ≤ x ∧ x < (p.fA.length : Int) := fun x hx => of_decide_eq_true (zA4.1 h x hx)
theorem ZG {p : Aa} {l : List Int} (h : Ok l = true) (h0 : l.all (WO p) = true) : l.length ≤ p.fA.length := by
 by_cases hl : l.length = 0
 ·omega
 ·have hx : l[l.length - 1]? = some l[l.length - 1] := by simp [show l.length - 1 < l.length from by omega]
  have h1 := Xx h (fun x hx => (Sa h0 x hx).1) _ _ hx
  have h2 := (Sa h0 _ (lM hx)).2
  omega
theorem Xi {l : List Int} {x : Int} (h : 0 ≤ KQ l x) : KQ l x < (l.length : Int) ∧ l.getD (KQ l x).toNat 0 = x := by
 unfold KQ at h ⊢
 cases hs : CR (fun i y => if (y == x) = true then some ((i : Nat) : Int) else none) 0 l with
 | none => rw [hs] at h; simp at h
 | some r =>
  obtain ⟨j, y, hj, hq⟩ := DI hs
  split at hq
  ·rename_i he
   cases hq
   have hjl := (lI.1 hj).1
   refine ⟨by simp only [zC9]; omega, ?_⟩
   simp only [zC9, zA1, zB3]
   rw [lD, hj]
   simpa using he
  ·cases hq
theorem Sv {l xs : List Int} {k : Nat} (h : k < l.length) : (l.map (QD xs)).getD k 0 = xs.getD (l.getD k 0).toNat 0 := by
 rw [lD, zA3, lD (l := l)]
 have : l[k]? = some l[k] := by simp [h]
 rw [this]; rfl
theorem XP {p : Aa} {l : List Int} {t t' : Am} (ht : D8 p t = 0) (hl : t' ∈ Oy l t) : D8 (F3 p l) t' = 0 := by
 unfold Oy at hl
 split at hl
 ·rename_i hp
  obtain ⟨h1, h2⟩ := Xi hp.1
  obtain ⟨h3, h4⟩ := Xi hp.2
  have : t' = ⟨t.fG, KQ l t.fF, KQ l t.fJ, t.fQ, t.fP, t.fK⟩ := by simpa using hl
  subst this
  have e1 : (F3 p l).fA.getD (KQ l t.fF).toNat 0 = p.fA.getD t.fF.toNat 0 := by
   show (l.map (QD p.fA)).getD _ 0 = _
   rw [Sv (by omega), h2]
  have e2 : (F3 p l).fA.getD (KQ l t.fJ).toNat 0 = p.fA.getD t.fJ.toNat 0 := by
   show (l.map (QD p.fA)).getD _ 0 = _
   rw [Sv (by omega), h4]
  have e3 : (F3 p l).fA.length = l.length := by show (l.map _).length = _; rw [zA8]
  have hok := LP ht
  unfold D8 at ht ⊢
  simp only [e1, e2, e3]
  split at ht
  ·cases ht
  ·rename_i g1
   rw [if_neg g1]
   split at ht
   ·cases ht
   ·rw [if_neg (by omega)]
    exact ht
 ·cases hl
theorem J8 {p : Aa} (hv : Bx p = 0) {l : List Int} (ha : Ok l = true) (hi : l.all (WO p) = true) : Bx (F3 p l) = 0 := by
 obtain ⟨hp, hx⟩ := Ch hv
 have hn := ZG ha hi
 have h6 := hp.nv
 have h12 := hp.nt
 have ht : (F3 p l).fC.length ≤ 12 := by
  have : (CS (fun _ t => Oy l t) 0 p.fC).length ≤ 1 * p.fC.length := Gr fun j t _ => by unfold Oy; split <;> simp
  show (CS (fun _ t => Oy l t) 0 p.fC).length ≤ 12
  omega
 have e3 : ∀ xs : List Int, (l.map (QD xs)).length = l.length := fun xs => zA8 _
 unfold Bx
 rw [if_neg (by show ¬ (6 < (l.map (QD p.fA)).length ∨ 12 < (F3 p l).fC.length); rw [e3]; omega),
  if_neg (by show ¬ ((l.map (QD p.fH)).length ≠ (l.map (QD p.fA)).length ∨ (l.map (QD p.fL)).length ≠ (l.map (QD p.fA)).length); rw [e3, e3, e3]; simp)]
 have s1 : CR (Gp (F3 p l)) 0 (F3 p l).fA = none := by
  refine Vi fun j v hj => ?_
  have hj' : (l.map (QD p.fA))[j]? = some v := hj
  rw [zA3] at hj'
  cases hs : l[j]? with
  | none => rw [hs] at hj'; cases hj'
  | some s =>
   rw [hs] at hj'; cases hj'
   have hjl := (lI.1 hs).1
   have hin := Sa hi s (lM hs)
   obtain ⟨b1, b2, b3, b4⟩ := hx s.toNat (by omega)
   have b5 := Kx hp.ver hin.1 hin.2
   have e : l.getD j 0 = s := by rw [lD, hs]; rfl
   have q1 : (F3 p l).fH.getD (0 + j) 0 = p.fH.getD s.toNat 0 := by
    show (l.map (QD p.fH)).getD _ 0 = _; rw [zA1, Sv hjl, e]
   have q2 : (F3 p l).fL.getD (0 + j) 0 = p.fL.getD s.toNat 0 := by
    show (l.map (QD p.fL)).getD _ 0 = _; rw [zA1, Sv hjl, e]
   unfold Gp
   rw [q1, q2, if_neg]
   show ¬ (p.fA.getD s.toNat 0 < 1 ∨ 6 < p.fA.getD s.toNat 0 ∨ _ ∨ p.fA.getD s.toNat 0 ≤ _ ∨ _ ∨ p.fA.getD s.toNat 0 ≤ _)
   omega
 have s2 : CR (MM (F3 p l)) 0 (F3 p l).fC = none := by
  refine Vi fun j t hj => ?_
  have hm : t ∈ CS (fun _ t => Oy l t) 0 p.fC := lM hj
  obtain ⟨k, t0, hk, hm⟩ := Hv.1 hm
  unfold MM
  rw [if_pos (XP (hp.tab t0 (lM hk)) hm)]
 rw [s1, s2]; rfl
end Go.Lift
namespace Go.Lift
open Option renaming bind_some → oS
open Go
def S9 (p : Aa) (l : List Int) : Bool := match GC 2000 (F3 p l) with
 | some r => !(r.2 == 0)
 | none => false
def Y9 (p : Aa) (l : List Int) : Bool × Int := if (If p l).2 = 0 then (S9 p l, 0) else (false, (If p l).2)
theorem Mo {p : Aa} {l : List Int} (h : (If p l).2 = 0) : Ok l = true ∧ l.all (WO p) = true ∧ If p l = (F3 p l, 0) := by
 unfold If at h ⊢
 split at h
 ·rename_i h1
  split at h
  ·rename_i h2
   exact ⟨h1, h2, by rw [if_pos h1, if_pos h2]⟩
  ·cases h
 ·cases h
theorem VI (p : Aa) (l : List Int) (h : (If p l).2 ≠ 0) : ((If p l).2 == 0) = false ∧ ((If p l).2 != 0) = true := by
 refine ⟨beq_eq_false_iff_ne.2 h, ?_⟩
 unfold bne; rw [beq_eq_false_iff_ne.2 h]; rfl
theorem Zz {p : Aa} (hv : Bx p = 0) {l : List Int} (h : (If p l).2 = 0) (hl : Lr (F3 p l)) : S9 p l = true ↔ ¬ Zc (F3 p l) := by
 obtain ⟨h1, h2, _⟩ := Mo h
 obtain ⟨r, e, hs⟩ := OE (N := 2000) (by omega) (by omega) (J8 hv h1 h2) hl
 unfold S9
 rw [e]
 obtain ⟨q, _, _⟩ := Qk hs
 show (!(r.2 == 0)) = true ↔ _
 rw [← q]
 generalize (r.2 == 0) = b
 cases b <;> simp
theorem Wo {q : Aa} (hv : Bx q = 0) (hL : Lr q) {r : List Ad × Int} (hs : PW q r) : ∃ b : Bool, (r.2 == 0) = b ∧ (r.2 == 3) = false ∧ (match GC 2000 q with | some r => !(r.2 == 0) | none => false) = !b := by
 obtain ⟨r2, e2, hs2⟩ := OE (N := 2000) (by omega) (by omega) hv hL
 obtain ⟨q1, q2, _⟩ := Qk hs
 obtain ⟨q1'', _, _⟩ := Qk hs2
 have eb : ∀ a : Int, (a == 0) = (r2.2 == 0) ↔ ((a == 0) = true ↔ (r2.2 == 0) = true) := fun a => by cases a == 0 <;> cases r2.2 == 0 <;> simp
 have w : (r.2 == 0) = (r2.2 == 0) := (eb _).2 (q1.trans q1''.symm)
 exact ⟨_, w, q2, by rw [e2]⟩
theorem UM {N : Nat} (hN : N ≤ 1000000) (h1 : 1000 ≤ N) {p : Aa} (hv : Bx p = 0) {l : List Int} (hl : l.length ≤ 90) (hL : (If p l).2 = 0 → Lr (F3 p l)) : E5 N p l = some (Y9 p l) := by
 unfold E5 Y9
 rw [JN N p hN (by omega), Km hN (by omega) hv l hl]
 simp only [oS, hv, bne_self_eq_false, Ao]
 by_cases h : (If p l).2 = 0
 ·obtain ⟨g1, g2, g3⟩ := Mo h
  have hvr := J8 hv g1 g2
  obtain ⟨r, e, hs⟩ := OE hN h1 hvr (hL h)
  obtain ⟨b, w, q2, hb⟩ := Wo hvr (hL h) hs
  have hb : S9 p l = !b := hb
  rw [if_pos h, g3]
  simp only [bne_self_eq_false, Ao]
  rw [e]
  simp only [oS]
  rw [q2, Ao, hb, w]
  cases b <;> rfl
 ·rw [if_neg h, (VI p l h).2]; rfl
def D9 : Nat → List (List Int)
 | 0 => [[]]
 | 1 => [[], [0]]
 | 2 => [[], [0], [1], [0, 1]]
 | _ => [[], [0], [1], [2], [0, 1], [0, 2], [1, 2], [0, 1, 2]]
structure Uw (p : Aa) : Prop where
 v : Bx p = 0
 n : p.fA.length ≤ 3
 l : ∀ s, s ∈ D9 p.fA.length → Lr (F3 p s)
theorem Y6 {l : List Int} {n : Nat} (hn : n ≤ 3) (h : Ok l = true) (h0 : ∀ x, x ∈ l → 0 ≤ x ∧ x < (n : Int)) : l ∈ D9 n := by
 match l, h, h0 with
 | [], _, _ => match n with | 0 => simp [D9] | 1 => simp [D9] | 2 => simp [D9] | n + 3 => simp [D9]
 | [a], h, h0 =>
  have ha := h0 a (by simp)
  match n, hn with
  | 0, _ => omega
  | 1, _ =>
   obtain rfl : a = 0 := by omega
   simp [D9]
  | 2, _ => rcases (by omega : a = 0 ∨ a = 1) with rfl | rfl <;> simp [D9]
  | 3, _ => rcases (by omega : a = 0 ∨ a = 1 ∨ a = 2) with rfl | rfl | rfl <;> simp [D9]
  | n + 4, hn => omega
 | [a, b], h, h0 =>
  have ha := h0 a (by simp)
  have hb := h0 b (by simp)
  have hab := Mi h (i := 0) (x := a) (y := b) rfl rfl
  match n, hn with
  | 0, _ => omega
  | 1, _ => omega
  | 2, _ =>
   obtain ⟨rfl, rfl⟩ : a = 0 ∧ b = 1 := by omega
   simp [D9]
  | 3, _ => rcases (by omega : (a = 0 ∧ b = 1) ∨ (a = 0 ∧ b = 2) ∨ (a = 1 ∧ b = 2)) with ⟨rfl, rfl⟩ | ⟨rfl, rfl⟩ | ⟨rfl, rfl⟩ <;> simp [D9]
  | n + 4, hn => omega
 | a :: b :: c :: r, h, h0 =>
  have ha := h0 a (by simp)
  have hc := h0 c (by simp)
  have hab := Mi h (i := 0) (x := a) (y := b) rfl rfl
  have hbc := Mi h (i := 1) (x := b) (y := c) rfl rfl
  match n, hn with
  | 0, _ => omega
  | 1, _ => omega
  | 2, _ => omega
  | 3, _ =>
   obtain ⟨rfl, rfl, rfl⟩ : a = 0 ∧ b = 1 ∧ c = 2 := by omega
   cases r with
   | nil => simp [D9]
   | cons d r =>
    have hd := h0 d (by simp)
    have hcd := Mi h (i := 2) (x := 2) (y := d) rfl rfl
    omega
  | n + 4, hn => omega
theorem W1 {p : Aa} (hn : p.fA.length ≤ 3) {s : List Int} (hs : s ∈ D9 p.fA.length) : (If p s).2 = 0 ∧ s.length ≤ 3 := by
 have key : ∀ n : Nat, n ≤ 3 → ∀ s, s ∈ D9 n → Ok s = true ∧ s.length ≤ 3 ∧ ∀ x, x ∈ s → 0 ≤ x ∧ x < (n : Int) := by
  intro n hn
  match n, hn with
  | 0, _ => decide
  | 1, _ => decide
  | 2, _ => decide
  | 3, _ => decide
  | n + 4, hn => omega
 obtain ⟨h1, h2, h3⟩ := key _ hn s hs
 refine ⟨?_, h2⟩
 unfold If
 rw [if_pos h1, if_pos (show s.all (WO p) = true from zA4.2 fun x hx => decide_eq_true (h3 x hx))]
theorem WC {p : Aa} (h : Uw p) {l : List Int} (hl : (If p l).2 = 0) : Lr (F3 p l) := by
 obtain ⟨h1, h2, _⟩ := Mo hl
 exact h.l l (Y6 h.n h1 (Sa h2))
end Go.Lift
namespace Go.Lift
open Option renaming bind_some → oS
open List renaming mem_of_getElem? → lM
open Go
theorem QE {p : Aa} (hp : Bf p) {m : Ab} (hm : Bz p m) (hr : AZ p m = true) {n : Nat} {l : List IP} (hs : Hz p m 120 n = some l) : ∃ l', Hz p m 120 1000 = some l' := by
 obtain ⟨ws, hg⟩ := SO hp hm hr hs
 have hl : l.length ≤ 120 := Bfs.go_len _ _ _ _ (by simp) hs
 refine T0 (S := LI l) (by unfold LI; rw [zA8]; omega) ?_ 1000 0 [(m, -1, MT)] (by simp [LI]) (fun y hy => ?_) (zA9 _) (by omega)
 ·intro y hy w hw
  obtain ⟨⟨y0, f, s⟩, hmem, rfl⟩ := zB6.1 hy
  obtain ⟨k, hk⟩ := zB5.1 hmem
  have hkl := Bfs.lt_get hk
  obtain ⟨wy, hwy⟩ := Bfs.get_ex (l := ws) (k := k) (by rw [hg.inv.len]; exact hkl)
  obtain ⟨k', f', s', w', e1, _, _⟩ := hg.inv.closed k y0 f s wy hk hwy w (.inl ⟨hkl, hw⟩)
  exact zB6.2 ⟨_, lM e1, rfl⟩
 ·simp only [LI, zC8, zI5, zD6] at hy
  subst hy
  obtain ⟨s0, hs0⟩ := hg.inv.root
  exact zB6.2 ⟨_, lM hs0, rfl⟩
theorem Up {N : Nat} (hN : N ≤ 1000000) (h1 : 1000 ≤ N) {p : Aa} (hv : Bx p = 0) : ∃ b, E0 N p 120 = some b ∧ (b = true → Lr p) := by
 obtain ⟨hp, _⟩ := Ch hv
 have hm := K3 hv
 unfold E0
 rw [Nn N p (by omega) (by omega), if_pos hv]
 simp only [oS, Bd, hv, bne_self_eq_false, Ao]
 rw [IX N p _ (by omega) (by omega) hp hm]
 simp only [oS]
 cases hr : AZ p (Dz p)
 ·exact ⟨true, rfl, fun _ => .inl hr⟩
 ·have e := Sy (N := N) (by omega) (by omega) hv hm hr (most := 120) (by omega) (by omega) (.inl (by omega))
  have e' : Ea N p (Dz p) 120 = _ := e
  rw [zB9, Ao, e']
  cases hs : Hz p (Dz p) 120 N with
  | none => exact ⟨false, rfl, fun h => by cases h⟩
  | some l => exact ⟨true, rfl, fun _ => .inr (QE hp hm hr hs)⟩
theorem SC : E6 2000 = some true := by kernel_rfl
theorem VX {n : Nat} (h : n ≤ 3) : Cr 2000 (n : Int) = some (D9 n) := by
 match n, h with
 | 0, _ => show Cr 2000 0 = some (D9 0); kernel_rfl
 | 1, _ => show Cr 2000 1 = some (D9 1); kernel_rfl
 | 2, _ => show Cr 2000 2 = some (D9 2); kernel_rfl
 | 3, _ => show Cr 2000 3 = some (D9 3); kernel_rfl
 | n + 4, h => omega
theorem Mp (n : Nat) : (D9 n).length ≤ 8 := by
 match n with
 | 0 => decide
 | 1 => decide
 | 2 => decide
 | n + 3 => simp [D9]
theorem Pn {p : Aa} (hv : Bx p = 0) (hn : p.fA.length ≤ 3) : ∀ (n i : Nat), i ≤ (D9 p.fA.length).length → (D9 p.fA.length).length - i < n →
  ∃ b, CZ 2000 p (D9 p.fA.length) (fun _ => some true) n (i : Int) = some b ∧ (b = true → ∀ s, s ∈ (D9 p.fA.length).drop i → Lr (F3 p s))
 | 0, i, _, h => by omega
 | n + 1, i, hi, h => by
  have h8 := Mp p.fA.length
  rw [CZ]
  by_cases h1 : i < (D9 p.fA.length).length
  ·have hx : (D9 p.fA.length)[i]? = some (D9 p.fA.length)[i] := by simp [h1]
   have hm : (D9 p.fA.length)[i] ∈ D9 p.fA.length := zG1 _
   rw [Az (by omega), AT, hx, C9 hx]
   generalize (D9 p.fA.length)[i] = s at hx hm ⊢
   obtain ⟨g1, g2⟩ := W1 hn hm
   obtain ⟨k1, k2, k3⟩ := Mo g1
   simp only [oS, Bd]
   rw [LA (by omega) (by omega) hv s (by omega), k3]
   simp only [oS, bne_self_eq_false, Ao]
   obtain ⟨b, e, hb⟩ := Up (N := 2000) (by omega) (by omega) (J8 hv k1 k2)
   rw [e]
   simp only [oS]
   cases b
   ·exact ⟨false, rfl, fun h => by cases h⟩
   ·obtain ⟨b2, e2, hb2⟩ := Pn hv hn n (i + 1) (by omega) (by omega)
    rw [zB9, Ao, AB (by omega)]
    refine ⟨b2, e2, fun h t ht => ?_⟩
    rcases zB1.1 ht with rfl | ht
    ·exact hb rfl
    ·exact hb2 h t ht
  ·rw [Ax (by omega)]
   exact ⟨true, rfl, fun _ s hs => by rw [zB2 (by omega)] at hs; cases hs⟩
theorem YA (d : BN) (wd : F0 d) : ∃ p b, FU 2000 d = some (p, b) ∧ (b = true → Uw p) := by
 obtain ⟨p, ok, e, h⟩ := ew 2000 d (by omega) (by omega) wd
 unfold FU
 rw [e]
 simp only [oS, Bd]
 cases ok
 ·exact ⟨p, false, rfl, fun h => by cases h⟩
 ·rw [AN]
  have hv := (h rfl).valid
  unfold FW
  rw [K9 2000 p (by omega) (by omega)]
  simp only [oS, hv, bne_self_eq_false, Ao]
  by_cases h3 : 3 < (p.fA.length : Int)
  ·rw [Az h3]
   exact ⟨p, false, rfl, fun h => by cases h⟩
  ·rw [Ax h3, VX (by omega)]
   simp only [oS]
   obtain ⟨b, e2, hb⟩ := Pn hv (by omega) 2000 0 (zA9 _) (by have := Mp p.fA.length; omega)
   have e2' : CZ 2000 p (D9 p.fA.length) (fun _ => some true) 2000 0 = some b := e2
   rw [e2']
   exact ⟨p, b, rfl, fun h => ⟨hv, by omega, fun s hs => hb h s (by rw [zC0]; exact hs)⟩⟩
def LH (x : Ab) : List Ab → List Ab
 | [] => [x]
 | y :: ys => if Fk y x = 0 then y :: ys else if 0 < Fk y x then x :: y :: ys else y :: LH x ys
theorem PM {x : Ab} : ∀ {l : List Ab} {z : Ab}, z ∈ LH x l ↔ z = x ∨ z ∈ l
 | [], z => by simp [LH]
 | y :: ys, z => by
  simp only [LH]
  split
  ·rename_i h
   have h := KM h
   constructor
   ·exact fun hz => .inr hz
   ·rintro (rfl | hz)
    ·rw [h]; simp
    ·exact hz
  ·split
   ·simp
   ·rw [zB1, PM, zB1]
    constructor
    ·rintro (h | h | h)
     ·exact .inr (.inl h)
     ·exact .inl h
     ·exact .inr (.inr h)
    ·rintro (h | h | h)
     ·exact .inr (.inl h)
     ·exact .inl h
     ·exact .inr (.inr h)
theorem TY (x : Ab) : ∀ (l : List Ab), (LH x l).length ≤ l.length + 1 ∧ l.length ≤ (LH x l).length
 | [] => by simp [LH]
 | y :: ys => by
  have := TY x ys
  simp only [LH]
  split
  ·simp
  ·split
   ·simp
   ·simp only [zC1]; omega
theorem OL {x : Ab} : ∀ {l : List Ab}, IA Fk l → IA Fk (LH x l)
 | [], _ => by simp [LH, IA]
 | y :: ys, h => by
  obtain ⟨h1, h2⟩ := zF1.1 h
  simp only [LH]
  split
  ·exact h
  ·split
   ·rename_i h0 hx
    have hxy : Fk x y < 0 := by rw [Wz y x]; omega
    refine zF1.2 ⟨fun z hz => ?_, h⟩
    rcases zB1.1 hz with rfl | hz
    ·exact hxy
    ·have := h1 z hz
     exact Sl.lt1 hxy (by omega)
   ·rename_i h0 hx
    refine zF1.2 ⟨fun z hz => ?_, OL h2⟩
    rcases PM.1 hz with rfl | hz
    ·omega
    ·exact h1 z hz
def C4 (a : List Ab) : List Ab → List Ab
 | [] => a
 | x :: xs => C4 (LH x a) xs
theorem K5 {z : Ab} : ∀ {xs a : List Ab}, z ∈ C4 a xs ↔ z ∈ a ∨ z ∈ xs
 | [], a => by simp [C4]
 | x :: xs, a => by
  simp only [C4]
  rw [K5, PM, zB1]
  constructor
  ·rintro ((h | h) | h)
   ·exact .inr (.inl h)
   ·exact .inl h
   ·exact .inr (.inr h)
  ·rintro (h | h | h)
   ·exact .inl (.inr h)
   ·exact .inl (.inl h)
   ·exact .inr h
theorem Ky : ∀ {xs a : List Ab}, IA Fk a → IA Fk (C4 a xs)
 | [], _, h => h
 | _ :: xs, _, h => Ky (xs := xs) (OL h)
theorem Nc : ∀ (xs a : List Ab), (C4 a xs).length ≤ a.length + xs.length
 | [], a => by simp [C4]
 | x :: xs, a => by
  have h1 := Nc xs (LH x a)
  have h2 := TY x a
  simp only [C4, zC1]; omega
def Fe (l : List IP) : List Ab := l.map (·.1)
theorem Uc {l : List IP} {i : Nat} {m : Ab} {f : Int} {t : Ad} (h : l[i]? = some (m, f, t)) : (Fe l)[i]? = some m := by
 unfold Fe; rw [zA3, h]; rfl
theorem K4 (l : List IP) : (Fe l).length = l.length := zA8 _
theorem I2 {l : List IP} {x : Ab} : x ∈ Fe l ↔ ∃ n, n ∈ l ∧ n.1 = x := zB6
theorem Oh {p : Aa} (hp : Bf p) {most : Nat} : ∀ (n i : Nat) (l l' : List IP), Bfs.go (Ih p) most n i l = some l' → (∀ n, n ∈ l → Bz p n.1 ∧ AZ p n.1 = true) → ∀ n, n ∈ l' → Bz p n.1 ∧ AZ p n.1 = true
 | 0, i, l, l', h, _ => by cases h
 | n + 1, i, l, l', h, hA => by
  simp only [Bfs.go] at h
  split at h
  ·cases h; exact hA
  ·rename_i nd hx
   cases hin : Bfs.inner most i (Ih p nd.1) l with
   | none => rw [hin] at h; cases h
   | some l1 =>
    rw [hin] at h
    exact Oh hp n (i + 1) l1 l' h (IN hin (fun q hq => Pw hp (hA _ (lM hx)).1 hq) hA).1
instance cp : Inhabited Ab := ⟨HL⟩
theorem S5 {N : Nat} (hN : N ≤ 1000000) {a b : Ab} (h1 : a.fD.length < N) (h2 : a.fB.length < N) (h3 : a.fE.length < N) (h4 : 3 < N) : Dh N a b = some (Fk a b) := by
 unfold Dh
 rw [PD h1 hN, PD h2 hN, S4 h3 hN]
 simp only [oS]
 rw [aS (by simp; omega) hN]
 rfl
end Go.Lift
namespace Go.Lift
open IntKind renaming wrap → wI
open Option renaming bind_some → oS
open List renaming mem_of_getElem? → lM
open List renaming getElem?_eq_some_iff → lI
open Go
structure Ur (m : Ab) : Prop where
 base : m.fD.length ≤ 100
 next : m.fB.length ≤ 100
 held : m.fE.length ≤ 100
 u8 : O8 Mz m.fE
theorem Bz.lok {p : Aa} (hp : Bf p) {m : Ab} (h : Bz p m) : Ur m := by
 have hnv := hp.nv
 have hnt := hp.nt
 exact ⟨by rw [h.base]; omega, by rw [h.next]; omega, by rw [h.held]; omega, KZ h⟩
theorem XR {N : Nat} (hN : N ≤ 1000000) (h20 : 1010 ≤ N) {a b : Ab} (ha : Ur a) (hb : Ur b) : B3 N a b = some (Fk a b) :=
 OM hN (by have := ha.base; omega) (by have := ha.next; omega) (by have := ha.held; omega) (by have := hb.held; omega) ha.u8 hb.u8
theorem U2 {N : Nat} (hN : N ≤ 1000000) (h20 : 1010 ≤ N) {a b : Ab} (ha : Ur a) : Dh N a b = some (Fk a b) :=
 S5 hN (by have := ha.base; omega) (by have := ha.next; omega) (by have := ha.held; omega) (by omega)
def Fw (x : Ab) : List Ab → Nat
 | [] => 0
 | y :: ys => if Fk y x < 0 then Fw x ys + 1 else 0
def Nb (x : Ab) : List Ab → Bool
 | [] => false
 | y :: ys => if Fk y x < 0 then Nb x ys else Fk y x == 0
theorem RL (x : Ab) : ∀ l : List Ab, Fw x l ≤ l.length
 | [] => zB0 _
 | y :: ys => by
  have := RL x ys
  simp only [Fw]; split
  ·simp only [zC1]; omega
  ·omega
theorem PT (x : Ab) : ∀ l : List Ab, Nb x l = match l[Fw x l]? with
  | none => false
  | some y => Fk y x == 0
 | [] => rfl
 | y :: ys => by
  simp only [Fw, Nb]
  split
  ·rw [List.getElem?_cons_succ]; exact PT x ys
  ·rfl
theorem KF {x : Ab} : ∀ {l : List Ab}, IA Fk l → Nb x l = decide (x ∈ l)
 | [], _ => by simp [Nb]
 | y :: ys, h => by
  obtain ⟨h1, h2⟩ := zF1.1 h
  simp only [Nb]
  split
  ·rename_i hy
   rw [KF h2]
   have : y ≠ x := fun e => by rw [e, Ms] at hy; omega
   rw [Bool.eq_iff_iff, decide_eq_true_eq, decide_eq_true_eq, zB1]
   exact ⟨.inr, fun h => h.resolve_left fun e => this e.symm⟩
  ·rename_i hy
   rw [Bool.eq_iff_iff, beq_iff_eq, decide_eq_true_eq, zB1]
   constructor
   ·intro e; exact .inl (KM e).symm
   ·rintro (rfl | hx)
    ·exact Ms _
    ·exact absurd (h1 x hx) hy
theorem RJ {x : Ab} : ∀ {l : List Ab}, IA Fk l → x ∉ l → l.take (Fw x l) ++ [x] ++ l.drop (Fw x l) = LH x l
 | [], _, _ => rfl
 | y :: ys, h, hx => by
  obtain ⟨h1, h2⟩ := zF1.1 h
  have hne : Fk y x ≠ 0 := fun e => hx (by rw [KM e]; simp)
  simp only [Fw, LH]
  rw [if_neg hne]
  split
  ·rename_i hy
   rw [if_neg (by omega)]
   simp only [List.take_succ_cons, List.drop_succ_cons, zH7]
   rw [RJ h2 fun h => hx (by simp [h])]
  ·rename_i hy
   rw [if_pos (by omega)]; rfl
theorem P8 {N : Nat} (hN : N ≤ 1000000) (h20 : 1010 ≤ N) {x : Ab} (hx : Ur x) (l : List Ab) (hl : l.length ≤ 100000) (hA : ∀ y, y ∈ l → Ur y) (J : Int → Option (Int × Bool)) : ∀ (n i : Nat), l.length - i < n → i ≤ l.length →
  Dw N l x J n (i : Int) = J (((i + Fw x (l.drop i) : Nat)) : Int)
 | 0, i, h, _ => by omega
 | n + 1, i, h, hi => by
  rw [Dw]
  simp only [Bd]
  by_cases h1 : i < l.length
  ·have hy : l[i]? = some l[i] := by simp [h1]
   rw [Az (by omega), C9 hy]
   simp only [AT, hy, oS]
   rw [XR hN h20 (hA _ (lM hy)) hx]
   simp only [oS, Fw]
   by_cases e : Fk l[i] x < 0
   ·rw [Az e, if_pos e, AB (by omega), P8 hN h20 hx l hl hA J n (i + 1) (by omega) (by omega)]
    rw [show i + 1 + Fw x (l.drop (i + 1)) = i + (Fw x (l.drop (i + 1)) + 1) from by omega]
   ·rw [Ax e, if_neg e]; rfl
  ·rw [Ax (by omega), Ao, zB2 (by omega)]
   rfl
theorem XI {N : Nat} (hN : N ≤ 1000000) (h20 : 1010 ≤ N) {x : Ab} (hx : Ur x) (l : List Ab) (hl : l.length ≤ 100000) (hl2 : l.length < N) (hA : ∀ y, y ∈ l → Ur y) : EW N l x = some (((Fw x l : Nat) : Int), Nb x l) := by
 unfold EW
 have e := P8 hN h20 hx l hl hA (fun (v2 : Int) =>
  Be (fun (v8 : Bool) =>
   some (v2, v8))
  fun j8 =>
  AR ((decide (v2 < (l.length : Int))))
   ((Br l v2).bind fun v10 =>
   (B3 N v10 x).bind fun v11 =>
   j8 (v11 == 0))
   (j8 false)) N 0 (by omega) (zA9 _)
 refine Eq.trans e ?_
 simp only [Bd, zC0, zA1]
 rw [PT]
 cases hx2 : l[Fw x l]? with
 | none =>
  have : l.length ≤ Fw x l := List.getElem?_eq_none_iff.1 hx2
  rw [Ax (by omega)]
 | some y =>
  have := (lI.1 hx2).1
  rw [Az (by omega)]
  simp only [AT, hx2, oS]
  rw [XR hN h20 (hA _ (lM hx2)) hx]
  rfl
theorem Yz {n : Nat} : A2 .u64 (n : Int) 1 = ((n / 2 : Nat) : Int) := by
 unfold A2
 have : (2 : Int) ^ min (1 : Int).toNat (IntKind.bits .u64) = 2 := by decide
 rw [this, Int.fdiv_eq_ediv_of_nonneg _ (by omega)]
 omega
theorem Zp {i j : Nat} (h : i + j ≤ 1000000) : wI .i64 (A2 .u64 (wI .u64 (wI .i64 ((i : Int) + (j : Int)))) 1) = (((i + j) / 2 : Nat) : Int) := by
 rw [Ce (n := (i : Int) + j) (by omega) (by omega), show (i : Int) + (j : Int) = ((i + j : Nat) : Int) from by omega, YP (by omega), Yz, Ce (by omega) (by omega)]
theorem SQ {N : Nat} (hN : N ≤ 1000000) (h20 : 1010 ≤ N) {x : Ab} (l : List Ab) (hl : l.length ≤ 100000) (hA : ∀ y, y ∈ l → Ur y) (hs : IA Fk l) (J : Int → Option (Int × Bool)) : ∀ (n i j : Nat), j - i < n → i ≤ j → j ≤ l.length → (∀ k y, k < i → l[k]? = some y → Fk y x < 0) → (∀ k y, j ≤ k → l[k]? = some y → ¬ Fk y x < 0) →
  AP N l x (fun (x : Ab × Ab) => Dh N x.1 x.2) J n ((i : Int), (j : Int)) = J ((Fw x l : Nat) : Int)
 | 0, i, j, h, _, _, _, _ => by omega
 | n + 1, i, j, h, hij, hj, h1, h2 => by
  rw [AP]
  by_cases hlt : i < j
  ·have hh : (i + j) / 2 < l.length := by omega
   have hy : l[(i + j) / 2]? = some l[(i + j) / 2] := by simp [hh]
   rw [Az (by simp only; omega)]
   simp only [Zp (show i + j ≤ 1000000 by omega), AT, hy, oS]
   rw [U2 hN h20 (hA _ (lM hy))]
   simp only [oS]
   have hlt2 : ∀ (a b : Nat) u v, a < b → l[a]? = some u → l[b]? = some v → Fk u v < 0 := fun a b u v hab ha hb => by
    obtain ⟨ha1, rfl⟩ := lI.1 ha
    obtain ⟨hb1, rfl⟩ := lI.1 hb
    exact zH9.1 hs a b ha1 hb1 hab
   by_cases e : Fk l[(i + j) / 2] x < 0
   ·rw [Az e, AB (by omega)]
    exact SQ hN h20 l hl hA hs J n ((i + j) / 2 + 1) j (by omega) (by omega) hj (fun k y hk hky => by
     by_cases hk2 : k = (i + j) / 2
     ·subst hk2; rw [hy] at hky; cases hky; exact e
     ·exact Sl.lt1 (hlt2 k _ _ _ (by omega) hky hy) (by omega)) h2
   ·rw [Ax e]
    exact SQ hN h20 l hl hA hs J n i ((i + j) / 2) (by omega) (by omega) (by omega) h1 (fun k y hk hky => by
     by_cases hk2 : k = (i + j) / 2
     ·subst hk2; rw [hy] at hky; cases hky; exact e
     ·intro hc
      exact e (Sl.lt1 (hlt2 _ k _ _ (by omega) hy hky) (by omega)))
  ·have : i = j := by omega
   subst this
   rw [Ax (by simp only; omega)]
   have key : ∀ (l : List Ab) (i : Nat), i ≤ l.length → (∀ k y, k < i → l[k]? = some y → Fk y x < 0) → (∀ k y, i ≤ k → l[k]? = some y → ¬ Fk y x < 0) → Fw x l = i := by
    intro l
    induction l with
    | nil => intro i hi _ _; simp at hi; subst hi; rfl
    | cons y ys ih =>
     intro i hi g1 g2
     simp only [Fw]
     cases i with
     | zero => rw [if_neg (g2 0 y (zB0 _) rfl)]
     | succ i =>
      rw [if_pos (g1 0 y (by omega) rfl), ih i (by simpa using hi) (fun k z hk hz => g1 (k + 1) z (by omega) (by simpa using hz)) (fun k z hk hz => g2 (k + 1) z (by omega) (by simpa using hz))]
   rw [key l i hj h1 h2]
theorem Ra {N : Nat} (hN : N ≤ 1000000) (h20 : 1010 ≤ N) {x : Ab} (l : List Ab) (hl : l.length ≤ 100000) (hl2 : l.length < N) (hA : ∀ y, y ∈ l → Ur y) (hs : IA Fk l) : Fs N l x = some (decide (x ∈ l)) := by
 unfold Fs Bw
 have e := SQ hN h20 (x := x) l hl hA hs (fun (v2 : Int) =>
  Be (fun (v7 : Bool) =>
   some (v2, v7))
  fun j7 =>
  AR ((decide (v2 < (l.length : Int))))
   ((Br l v2).bind fun v9 =>
   (Dh N v9 x).bind fun v10 =>
   j7 (v10 == 0))
   (j7 false)) N 0 l.length (by omega) (zA9 _) (zB0 _) (fun k y hk => by omega) (fun k y hk hy => by
    have := (lI.1 hy).1; omega)
 have e' : AP N l x (fun (x : Ab × Ab) => Dh N x.1 x.2) (fun (v2 : Int) =>
  Be (fun (v7 : Bool) =>
   some (v2, v7))
  fun j7 =>
  AR ((decide (v2 < (l.length : Int))))
   ((Br l v2).bind fun v9 =>
   (Dh N v9 x).bind fun v10 =>
   j7 (v10 == 0))
   (j7 false)) N (0, (l.length : Int)) = _ := e
 rw [e']
 rw [← KF hs, PT]
 simp only [Bd]
 cases hx2 : l[Fw x l]? with
 | none =>
  have : l.length ≤ Fw x l := List.getElem?_eq_none_iff.1 hx2
  rw [Ax (by omega)]; rfl
 | some y =>
  have := (lI.1 hx2).1
  rw [Az (by omega)]
  simp only [AT, hx2, oS]
  rw [U2 hN h20 (hA _ (lM hx2))]
  rfl
theorem PP {N : Nat} (hN : N ≤ 1000000) (h20 : 100 ≤ N) {p : Aa} {m : Ab} (hw : O8 Mz m.fE) : D0 N p m = some (if B0 p m = 0 then (AZ p m, 0) else (false, B0 p m)) := by
 by_cases hv : B0 p m = 0
 ·rw [if_pos hv]; exact GT N p m hN h20 hw hv
 ·have hb : (B0 p m == 0) = false := beq_eq_false_iff_ne.2 hv
  have hn : (B0 p m != 0) = true := bne_iff_ne.2 hv
  have c3 : Ga N p m = some ([], B0 p m) := by
   unfold Ga; rw [IB N p m hN (by omega) hw]; simp only [oS, hn, AN]
  have c4 : GI N p m = some (HL, Vh, B0 p m) := by
   unfold GI; rw [c3]; simp only [oS, hn, AN]; rfl
  rw [if_neg hv]
  unfold D0; rw [c4]; simp only [oS, hb, Ao]
  rw [beq_eq_false_iff_ne.2 (by have := Sz p m; omega : B0 p m ≠ 15)]; rfl
def Tv (p : Aa) (o : Option Ab) (m : Ab) : Bool := (match o with | none => true | some y => decide (Fk y m < 0)) && (B0 p m == 0 && (AZ p m && !Hb p m))
def Kv (p : Aa) : Option Ab → List Ab → Bool
 | _, [] => true
 | o, m :: ms => Tv p o m && Kv p (some m) ms
def PX (p : Aa) (q : Ab → Bool) (m : Ab) : Bool := (Fb p m).all fun s => !AZ p (AX p m s).1 || q (AX p m s).1
theorem Ws {p : Aa} {o : Option Ab} {m : Ab} (h : Tv p o m = true) : (∀ y, o = some y → Fk y m < 0) ∧ B0 p m = 0 ∧ AZ p m = true ∧ Hb p m = false := by
 unfold Tv at h
 rw [zA6, zA6, zA6] at h
 obtain ⟨h1, h2, h3, h4⟩ := h
 refine ⟨fun y hy => ?_, beq_iff_eq.1 h2, h3, by simpa using h4⟩
 subst hy
 exact of_decide_eq_true h1
theorem Qe {p : Aa} : ∀ {ms : List Ab} {o : Option Ab}, Kv p o ms = true → IA Fk ms ∧ (∀ y, o = some y → ∀ z, z ∈ ms → Fk y z < 0) ∧ ∀ m, m ∈ ms → B0 p m = 0 ∧ AZ p m = true ∧ Hb p m = false
 | [], _, _ => ⟨List.Pairwise.nil, fun _ _ _ hz => (List.not_mem_nil hz).elim, fun _ hm => (List.not_mem_nil hm).elim⟩
 | m :: ms, o, h => by
  simp only [Kv] at h
  rw [zA6] at h
  obtain ⟨h1, h2⟩ := h
  obtain ⟨g1, g2, g3, g4⟩ := Ws h1
  obtain ⟨k1, k2, k3⟩ := Qe h2
  refine ⟨zF1.2 ⟨k2 m rfl, k1⟩, fun y hy z hz => ?_, fun x hx => ?_⟩
  ·rcases zB1.1 hz with rfl | hz
   ·exact g1 y hy
   ·have a1 := g1 y hy
    have a2 := k2 m rfl z hz
    exact Sl.lt1 a1 (by omega)
  ·rcases zB1.1 hx with rfl | hx
   ·exact ⟨g2, g3, g4⟩
   ·exact k3 x hx
theorem VO {p : Aa} : ∀ {ms : List Ab} {o : Option Ab}, IA Fk ms → (∀ y, o = some y → ∀ z, z ∈ ms → Fk y z < 0) → (∀ m, m ∈ ms → B0 p m = 0 ∧ AZ p m = true ∧ Hb p m = false) → Kv p o ms = true
 | [], _, _, _, _ => rfl
 | m :: ms, o, h, ho, ha => by
  obtain ⟨h1, h2⟩ := zF1.1 h
  obtain ⟨g2, g3, g4⟩ := ha m (by simp)
  simp only [Kv]
  rw [VO h2 (fun y hy z hz => by cases hy; exact h1 z hz) fun x hx => ha x (by simp [hx]), Bool.and_true]
  unfold Tv
  rw [g2, g3, g4]
  cases o with
  | none => rfl
  | some y => simp only [decide_eq_true (ho y rfl m (by simp))]; rfl
def Ks (p : Aa) (l : List Ab) : Bool :=
 if AZ p (Dz p) = true then Kv p none l && (decide (Dz p ∈ l) && l.all (PX p fun x => decide (x ∈ l))) else l.isEmpty
def X5 (l : List Ab) : Nat → Option Ab
 | 0 => none
 | i + 1 => l[i]?
theorem TZ {N : Nat} (hN : N ≤ 1000000) (h20 : 1010 ≤ N) (p : Aa) (l : List Ab) (hl : l.length ≤ 100000) (hA : ∀ y, y ∈ l → Ur y) (J : Unit → Option Bool) : ∀ (n i : Nat), l.length - i < n → i ≤ l.length →
  EM N p l J n (i : Int) = AR (Kv p (X5 l i) (l.drop i)) (J ()) (some false)
 | 0, i, h, _ => by omega
 | n + 1, i, h, hi => by
  rw [EM]
  simp only [Bd]
  by_cases h1 : i < l.length
  ·have hy : l[i]? = some l[i] := by simp [h1]
   have hyo := hA _ (lM hy)
   rw [Az (by omega), C9 hy]
   simp only [AT, hy, oS, Kv]
   rw [PP hN (by omega) hyo.u8, O0 N p _ hN (by omega) hyo.u8]
   have ih := TZ hN h20 p l hl hA J n (i + 1) (by omega) (by omega)
   have hp1 : X5 l (i + 1) = some l[i] := hy
   rw [hp1] at ih
   rw [AB (by omega), ih]
   have body : (if B0 p l[i] = 0 then (AZ p l[i], (0 : Int)) else (false, B0 p l[i])).1 = (B0 p l[i] == 0 && AZ p l[i]) := by
    by_cases hv : B0 p l[i] = 0
    ·rw [if_pos hv, hv]; rfl
    ·rw [if_neg hv, beq_eq_false_iff_ne.2 hv]; rfl
   have body2 : (B0 p l[i] == 0) = true → (if B0 p l[i] = 0 then (AZ p l[i], (0 : Int)) else (false, B0 p l[i])).2 = 0 := fun hv => by
    rw [if_pos (beq_iff_eq.1 hv)]
   have fin : ∀ b : Bool, (AR b (some false) ((some (if B0 p l[i] = 0 then (AZ p l[i], (0 : Int)) else (false, B0 p l[i]))).bind fun v14 =>
     AR (!v14.1) (AR true (some false) (AR (Kv p (some l[i]) (l.drop (i + 1))) (J ()) (some false)))
      (AR (v14.2 != 0) (AR true (some false) (AR (Kv p (some l[i]) (l.drop (i + 1))) (J ()) (some false)))
       ((some (Hb p l[i])).bind fun v18 => AR v18 (some false) (AR (Kv p (some l[i]) (l.drop (i + 1))) (J ()) (some false)))))) =
     AR (!b && (B0 p l[i] == 0 && (AZ p l[i] && !Hb p l[i])) && Kv p (some l[i]) (l.drop (i + 1))) (J ()) (some false) := by
    intro b
    simp only [oS]
    rw [body]
    cases b
    ·cases hv : B0 p l[i] == 0
     ·simp [AR]
     ·rw [body2 hv]
      cases AZ p l[i] <;> cases Hb p l[i] <;> simp [AR]
    ·simp [AR]
   cases i with
   | zero =>
    rw [Ax (by omega)]
    refine Eq.trans (fin false) ?_
    rfl
   | succ q =>
    have hq : l[q]? = some l[q] := by simp [show q < l.length by omega]
    rw [Az (by omega), Ww (by omega)]
    simp only [AT, hq, oS]
    rw [U2 hN h20 (hA _ (lM hq))]
    simp only [oS]
    refine Eq.trans (fin (decide (0 ≤ Fk l[q] l[q + 1]))) ?_
    have hp2 : X5 l (q + 1) = some l[q] := hq
    rw [hp2]
    unfold Tv
    simp only
    by_cases hc : Fk l[q] l[q + 1] < 0
    ·rw [decide_eq_true hc, decide_eq_false (by omega)]; rfl
    ·rw [decide_eq_false hc, decide_eq_true (by omega)]; rfl
  ·rw [Ax (by omega), zB2 (by omega)]; rfl
theorem VT {N : Nat} (hN : N ≤ 1000000) (h20 : 1010 ≤ N) {p : Aa} (hv : Bx p = 0) (l : List Ab) (hl : l.length ≤ 100000) (hl2 : l.length < N) (hA : ∀ y, y ∈ l → Ur y) (hs : IA Fk l) {m : Ab} (hm : Bz p m) (ss : List Ad) (e : Int) (hss : ∀ s, s ∈ ss → s ∈ Fb p m) (hsl : ss.length ≤ 1000) (J : Unit → Option Bool) : ∀ (n i : Nat), ss.length - i < n → i ≤ ss.length →
  Ev N p l m (ss, e) J n (i : Int) = AR ((ss.drop i).all fun s => !AZ p (AX p m s).1 || decide ((AX p m s).1 ∈ l)) (J ()) (some false)
 | 0, i, h, _ => by omega
 | n + 1, i, h, hi => by
  obtain ⟨hp, _⟩ := Ch hv
  rw [Ev]
  simp only [Bd]
  by_cases h1 : i < ss.length
  ·have hy : ss[i]? = some ss[i] := by simp [h1]
   have hsm := hss _ (lM hy)
   have hxo := JP hp hm (HG hsm).2
   rw [Az (by first | omega | (simp only; omega)), C9 hy]
   simp only [AT, hy, oS, zF7]
   rw [MR N hN (by omega) (KZ hm), if_pos (HN hv hm)]
   simp only [oS]
   rw [GT N p _ hN (by omega) (KZ hxo) (HN hv hxo)]
   simp only [oS]
   rw [AB (by omega), VT hN h20 hv l hl hl2 hA hs hm ss e hss hsl J n (i + 1) (by omega) (by omega)]
   cases AZ p (AX p m ss[i]).1
   ·rw [Ao, Ao]; simp
   ·rw [AN, Ra hN h20 l hl hl2 hA hs]
    simp only [oS]
    cases decide ((AX p m ss[i]).1 ∈ l) <;> simp [AR]
  ·rw [Ax (by first | omega | (simp only; omega)), zB2 (by omega)]; rfl
theorem Uk {N : Nat} (hN : N ≤ 1000000) (h20 : 1010 ≤ N) {p : Aa} (hv : Bx p = 0) (l : List Ab) (hl : l.length ≤ 100000) (hl2 : l.length < N) (hA : ∀ y, y ∈ l → Ur y) (hs : IA Fk l) (hM : ∀ y, y ∈ l → B0 p y = 0) (J : Unit → Option Bool) : ∀ (n i : Nat), l.length - i < n → i ≤ l.length →
  Ey N p l J n (i : Int) = AR ((l.drop i).all (PX p fun x => decide (x ∈ l))) (J ()) (some false)
 | 0, i, h, _ => by omega
 | n + 1, i, h, hi => by
  obtain ⟨hp, _⟩ := Ch hv
  rw [Ey]
  by_cases h1 : i < l.length
  ·have hy : l[i]? = some l[i] := by simp [h1]
   have hyl := lM hy
   have hm := (KS (hA _ hyl).u8 (hM _ hyl)).2
   rw [Az (by omega), C9 hy]
   simp only [AT, hy, oS, zF7]
   rw [Px N hN (by omega) hv hm]
   simp only [oS]
   have hsl := My hp l[i]
   rw [show (0 : Int) = ((0 : Nat) : Int) from rfl, VT hN h20 hv l hl hl2 hA hs hm (Fb p l[i]) _ (fun s hs => hs) (by omega) _ N 0 (by omega) (zA9 _), zC0, AB (by omega), Uk hN h20 hv l hl hl2 hA hs hM J n (i + 1) (by omega) (by omega)]
   show AR (PX p (fun x => decide (x ∈ l)) l[i]) _ _ = _
   cases PX p (fun x => decide (x ∈ l)) l[i] <;> simp
  ·rw [Ax (by omega), zB2 (by omega)]; rfl
theorem Pa {N : Nat} (hN : N ≤ 1000000) (h20 : 1010 ≤ N) {p : Aa} (hv : Bx p = 0) (l : List Ab) (hl : l.length ≤ 100000) (hl2 : l.length < N) (hA : ∀ y, y ∈ l → Ur y) : GP N p l = some (Ks p l) := by
 have hs := K3 hv
 unfold GP Ks
 rw [N3 N p hN (by omega), if_pos hv, hv]
 simp only [oS, bne_self_eq_false, Ao]
 rw [GT N p _ hN (by omega) (KZ hs) (HN hv hs)]
 simp only [oS]
 cases hr : AZ p (Dz p)
 ·rw [zE0, AN, if_neg (by simp)]
  cases l with
  | nil => rfl
  | cons x l => rw [beq_eq_false_iff_ne.2 (by simp only [zC1]; omega)]; rfl
 ·rw [zB9, Ao, if_pos rfl, show (0 : Int) = ((0 : Nat) : Int) from rfl, TZ hN h20 p l hl hA _ N 0 (by omega) (zA9 _)]
  show AR (Kv p none (l.drop 0)) _ _ = _
  rw [zC0]
  cases hg : Kv p none l
  ·rfl
  ·obtain ⟨g1, _, g3⟩ := Qe hg
   rw [AN, Ra hN h20 l hl hl2 hA g1, zE1]
   simp only [oS]
   cases decide (Dz p ∈ l)
   ·rfl
   ·rw [zB9, Ao, zE1, Uk hN h20 hv l hl hl2 hA g1 (fun y hy => (g3 y hy).1) _ N 0 (by omega) (zA9 _), zC0]
    cases l.all (PX p fun x => decide (x ∈ l)) <;> rfl
theorem S6 (a xs : List Ab) (x : Ab) : C4 a (xs ++ [x]) = LH x (C4 a xs) := by
 induction xs generalizing a with
 | nil => rfl
 | cons y xs ih => exact ih (LH y a)
theorem X4 {N : Nat} (hN : N ≤ 1000000) (h20 : 1010 ≤ N) {p : Aa} (hp : Bf p) {m : Ab} (hm : Bz p m) {f : Int} {t : Ad} {most i : Nat} (hmo : most ≤ 20000) (hmN : most < N) {v4 : List Ab × List Ab × Int} (hv4 : v4.2.2 = (i : Int)) (ss : List Ad) (hss : ∀ s, s ∈ ss → s ∈ Fb p m) (hsl : ss.length ≤ 1000) (j : List Ab × List Ab → Option (List Ab × Bool)) :
  ∀ (n k : Nat) (l : List IP), k ≤ ss.length → ss.length - k < n → l[i]? = some (m, f, t) → (∀ n, n ∈ l → Bz p n.1 ∧ AZ p n.1 = true) → l.length ≤ most →
   Cc N p (most : Int) v4 ss j n (Fe l, C4 [] (Fe l), (k : Int)) = match Bfs.inner most i (Qp p m (ss.drop k)) l with
    | none => some ([], false)
    | some l' => j (Fe l', C4 [] (Fe l'))
 | 0, k, l, _, h, _, _, _ => by omega
 | n + 1, k, l, hk, h, hi, hA, hlm => by
  have hlen : (C4 [] (Fe l)).length ≤ l.length := by
   have := Nc (Fe l) []
   rw [K4] at this; simpa using this
  have hmem : ∀ x, x ∈ C4 [] (Fe l) ↔ x ∈ Fe l := fun x => by rw [K5]; simp
  have hok : ∀ x, x ∈ Fe l → Bz p x := fun x hx => by obtain ⟨q, h1, rfl⟩ := I2.1 hx; exact (hA q h1).1
  have hstr : IA Fk (C4 [] (Fe l)) := Ky List.Pairwise.nil
  by_cases h1 : k < ss.length
  ·have hs : ss[k]? = some ss[k] := by simp [h1]
   have hsm := hss _ (lM hs)
   have hxo := JP hp hm (HG hsm).2
   obtain ⟨b, ea⟩ := NT N hN (by omega) hp hm hsm
   rw [Cc, Az (by simp only; omega)]
   simp only [Bd, hv4, AT, Uc hi, hs, oS]
   rw [ea]
   simp only [oS]
   rw [XI hN h20 (hxo.lok hp) (C4 [] (Fe l)) (by omega) (by omega) (fun y hy => (hok y ((hmem y).1 hy)).lok hp), KF hstr]
   simp only [oS]
   rw [C9 hs, Qt]
   have hput : Bfs.put i l (ss[k], (AX p m ss[k]).1) = if (l.any fun n => decide (n.1 = (AX p m ss[k]).1)) = true then l else l ++ [((AX p m ss[k]).1, (i : Int), ss[k])] := rfl
   have hany : (l.any fun n => decide (n.1 = (AX p m ss[k]).1)) = decide ((AX p m ss[k]).1 ∈ C4 [] (Fe l)) := by
    rw [Bool.eq_iff_iff, decide_eq_true_eq, hmem, zE8, I2]
    exact ⟨fun ⟨n, h1, h2⟩ => ⟨n, h1, of_decide_eq_true h2⟩, fun ⟨n, h1, h2⟩ => ⟨n, h1, decide_eq_true h2⟩⟩
   have next : ∀ (l' : List IP), l'[i]? = some (m, f, t) → (∀ n, n ∈ l' → Bz p n.1 ∧ AZ p n.1 = true) → l'.length ≤ most →
     Cc N p (most : Int) v4 ss j n (Fe l', C4 [] (Fe l'), wI .i64 ((k : Int) + 1)) = match Bfs.inner most i (Qp p m (ss.drop (k + 1))) l' with
     | none => some ([], false)
     | some l' => j (Fe l', C4 [] (Fe l')) := fun l' a1 a2 a3 => by
    rw [AB (by omega)]
    exact X4 hN h20 hp hm hmo hmN hv4 ss hss hsl j n (k + 1) l' (by omega) (by omega) a1 a2 a3
   rw [hany] at hput
   by_cases hin : (AX p m ss[k]).1 ∈ C4 [] (Fe l)
   ·rw [decide_eq_true hin, AN, AN]
    rw [decide_eq_true hin, if_pos rfl] at hput
    rw [next l hi hA hlm]
    cases AZ p (AX p m ss[k]).1
    ·rfl
    ·rw [if_pos rfl]
     simp only [Bfs.inner]
     rw [hput, if_neg (by omega)]
   ·rw [decide_eq_false hin, Ao, IX N p _ hN (by omega) hp hxo]
    simp only [oS]
    rw [decide_eq_false hin, if_neg (by simp)] at hput
    cases hr : AZ p (AX p m ss[k]).1
    ·rw [zE0, AN, if_neg (by simp)]
     exact next l hi hA hlm
    ·rw [zB9, Ao, if_pos rfl]
     have hpl := RL (AX p m ss[k]).1 (C4 [] (Fe l))
     simp only [zB3, Nat.sub_zero, zC0, zG9]
     rw [As (by rw [K4]; simp [Db]; omega), As ⟨by omega, by omega, hpl⟩, As (by simp [Db]; omega), As (by simp [Db]; omega), As ⟨by omega, hpl, zB0 _⟩, As (by simp [Db]; omega)]
     have ht : ((C4 [] (Fe l)).drop (Fw (AX p m ss[k]).1 (C4 [] (Fe l)))).take ((C4 [] (Fe l)).length - Fw (AX p m ss[k]).1 (C4 [] (Fe l))) = (C4 [] (Fe l)).drop (Fw (AX p m ss[k]).1 (C4 [] (Fe l))) := List.take_of_length_le (by rw [List.length_drop]; omega)
     rw [ht, RJ hstr hin]
     have e : Fe l ++ [(AX p m ss[k]).1] = Fe (Bfs.put i l (ss[k], (AX p m ss[k]).1)) := by rw [hput]; simp [Fe]
     have e2 : LH (AX p m ss[k]).1 (C4 [] (Fe l)) = C4 [] (Fe (Bfs.put i l (ss[k], (AX p m ss[k]).1))) := by rw [← e, S6]
     rw [e, e2]
     simp only [Bfs.inner]
     by_cases hb : most < (Bfs.put i l (ss[k], (AX p m ss[k]).1)).length
     ·rw [if_pos hb, Az (by rw [K4]; omega)]
     ·rw [if_neg hb, Ax (by rw [K4]; omega)]
      refine next _ (Qb hi) (fun n hn => ?_) (by omega)
      rcases Sc hn with h | h
      ·exact hA n h
      ·rw [h]; exact ⟨hxo, hr⟩
  ·have : k = ss.length := by omega
   subst this
   rw [Cc, Ax (by simp), zB2 (zB0 _)]
   rfl
theorem Tr {N : Nat} (hN : N ≤ 1000000) (h20 : 1010 ≤ N) {p : Aa} (hv : Bx p = 0) {most : Nat} (hmo : most ≤ 20000) (hmN : most < N) (j : List Ab → Option (List Ab × Bool)) :
  ∀ (n i : Nat) (l : List IP), i ≤ l.length → (∀ n, n ∈ l → Bz p n.1 ∧ AZ p n.1 = true) → l.length ≤ most → most < n + i →
   CN N p (most : Int) j n (Fe l, C4 [] (Fe l), (i : Int)) = match Bfs.go (Ih p) most n i l with
    | none => some ([], false)
    | some l' => j (C4 [] (Fe l'))
 | 0, i, l, hi, _, hlm, hfu => by omega
 | n + 1, i, l, hi, hA, hlm, hfu => by
  obtain ⟨hp, _⟩ := Ch hv
  simp only [Bfs.go]
  rw [CN]
  by_cases h1 : i < l.length
  ·obtain ⟨⟨m, f, t⟩, hx⟩ := Bfs.get_ex h1
   have hm := (hA _ (lM hx)).1
   rw [hx]
   simp only
   rw [Az (by rw [K4]; omega)]
   simp only [AT, Uc hx, oS]
   rw [N8 N hN (by omega) hv hm]
   simp only [oS]
   have hsl := My hp m
   have e := X4 hN h20 hp hm hmo hmN (v4 := (Fe l, C4 [] (Fe l), (i : Int))) rfl (Fb p m) (fun s hs => hs) (by omega) (fun (v10 : (List Ab) × (List Ab)) => CN N p (most : Int) j n (v10.1, v10.2, (wI .i64 ((i : Int) + 1)))) N 0 l (zA9 _) (by omega) hx hA hlm
   rw [zC0, show Qp p m (Fb p m) = Ih p m from rfl] at e
   refine e.trans ?_
   cases hin : Bfs.inner most i (Ih p m) l with
   | none => rfl
   | some l1 =>
    simp only [oS]
    rw [AB (by omega)]
    have hk := IN hin (fun q hq => Pw hp hm hq) hA
    exact Tr hN h20 hv hmo hmN j n (i + 1) l1 (by have := Bfs.lt_get (hk.2 i _ hx); omega) hk.1 (Bfs.inner_len _ _ _ hlm hin) (by omega)
  ·have : l[i]? = none := by rw [zD8]; omega
   rw [this, Ax (by simp only; rw [K4]; omega)]
theorem SK {N : Nat} (hN : N ≤ 1000000) (h20 : 1010 ≤ N) {p : Aa} (hv : Bx p = 0) {most : Nat} (h1 : 1 ≤ most) (hmo : most ≤ 20000) (hmN : most < N) :
  CT N p (most : Int) = some (if AZ p (Dz p) = true then (match Hz p (Dz p) most N with
   | none => ([], false)
   | some l => (C4 [] (Fe l), true)) else ([], true)) := by
 obtain ⟨hp, _⟩ := Ch hv
 have hs := K3 hv
 unfold CT
 rw [Nn N p hN (by omega), if_pos hv]
 simp only [oS]
 rw [IX N p _ hN (by omega) hp hs]
 simp only [oS]
 cases hr : AZ p (Dz p)
 ·rfl
 ·rw [zB9, Ao, if_pos rfl]
  have e := Tr hN h20 hv hmo hmN (fun (v5 : (List Ab)) => some (v5, true)) N 0 [(Dz p, -1, MT)] (zA9 _) (Ny hs hr) (by simpa using h1) (by omega)
  refine e.trans ?_
  show (match Hz p (Dz p) most N with | none => _ | some l' => _) = _
  cases Hz p (Dz p) most N <;> rfl
theorem TH {p : Aa} (hv : Bx p = 0) (hr : AZ p (Dz p) = true) {most n : Nat} {l : List IP} (hg : Hz p (Dz p) most n = some l) (hno : (C4 [] (Fe l)).any (Hb p) = false) : Ks p (C4 [] (Fe l)) = true := by
 obtain ⟨hp, _⟩ := Ch hv
 have hs := K3 hv
 obtain ⟨ws, hreg⟩ := SO hp hs hr hg
 have hA := Oh hp _ _ _ _ hg (Ny hs hr)
 have hmem : ∀ x, x ∈ C4 [] (Fe l) ↔ x ∈ Fe l := fun x => by rw [K5]; simp
 have hA2 : ∀ x, x ∈ C4 [] (Fe l) → Bz p x ∧ AZ p x = true := fun x hx => by
  obtain ⟨n, h1, rfl⟩ := I2.1 ((hmem x).1 hx)
  exact hA n h1
 unfold Ks
 rw [if_pos hr, VO (Ky List.Pairwise.nil) (fun y hy => by cases hy) fun m hm => ⟨HN hv (hA2 m hm).1, (hA2 m hm).2, by
  rw [zI7] at hno
  simpa using hno m hm⟩]
 rw [zE1, zA6]
 refine ⟨decide_eq_true ((hmem _).2 ?_), zA4.2 fun m hm => ?_⟩
 ·obtain ⟨s, hs⟩ := hreg.inv.root
  exact I2.2 ⟨_, lM hs, rfl⟩
 ·unfold PX
  rw [zA4]
  intro s hs
  cases hrs : AZ p (AX p m s).1
  ·rfl
  ·rw [zB9, zI8, decide_eq_true_eq, hmem]
   obtain ⟨n, hn, rfl⟩ := I2.1 ((hmem m).1 hm)
   obtain ⟨j, hj⟩ := zB5.1 hn
   obtain ⟨y, f, s0⟩ := n
   have hjl := Bfs.lt_get hj
   obtain ⟨w, hw⟩ := Bfs.get_ex (l := ws) (k := j) (by rw [hreg.inv.len]; exact hjl)
   obtain ⟨k, f', s', w', h1, _⟩ := hreg.inv.closed j y f s0 w hj hw (s, (AX p y s).1) (.inl ⟨hjl, K8.2 ⟨hs, rfl, hrs⟩⟩)
   exact I2.2 ⟨_, lM h1, rfl⟩
theorem P5 {q : Aa} {l : List Ab} (hc : l.all (PX q fun x => decide (x ∈ l)) = true) : ∀ {u : List Ad} {m x : Ab}, m ∈ l → N1 q m u = some x → x ∈ l
 | [], m, x, hm, h => by cases h; exact hm
 | s :: u, m, x, hm, h => by
  rw [N1] at h
  cases hs : MU q m s with
  | none => rw [hs] at h; cases h
  | some y =>
   rw [hs, oS] at h
   obtain ⟨h1, h2, h3⟩ := K8.1 (Oz hs)
   have := zA4.1 (zA4.1 hc m hm) s h1
   have h2' : y = (AX q m s).1 := h2
   have h3' : AZ q y = true := h3
   rw [← h2', h3', zB9, zI8, decide_eq_true_eq] at this
   exact P5 hc this h
theorem SZ {q : Aa} {l : List Ab} (hc : Ks q l = true) : ¬ Zc q := by
 rintro ⟨hr, u, hu⟩
 unfold Ks at hc
 rw [if_pos hr, zA6, zA6, decide_eq_true_eq] at hc
 obtain ⟨h1, h2, h3⟩ := hc
 unfold Mb at hu
 cases hx : N1 q (Dz q) u with
 | none => rw [hx] at hu; cases hu
 | some x =>
  rw [hx] at hu
  have hu : Hb q x = true := hu
  have := (Qe h1).2.2 x (P5 h3 h2 hx)
  rw [this.2.2] at hu; cases hu
def YY (p : Aa) (l : List Int) (ms : List Ab) : Bool := if (If p l).2 = 0 then Ks (F3 p l) ms else false
theorem Q1 {p : Aa} (hv : Bx p = 0) {l : List Int} (hl : l.length ≤ 90) {ms : List Ab} (hm : ms.length ≤ 1500) (hA : ∀ y, y ∈ ms → Ur y) : Gb 2000 p l ms = some (YY p l ms) := by
 unfold Gb YY
 rw [Km (by omega) (by omega) hv l hl, oS]
 simp only [Bd]
 by_cases h : (If p l).2 = 0
 ·obtain ⟨g1, g2, g3⟩ := Mo h
  have hvr := J8 hv g1 g2
  rw [if_pos h, g3]
  have e1 := Pa (N := 2000) (by omega) (by omega) hvr ms (by omega) (by omega) hA
  rw [e1]; rfl
 ·rw [if_neg h, (VI p l h).1]; rfl
theorem TA {q : Aa} (hv : Bx q = 0) (hl : Lr q) : ∃ A : List Ab, CT 2000 q 1000 = some (A, true) ∧ (∀ x, x ∈ A → Ur x) ∧ A.length ≤ 1000 ∧ (Ks q A = true ↔ ¬ Zc q) := by
 obtain ⟨hp, _⟩ := Ch hv
 have hs := K3 hv
 have e := SK (N := 2000) (by omega) (by omega) hv (most := 1000) (by omega) (by omega) (by omega)
 have e' : CT 2000 q 1000 = _ := e
 rw [e']
 cases hr : AZ q (Dz q)
 ·refine ⟨[], rfl, fun x hx => (by cases hx), by simp, ?_⟩
  have : Ks q [] = true := by unfold Ks; rw [if_neg (by rw [hr]; decide)]; rfl
  exact ⟨fun _ h => by rw [h.1] at hr; (cases hr), fun _ => this⟩
 ·rw [if_pos rfl]
  rcases hl with h | ⟨l, hg⟩
  ·rw [hr] at h; cases h
  ·have hg2 : Hz q (Dz q) 1000 2000 = some l := Bfs.go_more (by omega) _ _ _ _ _ (by omega) hg
   have hlen : l.length ≤ 120 := Bfs.go_len _ _ _ _ (by simp) hg
   have hA := Oh hp _ _ _ _ hg2 (Ny hs hr)
   obtain ⟨ws, hreg⟩ := SO hp hs hr hg2
   rw [hg2]
   have hmem : ∀ x, x ∈ C4 [] (Fe l) ↔ x ∈ Fe l := fun x => by rw [K5]; simp
   have hll : (C4 [] (Fe l)).length ≤ 1000 := by
    have : (C4 [] (Fe l)).length ≤ (Fe l).length := by have := Nc (Fe l) []; simpa using this
    unfold Fe at this ⊢
    rw [zA8] at this; omega
   refine ⟨C4 [] (Fe l), rfl, fun x hx => ?_, hll, SZ, fun hn => ?_⟩
   ·obtain ⟨n, h1, rfl⟩ := I2.1 ((hmem x).1 hx)
    exact (hA n h1).1.lok hp
   ·refine TH hv hr hg2 ?_
    rw [zI7]
    intro x hx hgo
    obtain ⟨n, h1, rfl⟩ := I2.1 ((hmem x).1 hx)
    obtain ⟨k, hk⟩ := zB5.1 h1
    obtain ⟨x, f, s⟩ := n
    obtain ⟨w, hw⟩ := Bfs.get_ex (l := ws) (k := k) (by rw [hreg.inv.len]; exact Bfs.lt_get hk)
    refine hn ⟨hr, w, ?_⟩
    unfold Mb
    rw [VU hp hreg hk hw]
    exact hgo
theorem Rs {p : Aa} (hL : Uw p) : ∀ (n i : Nat), i ≤ (D9 p.fA.length).length → (D9 p.fA.length).length - i < n →
  Bq 2000 (D9 p.fA.length) (fun _ => some true) n (p.fA, p.fH, p.fL, p.fC, (i : Int)) = some true
 | 0, i, _, h => by omega
 | n + 1, i, hi, h => by
  have h8 := Mp p.fA.length
  rw [Bq]
  by_cases h1 : i < (D9 p.fA.length).length
  ·have hx : (D9 p.fA.length)[i]? = some (D9 p.fA.length)[i] := by simp [h1]
   have hm : (D9 p.fA.length)[i] ∈ D9 p.fA.length := zG1 _
   rw [Az (by simp only; omega)]
   simp only [AT, hx, oS]
   generalize (D9 p.fA.length)[i] = s at hm
   obtain ⟨g1, g2⟩ := W1 hL.n hm
   obtain ⟨k1, k2, k3⟩ := Mo g1
   have hvr := J8 hL.v k1 k2
   obtain ⟨A, a1, a2, a3, a4⟩ := TA hvr (hL.l s hm)
   have b1 := UM (N := 2000) (by omega) (by omega) hL.v (l := s) (by omega) (WC hL)
   have c1 := Q1 hL.v (l := s) (by omega) (ms := A) (by omega) a2
   have er := LA (N := 2000) (by omega) (by omega) hL.v s (by omega)
   have er' : C2 2000 (Aa.mk p.fA p.fH p.fL p.fC) s = some (F3 p s, 0) := by rw [← k3]; exact er
   rw [er', oS]
   have b1' : E5 2000 (Aa.mk p.fA p.fH p.fL p.fC) s = some (S9 p s, 0) := by
    have : Y9 p s = (S9 p s, 0) := by unfold Y9; rw [if_pos g1]
    rw [← this]; exact b1
   have c1' : Gb 2000 (Aa.mk p.fA p.fH p.fL p.fC) s A = some (Ks (F3 p s) A) := by
    have : YY p s A = Ks (F3 p s) A := by unfold YY; rw [if_pos g1]
    rw [← this]; exact c1
   have hb := Zz hL.v g1 (hL.l s hm)
   have heq : Ks (F3 p s) A = S9 p s := by
    cases h1 : Ks (F3 p s) A <;> cases h2 : S9 p s <;> simp_all
   show ((CT 2000 (F3 p s) 1000).bind fun v14 => _) = some true
   rw [a1, oS, b1', oS]
   show ((Gb 2000 (Aa.mk p.fA p.fH p.fL p.fC) s A).bind fun v19 => _) = some true
   rw [c1', oS, heq]
   simp only [beq_self_eq_true, zB9, Ao]
   rw [AB (by omega)]
   exact Rs hL n (i + 1) (by omega) (by omega)
  ·rw [Ax (by simp only; omega)]
theorem LF (d : BN) (wd : F0 d) : CY 2000 d = some true := by
 obtain ⟨p, b, e, hb⟩ := YA d wd
 unfold CY
 rw [e, SC]
 cases b
 ·rfl
 ·have hL := hb rfl
  show ((Cr 2000 (p.fA.length : Int)).bind fun v7 => Bq 2000 v7 (fun _ => some true) 2000 (p.fA, p.fH, p.fL, p.fC, 0)) = some true
  rw [VX hL.n, oS]
  exact Rs hL 2000 0 (zA9 _) (by have := Mp p.fA.length; omega)
end Go.Lift
