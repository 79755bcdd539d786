/- Lemmas for CoreAllCardSaid, which YtbfklmmnpdifaaaGreatDoorFinC6 proves. -/
import Derived.Test.YtbfklmmnpdifaaaGreatDoorMReg3
import Derived.KernelRfl
open Bool renaming and_eq_true → zI, false_and → vO, not_true → yA, true_and → y8
open Int renaming natCast_nonneg → vV, toNat_natCast → zS
open List renaming all_cons → xZ, all_eq_true → zF, any_eq_true → xF, append_assoc → yL, append_nil → xP, cons_append → uQ, drop_eq_nil_of_le → yO, drop_zero → zZ, eq_nil_of_length_eq_zero → yN, getElem?_append_right → yG, getElem?_eq_none → yV, getElem?_map → zD, getElem?_set → xB, getElem_mem → xE, length_append → zW, length_cons → yD, length_map → zL, length_nil → yM, length_singleton → zY, map_append → y7, map_cons → yF, map_nil → uP, mem_append → yC, mem_cons → zQ, mem_cons_of_mem → x8, mem_iff_getElem? → zT, mem_map → zU, mem_singleton → yS, nil_append → xN, nodup_cons → xR, not_mem_nil → uS, range' → xM, replicate → zH, set_cons_succ → vJ
open Nat renaming eq_zero_or_pos → uJ, le_refl → zN, le_trans → xU, sub_self → vF, zero_add → zC, zero_le → zK
open Option renaming getD_some → yE, map_some → yQ
namespace Go.Lift
open IntKind renaming wrap → wI
open Option renaming bind_some → oS
open List renaming mem_of_getElem? → lM
open List renaming getElem?_eq_some_iff → lI
open List renaming getD_eq_getElem?_getD → lD
open Go
theorem Ll {N : Nat} (hN : N ≤ 1000000) (h20 : 100 ≤ N) {p : Aa} (hv : BR p = 0) {most : Nat} (hmo : most ≤ 20000) (j : List AF → Option (List AF × Int)) :
  ∀ (n i : Nat) (pl : List AF) (q : List (Ac × Int)) (l' : List JA), i ≤ pl.length → (∀ n, n ∈ pl.map EH → BZ p n.1 ∧ BC p n.1 = true) → pl.length ≤ most → OU p q (pl.map EH) → MO p i [] pl → (∀ (b : Nat) nb, i ≤ b → pl[b]? = some nb → nb.fc = []) →
   Bfs.go (Jc p) most n i (pl.map EH) = some l' →
   ∃ pl', DR N p j n (pl, Mw q, (i : Int)) = j pl' ∧ pl'.map EH = l' ∧ MO p l'.length [] pl'
 | 0, i, pl, q, l', _, _, _, _, _, _, h => by cases h
 | n + 1, i, pl, q, l', hi, hA, hlm, hpl, hnx, hem, h => by
  obtain ⟨hp, _⟩ := Da hv
  simp only [Bfs.go] at h
  rw [DR]
  by_cases h1 : i < pl.length
  ·obtain ⟨nd, hx⟩ := Bfs.get_ex h1
   have hxl : (pl.map EH)[i]? = some (EH nd) := by rw [zD, hx]; rfl
   have hm := (hA _ (lM hxl)).1
   have hm : BZ p nd.fq := hm
   rw [hxl] at h
   simp only at h
   rw [AB (by simp only; omega)]
   simp only [AU, hx, oS]
   rw [show (Ac.mk nd.fq.fe nd.fq.fc nd.fq.ff) = nd.fq from rfl, TY N hN h20 hv hm]
   simp only [oS, bne_self_eq_false, Al]
   have hsl := QM hp nd.fq
   cases hin : Bfs.inner most i (Jc p nd.fq) (pl.map EH) with
   | none =>
    have hin' : Bfs.inner most i (Jc p (EH nd).1) (pl.map EH) = none := hin
    rw [hin'] at h; cases h
   | some l1 =>
    have hin' : Bfs.inner most i (Jc p (EH nd).1) (pl.map EH) = some l1 := hin
    rw [hin'] at h
    simp only [oS] at h
    obtain ⟨pl1, q1, e1, e2, e3, e4, e5⟩ := HK hN h20 hv hm hmo (v2 := (pl, Mw q, (i : Int))) rfl (Gg p nd.fq) 0 (fun s hs => hs) (by omega) (fun (v9 : (List AF) × (List (ByteArray × Int))) =>
     DR N p j n (v9.1, v9.2, (wI .i64 ((i : Int) + 1)))) N 0 pl q l1 (zK _) (by omega) ⟨nd, hx, rfl⟩ hA hlm hpl (by
      rw [List.take_zero]; exact hnx) ⟨nd, hx, by rw [hem i nd (zN _) hx]; exact zN _⟩ hin
    have e1' : Cy N p (pl, Mw q, (i : Int)) (Gg p nd.fq, 0) (fun (v9 : (List AF) × (List (ByteArray × Int))) =>
     DR N p j n (v9.1, v9.2, (wI .i64 ((i : Int) + 1)))) N (pl, Mw q, 0) = _ := e1
    rw [e1']
    simp only
    obtain ⟨k1, k2⟩ := KU hin (fun q hq => UK hp hm hq) hA
    have hl1 : l1.length = pl1.length := by rw [← e2, zL]
    have hil : i < pl1.length := by rw [← hl1]; exact Bfs.lt_get (k2 _ _ hxl)
    rw [AE (by have := Bfs.inner_len _ _ _ (by rw [zL]; exact hlm) hin; omega)]
    refine Ll hN h20 hv hmo j n (i + 1) pl1 q1 l' (by omega) (by rw [e2]; exact k1) (by rw [← hl1]; exact Bfs.inner_len _ _ _ (by rw [zL]; exact hlm) hin) (by rw [e2]; exact e3) ?_ ?_ (by rw [e2]; exact h)
    ·have hmi : ∀ nb, pl1[i]? = some nb → nb.fq = nd.fq := fun nb hb => by
      have := k2 _ _ hxl
      rw [← e2, zD, hb] at this
      exact congrArg (fun n : JA => n.1) (Option.some.inj this)
     constructor
     ·intro b nb hb r hr
      obtain ⟨s, y, g1, g2⟩ := e4.to b nb hb r hr
      refine ⟨s, y, .inl ?_, g2⟩
      rcases g1 with g1 | ⟨g1, g3⟩
      ·exact ⟨by omega, g1.2⟩
      ·subst g1; exact ⟨by omega, by rw [hmi nb hb]; exact g3⟩
     ·intro b nb hb s y hs
      refine e4.of b nb hb s y ?_
      rcases hs with ⟨h2, h3⟩ | ⟨_, h3⟩
      ·by_cases hbi : b < i
       ·exact .inl ⟨hbi, h3⟩
       ·have : b = i := by omega
        subst this
        exact .inr ⟨rfl, by rw [hmi nb hb] at h3; exact h3⟩
      ·cases h3
    ·intro b nb hb hb2
     rcases e5 b nb hb2 (by omega) with h2 | h2
     ·exact hem b nb (by omega) h2
     ·exact h2
  ·have hi' : i = pl.length := by omega
   subst hi'
   rw [yV (by rw [zL]; exact zN _)] at h
   have h : some (pl.map EH) = some l' := h
   cases h
   rw [Ay (by simp)]
   exact ⟨pl, rfl, rfl, by rw [zL]; exact hnx⟩
theorem O1 {N : Nat} (hN : N ≤ 1000000) (h20 : 100 ≤ N) {p : Aa} (hv : BR p = 0) {m : Ac} (hm : BZ p m) (hr : BC p m = true) {most : Nat} (hmo : most ≤ 20000) (h1 : 1 ≤ most) {l : List JA} (hs : IL p m most N = some l) :
  ∃ pl, Hd N p m = some (pl, 0) ∧ pl.map EH = l ∧ MO p l.length [] pl := by
 obtain ⟨hp, _⟩ := Da hv
 unfold Hd
 rw [Wl N hN h20 hp hm]
 simp only [oS]
 obtain ⟨pl, e1, e2, e3⟩ := Ll hN h20 hv hmo (fun (v3 : (List AF)) => some (v3, 0)) N 0 [AF.mk m (-1) NG []] [(m, 0)] l (zK _) (UY hm hr) h1 (by
  refine ⟨fun e he => by rw [yS.1 he]; exact hm, ?_, ?_⟩
  ·intro x _ hq n hn
   have hn : n = (m, -1, NG) := yS.1 hn
   simp only [JT] at hq
   split at hq
   ·cases hq
   ·rename_i h; rw [hn]; exact fun e => h e.symm
  ·intro x r _ hq
   simp only [JT] at hq
   split at hq
   ·rename_i h
    cases hq; right; exact ⟨0, -1, NG, rfl, by rw [h]; rfl⟩
   ·cases hq) (by
  constructor
  ·intro b nb hb r hr
   have := Bfs.lt_get hb
   simp at this; subst this
   cases hb; cases hr
  ·intro b nb hb s y hs
   rcases hs with h | h
   ·omega
   ·cases h.2) (fun b nb _ hb => by
    have := Bfs.lt_get hb
    simp at this; subst this
    cases hb; rfl) hs
 refine ⟨pl, ?_, e2, e3⟩
 exact e1
theorem U1 {α : Type} (xs : List α) (x y : α) : ∀ (A B : List α), ((A ++ x :: (xs ++ y :: B)).set A.length y).set (A.length + 1 + xs.length) x = A ++ y :: (xs ++ x :: B)
 | [], B => by
  rw [xN, yM, List.set_cons_zero, show 0 + 1 + xs.length = xs.length + 1 from by omega, vJ, List.set_append_right _ _ (zN _), vF]
  rfl
 | a :: A, B => by
  have := U1 xs x y A B
  simp only [uQ, yD]
  rw [vJ, show A.length + 1 + 1 + xs.length = (A.length + 1 + xs.length) + 1 from by omega, vJ, this]
theorem Sx (N : Nat) (j : List Ad → Option (List Ad)) : ∀ (n : Nat) (xs A B : List Ad), xs.length < 2 * n → A.length + xs.length ≤ 100000 →
  Bn N j n (A ++ (xs ++ B), (A.length : Int), ((A.length + xs.length : Nat) : Int) - 1) = j (A ++ (xs.reverse ++ B))
 | 0, xs, A, B, h, _ => by omega
 | n + 1, xs, A, B, h, h2 => by
  rw [Bn]
  rcases xs with _ | ⟨x, xs⟩
  ·rw [Ay (by simp only [yM]; omega)]; rfl
  ·rcases Bfs.list_snoc xs with rfl | ⟨xs, y, rfl⟩
   ·rw [Ay (by simp only [yD, yM]; omega)]; rfl
   ·simp only [yD, zW, yM] at h h2
    rw [AB (by simp only [yD, zW, yM]; omega)]
    have e1 : (((A.length + (x :: (xs ++ [y])).length : Nat) : Int) - 1) = ((A.length + 1 + xs.length : Nat) : Int) := by simp only [yD, zW, yM]; omega
    have e2 : A ++ (x :: (xs ++ [y]) ++ B) = A ++ x :: (xs ++ y :: B) := by simp
    simp only [e1, e2, AU, zS]
    have g1 : (A ++ x :: (xs ++ y :: B))[A.length + 1 + xs.length]? = some y := by
     rw [yG (by omega), show A.length + 1 + xs.length - A.length = xs.length + 1 from by omega, List.getElem?_cons_succ, yG (zN _), vF]; rfl
    have g2 : (A ++ x :: (xs ++ y :: B))[A.length]? = some x := by
     rw [yG (zN _), vF]; rfl
    rw [g1, g2]
    simp only [oS]
    rw [xB, if_neg (by omega), g1]
    simp only [oS]
    rw [U1, AE (by omega), show wI .i64 (((A.length + 1 + xs.length : Nat) : Int) - 1) = (((A ++ [y]).length + xs.length : Nat) : Int) - 1 from by
     rw [CS (by omega) (by omega)]; simp only [zW, zY]]
    have := Sx N j n xs (A ++ [y]) (x :: B) (by omega) (by simp only [zW, zY]; omega)
    rw [show ((A.length + 1 : Nat) : Int) = (((A ++ [y]).length : Nat) : Int) from by simp]
    rw [show A ++ y :: (xs ++ x :: B) = (A ++ [y]) ++ (xs ++ x :: B) from by simp, this]
    simp
theorem UH (N : Nat) (h20 : 100 ≤ N) (l : List Ad) (h : l.length < 2 * N) (h2 : l.length ≤ 100000) : BB N l = some l.reverse := by
 unfold BB
 rw [CS (by omega) (by omega)]
 have := Sx N (fun v2 => some v2) N l [] [] h (by simpa using h2)
 simp only [xN, xP, yM, zC] at this
 exact this
theorem ME {p : Aa} {m : Ac} {l : List JA} {ws : List (List Ad)} (h : Y4 p m l ws) (N : Nat) {pl : List AF} (hpl : pl.map EH = l) (j : List Ad → Option (List Ad)) : ∀ (n k : Nat) {w acc : List Ad}, k < n → ws[k]? = some w → acc.length + k ≤ 20000 →
  Gq N pl j n ((k : Int), acc) = j (acc ++ w.reverse)
 | 0, k, _, _, hk, _, _ => by omega
 | n + 1, k, w, acc, hk, hw, ha => by
  obtain ⟨⟨x, f, s⟩, hx⟩ := Bfs.get_ex (l := l) (k := k) (by rw [← h.inv.len]; exact Bfs.lt_get hw)
  have hx2 := hx
  rw [← hpl, zD] at hx2
  cases hnd : pl[k]? with
  | none => rw [hnd] at hx2; cases hx2
  | some nd =>
   rw [hnd] at hx2
   have hx2 : EH nd = (x, f, s) := Option.some.inj hx2
   have hf : nd.fh = f := congrArg (fun n : JA => n.2.1) hx2
   have hs : nd.fu = s := congrArg (fun n : JA => n.2.2) hx2
   rw [Gq]
   simp only [AU, hnd, oS]
   rw [hf]
   rcases uJ k with rfl | hk0
   ·obtain ⟨s0, hs0⟩ := h.inv.root; rw [hs0] at hx; cases hx
    rw [h.inv.root'] at hw; cases hw
    rw [Ay (by decide)]; simp
   ·obtain ⟨i, y', g', t', w', e1, e2, e3, e4, e5, e6, e7⟩ := h.inv.par k _ _ _ hk0 hx
    rw [e6] at hw; cases hw
    subst e1
    rw [AB (vV i), Au (by simp [C4]; omega)]
    have := ME h N hpl j n i (w := w') (acc := acc ++ [Ad.mk nd.fu.fg nd.fu.fi nd.fu.fp]) (by omega) e5 (by simp; omega)
    rw [this, show (Ad.mk nd.fu.fg nd.fu.fi nd.fu.fp) = s from hs]
    simp
theorem U5 {p : Aa} {l : List JA} {k : Nat} (h : K9 p l = some k) : k < l.length := by
 obtain ⟨⟨x, f, s, h1, _⟩, _⟩ := Q4 h
 exact Bfs.lt_get h1
theorem RX {N : Nat} (hN : N ≤ 1000000) (h20 : 100 ≤ N) {p : Aa} (hv : BR p = 0) {m : Ac} (hm : BZ p m) (hr : BC p m = true) {most : Nat} (hmo : most ≤ 20000) (h1 : 1 ≤ most) {l : List JA} (hs : IL p m most N = some l) (hl : l.length < N) {ws : List (List Ad)} (h : Y4 p m l ws) :
  FZ N p m = some (MD p l ws) := by
 obtain ⟨hp, _⟩ := Da hv
 have hl2 : l.length ≤ 20000 := xU (Bfs.go_len _ _ _ _ (by simpa using h1) hs) hmo
 unfold FZ
 rw [KB N p m hN h20 (MJ hm) (IZ hv hm), hr]
 simp only [oS, bne_self_eq_false, Al, yA]
 obtain ⟨pl, e1, e2, e3⟩ := O1 hN h20 hv hm hr hmo h1 hs
 rw [e1]
 simp only [oS, bne_self_eq_false, Al]
 have hpll : pl.length = l.length := by rw [← e2, zL]
 unfold Cn
 have := BO (AX N pl ((fun (x : AF) => E4 N x p.fb p.fj p.fo p.fd)) fun _ => some (-1)) l (some (-1)) (fun i n => (if Ip p n.1 = true then some i else none).map fun (k : Nat) => (k : Int))
  (fun n i nd hnd => by
   have hi := (lI.1 hnd).1
   have hnd2 := hnd
   rw [← e2, zD] at hnd2
   cases hq : pl[i]? with
   | none => rw [hq] at hnd2; cases hnd2
   | some nq =>
    rw [hq] at hnd2
    have hnd2 : EH nq = nd := Option.some.inj hnd2
    rw [AX, AB (by omega), AU, hq]
    simp only [oS]
    have hok := (h.ok _ _ _ _ (show l[i]? = some (nd.1, nd.2.1, nd.2.2) from hnd)).1
    have hM : nq.fq = nd.1 := congrArg (fun n : JA => n.1) hnd2
    unfold E4
    simp only
    rw [show (Aa.mk p.fb p.fj p.fo p.fd) = p from rfl, show (Ac.mk nq.fq.fe nq.fq.fc nq.fq.ff) = nd.1 from hM, Tq N p nd.1 hN h20 (MJ hok), AE (by omega)]
    simp only [oS]
    cases hg : Ip p nd.1 <;> rfl)
  (fun n => by rw [AX, Ay (by omega)]) N 0 (zK _) (by omega)
 have e3 : AX N pl ((fun (x : AF) => E4 N x p.fb p.fj p.fo p.fd)) (fun _ => some (-1)) N 0 = _ := this
 rw [e3, zZ, LJ]
 unfold MD
 cases hg : K9 p l with
 | none =>
  unfold K9 at hg
  rw [hg]; rfl
 | some k =>
  have hk := U5 hg
  unfold K9 at hg
  rw [hg]
  simp only [yQ, BT, oS]
  rw [Ay (by omega)]
  obtain ⟨w, hw⟩ := Bfs.get_ex (l := ws) (k := k) (by rw [h.inv.len]; exact hk)
  have e4 := ME h N e2 (fun (v2 : (List Ad)) => (BB N v2).bind fun v8 => some v8) N k (w := w) (acc := []) (by omega) hw (by simp; omega)
  unfold Kq
  have hwl := RV h (k + 1) k (Nat.lt_succ_self k) hw
  rw [e4, xN, UH N h20 _ (by rw [List.length_reverse]; omega) (by rw [List.length_reverse]; omega), List.reverse_reverse]
  simp only [oS]
  rw [lD, hw]; rfl
def Zs (p : Aa) (m : Ac) (w : List Ad) : Prop := NF p m w = true ∧ Bfs.Dig M6 100 w ∧ ∀ u, NF p m u = true → Bfs.code M6 100 w ≤ Bfs.code M6 100 u
theorem Vq {p : Aa} (hp : Bf p) : ∀ {w : List Ad} {m x : Ac}, PQ p m w = some x → Bfs.Dig M6 100 w ∧ ∀ s, s ∈ w → s ∈ E5 p
 | [], _, _, _ => ⟨fun s hs => (by cases hs), fun s hs => (by cases hs)⟩
 | s :: w, m, x, h => by
  simp only [PQ] at h
  cases hs : NY p m s with
  | none => rw [hs] at h; cases h
  | some z =>
   rw [hs] at h
   obtain ⟨h1, h2⟩ := Vq hp h
   have h3 := (IV (Nj.1 (QR hs)).1).1
   refine ⟨fun t ht => ?_, fun t ht => ?_⟩
   ·rcases zQ.1 ht with rfl | ht
    ·exact (PF hp h3).2
    ·exact h1 t ht
   ·rcases zQ.1 ht with rfl | ht
    ·exact h3
    ·exact h2 t ht
theorem QC {p : Aa} (hp : Bf p) {m : Ac} {l : List JA} {ws : List (List Ad)} (h : Y4 p m l ws) :
  ((MD p l ws).2 = 0 ∧ Zs p m (MD p l ws).1 ∧ (MD p l ws).1.length ≤ l.length) ∨ (MD p l ws = ([], 14) ∧ ∀ u, NF p m u = false) := by
 unfold MD
 cases hg : K9 p l with
 | none =>
  right
  refine ⟨rfl, fun u => ?_⟩
  cases hu : NF p m u
  ·rfl
  ·obtain ⟨x, h1, h2⟩ := QH hu
   obtain ⟨k, f, s, w, g1, g2, g3⟩ := Q2 hp h h1
   rw [Vy hg g1] at h2; cases h2
 | some k =>
  left
  obtain ⟨⟨x, f, s, h1, h2⟩, h3⟩ := Q4 hg
  have hk := U5 hg
  obtain ⟨w, hw⟩ := Bfs.get_ex (l := ws) (k := k) (by rw [h.inv.len]; exact hk)
  have hwe : ws.getD k [] = w := by rw [lD, hw]; rfl
  simp only [hwe]
  have hrun := YH hp h h1 hw
  refine ⟨trivial, ⟨?_, (Vq hp hrun).1, ?_⟩, ?_⟩
  ·unfold NF; rw [hrun]; exact h2
  ·intro u hu
   obtain ⟨y, g1, g2⟩ := QH hu
   obtain ⟨k', f', s', w', e1, e2, e3⟩ := Q2 hp h g1
   refine xU ?_ e3
   by_cases hkk : k' < k
   ·rw [h3 k' y f' s' hkk e1] at g2; cases g2
   ·rcases Nat.lt_or_eq_of_le (Nat.le_of_not_lt hkk) with h4 | h4
    ·exact Nat.le_of_lt (h.inv.inc _ _ _ _ hw e2 h4)
    ·subst h4; rw [hw] at e2; cases e2; exact zN _
  ·have := RV h (k + 1) k (Nat.lt_succ_self k) hw
   omega
def Ss (p : Aa) (m : Ac) (r : List Ad × Int) : Prop := (r.2 = 0 ∧ Zs p m r.1 ∧ r.1.length ≤ 120) ∨ (r = ([], 14) ∧ ∀ u, NF p m u = false)
def Lk (p : Aa) : Prop := BC p (FN p) = false ∨ ∃ l, IL p (FN p) 120 1000 = some l
def ND (p : Aa) (r : List Ad × Int) : Prop := (BC p (FN p) = false ∧ r = ([], 13)) ∨ (BC p (FN p) = true ∧ Ss p (FN p) r)
theorem P5 {α : Type} [DecidableEq α] : ∀ (L S : List α), L.Nodup → (∀ x, x ∈ L → x ∈ S) → L.length ≤ S.length
 | [], S, _, _ => zK _
 | x :: L, S, hn, hs => by
  obtain ⟨h1, h2⟩ := xR.1 hn
  have hx := hs x (by simp)
  have := P5 L (S.erase x) h2 (fun y hy => by
   have hne : y ≠ x := fun e => h1 (e ▸ hy)
   exact (List.mem_erase_of_ne hne).2 (hs y (x8 _ hy)))
  rw [List.length_erase_of_mem hx] at this
  have := List.length_pos_of_mem hx
  simp only [yD]
  omega
def Lv (l : List JA) : List Ac := l.map fun n => n.1
theorem XY {i : Nat} {l : List JA} {q : Ad × Ac} (h : (Lv l).Nodup) : (Lv (Bfs.put i l q)).Nodup ∧ ∀ x, x ∈ Lv (Bfs.put i l q) → x ∈ Lv l ∨ x = q.2 := by
 unfold Bfs.put
 split
 ·exact ⟨h, fun x hx => .inl hx⟩
 ·rename_i hn
  unfold Lv at h ⊢
  rw [y7]
  refine ⟨?_, ?_⟩
  ·rw [List.nodup_append]
   refine ⟨h, by simp, ?_⟩
   intro a ha b hb
   have hb : b = q.2 := by simpa using hb
   subst hb
   intro e
   subst e
   obtain ⟨n, hn1, hn2⟩ := zU.1 ha
   exact hn (xF.2 ⟨n, hn1, decide_eq_true hn2⟩)
  ·intro x hx
   rcases yC.1 hx with hx | hx
   ·exact .inl hx
   ·exact .inr (by simpa using hx)
theorem OD {S : List Ac} {most i : Nat} (hS : S.length ≤ most) : ∀ (qs : List (Ad × Ac)) (l : List JA), (Lv l).Nodup → (∀ x, x ∈ Lv l → x ∈ S) → (∀ q, q ∈ qs → q.2 ∈ S) →
  ∃ l', Bfs.inner most i qs l = some l' ∧ (Lv l').Nodup ∧ (∀ x, x ∈ Lv l' → x ∈ S) ∧ l.length ≤ l'.length
 | [], l, h1, h2, _ => ⟨l, rfl, h1, h2, zN _⟩
 | q :: qs, l, h1, h2, h3 => by
  obtain ⟨g1, g2⟩ := XY (i := i) (q := q) h1
  have g3 : ∀ x, x ∈ Lv (Bfs.put i l q) → x ∈ S := fun x hx => (g2 x hx).elim (h2 x) fun e => by rw [e]; exact h3 q (by simp)
  have := P5 _ S g1 g3
  unfold Lv at this
  rw [zL] at this
  simp only [Bfs.inner]
  rw [if_neg (by omega)]
  obtain ⟨l', e1, e2, e3, e4⟩ := OD hS qs (Bfs.put i l q) g1 g3 (fun q hq => h3 q (x8 _ hq))
  refine ⟨l', e1, e2, e3, xU ?_ e4⟩
  unfold Bfs.put; split
  ·exact zN _
  ·simp
theorem Tg {p : Aa} {S : List Ac} {most : Nat} (hS : S.length ≤ most) (hc : ∀ x, x ∈ S → ∀ q, q ∈ Jc p x → q.2 ∈ S) : ∀ (n i : Nat) (l : List JA), (Lv l).Nodup → (∀ x, x ∈ Lv l → x ∈ S) → i ≤ l.length → most < n + i → ∃ l', Bfs.go (Jc p) most n i l = some l'
 | 0, i, l, h1, h2, hi, hn => by
  have := P5 _ S h1 h2
  unfold Lv at this
  rw [zL] at this
  omega
 | n + 1, i, l, h1, h2, hi, hn => by
  simp only [Bfs.go]
  cases hx : l[i]? with
  | none => exact ⟨l, rfl⟩
  | some nd =>
   have hS2 : nd.1 ∈ S := h2 _ (zU.2 ⟨nd, lM hx, rfl⟩)
   obtain ⟨l1, e1, e2, e3, e4⟩ := OD (i := i) hS (Jc p nd.1) l h1 h2 (hc _ hS2)
   simp only [e1, oS]
   have := Bfs.lt_get hx
   exact Tg hS hc n (i + 1) l1 e2 e3 (by omega) (by omega)
theorem Z5 {p : Aa} {t : An} (hp : Bf p) (ht : OI p t) : t.fm.length ≤ 6 ∧ ∀ row, row ∈ t.fm → row.length ≤ 6 := by
 have h1 := Kt hp.ver ht.from0.1 ht.from0.2
 refine ⟨?_, fun row hr => by have := ht.reR row hr; omega⟩
 by_cases hk : t.fg = 4
 ·have := ht.reL hk; omega
 ·rw [ht.reN hk]; simp
theorem Tc (N : Nat) {l : List (List Bool)} (h : l.length ≤ 100000) : C3 N l = some l := by
 unfold C3
 rw [Au (by simp only [yM]; unfold C4; omega)]; rfl
theorem UT (N : Nat) {l : List Bool} (h : l.length ≤ 100000) : CF N l = some l := by
 unfold CF
 rw [Au (by simp only [yM]; unfold C4; omega)]; rfl
theorem Or {α : Type} {l : List α} {i : Nat} {x : α} (h : l[i]? = some x) : l.set i x = l := by
 apply List.ext_getElem?
 intro k
 rw [xB]
 have := (lI.1 h).1
 by_cases e : i = k
 ·subst e; rw [if_pos rfl, if_pos this, h]
 ·rw [if_neg e]
structure cE (N : Nat) (p : Aa) : Prop where
 v : p.fb.length < N
 n : p.fj.length < N
 t : p.fo.length < N
 s : p.fd.length < N
 m : ∀ t, t ∈ p.fd → t.fr.length < N ∧ (∀ row, row ∈ t.fr → row.length < N) ∧ t.fm.length < N ∧ ∀ row, row ∈ t.fm → row.length < N
def ee (p : Aa) : Prop := BC p (FN p) = true ∧ ∃ u, NF p (FN p) u = true
theorem VJ {N : Nat} (hN : N ≤ 1000000) (h1 : 1000 ≤ N) {p : Aa} (hv : BR p = 0) {m : Ac} (hm : BZ p m) (hr : BC p m = true) {l : List JA} (hs : IL p m 120 1000 = some l) :
  ∃ r, FZ N p m = some r ∧ Ss p m r := by
 obtain ⟨hp, _⟩ := Da hv
 obtain ⟨ws, h⟩ := Um hp hm hr hs
 have hl : l.length ≤ 120 := Bfs.go_len _ _ _ _ (by simp) hs
 refine ⟨_, RX (N := N) (by omega) (by omega) hv hm hr (by omega) (by omega) (Bfs.go_more (zN _) _ _ _ _ _ h1 hs) (by omega) h, ?_⟩
 rcases QC hp h with ⟨k1, h2, h3⟩ | k1
 ·exact .inl ⟨k1, h2, by omega⟩
 ·exact .inr k1
theorem T4 {N : Nat} (hN : N ≤ 1000000) (h1 : 1000 ≤ N) {p : Aa} (hv : BR p = 0) {m : Ac} (hm : BZ p m) (hr : BC p m = false) : FZ N p m = some ([], 13) := by
 unfold FZ
 rw [KB N p m (by omega) (by omega) (MJ hm) (IZ hv hm), hr]; rfl
theorem Rk {N : Nat} (hN : N ≤ 1000000) (h1 : 1000 ≤ N) {p : Aa} (hv : BR p = 0) (hl : Lk p) : ∃ r, GJ N p = some r ∧ ND p r := by
 have hm := Pv hv
 unfold GJ
 rw [R2 N p (by omega) (by omega), if_pos hv]
 simp only [oS, hv, bne_self_eq_false, Al]
 cases hr : BC p (FN p)
 ·rw [T4 hN h1 hv hm hr]
  exact ⟨_, rfl, .inl ⟨hr, rfl⟩⟩
 ·rcases hl with h | ⟨l, hs⟩
  ·rw [hr] at h; cases h
  ·obtain ⟨r, e1, e3⟩ := VJ hN h1 hv hm hr hs
   rw [e1]
   exact ⟨r, rfl, .inr ⟨hr, e3⟩⟩
theorem TW {N : Nat} (hN : N ≤ 1000000) (h1 : 1000 ≤ N) {p : Aa} (hv : BR p = 0) (hl : Lk p) : ∃ r, Fm N p = some r ∧ ND p r := by
 obtain ⟨hp, _⟩ := Da hv
 have hm := Pv hv
 unfold Fm
 rw [NN N p (by omega) (by omega), if_pos hv]
 simp only [oS, hv, bne_self_eq_false, Al]
 cases hr : BC p (FN p)
 ·unfold Ey
  rw [JB N p _ (by omega) (by omega), IZ hv hm, IS N p _ (by omega) (by omega) hp hm, hr]
  exact ⟨_, rfl, .inl ⟨hr, rfl⟩⟩
 ·rcases hl with h | ⟨l, hs⟩
  ·rw [hr] at h; cases h
  ·obtain ⟨ws, h⟩ := Um hp hm hr hs
   have hl : l.length ≤ 120 := Bfs.go_len _ _ _ _ (by simp) hs
   have hs2 : IL p (FN p) 20000 N = some l := Bfs.go_more (by omega) _ _ _ _ _ h1 hs
   rw [SG (N := N) (by omega) (by omega) hv hm hr hs2 (by omega) h]
   refine ⟨_, rfl, .inr ⟨hr, ?_⟩⟩
   rcases QC hp h with ⟨k1, h2, h3⟩ | k1
   ·exact .inl ⟨k1, h2, by show (MD p l ws).1.length ≤ 120; omega⟩
   ·exact .inr k1
theorem S1 {p : Aa} {r : List Ad × Int} (h : ND p r) : ((r.2 == 0) = true ↔ ee p) ∧ (r.2 == 3) = false ∧ (r.2 = 0 ∨ r.2 = 13 ∨ r.2 = 14) := by
 rcases h with ⟨h1, h2⟩ | ⟨h1, ⟨h2, h3, _⟩ | ⟨h2, h3⟩⟩
 ·subst h2
  refine ⟨⟨(fun h => by cases h), fun h => ?_⟩, rfl, .inr (.inl rfl)⟩
  rw [h.1] at h1; cases h1
 ·rw [h2]
  exact ⟨⟨fun _ => ⟨h1, _, h3.1⟩, fun _ => rfl⟩, rfl, .inl rfl⟩
 ·subst h2
  refine ⟨⟨(fun h => by cases h), fun h => ?_⟩, rfl, .inr (.inr rfl)⟩
  obtain ⟨_, u, hu⟩ := h
  rw [h3 u] at hu; cases hu
def zP : Aa := ⟨[], [], [], []⟩
def Lu (l : List Int) (i : Nat) (x : Int) : Option (Aa × Int) := if 0 < i ∧ x ≤ l.getD (i - 1) 0 then some (zP, 1) else none
def Od (l : List Int) : Bool := (CG (Lu l) 0 l).isNone
def V9 (p : Aa) (x : Int) : Bool := decide (0 ≤ x ∧ x < (p.fb.length : Int))
def KE (l : List Int) (x : Int) : Int := (CG (fun i y => if (y == x) = true then some ((i : Nat) : Int) else none) 0 l).getD (-1)
def N7 (l : List Int) (t : An) : List An := if 0 ≤ KE l t.fh ∧ 0 ≤ KE l t.fk then [⟨t.fg, KE l t.fh, KE l t.fk, t.ft, t.fr, t.fm⟩] else []
def Ql (xs : List Int) (s : Int) : Int := xs.getD s.toNat 0
def HH (p : Aa) (l : List Int) : Aa := ⟨l.map (Ql p.fb), l.map (Ql p.fj), l.map (Ql p.fo), CH (fun _ t => N7 l t) 0 p.fd⟩
def Ih (p : Aa) (l : List Int) : Aa × Int := if Od l = true then (if l.all (V9 p) = true then (HH p l, 0) else (zP, 4)) else (zP, 1)
theorem S4 (l : List Int) {r : Aa × Int} (h : CG (Lu l) 0 l = some r) : r = (zP, 1) := by
 obtain ⟨j, x, _, h⟩ := DW h
 unfold Lu at h
 split at h
 ·cases h; rfl
 ·cases h
theorem V4 {N : Nat} (hN : N ≤ 1000000) (l : List Int) (hl : l.length < N) (j : Unit → Option (Aa × Int)) : Cx N l j N 0 = if Od l = true then j () else some (zP, 1) := by
 have h := BO (Cx N l j) l (j ()) (Lu l)
  (fun n i x hx => by
   have hi := (lI.1 hx).1
   rw [Cx, AB (by omega)]
   simp only [Bl]
   unfold Lu
   by_cases h0 : 0 < i
   ·rw [AB (by omega), AU, hx, CS (by omega) (by omega), show (i : Int) - 1 = ((i - 1 : Nat) : Int) from by omega, Dc (d := 0) (by omega)]
    simp only [oS, h0, true_and]
    rw [AE (by omega)]
    by_cases h1 : x ≤ l.getD (i - 1) 0
    ·rw [AB h1, if_pos h1]; rfl
    ·rw [Ay h1, if_neg h1]; rfl
   ·rw [Ay (by omega), if_neg (fun h => h0 h.1), Al, AE (by omega)]; rfl)
  (fun n => by rw [Cx, Ay (by omega)]) N 0 (zK _) (by omega)
 rw [zZ] at h
 have h' : Cx N l j N 0 = _ := h
 rw [h']
 unfold Od
 cases hs : CG (Lu l) 0 l with
 | none => rfl
 | some r => rw [S4 l hs]; rfl
theorem Yq {N : Nat} (hN : N ≤ 1000000) (l : List Int) (hl : l.length < N) (j : Unit → Option (Aa × Int)) : A1 N l j N 1 = if Od l = true then j () else some (zP, 1) := by
 cases hc : l with
 | nil =>
  obtain ⟨n, rfl⟩ : ∃ n, N = n + 1 := ⟨N - 1, by omega⟩
  rw [A1, Ay (by simp)]; rfl
 | cons y ys =>
  rw [← hc]
  have hll : l.length = ys.length + 1 := by rw [hc]; rfl
  have h := BO (fun n i => A1 N l j n (i + 1)) ys (j ()) (fun i x => Lu l (i + 1) x)
   (fun n i x hx => by
    have hi := (lI.1 hx).1
    have hx' : l[i + 1]? = some x := by rw [hc]; simpa using hx
    show A1 N l j (n + 1) ((i : Int) + 1) = _
    rw [show (i : Int) + 1 = ((i + 1 : Nat) : Int) from by omega, A1, AB (by omega), AU, hx', CS (by omega) (by omega), show ((i + 1 : Nat) : Int) - 1 = (i : Int) from by omega, Dc (d := 0) (by omega)]
    simp only [oS]
    unfold Lu
    rw [AE (by omega)]
    simp only [Nat.zero_lt_succ, true_and, Nat.add_sub_cancel]
    by_cases h1 : x ≤ l.getD i 0
    ·rw [AB h1, if_pos h1]; rfl
    ·rw [Ay h1, if_neg h1]
     show _ = A1 N l j n (((i + 1 : Nat) : Int) + 1)
     rw [show ((i + 1 : Nat) : Int) + 1 = ((i + 1 + 1 : Nat) : Int) from by omega])
   (fun n => by
    show A1 N l j (n + 1) ((ys.length : Int) + 1) = _
    rw [A1, Ay (by omega)]) N 0 (zK _) (by omega)
  rw [zZ] at h
  have h' : A1 N l j N 1 = _ := h
  rw [h']
  have e : CG (Lu l) 0 l = CG (fun i x => Lu l (i + 1) x) 0 ys := by
   have sh : ∀ (ys : List Int) (i : Nat), CG (Lu l) (i + 1) ys = CG (fun i x => Lu l (i + 1) x) i ys := by
    intro ys
    induction ys with
    | nil => intro i; rfl
    | cons z zs ih => intro i; rw [FP, FP, ih]
   have h0 : Lu l 0 y = none := by unfold Lu; rw [if_neg (by omega)]
   have q : ∀ g : Nat → Int → Option (Aa × Int), CG g 0 l = CG g 0 (y :: ys) := fun g => by rw [hc]
   rw [q, FP, h0, ← sh ys 0]
  unfold Od
  rw [e]
  cases hs : CG (fun i x => Lu l (i + 1) x) 0 ys with
  | none => rfl
  | some r => rw [← e] at hs; rw [S4 l hs]; rfl
theorem Nh {N : Nat} (hN : N ≤ 1000000) (l : List Int) (hl : l.length < N) (x : Int) : Dp N l x = some (KE l x) ∧ Ef N l x = some (KE l x) := by
 constructor
 ·unfold Dp
  have h := BO (BS N l x fun _ => some (-1)) l (some (-1)) (fun i y => if (x == y) = true then some ((i : Nat) : Int) else none)
   (fun n i y hy => by
    have hi := (lI.1 hy).1
    rw [BS, AB (by omega), AU, hy]
    simp only [oS]
    rw [AE (by omega)]
    cases x == y <;> rfl)
   (fun n => by rw [BS, Ay (by omega)]) N 0 (zK _) (by omega)
  rw [zZ] at h
  have h' : BS N l x (fun _ => some (-1)) N 0 = _ := h
  refine h'.trans ?_
  unfold KE
  have e : (fun (i : Nat) (y : Int) => if (x == y) = true then some (i : Int) else none) = fun i y => if (y == x) = true then some ((i : Nat) : Int) else none := by
   funext i y
   rw [Bool.beq_comm]
  rw [e]
  cases CG (fun i y => if (y == x) = true then some ((i : Nat) : Int) else none) 0 l <;> rfl
 ·unfold Ef
  have h := BO (Ch N l x fun _ => some (-1)) l (some (-1)) (fun i y => if (y == x) = true then some ((i : Nat) : Int) else none)
   (fun n i y hy => by
    have hi := (lI.1 hy).1
    rw [Ch, AB (by omega), AU, hy]
    simp only [oS]
    rw [AE (by omega)]
    cases y == x <;> rfl)
   (fun n => by rw [Ch, Ay (by omega)]) N 0 (zK _) (by omega)
  rw [zZ] at h
  have h' : Ch N l x (fun _ => some (-1)) N 0 = _ := h
  refine h'.trans ?_
  unfold KE
  cases CG (fun i y => if (y == x) = true then some ((i : Nat) : Int) else none) 0 l <;> rfl
theorem Rm {N : Nat} (hN : N ≤ 1000000) {p : Aa} (h2 : p.fj.length = p.fb.length) (h3 : p.fo.length = p.fb.length) (l : List Int) (hl : l.length ≤ 1000) (j : List Int × List Int × List Int → Option (Aa × Int)) : ∀ (n i : Nat) (a b c : List Int), i ≤ l.length → l.length - i < n → a.length = i → b.length = i → c.length = i →
  DV N p l j n (a, b, c, (i : Int)) = if (l.drop i).all (V9 p) = true then j (a ++ (l.drop i).map (Ql p.fb), b ++ (l.drop i).map (Ql p.fj), c ++ (l.drop i).map (Ql p.fo)) else some (zP, 4)
 | 0, i, _, _, _, _, h, _, _, _ => by omega
 | n + 1, i, a, b, c, hi, h, ha, hb, hc => by
  rw [DV]
  by_cases h1 : i < l.length
  ·have hx : l[i]? = some l[i] := by simp [h1]
   rw [AB (by simp only; omega), Gp hx]
   simp only [AU, hx, oS, xZ, yF]
   generalize l[i] = x
   unfold DD
   simp only [Bl]
   by_cases hr : 0 ≤ x ∧ x < (p.fb.length : Int)
   ·have hin : V9 p x = true := decide_eq_true hr
    rw [hin, y8, AB hr.1, decide_eq_true hr.2]
    simp only [oS, yA, Al]
    rw [El (d := 0) hr.1 hr.2, El (d := 0) hr.1 (by omega), El (d := 0) hr.1 (by omega)]
    simp only [oS]
    rw [Au (by simp only [zY]; unfold C4; omega), Au (by simp only [zY]; unfold C4; omega), Au (by simp only [zY]; unfold C4; omega), AE (by omega),
     Rm hN h2 h3 l hl j n (i + 1) _ _ _ (by omega) (by omega) (by simp [ha]) (by simp [hb]) (by simp [hc])]
    simp only [yL, List.singleton_append]
    rfl
   ·have hin : V9 p x = false := decide_eq_false hr
    rw [hin, vO, if_neg (by decide)]
    by_cases h0 : 0 ≤ x
    ·rw [AB h0, decide_eq_false (fun h => hr ⟨h0, h⟩)]; rfl
    ·rw [Ay h0]; rfl
  ·have : i = l.length := by omega
   subst this
   rw [Ay (by simp only; omega), yO (zN _)]
   simp
theorem UU {N : Nat} (hN : N ≤ 1000000) {p : Aa} (h2 : p.fj.length = p.fb.length) (h3 : p.fo.length = p.fb.length) (l : List Int) (hl : l.length ≤ 1000) (j : List Int × List Int × List Int → Option (Aa × Int)) : ∀ (n i : Nat) (a b c : List Int), i ≤ l.length → l.length - i < n → a.length = i → b.length = i → c.length = i →
  CM N p l j n (a, b, c, (i : Int)) = if (l.drop i).all (V9 p) = true then j (a ++ (l.drop i).map (Ql p.fb), b ++ (l.drop i).map (Ql p.fj), c ++ (l.drop i).map (Ql p.fo)) else some (zP, 4)
 | 0, i, _, _, _, _, h, _, _, _ => by omega
 | n + 1, i, a, b, c, hi, h, ha, hb, hc => by
  rw [CM]
  by_cases h1 : i < l.length
  ·have hx : l[i]? = some l[i] := by simp [h1]
   rw [AB (by simp only; omega), Gp hx]
   simp only [AU, hx, oS, xZ, yF, Bl]
   generalize l[i] = x
   by_cases hr : 0 ≤ x ∧ x < (p.fb.length : Int)
   ·have hin : V9 p x = true := decide_eq_true hr
    rw [hin, y8, Ay (by omega), decide_eq_false (by omega), Al]
    rw [El (d := 0) hr.1 hr.2, El (d := 0) hr.1 (by omega), El (d := 0) hr.1 (by omega)]
    simp only [oS]
    rw [Au (by simp only [zY]; unfold C4; omega), Au (by simp only [zY]; unfold C4; omega), Au (by simp only [zY]; unfold C4; omega), AE (by omega),
     UU hN h2 h3 l hl j n (i + 1) _ _ _ (by omega) (by omega) (by simp [ha]) (by simp [hb]) (by simp [hc])]
    simp only [yL, List.singleton_append]
    rfl
   ·have hin : V9 p x = false := decide_eq_false hr
    rw [hin, vO, if_neg (by decide)]
    by_cases h0 : x < 0
    ·rw [AB h0]; rfl
    ·rw [Ay h0, decide_eq_true (by omega)]; rfl
  ·have : i = l.length := by omega
   subst this
   rw [Ay (by simp only; omega), yO (zN _)]
   simp
theorem Ui {N : Nat} (h20 : 100 ≤ N) (t : An) (h1 : t.fr.length ≤ 6) (h2 : ∀ row, row ∈ t.fr → row.length ≤ 6) (h3 : t.fm.length ≤ 6) (h4 : ∀ row, row ∈ t.fm → row.length ≤ 6) : GO N t = some t := by
 unfold GO
 rw [Tc N (by omega), Tc N (by omega)]
 simp only [oS]
 have l2 : ∀ v4, C7 N t.fm (fun v10 => some ⟨t.fg, t.fh, t.fk, t.ft, v4, v10⟩) N (t.fm, 0) = some ⟨t.fg, t.fh, t.fk, t.ft, v4, t.fm⟩ := fun v4 => by
  have l2 := H8 (C7 N t.fm fun v12 => some ⟨t.fg, t.fh, t.fk, t.ft, v4, v12⟩) (fun a i => (a, i)) t.fm (fun v12 => some ⟨t.fg, t.fh, t.fk, t.ft, v4, v12⟩) (fun _ _ a => a) (fun _ a => a = t.fm)
   (fun n i x a hx ha => by
    subst ha
    have hi := (lI.1 hx).1
    refine ⟨?_, rfl⟩
    rw [C7]
    simp only [AU, hx, oS]
    rw [AB (by omega), UT N (by have := h4 x (lM hx); omega)]
    simp only [oS]
    rw [AE (by omega), zS, Or hx])
   (fun n a ha => by
    subst ha
    rw [C7, Ay (by omega)]) N 0 t.fm (zK _) (by omega) rfl
  have e := l2.1
  rw [l2.2] at e
  exact e
 have l1 := H8 (D5 N t.fr fun v4 => C7 N t.fm (fun v10 => some ⟨t.fg, t.fh, t.fk, t.ft, v4, v10⟩) N (t.fm, 0)) (fun a i => (a, i)) t.fr (fun v4 => some ⟨t.fg, t.fh, t.fk, t.ft, v4, t.fm⟩) (fun _ _ a => a) (fun _ a => a = t.fr)
  (fun n i x a hx ha => by
   subst ha
   have hi := (lI.1 hx).1
   refine ⟨?_, rfl⟩
   rw [D5]
   simp only [AU, hx, oS]
   rw [AB (by omega), UT N (by have := h2 x (lM hx); omega)]
   simp only [oS]
   rw [AE (by omega), zS, Or hx])
  (fun n a ha => by
   subst ha
   rw [D5, Ay (by omega)]
   exact l2 t.fr) N 0 t.fr (zK _) (by omega) rfl
 have e := l1.1
 rw [l1.2] at e
 exact e
theorem Po {N : Nat} (h20 : 100 ≤ N) (l : List (List Bool)) (h1 : l.length ≤ 6) (h2 : ∀ row, row ∈ l → row.length ≤ 6) : DT N l = some l := by
 unfold DT
 rw [FQ (CE N l _) (fun a i => (a, i)) l some (fun _ x => [x]) 1 1000
  (fun i x hx => by simp)
  (fun n i x a hx ha => by
   have hi := (lI.1 hx).1
   have hr := h2 x (lM hx)
   rw [CE]
   simp only [AU, hx, oS]
   rw [AB (by omega), Au (by simp only [yM]; unfold C4; omega), Au (by simp only [zY] at ha ⊢; unfold C4; omega), AE (by omega)]
   rfl)
  (fun n a => by
   rw [CE, Ay (by omega)]) N [] (by omega) (by simp only [yM]; omega), Te]
 rfl
theorem TF {p : Aa} (hp : Bf p) {t : An} (h : t ∈ p.fd) : (t.fr.length ≤ 6 ∧ ∀ row, row ∈ t.fr → row.length ≤ 6) ∧ t.fm.length ≤ 6 ∧ ∀ row, row ∈ t.fm → row.length ≤ 6 := by
 have ht := LE (hp.tab t h)
 exact ⟨NT hp ht, Z5 hp ht⟩
theorem NH {N : Nat} (hN : N ≤ 1000000) (h20 : 100 ≤ N) {p : Aa} (hv : BR p = 0) (l : List Int) (hl : l.length ≤ 90) : FV N p l = some (Ih p l) := by
 obtain ⟨hp, _⟩ := Da hv
 have hnt := hp.nt
 unfold FV Ih
 rw [Io N p hN (by omega)]
 simp only [oS, hv, bne_self_eq_false, Al]
 rw [V4 hN l (by omega)]
 split
 ·have h := Rm hN hp.now hp.tgt l (by omega) (fun v12 => CJ N p l (fun v24 => some (Aa.mk v12.1 v12.2.1 v12.2.2 v24, 0)) N ([], 0)) N 0 [] [] [] (zK _) (by omega) rfl rfl rfl
  rw [zZ] at h
  refine Eq.trans h ?_
  split
  ·rw [FQ (CJ N p l _) (fun a i => (a, i)) p.fd (fun v24 => some (Aa.mk _ _ _ v24, 0)) (fun _ t => N7 l t) 1 1000
    (fun i t ht => by unfold N7; split <;> simp)
    (fun n i t a ht ha => by
     have hi := (lI.1 ht).1
     obtain ⟨⟨a1, a2⟩, a3, a4⟩ := TF hp (lM ht)
     rw [CJ]
     simp only [Bl, AU, ht, oS]
     rw [AB (by omega), (Nh hN l (by omega) t.fh).1, (Nh hN l (by omega) t.fk).1]
     simp only [oS]
     rw [AE (by omega), Ui h20 t a1 a2 a3 a4]
     simp only [oS]
     unfold N7 at ha ⊢
     by_cases h1 : 0 ≤ KE l t.fh
     ·rw [AB h1]
      by_cases h2 : 0 ≤ KE l t.fk
      ·rw [decide_eq_true h2, AQ, if_pos ⟨h1, h2⟩]
       rw [if_pos ⟨h1, h2⟩] at ha
       rw [Au (by simp only [zY] at ha ⊢; unfold C4; omega)]
      ·rw [decide_eq_false h2, Al, if_neg (fun h => h2 h.2), xP]
     ·rw [Ay h1, Al, if_neg (fun h => h1 h.1), xP])
    (fun n a => by rw [CJ, Ay (by omega)]) N [] (by omega) (by simp only [yM]; omega)]
   rfl
  ·rfl
 ·rfl
theorem Lr {N : Nat} (hN : N ≤ 1000000) (h20 : 100 ≤ N) {p : Aa} (hv : BR p = 0) (l : List Int) (hl : l.length ≤ 90) : Dq N p l = some (Ih p l) := by
 obtain ⟨hp, _⟩ := Da hv
 have hnt := hp.nt
 unfold Dq Ih
 rw [JW N p hN (by omega)]
 simp only [oS, hv, bne_self_eq_false, Al]
 rw [Yq hN l (by omega)]
 split
 ·have h := UU hN hp.now hp.tgt l (by omega) (fun v10 => BH N p l (fun v23 => some (Aa.mk v10.1 v10.2.1 v10.2.2 v23, 0)) N ([], 0)) N 0 [] [] [] (zK _) (by omega) rfl rfl rfl
  rw [zZ] at h
  refine Eq.trans h ?_
  split
  ·rw [FQ (BH N p l _) (fun a i => (a, i)) p.fd (fun v24 => some (Aa.mk _ _ _ v24, 0)) (fun _ t => N7 l t) 1 1000
    (fun i t ht => by unfold N7; split <;> simp)
    (fun n i t a ht ha => by
     have hi := (lI.1 ht).1
     obtain ⟨⟨a1, a2⟩, a3, a4⟩ := TF hp (lM ht)
     rw [BH]
     simp only [Bl, AU, ht, oS]
     rw [AB (by omega), (Nh hN l (by omega) t.fh).2, (Nh hN l (by omega) t.fk).2]
     simp only [oS]
     unfold FD
     rw [AE (by omega), Po h20 _ a1 a2, Po h20 _ a3 a4]
     simp only [oS]
     unfold N7 at ha ⊢
     by_cases h1 : 0 ≤ KE l t.fh
     ·rw [AB h1]
      by_cases h2 : 0 ≤ KE l t.fk
      ·rw [decide_eq_true h2, AQ, if_pos ⟨h1, h2⟩]
       rw [if_pos ⟨h1, h2⟩] at ha
       rw [Au (by simp only [zY] at ha ⊢; unfold C4; omega)]
      ·rw [decide_eq_false h2, Al, if_neg (fun h => h2 h.2), xP]
     ·rw [Ay h1, Al, if_neg (fun h => h1 h.1), xP])
    (fun n a => by rw [BH, Ay (by omega)]) N [] (by omega) (by simp only [yM]; omega)]
   rfl
  ·rfl
 ·rfl
theorem NJ {α R : Type} {f : Nat → α → Option R} {i : Nat} {xs : List α} (h : ∀ j x, xs[j]? = some x → f (i + j) x = none) : CG f i xs = none := by
 cases hs : CG f i xs with
 | none => rfl
 | some r =>
  obtain ⟨j, x, h1, h2⟩ := DW hs
  rw [h j x h1] at h2; cases h2
theorem L8 {l : List Int} (h : Od l = true) {i : Nat} {x y : Int} (hx : l[i]? = some x) (hy : l[i + 1]? = some y) : x < y := by
 unfold Od at h
 have h0 : CG (Lu l) 0 l = none := by
  cases hs : CG (Lu l) 0 l with
  | none => rfl
  | some r => rw [hs] at h; cases h
 have h1 := Ff h0 (i + 1) y hy
 unfold Lu at h1
 split at h1
 ·cases h1
 ·rename_i hn
  have e : l.getD (0 + (i + 1) - 1) 0 = x := by
   rw [show 0 + (i + 1) - 1 = i from by omega, lD, hx]; rfl
  rw [e] at hn
  omega
theorem XG {l : List Int} (h : Od l = true) (h0 : ∀ x, x ∈ l → 0 ≤ x) : ∀ (i : Nat) (x : Int), l[i]? = some x → (i : Int) ≤ x
 | 0, x, hx => h0 x (lM hx)
 | i + 1, x, hx => by
  have hi := (lI.1 hx).1
  have hy : l[i]? = some l[i] := by simp
  have h1 := XG h h0 i _ hy
  have h2 := L8 h hy hx
  omega
theorem R0 {p : Aa} {l : List Int} (h : l.all (V9 p) = true) : ∀ x, x ∈ l → 0 ≤ x ∧ x < (p.fb.length : Int) := fun x hx => of_decide_eq_true (zF.1 h x hx)
theorem YW {p : Aa} {l : List Int} (h : Od l = true) (h0 : l.all (V9 p) = true) : l.length ≤ p.fb.length := by
 by_cases hl : l.length = 0
 ·omega
 ·have hx : l[l.length - 1]? = some l[l.length - 1] := by simp [show l.length - 1 < l.length from by omega]
  have h1 := XG h (fun x hx => (R0 h0 x hx).1) _ _ hx
  have h2 := (R0 h0 _ (lM hx)).2
  omega
theorem XO {l : List Int} {x : Int} (h : 0 ≤ KE l x) : KE l x < (l.length : Int) ∧ l.getD (KE l x).toNat 0 = x := by
 unfold KE at h ⊢
 cases hs : CG (fun i y => if (y == x) = true then some ((i : Nat) : Int) else none) 0 l with
 | none => rw [hs] at h; simp at h
 | some r =>
  obtain ⟨j, y, hj, hq⟩ := DW hs
  split at hq
  ·rename_i he
   cases hq
   have hjl := (lI.1 hj).1
   refine ⟨by simp only [yE]; omega, ?_⟩
   simp only [yE, zC, zS]
   rw [lD, hj]
   simpa using he
  ·cases hq
theorem RZ {l xs : List Int} {k : Nat} (h : k < l.length) : (l.map (Ql xs)).getD k 0 = xs.getD (l.getD k 0).toNat 0 := by
 rw [lD, zD, lD (l := l)]
 have : l[k]? = some l[k] := by simp [h]
 rw [this]; rfl
theorem XA {p : Aa} {l : List Int} {t t' : An} (ht : D9 p t = 0) (hl : t' ∈ N7 l t) : D9 (HH p l) t' = 0 := by
 unfold N7 at hl
 split at hl
 ·rename_i hp
  obtain ⟨h1, h2⟩ := XO hp.1
  obtain ⟨h3, h4⟩ := XO hp.2
  have : t' = ⟨t.fg, KE l t.fh, KE l t.fk, t.ft, t.fr, t.fm⟩ := by simpa using hl
  subst this
  have e1 : (HH p l).fb.getD (KE l t.fh).toNat 0 = p.fb.getD t.fh.toNat 0 := by
   show (l.map (Ql p.fb)).getD _ 0 = _
   rw [RZ (by omega), h2]
  have e2 : (HH p l).fb.getD (KE l t.fk).toNat 0 = p.fb.getD t.fk.toNat 0 := by
   show (l.map (Ql p.fb)).getD _ 0 = _
   rw [RZ (by omega), h4]
  have e3 : (HH p l).fb.length = l.length := by show (l.map _).length = _; rw [zL]
  have hok := LE ht
  unfold D9 at ht ⊢
  simp only [e1, e2, e3]
  split at ht
  ·cases ht
  ·rename_i g1
   rw [if_neg g1]
   split at ht
   ·cases ht
   ·rw [if_neg (by omega)]
    exact ht
 ·cases hl
theorem MU {p : Aa} (hv : BR p = 0) {l : List Int} (ha : Od l = true) (hi : l.all (V9 p) = true) : BR (HH p l) = 0 := by
 obtain ⟨hp, hx⟩ := Da hv
 have hn := YW ha hi
 have h6 := hp.nv
 have h12 := hp.nt
 have ht : (HH p l).fd.length ≤ 12 := by
  have : (CH (fun _ t => N7 l t) 0 p.fd).length ≤ 1 * p.fd.length := Gj fun j t _ => by unfold N7; split <;> simp
  show (CH (fun _ t => N7 l t) 0 p.fd).length ≤ 12
  omega
 have e3 : ∀ xs : List Int, (l.map (Ql xs)).length = l.length := fun xs => zL _
 unfold BR
 rw [if_neg (by show ¬ (6 < (l.map (Ql p.fb)).length ∨ 12 < (HH p l).fd.length); rw [e3]; omega),
  if_neg (by show ¬ ((l.map (Ql p.fj)).length ≠ (l.map (Ql p.fb)).length ∨ (l.map (Ql p.fo)).length ≠ (l.map (Ql p.fb)).length); rw [e3, e3, e3]; simp)]
 have s1 : CG (Ge (HH p l)) 0 (HH p l).fb = none := by
  refine NJ fun j v hj => ?_
  have hj' : (l.map (Ql p.fb))[j]? = some v := hj
  rw [zD] at hj'
  cases hs : l[j]? with
  | none => rw [hs] at hj'; cases hj'
  | some s =>
   rw [hs] at hj'; cases hj'
   have hjl := (lI.1 hs).1
   have hin := R0 hi s (lM hs)
   obtain ⟨b1, b2, b3, b4⟩ := hx s.toNat (by omega)
   have b5 := Kt hp.ver hin.1 hin.2
   have e : l.getD j 0 = s := by rw [lD, hs]; rfl
   have q1 : (HH p l).fj.getD (0 + j) 0 = p.fj.getD s.toNat 0 := by
    show (l.map (Ql p.fj)).getD _ 0 = _; rw [zC, RZ hjl, e]
   have q2 : (HH p l).fo.getD (0 + j) 0 = p.fo.getD s.toNat 0 := by
    show (l.map (Ql p.fo)).getD _ 0 = _; rw [zC, RZ hjl, e]
   unfold Ge
   rw [q1, q2, if_neg]
   show ¬ (p.fb.getD s.toNat 0 < 1 ∨ 6 < p.fb.getD s.toNat 0 ∨ _ ∨ p.fb.getD s.toNat 0 ≤ _ ∨ _ ∨ p.fb.getD s.toNat 0 ≤ _)
   omega
 have s2 : CG (Mu (HH p l)) 0 (HH p l).fd = none := by
  refine NJ fun j t hj => ?_
  have hm : t ∈ CH (fun _ t => N7 l t) 0 p.fd := lM hj
  obtain ⟨k, t0, hk, hm⟩ := Hm.1 hm
  unfold Mu
  rw [if_pos (XA (hp.tab t0 (lM hk)) hm)]
 rw [s1, s2]; rfl
def LN (p : Aa) (l : List Int) : Bool := match GJ 2000 (HH p l) with
 | some r => !(r.2 == 0)
 | none => false
def SK (p : Aa) (l : List Int) : Bool × Int := if (Ih p l).2 = 0 then (LN p l, 0) else (false, (Ih p l).2)
theorem OV {p : Aa} {l : List Int} (h : (Ih p l).2 = 0) : Od l = true ∧ l.all (V9 p) = true ∧ Ih p l = (HH p l, 0) := by
 unfold Ih at h ⊢
 split at h
 ·rename_i h1
  split at h
  ·rename_i h2
   exact ⟨h1, h2, by rw [if_pos h1, if_pos h2]⟩
  ·cases h
 ·cases h
theorem U3 (p : Aa) (l : List Int) (h : (Ih p l).2 ≠ 0) : ((Ih p l).2 == 0) = false ∧ ((Ih p l).2 != 0) = true := by
 refine ⟨beq_eq_false_iff_ne.2 h, ?_⟩
 unfold bne; rw [beq_eq_false_iff_ne.2 h]; rfl
theorem Qx {q : Aa} (hv : BR q = 0) (hL : Lk q) {r : List Ad × Int} (hs : ND q r) : ∃ b : Bool, (r.2 == 0) = b ∧ (r.2 == 3) = false ∧ (match GJ 2000 q with | some r => !(r.2 == 0) | none => false) = !b := by
 obtain ⟨r2, e2, hs2⟩ := Rk (N := 2000) (by omega) (by omega) hv hL
 obtain ⟨q1, q2, _⟩ := S1 hs
 obtain ⟨q1'', _, _⟩ := S1 hs2
 have eb : ∀ a : Int, (a == 0) = (r2.2 == 0) ↔ ((a == 0) = true ↔ (r2.2 == 0) = true) := fun a => by cases a == 0 <;> cases r2.2 == 0 <;> simp
 have w : (r.2 == 0) = (r2.2 == 0) := (eb _).2 (q1.trans q1''.symm)
 exact ⟨_, w, q2, by rw [e2]⟩
theorem T1 {N : Nat} (hN : N ≤ 1000000) (h1 : 1000 ≤ N) {p : Aa} (hv : BR p = 0) {l : List Int} (hl : l.length ≤ 90) (hL : (Ih p l).2 = 0 → Lk (HH p l)) : FC N p l = some (SK p l) := by
 unfold FC SK
 rw [Io N p hN (by omega), NH hN (by omega) hv l hl]
 simp only [oS, hv, bne_self_eq_false, Al]
 by_cases h : (Ih p l).2 = 0
 ·obtain ⟨g1, g2, g3⟩ := OV h
  have hvr := MU hv g1 g2
  obtain ⟨r, e, hs⟩ := Rk hN h1 hvr (hL h)
  obtain ⟨b, w, q2, hb⟩ := Qx hvr (hL h) hs
  have hb : LN p l = !b := hb
  rw [if_pos h, g3]
  simp only [bne_self_eq_false, Al]
  rw [e]
  simp only [oS]
  rw [q2, Al, hb, w]
  cases b <;> rfl
 ·rw [if_neg h, (U3 p l h).2]; rfl
theorem T9 {N : Nat} (hN : N ≤ 1000000) (h1 : 1000 ≤ N) {p : Aa} (hv : BR p = 0) {l : List Int} (hl : l.length ≤ 90) (hL : (Ih p l).2 = 0 → Lk (HH p l)) : DS N p l = some (SK p l) := by
 unfold DS SK
 rw [Lr hN (by omega) hv l hl]
 simp only [oS]
 by_cases h : (Ih p l).2 = 0
 ·obtain ⟨g1, g2, g3⟩ := OV h
  have hvr := MU hv g1 g2
  obtain ⟨r, e, hs⟩ := TW hN h1 hvr (hL h)
  obtain ⟨b, w, q2, hb⟩ := Qx hvr (hL h) hs
  have hb : LN p l = !b := hb
  rw [if_pos h, g3]
  simp only [bne_self_eq_false, Al]
  rw [e]
  simp only [oS]
  rw [q2, Al, hb]
  unfold bne
  rw [w]
 ·rw [if_neg h, (U3 p l h).2]; rfl
def Cl : Nat → List (List Int)
 | 0 => [[]]
 | 1 => [[], [0]]
 | 2 => [[], [0], [1], [0, 1]]
 | _ => [[], [0], [1], [2], [0, 1], [0, 2], [1, 2], [0, 1, 2]]
structure Lj (p : Aa) : Prop where
 v : BR p = 0
 n : p.fb.length ≤ 3
 l : ∀ s, s ∈ Cl p.fb.length → Lk (HH p s)
theorem YD {l : List Int} {n : Nat} (hn : n ≤ 3) (h : Od l = true) (h0 : ∀ x, x ∈ l → 0 ≤ x ∧ x < (n : Int)) : l ∈ Cl n := by
 match l, h, h0 with
 | [], _, _ => match n with | 0 => simp [Cl] | 1 => simp [Cl] | 2 => simp [Cl] | n + 3 => simp [Cl]
 | [a], h, h0 =>
  have ha := h0 a (by simp)
  match n, hn with
  | 0, _ => omega
  | 1, _ =>
   obtain rfl : a = 0 := by omega
   simp [Cl]
  | 2, _ => rcases (by omega : a = 0 ∨ a = 1) with rfl | rfl <;> simp [Cl]
  | 3, _ => rcases (by omega : a = 0 ∨ a = 1 ∨ a = 2) with rfl | rfl | rfl <;> simp [Cl]
  | n + 4, hn => omega
 | [a, b], h, h0 =>
  have ha := h0 a (by simp)
  have hb := h0 b (by simp)
  have hab := L8 h (i := 0) (x := a) (y := b) rfl rfl
  match n, hn with
  | 0, _ => omega
  | 1, _ => omega
  | 2, _ =>
   obtain ⟨rfl, rfl⟩ : a = 0 ∧ b = 1 := by omega
   simp [Cl]
  | 3, _ => rcases (by omega : (a = 0 ∧ b = 1) ∨ (a = 0 ∧ b = 2) ∨ (a = 1 ∧ b = 2)) with ⟨rfl, rfl⟩ | ⟨rfl, rfl⟩ | ⟨rfl, rfl⟩ <;> simp [Cl]
  | n + 4, hn => omega
 | a :: b :: c :: r, h, h0 =>
  have ha := h0 a (by simp)
  have hc := h0 c (by simp)
  have hab := L8 h (i := 0) (x := a) (y := b) rfl rfl
  have hbc := L8 h (i := 1) (x := b) (y := c) rfl rfl
  match n, hn with
  | 0, _ => omega
  | 1, _ => omega
  | 2, _ => omega
  | 3, _ =>
   obtain ⟨rfl, rfl, rfl⟩ : a = 0 ∧ b = 1 ∧ c = 2 := by omega
   cases r with
   | nil => simp [Cl]
   | cons d r =>
    have hd := h0 d (by simp)
    have hcd := L8 h (i := 2) (x := 2) (y := d) rfl rfl
    omega
  | n + 4, hn => omega
theorem Uj {p : Aa} (hn : p.fb.length ≤ 3) {s : List Int} (hs : s ∈ Cl p.fb.length) : (Ih p s).2 = 0 ∧ s.length ≤ 3 := by
 have key : ∀ n : Nat, n ≤ 3 → ∀ s, s ∈ Cl n → Od s = true ∧ s.length ≤ 3 ∧ ∀ x, x ∈ s → 0 ≤ x ∧ x < (n : Int) := by
  intro n hn
  match n, hn with
  | 0, _ => decide
  | 1, _ => decide
  | 2, _ => decide
  | 3, _ => decide
  | n + 4, hn => omega
 obtain ⟨h1, h2, h3⟩ := key _ hn s hs
 refine ⟨?_, h2⟩
 unfold Ih
 rw [if_pos h1, if_pos (show s.all (V9 p) = true from zF.2 fun x hx => decide_eq_true (h3 x hx))]
theorem Q1 {p : Aa} (h : Lj p) {l : List Int} (hl : (Ih p l).2 = 0) : Lk (HH p l) := by
 obtain ⟨h1, h2, _⟩ := OV hl
 exact h.l l (YD h.n h1 (R0 h2))
theorem Qi {p : Aa} (hp : Bf p) {m : Ac} (hm : BZ p m) (hr : BC p m = true) {n : Nat} {l : List JA} (hs : IL p m 120 n = some l) : ∃ l', IL p m 120 1000 = some l' := by
 obtain ⟨ws, hg⟩ := Um hp hm hr hs
 have hl : l.length ≤ 120 := Bfs.go_len _ _ _ _ (by simp) hs
 refine Tg (S := Lv l) (by unfold Lv; rw [zL]; omega) ?_ 1000 0 [(m, -1, NG)] (by simp [Lv]) (fun y hy => ?_) (zK _) (by omega)
 ·intro y hy w hw
  obtain ⟨⟨y0, f, s⟩, hmem, rfl⟩ := zU.1 hy
  obtain ⟨k, hk⟩ := zT.1 hmem
  have hkl := Bfs.lt_get hk
  obtain ⟨wy, hwy⟩ := Bfs.get_ex (l := ws) (k := k) (by rw [hg.inv.len]; exact hkl)
  obtain ⟨k', f', s', w', e1, _, _⟩ := hg.inv.closed k y0 f s wy hk hwy w (.inl ⟨hkl, hw⟩)
  exact zU.2 ⟨_, lM e1, rfl⟩
 ·simp only [Lv, yF, uP, yS] at hy
  subst hy
  obtain ⟨s0, hs0⟩ := hg.inv.root
  exact zU.2 ⟨_, lM hs0, rfl⟩
theorem SO {N : Nat} (hN : N ≤ 1000000) (h1 : 1000 ≤ N) {p : Aa} (hv : BR p = 0) : ∃ b, Fc N p 120 = some b ∧ (b = true → Lk p) := by
 obtain ⟨hp, _⟩ := Da hv
 have hm := Pv hv
 unfold Fc
 rw [NN N p (by omega) (by omega), if_pos hv]
 simp only [oS, Bl, hv, bne_self_eq_false, Al]
 rw [IS N p _ (by omega) (by omega) hp hm]
 simp only [oS]
 cases hr : BC p (FN p)
 ·exact ⟨true, rfl, fun _ => .inl hr⟩
 ·have e := Nz (N := N) (by omega) (by omega) hv hm hr (most := 120) (by omega) (by omega) (.inl (by omega))
  have e' : CZ N p (FN p) 120 = _ := e
  rw [yA, Al, e']
  cases hs : IL p (FN p) 120 N with
  | none => exact ⟨false, rfl, fun h => by cases h⟩
  | some l => exact ⟨true, rfl, fun _ => .inr (Qi hp hm hr hs)⟩
theorem Ru : E3 2000 = some true := by kernel_rfl
theorem US {n : Nat} (h : n ≤ 3) : CK 2000 (n : Int) = some (Cl n) := by
 match n, h with
 | 0, _ => show CK 2000 0 = some (Cl 0); kernel_rfl
 | 1, _ => show CK 2000 1 = some (Cl 1); kernel_rfl
 | 2, _ => show CK 2000 2 = some (Cl 2); kernel_rfl
 | 3, _ => show CK 2000 3 = some (Cl 3); kernel_rfl
 | n + 4, h => omega
theorem Ma (n : Nat) : (Cl n).length ≤ 8 := by
 match n with
 | 0 => decide
 | 1 => decide
 | 2 => decide
 | n + 3 => simp [Cl]
theorem Pu {p : Aa} (hv : BR p = 0) (hn : p.fb.length ≤ 3) : ∀ (n i : Nat), i ≤ (Cl p.fb.length).length → (Cl p.fb.length).length - i < n →
  ∃ b, CQ 2000 p (Cl p.fb.length) (fun _ => some true) n (i : Int) = some b ∧ (b = true → ∀ s, s ∈ (Cl p.fb.length).drop i → Lk (HH p s))
 | 0, i, _, h => by omega
 | n + 1, i, hi, h => by
  have h8 := Ma p.fb.length
  rw [CQ]
  by_cases h1 : i < (Cl p.fb.length).length
  ·have hx : (Cl p.fb.length)[i]? = some (Cl p.fb.length)[i] := by simp [h1]
   have hm : (Cl p.fb.length)[i] ∈ Cl p.fb.length := xE _
   rw [AB (by omega), AU, hx, Gp hx]
   generalize (Cl p.fb.length)[i] = s at hx hm ⊢
   obtain ⟨g1, g2⟩ := Uj hn hm
   obtain ⟨k1, k2, k3⟩ := OV g1
   simp only [oS, Bl]
   rw [Lr (by omega) (by omega) hv s (by omega), k3]
   simp only [oS, bne_self_eq_false, Al]
   obtain ⟨b, e, hb⟩ := SO (N := 2000) (by omega) (by omega) (MU hv k1 k2)
   rw [e]
   simp only [oS]
   cases b
   ·exact ⟨false, rfl, fun h => by cases h⟩
   ·obtain ⟨b2, e2, hb2⟩ := Pu hv hn n (i + 1) (by omega) (by omega)
    rw [yA, Al, AE (by omega)]
    refine ⟨b2, e2, fun h t ht => ?_⟩
    rcases zQ.1 ht with rfl | ht
    ·exact hb rfl
    ·exact hb2 h t ht
  ·rw [Ay (by omega)]
   exact ⟨true, rfl, fun _ s hs => by rw [yO (by omega)] at hs; cases hs⟩
theorem Xy (d : BJ) (wd : FT d) : ∃ p b, FY 2000 d = some (p, b) ∧ (b = true → Lj p) := by
 obtain ⟨p, ok, e, h⟩ := dX 2000 d (by omega) (by omega) wd
 unfold FY
 rw [e]
 simp only [oS, Bl]
 cases ok
 ·exact ⟨p, false, rfl, fun h => by cases h⟩
 ·rw [AQ]
  have hv := (h rfl).valid
  unfold FR
  rw [JW 2000 p (by omega) (by omega)]
  simp only [oS, hv, bne_self_eq_false, Al]
  by_cases h3 : 3 < (p.fb.length : Int)
  ·rw [AB h3]
   exact ⟨p, false, rfl, fun h => by cases h⟩
  ·rw [Ay h3, US (by omega)]
   simp only [oS]
   obtain ⟨b, e2, hb⟩ := Pu hv (by omega) 2000 0 (zK _) (by have := Ma p.fb.length; omega)
   have e2' : CQ 2000 p (Cl p.fb.length) (fun _ => some true) 2000 0 = some b := e2
   rw [e2']
   exact ⟨p, b, rfl, fun h => ⟨hv, by omega, fun s hs => hb h s (by rw [zZ]; exact hs)⟩⟩
def Em : Nat → List Int
 | 0 => [0]
 | 1 => [0, 1]
 | 2 => [0, 1, 2, 3]
 | _ => [0, 1, 2, 4, 3, 5, 6, 7]
def aZ : Nat → List Int
 | 0 => [0]
 | 1 => [0, 1]
 | 2 => [0, 1, 2, 3]
 | _ => [0, 1, 2, 3, 4, 5, 6, 7]
def JR (x : Int) : List Int := (Bs 2000 x).getD []
def YL (f : List Int → Bool) (n : Nat) : List (Int × Bool) := (Em n).map fun x => (x, f (JR x))
theorem SQ (n : Nat) : (Em n).length ≤ 8 := by
 match n with
 | 0 => decide
 | 1 => decide
 | 2 => decide
 | k + 3 => simp [Em]
theorem Wt {i : Nat} (h : i < 1000000) : wI .u64 ((i : Int) + 1) = ((i + 1 : Nat) : Int) := by
 rw [show (i : Int) + 1 = ((i + 1 : Nat) : Int) from by omega]
 show (((i + 1 : Nat) : Int) % (18446744073709551616 : Int)) = _
 exact Int.emod_eq_of_lt (by omega) (by omega)
theorem XD {p : Aa} (c : Nat) (hc : D1 .u64 1 (p.fb.length : Int) = (c : Int)) (h8 : c ≤ 8) (j : List Int → Option (List Int × List (Int × Bool) × Int)) : ∀ (n i : Nat) (a : List Int), i ≤ c → c - i < n → a.length = i →
  Fv 2000 p j n (a, (i : Int)) = j (a ++ (xM i (c - i)).map fun (k : Nat) => (k : Int))
 | 0, i, _, _, h, _ => by omega
 | n + 1, i, a, hi, h, ha => by
  rw [Fv]
  simp only [hc]
  by_cases h1 : i < c
  ·rw [AB (by omega), Au (by simp only [zY]; unfold C4; omega), Wt (by omega), XD c hc h8 j n (i + 1) _ (by omega) (by omega) (by simp [ha]),
    show c - i = (c - (i + 1)) + 1 from by omega, List.range'_succ]
   simp
  ·rw [Ay (by omega), show c - i = 0 from by omega]
   simp
theorem YN {n : Nat} (hn : n ≤ 3) : ∀ x, x ∈ Em n → Bs 2000 x = some (JR x) ∧ JR x ∈ Cl n := by
 have h0 : Bs 2000 0 = some [] := by kernel_rfl
 have h1 : Bs 2000 1 = some [0] := by kernel_rfl
 have h2 : Bs 2000 2 = some [1] := by kernel_rfl
 have h3 : Bs 2000 3 = some [0, 1] := by kernel_rfl
 have h4 : Bs 2000 4 = some [2] := by kernel_rfl
 have h5 : Bs 2000 5 = some [0, 2] := by kernel_rfl
 have h6 : Bs 2000 6 = some [1, 2] := by kernel_rfl
 have h7 : Bs 2000 7 = some [0, 1, 2] := by kernel_rfl
 intro x hx
 match n, hn with
 | 0, _ => simp only [Em, zQ, uS, or_false] at hx; subst hx; unfold JR; rw [h0]; simp [Cl]
 | 1, _ => simp only [Em, zQ, uS, or_false] at hx; unfold JR; rcases hx with rfl | rfl <;> simp only [h0, h1] <;> simp [Cl]
 | 2, _ => simp only [Em, zQ, uS, or_false] at hx; unfold JR; rcases hx with rfl | rfl | rfl | rfl <;> simp only [h0, h1, h2, h3] <;> simp [Cl]
 | 3, _ => simp only [Em, zQ, uS, or_false] at hx; unfold JR; rcases hx with rfl | rfl | rfl | rfl | rfl | rfl | rfl | rfl <;> simp only [h0, h1, h2, h3, h4, h5, h6, h7] <;> simp [Cl]
 | n + 4, hn => omega
theorem aI {p : Aa} (h : Lj p) {s : List Int} (hs : s ∈ Cl p.fb.length) : FC 2000 p s = some (LN p s, 0) := by
 obtain ⟨g1, g2⟩ := Uj h.n hs
 have e1 := T1 (N := 2000) (by omega) (by omega) h.v (l := s) (by omega) (Q1 h)
 have e : SK p s = (LN p s, 0) := by unfold SK; rw [if_pos g1]
 rw [e] at e1
 exact e1
theorem ZZ {p : Aa} (h : Lj p) {s : List Int} (hs : s ∈ Cl p.fb.length) : DS 2000 p s = some (LN p s, 0) := by
 obtain ⟨g1, g2⟩ := Uj h.n hs
 have e1 := T9 (N := 2000) (by omega) (by omega) h.v (l := s) (by omega) (Q1 h)
 have e : SK p s = (LN p s, 0) := by unfold SK; rw [if_pos g1]
 rw [e] at e1
 exact e1
theorem Tl {x : Int} {b : Bool} : ∀ {m : List (Int × Bool)}, (∀ q, q ∈ m → q.1 ≠ x) → Ly x b m = m ++ [(x, b)]
 | [], _ => rfl
 | q :: m, h => by
  have : (x == q.1) = false := beq_eq_false_iff_ne.2 fun e => h q (by simp) e.symm
  rw [Ly, this, if_neg (by decide), Tl fun r hr => h r (by simp [hr])]; rfl
theorem UV {p : Aa} (h : Lj p) (hd : (Em p.fb.length).Nodup) (j : List (Int × Bool) → Option (List Int × List (Int × Bool) × Int)) : ∀ (n i : Nat) (m : List (Int × Bool)), i ≤ (Em p.fb.length).length → (Em p.fb.length).length - i < n → m = ((Em p.fb.length).take i).map (fun x => (x, LN p (JR x))) →
  EN 2000 p (Em p.fb.length) j n (m, (i : Int)) = j (YL (LN p) p.fb.length)
 | 0, i, _, _, h, _ => by omega
 | n + 1, i, m, hi, hn, hm => by
  have h8 := SQ p.fb.length
  rw [EN]
  by_cases h1 : i < (Em p.fb.length).length
  ·have hx : (Em p.fb.length)[i]? = some (Em p.fb.length)[i] := by simp [h1]
   obtain ⟨k1, k2⟩ := YN h.n _ (xE h1)
   rw [AB (by simp only; omega)]
   simp only [AU, hx, oS]
   unfold Ig
   rw [k1]
   simp only [oS]
   rw [aI h k2]
   simp only [oS, bne_self_eq_false, Al]
   have hnew : ∀ q, q ∈ m → q.1 ≠ (Em p.fb.length)[i] := by
    intro q hq e
    rw [hm] at hq
    obtain ⟨x, hxm, rfl⟩ := zU.1 hq
    obtain ⟨k, hk, e2⟩ := List.mem_take_iff_getElem.1 hxm
    have e : x = (Em p.fb.length)[i] := e
    rw [← e2] at e
    have := (List.getElem_inj hd).1 e
    omega
   rw [AE (by omega), Tl hnew]
   refine UV h hd j n (i + 1) _ (by omega) (by omega) ?_
   rw [hm, List.take_succ_eq_append_getElem h1, y7]
   rfl
  ·rw [Ay (by simp only; omega)]
   simp only
   rw [hm, List.take_of_length_le (by omega)]; rfl
theorem YK (n : Nat) : (Em n).Nodup := by
 match n with
 | 0 => decide
 | 1 => decide
 | 2 => decide
 | k + 3 => show ([0, 1, 2, 4, 3, 5, 6, 7] : List Int).Nodup; decide
theorem W0 {n : Nat} (hn : n ≤ 3) : By 2000 (aZ n) (fun x => DE 2000 x.1 x.2) = some (Em n) := by
 match n, hn with
 | 0, _ => show By 2000 (aZ 0) (fun x => DE 2000 x.1 x.2) = some (Em 0); kernel_rfl
 | 1, _ => show By 2000 (aZ 1) (fun x => DE 2000 x.1 x.2) = some (Em 1); kernel_rfl
 | 2, _ => show By 2000 (aZ 2) (fun x => DE 2000 x.1 x.2) = some (Em 2); kernel_rfl
 | 3, _ => show By 2000 (aZ 3) (fun x => DE 2000 x.1 x.2) = some (Em 3); kernel_rfl
 | n + 4, hn => omega
theorem cL {n : Nat} (hn : n ≤ 3) : ∃ c : Nat, c ≤ 8 ∧ D1 .u64 1 (n : Int) = (c : Int) ∧ (xM 0 c).map (fun (k : Nat) => (k : Int)) = aZ n := by
 match n, hn with
 | 0, _ => exact ⟨1, by omega, by decide, rfl⟩
 | 1, _ => exact ⟨2, by omega, by decide, rfl⟩
 | 2, _ => exact ⟨4, by omega, by decide, rfl⟩
 | 3, _ => exact ⟨8, by omega, by decide, rfl⟩
 | n + 4, hn => omega
theorem WU {p : Aa} (h : Lj p) : F3 2000 p = some (Em p.fb.length, YL (LN p) p.fb.length, 0) := by
 unfold F3
 rw [Io 2000 p (by omega) (by omega)]
 simp only [oS, h.v, bne_self_eq_false, Al]
 rw [Au (by omega)]
 obtain ⟨c, h8, hc, hu⟩ := cL h.n
 have e := XD c hc h8 (fun v5 => (By 2000 v5 fun x => DE 2000 x.1 x.2).bind fun v8 => EN 2000 p v8 (fun v10 => some (v8, v10, 0)) 2000 ([], 0)) 2000 0 [] (zK _) (by omega) rfl
 refine Eq.trans e ?_
 simp only [Nat.sub_zero, hu, xN]
 rw [W0 h.n, oS]
 exact UV h (YK _) (fun v10 => some (Em p.fb.length, v10, 0)) 2000 0 [] (zK _) (by have := SQ p.fb.length; omega) rfl
theorem Tt {p : Aa} (h : Lj p) (j : List Bool → Option (List (List Int) × List Bool × Int)) : ∀ (n i : Nat) (a : List Bool), i ≤ (Cl p.fb.length).length → (Cl p.fb.length).length - i < n → a.length = i →
  CN 2000 p (Cl p.fb.length) j n (a, (i : Int)) = j (a ++ ((Cl p.fb.length).drop i).map (LN p))
 | 0, i, _, _, h, _ => by omega
 | n + 1, i, a, hi, hn, ha => by
  have h8 := Ma p.fb.length
  rw [CN]
  by_cases h1 : i < (Cl p.fb.length).length
  ·have hx : (Cl p.fb.length)[i]? = some (Cl p.fb.length)[i] := by simp [h1]
   rw [AB (by simp only; omega), Gp hx]
   simp only [AU, hx, oS]
   rw [ZZ h (xE h1)]
   simp only [oS, bne_self_eq_false, Al]
   rw [Au (by simp only [zY]; unfold C4; omega), AE (by omega), Tt h j n (i + 1) _ (by omega) (by omega) (by simp [ha]), yL, yF]
   rfl
  ·rw [Ay (by simp only; omega), yO (by omega)]
   simp
theorem SJ {p : Aa} (h : Lj p) : Dr 2000 p = some (Cl p.fb.length, (Cl p.fb.length).map (LN p), 0) := by
 unfold Dr
 rw [JW 2000 p (by omega) (by omega), oS, h.v, show ((0 : Int) != 0) = false from rfl, Al, US h.n, oS]
 have e := Tt h (fun v5 => some (Cl p.fb.length, v5, 0)) 2000 0 [] (zK _) (by have := Ma p.fb.length; omega) rfl
 rw [zZ, xN] at e
 exact e
def eI (n : Nat) : Aa := ⟨zH n 0, [], [], []⟩
theorem UO {p q : Aa} (h : p.fb.length = q.fb.length) (v1 : List (List Int) × Int) (j : List Int → Option (List Int × Int)) : ∀ (n : Nat) (s : List Int × Int), A9 2000 p v1 j n s = A9 2000 q v1 j n s
 | 0, _ => rfl
 | n + 1, s => by
  rw [A9, A9, h]
  have e : (fun (v8 : List Int) => A9 2000 p v1 j n (v8, wI .i64 (s.2 + 1))) = fun v8 => A9 2000 q v1 j n (v8, wI .i64 (s.2 + 1)) := funext fun v8 => UO h v1 j n _
  rw [e]
def XN (sets : List Int) (fnd : List (Int × Bool)) : Option (List (List Int)) := (Fj 2000 sets fnd).bind fun v3 => GX 2000 v3
def cW (sets : List Int) (fnd : List (Int × Bool)) : Option (List Int × Int) := (Fj 2000 sets fnd).bind fun v3 => Fn 2000 v3 (fun v5 => (Bs 2000 v5).bind fun v8 => some (v8, 0)) 2000 (0, 0)
def W5 (sets : List Int) (fnd : List (Int × Bool)) : Option (List (List Int)) :=
 (DK 2000 sets).bind fun v3 => (CU 2000 v3 (fun x => Fx 2000 x fnd sets)).bind fun v4 => (DI (v4.1 ≤ v4.2.length)).bind fun _ => GX 2000 (v4.2.take v4.1)
def eJ (n : Nat) (bs : List Bool) : Option (List (List Int) × Int) := EJ 2000 (Cl n, bs, 0) (fun v3 => some (v3, 0)) 2000 ([], 0)
def dV (n : Nat) (bs : List Bool) : Option (List (List Int) × Int) := GA 2000 (Cl n, bs, 0) (fun v3 => some (v3, 0)) 2000 ([], 0)
def ek (n : Nat) (a : List (List Int)) : Option (List Int × Int) := A9 2000 (eI n) (a, 0) (fun v3 => some (v3, 0)) 2000 ([], 0)
def R4 (n : Nat) (bs : List Bool) : List (Int × Bool) := (Em n).zip bs
def V5 (n : Nat) (bs : List Bool) : Bool :=
 match XN (Em n) (R4 n bs), eJ n bs, cW (Em n) (R4 n bs), W5 (Em n) (R4 n bs), dV n bs with
 | some a, some (a', e), some (i, ei), some f, some (f', e') => decide (ei = 0) && decide (a = a') && decide (e = 0) && decide (f = f') && decide (e' = 0) && decide (a.length ≤ 8) && decide (f.length ≤ 8) && (a.all fun s => decide (s.length ≤ 8)) && (f.all fun s => decide (s.length ≤ 8)) && decide (i.length ≤ 8) && (match ek n a with | some (i', e'') => decide (i = i') && decide (e'' = 0) | none => false)
 | _, _, _, _, _ => false
def K6 : Nat → List (List Bool)
 | 0 => [[]]
 | k + 1 => (K6 k).map (true :: ·) ++ (K6 k).map (false :: ·)
theorem Ka : ∀ (k : Nat) (bs : List Bool), bs.length = k → bs ∈ K6 k
 | 0, bs, h => by rw [yN h]; simp [K6]
 | k + 1, b :: bs, h => by
  have := Ka k bs (by simpa using h)
  rw [K6, yC]
  cases b
  ·exact .inr (zU.2 ⟨bs, this, rfl⟩)
  ·exact .inl (zU.2 ⟨bs, this, rfl⟩)
 | k + 1, [], h => by simp at h
theorem dQ : (K6 1).all (V5 0) = true := by kernel_rfl
theorem dZ : (K6 2).all (V5 1) = true := by kernel_rfl
theorem ec : (K6 4).all (V5 2) = true := by kernel_rfl
theorem eX : (K6 8).all (V5 3) = true := by kernel_rfl
theorem Yy {n : Nat} (hn : n ≤ 3) {bs : List Bool} (h : bs.length = (Cl n).length) : V5 n bs = true := by
 match n, hn with
 | 0, _ => exact zF.1 dQ bs (Ka 1 bs h)
 | 1, _ => exact zF.1 dZ bs (Ka 2 bs h)
 | 2, _ => exact zF.1 ec bs (Ka 4 bs h)
 | 3, _ => exact zF.1 eX bs (Ka 8 bs h)
 | n + 4, hn => omega
theorem Y8 (f : List Int → Bool) {n : Nat} (hn : n ≤ 3) : YL f n = R4 n ((Cl n).map f) := by
 have key : ∀ n, n ≤ 3 → (Em n).map JR = Cl n := by
  intro n hn
  match n, hn with
  | 0, _ => show (Em 0).map JR = Cl 0; kernel_rfl
  | 1, _ => show (Em 1).map JR = Cl 1; kernel_rfl
  | 2, _ => show (Em 2).map JR = Cl 2; kernel_rfl
  | 3, _ => show (Em 3).map JR = Cl 3; kernel_rfl
  | n + 4, hn => omega
 unfold YL R4
 rw [← key n hn, List.map_map]
 have : ∀ l : List Int, (l.map fun x => (x, f (JR x))) = l.zip (l.map (f ∘ JR)) := by
  intro l
  induction l with
  | nil => rfl
  | cons x l ih => simp [ih]
 exact this _
structure bI (p : Aa) (a f : List (List Int)) (i : List Int) : Prop where
 ca : Gt 2000 p = some (a, 0)
 ra : C8 2000 p = some (a, 0)
 ci : Fu 2000 p = some (i, 0)
 ri : Dt 2000 p = some (i, 0)
 cf : Ik 2000 p = some (f, 0)
 rf : Jj 2000 p = some (f, 0)
 la : a.length ≤ 8 ∧ ∀ s, s ∈ a → s.length ≤ 8
 lf : f.length ≤ 8 ∧ ∀ s, s ∈ f → s.length ≤ 8
 li : i.length ≤ 8
 qa : XN (Em p.fb.length) (R4 p.fb.length ((Cl p.fb.length).map (LN p))) = some a
 qf : W5 (Em p.fb.length) (R4 p.fb.length ((Cl p.fb.length).map (LN p))) = some f
theorem aV {p : Aa} (h : Lj p) : ∃ a f i, bI p a f i := by
 have ht := WU h
 rw [Y8 (LN p) h.n] at ht
 have hv := SJ h
 have hc := Yy h.n (bs := (Cl p.fb.length).map (LN p)) (by simp)
 generalize hB : (Cl p.fb.length).map (LN p) = bs at ht hv hc
 unfold V5 at hc
 split at hc
 ·rename_i a a' e i ei f f' e' e1 e2 e3 e4 e5
  simp only [zI, decide_eq_true_eq, zF] at hc
  obtain ⟨⟨⟨⟨⟨⟨⟨⟨⟨⟨c0, c1⟩, c2⟩, c3⟩, c4⟩, c5⟩, c6⟩, c7⟩, c8⟩, c9⟩, c10⟩ := hc
  subst c0 c1 c2 c3 c4
  split at c10
  ·rename_i i' e'' e6
   rw [zI, decide_eq_true_eq, decide_eq_true_eq] at c10
   obtain ⟨rfl, rfl⟩ := c10
   have hra : C8 2000 p = some (a, 0) := by
    unfold C8; rw [hv, oS]; exact e2
   refine ⟨a, f, i, ?_, hra, ?_, ?_, ?_, ?_, ⟨c5, c7⟩, ⟨c6, c8⟩, c9, ?_, ?_⟩
   ·unfold Gt
    rw [ht, oS, show ((0 : Int) != 0) = false from rfl, Al]
    unfold XN at e1
    cases hm : Fj 2000 (Em p.fb.length) (R4 p.fb.length bs) with
    | none => rw [hm] at e1; cases e1
    | some v3 => rw [hm, oS] at e1; rw [oS, e1]; rfl
   ·unfold Fu
    rw [ht, oS, show ((0 : Int) != 0) = false from rfl, Al]
    exact e3
   ·unfold Dt
    rw [hra, oS, UO (q := eI p.fb.length) (by simp [eI])]
    exact e6
   ·unfold Ik
    rw [ht, oS, show ((0 : Int) != 0) = false from rfl, Al]
    unfold W5 at e4
    cases hm : DK 2000 (Em p.fb.length) with
    | none => rw [hm] at e4; cases e4
    | some v3 =>
     rw [hm, oS] at e4
     rw [oS]
     cases hd : CU 2000 v3 (fun x => Fx 2000 x (R4 p.fb.length bs) (Em p.fb.length)) with
     | none => rw [hd] at e4; cases e4
     | some v4 =>
      rw [hd, oS] at e4
      rw [oS]
      cases hk : DI (v4.1 ≤ v4.2.length) with
      | none => rw [hk] at e4; cases e4
      | some u =>
       rw [hk, oS] at e4
       rw [oS, e4]; rfl
   ·unfold Jj; rw [hv, oS]; exact e5
   ·rw [hB]; exact e1
   ·rw [hB]; exact e4
  ·cases c10
 ·cases hc
theorem S6 (N : Nat) (hN : N ≤ 1000000) (a : List Int) (h : a.length < N) : Fo N a a = some true := by
 unfold Fo
 rw [show ((a.length : Int) != (a.length : Int)) = false by simp, Al]
 have key := BO (C6 N a a fun _ => some true) a (some true) (fun _ _ => none)
  (fun n i x hx => by
   have hi := (lI.1 hx).1
   rw [C6, AB (by omega), AU, hx, oS, oS, show (x != x) = false by simp, Al, AE (by omega)]; rfl)
  (fun n => by rw [C6, Ay (by omega)]) N 0 (zK _) (by omega)
 refine Eq.trans key ?_
 rw [NJ fun _ _ _ => rfl]; rfl
theorem Rx (N : Nat) (hN : N ≤ 1000000) (a : List (List Int)) (h : a.length < N) (h2 : ∀ s, s ∈ a → s.length < N) : Cq N a a = some true := by
 unfold Cq
 rw [show ((a.length : Int) != (a.length : Int)) = false by simp, Al]
 have key := BO (CV N a a fun _ => some true) a (some true) (fun _ _ => none)
  (fun n i x hx => by
   have hi := (lI.1 hx).1
   rw [CV, AB (by omega), AU, hx, oS, oS, S6 N hN x (h2 x (lM hx)), oS, yA, Al, AE (by omega)]; rfl)
  (fun n => by rw [CV, Ay (by omega)]) N 0 (zK _) (by omega)
 refine Eq.trans key ?_
 rw [NJ fun _ _ _ => rfl]; rfl
theorem Pf (N : Nat) (hN : N ≤ 1000000) (a : List Int) (h : a.length < N) : A6 N a a = some true := by
 unfold A6
 rw [show ((a.length : Int) != (a.length : Int)) = false by simp, Al]
 have key := BO (Be N a a fun _ => some true) a (some true) (fun _ _ => none)
  (fun n i x hx => by
   have hi := (lI.1 hx).1
   rw [Be, AB (by omega), AU, hx, oS, oS, show (x != x) = false by simp, Al, AE (by omega)]; rfl)
  (fun n => by rw [Be, Ay (by omega)]) N 0 (zK _) (by omega)
 refine Eq.trans key ?_
 rw [NJ fun _ _ _ => rfl]; rfl
theorem Wv {p : Aa} {a f : List (List Int)} {i : List Int} (R : bI p a f i) : ∃ r : List Int × Int, GV 2000 p = some r ∧ Ei 2000 p = some r ∧ r.1.length ≤ 8 := by
 unfold GV Ei
 rw [R.ca, R.ra]
 show ∃ r : List Int × Int, AO (((a.length : Int) == 0)) (some (([] : List Int), 15)) ((Bj a 0).bind fun v4 => some (v4, 0)) = some r ∧ AO (((a.length : Int) == 0)) (some (([] : List Int), 15)) ((Bj a 0).bind fun v4 => some (v4, 0)) = some r ∧ r.1.length ≤ 8
 cases ha : a with
 | nil => exact ⟨([], 15), rfl, rfl, by decide⟩
 | cons s r =>
  rw [show (((s :: r).length : Int) == 0) = false from beq_eq_false_iff_ne.2 (by simp only [yD]; omega)]
  exact ⟨(s, 0), rfl, rfl, R.la.2 s (by rw [ha]; simp)⟩
theorem Qt (d : BJ) (wd : FT d) : En 2000 d = some true := by
 obtain ⟨p, b, e, hb⟩ := Xy d wd
 unfold En
 rw [e, Ru]
 cases b
 ·rfl
 ·obtain ⟨a, f, i, R⟩ := aV (hb rfl)
  obtain ⟨r, h1, h2, h3⟩ := Wv R
  show ((Gt 2000 p).bind fun v7 => (C8 2000 p).bind fun v8 => (GV 2000 p).bind fun v9 => (Ei 2000 p).bind fun v10 => (Fu 2000 p).bind fun v11 => (Dt 2000 p).bind fun v12 => AO (v7.2 == v8.2) (AO (v9.2 == v10.2) (AO (v11.2 == v12.2) ((Cq 2000 v7.1 v8.1).bind fun v17 => AO v17 ((A6 2000 v9.1 v10.1).bind fun v19 => AO v19 ((A6 2000 v11.1 v12.1).bind fun v21 => some v21) (some false)) (some false)) (some false)) (some false)) (some false)) = some true
  rw [R.ca, R.ra, h1, h2, R.ci, R.ri]
  show AO ((0 : Int) == 0) (AO (r.2 == r.2) (AO ((0 : Int) == 0) ((Cq 2000 a a).bind fun v17 => AO v17 ((A6 2000 r.1 r.1).bind fun v19 => AO v19 ((A6 2000 i i).bind fun v21 => some v21) (some false)) (some false)) (some false)) (some false)) (some false) = some true
  rw [Rx 2000 (by omega) a (by have := R.la.1; omega) (fun s hs => by have := R.la.2 s hs; omega), Pf 2000 (by omega) r.1 (by omega), Pf 2000 (by omega) i (by have := R.li; omega), beq_self_eq_true, beq_self_eq_true]
  rfl
end Go.Lift
