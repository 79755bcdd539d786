/- Lemmas for CoreBlocksCardSaid, which YtbfklmmnpdifaaaGreatDoorFinC3 proves. -/
import Derived.Test.YtbfklmmnpdifaaaGreatDoorMReg3
import Derived.KernelRfl
open Bool renaming false_and → vM, not_true → zY, true_and → y7
open Int renaming natCast_nonneg → vS, toNat_natCast → zQ
open List renaming all_cons → xZ, all_eq_true → zH, any_eq_true → xE, append_assoc → yO, append_nil → xO, cons_append → uS, drop_eq_nil_of_le → yR, drop_zero → zZ, getElem?_append_right → yD, getElem?_eq_none → yX, getElem?_map → zF, getElem?_set → xA, getElem_mem → xK, length_append → zT, length_cons → yC, length_map → zO, length_nil → yK, length_singleton → zX, map_append → xC, map_cons → yG, map_nil → uP, mem_append → yB, mem_cons → yJ, mem_cons_of_mem → xR, mem_iff_getElem? → zS, mem_map → zW, mem_singleton → yQ, nil_append → uG, nodup_cons → xQ, set_cons_succ → vG
open Nat renaming eq_zero_or_pos → uJ, le_refl → zK, le_trans → xU, sub_self → uZ, zero_add → zC, zero_le → zL
open Option renaming getD_some → yF, map_some → yS
namespace Go.Lift
open IntKind renaming wrap → wI
open Option renaming bind_some → oS
open List renaming mem_of_getElem? → lM
open List renaming getElem?_eq_some_iff → lI
open List renaming getD_eq_getElem?_getD → lD
open Go
theorem LW {N : Nat} (hN : N ≤ 1000000) (h20 : 100 ≤ N) {p : Aa} (hv : B5 p = 0) {most : Nat} (hmo : most ≤ 20000) (j : List AG → Option (List AG × Int)) :
  ∀ (n i : Nat) (pl : List AG) (q : List (Ad × Int)) (l' : List Kf), i ≤ pl.length → (∀ n, n ∈ pl.map E6 → B6 p n.1 ∧ BG p n.1 = true) → pl.length ≤ most → Pt p q (pl.map E6) → NB p i [] pl → (∀ (b : Nat) nb, i ≤ b → pl[b]? = some nb → nb.fa = []) →
   Bfs.go (JW p) most n i (pl.map E6) = some l' →
   ∃ pl', Ed N p j n (pl, MU q, (i : Int)) = j pl' ∧ pl'.map E6 = l' ∧ NB p l'.length [] pl'
 | 0, i, pl, q, l', _, _, _, _, _, _, h => by cases h
 | n + 1, i, pl, q, l', hi, hA, hlm, hpl, hnx, hem, h => by
  obtain ⟨hp, _⟩ := Du hv
  simp only [Bfs.go] at h
  rw [Ed]
  by_cases h1 : i < pl.length
  ·obtain ⟨nd, hx⟩ := Bfs.get_ex h1
   have hxl : (pl.map E6)[i]? = some (E6 nd) := by rw [zF, hx]; rfl
   have hm := (hA _ (lM hxl)).1
   have hm : B6 p nd.fp := hm
   rw [hxl] at h
   simp only at h
   rw [AH (by simp only; omega)]
   simp only [AX, hx, oS]
   rw [show (Ad.mk nd.fp.fd nd.fp.fa nd.fp.fe) = nd.fp from rfl, Um N hN h20 hv hm]
   simp only [oS, bne_self_eq_false, Ao]
   have hsl := Q9 hp nd.fp
   cases hin : Bfs.inner most i (JW p nd.fp) (pl.map E6) with
   | none =>
    have hin' : Bfs.inner most i (JW p (E6 nd).1) (pl.map E6) = none := hin
    rw [hin'] at h; cases h
   | some l1 =>
    have hin' : Bfs.inner most i (JW p (E6 nd).1) (pl.map E6) = some l1 := hin
    rw [hin'] at h
    simp only [oS] at h
    obtain ⟨pl1, q1, e1, e2, e3, e4, e5⟩ := Ic hN h20 hv hm hmo (v2 := (pl, MU q, (i : Int))) rfl (GM p nd.fp) 0 (fun s hs => hs) (by omega) (fun (v9 : (List AG) × (List (ByteArray × Int))) =>
     Ed N p j n (v9.1, v9.2, (wI .i64 ((i : Int) + 1)))) N 0 pl q l1 (zL _) (by omega) ⟨nd, hx, rfl⟩ hA hlm hpl (by
      rw [List.take_zero]; exact hnx) ⟨nd, hx, by rw [hem i nd (zK _) hx]; exact zK _⟩ hin
    have e1' : CI N p (pl, MU q, (i : Int)) (GM p nd.fp, 0) (fun (v9 : (List AG) × (List (ByteArray × Int))) =>
     Ed N p j n (v9.1, v9.2, (wI .i64 ((i : Int) + 1)))) N (pl, MU q, 0) = _ := e1
    rw [e1']
    simp only
    obtain ⟨k1, k2⟩ := LM hin (fun q hq => US hp hm hq) hA
    have hl1 : l1.length = pl1.length := by rw [← e2, zO]
    have hil : i < pl1.length := by rw [← hl1]; exact Bfs.lt_get (k2 _ _ hxl)
    rw [AI (by have := Bfs.inner_len _ _ _ (by rw [zO]; exact hlm) hin; omega)]
    refine LW hN h20 hv hmo j n (i + 1) pl1 q1 l' (by omega) (by rw [e2]; exact k1) (by rw [← hl1]; exact Bfs.inner_len _ _ _ (by rw [zO]; exact hlm) hin) (by rw [e2]; exact e3) ?_ ?_ (by rw [e2]; exact h)
    ·have hmi : ∀ nb, pl1[i]? = some nb → nb.fp = nd.fp := fun nb hb => by
      have := k2 _ _ hxl
      rw [← e2, zF, hb] at this
      exact congrArg (fun n : Kf => n.1) (Option.some.inj this)
     constructor
     ·intro b nb hb r hr
      obtain ⟨s, y, g1, g2⟩ := e4.to b nb hb r hr
      refine ⟨s, y, .inl ?_, g2⟩
      rcases g1 with g1 | ⟨g1, g3⟩
      ·exact ⟨by omega, g1.2⟩
      ·subst g1; exact ⟨by omega, by rw [hmi nb hb]; exact g3⟩
     ·intro b nb hb s y hs
      refine e4.of b nb hb s y ?_
      rcases hs with ⟨h2, h3⟩ | ⟨_, h3⟩
      ·by_cases hbi : b < i
       ·exact .inl ⟨hbi, h3⟩
       ·have : b = i := by omega
        subst this
        exact .inr ⟨rfl, by rw [hmi nb hb] at h3; exact h3⟩
      ·cases h3
    ·intro b nb hb hb2
     rcases e5 b nb hb2 (by omega) with h2 | h2
     ·exact hem b nb (by omega) h2
     ·exact h2
  ·have hi' : i = pl.length := by omega
   subst hi'
   rw [yX (by rw [zO]; exact zK _)] at h
   have h : some (pl.map E6) = some l' := h
   cases h
   rw [AB (by simp)]
   exact ⟨pl, rfl, rfl, by rw [zO]; exact hnx⟩
theorem PB {N : Nat} (hN : N ≤ 1000000) (h20 : 100 ≤ N) {p : Aa} (hv : B5 p = 0) {m : Ad} (hm : B6 p m) (hr : BG p m = true) {most : Nat} (hmo : most ≤ 20000) (h1 : 1 ≤ most) {l : List Kf} (hs : Jh p m most N = some l) :
  ∃ pl, HA N p m = some (pl, 0) ∧ pl.map E6 = l ∧ NB p l.length [] pl := by
 obtain ⟨hp, _⟩ := Du hv
 unfold HA
 rw [XO N hN h20 hp hm]
 simp only [oS]
 obtain ⟨pl, e1, e2, e3⟩ := LW hN h20 hv hmo (fun (v3 : (List AG)) => some (v3, 0)) N 0 [AG.mk m (-1) N5 []] [(m, 0)] l (zL _) (VC hm hr) h1 (by
  refine ⟨fun e he => by rw [yQ.1 he]; exact hm, ?_, ?_⟩
  ·intro x _ hq n hn
   have hn : n = (m, -1, N5) := yQ.1 hn
   simp only [KB] at hq
   split at hq
   ·cases hq
   ·rename_i h; rw [hn]; exact fun e => h e.symm
  ·intro x r _ hq
   simp only [KB] at hq
   split at hq
   ·rename_i h
    cases hq; right; exact ⟨0, -1, N5, rfl, by rw [h]; rfl⟩
   ·cases hq) (by
  constructor
  ·intro b nb hb r hr
   have := Bfs.lt_get hb
   simp at this; subst this
   cases hb; cases hr
  ·intro b nb hb s y hs
   rcases hs with h | h
   ·omega
   ·cases h.2) (fun b nb _ hb => by
    have := Bfs.lt_get hb
    simp at this; subst this
    cases hb; rfl) hs
 refine ⟨pl, ?_, e2, e3⟩
 exact e1
theorem U6 {α : Type} (xs : List α) (x y : α) : ∀ (A B : List α), ((A ++ x :: (xs ++ y :: B)).set A.length y).set (A.length + 1 + xs.length) x = A ++ y :: (xs ++ x :: B)
 | [], B => by
  rw [uG, yK, List.set_cons_zero, show 0 + 1 + xs.length = xs.length + 1 from by omega, vG, List.set_append_right _ _ (zK _), uZ]
  rfl
 | a :: A, B => by
  have := U6 xs x y A B
  simp only [uS, yC]
  rw [vG, show A.length + 1 + 1 + xs.length = (A.length + 1 + xs.length) + 1 from by omega, vG, this]
theorem T0 (N : Nat) (j : List Ae → Option (List Ae)) : ∀ (n : Nat) (xs A B : List Ae), xs.length < 2 * n → A.length + xs.length ≤ 100000 →
  Bu N j n (A ++ (xs ++ B), (A.length : Int), ((A.length + xs.length : Nat) : Int) - 1) = j (A ++ (xs.reverse ++ B))
 | 0, xs, A, B, h, _ => by omega
 | n + 1, xs, A, B, h, h2 => by
  rw [Bu]
  rcases xs with _ | ⟨x, xs⟩
  ·rw [AB (by simp only [yK]; omega)]; rfl
  ·rcases Bfs.list_snoc xs with rfl | ⟨xs, y, rfl⟩
   ·rw [AB (by simp only [yC, yK]; omega)]; rfl
   ·simp only [yC, zT, yK] at h h2
    rw [AH (by simp only [yC, zT, yK]; omega)]
    have e1 : (((A.length + (x :: (xs ++ [y])).length : Nat) : Int) - 1) = ((A.length + 1 + xs.length : Nat) : Int) := by simp only [yC, zT, yK]; omega
    have e2 : A ++ (x :: (xs ++ [y]) ++ B) = A ++ x :: (xs ++ y :: B) := by simp
    simp only [e1, e2, AX, zQ]
    have g1 : (A ++ x :: (xs ++ y :: B))[A.length + 1 + xs.length]? = some y := by
     rw [yD (by omega), show A.length + 1 + xs.length - A.length = xs.length + 1 from by omega, List.getElem?_cons_succ, yD (zK _), uZ]; rfl
    have g2 : (A ++ x :: (xs ++ y :: B))[A.length]? = some x := by
     rw [yD (zK _), uZ]; rfl
    rw [g1, g2]
    simp only [oS]
    rw [xA, if_neg (by omega), g1]
    simp only [oS]
    rw [U6, AI (by omega), show wI .i64 (((A.length + 1 + xs.length : Nat) : Int) - 1) = (((A ++ [y]).length + xs.length : Nat) : Int) - 1 from by
     rw [C3 (by omega) (by omega)]; simp only [zT, zX]]
    have := T0 N j n xs (A ++ [y]) (x :: B) (by omega) (by simp only [zT, zX]; omega)
    rw [show ((A.length + 1 : Nat) : Int) = (((A ++ [y]).length : Nat) : Int) from by simp]
    rw [show A ++ y :: (xs ++ x :: B) = (A ++ [y]) ++ (xs ++ x :: B) from by simp, this]
    simp
theorem UC (N : Nat) (h20 : 100 ≤ N) (l : List Ae) (h : l.length < 2 * N) (h2 : l.length ≤ 100000) : BE N l = some l.reverse := by
 unfold BE
 rw [C3 (by omega) (by omega)]
 have := T0 N (fun v2 => some v2) N l [] [] h (by simpa using h2)
 simp only [uG, xO, yK, zC] at this
 exact this
theorem M4 {p : Aa} {m : Ad} {l : List Kf} {ws : List (List Ae)} (h : YJ p m l ws) (N : Nat) {pl : List AG} (hpl : pl.map E6 = l) (j : List Ae → Option (List Ae)) : ∀ (n k : Nat) {w acc : List Ae}, k < n → ws[k]? = some w → acc.length + k ≤ 20000 →
  GT N pl j n ((k : Int), acc) = j (acc ++ w.reverse)
 | 0, k, _, _, hk, _, _ => by omega
 | n + 1, k, w, acc, hk, hw, ha => by
  obtain ⟨⟨x, f, s⟩, hx⟩ := Bfs.get_ex (l := l) (k := k) (by rw [← h.inv.len]; exact Bfs.lt_get hw)
  have hx2 := hx
  rw [← hpl, zF] at hx2
  cases hnd : pl[k]? with
  | none => rw [hnd] at hx2; cases hx2
  | some nd =>
   rw [hnd] at hx2
   have hx2 : E6 nd = (x, f, s) := Option.some.inj hx2
   have hf : nd.fg = f := congrArg (fun n : Kf => n.2.1) hx2
   have hs : nd.ft = s := congrArg (fun n : Kf => n.2.2) hx2
   rw [GT]
   simp only [AX, hnd, oS]
   rw [hf]
   rcases uJ k with rfl | hk0
   ·obtain ⟨s0, hs0⟩ := h.inv.root; rw [hs0] at hx; cases hx
    rw [h.inv.root'] at hw; cases hw
    rw [AB (by decide)]; simp
   ·obtain ⟨i, y', g', t', w', e1, e2, e3, e4, e5, e6, e7⟩ := h.inv.par k _ _ _ hk0 hx
    rw [e6] at hw; cases hw
    subst e1
    rw [AH (vS i), Aw (by simp [Dz]; omega)]
    have := M4 h N hpl j n i (w := w') (acc := acc ++ [Ae.mk nd.ft.ff nd.ft.fh nd.ft.fo]) (by omega) e5 (by simp; omega)
    rw [this, show (Ae.mk nd.ft.ff nd.ft.fh nd.ft.fo) = s from hs]
    simp
theorem Vw {p : Aa} {l : List Kf} {k : Nat} (h : LJ p l = some k) : k < l.length := by
 obtain ⟨⟨x, f, s, h1, _⟩, _⟩ := Rk h
 exact Bfs.lt_get h1
theorem Sb {N : Nat} (hN : N ≤ 1000000) (h20 : 100 ≤ N) {p : Aa} (hv : B5 p = 0) {m : Ad} (hm : B6 p m) (hr : BG p m = true) {most : Nat} (hmo : most ≤ 20000) (h1 : 1 ≤ most) {l : List Kf} (hs : Jh p m most N = some l) (hl : l.length < N) {ws : List (List Ae)} (h : YJ p m l ws) :
  Gw N p m = some (Na p l ws) := by
 obtain ⟨hp, _⟩ := Du hv
 have hl2 : l.length ≤ 20000 := xU (Bfs.go_len _ _ _ _ (by simpa using h1) hs) hmo
 unfold Gw
 rw [Ld N p m hN h20 (Nc hm) (JC hv hm), hr]
 simp only [oS, bne_self_eq_false, Ao, zY]
 obtain ⟨pl, e1, e2, e3⟩ := PB hN h20 hv hm hr hmo h1 hs
 rw [e1]
 simp only [oS, bne_self_eq_false, Ao]
 have hpll : pl.length = l.length := by rw [← e2, zO]
 unfold CA
 have := Cn (AY N pl ((fun (x : AG) => Fp N x p.fb p.fi p.fm p.fc)) fun _ => some (-1)) l (some (-1)) (fun i n => (if IY p n.1 = true then some i else none).map fun (k : Nat) => (k : Int))
  (fun n i nd hnd => by
   have hi := (lI.1 hnd).1
   have hnd2 := hnd
   rw [← e2, zF] at hnd2
   cases hq : pl[i]? with
   | none => rw [hq] at hnd2; cases hnd2
   | some nq =>
    rw [hq] at hnd2
    have hnd2 : E6 nq = nd := Option.some.inj hnd2
    rw [AY, AH (by omega), AX, hq]
    simp only [oS]
    have hok := (h.ok _ _ _ _ (show l[i]? = some (nd.1, nd.2.1, nd.2.2) from hnd)).1
    have hM : nq.fp = nd.1 := congrArg (fun n : Kf => n.1) hnd2
    unfold Fp
    simp only
    rw [show (Aa.mk p.fb p.fi p.fm p.fc) = p from rfl, show (Ad.mk nq.fp.fd nq.fp.fa nq.fp.fe) = nd.1 from hM, Tk N p nd.1 hN h20 (Nc hok), AI (by omega)]
    simp only [oS]
    cases hg : IY p nd.1 <;> rfl)
  (fun n => by rw [AY, AB (by omega)]) N 0 (zL _) (by omega)
 have e3 : AY N pl ((fun (x : AG) => Fp N x p.fb p.fi p.fm p.fc)) (fun _ => some (-1)) N 0 = _ := this
 rw [e3, zZ, L9]
 unfold Na
 cases hg : LJ p l with
 | none =>
  unfold LJ at hg
  rw [hg]; rfl
 | some k =>
  have hk := Vw hg
  unfold LJ at hg
  rw [hg]
  simp only [yS, BV, oS]
  rw [AB (by omega)]
  obtain ⟨w, hw⟩ := Bfs.get_ex (l := ws) (k := k) (by rw [h.inv.len]; exact hk)
  have e4 := M4 h N e2 (fun (v2 : (List Ae)) => (BE N v2).bind fun v8 => some v8) N k (w := w) (acc := []) (by omega) hw (by simp; omega)
  unfold KV
  have hwl := SD h (k + 1) k (Nat.lt_succ_self k) hw
  rw [e4, uG, UC N h20 _ (by rw [List.length_reverse]; omega) (by rw [List.length_reverse]; omega), List.reverse_reverse]
  simp only [oS]
  rw [lD, hw]; rfl
def ZM (p : Aa) (m : Ad) (w : List Ae) : Prop := Ou p m w = true ∧ Bfs.Dig NG 100 w ∧ ∀ u, Ou p m u = true → Bfs.code NG 100 w ≤ Bfs.code NG 100 u
theorem Vt {p : Aa} (hp : Bl p) : ∀ {w : List Ae} {m x : Ad}, Pw p m w = some x → Bfs.Dig NG 100 w ∧ ∀ s, s ∈ w → s ∈ Ft p
 | [], _, _, _ => ⟨fun s hs => (by cases hs), fun s hs => (by cases hs)⟩
 | s :: w, m, x, h => by
  simp only [Pw] at h
  cases hs : Or p m s with
  | none => rw [hs] at h; cases h
  | some z =>
   rw [hs] at h
   obtain ⟨h1, h2⟩ := Vt hp h
   have h3 := (JF (N7.1 (Ro hs)).1).1
   refine ⟨fun t ht => ?_, fun t ht => ?_⟩
   ·rcases yJ.1 ht with rfl | ht
    ·exact (P7 hp h3).2
    ·exact h1 t ht
   ·rcases yJ.1 ht with rfl | ht
    ·exact h3
    ·exact h2 t ht
theorem Rl {p : Aa} (hp : Bl p) {m : Ad} {l : List Kf} {ws : List (List Ae)} (h : YJ p m l ws) :
  ((Na p l ws).2 = 0 ∧ ZM p m (Na p l ws).1 ∧ (Na p l ws).1.length ≤ l.length) ∨ (Na p l ws = ([], 14) ∧ ∀ u, Ou p m u = false) := by
 unfold Na
 cases hg : LJ p l with
 | none =>
  right
  refine ⟨rfl, fun u => ?_⟩
  cases hu : Ou p m u
  ·rfl
  ·obtain ⟨x, h1, h2⟩ := Rv hu
   obtain ⟨k, f, s, w, g1, g2, g3⟩ := RS hp h h1
   rw [V3 hg g1] at h2; cases h2
 | some k =>
  left
  obtain ⟨⟨x, f, s, h1, h2⟩, h3⟩ := Rk hg
  have hk := Vw hg
  obtain ⟨w, hw⟩ := Bfs.get_ex (l := ws) (k := k) (by rw [h.inv.len]; exact hk)
  have hwe : ws.getD k [] = w := by rw [lD, hw]; rfl
  simp only [hwe]
  have hrun := Y4 hp h h1 hw
  refine ⟨trivial, ⟨?_, (Vt hp hrun).1, ?_⟩, ?_⟩
  ·unfold Ou; rw [hrun]; exact h2
  ·intro u hu
   obtain ⟨y, g1, g2⟩ := Rv hu
   obtain ⟨k', f', s', w', e1, e2, e3⟩ := RS hp h g1
   refine xU ?_ e3
   by_cases hkk : k' < k
   ·rw [h3 k' y f' s' hkk e1] at g2; cases g2
   ·rcases Nat.lt_or_eq_of_le (Nat.le_of_not_lt hkk) with h4 | h4
    ·exact Nat.le_of_lt (h.inv.inc _ _ _ _ hw e2 h4)
    ·subst h4; rw [hw] at e2; cases e2; exact zK _
  ·have := SD h (k + 1) k (Nat.lt_succ_self k) hw
   omega
def Tz (p : Aa) (m : Ad) (r : List Ae × Int) : Prop := (r.2 = 0 ∧ ZM p m r.1 ∧ r.1.length ≤ 120) ∨ (r = ([], 14) ∧ ∀ u, Ou p m u = false)
def Nt (p : Aa) : Prop := BG p (Gf p) = false ∨ ∃ l, Jh p (Gf p) 120 1000 = some l
def Qe (p : Aa) (r : List Ae × Int) : Prop := (BG p (Gf p) = false ∧ r = ([], 13)) ∨ (BG p (Gf p) = true ∧ Tz p (Gf p) r)
theorem P3 {α : Type} [DecidableEq α] : ∀ (L S : List α), L.Nodup → (∀ x, x ∈ L → x ∈ S) → L.length ≤ S.length
 | [], S, _, _ => zL _
 | x :: L, S, hn, hs => by
  obtain ⟨h1, h2⟩ := xQ.1 hn
  have hx := hs x (by simp)
  have := P3 L (S.erase x) h2 (fun y hy => by
   have hne : y ≠ x := fun e => h1 (e ▸ hy)
   exact (List.mem_erase_of_ne hne).2 (hs y (xR _ hy)))
  rw [List.length_erase_of_mem hx] at this
  have := List.length_pos_of_mem hx
  simp only [yC]
  omega
def L6 (l : List Kf) : List Ad := l.map fun n => n.1
theorem Wu {i : Nat} {l : List Kf} {q : Ae × Ad} (h : (L6 l).Nodup) : (L6 (Bfs.put i l q)).Nodup ∧ ∀ x, x ∈ L6 (Bfs.put i l q) → x ∈ L6 l ∨ x = q.2 := by
 unfold Bfs.put
 split
 ·exact ⟨h, fun x hx => .inl hx⟩
 ·rename_i hn
  unfold L6 at h ⊢
  rw [xC]
  refine ⟨?_, ?_⟩
  ·rw [List.nodup_append]
   refine ⟨h, by simp, ?_⟩
   intro a ha b hb
   have hb : b = q.2 := by simpa using hb
   subst hb
   intro e
   subst e
   obtain ⟨n, hn1, hn2⟩ := zW.1 ha
   exact hn (xE.2 ⟨n, hn1, decide_eq_true hn2⟩)
  ·intro x hx
   rcases yB.1 hx with hx | hx
   ·exact .inl hx
   ·exact .inr (by simpa using hx)
theorem O9 {S : List Ad} {most i : Nat} (hS : S.length ≤ most) : ∀ (qs : List (Ae × Ad)) (l : List Kf), (L6 l).Nodup → (∀ x, x ∈ L6 l → x ∈ S) → (∀ q, q ∈ qs → q.2 ∈ S) →
  ∃ l', Bfs.inner most i qs l = some l' ∧ (L6 l').Nodup ∧ (∀ x, x ∈ L6 l' → x ∈ S) ∧ l.length ≤ l'.length
 | [], l, h1, h2, _ => ⟨l, rfl, h1, h2, zK _⟩
 | q :: qs, l, h1, h2, h3 => by
  obtain ⟨g1, g2⟩ := Wu (i := i) (q := q) h1
  have g3 : ∀ x, x ∈ L6 (Bfs.put i l q) → x ∈ S := fun x hx => (g2 x hx).elim (h2 x) fun e => by rw [e]; exact h3 q (by simp)
  have := P3 _ S g1 g3
  unfold L6 at this
  rw [zO] at this
  simp only [Bfs.inner]
  rw [if_neg (by omega)]
  obtain ⟨l', e1, e2, e3, e4⟩ := O9 hS qs (Bfs.put i l q) g1 g3 (fun q hq => h3 q (xR _ hq))
  refine ⟨l', e1, e2, e3, xU ?_ e4⟩
  unfold Bfs.put; split
  ·exact zK _
  ·simp
theorem TX {p : Aa} {S : List Ad} {most : Nat} (hS : S.length ≤ most) (hc : ∀ x, x ∈ S → ∀ q, q ∈ JW p x → q.2 ∈ S) : ∀ (n i : Nat) (l : List Kf), (L6 l).Nodup → (∀ x, x ∈ L6 l → x ∈ S) → i ≤ l.length → most < n + i → ∃ l', Bfs.go (JW p) most n i l = some l'
 | 0, i, l, h1, h2, hi, hn => by
  have := P3 _ S h1 h2
  unfold L6 at this
  rw [zO] at this
  omega
 | n + 1, i, l, h1, h2, hi, hn => by
  simp only [Bfs.go]
  cases hx : l[i]? with
  | none => exact ⟨l, rfl⟩
  | some nd =>
   have hS2 : nd.1 ∈ S := h2 _ (zW.2 ⟨nd, lM hx, rfl⟩)
   obtain ⟨l1, e1, e2, e3, e4⟩ := O9 (i := i) hS (JW p nd.1) l h1 h2 (hc _ hS2)
   simp only [e1, oS]
   have := Bfs.lt_get hx
   exact TX hS hc n (i + 1) l1 e2 e3 (by omega) (by omega)
theorem aT {p : Aa} {t : Am} (hp : Bl p) (ht : Pe p t) : t.fk.length ≤ 6 ∧ ∀ row, row ∈ t.fk → row.length ≤ 6 := by
 have h1 := La hp.ver ht.from0.1 ht.from0.2
 refine ⟨?_, fun row hr => by have := ht.reR row hr; omega⟩
 by_cases hk : t.ff = 4
 ·have := ht.reL hk; omega
 ·rw [ht.reN hk]; simp
theorem Uc (N : Nat) {l : List (List Bool)} (h : l.length ≤ 100000) : Dl N l = some l := by
 unfold Dl
 rw [Aw (by simp only [yK]; unfold Dz; omega)]; rfl
theorem Vq (N : Nat) {l : List Bool} (h : l.length ≤ 100000) : CV N l = some l := by
 unfold CV
 rw [Aw (by simp only [yK]; unfold Dz; omega)]; rfl
theorem Zg (N : Nat) {l : List Int} (h : l.length ≤ 100000) : Bh N l = some l := by
 unfold Bh
 rw [Aw (by simp only [yK]; unfold Dz; omega)]; rfl
theorem Pa {α : Type} {l : List α} {i : Nat} {x : α} (h : l[i]? = some x) : l.set i x = l := by
 apply List.ext_getElem?
 intro k
 rw [xA]
 have := (lI.1 h).1
 by_cases e : i = k
 ·subst e; rw [if_pos rfl, if_pos this, h]
 ·rw [if_neg e]
structure dg (N : Nat) (p : Aa) : Prop where
 v : p.fb.length < N
 n : p.fi.length < N
 t : p.fm.length < N
 s : p.fc.length < N
 m : ∀ t, t ∈ p.fc → t.fq.length < N ∧ (∀ row, row ∈ t.fq → row.length < N) ∧ t.fk.length < N ∧ ∀ row, row ∈ t.fk → row.length < N
def d3 (p : Aa) : Prop := BG p (Gf p) = true ∧ ∃ u, Ou p (Gf p) u = true
theorem VM {N : Nat} (hN : N ≤ 1000000) (h1 : 1000 ≤ N) {p : Aa} (hv : B5 p = 0) {m : Ad} (hm : B6 p m) (hr : BG p m = true) {l : List Kf} (hs : Jh p m 120 1000 = some l) :
  ∃ r, Gw N p m = some r ∧ Tz p m r := by
 obtain ⟨hp, _⟩ := Du hv
 obtain ⟨ws, h⟩ := UO hp hm hr hs
 have hl : l.length ≤ 120 := Bfs.go_len _ _ _ _ (by simp) hs
 refine ⟨_, Sb (N := N) (by omega) (by omega) hv hm hr (by omega) (by omega) (Bfs.go_more (zK _) _ _ _ _ _ h1 hs) (by omega) h, ?_⟩
 rcases Rl hp h with ⟨k1, h2, h3⟩ | k1
 ·exact .inl ⟨k1, h2, by omega⟩
 ·exact .inr k1
theorem UY {N : Nat} (hN : N ≤ 1000000) (h1 : 1000 ≤ N) {p : Aa} (hv : B5 p = 0) {m : Ad} (hm : B6 p m) (hr : BG p m = false) : Gw N p m = some ([], 13) := by
 unfold Gw
 rw [Ld N p m (by omega) (by omega) (Nc hm) (JC hv hm), hr]; rfl
theorem RN {N : Nat} (hN : N ≤ 1000000) (h1 : 1000 ≤ N) {p : Aa} (hv : B5 p = 0) (hl : Nt p) : ∃ r, HO N p = some r ∧ Qe p r := by
 have hm := Pz hv
 unfold HO
 rw [Sw N p (by omega) (by omega), if_pos hv]
 simp only [oS, hv, bne_self_eq_false, Ao]
 cases hr : BG p (Gf p)
 ·rw [UY hN h1 hv hm hr]
  exact ⟨_, rfl, .inl ⟨hr, rfl⟩⟩
 ·rcases hl with h | ⟨l, hs⟩
  ·rw [hr] at h; cases h
  ·obtain ⟨r, e1, e3⟩ := VM hN h1 hv hm hr hs
   rw [e1]
   exact ⟨r, rfl, .inr ⟨hr, e3⟩⟩
theorem Ug {N : Nat} (hN : N ≤ 1000000) (h1 : 1000 ≤ N) {p : Aa} (hv : B5 p = 0) (hl : Nt p) : ∃ r, FL N p = some r ∧ Qe p r := by
 obtain ⟨hp, _⟩ := Du hv
 have hm := Pz hv
 unfold FL
 rw [NU N p (by omega) (by omega), if_pos hv]
 simp only [oS, hv, bne_self_eq_false, Ao]
 cases hr : BG p (Gf p)
 ·unfold EY
  rw [Km N p _ (by omega) (by omega), JC hv hm, Jt N p _ (by omega) (by omega) hp hm, hr]
  exact ⟨_, rfl, .inl ⟨hr, rfl⟩⟩
 ·rcases hl with h | ⟨l, hs⟩
  ·rw [hr] at h; cases h
  ·obtain ⟨ws, h⟩ := UO hp hm hr hs
   have hl : l.length ≤ 120 := Bfs.go_len _ _ _ _ (by simp) hs
   have hs2 : Jh p (Gf p) 20000 N = some l := Bfs.go_more (by omega) _ _ _ _ _ h1 hs
   rw [TS (N := N) (by omega) (by omega) hv hm hr hs2 (by omega) h]
   refine ⟨_, rfl, .inr ⟨hr, ?_⟩⟩
   rcases Rl hp h with ⟨k1, h2, h3⟩ | k1
   ·exact .inl ⟨k1, h2, by show (Na p l ws).1.length ≤ 120; omega⟩
   ·exact .inr k1
theorem Qj {p : Aa} {r : List Ae × Int} (h : Qe p r) : ((r.2 == 0) = true ↔ d3 p) ∧ (r.2 == 3) = false ∧ (r.2 = 0 ∨ r.2 = 13 ∨ r.2 = 14) := by
 rcases h with ⟨h1, h2⟩ | ⟨h1, ⟨h2, h3, _⟩ | ⟨h2, h3⟩⟩
 ·subst h2
  refine ⟨⟨(fun h => by cases h), fun h => ?_⟩, rfl, .inr (.inl rfl)⟩
  rw [h.1] at h1; cases h1
 ·rw [h2]
  exact ⟨⟨fun _ => ⟨h1, _, h3.1⟩, fun _ => rfl⟩, rfl, .inl rfl⟩
 ·subst h2
  refine ⟨⟨(fun h => by cases h), fun h => ?_⟩, rfl, .inr (.inr rfl)⟩
  obtain ⟨_, u, hu⟩ := h
  rw [h3 u] at hu; cases hu
def zP : Aa := ⟨[], [], [], []⟩
def L5 (l : List Int) (i : Nat) (x : Int) : Option (Aa × Int) := if 0 < i ∧ x ≤ l.getD (i - 1) 0 then some (zP, 1) else none
def OI (l : List Int) : Bool := (CY (L5 l) 0 l).isNone
def Wo (p : Aa) (x : Int) : Bool := decide (0 ≤ x ∧ x < (p.fb.length : Int))
def Ln (l : List Int) (x : Int) : Int := (CY (fun i y => if (y == x) = true then some ((i : Nat) : Int) else none) 0 l).getD (-1)
def OU (l : List Int) (t : Am) : List Am := if 0 ≤ Ln l t.fg ∧ 0 ≤ Ln l t.fj then [⟨t.ff, Ln l t.fg, Ln l t.fj, t.fr, t.fq, t.fk⟩] else []
def Q2 (xs : List Int) (s : Int) : Int := xs.getD s.toNat 0
def IK (p : Aa) (l : List Int) : Aa := ⟨l.map (Q2 p.fb), l.map (Q2 p.fi), l.map (Q2 p.fm), C1 (fun _ t => OU l t) 0 p.fc⟩
def JM (p : Aa) (l : List Int) : Aa × Int := if OI l = true then (if l.all (Wo p) = true then (IK p l, 0) else (zP, 4)) else (zP, 1)
theorem Ty (l : List Int) {r : Aa × Int} (h : CY (L5 l) 0 l = some r) : r = (zP, 1) := by
 obtain ⟨j, x, _, h⟩ := Em h
 unfold L5 at h
 split at h
 ·cases h; rfl
 ·cases h
theorem VL {N : Nat} (hN : N ≤ 1000000) (l : List Int) (hl : l.length < N) (j : Unit → Option (Aa × Int)) : CM N l j N 0 = if OI l = true then j () else some (zP, 1) := by
 have h := Cn (CM N l j) l (j ()) (L5 l)
  (fun n i x hx => by
   have hi := (lI.1 hx).1
   rw [CM, AH (by omega)]
   simp only [Bn]
   unfold L5
   by_cases h0 : 0 < i
   ·rw [AH (by omega), AX, hx, C3 (by omega) (by omega), show (i : Int) - 1 = ((i - 1 : Nat) : Int) from by omega, Dw (d := 0) (by omega)]
    simp only [oS, h0, true_and]
    rw [AI (by omega)]
    by_cases h1 : x ≤ l.getD (i - 1) 0
    ·rw [AH h1, if_pos h1]; rfl
    ·rw [AB h1, if_neg h1]; rfl
   ·rw [AB (by omega), if_neg (fun h => h0 h.1), Ao, AI (by omega)]; rfl)
  (fun n => by rw [CM, AB (by omega)]) N 0 (zL _) (by omega)
 rw [zZ] at h
 have h' : CM N l j N 0 = _ := h
 rw [h']
 unfold OI
 cases hs : CY (L5 l) 0 l with
 | none => rfl
 | some r => rw [Ty l hs]; rfl
theorem Yh {N : Nat} (hN : N ≤ 1000000) (l : List Int) (hl : l.length < N) (j : Unit → Option (Aa × Int)) : A1 N l j N 1 = if OI l = true then j () else some (zP, 1) := by
 cases hc : l with
 | nil =>
  obtain ⟨n, rfl⟩ : ∃ n, N = n + 1 := ⟨N - 1, by omega⟩
  rw [A1, AB (by simp)]; rfl
 | cons y ys =>
  rw [← hc]
  have hll : l.length = ys.length + 1 := by rw [hc]; rfl
  have h := Cn (fun n i => A1 N l j n (i + 1)) ys (j ()) (fun i x => L5 l (i + 1) x)
   (fun n i x hx => by
    have hi := (lI.1 hx).1
    have hx' : l[i + 1]? = some x := by rw [hc]; simpa using hx
    show A1 N l j (n + 1) ((i : Int) + 1) = _
    rw [show (i : Int) + 1 = ((i + 1 : Nat) : Int) from by omega, A1, AH (by omega), AX, hx', C3 (by omega) (by omega), show ((i + 1 : Nat) : Int) - 1 = (i : Int) from by omega, Dw (d := 0) (by omega)]
    simp only [oS]
    unfold L5
    rw [AI (by omega)]
    simp only [Nat.zero_lt_succ, true_and, Nat.add_sub_cancel]
    by_cases h1 : x ≤ l.getD i 0
    ·rw [AH h1, if_pos h1]; rfl
    ·rw [AB h1, if_neg h1]
     show _ = A1 N l j n (((i + 1 : Nat) : Int) + 1)
     rw [show ((i + 1 : Nat) : Int) + 1 = ((i + 1 + 1 : Nat) : Int) from by omega])
   (fun n => by
    show A1 N l j (n + 1) ((ys.length : Int) + 1) = _
    rw [A1, AB (by omega)]) N 0 (zL _) (by omega)
  rw [zZ] at h
  have h' : A1 N l j N 1 = _ := h
  rw [h']
  have e : CY (L5 l) 0 l = CY (fun i x => L5 l (i + 1) x) 0 ys := by
   have sh : ∀ (ys : List Int) (i : Nat), CY (L5 l) (i + 1) ys = CY (fun i x => L5 l (i + 1) x) i ys := by
    intro ys
    induction ys with
    | nil => intro i; rfl
    | cons z zs ih => intro i; rw [Gi, Gi, ih]
   have h0 : L5 l 0 y = none := by unfold L5; rw [if_neg (by omega)]
   have q : ∀ g : Nat → Int → Option (Aa × Int), CY g 0 l = CY g 0 (y :: ys) := fun g => by rw [hc]
   rw [q, Gi, h0, ← sh ys 0]
  unfold OI
  rw [e]
  cases hs : CY (fun i x => L5 l (i + 1) x) 0 ys with
  | none => rfl
  | some r => rw [← e] at hs; rw [Ty l hs]; rfl
theorem NM {N : Nat} (hN : N ≤ 1000000) (l : List Int) (hl : l.length < N) (x : Int) : DP N l x = some (Ln l x) ∧ EG N l x = some (Ln l x) := by
 constructor
 ·unfold DP
  have h := Cn (BU N l x fun _ => some (-1)) l (some (-1)) (fun i y => if (x == y) = true then some ((i : Nat) : Int) else none)
   (fun n i y hy => by
    have hi := (lI.1 hy).1
    rw [BU, AH (by omega), AX, hy]
    simp only [oS]
    rw [AI (by omega)]
    cases x == y <;> rfl)
   (fun n => by rw [BU, AB (by omega)]) N 0 (zL _) (by omega)
  rw [zZ] at h
  have h' : BU N l x (fun _ => some (-1)) N 0 = _ := h
  refine h'.trans ?_
  unfold Ln
  have e : (fun (i : Nat) (y : Int) => if (x == y) = true then some (i : Int) else none) = fun i y => if (y == x) = true then some ((i : Nat) : Int) else none := by
   funext i y
   rw [Bool.beq_comm]
  rw [e]
  cases CY (fun i y => if (y == x) = true then some ((i : Nat) : Int) else none) 0 l <;> rfl
 ·unfold EG
  have h := Cn (Ct N l x fun _ => some (-1)) l (some (-1)) (fun i y => if (y == x) = true then some ((i : Nat) : Int) else none)
   (fun n i y hy => by
    have hi := (lI.1 hy).1
    rw [Ct, AH (by omega), AX, hy]
    simp only [oS]
    rw [AI (by omega)]
    cases y == x <;> rfl)
   (fun n => by rw [Ct, AB (by omega)]) N 0 (zL _) (by omega)
  rw [zZ] at h
  have h' : Ct N l x (fun _ => some (-1)) N 0 = _ := h
  refine h'.trans ?_
  unfold Ln
  cases CY (fun i y => if (y == x) = true then some ((i : Nat) : Int) else none) 0 l <;> rfl
theorem Ry {N : Nat} (hN : N ≤ 1000000) {p : Aa} (h2 : p.fi.length = p.fb.length) (h3 : p.fm.length = p.fb.length) (l : List Int) (hl : l.length ≤ 1000) (j : List Int × List Int × List Int → Option (Aa × Int)) : ∀ (n i : Nat) (a b c : List Int), i ≤ l.length → l.length - i < n → a.length = i → b.length = i → c.length = i →
  Eh N p l j n (a, b, c, (i : Int)) = if (l.drop i).all (Wo p) = true then j (a ++ (l.drop i).map (Q2 p.fb), b ++ (l.drop i).map (Q2 p.fi), c ++ (l.drop i).map (Q2 p.fm)) else some (zP, 4)
 | 0, i, _, _, _, _, h, _, _, _ => by omega
 | n + 1, i, a, b, c, hi, h, ha, hb, hc => by
  rw [Eh]
  by_cases h1 : i < l.length
  ·have hx : l[i]? = some l[i] := by simp [h1]
   rw [AH (by simp only; omega), Ho hx]
   simp only [AX, hx, oS, xZ, yG]
   generalize l[i] = x
   unfold DY
   simp only [Bn]
   by_cases hr : 0 ≤ x ∧ x < (p.fb.length : Int)
   ·have hin : Wo p x = true := decide_eq_true hr
    rw [hin, y7, AH hr.1, decide_eq_true hr.2]
    simp only [oS, zY, Ao]
    rw [EQ (d := 0) hr.1 hr.2, EQ (d := 0) hr.1 (by omega), EQ (d := 0) hr.1 (by omega)]
    simp only [oS]
    rw [Aw (by simp only [zX]; unfold Dz; omega), Aw (by simp only [zX]; unfold Dz; omega), Aw (by simp only [zX]; unfold Dz; omega), AI (by omega),
     Ry hN h2 h3 l hl j n (i + 1) _ _ _ (by omega) (by omega) (by simp [ha]) (by simp [hb]) (by simp [hc])]
    simp only [yO, List.singleton_append]
    rfl
   ·have hin : Wo p x = false := decide_eq_false hr
    rw [hin, vM, if_neg (by decide)]
    by_cases h0 : 0 ≤ x
    ·rw [AH h0, decide_eq_false (fun h => hr ⟨h0, h⟩)]; rfl
    ·rw [AB h0]; rfl
  ·have : i = l.length := by omega
   subst this
   rw [AB (by simp only; omega), yR (zK _)]
   simp
theorem Vo {N : Nat} (hN : N ≤ 1000000) {p : Aa} (h2 : p.fi.length = p.fb.length) (h3 : p.fm.length = p.fb.length) (l : List Int) (hl : l.length ≤ 1000) (j : List Int × List Int × List Int → Option (Aa × Int)) : ∀ (n i : Nat) (a b c : List Int), i ≤ l.length → l.length - i < n → a.length = i → b.length = i → c.length = i →
  C7 N p l j n (a, b, c, (i : Int)) = if (l.drop i).all (Wo p) = true then j (a ++ (l.drop i).map (Q2 p.fb), b ++ (l.drop i).map (Q2 p.fi), c ++ (l.drop i).map (Q2 p.fm)) else some (zP, 4)
 | 0, i, _, _, _, _, h, _, _, _ => by omega
 | n + 1, i, a, b, c, hi, h, ha, hb, hc => by
  rw [C7]
  by_cases h1 : i < l.length
  ·have hx : l[i]? = some l[i] := by simp [h1]
   rw [AH (by simp only; omega), Ho hx]
   simp only [AX, hx, oS, xZ, yG, Bn]
   generalize l[i] = x
   by_cases hr : 0 ≤ x ∧ x < (p.fb.length : Int)
   ·have hin : Wo p x = true := decide_eq_true hr
    rw [hin, y7, AB (by omega), decide_eq_false (by omega), Ao]
    rw [EQ (d := 0) hr.1 hr.2, EQ (d := 0) hr.1 (by omega), EQ (d := 0) hr.1 (by omega)]
    simp only [oS]
    rw [Aw (by simp only [zX]; unfold Dz; omega), Aw (by simp only [zX]; unfold Dz; omega), Aw (by simp only [zX]; unfold Dz; omega), AI (by omega),
     Vo hN h2 h3 l hl j n (i + 1) _ _ _ (by omega) (by omega) (by simp [ha]) (by simp [hb]) (by simp [hc])]
    simp only [yO, List.singleton_append]
    rfl
   ·have hin : Wo p x = false := decide_eq_false hr
    rw [hin, vM, if_neg (by decide)]
    by_cases h0 : x < 0
    ·rw [AH h0]; rfl
    ·rw [AB h0, decide_eq_true (by omega)]; rfl
  ·have : i = l.length := by omega
   subst this
   rw [AB (by simp only; omega), yR (zK _)]
   simp
theorem U2 {N : Nat} (h20 : 100 ≤ N) (t : Am) (h1 : t.fq.length ≤ 6) (h2 : ∀ row, row ∈ t.fq → row.length ≤ 6) (h3 : t.fk.length ≤ 6) (h4 : ∀ row, row ∈ t.fk → row.length ≤ 6) : Hm N t = some t := by
 unfold Hm
 rw [Uc N (by omega), Uc N (by omega)]
 simp only [oS]
 have l2 : ∀ v4, Dq N t.fk (fun v10 => some ⟨t.ff, t.fg, t.fj, t.fr, v4, v10⟩) N (t.fk, 0) = some ⟨t.ff, t.fg, t.fj, t.fr, v4, t.fk⟩ := fun v4 => by
  have l2 := ID (Dq N t.fk fun v12 => some ⟨t.ff, t.fg, t.fj, t.fr, v4, v12⟩) (fun a i => (a, i)) t.fk (fun v12 => some ⟨t.ff, t.fg, t.fj, t.fr, v4, v12⟩) (fun _ _ a => a) (fun _ a => a = t.fk)
   (fun n i x a hx ha => by
    subst ha
    have hi := (lI.1 hx).1
    refine ⟨?_, rfl⟩
    rw [Dq]
    simp only [AX, hx, oS]
    rw [AH (by omega), Vq N (by have := h4 x (lM hx); omega)]
    simp only [oS]
    rw [AI (by omega), zQ, Pa hx])
   (fun n a ha => by
    subst ha
    rw [Dq, AB (by omega)]) N 0 t.fk (zL _) (by omega) rfl
  have e := l2.1
  rw [l2.2] at e
  exact e
 have l1 := ID (EA N t.fq fun v4 => Dq N t.fk (fun v10 => some ⟨t.ff, t.fg, t.fj, t.fr, v4, v10⟩) N (t.fk, 0)) (fun a i => (a, i)) t.fq (fun v4 => some ⟨t.ff, t.fg, t.fj, t.fr, v4, t.fk⟩) (fun _ _ a => a) (fun _ a => a = t.fq)
  (fun n i x a hx ha => by
   subst ha
   have hi := (lI.1 hx).1
   refine ⟨?_, rfl⟩
   rw [EA]
   simp only [AX, hx, oS]
   rw [AH (by omega), Vq N (by have := h2 x (lM hx); omega)]
   simp only [oS]
   rw [AI (by omega), zQ, Pa hx])
  (fun n a ha => by
   subst ha
   rw [EA, AB (by omega)]
   exact l2 t.fq) N 0 t.fq (zL _) (by omega) rfl
 have e := l1.1
 rw [l1.2] at e
 exact e
theorem Qd {N : Nat} (h20 : 100 ≤ N) (l : List (List Bool)) (h1 : l.length ≤ 6) (h2 : ∀ row, row ∈ l → row.length ≤ 6) : Ek N l = some l := by
 unfold Ek
 rw [Gl (CR N l _) (fun a i => (a, i)) l some (fun _ x => [x]) 1 1000
  (fun i x hx => by simp)
  (fun n i x a hx ha => by
   have hi := (lI.1 hx).1
   have hr := h2 x (lM hx)
   rw [CR]
   simp only [AX, hx, oS]
   rw [AH (by omega), Aw (by simp only [yK]; unfold Dz; omega), Aw (by simp only [zX] at ha ⊢; unfold Dz; omega), AI (by omega)]
   rfl)
  (fun n a => by
   rw [CR, AB (by omega)]) N [] (by omega) (by simp only [yK]; omega), TZ]
 rfl
theorem Ud {p : Aa} (hp : Bl p) {t : Am} (h : t ∈ p.fc) : (t.fq.length ≤ 6 ∧ ∀ row, row ∈ t.fq → row.length ≤ 6) ∧ t.fk.length ≤ 6 ∧ ∀ row, row ∈ t.fk → row.length ≤ 6 := by
 have ht := MC (hp.tab t h)
 exact ⟨Ov hp ht, aT hp ht⟩
theorem Of {N : Nat} (hN : N ≤ 1000000) (h20 : 100 ≤ N) {p : Aa} (hv : B5 p = 0) (l : List Int) (hl : l.length ≤ 90) : Gp N p l = some (JM p l) := by
 obtain ⟨hp, _⟩ := Du hv
 have hnt := hp.nt
 unfold Gp JM
 rw [Kc N p hN (by omega)]
 simp only [oS, hv, bne_self_eq_false, Ao]
 rw [VL hN l (by omega)]
 split
 ·have h := Ry hN hp.now hp.tgt l (by omega) (fun v12 => CZ N p l (fun v24 => some (Aa.mk v12.1 v12.2.1 v12.2.2 v24, 0)) N ([], 0)) N 0 [] [] [] (zL _) (by omega) rfl rfl rfl
  rw [zZ] at h
  refine Eq.trans h ?_
  split
  ·rw [Gl (CZ N p l _) (fun a i => (a, i)) p.fc (fun v24 => some (Aa.mk _ _ _ v24, 0)) (fun _ t => OU l t) 1 1000
    (fun i t ht => by unfold OU; split <;> simp)
    (fun n i t a ht ha => by
     have hi := (lI.1 ht).1
     obtain ⟨⟨a1, a2⟩, a3, a4⟩ := Ud hp (lM ht)
     rw [CZ]
     simp only [Bn, AX, ht, oS]
     rw [AH (by omega), (NM hN l (by omega) t.fg).1, (NM hN l (by omega) t.fj).1]
     simp only [oS]
     rw [AI (by omega), U2 h20 t a1 a2 a3 a4]
     simp only [oS]
     unfold OU at ha ⊢
     by_cases h1 : 0 ≤ Ln l t.fg
     ·rw [AH h1]
      by_cases h2 : 0 ≤ Ln l t.fj
      ·rw [decide_eq_true h2, AU, if_pos ⟨h1, h2⟩]
       rw [if_pos ⟨h1, h2⟩] at ha
       rw [Aw (by simp only [zX] at ha ⊢; unfold Dz; omega)]
      ·rw [decide_eq_false h2, Ao, if_neg (fun h => h2 h.2), xO]
     ·rw [AB h1, Ao, if_neg (fun h => h1 h.1), xO])
    (fun n a => by rw [CZ, AB (by omega)]) N [] (by omega) (by simp only [yK]; omega)]
   rfl
  ·rfl
 ·rfl
theorem LY {N : Nat} (hN : N ≤ 1000000) (h20 : 100 ≤ N) {p : Aa} (hv : B5 p = 0) (l : List Int) (hl : l.length ≤ 90) : DO N p l = some (JM p l) := by
 obtain ⟨hp, _⟩ := Du hv
 have hnt := hp.nt
 unfold DO JM
 rw [LC N p hN (by omega)]
 simp only [oS, hv, bne_self_eq_false, Ao]
 rw [Yh hN l (by omega)]
 split
 ·have h := Vo hN hp.now hp.tgt l (by omega) (fun v10 => BJ N p l (fun v23 => some (Aa.mk v10.1 v10.2.1 v10.2.2 v23, 0)) N ([], 0)) N 0 [] [] [] (zL _) (by omega) rfl rfl rfl
  rw [zZ] at h
  refine Eq.trans h ?_
  split
  ·rw [Gl (BJ N p l _) (fun a i => (a, i)) p.fc (fun v24 => some (Aa.mk _ _ _ v24, 0)) (fun _ t => OU l t) 1 1000
    (fun i t ht => by unfold OU; split <;> simp)
    (fun n i t a ht ha => by
     have hi := (lI.1 ht).1
     obtain ⟨⟨a1, a2⟩, a3, a4⟩ := Ud hp (lM ht)
     rw [BJ]
     simp only [Bn, AX, ht, oS]
     rw [AH (by omega), (NM hN l (by omega) t.fg).2, (NM hN l (by omega) t.fj).2]
     simp only [oS]
     unfold F4
     rw [AI (by omega), Qd h20 _ a1 a2, Qd h20 _ a3 a4]
     simp only [oS]
     unfold OU at ha ⊢
     by_cases h1 : 0 ≤ Ln l t.fg
     ·rw [AH h1]
      by_cases h2 : 0 ≤ Ln l t.fj
      ·rw [decide_eq_true h2, AU, if_pos ⟨h1, h2⟩]
       rw [if_pos ⟨h1, h2⟩] at ha
       rw [Aw (by simp only [zX] at ha ⊢; unfold Dz; omega)]
      ·rw [decide_eq_false h2, Ao, if_neg (fun h => h2 h.2), xO]
     ·rw [AB h1, Ao, if_neg (fun h => h1 h.1), xO])
    (fun n a => by rw [BJ, AB (by omega)]) N [] (by omega) (by simp only [yK]; omega)]
   rfl
  ·rfl
 ·rfl
theorem VE {α R : Type} {f : Nat → α → Option R} {i : Nat} {xs : List α} (h : ∀ j x, xs[j]? = some x → f (i + j) x = none) : CY f i xs = none := by
 cases hs : CY f i xs with
 | none => rfl
 | some r =>
  obtain ⟨j, x, h1, h2⟩ := Em hs
  rw [h j x h1] at h2; cases h2
theorem MF {l : List Int} (h : OI l = true) {i : Nat} {x y : Int} (hx : l[i]? = some x) (hy : l[i + 1]? = some y) : x < y := by
 unfold OI at h
 have h0 : CY (L5 l) 0 l = none := by
  cases hs : CY (L5 l) 0 l with
  | none => rfl
  | some r => rw [hs] at h; cases h
 have h1 := FE h0 (i + 1) y hy
 unfold L5 at h1
 split at h1
 ·cases h1
 ·rename_i hn
  have e : l.getD (0 + (i + 1) - 1) 0 = x := by
   rw [show 0 + (i + 1) - 1 = i from by omega, lD, hx]; rfl
  rw [e] at hn
  omega
theorem XT {l : List Int} (h : OI l = true) (h0 : ∀ x, x ∈ l → 0 ≤ x) : ∀ (i : Nat) (x : Int), l[i]? = some x → (i : Int) ≤ x
 | 0, x, hx => h0 x (lM hx)
 | i + 1, x, hx => by
  have hi := (lI.1 hx).1
  have hy : l[i]? = some l[i] := by simp
  have h1 := XT h h0 i _ hy
  have h2 := MF h hy hx
  omega
theorem R7 {p : Aa} {l : List Int} (h : l.all (Wo p) = true) : ∀ x, x ∈ l → 0 ≤ x ∧ x < (p.fb.length : Int) := fun x hx => of_decide_eq_true (zH.1 h x hx)
theorem Za {p : Aa} {l : List Int} (h : OI l = true) (h0 : l.all (Wo p) = true) : l.length ≤ p.fb.length := by
 by_cases hl : l.length = 0
 ·omega
 ·have hx : l[l.length - 1]? = some l[l.length - 1] := by simp [show l.length - 1 < l.length from by omega]
  have h1 := XT h (fun x hx => (R7 h0 x hx).1) _ _ hx
  have h2 := (R7 h0 _ (lM hx)).2
  omega
theorem Xu {l : List Int} {x : Int} (h : 0 ≤ Ln l x) : Ln l x < (l.length : Int) ∧ l.getD (Ln l x).toNat 0 = x := by
 unfold Ln at h ⊢
 cases hs : CY (fun i y => if (y == x) = true then some ((i : Nat) : Int) else none) 0 l with
 | none => rw [hs] at h; simp at h
 | some r =>
  obtain ⟨j, y, hj, hq⟩ := Em hs
  split at hq
  ·rename_i he
   cases hq
   have hjl := (lI.1 hj).1
   refine ⟨by simp only [yF]; omega, ?_⟩
   simp only [yF, zC, zQ]
   rw [lD, hj]
   simpa using he
  ·cases hq
theorem SJ {l xs : List Int} {k : Nat} (h : k < l.length) : (l.map (Q2 xs)).getD k 0 = xs.getD (l.getD k 0).toNat 0 := by
 rw [lD, zF, lD (l := l)]
 have : l[k]? = some l[k] := by simp [h]
 rw [this]; rfl
theorem W8 {p : Aa} {l : List Int} {t t' : Am} (ht : Ez p t = 0) (hl : t' ∈ OU l t) : Ez (IK p l) t' = 0 := by
 unfold OU at hl
 split at hl
 ·rename_i hp
  obtain ⟨h1, h2⟩ := Xu hp.1
  obtain ⟨h3, h4⟩ := Xu hp.2
  have : t' = ⟨t.ff, Ln l t.fg, Ln l t.fj, t.fr, t.fq, t.fk⟩ := by simpa using hl
  subst this
  have e1 : (IK p l).fb.getD (Ln l t.fg).toNat 0 = p.fb.getD t.fg.toNat 0 := by
   show (l.map (Q2 p.fb)).getD _ 0 = _
   rw [SJ (by omega), h2]
  have e2 : (IK p l).fb.getD (Ln l t.fj).toNat 0 = p.fb.getD t.fj.toNat 0 := by
   show (l.map (Q2 p.fb)).getD _ 0 = _
   rw [SJ (by omega), h4]
  have e3 : (IK p l).fb.length = l.length := by show (l.map _).length = _; rw [zO]
  have hok := MC ht
  unfold Ez at ht ⊢
  simp only [e1, e2, e3]
  split at ht
  ·cases ht
  ·rename_i g1
   rw [if_neg g1]
   split at ht
   ·cases ht
   ·rw [if_neg (by omega)]
    exact ht
 ·cases hl
theorem Pu {p : Aa} (hv : B5 p = 0) {l : List Int} (ha : OI l = true) (hi : l.all (Wo p) = true) : B5 (IK p l) = 0 := by
 obtain ⟨hp, hx⟩ := Du hv
 have hn := Za ha hi
 have h6 := hp.nv
 have h12 := hp.nt
 have ht : (IK p l).fc.length ≤ 12 := by
  have : (C1 (fun _ t => OU l t) 0 p.fc).length ≤ 1 * p.fc.length := GO fun j t _ => by unfold OU; split <;> simp
  show (C1 (fun _ t => OU l t) 0 p.fc).length ≤ 12
  omega
 have e3 : ∀ xs : List Int, (l.map (Q2 xs)).length = l.length := fun xs => zO _
 unfold B5
 rw [if_neg (by show ¬ (6 < (l.map (Q2 p.fb)).length ∨ 12 < (IK p l).fc.length); rw [e3]; omega),
  if_neg (by show ¬ ((l.map (Q2 p.fi)).length ≠ (l.map (Q2 p.fb)).length ∨ (l.map (Q2 p.fm)).length ≠ (l.map (Q2 p.fb)).length); rw [e3, e3, e3]; simp)]
 have s1 : CY (GV (IK p l)) 0 (IK p l).fb = none := by
  refine VE fun j v hj => ?_
  have hj' : (l.map (Q2 p.fb))[j]? = some v := hj
  rw [zF] at hj'
  cases hs : l[j]? with
  | none => rw [hs] at hj'; cases hj'
  | some s =>
   rw [hs] at hj'; cases hj'
   have hjl := (lI.1 hs).1
   have hin := R7 hi s (lM hs)
   obtain ⟨b1, b2, b3, b4⟩ := hx s.toNat (by omega)
   have b5 := La hp.ver hin.1 hin.2
   have e : l.getD j 0 = s := by rw [lD, hs]; rfl
   have q1 : (IK p l).fi.getD (0 + j) 0 = p.fi.getD s.toNat 0 := by
    show (l.map (Q2 p.fi)).getD _ 0 = _; rw [zC, SJ hjl, e]
   have q2 : (IK p l).fm.getD (0 + j) 0 = p.fm.getD s.toNat 0 := by
    show (l.map (Q2 p.fm)).getD _ 0 = _; rw [zC, SJ hjl, e]
   unfold GV
   rw [q1, q2, if_neg]
   show ¬ (p.fb.getD s.toNat 0 < 1 ∨ 6 < p.fb.getD s.toNat 0 ∨ _ ∨ p.fb.getD s.toNat 0 ≤ _ ∨ _ ∨ p.fb.getD s.toNat 0 ≤ _)
   omega
 have s2 : CY (M2 (IK p l)) 0 (IK p l).fc = none := by
  refine VE fun j t hj => ?_
  have hm : t ∈ C1 (fun _ t => OU l t) 0 p.fc := lM hj
  obtain ⟨k, t0, hk, hm⟩ := HK.1 hm
  unfold M2
  rw [if_pos (W8 (hp.tab t0 (lM hk)) hm)]
 rw [s1, s2]; rfl
def al (p : Aa) (l : List Int) : Bool := match HO 2000 (IK p l) with
 | some r => !(r.2 == 0)
 | none => false
def aB (p : Aa) (l : List Int) : Bool × Int := if (JM p l).2 = 0 then (al p l, 0) else (false, (JM p l).2)
theorem Sq {p : Aa} {l : List Int} (h : (JM p l).2 = 0) : OI l = true ∧ l.all (Wo p) = true ∧ JM p l = (IK p l, 0) := by
 unfold JM at h ⊢
 split at h
 ·rename_i h1
  split at h
  ·rename_i h2
   exact ⟨h1, h2, by rw [if_pos h1, if_pos h2]⟩
  ·cases h
 ·cases h
theorem Y1 (p : Aa) (l : List Int) (h : (JM p l).2 ≠ 0) : ((JM p l).2 == 0) = false ∧ ((JM p l).2 != 0) = true := by
 refine ⟨beq_eq_false_iff_ne.2 h, ?_⟩
 unfold bne; rw [beq_eq_false_iff_ne.2 h]; rfl
theorem V9 {N : Nat} (hN : N ≤ 1000000) (h1 : 1000 ≤ N) {p : Aa} (hv : B5 p = 0) {l : List Int} (hl : l.length ≤ 90) (hL : (JM p l).2 = 0 → Nt (IK p l)) : FV N p l = some (aB p l) ∧ E8 N p l = some (aB p l) := by
 unfold FV E8 aB
 rw [Kc N p hN (by omega), Of hN (by omega) hv l hl, LY hN (by omega) hv l hl]
 simp only [oS, hv, bne_self_eq_false, Ao]
 by_cases h : (JM p l).2 = 0
 ·obtain ⟨g1, g2, g3⟩ := Sq h
  have hvr := Pu hv g1 g2
  obtain ⟨r, e, hs⟩ := RN hN h1 hvr (hL h)
  obtain ⟨r', e', hs'⟩ := Ug hN h1 hvr (hL h)
  obtain ⟨r2, e2, hs2⟩ := RN (N := 2000) (by omega) (by omega) hvr (hL h)
  rw [if_pos h, g3]
  simp only [bne_self_eq_false, Ao]
  rw [e, e']
  simp only [oS]
  obtain ⟨q1, q2, _⟩ := Qj hs
  obtain ⟨q1', q2', _⟩ := Qj hs'
  obtain ⟨q1'', _, _⟩ := Qj hs2
  have eb : ∀ a : Int, (a == 0) = (r2.2 == 0) ↔ ((a == 0) = true ↔ (r2.2 == 0) = true) := fun a => by cases a == 0 <;> cases r2.2 == 0 <;> simp
  have w : (r.2 == 0) = (r2.2 == 0) := (eb _).2 (q1.trans q1''.symm)
  have w' : (r'.2 == 0) = (r2.2 == 0) := (eb _).2 (q1'.trans q1''.symm)
  have hb : al p l = !(r2.2 == 0) := by unfold al; rw [e2]
  rw [q2, q2', Ao, Ao, hb, w]
  unfold bne
  rw [w']
  cases r2.2 == 0 <;> exact ⟨rfl, rfl⟩
 ·rw [if_neg h, (Y1 p l h).2]
  exact ⟨rfl, rfl⟩
def zFS : Nat → List (List Int)
 | 0 => [[]]
 | 1 => [[], [0]]
 | 2 => [[], [0], [1], [0, 1]]
 | _ => [[], [0], [1], [2], [0, 1], [0, 2], [1, 2], [0, 1, 2]]
structure XZ (p : Aa) : Prop where
 v : B5 p = 0
 n : p.fb.length ≤ 3
 l : ∀ s, s ∈ zFS p.fb.length → Nt (IK p s)
theorem Zo {l : List Int} {n : Nat} (hn : n ≤ 3) (h : OI l = true) (h0 : ∀ x, x ∈ l → 0 ≤ x ∧ x < (n : Int)) : l ∈ zFS n := by
 match l, h, h0 with
 | [], _, _ => match n with | 0 => simp [zFS] | 1 => simp [zFS] | 2 => simp [zFS] | n + 3 => simp [zFS]
 | [a], h, h0 =>
  have ha := h0 a (by simp)
  match n, hn with
  | 0, _ => omega
  | 1, _ =>
   obtain rfl : a = 0 := by omega
   simp [zFS]
  | 2, _ => rcases (by omega : a = 0 ∨ a = 1) with rfl | rfl <;> simp [zFS]
  | 3, _ => rcases (by omega : a = 0 ∨ a = 1 ∨ a = 2) with rfl | rfl | rfl <;> simp [zFS]
  | n + 4, hn => omega
 | [a, b], h, h0 =>
  have ha := h0 a (by simp)
  have hb := h0 b (by simp)
  have hab := MF h (i := 0) (x := a) (y := b) rfl rfl
  match n, hn with
  | 0, _ => omega
  | 1, _ => omega
  | 2, _ =>
   obtain ⟨rfl, rfl⟩ : a = 0 ∧ b = 1 := by omega
   simp [zFS]
  | 3, _ => rcases (by omega : (a = 0 ∧ b = 1) ∨ (a = 0 ∧ b = 2) ∨ (a = 1 ∧ b = 2)) with ⟨rfl, rfl⟩ | ⟨rfl, rfl⟩ | ⟨rfl, rfl⟩ <;> simp [zFS]
  | n + 4, hn => omega
 | a :: b :: c :: r, h, h0 =>
  have ha := h0 a (by simp)
  have hc := h0 c (by simp)
  have hab := MF h (i := 0) (x := a) (y := b) rfl rfl
  have hbc := MF h (i := 1) (x := b) (y := c) rfl rfl
  match n, hn with
  | 0, _ => omega
  | 1, _ => omega
  | 2, _ => omega
  | 3, _ =>
   obtain ⟨rfl, rfl, rfl⟩ : a = 0 ∧ b = 1 ∧ c = 2 := by omega
   cases r with
   | nil => simp [zFS]
   | cons d r =>
    have hd := h0 d (by simp)
    have hcd := MF h (i := 2) (x := 2) (y := d) rfl rfl
    omega
  | n + 4, hn => omega
theorem ay {p : Aa} (hn : p.fb.length ≤ 3) {s : List Int} (hs : s ∈ zFS p.fb.length) : (JM p s).2 = 0 ∧ s.length ≤ 3 := by
 have key : ∀ n : Nat, n ≤ 3 → ∀ s, s ∈ zFS n → OI s = true ∧ s.length ≤ 3 ∧ ∀ x, x ∈ s → 0 ≤ x ∧ x < (n : Int) := by
  intro n hn
  match n, hn with
  | 0, _ => decide
  | 1, _ => decide
  | 2, _ => decide
  | 3, _ => decide
  | n + 4, hn => omega
 obtain ⟨h1, h2, h3⟩ := key _ hn s hs
 refine ⟨?_, h2⟩
 unfold JM
 rw [if_pos h1, if_pos (show s.all (Wo p) = true from zH.2 fun x hx => decide_eq_true (h3 x hx))]
theorem V4 {p : Aa} (h : XZ p) {l : List Int} (hl : (JM p l).2 = 0) : Nt (IK p l) := by
 obtain ⟨h1, h2, _⟩ := Sq hl
 exact h.l l (Zo h.n h1 (R7 h2))
theorem Q4 {p : Aa} (hp : Bl p) {m : Ad} (hm : B6 p m) (hr : BG p m = true) {n : Nat} {l : List Kf} (hs : Jh p m 120 n = some l) : ∃ l', Jh p m 120 1000 = some l' := by
 obtain ⟨ws, hg⟩ := UO hp hm hr hs
 have hl : l.length ≤ 120 := Bfs.go_len _ _ _ _ (by simp) hs
 refine TX (S := L6 l) (by unfold L6; rw [zO]; omega) ?_ 1000 0 [(m, -1, N5)] (by simp [L6]) (fun y hy => ?_) (zL _) (by omega)
 ·intro y hy w hw
  obtain ⟨⟨y0, f, s⟩, hmem, rfl⟩ := zW.1 hy
  obtain ⟨k, hk⟩ := zS.1 hmem
  have hkl := Bfs.lt_get hk
  obtain ⟨wy, hwy⟩ := Bfs.get_ex (l := ws) (k := k) (by rw [hg.inv.len]; exact hkl)
  obtain ⟨k', f', s', w', e1, _, _⟩ := hg.inv.closed k y0 f s wy hk hwy w (.inl ⟨hkl, hw⟩)
  exact zW.2 ⟨_, lM e1, rfl⟩
 ·simp only [L6, yG, uP, yQ] at hy
  subst hy
  obtain ⟨s0, hs0⟩ := hg.inv.root
  exact zW.2 ⟨_, lM hs0, rfl⟩
theorem TB {N : Nat} (hN : N ≤ 1000000) (h1 : 1000 ≤ N) {p : Aa} (hv : B5 p = 0) : ∃ b, Fo N p 120 = some b ∧ (b = true → Nt p) := by
 obtain ⟨hp, _⟩ := Du hv
 have hm := Pz hv
 unfold Fo
 rw [NU N p (by omega) (by omega), if_pos hv]
 simp only [oS, Bn, hv, bne_self_eq_false, Ao]
 rw [Jt N p _ (by omega) (by omega) hp hm]
 simp only [oS]
 cases hr : BG p (Gf p)
 ·exact ⟨true, rfl, fun _ => .inl hr⟩
 ·have e := NZ (N := N) (by omega) (by omega) hv hm hr (most := 120) (by omega) (by omega) (.inl (by omega))
  have e' : Di N p (Gf p) 120 = _ := e
  rw [zY, Ao, e']
  cases hs : Jh p (Gf p) 120 N with
  | none => exact ⟨false, rfl, fun h => by cases h⟩
  | some l => exact ⟨true, rfl, fun _ => .inr (Q4 hp hm hr hs)⟩
theorem Sz : Fu 2000 = some true := by kernel_rfl
theorem YQ {n : Nat} (h : n ≤ 3) : DE 2000 (n : Int) = some (zFS n) := by
 match n, h with
 | 0, _ => show DE 2000 0 = some (zFS 0); kernel_rfl
 | 1, _ => show DE 2000 1 = some (zFS 1); kernel_rfl
 | 2, _ => show DE 2000 2 = some (zFS 2); kernel_rfl
 | 3, _ => show DE 2000 3 = some (zFS 3); kernel_rfl
 | n + 4, h => omega
theorem Re (n : Nat) : (zFS n).length ≤ 8 := by
 match n with
 | 0 => decide
 | 1 => decide
 | 2 => decide
 | n + 3 => simp [zFS]
theorem Qt {p : Aa} (hv : B5 p = 0) (hn : p.fb.length ≤ 3) : ∀ (n i : Nat), i ≤ (zFS p.fb.length).length → (zFS p.fb.length).length - i < n →
  ∃ b, C4 2000 p (zFS p.fb.length) (fun _ => some true) n (i : Int) = some b ∧ (b = true → ∀ s, s ∈ (zFS p.fb.length).drop i → Nt (IK p s))
 | 0, i, _, h => by omega
 | n + 1, i, hi, h => by
  have h8 := Re p.fb.length
  rw [C4]
  by_cases h1 : i < (zFS p.fb.length).length
  ·have hx : (zFS p.fb.length)[i]? = some (zFS p.fb.length)[i] := by simp [h1]
   have hm : (zFS p.fb.length)[i] ∈ zFS p.fb.length := xK _
   rw [AH (by omega), AX, hx, Ho hx]
   generalize (zFS p.fb.length)[i] = s at hx hm ⊢
   obtain ⟨g1, g2⟩ := ay hn hm
   obtain ⟨k1, k2, k3⟩ := Sq g1
   simp only [oS, Bn]
   rw [LY (by omega) (by omega) hv s (by omega), k3]
   simp only [oS, bne_self_eq_false, Ao]
   obtain ⟨b, e, hb⟩ := TB (N := 2000) (by omega) (by omega) (Pu hv k1 k2)
   rw [e]
   simp only [oS]
   cases b
   ·exact ⟨false, rfl, fun h => by cases h⟩
   ·obtain ⟨b2, e2, hb2⟩ := Qt hv hn n (i + 1) (by omega) (by omega)
    rw [zY, Ao, AI (by omega)]
    refine ⟨b2, e2, fun h t ht => ?_⟩
    rcases yJ.1 ht with rfl | ht
    ·exact hb rfl
    ·exact hb2 h t ht
  ·rw [AB (by omega)]
   exact ⟨true, rfl, fun _ s hs => by rw [yR (by omega)] at hs; cases hs⟩
theorem WH (d : BL) (wd : Gm d) : ∃ p b, Gv 2000 d = some (p, b) ∧ (b = true → XZ p) := by
 obtain ⟨p, ok, e, h⟩ := d4 2000 d (by omega) (by omega) wd
 unfold Gv
 rw [e]
 simp only [oS, Bn]
 cases ok
 ·exact ⟨p, false, rfl, fun h => by cases h⟩
 ·rw [AU]
  have hv := (h rfl).valid
  unfold Gu
  rw [LC 2000 p (by omega) (by omega)]
  simp only [oS, hv, bne_self_eq_false, Ao]
  by_cases h3 : 3 < (p.fb.length : Int)
  ·rw [AH h3]
   exact ⟨p, false, rfl, fun h => by cases h⟩
  ·rw [AB h3, YQ (by omega)]
   simp only [oS]
   obtain ⟨b, e2, hb⟩ := Qt hv (by omega) 2000 0 (zL _) (by have := Re p.fb.length; omega)
   have e2' : C4 2000 p (zFS p.fb.length) (fun _ => some true) 2000 0 = some b := e2
   rw [e2']
   exact ⟨p, b, rfl, fun h => ⟨hv, by omega, fun s hs => hb h s (by rw [zZ]; exact hs)⟩⟩
theorem OC (d : BL) (l : List Int) (wd : Gm d) (_ : OH YN l) : D6 2000 d l = some true := by
 obtain ⟨p, b, e, hb⟩ := WH d wd
 unfold D6
 rw [e, Sz]
 simp only [oS, Bn, zY, Ao]
 cases b
 ·rfl
 ·rw [zY, Ao]
  by_cases h6 : 6 < (l.length : Int)
  ·rw [decide_eq_true h6]; rfl
  ·have hL := hb rfl
   obtain ⟨e1, e2⟩ := V9 (N := 2000) (by omega) (by omega) hL.v (l := l) (by omega) (V4 hL)
   rw [decide_eq_false h6, Ao, Zg 2000 (by omega)]
   simp only [oS]
   rw [e1, e2]
   simp only [oS, beq_self_eq_true, AU]
end Go.Lift
