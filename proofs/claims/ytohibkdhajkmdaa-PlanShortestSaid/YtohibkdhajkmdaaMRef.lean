/- Lemmas for PlanShortestSaid, which YtohibkdhajkmdaaFinP6 proves. -/
import Derived.Test.YtohibkdhajkmdaaMReg3
/- Ways to goals: From and Find, both implementations. -/
namespace Go.Lift
open Go
theorem Je {N : Nat} (hN : N ≤ 1000000) (h20 : 100 ≤ N) {p : Ad} (hv : BQ p = 0) {most : Nat} (hmo : most ≤ 20000) (j : List AD → Option (List AD × Int)) :
  ∀ (n i : Nat) (pl : List AD) (q : List (Af × Int)) (l' : List If), i ≤ pl.length → (∀ n, n ∈ pl.map DT → BM p n.1 ∧ Bv p n.1 = true) → pl.length ≤ most → Mr p q (pl.map DT) → KB p i [] pl → (∀ (b : Nat) nb, i ≤ b → pl[b]? = some nb → nb.fNext = []) →
   Bfs.go (H4 p) most n i (pl.map DT) = some l' →
   ∃ pl', C9 N p j n (pl, Ke q, (i : Int)) = j pl' ∧ pl'.map DT = l' ∧ KB p l'.length [] pl'
 | 0, i, pl, q, l', _, _, _, _, _, _, h => by cases h
 | n + 1, i, pl, q, l', hi, hA, hlm, hpl, hnx, hem, h => by
  obtain ⟨hp, _⟩ := CK hv
  simp only [Bfs.go] at h
  rw [C9]
  by_cases h1 : i < pl.length
  ·obtain ⟨nd, hx⟩ := Bfs.get_ex h1
   have hxl : (pl.map DT)[i]? = some (DT nd) := by rw [List.getElem?_map, hx]; rfl
   have hm := (hA _ (List.mem_of_getElem? hxl)).1
   have hm : BM p nd.fM := hm
   rw [hxl] at h
   simp only at h
   rw [AL (by simp only; omega)]
   simp only [A3, hx, Option.bind_some]
   rw [show (Af.mk nd.fM.fBase nd.fM.fNext nd.fM.fHeld) = nd.fM from rfl, Q2 N hN h20 hv hm]
   simp only [Option.bind_some, bne_self_eq_false, Av]
   have hsl := N0 hp nd.fM
   cases hin : Bfs.inner most i (H4 p nd.fM) (pl.map DT) with
   | none =>
    have hin' : Bfs.inner most i (H4 p (DT nd).1) (pl.map DT) = none := hin
    rw [hin'] at h; cases h
   | some l1 =>
    have hin' : Bfs.inner most i (H4 p (DT nd).1) (pl.map DT) = some l1 := hin
    rw [hin'] at h
    simp only [Option.bind_some] at h
    obtain ⟨pl1, q1, e1, e2, e3, e4, e5⟩ := FZ hN h20 hv hm hmo (v2 := (pl, Ke q, (i : Int))) rfl (EX p nd.fM) 0 (fun s hs => hs) (by omega) (fun (v9 : (List AD) × (List (ByteArray × Int))) =>
     C9 N p j n (v9.1, v9.2, (IntKind.wrap .i64 ((i : Int) + 1)))) N 0 pl q l1 (Nat.zero_le _) (by omega) ⟨nd, hx, rfl⟩ hA hlm hpl (by
      rw [List.take_zero]; exact hnx) ⟨nd, hx, by rw [hem i nd (Nat.le_refl _) hx]; exact Nat.le_refl _⟩ hin
    have e1' : Cg N p (pl, Ke q, (i : Int)) (EX p nd.fM, 0) (fun (v9 : (List AD) × (List (ByteArray × Int))) =>
     C9 N p j n (v9.1, v9.2, (IntKind.wrap .i64 ((i : Int) + 1)))) N (pl, Ke q, 0) = _ := e1
    rw [e1']
    simp only
    obtain ⟨k1, k2⟩ := IT hin (fun q hq => QX hp hm hq) hA
    have hl1 : l1.length = pl1.length := by rw [← e2, List.length_map]
    have hil : i < pl1.length := by rw [← hl1]; exact Bfs.lt_get (k2 _ _ hxl)
    rw [AM (by have := Bfs.inner_len _ _ _ (by rw [List.length_map]; exact hlm) hin; omega)]
    refine Je hN h20 hv hmo j n (i + 1) pl1 q1 l' (by omega) (by rw [e2]; exact k1) (by rw [← hl1]; exact Bfs.inner_len _ _ _ (by rw [List.length_map]; exact hlm) hin) (by rw [e2]; exact e3) ?_ ?_ (by rw [e2]; exact h)
    ·have hmi : ∀ nb, pl1[i]? = some nb → nb.fM = nd.fM := fun nb hb => by
      have := k2 _ _ hxl
      rw [← e2, List.getElem?_map, hb] at this
      exact congrArg (fun n : If => n.1) (Option.some.inj this)
     constructor
     ·intro b nb hb r hr
      obtain ⟨s, y, g1, g2⟩ := e4.to b nb hb r hr
      refine ⟨s, y, .inl ?_, g2⟩
      rcases g1 with g1 | ⟨g1, g3⟩
      ·exact ⟨by omega, g1.2⟩
      ·subst g1; exact ⟨by omega, by rw [hmi nb hb]; exact g3⟩
     ·intro b nb hb s y hs
      refine e4.of b nb hb s y ?_
      rcases hs with ⟨h2, h3⟩ | ⟨_, h3⟩
      ·by_cases hbi : b < i
       ·exact .inl ⟨hbi, h3⟩
       ·have : b = i := by omega
        subst this
        exact .inr ⟨rfl, by rw [hmi nb hb] at h3; exact h3⟩
      ·cases h3
    ·intro b nb hb hb2
     rcases e5 b nb hb2 (by omega) with h2 | h2
     ·exact hem b nb (by omega) h2
     ·exact h2
  ·have hi' : i = pl.length := by omega
   subst hi'
   rw [List.getElem?_eq_none (by rw [List.length_map]; exact Nat.le_refl _)] at h
   have h : some (pl.map DT) = some l' := h
   cases h
   rw [AH (by simp)]
   exact ⟨pl, rfl, rfl, by rw [List.length_map]; exact hnx⟩
theorem Nk {N : Nat} (hN : N ≤ 1000000) (h20 : 100 ≤ N) {p : Ad} (hv : BQ p = 0) {m : Af} (hm : BM p m) (hr : Bv p m = true) {most : Nat} (hmo : most ≤ 20000) (h1 : 1 ≤ most) {l : List If} (hs : HX p m most N = some l) :
  ∃ pl, FE N p m = some (pl, 0) ∧ pl.map DT = l ∧ KB p l.length [] pl := by
 obtain ⟨hp, _⟩ := CK hv
 unfold FE
 rw [Tq N hN h20 hp hm]
 simp only [Option.bind_some]
 obtain ⟨pl, e1, e2, e3⟩ := Je hN h20 hv hmo (fun (v3 : (List AD)) => some (v3, 0)) N 0 [AD.mk m (-1) Mf []] [(m, 0)] l (Nat.zero_le _) (RC hm hr) h1 (by
  refine ⟨fun e he => by rw [List.mem_singleton.1 he]; exact hm, ?_, ?_⟩
  ·intro x _ hq n hn
   have hn : n = (m, -1, Mf) := List.mem_singleton.1 hn
   simp only [HJ] at hq
   split at hq
   ·cases hq
   ·rename_i h; rw [hn]; exact fun e => h e.symm
  ·intro x r _ hq
   simp only [HJ] at hq
   split at hq
   ·rename_i h
    cases hq; right; exact ⟨0, -1, Mf, rfl, by rw [h]; rfl⟩
   ·cases hq) (by
  constructor
  ·intro b nb hb r hr
   have := Bfs.lt_get hb
   simp at this; subst this
   cases hb; cases hr
  ·intro b nb hb s y hs
   rcases hs with h | h
   ·omega
   ·cases h.2) (fun b nb _ hb => by
    have := Bfs.lt_get hb
    simp at this; subst this
    cases hb; rfl) hs
 refine ⟨pl, ?_, e2, e3⟩
 exact e1
theorem Ro {α : Type} (xs : List α) (x y : α) : ∀ (A B : List α), ((A ++ x :: (xs ++ y :: B)).set A.length y).set (A.length + 1 + xs.length) x = A ++ y :: (xs ++ x :: B)
 | [], B => by
  rw [List.nil_append, List.length_nil, List.set_cons_zero, show 0 + 1 + xs.length = xs.length + 1 from by omega, List.set_cons_succ, List.set_append_right _ _ (Nat.le_refl _), Nat.sub_self]
  rfl
 | a :: A, B => by
  have := Ro xs x y A B
  simp only [List.cons_append, List.length_cons]
  rw [List.set_cons_succ, show A.length + 1 + 1 + xs.length = (A.length + 1 + xs.length) + 1 from by omega, List.set_cons_succ, this]
theorem P9 (N : Nat) (j : List Ah → Option (List Ah)) : ∀ (n : Nat) (xs A B : List Ah), xs.length < 2 * n → A.length + xs.length ≤ 100000 →
  Bh N j n (A ++ (xs ++ B), (A.length : Int), ((A.length + xs.length : Nat) : Int) - 1) = j (A ++ (xs.reverse ++ B))
 | 0, xs, A, B, h, _ => by omega
 | n + 1, xs, A, B, h, h2 => by
  rw [Bh]
  rcases xs with _ | ⟨x, xs⟩
  ·rw [AH (by simp only [List.length_nil]; omega)]; rfl
  ·rcases Bfs.list_snoc xs with rfl | ⟨xs, y, rfl⟩
   ·rw [AH (by simp only [List.length_cons, List.length_nil]; omega)]; rfl
   ·simp only [List.length_cons, List.length_append, List.length_nil] at h h2
    rw [AL (by simp only [List.length_cons, List.length_append, List.length_nil]; omega)]
    have e1 : (((A.length + (x :: (xs ++ [y])).length : Nat) : Int) - 1) = ((A.length + 1 + xs.length : Nat) : Int) := by simp only [List.length_cons, List.length_append, List.length_nil]; omega
    have e2 : A ++ (x :: (xs ++ [y]) ++ B) = A ++ x :: (xs ++ y :: B) := by simp
    simp only [e1, e2, A3, Int.toNat_natCast]
    have g1 : (A ++ x :: (xs ++ y :: B))[A.length + 1 + xs.length]? = some y := by
     rw [List.getElem?_append_right (by omega), show A.length + 1 + xs.length - A.length = xs.length + 1 from by omega, List.getElem?_cons_succ, List.getElem?_append_right (Nat.le_refl _), Nat.sub_self]; rfl
    have g2 : (A ++ x :: (xs ++ y :: B))[A.length]? = some x := by
     rw [List.getElem?_append_right (Nat.le_refl _), Nat.sub_self]; rfl
    rw [g1, g2]
    simp only [Option.bind_some]
    rw [List.getElem?_set, if_neg (by omega), g1]
    simp only [Option.bind_some]
    rw [Ro, AM (by omega), show IntKind.wrap .i64 (((A.length + 1 + xs.length : Nat) : Int) - 1) = (((A ++ [y]).length + xs.length : Nat) : Int) - 1 from by
     rw [CJ (by omega) (by omega)]; simp only [List.length_append, List.length_singleton]]
    have := P9 N j n xs (A ++ [y]) (x :: B) (by omega) (by simp only [List.length_append, List.length_singleton]; omega)
    rw [show ((A.length + 1 : Nat) : Int) = (((A ++ [y]).length : Nat) : Int) from by simp]
    rw [show A ++ y :: (xs ++ x :: B) = (A ++ [y]) ++ (xs ++ x :: B) from by simp, this]
    simp
theorem Q0 (N : Nat) (h20 : 100 ≤ N) (l : List Ah) (h : l.length < 2 * N) (h2 : l.length ≤ 100000) : Bs N l = some l.reverse := by
 unfold Bs
 rw [CJ (by omega) (by omega)]
 have := P9 N (fun v2 => some v2) N l [] [] h (by simpa using h2)
 simp only [List.nil_append, List.append_nil, List.length_nil, Nat.zero_add] at this
 exact this
theorem Kh {p : Ad} {m : Af} {l : List If} {ws : List (List Ah)} (h : UO p m l ws) (N : Nat) {pl : List AD} (hpl : pl.map DT = l) (j : List Ah → Option (List Ah)) : ∀ (n k : Nat) {w acc : List Ah}, k < n → ws[k]? = some w → acc.length + k ≤ 20000 →
  E0 N pl j n ((k : Int), acc) = j (acc ++ w.reverse)
 | 0, k, _, _, hk, _, _ => by omega
 | n + 1, k, w, acc, hk, hw, ha => by
  obtain ⟨⟨x, f, s⟩, hx⟩ := Bfs.get_ex (l := l) (k := k) (by rw [← h.inv.len]; exact Bfs.lt_get hw)
  have hx2 := hx
  rw [← hpl, List.getElem?_map] at hx2
  cases hnd : pl[k]? with
  | none => rw [hnd] at hx2; cases hx2
  | some nd =>
   rw [hnd] at hx2
   have hx2 : DT nd = (x, f, s) := Option.some.inj hx2
   have hf : nd.fFrom = f := congrArg (fun n : If => n.2.1) hx2
   have hs : nd.fBy = s := congrArg (fun n : If => n.2.2) hx2
   rw [E0]
   simp only [A3, hnd, Option.bind_some]
   rw [hf]
   rcases Nat.eq_zero_or_pos k with rfl | hk0
   ·obtain ⟨s0, hs0⟩ := h.inv.root; rw [hs0] at hx; cases hx
    rw [h.inv.root'] at hw; cases hw
    rw [AH (by decide)]; simp
   ·obtain ⟨i, y', g', t', w', e1, e2, e3, e4, e5, e6, e7⟩ := h.inv.par k _ _ _ hk0 hx
    rw [e6] at hw; cases hw
    subst e1
    rw [AL (Int.natCast_nonneg i), Az (by simp [Dz]; omega)]
    have := Kh h N hpl j n i (w := w') (acc := acc ++ [Ah.mk nd.fBy.fKind nd.fBy.fIndex nd.fBy.fVersion]) (by omega) e5 (by simp; omega)
    rw [this, show (Ah.mk nd.fBy.fKind nd.fBy.fIndex nd.fBy.fVersion) = s from hs]
    simp
theorem Rh {p : Ad} {l : List If} {k : Nat} (h : I2 p l = some k) : k < l.length := by
 obtain ⟨⟨x, f, s, h1, _⟩, _⟩ := NQ h
 exact Bfs.lt_get h1
theorem OB {N : Nat} (hN : N ≤ 1000000) (h20 : 100 ≤ N) {p : Ad} (hv : BQ p = 0) {m : Af} (hm : BM p m) (hr : Bv p m = true) {most : Nat} (hmo : most ≤ 20000) (h1 : 1 ≤ most) {l : List If} (hs : HX p m most N = some l) (hl : l.length < N) {ws : List (List Ah)} (h : UO p m l ws) :
  EP N p m = some (Lh p l ws) := by
 obtain ⟨hp, _⟩ := CK hv
 have hl2 : l.length ≤ 20000 := Nat.le_trans (Bfs.go_len _ _ _ _ (by simpa using h1) hs) hmo
 unfold EP
 rw [In N p m hN h20 (Ij hm) (Fw hv hm), hr]
 simp only [Option.bind_some, bne_self_eq_false, Av, Bool.not_true]
 obtain ⟨pl, e1, e2, e3⟩ := Nk hN h20 hv hm hr hmo h1 hs
 rw [e1]
 simp only [Option.bind_some, bne_self_eq_false, Av]
 have hpll : pl.length = l.length := by rw [← e2, List.length_map]
 unfold B5
 have := Cm (AU N pl ((fun (x : AD) => D9 N x p.fVersions p.fNow p.fTarget p.fTables)) fun _ => some (-1)) l (some (-1)) (fun i n => (if FQ p n.1 = true then some i else none).map fun (k : Nat) => (k : Int))
  (fun n i nd hnd => by
   have hi := (List.getElem?_eq_some_iff.1 hnd).1
   have hnd2 := hnd
   rw [← e2, List.getElem?_map] at hnd2
   cases hq : pl[i]? with
   | none => rw [hq] at hnd2; cases hnd2
   | some nq =>
    rw [hq] at hnd2
    have hnd2 : DT nq = nd := Option.some.inj hnd2
    rw [AU, AL (by omega), A3, hq]
    simp only [Option.bind_some]
    have hok := (h.ok _ _ _ _ (show l[i]? = some (nd.1, nd.2.1, nd.2.2) from hnd)).1
    have hM : nq.fM = nd.1 := congrArg (fun n : If => n.1) hnd2
    unfold D9
    simp only
    rw [show (Ad.mk p.fVersions p.fNow p.fTarget p.fTables) = p from rfl, show (Af.mk nq.fM.fBase nq.fM.fNext nq.fM.fHeld) = nd.1 from hM, PP N p nd.1 hN h20 (Ij hok), AM (by omega)]
    simp only [Option.bind_some]
    cases hg : FQ p nd.1 <;> rfl)
  (fun n => by rw [AU, AH (by omega)]) N 0 (Nat.zero_le _) (by omega)
 have e3 : AU N pl ((fun (x : AD) => D9 N x p.fVersions p.fNow p.fTarget p.fTables)) (fun _ => some (-1)) N 0 = _ := this
 rw [e3, List.drop_zero, IH]
 unfold Lh
 cases hg : I2 p l with
 | none =>
  unfold I2 at hg
  rw [hg]; rfl
 | some k =>
  have hk := Rh hg
  unfold I2 at hg
  rw [hg]
  simp only [Option.map_some, BC, Option.bind_some]
  rw [AH (by omega)]
  obtain ⟨w, hw⟩ := Bfs.get_ex (l := ws) (k := k) (by rw [h.inv.len]; exact hk)
  have e4 := Kh h N e2 (fun (v2 : (List Ah)) => (Bs N v2).bind fun v8 => some v8) N k (w := w) (acc := []) (by omega) hw (by simp; omega)
  unfold Ih
  have hwl := OL h (k + 1) k (Nat.lt_succ_self k) hw
  rw [e4, List.nil_append, Q0 N h20 _ (by rw [List.length_reverse]; omega) (by rw [List.length_reverse]; omega), List.reverse_reverse]
  simp only [Option.bind_some]
  rw [List.getD_eq_getElem?_getD, hw]; rfl
def UZ (p : Ad) (m : Af) (w : List Ah) : Prop := Jb p m w = true ∧ Bfs.Dig KN 100 w ∧ ∀ u, Jb p m u = true → Bfs.code KN 100 w ≤ Bfs.code KN 100 u
theorem OA {p : Ad} (hp : Bf p) : ∀ {w : List Ah} {m x : Af}, LF p m w = some x → Bfs.Dig KN 100 w ∧ ∀ s, s ∈ w → s ∈ Ea p
 | [], _, _, _ => ⟨fun s hs => (by cases hs), fun s hs => (by cases hs)⟩
 | s :: w, m, x, h => by
  simp only [LF] at h
  cases hs : Kq p m s with
  | none => rw [hs] at h; cases h
  | some z =>
   rw [hs] at h
   obtain ⟨h1, h2⟩ := OA hp h
   have h3 := (G8 (K9.1 (Oh hs)).1).1
   refine ⟨fun t ht => ?_, fun t ht => ?_⟩
   ·rcases List.mem_cons.1 ht with rfl | ht
    ·exact (MY hp h3).2
    ·exact h1 t ht
   ·rcases List.mem_cons.1 ht with rfl | ht
    ·exact h3
    ·exact h2 t ht
theorem RL {p : Ad} (hp : Bf p) {m : Af} {l : List If} {ws : List (List Ah)} (h : UO p m l ws) :
  ((Lh p l ws).2 = 0 ∧ UZ p m (Lh p l ws).1 ∧ (Lh p l ws).1.length ≤ l.length) ∨ (Lh p l ws = ([], 14) ∧ ∀ u, Jb p m u = false) := by
 unfold Lh
 cases hg : I2 p l with
 | none =>
  right
  refine ⟨rfl, fun u => ?_⟩
  cases hu : Jb p m u
  ·rfl
  ·obtain ⟨x, h1, h2⟩ := LK hu
   obtain ⟨k, f, s, w, g1, g2, g3⟩ := N9 hp h h1
   rw [RZ hg g1] at h2; cases h2
 | some k =>
  left
  obtain ⟨⟨x, f, s, h1, h2⟩, h3⟩ := NQ hg
  have hk := Rh hg
  obtain ⟨w, hw⟩ := Bfs.get_ex (l := ws) (k := k) (by rw [h.inv.len]; exact hk)
  have hwe : ws.getD k [] = w := by rw [List.getD_eq_getElem?_getD, hw]; rfl
  simp only [hwe]
  have hrun := TS hp h h1 hw
  refine ⟨trivial, ⟨?_, (OA hp hrun).1, ?_⟩, ?_⟩
  ·unfold Jb; rw [hrun]; exact h2
  ·intro u hu
   obtain ⟨y, g1, g2⟩ := LK hu
   obtain ⟨k', f', s', w', e1, e2, e3⟩ := N9 hp h g1
   refine Nat.le_trans ?_ e3
   by_cases hkk : k' < k
   ·rw [h3 k' y f' s' hkk e1] at g2; cases g2
   ·rcases Nat.lt_or_eq_of_le (Nat.le_of_not_lt hkk) with h4 | h4
    ·exact Nat.le_of_lt (h.inv.inc _ _ _ _ hw e2 h4)
    ·subst h4; rw [hw] at e2; cases e2; exact Nat.le_refl _
  ·have := OL h (k + 1) k (Nat.lt_succ_self k) hw
   omega
end Go.Lift

/- The laws PlanFind, PlanFrom, PlanShortest. -/
namespace Go.Lift
open Go
def PE (p : Ad) (m : Af) (r : List Ah × Int) : Prop := (r.2 = 0 ∧ UZ p m r.1 ∧ r.1.length ≤ 120) ∨ (r = ([], 14) ∧ ∀ u, Jb p m u = false)
theorem RV {p : Ad} (hv : BQ p = 0) {m : Af} (hm : BM p m) (hr : Bv p m = true) {l : List If} (hs : HX p m 120 1000 = some l) :
  ∃ r, EP 1000 p m = some r ∧ DH 1000 p m = some r ∧ PE p m r := by
 obtain ⟨hp, _⟩ := CK hv
 obtain ⟨ws, h⟩ := Vp hp hm hr hs
 have hl : l.length ≤ 120 := Bfs.go_len _ _ _ _ (by simp) hs
 have hs2 : HX p m 20000 1000 = some l := Bfs.go_more (by omega) _ _ _ _ _ (Nat.le_refl _) hs
 refine ⟨_, OB (by omega) (by omega) hv hm hr (by omega) (by omega) hs (by omega) h, Pq (by omega) (by omega) hv hm hr hs2 (by omega) h, ?_⟩
 rcases RL hp h with ⟨h1, h2, h3⟩ | h1
 ·exact .inl ⟨h1, h2, by omega⟩
 ·exact .inr h1
theorem Qb {p : Ad} (hv : BQ p = 0) {m : Af} (hm : BM p m) (hr : Bv p m = false) : EP 1000 p m = some ([], 13) ∧ DH 1000 p m = some ([], 13) := by
 obtain ⟨hp, _⟩ := CK hv
 constructor
 ·unfold EP
  rw [In 1000 p m (by omega) (by omega) (Ij hm) (Fw hv hm), hr]; rfl
 ·unfold DH
  rw [GD 1000 p m (by omega) (by omega), Fw hv hm, GY 1000 p m (by omega) (by omega) hp hm, hr]; rfl
def Q6 (p : Ad) : Prop := Bv p (D8 p) = false ∨ ∃ l, HX p (D8 p) 120 1000 = some l
theorem SQ {p : Ad} (hv : BQ p = 0) : ∃ b, Ed 1000 p 120 = some b ∧ (b = true → Q6 p) := by
 obtain ⟨hp, _⟩ := CK hv
 have hm := KU hv
 unfold Ed
 rw [IU 1000 p (by omega) (by omega), if_pos hv]
 simp only [Option.bind_some, Bb, hv, bne_self_eq_false, Av]
 rw [GY 1000 p _ (by omega) (by omega) hp hm]
 simp only [Option.bind_some]
 cases hr : Bv p (D8 p)
 ·exact ⟨true, rfl, fun _ => .inl hr⟩
 ·have e := K1 (N := 1000) (by omega) (by omega) hv hm hr (most := 120) (by omega) (by omega) (.inl (by omega))
  have e' : Cv 1000 p (D8 p) 120 = _ := e
  rw [Bool.not_true, Av, e']
  cases hs : HX p (D8 p) 120 1000 with
  | none => exact ⟨false, rfl, fun h => by cases h⟩
  | some l => exact ⟨true, rfl, fun _ => .inr ⟨l, hs⟩⟩
theorem Tg (d : BG) (wd : EL d) : ∃ p b, EJ 1000 d = some (p, b) ∧ (b = true → Ti p ∧ Q6 p) := by
 obtain ⟨p, ok, e, h⟩ := XN 1000 d (by omega) (by omega) wd
 unfold EJ
 rw [e]
 simp only [Option.bind_some, Bb]
 cases ok
 ·exact ⟨p, false, rfl, fun h => by cases h⟩
 ·rw [AN]
  obtain ⟨b, e2, h2⟩ := SQ (h rfl).valid
  rw [e2]
  exact ⟨p, b, rfl, fun hb => ⟨h rfl, h2 hb⟩⟩
def Tx (p : Ad) (r : List Ah × Int) : Prop := (Bv p (D8 p) = false ∧ r = ([], 13)) ∨ (Bv p (D8 p) = true ∧ PE p (D8 p) r)
theorem RX {p : Ad} (hv : BQ p = 0) (hl : Q6 p) : ∃ r, EN 1000 p = some r ∧ Hq 1000 p = some r ∧ Tx p r := by
 have hm := KU hv
 unfold EN Hq
 rw [OE 1000 p (by omega) (by omega), IU 1000 p (by omega) (by omega), if_pos hv]
 simp only [Option.bind_some, hv, bne_self_eq_false, Av]
 cases hr : Bv p (D8 p)
 ·obtain ⟨e1, e2⟩ := Qb hv hm hr
  rw [e1, e2]
  exact ⟨_, rfl, rfl, .inl ⟨hr, rfl⟩⟩
 ·rcases hl with h | ⟨l, hs⟩
  ·rw [hr] at h; cases h
  ·obtain ⟨r, e1, e2, e3⟩ := RV hv hm hr hs
   rw [e1, e2]
   exact ⟨r, rfl, rfl, .inr ⟨hr, e3⟩⟩
theorem Kz (d : BG) (l : List Ah) (wd : EL d) (_ : LE KX l) : CL 1000 d l = some true := by
 unfold CL
 rw [OF]
 simp only [Option.bind_some, Bb, Bool.not_true, Av]
 by_cases h12 : (12 : Int) < (l.length : Int)
 ·rw [decide_eq_true h12, AN]
 rw [decide_eq_false h12, Av]
 obtain ⟨p, b, e, h⟩ := Tg d wd
 rw [e]
 simp only [Option.bind_some]
 cases b
 ·rfl
 ·obtain ⟨hg, hl⟩ := h rfl
  obtain ⟨hp, _⟩ := CK hg.valid
  obtain ⟨⟨w, c⟩, e1, e2, e3⟩ := RX hg.valid hl
  rw [Bool.not_true, Av, e1, O7 (by omega) (by omega) (by omega) (by omega)]
  simp only [Option.bind_some]
  cases hc : O5 p l
  ·rfl
  ·rw [Bool.not_true, Av]
   rw [RW, Bool.and_eq_true, Bool.and_eq_true] at hc
   obtain ⟨_, hr, hpl⟩ := hc
   rcases e3 with ⟨h, _⟩ | ⟨_, ⟨h0, h1, _⟩ | ⟨_, h⟩⟩
   ·rw [hr] at h; cases h
   ·have h0 : c = 0 := h0
    subst h0
    obtain ⟨x, hx, _⟩ := LK hpl
    have := Bfs.len_le h1.2.1 (OA hp hx).1 (h1.2.2 l hpl)
    rw [beq_self_eq_true, AN, decide_eq_true (by simp only at this; omega)]
   ·rw [h l] at hpl; cases hpl
end Go.Lift

/- The law PlanRest. -/
namespace Go.Lift
open Go
end Go.Lift

/- The blocks of mixes, both implementations. -/
namespace Go.Lift
open Go
end Go.Lift

