/- Lemmas for PlanFromSaid, which YtohibkdhajkmdaaFinP7 proves. -/
import Derived.Test.YtohibkdhajkmdaaMReg3
/- Ways to goals: From and Find, both implementations. -/
namespace Go.Lift
open Go
theorem IS {N : Nat} (hN : N ≤ 1000000) (h20 : 100 ≤ N) {p : Ae} (hv : Dh p = 0) {most : Nat} (hmo : most ≤ 20000) (j : List AD → Option (List AD × Int)) :
  ∀ (n i : Nat) (pl : List AD) (q : List (Ah × Int)) (l' : List H8), i ≤ pl.length → (∀ n, n ∈ pl.map DK → BO p n.1 ∧ BW p n.1 = true) → pl.length ≤ most → L6 p q (pl.map DK) → Kb p i [] pl → (∀ (b : Nat) nb, i ≤ b → pl[b]? = some nb → nb.fNext = []) →
   Bfs.go (HU p) most n i (pl.map DK) = some l' →
   ∃ pl', C4 N p j n (pl, JV q, (i : Int)) = j pl' ∧ pl'.map DK = l' ∧ Kb p l'.length [] pl'
 | 0, i, pl, q, l', _, _, _, _, _, _, h => by cases h
 | n + 1, i, pl, q, l', hi, hA, hlm, hpl, hnx, hem, h => by
  obtain ⟨hp, _⟩ := Eg hv
  simp only [Bfs.go] at h
  rw [C4]
  by_cases h1 : i < pl.length
  ·obtain ⟨nd, hx⟩ := Bfs.get_ex h1
   have hxl : (pl.map DK)[i]? = some (DK nd) := by rw [List.getElem?_map, hx]; rfl
   have hm := (hA _ (List.mem_of_getElem? hxl)).1
   have hm : BO p nd.fM := hm
   rw [hxl] at h
   simp only at h
   rw [AL (by simp only; omega)]
   simp only [A1, hx, Option.bind_some]
   rw [show (Ah.mk nd.fM.fBase nd.fM.fNext nd.fM.fHeld) = nd.fM from rfl, Qs N hN h20 hv hm]
   simp only [Option.bind_some, bne_self_eq_false, Av]
   have hsl := N1 hp nd.fM
   cases hin : Bfs.inner most i (HU p nd.fM) (pl.map DK) with
   | none =>
    have hin' : Bfs.inner most i (HU p (DK nd).1) (pl.map DK) = none := hin
    rw [hin'] at h; cases h
   | some l1 =>
    have hin' : Bfs.inner most i (HU p (DK nd).1) (pl.map DK) = some l1 := hin
    rw [hin'] at h
    simp only [Option.bind_some] at h
    obtain ⟨pl1, q1, e1, e2, e3, e4, e5⟩ := FQ hN h20 hv hm hmo (v2 := (pl, JV q, (i : Int))) rfl (ER p nd.fM) 0 (fun s hs => hs) (by omega) (fun (v9 : (List AD) × (List (ByteArray × Int))) =>
     C4 N p j n (v9.1, v9.2, (IntKind.wrap .i64 ((i : Int) + 1)))) N 0 pl q l1 (Nat.zero_le _) (by omega) ⟨nd, hx, rfl⟩ hA hlm hpl (by
      rw [List.take_zero]; exact hnx) ⟨nd, hx, by rw [hem i nd (Nat.le_refl _) hx]; exact Nat.le_refl _⟩ hin
    have e1' : Ce N p (pl, JV q, (i : Int)) (ER p nd.fM, 0) (fun (v9 : (List AD) × (List (ByteArray × Int))) =>
     C4 N p j n (v9.1, v9.2, (IntKind.wrap .i64 ((i : Int) + 1)))) N (pl, JV q, 0) = _ := e1
    rw [e1']
    simp only
    obtain ⟨k1, k2⟩ := IH hin (fun q hq => Qa hp hm hq) hA
    have hl1 : l1.length = pl1.length := by rw [← e2, List.length_map]
    have hil : i < pl1.length := by rw [← hl1]; exact Bfs.lt_get (k2 _ _ hxl)
    rw [AM (by have := Bfs.inner_len _ _ _ (by rw [List.length_map]; exact hlm) hin; omega)]
    refine IS hN h20 hv hmo j n (i + 1) pl1 q1 l' (by omega) (by rw [e2]; exact k1) (by rw [← hl1]; exact Bfs.inner_len _ _ _ (by rw [List.length_map]; exact hlm) hin) (by rw [e2]; exact e3) ?_ ?_ (by rw [e2]; exact h)
    ·have hmi : ∀ nb, pl1[i]? = some nb → nb.fM = nd.fM := fun nb hb => by
      have := k2 _ _ hxl
      rw [← e2, List.getElem?_map, hb] at this
      exact congrArg (fun n : H8 => n.1) (Option.some.inj this)
     constructor
     ·intro b nb hb r hr
      obtain ⟨s, y, g1, g2⟩ := e4.to b nb hb r hr
      refine ⟨s, y, .inl ?_, g2⟩
      rcases g1 with g1 | ⟨g1, g3⟩
      ·exact ⟨by omega, g1.2⟩
      ·subst g1; exact ⟨by omega, by rw [hmi nb hb]; exact g3⟩
     ·intro b nb hb s y hs
      refine e4.of b nb hb s y ?_
      rcases hs with ⟨h2, h3⟩ | ⟨_, h3⟩
      ·by_cases hbi : b < i
       ·exact .inl ⟨hbi, h3⟩
       ·have : b = i := by omega
        subst this
        exact .inr ⟨rfl, by rw [hmi nb hb] at h3; exact h3⟩
      ·cases h3
    ·intro b nb hb hb2
     rcases e5 b nb hb2 (by omega) with h2 | h2
     ·exact hem b nb (by omega) h2
     ·exact h2
  ·have hi' : i = pl.length := by omega
   subst hi'
   rw [List.getElem?_eq_none (by rw [List.length_map]; exact Nat.le_refl _)] at h
   have h : some (pl.map DK) = some l' := h
   cases h
   rw [AH (by simp)]
   exact ⟨pl, rfl, rfl, by rw [List.length_map]; exact hnx⟩
theorem Mg {N : Nat} (hN : N ≤ 1000000) (h20 : 100 ≤ N) {p : Ae} (hv : Dh p = 0) {m : Ah} (hm : BO p m) (hr : BW p m = true) {most : Nat} (hmo : most ≤ 20000) (h1 : 1 ≤ most) {l : List H8} (hs : Ie p m most N = some l) :
  ∃ pl, Fp N p m = some (pl, 0) ∧ pl.map DK = l ∧ Kb p l.length [] pl := by
 obtain ⟨hp, _⟩ := Eg hv
 unfold Fp
 rw [SM N hN h20 hp hm]
 simp only [Option.bind_some]
 obtain ⟨pl, e1, e2, e3⟩ := IS hN h20 hv hmo (fun (v3 : (List AD)) => some (v3, 0)) N 0 [AD.mk m (-1) LL []] [(m, 0)] l (Nat.zero_le _) (Rk hm hr) h1 (by
  refine ⟨fun e he => by rw [List.mem_singleton.1 he]; exact hm, ?_, ?_⟩
  ·intro x _ hq n hn
   have hn : n = (m, -1, LL) := List.mem_singleton.1 hn
   simp only [HG] at hq
   split at hq
   ·cases hq
   ·rename_i h; rw [hn]; exact fun e => h e.symm
  ·intro x r _ hq
   simp only [HG] at hq
   split at hq
   ·rename_i h
    cases hq; right; exact ⟨0, -1, LL, rfl, by rw [h]; rfl⟩
   ·cases hq) (by
  constructor
  ·intro b nb hb r hr
   have := Bfs.lt_get hb
   simp at this; subst this
   cases hb; cases hr
  ·intro b nb hb s y hs
   rcases hs with h | h
   ·omega
   ·cases h.2) (fun b nb _ hb => by
    have := Bfs.lt_get hb
    simp at this; subst this
    cases hb; rfl) hs
 refine ⟨pl, ?_, e2, e3⟩
 exact e1
theorem QO {α : Type} (xs : List α) (x y : α) : ∀ (A B : List α), ((A ++ x :: (xs ++ y :: B)).set A.length y).set (A.length + 1 + xs.length) x = A ++ y :: (xs ++ x :: B)
 | [], B => by
  rw [List.nil_append, List.length_nil, List.set_cons_zero, show 0 + 1 + xs.length = xs.length + 1 from by omega, List.set_cons_succ, List.set_append_right _ _ (Nat.le_refl _), Nat.sub_self]
  rfl
 | a :: A, B => by
  have := QO xs x y A B
  simp only [List.cons_append, List.length_cons]
  rw [List.set_cons_succ, show A.length + 1 + 1 + xs.length = (A.length + 1 + xs.length) + 1 from by omega, List.set_cons_succ, this]
theorem PZ (N : Nat) (j : List Af → Option (List Af)) : ∀ (n : Nat) (xs A B : List Af), xs.length < 2 * n → A.length + xs.length ≤ 100000 →
  Bi N j n (A ++ (xs ++ B), (A.length : Int), ((A.length + xs.length : Nat) : Int) - 1) = j (A ++ (xs.reverse ++ B))
 | 0, xs, A, B, h, _ => by omega
 | n + 1, xs, A, B, h, h2 => by
  rw [Bi]
  rcases xs with _ | ⟨x, xs⟩
  ·rw [AH (by simp only [List.length_nil]; omega)]; rfl
  ·rcases Bfs.list_snoc xs with rfl | ⟨xs, y, rfl⟩
   ·rw [AH (by simp only [List.length_cons, List.length_nil]; omega)]; rfl
   ·simp only [List.length_cons, List.length_append, List.length_nil] at h h2
    rw [AL (by simp only [List.length_cons, List.length_append, List.length_nil]; omega)]
    have e1 : (((A.length + (x :: (xs ++ [y])).length : Nat) : Int) - 1) = ((A.length + 1 + xs.length : Nat) : Int) := by simp only [List.length_cons, List.length_append, List.length_nil]; omega
    have e2 : A ++ (x :: (xs ++ [y]) ++ B) = A ++ x :: (xs ++ y :: B) := by simp
    simp only [e1, e2, A1, Int.toNat_natCast]
    have g1 : (A ++ x :: (xs ++ y :: B))[A.length + 1 + xs.length]? = some y := by
     rw [List.getElem?_append_right (by omega), show A.length + 1 + xs.length - A.length = xs.length + 1 from by omega, List.getElem?_cons_succ, List.getElem?_append_right (Nat.le_refl _), Nat.sub_self]; rfl
    have g2 : (A ++ x :: (xs ++ y :: B))[A.length]? = some x := by
     rw [List.getElem?_append_right (Nat.le_refl _), Nat.sub_self]; rfl
    rw [g1, g2]
    simp only [Option.bind_some]
    rw [List.getElem?_set, if_neg (by omega), g1]
    simp only [Option.bind_some]
    rw [QO, AM (by omega), show IntKind.wrap .i64 (((A.length + 1 + xs.length : Nat) : Int) - 1) = (((A ++ [y]).length + xs.length : Nat) : Int) - 1 from by
     rw [Cr (by omega) (by omega)]; simp only [List.length_append, List.length_singleton]]
    have := PZ N j n xs (A ++ [y]) (x :: B) (by omega) (by simp only [List.length_append, List.length_singleton]; omega)
    rw [show ((A.length + 1 : Nat) : Int) = (((A ++ [y]).length : Nat) : Int) from by simp]
    rw [show A ++ y :: (xs ++ x :: B) = (A ++ [y]) ++ (xs ++ x :: B) from by simp, this]
    simp
theorem Qi (N : Nat) (h20 : 100 ≤ N) (l : List Af) (h : l.length < 2 * N) (h2 : l.length ≤ 100000) : Bu N l = some l.reverse := by
 unfold Bu
 rw [Cr (by omega) (by omega)]
 have := PZ N (fun v2 => some v2) N l [] [] h (by simpa using h2)
 simp only [List.nil_append, List.append_nil, List.length_nil, Nat.zero_add] at this
 exact this
theorem J6 {p : Ae} {m : Ah} {l : List H8} {ws : List (List Af)} (h : TR p m l ws) (N : Nat) {pl : List AD} (hpl : pl.map DK = l) (j : List Af → Option (List Af)) : ∀ (n k : Nat) {w acc : List Af}, k < n → ws[k]? = some w → acc.length + k ≤ 20000 →
  ES N pl j n ((k : Int), acc) = j (acc ++ w.reverse)
 | 0, k, _, _, hk, _, _ => by omega
 | n + 1, k, w, acc, hk, hw, ha => by
  obtain ⟨⟨x, f, s⟩, hx⟩ := Bfs.get_ex (l := l) (k := k) (by rw [← h.inv.len]; exact Bfs.lt_get hw)
  have hx2 := hx
  rw [← hpl, List.getElem?_map] at hx2
  cases hnd : pl[k]? with
  | none => rw [hnd] at hx2; cases hx2
  | some nd =>
   rw [hnd] at hx2
   have hx2 : DK nd = (x, f, s) := Option.some.inj hx2
   have hf : nd.fFrom = f := congrArg (fun n : H8 => n.2.1) hx2
   have hs : nd.fBy = s := congrArg (fun n : H8 => n.2.2) hx2
   rw [ES]
   simp only [A1, hnd, Option.bind_some]
   rw [hf]
   rcases Nat.eq_zero_or_pos k with rfl | hk0
   ·obtain ⟨s0, hs0⟩ := h.inv.root; rw [hs0] at hx; cases hx
    rw [h.inv.root'] at hw; cases hw
    rw [AH (by decide)]; simp
   ·obtain ⟨i, y', g', t', w', e1, e2, e3, e4, e5, e6, e7⟩ := h.inv.par k _ _ _ hk0 hx
    rw [e6] at hw; cases hw
    subst e1
    rw [AL (Int.natCast_nonneg i), Az (by simp [Dv]; omega)]
    have := J6 h N hpl j n i (w := w') (acc := acc ++ [Af.mk nd.fBy.fKind nd.fBy.fIndex nd.fBy.fVersion]) (by omega) e5 (by simp; omega)
    rw [this, show (Af.mk nd.fBy.fKind nd.fBy.fIndex nd.fBy.fVersion) = s from hs]
    simp
theorem Q9 {p : Ae} {l : List H8} {k : Nat} (h : IE p l = some k) : k < l.length := by
 obtain ⟨⟨x, f, s, h1, _⟩, _⟩ := NY h
 exact Bfs.lt_get h1
theorem OO {N : Nat} (hN : N ≤ 1000000) (h20 : 100 ≤ N) {p : Ae} (hv : Dh p = 0) {m : Ah} (hm : BO p m) (hr : BW p m = true) {most : Nat} (hmo : most ≤ 20000) (h1 : 1 ≤ most) {l : List H8} (hs : Ie p m most N = some l) (hl : l.length < N) {ws : List (List Af)} (h : TR p m l ws) :
  El N p m = some (KR p l ws) := by
 obtain ⟨hp, _⟩ := Eg hv
 have hl2 : l.length ≤ 20000 := Nat.le_trans (Bfs.go_len _ _ _ _ (by simpa using h1) hs) hmo
 unfold El
 rw [Ib N p m hN h20 (I4 hm) (Gs hv hm), hr]
 simp only [Option.bind_some, bne_self_eq_false, Av, Bool.not_true]
 obtain ⟨pl, e1, e2, e3⟩ := Mg hN h20 hv hm hr hmo h1 hs
 rw [e1]
 simp only [Option.bind_some, bne_self_eq_false, Av]
 have hpll : pl.length = l.length := by rw [← e2, List.length_map]
 unfold B5
 have := Cl (AV N pl ((fun (x : AD) => D4 N x p.fVersions p.fNow p.fTarget p.fTables)) fun _ => some (-1)) l (some (-1)) (fun i n => (if Gv p n.1 = true then some i else none).map fun (k : Nat) => (k : Int))
  (fun n i nd hnd => by
   have hi := (List.getElem?_eq_some_iff.1 hnd).1
   have hnd2 := hnd
   rw [← e2, List.getElem?_map] at hnd2
   cases hq : pl[i]? with
   | none => rw [hq] at hnd2; cases hnd2
   | some nq =>
    rw [hq] at hnd2
    have hnd2 : DK nq = nd := Option.some.inj hnd2
    rw [AV, AL (by omega), A1, hq]
    simp only [Option.bind_some]
    have hok := (h.ok _ _ _ _ (show l[i]? = some (nd.1, nd.2.1, nd.2.2) from hnd)).1
    have hM : nq.fM = nd.1 := congrArg (fun n : H8 => n.1) hnd2
    unfold D4
    simp only
    rw [show (Ae.mk p.fVersions p.fNow p.fTarget p.fTables) = p from rfl, show (Ah.mk nq.fM.fBase nq.fM.fNext nq.fM.fHeld) = nd.1 from hM, PD N p nd.1 hN h20 (I4 hok), AM (by omega)]
    simp only [Option.bind_some]
    cases hg : Gv p nd.1 <;> rfl)
  (fun n => by rw [AV, AH (by omega)]) N 0 (Nat.zero_le _) (by omega)
 have e3 : AV N pl ((fun (x : AD) => D4 N x p.fVersions p.fNow p.fTarget p.fTables)) (fun _ => some (-1)) N 0 = _ := this
 rw [e3, List.drop_zero, Jh]
 unfold KR
 cases hg : IE p l with
 | none =>
  unfold IE at hg
  rw [hg]; rfl
 | some k =>
  have hk := Q9 hg
  unfold IE at hg
  rw [hg]
  simp only [Option.map_some, BD, Option.bind_some]
  rw [AH (by omega)]
  obtain ⟨w, hw⟩ := Bfs.get_ex (l := ws) (k := k) (by rw [h.inv.len]; exact hk)
  have e4 := J6 h N e2 (fun (v2 : (List Af)) => (Bu N v2).bind fun v8 => some v8) N k (w := w) (acc := []) (by omega) hw (by simp; omega)
  unfold HX
  have hwl := OR h (k + 1) k (Nat.lt_succ_self k) hw
  rw [e4, List.nil_append, Qi N h20 _ (by rw [List.length_reverse]; omega) (by rw [List.length_reverse]; omega), List.reverse_reverse]
  simp only [Option.bind_some]
  rw [List.getD_eq_getElem?_getD, hw]; rfl
def UW (p : Ae) (m : Ah) (w : List Af) : Prop := LJ p m w = true ∧ Bfs.Dig Kq 100 w ∧ ∀ u, LJ p m u = true → Bfs.code Kq 100 w ≤ Bfs.code Kq 100 u
theorem Q6 {p : Ae} (hp : Bc p) : ∀ {w : List Af} {m x : Ah}, MD p m w = some x → Bfs.Dig Kq 100 w ∧ ∀ s, s ∈ w → s ∈ D5 p
 | [], _, _, _ => ⟨fun s hs => (by cases hs), fun s hs => (by cases hs)⟩
 | s :: w, m, x, h => by
  simp only [MD] at h
  cases hs : KS p m s with
  | none => rw [hs] at h; cases h
  | some z =>
   rw [hs] at h
   obtain ⟨h1, h2⟩ := Q6 hp h
   have h3 := (GV (Ky.1 (N2 hs)).1).1
   refine ⟨fun t ht => ?_, fun t ht => ?_⟩
   ·rcases List.mem_cons.1 ht with rfl | ht
    ·exact (MB hp h3).2
    ·exact h1 t ht
   ·rcases List.mem_cons.1 ht with rfl | ht
    ·exact h3
    ·exact h2 t ht
theorem RK {p : Ae} (hp : Bc p) {m : Ah} {l : List H8} {ws : List (List Af)} (h : TR p m l ws) :
  ((KR p l ws).2 = 0 ∧ UW p m (KR p l ws).1 ∧ (KR p l ws).1.length ≤ l.length) ∨ (KR p l ws = ([], 14) ∧ ∀ u, LJ p m u = false) := by
 unfold KR
 cases hg : IE p l with
 | none =>
  right
  refine ⟨rfl, fun u => ?_⟩
  cases hu : LJ p m u
  ·rfl
  ·obtain ⟨x, h1, h2⟩ := NG hu
   obtain ⟨k, f, s, w, g1, g2, g3⟩ := NC hp h h1
   rw [RP hg g1] at h2; cases h2
 | some k =>
  left
  obtain ⟨⟨x, f, s, h1, h2⟩, h3⟩ := NY hg
  have hk := Q9 hg
  obtain ⟨w, hw⟩ := Bfs.get_ex (l := ws) (k := k) (by rw [h.inv.len]; exact hk)
  have hwe : ws.getD k [] = w := by rw [List.getD_eq_getElem?_getD, hw]; rfl
  simp only [hwe]
  have hrun := Ub hp h h1 hw
  refine ⟨trivial, ⟨?_, (Q6 hp hrun).1, ?_⟩, ?_⟩
  ·unfold LJ; rw [hrun]; exact h2
  ·intro u hu
   obtain ⟨y, g1, g2⟩ := NG hu
   obtain ⟨k', f', s', w', e1, e2, e3⟩ := NC hp h g1
   refine Nat.le_trans ?_ e3
   by_cases hkk : k' < k
   ·rw [h3 k' y f' s' hkk e1] at g2; cases g2
   ·rcases Nat.lt_or_eq_of_le (Nat.le_of_not_lt hkk) with h4 | h4
    ·exact Nat.le_of_lt (h.inv.inc _ _ _ _ hw e2 h4)
    ·subst h4; rw [hw] at e2; cases e2; exact Nat.le_refl _
  ·have := OR h (k + 1) k (Nat.lt_succ_self k) hw
   omega
end Go.Lift

/- The laws PlanFind, PlanFrom, PlanShortest. -/
namespace Go.Lift
open Go
def Sj (p : Ae) (m : Ah) (r : List Af × Int) : Prop := (r.2 = 0 ∧ UW p m r.1 ∧ r.1.length ≤ 120) ∨ (r = ([], 14) ∧ ∀ u, LJ p m u = false)
theorem RJ {p : Ae} (hv : Dh p = 0) {m : Ah} (hm : BO p m) (hr : BW p m = true) {l : List H8} (hs : Ie p m 120 1000 = some l) :
  ∃ r, El 1000 p m = some r ∧ CG 1000 p m = some r ∧ Sj p m r := by
 obtain ⟨hp, _⟩ := Eg hv
 obtain ⟨ws, h⟩ := VA hp hm hr hs
 have hl : l.length ≤ 120 := Bfs.go_len _ _ _ _ (by simp) hs
 have hs2 : Ie p m 20000 1000 = some l := Bfs.go_more (by omega) _ _ _ _ _ (Nat.le_refl _) hs
 refine ⟨_, OO (by omega) (by omega) hv hm hr (by omega) (by omega) hs (by omega) h, Py (by omega) (by omega) hv hm hr hs2 (by omega) h, ?_⟩
 rcases RK hp h with ⟨h1, h2, h3⟩ | h1
 ·exact .inl ⟨h1, h2, by omega⟩
 ·exact .inr h1
theorem PL {p : Ae} (hv : Dh p = 0) {m : Ah} (hm : BO p m) (hr : BW p m = false) : El 1000 p m = some ([], 13) ∧ CG 1000 p m = some ([], 13) := by
 obtain ⟨hp, _⟩ := Eg hv
 constructor
 ·unfold El
  rw [Ib 1000 p m (by omega) (by omega) (I4 hm) (Gs hv hm), hr]; rfl
 ·unfold CG
  rw [Gt 1000 p m (by omega) (by omega), Gs hv hm, GO 1000 p m (by omega) (by omega) hp hm, hr]; rfl
theorem MG (d : B8) (x : BJ) (wd : EB d) (wx : ED x) : Dl 1000 d x = some true := by
 obtain ⟨p, ok, e, hok⟩ := Sa d x wd wx
 unfold Dl
 rw [e]
 simp only [Option.bind_some, Bf, Oy, Bool.not_true, Av]
 cases ok
 ·rfl
 simp only [Bool.not_true, Av]
 obtain ⟨hg, hp, m, e2, hof, hm, hvm, hw⟩ := hok rfl
 rw [e2]
 simp only [Option.bind_some]
 rw [Gt 1000 p m (by omega) (by omega), hvm]
 simp only [Option.bind_some, beq_self_eq_true, AP]
 rw [GO 1000 p m (by omega) (by omega) hp hm]
 simp only [Option.bind_some]
 rw [show (Ae.mk p.fVersions p.fNow p.fTarget p.fTables) = p from rfl, show (Ah.mk m.fBase m.fNext m.fHeld) = m from rfl]
 cases hr : BW p m
 ·obtain ⟨e3, e4⟩ := PL hg.valid hm hr
  rw [Av, e3, e4]
  simp only [Option.bind_some, beq_self_eq_true, AP]
  rw [LK 1000 [] (by omega) (by simp)]; rfl
 ·have e5 := K2 (N := 1000) (by omega) (by omega) hg.valid hm hr (most := 120) (by omega) (by omega) (.inl (by omega))
  have e6 : Cs 1000 p m 120 = _ := e5
  rw [AP, e6]
  cases hs : Ie p m 120 1000 with
  | none => rfl
  | some l =>
   obtain ⟨⟨w, c⟩, e3, e4, e5⟩ := RJ hg.valid hm hr hs
   rw [e3, e4]
   simp only [Option.bind_some, beq_self_eq_true, AP, Bool.not_true, Av]
   have hlen : w.length ≤ 120 := by
    rcases e5 with ⟨_, _, h⟩ | ⟨h, _⟩
    ·exact h
    ·cases h; simp
   rw [LK 1000 w (by omega) (by omega)]; rfl
end Go.Lift

/- The law PlanRest. -/
namespace Go.Lift
open Go
end Go.Lift

/- The blocks of mixes, both implementations. -/
namespace Go.Lift
open Go
end Go.Lift

