/- Lemmas for PlanRestSaid, which YtohibkdhajkmdaaFinP8 proves. -/
import Derived.Test.YtohibkdhajkmdaaMReg3
/- Ways to goals: From and Find, both implementations. -/
namespace Go.Lift
open Go
theorem I1 {N : Nat} (hN : N ≤ 1000000) (h20 : 100 ≤ N) {p : Ac} (hv : Cn p = 0) {most : Nat} (hmo : most ≤ 20000) (j : List AB → Option (List AB × Int)) :
  ∀ (n i : Nat) (pl : List AB) (q : List (Ag × Int)) (l' : List Ht), i ≤ pl.length → (∀ n, n ∈ pl.map DO → Bw p n.1 ∧ Bv p n.1 = true) → pl.length ≤ most → Mf p q (pl.map DO) → Kn p i [] pl → (∀ (b : Nat) nb, i ≤ b → pl[b]? = some nb → nb.fNext = []) →
   Bfs.go (GX p) most n i (pl.map DO) = some l' →
   ∃ pl', C6 N p j n (pl, JZ q, (i : Int)) = j pl' ∧ pl'.map DO = l' ∧ Kn p l'.length [] pl'
 | 0, i, pl, q, l', _, _, _, _, _, _, h => by cases h
 | n + 1, i, pl, q, l', hi, hA, hlm, hpl, hnx, hem, h => by
  obtain ⟨hp, _⟩ := CN hv
  simp only [Bfs.go] at h
  rw [C6]
  by_cases h1 : i < pl.length
  ·obtain ⟨nd, hx⟩ := Bfs.get_ex h1
   have hxl : (pl.map DO)[i]? = some (DO nd) := by rw [List.getElem?_map, hx]; rfl
   have hm := (hA _ (List.mem_of_getElem? hxl)).1
   have hm : Bw p nd.fM := hm
   rw [hxl] at h
   simp only at h
   rw [AL (by simp only; omega)]
   simp only [A1, hx, Option.bind_some]
   rw [show (Ag.mk nd.fM.fBase nd.fM.fNext nd.fM.fHeld) = nd.fM from rfl, Qr N hN h20 hv hm]
   simp only [Option.bind_some, bne_self_eq_false, Au]
   have hsl := NM hp nd.fM
   cases hin : Bfs.inner most i (GX p nd.fM) (pl.map DO) with
   | none =>
    have hin' : Bfs.inner most i (GX p (DO nd).1) (pl.map DO) = none := hin
    rw [hin'] at h; cases h
   | some l1 =>
    have hin' : Bfs.inner most i (GX p (DO nd).1) (pl.map DO) = some l1 := hin
    rw [hin'] at h
    simp only [Option.bind_some] at h
    obtain ⟨pl1, q1, e1, e2, e3, e4, e5⟩ := FP hN h20 hv hm hmo (v2 := (pl, JZ q, (i : Int))) rfl (EZ p nd.fM) 0 (fun s hs => hs) (by omega) (fun (v9 : (List AB) × (List (ByteArray × Int))) =>
     C6 N p j n (v9.1, v9.2, (IntKind.wrap .i64 ((i : Int) + 1)))) N 0 pl q l1 (Nat.zero_le _) (by omega) ⟨nd, hx, rfl⟩ hA hlm hpl (by
      rw [List.take_zero]; exact hnx) ⟨nd, hx, by rw [hem i nd (Nat.le_refl _) hx]; exact Nat.le_refl _⟩ hin
    have e1' : B8 N p (pl, JZ q, (i : Int)) (EZ p nd.fM, 0) (fun (v9 : (List AB) × (List (ByteArray × Int))) =>
     C6 N p j n (v9.1, v9.2, (IntKind.wrap .i64 ((i : Int) + 1)))) N (pl, JZ q, 0) = _ := e1
    rw [e1']
    simp only
    obtain ⟨k1, k2⟩ := IJ hin (fun q hq => OV hp hm hq) hA
    have hl1 : l1.length = pl1.length := by rw [← e2, List.length_map]
    have hil : i < pl1.length := by rw [← hl1]; exact Bfs.lt_get (k2 _ _ hxl)
    rw [AK (by have := Bfs.inner_len _ _ _ (by rw [List.length_map]; exact hlm) hin; omega)]
    refine I1 hN h20 hv hmo j n (i + 1) pl1 q1 l' (by omega) (by rw [e2]; exact k1) (by rw [← hl1]; exact Bfs.inner_len _ _ _ (by rw [List.length_map]; exact hlm) hin) (by rw [e2]; exact e3) ?_ ?_ (by rw [e2]; exact h)
    ·have hmi : ∀ nb, pl1[i]? = some nb → nb.fM = nd.fM := fun nb hb => by
      have := k2 _ _ hxl
      rw [← e2, List.getElem?_map, hb] at this
      exact congrArg (fun n : Ht => n.1) (Option.some.inj this)
     constructor
     ·intro b nb hb r hr
      obtain ⟨s, y, g1, g2⟩ := e4.to b nb hb r hr
      refine ⟨s, y, .inl ?_, g2⟩
      rcases g1 with g1 | ⟨g1, g3⟩
      ·exact ⟨by omega, g1.2⟩
      ·subst g1; exact ⟨by omega, by rw [hmi nb hb]; exact g3⟩
     ·intro b nb hb s y hs
      refine e4.of b nb hb s y ?_
      rcases hs with ⟨h2, h3⟩ | ⟨_, h3⟩
      ·by_cases hbi : b < i
       ·exact .inl ⟨hbi, h3⟩
       ·have : b = i := by omega
        subst this
        exact .inr ⟨rfl, by rw [hmi nb hb] at h3; exact h3⟩
      ·cases h3
    ·intro b nb hb hb2
     rcases e5 b nb hb2 (by omega) with h2 | h2
     ·exact hem b nb (by omega) h2
     ·exact h2
  ·have hi' : i = pl.length := by omega
   subst hi'
   rw [List.getElem?_eq_none (by rw [List.length_map]; exact Nat.le_refl _)] at h
   have h : some (pl.map DO) = some l' := h
   cases h
   rw [AH (by simp)]
   exact ⟨pl, rfl, rfl, by rw [List.length_map]; exact hnx⟩
theorem ML {N : Nat} (hN : N ≤ 1000000) (h20 : 100 ≤ N) {p : Ac} (hv : Cn p = 0) {m : Ag} (hm : Bw p m) (hr : Bv p m = true) {most : Nat} (hmo : most ≤ 20000) (h1 : 1 ≤ most) {l : List Ht} (hs : GH p m most N = some l) :
  ∃ pl, Fr N p m = some (pl, 0) ∧ pl.map DO = l ∧ Kn p l.length [] pl := by
 obtain ⟨hp, _⟩ := CN hv
 unfold Fr
 rw [Ss N hN h20 hp hm]
 simp only [Option.bind_some]
 obtain ⟨pl, e1, e2, e3⟩ := I1 hN h20 hv hmo (fun (v3 : (List AB)) => some (v3, 0)) N 0 [AB.mk m (-1) KC []] [(m, 0)] l (Nat.zero_le _) (Q7 hm hr) h1 (by
  refine ⟨fun e he => by rw [List.mem_singleton.1 he]; exact hm, ?_, ?_⟩
  ·intro x _ hq n hn
   have hn : n = (m, -1, KC) := List.mem_singleton.1 hn
   simp only [HC] at hq
   split at hq
   ·cases hq
   ·rename_i h; rw [hn]; exact fun e => h e.symm
  ·intro x r _ hq
   simp only [HC] at hq
   split at hq
   ·rename_i h
    cases hq; right; exact ⟨0, -1, KC, rfl, by rw [h]; rfl⟩
   ·cases hq) (by
  constructor
  ·intro b nb hb r hr
   have := Bfs.lt_get hb
   simp at this; subst this
   cases hb; cases hr
  ·intro b nb hb s y hs
   rcases hs with h | h
   ·omega
   ·cases h.2) (fun b nb _ hb => by
    have := Bfs.lt_get hb
    simp at this; subst this
    cases hb; rfl) hs
 refine ⟨pl, ?_, e2, e3⟩
 exact e1
theorem Ro {α : Type} (xs : List α) (x y : α) : ∀ (A B : List α), ((A ++ x :: (xs ++ y :: B)).set A.length y).set (A.length + 1 + xs.length) x = A ++ y :: (xs ++ x :: B)
 | [], B => by
  rw [List.nil_append, List.length_nil, List.set_cons_zero, show 0 + 1 + xs.length = xs.length + 1 from by omega, List.set_cons_succ, List.set_append_right _ _ (Nat.le_refl _), Nat.sub_self]
  rfl
 | a :: A, B => by
  have := Ro xs x y A B
  simp only [List.cons_append, List.length_cons]
  rw [List.set_cons_succ, show A.length + 1 + 1 + xs.length = (A.length + 1 + xs.length) + 1 from by omega, List.set_cons_succ, this]
theorem P6 (N : Nat) (j : List Af → Option (List Af)) : ∀ (n : Nat) (xs A B : List Af), xs.length < 2 * n → A.length + xs.length ≤ 100000 →
  Bf N j n (A ++ (xs ++ B), (A.length : Int), ((A.length + xs.length : Nat) : Int) - 1) = j (A ++ (xs.reverse ++ B))
 | 0, xs, A, B, h, _ => by omega
 | n + 1, xs, A, B, h, h2 => by
  rw [Bf]
  rcases xs with _ | ⟨x, xs⟩
  ·rw [AH (by simp only [List.length_nil]; omega)]; rfl
  ·rcases Bfs.list_snoc xs with rfl | ⟨xs, y, rfl⟩
   ·rw [AH (by simp only [List.length_cons, List.length_nil]; omega)]; rfl
   ·simp only [List.length_cons, List.length_append, List.length_nil] at h h2
    rw [AL (by simp only [List.length_cons, List.length_append, List.length_nil]; omega)]
    have e1 : (((A.length + (x :: (xs ++ [y])).length : Nat) : Int) - 1) = ((A.length + 1 + xs.length : Nat) : Int) := by simp only [List.length_cons, List.length_append, List.length_nil]; omega
    have e2 : A ++ (x :: (xs ++ [y]) ++ B) = A ++ x :: (xs ++ y :: B) := by simp
    simp only [e1, e2, A1, Int.toNat_natCast]
    have g1 : (A ++ x :: (xs ++ y :: B))[A.length + 1 + xs.length]? = some y := by
     rw [List.getElem?_append_right (by omega), show A.length + 1 + xs.length - A.length = xs.length + 1 from by omega, List.getElem?_cons_succ, List.getElem?_append_right (Nat.le_refl _), Nat.sub_self]; rfl
    have g2 : (A ++ x :: (xs ++ y :: B))[A.length]? = some x := by
     rw [List.getElem?_append_right (Nat.le_refl _), Nat.sub_self]; rfl
    rw [g1, g2]
    simp only [Option.bind_some]
    rw [List.getElem?_set, if_neg (by omega), g1]
    simp only [Option.bind_some]
    rw [Ro, AK (by omega), show IntKind.wrap .i64 (((A.length + 1 + xs.length : Nat) : Int) - 1) = (((A ++ [y]).length + xs.length : Nat) : Int) - 1 from by
     rw [Ct (by omega) (by omega)]; simp only [List.length_append, List.length_singleton]]
    have := P6 N j n xs (A ++ [y]) (x :: B) (by omega) (by simp only [List.length_append, List.length_singleton]; omega)
    rw [show ((A.length + 1 : Nat) : Int) = (((A ++ [y]).length : Nat) : Int) from by simp]
    rw [show A ++ y :: (xs ++ x :: B) = (A ++ [y]) ++ (xs ++ x :: B) from by simp, this]
    simp
theorem QL (N : Nat) (h20 : 100 ≤ N) (l : List Af) (h : l.length < 2 * N) (h2 : l.length ≤ 100000) : Bq N l = some l.reverse := by
 unfold Bq
 rw [Ct (by omega) (by omega)]
 have := P6 N (fun v2 => some v2) N l [] [] h (by simpa using h2)
 simp only [List.nil_append, List.append_nil, List.length_nil, Nat.zero_add] at this
 exact this
theorem Kf {p : Ac} {m : Ag} {l : List Ht} {ws : List (List Af)} (h : Uo p m l ws) (N : Nat) {pl : List AB} (hpl : pl.map DO = l) (j : List Af → Option (List Af)) : ∀ (n k : Nat) {w acc : List Af}, k < n → ws[k]? = some w → acc.length + k ≤ 20000 →
  ET N pl j n ((k : Int), acc) = j (acc ++ w.reverse)
 | 0, k, _, _, hk, _, _ => by omega
 | n + 1, k, w, acc, hk, hw, ha => by
  obtain ⟨⟨x, f, s⟩, hx⟩ := Bfs.get_ex (l := l) (k := k) (by rw [← h.inv.len]; exact Bfs.lt_get hw)
  have hx2 := hx
  rw [← hpl, List.getElem?_map] at hx2
  cases hnd : pl[k]? with
  | none => rw [hnd] at hx2; cases hx2
  | some nd =>
   rw [hnd] at hx2
   have hx2 : DO nd = (x, f, s) := Option.some.inj hx2
   have hf : nd.fFrom = f := congrArg (fun n : Ht => n.2.1) hx2
   have hs : nd.fBy = s := congrArg (fun n : Ht => n.2.2) hx2
   rw [ET]
   simp only [A1, hnd, Option.bind_some]
   rw [hf]
   rcases Nat.eq_zero_or_pos k with rfl | hk0
   ·obtain ⟨s0, hs0⟩ := h.inv.root; rw [hs0] at hx; cases hx
    rw [h.inv.root'] at hw; cases hw
    rw [AH (by decide)]; simp
   ·obtain ⟨i, y', g', t', w', e1, e2, e3, e4, e5, e6, e7⟩ := h.inv.par k _ _ _ hk0 hx
    rw [e6] at hw; cases hw
    subst e1
    rw [AL (Int.natCast_nonneg i), Ay (by simp [Du]; omega)]
    have := Kf h N hpl j n i (w := w') (acc := acc ++ [Af.mk nd.fBy.fKind nd.fBy.fIndex nd.fBy.fVersion]) (by omega) e5 (by simp; omega)
    rw [this, show (Af.mk nd.fBy.fKind nd.fBy.fIndex nd.fBy.fVersion) = s from hs]
    simp
theorem Rc {p : Ac} {l : List Ht} {k : Nat} (h : II p l = some k) : k < l.length := by
 obtain ⟨⟨x, f, s, h1, _⟩, _⟩ := N8 h
 exact Bfs.lt_get h1
theorem Ov {N : Nat} (hN : N ≤ 1000000) (h20 : 100 ≤ N) {p : Ac} (hv : Cn p = 0) {m : Ag} (hm : Bw p m) (hr : Bv p m = true) {most : Nat} (hmo : most ≤ 20000) (h1 : 1 ≤ most) {l : List Ht} (hs : GH p m most N = some l) (hl : l.length < N) {ws : List (List Af)} (h : Uo p m l ws) :
  D0 N p m = some (Ll p l ws) := by
 obtain ⟨hp, _⟩ := CN hv
 have hl2 : l.length ≤ 20000 := Nat.le_trans (Bfs.go_len _ _ _ _ (by simpa using h1) hs) hmo
 unfold D0
 rw [Id N p m hN h20 (Kg hm) (G8 hv hm), hr]
 simp only [Option.bind_some, bne_self_eq_false, Au, Bool.not_true]
 obtain ⟨pl, e1, e2, e3⟩ := ML hN h20 hv hm hr hmo h1 hs
 rw [e1]
 simp only [Option.bind_some, bne_self_eq_false, Au]
 have hpll : pl.length = l.length := by rw [← e2, List.length_map]
 unfold B4
 have := Cl (AT N pl ((fun (x : AB) => Ea N x p.fVersions p.fNow p.fTarget p.fTables)) fun _ => some (-1)) l (some (-1)) (fun i n => (if Gp p n.1 = true then some i else none).map fun (k : Nat) => (k : Int))
  (fun n i nd hnd => by
   have hi := (List.getElem?_eq_some_iff.1 hnd).1
   have hnd2 := hnd
   rw [← e2, List.getElem?_map] at hnd2
   cases hq : pl[i]? with
   | none => rw [hq] at hnd2; cases hnd2
   | some nq =>
    rw [hq] at hnd2
    have hnd2 : DO nq = nd := Option.some.inj hnd2
    rw [AT, AL (by omega), A1, hq]
    simp only [Option.bind_some]
    have hok := (h.ok _ _ _ _ (show l[i]? = some (nd.1, nd.2.1, nd.2.2) from hnd)).1
    have hM : nq.fM = nd.1 := congrArg (fun n : Ht => n.1) hnd2
    unfold Ea
    simp only
    rw [show (Ac.mk p.fVersions p.fNow p.fTarget p.fTables) = p from rfl, show (Ag.mk nq.fM.fBase nq.fM.fNext nq.fM.fHeld) = nd.1 from hM, PS N p nd.1 hN h20 (Kg hok), AK (by omega)]
    simp only [Option.bind_some]
    cases hg : Gp p nd.1 <;> rfl)
  (fun n => by rw [AT, AH (by omega)]) N 0 (Nat.zero_le _) (by omega)
 have e3 : AT N pl ((fun (x : AB) => Ea N x p.fVersions p.fNow p.fTarget p.fTables)) (fun _ => some (-1)) N 0 = _ := this
 rw [e3, List.drop_zero, Jr]
 unfold Ll
 cases hg : II p l with
 | none =>
  unfold II at hg
  rw [hg]; rfl
 | some k =>
  have hk := Rc hg
  unfold II at hg
  rw [hg]
  simp only [Option.map_some, BB, Option.bind_some]
  rw [AH (by omega)]
  obtain ⟨w, hw⟩ := Bfs.get_ex (l := ws) (k := k) (by rw [h.inv.len]; exact hk)
  have e4 := Kf h N e2 (fun (v2 : (List Af)) => (Bq N v2).bind fun v8 => some v8) N k (w := w) (acc := []) (by omega) hw (by simp; omega)
  unfold HX
  have hwl := O7 h (k + 1) k (Nat.lt_succ_self k) hw
  rw [e4, List.nil_append, QL N h20 _ (by rw [List.length_reverse]; omega) (by rw [List.length_reverse]; omega), List.reverse_reverse]
  simp only [Option.bind_some]
  rw [List.getD_eq_getElem?_getD, hw]; rfl
def Mi (p : Ac) (m : Ag) (w : List Af) : Prop := I0 p m w = true ∧ Bfs.Dig Iy 100 w ∧ ∀ u, I0 p m u = true → Bfs.code Iy 100 w ≤ Bfs.code Iy 100 u
theorem Kz {p : Ac} (hp : A7 p) : ∀ {w : List Af} {m x : Ag}, Gx p m w = some x → Bfs.Dig Iy 100 w ∧ ∀ s, s ∈ w → s ∈ Dg p
 | [], _, _, _ => ⟨fun s hs => (by cases hs), fun s hs => (by cases hs)⟩
 | s :: w, m, x, h => by
  simp only [Gx] at h
  cases hs : H9 p m s with
  | none => rw [hs] at h; cases h
  | some z =>
   rw [hs] at h
   obtain ⟨h1, h2⟩ := Kz hp h
   have h3 := (GV (IU.1 (Ls hs)).1).1
   refine ⟨fun t ht => ?_, fun t ht => ?_⟩
   ·rcases List.mem_cons.1 ht with rfl | ht
    ·exact (Mg hp h3).2
    ·exact h1 t ht
   ·rcases List.mem_cons.1 ht with rfl | ht
    ·exact h3
    ·exact h2 t ht
theorem R9 {p : Ac} (hp : A7 p) {m : Ag} {l : List Ht} {ws : List (List Af)} (h : Uo p m l ws) :
  ((Ll p l ws).2 = 0 ∧ Mi p m (Ll p l ws).1 ∧ (Ll p l ws).1.length ≤ l.length) ∨ (Ll p l ws = ([], 14) ∧ ∀ u, I0 p m u = false) := by
 unfold Ll
 cases hg : II p l with
 | none =>
  right
  refine ⟨rfl, fun u => ?_⟩
  cases hu : I0 p m u
  ·rfl
  ·obtain ⟨x, h1, h2⟩ := Hu hu
   obtain ⟨k, f, s, w, g1, g2, g3⟩ := Lx hp h h1
   rw [RU hg g1] at h2; cases h2
 | some k =>
  left
  obtain ⟨⟨x, f, s, h1, h2⟩, h3⟩ := N8 hg
  have hk := Rc hg
  obtain ⟨w, hw⟩ := Bfs.get_ex (l := ws) (k := k) (by rw [h.inv.len]; exact hk)
  have hwe : ws.getD k [] = w := by rw [List.getD_eq_getElem?_getD, hw]; rfl
  simp only [hwe]
  have hrun := RD hp h h1 hw
  refine ⟨trivial, ⟨?_, (Kz hp hrun).1, ?_⟩, ?_⟩
  ·unfold I0; rw [hrun]; exact h2
  ·intro u hu
   obtain ⟨y, g1, g2⟩ := Hu hu
   obtain ⟨k', f', s', w', e1, e2, e3⟩ := Lx hp h g1
   refine Nat.le_trans ?_ e3
   by_cases hkk : k' < k
   ·rw [h3 k' y f' s' hkk e1] at g2; cases g2
   ·rcases Nat.lt_or_eq_of_le (Nat.le_of_not_lt hkk) with h4 | h4
    ·exact Nat.le_of_lt (h.inv.inc _ _ _ _ hw e2 h4)
    ·subst h4; rw [hw] at e2; cases e2; exact Nat.le_refl _
  ·have := O7 h (k + 1) k (Nat.lt_succ_self k) hw
   omega
theorem QZ {p : Ac} (hp : A7 p) {m : Ag} {u w : List Af} (hu : Mi p m u) (hw : Mi p m w) : u = w := by
 have ha := Nat.le_antisymm (hu.2.2 w hw.1) (hw.2.2 u hu.1)
 obtain ⟨x, h1, _⟩ := Hu hu.1
 obtain ⟨y, h2, _⟩ := Hu hw.1
 have m1 := (Kz hp h1).2
 have m2 := (Kz hp h2).2
 have : ∀ (n : Nat) (u w : List Af), u.length = n → Bfs.Dig Iy 100 u → Bfs.Dig Iy 100 w → (∀ s, s ∈ u → s ∈ Dg p) → (∀ s, s ∈ w → s ∈ Dg p) → Bfs.code Iy 100 u = Bfs.code Iy 100 w → u = w := by
  intro n
  induction n with
  | zero =>
   intro u w hn hu hw _ _ he
   have := Bfs.len_le hw hu (Nat.le_of_eq he.symm)
   rw [List.length_eq_zero_iff.1 hn, List.length_eq_zero_iff.1 (by omega : w.length = 0)]
  | succ n ih =>
   intro u w hn hu hw m1 m2 he
   have l1 := Bfs.len_le hw hu (Nat.le_of_eq he.symm)
   have l2 := Bfs.len_le hu hw (Nat.le_of_eq he)
   rcases Bfs.list_snoc u with rfl | ⟨u', s, rfl⟩
   ·simp at hn
   rcases Bfs.list_snoc w with rfl | ⟨w', t, rfl⟩
   ·simp at l2
   have hs := hu s (by simp)
   have ht := hw t (by simp)
   rw [Bfs.code_snoc, Bfs.code_snoc] at he
   have hc : Bfs.code Iy 100 u' = Bfs.code Iy 100 w' := by
    rcases Nat.lt_trichotomy (Bfs.code Iy 100 u') (Bfs.code Iy 100 w') with hl | hl | hl
    ·have := Bfs.snoc_lt hl ht.1 hs.2; omega
    ·exact hl
    ·have := Bfs.snoc_lt hl hs.1 ht.2; omega
   simp only [List.length_append, List.length_singleton] at hn
   rw [ih u' w' (by omega) (fun x hx => hu x (by simp [hx])) (fun x hx => hw x (by simp [hx])) (fun x hx => m1 x (by simp [hx])) (fun x hx => m2 x (by simp [hx])) hc, Vr hp (m1 s (by simp)) (m2 t (by simp)) (by omega)]
 exact this _ u w rfl hu.2.1 hw.2.1 m1 m2 ha
end Go.Lift

/- The laws PlanFind, PlanFrom, PlanShortest. -/
namespace Go.Lift
open Go
def Po (p : Ac) (m : Ag) (r : List Af × Int) : Prop := (r.2 = 0 ∧ Mi p m r.1 ∧ r.1.length ≤ 120) ∨ (r = ([], 14) ∧ ∀ u, I0 p m u = false)
theorem NP {p : Ac} (hv : Cn p = 0) {m : Ag} (hm : Bw p m) (hr : Bv p m = true) {l : List Ht} (hs : GH p m 120 1000 = some l) :
  ∃ r, D0 1000 p m = some r ∧ DC 1000 p m = some r ∧ Po p m r := by
 obtain ⟨hp, _⟩ := CN hv
 obtain ⟨ws, h⟩ := SA hp hm hr hs
 have hl : l.length ≤ 120 := Bfs.go_len _ _ _ _ (by simp) hs
 have hs2 : GH p m 20000 1000 = some l := Bfs.go_more (by omega) _ _ _ _ _ (Nat.le_refl _) hs
 refine ⟨_, Ov (by omega) (by omega) hv hm hr (by omega) (by omega) hs (by omega) h, Qq (by omega) (by omega) hv hm hr hs2 (by omega) h, ?_⟩
 rcases R9 hp h with ⟨h1, h2, h3⟩ | h1
 ·exact .inl ⟨h1, h2, by omega⟩
 ·exact .inr h1
theorem PO {p : Ac} (hv : Cn p = 0) {m : Ag} (hm : Bw p m) (hr : Bv p m = false) : D0 1000 p m = some ([], 13) ∧ DC 1000 p m = some ([], 13) := by
 obtain ⟨hp, _⟩ := CN hv
 constructor
 ·unfold D0
  rw [Id 1000 p m (by omega) (by omega) (Kg hm) (G8 hv hm), hr]; rfl
 ·unfold DC
  rw [Hp 1000 p m (by omega) (by omega), G8 hv hm, GO 1000 p m (by omega) (by omega) hp hm, hr]; rfl
def QM (p : Ac) : Prop := Bv p (Et p) = false ∨ ∃ l, GH p (Et p) 120 1000 = some l
theorem S9 {p : Ac} (hv : Cn p = 0) : ∃ b, Ed 1000 p 120 = some b ∧ (b = true → QM p) := by
 obtain ⟨hp, _⟩ := CN hv
 have hm := MF hv
 unfold Ed
 rw [Iz 1000 p (by omega) (by omega), if_pos hv]
 simp only [Option.bind_some, Bi, hv, bne_self_eq_false, Au]
 rw [GO 1000 p _ (by omega) (by omega) hp hm]
 simp only [Option.bind_some]
 cases hr : Bv p (Et p)
 ·exact ⟨true, rfl, fun _ => .inl hr⟩
 ·have e := Lc (N := 1000) (by omega) (by omega) hv hm hr (most := 120) (by omega) (by omega) (.inl (by omega))
  have e' : Cu 1000 p (Et p) 120 = _ := e
  rw [Bool.not_true, Au, e']
  cases hs : GH p (Et p) 120 1000 with
  | none => exact ⟨false, rfl, fun h => by cases h⟩
  | some l => exact ⟨true, rfl, fun _ => .inr ⟨l, hs⟩⟩
theorem SD (d : BI) (wd : EE d) : ∃ p b, EH 1000 d = some (p, b) ∧ (b = true → Sw p ∧ QM p) := by
 obtain ⟨p, ok, e, h⟩ := XT 1000 d (by omega) (by omega) wd
 unfold EH
 rw [e]
 simp only [Option.bind_some, Bi]
 cases ok
 ·exact ⟨p, false, rfl, fun h => by cases h⟩
 ·rw [AO]
  obtain ⟨b, e2, h2⟩ := S9 (h rfl).valid
  rw [e2]
  exact ⟨p, b, rfl, fun hb => ⟨h rfl, h2 hb⟩⟩
def SX (p : Ac) (r : List Af × Int) : Prop := (Bv p (Et p) = false ∧ r = ([], 13)) ∨ (Bv p (Et p) = true ∧ Po p (Et p) r)
theorem RO {p : Ac} (hv : Cn p = 0) (hl : QM p) : ∃ r, ED 1000 p = some r ∧ Hj 1000 p = some r ∧ SX p r := by
 have hm := MF hv
 unfold ED Hj
 rw [O6 1000 p (by omega) (by omega), Iz 1000 p (by omega) (by omega), if_pos hv]
 simp only [Option.bind_some, hv, bne_self_eq_false, Au]
 cases hr : Bv p (Et p)
 ·obtain ⟨e1, e2⟩ := PO hv hm hr
  rw [e1, e2]
  exact ⟨_, rfl, rfl, .inl ⟨hr, rfl⟩⟩
 ·rcases hl with h | ⟨l, hs⟩
  ·rw [hr] at h; cases h
  ·obtain ⟨r, e1, e2, e3⟩ := NP hv hm hr hs
   rw [e1, e2]
   exact ⟨r, rfl, rfl, .inr ⟨hr, e3⟩⟩
end Go.Lift

/- The law PlanRest. -/
namespace Go.Lift
open Go
theorem Ml {α : Type} [DecidableEq α] : ∀ (L S : List α), L.Nodup → (∀ x, x ∈ L → x ∈ S) → L.length ≤ S.length
 | [], S, _, _ => Nat.zero_le _
 | x :: L, S, hn, hs => by
  obtain ⟨h1, h2⟩ := List.nodup_cons.1 hn
  have hx := hs x (by simp)
  have := Ml L (S.erase x) h2 (fun y hy => by
   have hne : y ≠ x := fun e => h1 (e ▸ hy)
   exact (List.mem_erase_of_ne hne).2 (hs y (List.mem_cons_of_mem _ hy)))
  rw [List.length_erase_of_mem hx] at this
  have := List.length_pos_of_mem hx
  simp only [List.length_cons]
  omega
def IG (l : List Ht) : List Ag := l.map fun n => n.1
theorem TB {i : Nat} {l : List Ht} {q : Af × Ag} (h : (IG l).Nodup) : (IG (Bfs.put i l q)).Nodup ∧ ∀ x, x ∈ IG (Bfs.put i l q) → x ∈ IG l ∨ x = q.2 := by
 unfold Bfs.put
 split
 ·exact ⟨h, fun x hx => .inl hx⟩
 ·rename_i hn
  unfold IG at h ⊢
  rw [List.map_append]
  refine ⟨?_, ?_⟩
  ·rw [List.nodup_append]
   refine ⟨h, by simp, ?_⟩
   intro a ha b hb
   have hb : b = q.2 := by simpa using hb
   subst hb
   intro e
   subst e
   obtain ⟨n, hn1, hn2⟩ := List.mem_map.1 ha
   exact hn (List.any_eq_true.2 ⟨n, hn1, decide_eq_true hn2⟩)
  ·intro x hx
   rcases List.mem_append.1 hx with hx | hx
   ·exact .inl hx
   ·exact .inr (by simpa using hx)
theorem LH {S : List Ag} {most i : Nat} (hS : S.length ≤ most) : ∀ (qs : List (Af × Ag)) (l : List Ht), (IG l).Nodup → (∀ x, x ∈ IG l → x ∈ S) → (∀ q, q ∈ qs → q.2 ∈ S) →
  ∃ l', Bfs.inner most i qs l = some l' ∧ (IG l').Nodup ∧ (∀ x, x ∈ IG l' → x ∈ S) ∧ l.length ≤ l'.length
 | [], l, h1, h2, _ => ⟨l, rfl, h1, h2, Nat.le_refl _⟩
 | q :: qs, l, h1, h2, h3 => by
  obtain ⟨g1, g2⟩ := TB (i := i) (q := q) h1
  have g3 : ∀ x, x ∈ IG (Bfs.put i l q) → x ∈ S := fun x hx => (g2 x hx).elim (h2 x) fun e => by rw [e]; exact h3 q (by simp)
  have := Ml _ S g1 g3
  unfold IG at this
  rw [List.length_map] at this
  simp only [Bfs.inner]
  rw [if_neg (by omega)]
  obtain ⟨l', e1, e2, e3, e4⟩ := LH hS qs (Bfs.put i l q) g1 g3 (fun q hq => h3 q (List.mem_cons_of_mem _ hq))
  refine ⟨l', e1, e2, e3, Nat.le_trans ?_ e4⟩
  unfold Bfs.put; split
  ·exact Nat.le_refl _
  ·simp
theorem Qg {p : Ac} {S : List Ag} {most : Nat} (hS : S.length ≤ most) (hc : ∀ x, x ∈ S → ∀ q, q ∈ GX p x → q.2 ∈ S) : ∀ (n i : Nat) (l : List Ht), (IG l).Nodup → (∀ x, x ∈ IG l → x ∈ S) → i ≤ l.length → most < n + i → ∃ l', Bfs.go (GX p) most n i l = some l'
 | 0, i, l, h1, h2, hi, hn => by
  have := Ml _ S h1 h2
  unfold IG at this
  rw [List.length_map] at this
  omega
 | n + 1, i, l, h1, h2, hi, hn => by
  simp only [Bfs.go]
  cases hx : l[i]? with
  | none => exact ⟨l, rfl⟩
  | some nd =>
   have hS2 : nd.1 ∈ S := h2 _ (List.mem_map.2 ⟨nd, List.mem_of_getElem? hx, rfl⟩)
   obtain ⟨l1, e1, e2, e3, e4⟩ := LH (i := i) hS (GX p nd.1) l h1 h2 (hc _ hS2)
   simp only [e1, Option.bind_some]
   have := Bfs.lt_get hx
   exact Qg hS hc n (i + 1) l1 e2 e3 (by omega) (by omega)
theorem RW {p : Ac} (hp : A7 p) {m x : Ag} {l : List Ht} (hm : Bw p m) (hr : Bv p m = true) (hs : GH p m 120 1000 = some l) {w : List Af} (hw : Gx p m w = some x) : ∃ l', GH p x 120 1000 = some l' := by
 obtain ⟨ws, h⟩ := SA hp hm hr hs
 have hl : l.length ≤ 120 := Bfs.go_len _ _ _ _ (by simp) hs
 have hin : ∀ y u, Gx p m u = some y → y ∈ IG l := fun y u hu => by
  obtain ⟨k, f, s, _, h1, _⟩ := Lx hp h hu
  exact List.mem_map.2 ⟨_, List.mem_of_getElem? h1, rfl⟩
 refine Qg (S := IG l) (by unfold IG; rw [List.length_map]; exact hl) ?_ 1000 0 [(x, -1, KC)] (by simp [IG]) (fun y hy => ?_) (Nat.zero_le _) (by omega)
 ·intro y hy q hq
  obtain ⟨n, hn1, hn2⟩ := List.mem_map.1 hy
  obtain ⟨k, hk⟩ := List.mem_iff_getElem?.1 hn1
  obtain ⟨u, hu⟩ := Bfs.get_ex (l := ws) (k := k) (by rw [h.inv.len]; exact Bfs.lt_get hk)
  have hrun := RD hp h (show l[k]? = some (n.1, n.2.1, n.2.2) from hk) hu
  rw [hn2] at hrun
  refine hin q.2 (u ++ [q.1]) ?_
  rw [G7, hrun]
  simp only [Option.bind_some, Gx]
  rw [NU hp (show (q.1, q.2) ∈ GX p y from hq)]; rfl
 ·have hy : y = x := by simpa [IG] using hy
  rw [hy]; exact hin x w hw
theorem Oi {p : Ac} (hp : A7 p) {k : Int} {b : Bool} {w : List Af} {c : Int} (j : (List Int) × (List Int) × (List Int) → Option Bool) {A : List Af} (hA : ((w.drop 0).take (((Int.tmod ((IntKind.wrap .i64 k)) ((IntKind.wrap .i64 ((w.length : Int) + 1))))).toNat - 0)) = A) (hAl : A.length ≤ 500) :
  ∀ (n i : Nat) (m x : Ag), Bw p m → i ≤ A.length → A.length - i < n → Gx p m (A.drop i) = some x → Cm 1000 k (p, b) (w, c) j n (m.fBase, m.fNext, m.fHeld, (i : Int)) = j (x.fBase, x.fNext, x.fHeld)
 | 0, i, m, x, _, _, h, _ => by omega
 | n + 1, i, m, x, hm, hi, h, hr => by
  rw [Cm]
  simp only [hA]
  by_cases h1 : i < A.length
  ·obtain ⟨s, hs⟩ := Bfs.get_ex h1
   rw [Ga hs] at hr
   simp only [Gx] at hr
   cases hst : H9 p m s with
   | none => rw [hst] at hr; cases hr
   | some y =>
    rw [hst] at hr
    have hr : Gx p y (A.drop (i + 1)) = some x := hr
    have hn := Ls hst
    obtain ⟨b', e⟩ := K6 1000 (by omega) (by omega) hp hm (IU.1 hn).1
    have hy : y = (A3 p m s).1 := (IU.1 hn).2.1
    rw [AL (by omega), A1, hs]
    simp only [Option.bind_some]
    rw [show (Ag.mk m.fBase m.fNext m.fHeld) = m from rfl, e]
    simp only [Option.bind_some]
    rw [← hy, AK (by omega)]
    exact Oi hp j hA hAl n (i + 1) y x (OV hp hm hn).1 (by omega) (by omega) hr
  ·have : i = A.length := by omega
   subst this
   rw [List.drop_eq_nil_of_le (Nat.le_refl _)] at hr
   cases hr
   rw [AH (by omega)]
theorem MI (d : BI) (k : Int) (wd : EE d) (wk : JB k) : Dm 1000 d k = some true := by
 unfold Dm
 rw [Ox]
 simp only [Option.bind_some, Bool.not_true, Au]
 obtain ⟨p, b, e, h⟩ := SD d wd
 rw [e]
 simp only [Option.bind_some]
 cases b
 ·rfl
 obtain ⟨hg, hl⟩ := h rfl
 have hv := hg.valid
 obtain ⟨hp, _⟩ := CN hv
 have hsm := MF hv
 obtain ⟨⟨w, c⟩, e1, e2, e3⟩ := RO hv hl
 rw [Bool.not_true, Au, e1]
 simp only [Option.bind_some]
 rcases e3 with ⟨_, h⟩ | ⟨hr, ⟨h0, h1, hlen⟩ | ⟨h, _⟩⟩
 ·cases h; rfl
 ·have h0 : c = 0 := h0
  subst h0
  have h1 : Mi p (Et p) w := h1
  have hlen : w.length ≤ 120 := hlen
  obtain ⟨k0, k1⟩ := GT wk
  obtain ⟨kn, rfl⟩ := Int.eq_ofNat_of_zero_le k0
  have ek : IntKind.wrap .i64 (kn : Int) = (kn : Int) := Ct (by omega) (by omega)
  have el : IntKind.wrap .i64 ((w.length : Int) + 1) = ((w.length + 1 : Nat) : Int) := AK (by omega)
  have em : Int.tmod (IntKind.wrap .i64 (kn : Int)) (IntKind.wrap .i64 ((w.length : Int) + 1)) = ((kn % (w.length + 1) : Nat) : Int) := by
   rw [ek, el]; exact (Int.ofNat_tmod _ _).symm
  have hnl : kn % (w.length + 1) ≤ w.length := Nat.le_of_lt_succ (Nat.mod_lt _ (Nat.succ_pos _))
  generalize hn : kn % (w.length + 1) = n at em hnl
  rw [bne_self_eq_false, Au, Iz 1000 p (by omega) (by omega), if_pos hv]
  simp only [Option.bind_some]
  rw [Ay (by rw [el]; omega), Ay (by rw [em]; exact ⟨by omega, by omega, by rw [Int.toNat_natCast]; exact hnl⟩)]
  have hA : ((w.drop 0).take (((Int.tmod ((IntKind.wrap .i64 (kn : Int))) ((IntKind.wrap .i64 ((w.length : Int) + 1))))).toNat - 0)) = w.take n := by rw [em]; simp
  obtain ⟨g, hrun, hgoal⟩ := Hu h1.1
  rw [← List.take_append_drop n w, G7] at hrun
  cases hx : Gx p (Et p) (w.take n) with
  | none => rw [hx] at hrun; cases hrun
  | some x =>
   rw [hx] at hrun
   have hrun : Gx p x (w.drop n) = some g := hrun
   have hxo := Rp hp _ _ _ hsm hx
   have hrl := Oi hp (b := true) (c := 0) (fun (v11 : (List Int) × (List Int) × (List Int)) =>
     (D0 1000 p ((Ag.mk v11.1 v11.2.1 v11.2.2))).bind fun v15 =>
     Br (fun (v16 : Bool) =>
      some v16)
     fun j16 =>
     AY ((v15.2 == 0))
      (AY (((v15.1.length : Int) == (IntKind.wrap .i64 ((w.length : Int) - (Int.tmod ((IntKind.wrap .i64 (kn : Int))) ((IntKind.wrap .i64 ((w.length : Int) + 1))))))))
       ((D2 ((0 : Int) ≤ (Int.tmod ((IntKind.wrap .i64 (kn : Int))) ((IntKind.wrap .i64 ((w.length : Int) + 1)))) ∧ ((Int.tmod ((IntKind.wrap .i64 (kn : Int))) ((IntKind.wrap .i64 ((w.length : Int) + 1))))).toNat ≤ w.length ∧ w.length ≤ w.length)).bind fun _ =>
       (C1 1000 v15.1 (((w.drop ((Int.tmod ((IntKind.wrap .i64 (kn : Int))) ((IntKind.wrap .i64 ((w.length : Int) + 1))))).toNat).take (w.length - ((Int.tmod ((IntKind.wrap .i64 (kn : Int))) ((IntKind.wrap .i64 ((w.length : Int) + 1))))).toNat)))).bind fun v20 =>
       j16 v20)
       (j16 false))
      (j16 false)) hA (by rw [List.length_take]; omega) 1000 0 (Et p) x hsm (Nat.zero_le _) (by rw [List.length_take]; omega) hx
   refine hrl.trans ?_
   simp only [Bi]
   rw [show (Ag.mk x.fBase x.fNext x.fHeld) = x from rfl]
   have hxr : Bv p x = true := by
    rcases Bfs.list_snoc (w.take n) with h2 | ⟨u, s, h2⟩
    ·rw [h2] at hx; cases hx; exact hr
    ·rw [h2, G7] at hx
     cases hu : Gx p (Et p) u with
     | none => rw [hu] at hx; cases hx
     | some y =>
      rw [hu] at hx
      simp only [Option.bind_some, Gx] at hx
      cases hs2 : H9 p y s with
      | none => rw [hs2] at hx; cases hx
      | some z => rw [hs2] at hx; cases hx; exact (LD.1 hs2).2.2.2.2
   obtain ⟨l, hsp⟩ := hl.resolve_left (by rw [hr]; simp)
   obtain ⟨l', hsp'⟩ := RW hp hsm hr hsp hx
   obtain ⟨⟨w2, c2⟩, f1, f2, f3⟩ := NP hv hxo hxr hsp'
   have hpb : I0 p x (w.drop n) = true := by unfold I0; rw [hrun]; exact hgoal
   have hleast : Mi p x (w.drop n) := by
    refine ⟨hpb, fun s hs => h1.2.1 s (List.mem_of_mem_drop hs), fun u hu => ?_⟩
    obtain ⟨y, hy, hyg⟩ := Hu hu
    have hpl : I0 p (Et p) (w.take n ++ u) = true := by
     unfold I0; rw [G7, hx]
     simp only [Option.bind_some]
     rw [hy]; exact hyg
    have := h1.2.2 _ hpl
    refine Bfs.tail_le (u := w.take n) (fun s hs => h1.2.1 s (List.mem_of_mem_take hs)) (fun s hs => h1.2.1 s (List.mem_of_mem_drop hs)) (Kz hp hy).1 ?_
    rw [List.take_append_drop]; exact this
   rcases f3 with ⟨g0, g1, g2⟩ | ⟨_, g1⟩
   ·have g0 : c2 = 0 := g0
    subst g0
    have g1 : Mi p x w2 := g1
    have hw2 : w2 = w.drop n := QZ hp g1 hleast
    subst hw2
    rw [f1]
    simp only [Option.bind_some, beq_self_eq_true, AO]
    rw [em, show IntKind.wrap .i64 ((w.length : Int) - (n : Int)) = (((w.drop n).length : Nat) : Int) from by rw [Ct (by omega) (by omega), List.length_drop]; omega]
    rw [beq_self_eq_true, AO, Ay ⟨by omega, by rw [Int.toNat_natCast]; exact hnl, Nat.le_refl _⟩, Int.toNat_natCast, List.take_of_length_le (by rw [List.length_drop]; exact Nat.le_refl _)]
    rw [PC 1000 _ (by omega) (by rw [List.length_drop]; omega)]; rfl
   ·rw [g1] at hpb; cases hpb
 ·cases h; rfl
end Go.Lift

