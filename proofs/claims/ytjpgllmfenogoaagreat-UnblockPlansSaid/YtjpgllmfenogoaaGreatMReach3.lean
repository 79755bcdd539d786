/- Lemmas for UnblockPlansSaid, which YtjpgllmfenogoaaGreatFinU7 proves. -/
import Derived.Test.YtjpgllmfenogoaaGreatMReg3
import Derived.KernelRfl
namespace Go.Lift
open IntKind renaming wrap → wI
open Option renaming bind_some → oS
open List renaming mem_of_getElem? → lM
open List renaming getElem?_eq_some_iff → lI
open List renaming getD_eq_getElem?_getD → lD
open Go
theorem L5 {N : Nat} (hN : N ≤ 1000000) (h20 : 100 ≤ N) {p : Ac} (hv : Bo p = 0) {most : Nat} (hmo : most ≤ 20000) (j : List AH → Option (List AH × Int)) :
  ∀ (n i : Nat) (pl : List AH) (q : List (Af × Int)) (l' : List KN), i ≤ pl.length → (∀ n, n ∈ pl.map FJ → Cl p n.1 ∧ By p n.1 = true) → pl.length ≤ most → PU p q (pl.map FJ) → NB p i [] pl → (∀ (b : Nat) nb, i ≤ b → pl[b]? = some nb → nb.fD = []) →
   Bfs.go (JP p) most n i (pl.map FJ) = some l' →
   ∃ pl', EE N p j n (pl, M8 q, (i : Int)) = j pl' ∧ pl'.map FJ = l' ∧ NB p l'.length [] pl'
 | 0, i, pl, q, l', _, _, _, _, _, _, h => by cases h
 | n + 1, i, pl, q, l', hi, hA, hlm, hpl, hnx, hem, h => by
  obtain ⟨hp, _⟩ := Dt hv
  simp only [Bfs.go] at h
  rw [EE]
  by_cases h1 : i < pl.length
  ·obtain ⟨nd, hx⟩ := Bfs.get_ex h1
   have hxl : (pl.map FJ)[i]? = some (FJ nd) := by rw [List.getElem?_map, hx]; rfl
   have hm := (hA _ (lM hxl)).1
   have hm : Cl p nd.fS := hm
   rw [hxl] at h
   simp only at h
   rw [AC (by simp only; omega)]
   simp only [AW, hx, oS]
   rw [show (Af.mk nd.fS.fG nd.fS.fD nd.fS.fH) = nd.fS from rfl, Vs N hN h20 hv hm]
   simp only [oS, bne_self_eq_false, Ao]
   have hsl := RZ hp nd.fS
   cases hin : Bfs.inner most i (JP p nd.fS) (pl.map FJ) with
   | none =>
    have hin' : Bfs.inner most i (JP p (FJ nd).1) (pl.map FJ) = none := hin
    rw [hin'] at h; cases h
   | some l1 =>
    have hin' : Bfs.inner most i (JP p (FJ nd).1) (pl.map FJ) = some l1 := hin
    rw [hin'] at h
    simp only [oS] at h
    obtain ⟨pl1, q1, e1, e2, e3, e4, e5⟩ := Is hN h20 hv hm hmo (v2 := (pl, M8 q, (i : Int))) rfl (Hb p nd.fS) 0 (fun s hs => hs) (by omega) (fun (v9 : (List AH) × (List (ByteArray × Int))) =>
     EE N p j n (v9.1, v9.2, (wI .i64 ((i : Int) + 1)))) N 0 pl q l1 (Nat.zero_le _) (by omega) ⟨nd, hx, rfl⟩ hA hlm hpl (by
      rw [List.take_zero]; exact hnx) ⟨nd, hx, by rw [hem i nd (Nat.le_refl _) hx]; exact Nat.le_refl _⟩ hin
    have e1' : C2 N p (pl, M8 q, (i : Int)) (Hb p nd.fS, 0) (fun (v9 : (List AH) × (List (ByteArray × Int))) =>
     EE N p j n (v9.1, v9.2, (wI .i64 ((i : Int) + 1)))) N (pl, M8 q, 0) = _ := e1
    rw [e1']
    simp only
    obtain ⟨k1, k2⟩ := LM hin (fun q hq => VP hp hm hq) hA
    have hl1 : l1.length = pl1.length := by rw [← e2, List.length_map]
    have hil : i < pl1.length := by rw [← hl1]; exact Bfs.lt_get (k2 _ _ hxl)
    rw [AB (by have := Bfs.inner_len _ _ _ (by rw [List.length_map]; exact hlm) hin; omega)]
    refine L5 hN h20 hv hmo j n (i + 1) pl1 q1 l' (by omega) (by rw [e2]; exact k1) (by rw [← hl1]; exact Bfs.inner_len _ _ _ (by rw [List.length_map]; exact hlm) hin) (by rw [e2]; exact e3) ?_ ?_ (by rw [e2]; exact h)
    ·have hmi : ∀ nb, pl1[i]? = some nb → nb.fS = nd.fS := fun nb hb => by
      have := k2 _ _ hxl
      rw [← e2, List.getElem?_map, hb] at this
      exact congrArg (fun n : KN => n.1) (Option.some.inj this)
     constructor
     ·intro b nb hb r hr
      obtain ⟨s, y, g1, g2⟩ := e4.to b nb hb r hr
      refine ⟨s, y, .inl ?_, g2⟩
      rcases g1 with g1 | ⟨g1, g3⟩
      ·exact ⟨by omega, g1.2⟩
      ·subst g1; exact ⟨by omega, by rw [hmi nb hb]; exact g3⟩
     ·intro b nb hb s y hs
      refine e4.of b nb hb s y ?_
      rcases hs with ⟨h2, h3⟩ | ⟨_, h3⟩
      ·by_cases hbi : b < i
       ·exact .inl ⟨hbi, h3⟩
       ·have : b = i := by omega
        subst this
        exact .inr ⟨rfl, by rw [hmi nb hb] at h3; exact h3⟩
      ·cases h3
    ·intro b nb hb hb2
     rcases e5 b nb hb2 (by omega) with h2 | h2
     ·exact hem b nb (by omega) h2
     ·exact h2
  ·have hi' : i = pl.length := by omega
   subst hi'
   rw [List.getElem?_eq_none (by rw [List.length_map]; exact Nat.le_refl _)] at h
   have h : some (pl.map FJ) = some l' := h
   cases h
   rw [Ay (by simp)]
   exact ⟨pl, rfl, rfl, by rw [List.length_map]; exact hnx⟩
theorem Qm {N : Nat} (hN : N ≤ 1000000) (h20 : 100 ≤ N) {p : Ac} (hv : Bo p = 0) {m : Af} (hm : Cl p m) (hr : By p m = true) {most : Nat} (hmo : most ≤ 20000) (h1 : 1 ≤ most) {l : List KN} (hs : KM p m most N = some l) :
  ∃ pl, HU N p m = some (pl, 0) ∧ pl.map FJ = l ∧ NB p l.length [] pl := by
 obtain ⟨hp, _⟩ := Dt hv
 unfold HU
 rw [XC N hN h20 hp hm]
 simp only [oS]
 obtain ⟨pl, e1, e2, e3⟩ := L5 hN h20 hv hmo (fun (v3 : (List AH)) => some (v3, 0)) N 0 [AH.mk m (-1) Nl []] [(m, 0)] l (Nat.zero_le _) (WC hm hr) h1 (by
  refine ⟨fun e he => by rw [List.mem_singleton.1 he]; exact hm, ?_, ?_⟩
  ·intro x _ hq n hn
   have hn : n = (m, -1, Nl) := List.mem_singleton.1 hn
   simp only [Kv] at hq
   split at hq
   ·cases hq
   ·rename_i h; rw [hn]; exact fun e => h e.symm
  ·intro x r _ hq
   simp only [Kv] at hq
   split at hq
   ·rename_i h
    cases hq; right; exact ⟨0, -1, Nl, rfl, by rw [h]; rfl⟩
   ·cases hq) (by
  constructor
  ·intro b nb hb r hr
   have := Bfs.lt_get hb
   simp at this; subst this
   cases hb; cases hr
  ·intro b nb hb s y hs
   rcases hs with h | h
   ·omega
   ·cases h.2) (fun b nb _ hb => by
    have := Bfs.lt_get hb
    simp at this; subst this
    cases hb; rfl) hs
 refine ⟨pl, ?_, e2, e3⟩
 exact e1
theorem V4 {α : Type} (xs : List α) (x y : α) : ∀ (A B : List α), ((A ++ x :: (xs ++ y :: B)).set A.length y).set (A.length + 1 + xs.length) x = A ++ y :: (xs ++ x :: B)
 | [], B => by
  rw [List.nil_append, List.length_nil, List.set_cons_zero, show 0 + 1 + xs.length = xs.length + 1 from by omega, List.set_cons_succ, List.set_append_right _ _ (Nat.le_refl _), Nat.sub_self]
  rfl
 | a :: A, B => by
  have := V4 xs x y A B
  simp only [List.cons_append, List.length_cons]
  rw [List.set_cons_succ, show A.length + 1 + 1 + xs.length = (A.length + 1 + xs.length) + 1 from by omega, List.set_cons_succ, this]
theorem T0 (N : Nat) (j : List Ag → Option (List Ag)) : ∀ (n : Nat) (xs A B : List Ag), xs.length < 2 * n → A.length + xs.length ≤ 100000 →
  BB N j n (A ++ (xs ++ B), (A.length : Int), ((A.length + xs.length : Nat) : Int) - 1) = j (A ++ (xs.reverse ++ B))
 | 0, xs, A, B, h, _ => by omega
 | n + 1, xs, A, B, h, h2 => by
  rw [BB]
  rcases xs with _ | ⟨x, xs⟩
  ·rw [Ay (by simp only [List.length_nil]; omega)]; rfl
  ·rcases Bfs.list_snoc xs with rfl | ⟨xs, y, rfl⟩
   ·rw [Ay (by simp only [List.length_cons, List.length_nil]; omega)]; rfl
   ·simp only [List.length_cons, List.length_append, List.length_nil] at h h2
    rw [AC (by simp only [List.length_cons, List.length_append, List.length_nil]; omega)]
    have e1 : (((A.length + (x :: (xs ++ [y])).length : Nat) : Int) - 1) = ((A.length + 1 + xs.length : Nat) : Int) := by simp only [List.length_cons, List.length_append, List.length_nil]; omega
    have e2 : A ++ (x :: (xs ++ [y]) ++ B) = A ++ x :: (xs ++ y :: B) := by simp
    simp only [e1, e2, AW, Int.toNat_natCast]
    have g1 : (A ++ x :: (xs ++ y :: B))[A.length + 1 + xs.length]? = some y := by
     rw [List.getElem?_append_right (by omega), show A.length + 1 + xs.length - A.length = xs.length + 1 from by omega, List.getElem?_cons_succ, List.getElem?_append_right (Nat.le_refl _), Nat.sub_self]; rfl
    have g2 : (A ++ x :: (xs ++ y :: B))[A.length]? = some x := by
     rw [List.getElem?_append_right (Nat.le_refl _), Nat.sub_self]; rfl
    rw [g1, g2]
    simp only [oS]
    rw [List.getElem?_set, if_neg (by omega), g1]
    simp only [oS]
    rw [V4, AB (by omega), show wI .i64 (((A.length + 1 + xs.length : Nat) : Int) - 1) = (((A ++ [y]).length + xs.length : Nat) : Int) - 1 from by
     rw [Dy (by omega) (by omega)]; simp only [List.length_append, List.length_singleton]]
    have := T0 N j n xs (A ++ [y]) (x :: B) (by omega) (by simp only [List.length_append, List.length_singleton]; omega)
    rw [show ((A.length + 1 : Nat) : Int) = (((A ++ [y]).length : Nat) : Int) from by simp]
    rw [show A ++ y :: (xs ++ x :: B) = (A ++ [y]) ++ (xs ++ x :: B) from by simp, this]
    simp
theorem VS (N : Nat) (h20 : 100 ≤ N) (l : List Ag) (h : l.length < 2 * N) (h2 : l.length ≤ 100000) : BP N l = some l.reverse := by
 unfold BP
 rw [Dy (by omega) (by omega)]
 have := T0 N (fun v2 => some v2) N l [] [] h (by simpa using h2)
 simp only [List.nil_append, List.append_nil, List.length_nil, Nat.zero_add] at this
 exact this
theorem Nn {p : Ac} {m : Af} {l : List KN} {ws : List (List Ag)} (h : bz p m l ws) (N : Nat) {pl : List AH} (hpl : pl.map FJ = l) (j : List Ag → Option (List Ag)) : ∀ (n k : Nat) {w acc : List Ag}, k < n → ws[k]? = some w → acc.length + k ≤ 20000 →
  Hk N pl j n ((k : Int), acc) = j (acc ++ w.reverse)
 | 0, k, _, _, hk, _, _ => by omega
 | n + 1, k, w, acc, hk, hw, ha => by
  obtain ⟨⟨x, f, s⟩, hx⟩ := Bfs.get_ex (l := l) (k := k) (by rw [← h.inv.len]; exact Bfs.lt_get hw)
  have hx2 := hx
  rw [← hpl, List.getElem?_map] at hx2
  cases hnd : pl[k]? with
  | none => rw [hnd] at hx2; cases hx2
  | some nd =>
   rw [hnd] at hx2
   have hx2 : FJ nd = (x, f, s) := Option.some.inj hx2
   have hf : nd.fJ = f := congrArg (fun n : KN => n.2.1) hx2
   have hs : nd.fU = s := congrArg (fun n : KN => n.2.2) hx2
   rw [Hk]
   simp only [AW, hnd, oS]
   rw [hf]
   rcases Nat.eq_zero_or_pos k with rfl | hk0
   ·obtain ⟨s0, hs0⟩ := h.inv.root; rw [hs0] at hx; cases hx
    rw [h.inv.root'] at hw; cases hw
    rw [Ay (by decide)]; simp
   ·obtain ⟨i, y', g', t', w', e1, e2, e3, e4, e5, e6, e7⟩ := h.inv.par k _ _ _ hk0 hx
    rw [e6] at hw; cases hw
    subst e1
    rw [AC (Int.natCast_nonneg i), Ap (by simp [DU]; omega)]
    have := Nn h N hpl j n i (w := w') (acc := acc ++ [Ag.mk nd.fU.fI nd.fU.fL nd.fU.fT]) (by omega) e5 (by simp; omega)
    rw [this, show (Ag.mk nd.fU.fI nd.fU.fL nd.fU.fT) = s from hs]
    simp
theorem Wh {p : Ac} {l : List KN} {k : Nat} (h : MC p l = some k) : k < l.length := by
 obtain ⟨⟨x, f, s, h1, _⟩, _⟩ := RC h
 exact Bfs.lt_get h1
theorem SM {N : Nat} (hN : N ≤ 1000000) (h20 : 100 ≤ N) {p : Ac} (hv : Bo p = 0) {m : Af} (hm : Cl p m) (hr : By p m = true) {most : Nat} (hmo : most ≤ 20000) (h1 : 1 ≤ most) {l : List KN} (hs : KM p m most N = some l) (hl : l.length < N) {ws : List (List Ag)} (h : bz p m l ws) :
  GR N p m = some (Qt p l ws) := by
 obtain ⟨hp, _⟩ := Dt hv
 have hl2 : l.length ≤ 20000 := Nat.le_trans (Bfs.go_len _ _ _ _ (by simpa using h1) hs) hmo
 unfold GR
 rw [Lg N p m hN h20 (LA hm) (I8 hv hm), hr]
 simp only [oS, bne_self_eq_false, Ao, Bool.not_true]
 obtain ⟨pl, e1, e2, e3⟩ := Qm hN h20 hv hm hr hmo h1 hs
 rw [e1]
 simp only [oS, bne_self_eq_false, Ao]
 have hpll : pl.length = l.length := by rw [← e2, List.length_map]
 unfold CW
 have := Dr (AZ N pl ((fun (x : AH) => FX N x p.fE p.fK p.fP p.fF)) fun _ => some (-1)) l (some (-1)) (fun i n => (if Jk p n.1 = true then some i else none).map fun (k : Nat) => (k : Int))
  (fun n i nd hnd => by
   have hi := (lI.1 hnd).1
   have hnd2 := hnd
   rw [← e2, List.getElem?_map] at hnd2
   cases hq : pl[i]? with
   | none => rw [hq] at hnd2; cases hnd2
   | some nq =>
    rw [hq] at hnd2
    have hnd2 : FJ nq = nd := Option.some.inj hnd2
    rw [AZ, AC (by omega), AW, hq]
    simp only [oS]
    have hok := (h.ok _ _ _ _ (show l[i]? = some (nd.1, nd.2.1, nd.2.2) from hnd)).1
    have hM : nq.fS = nd.1 := congrArg (fun n : KN => n.1) hnd2
    unfold FX
    simp only
    rw [show (Ac.mk p.fE p.fK p.fP p.fF) = p from rfl, show (Af.mk nq.fS.fG nq.fS.fD nq.fS.fH) = nd.1 from hM, Ut N p nd.1 hN h20 (LA hok), AB (by omega)]
    simp only [oS]
    cases hg : Jk p nd.1 <;> rfl)
  (fun n => by rw [AZ, Ay (by omega)]) N 0 (Nat.zero_le _) (by omega)
 have e3 : AZ N pl ((fun (x : AH) => FX N x p.fE p.fK p.fP p.fF)) (fun _ => some (-1)) N 0 = _ := this
 rw [e3, List.drop_zero, MA]
 unfold Qt
 cases hg : MC p l with
 | none =>
  unfold MC at hg
  rw [hg]; rfl
 | some k =>
  have hk := Wh hg
  unfold MC at hg
  rw [hg]
  simp only [Option.map_some, Cd, oS]
  rw [Ay (by omega)]
  obtain ⟨w, hw⟩ := Bfs.get_ex (l := ws) (k := k) (by rw [h.inv.len]; exact hk)
  have e4 := Nn h N e2 (fun (v2 : (List Ag)) => (BP N v2).bind fun v8 => some v8) N k (w := w) (acc := []) (by omega) hw (by simp; omega)
  unfold KW
  have hwl := Tg h (k + 1) k (Nat.lt_succ_self k) hw
  rw [e4, List.nil_append, VS N h20 _ (by rw [List.length_reverse]; omega) (by rw [List.length_reverse]; omega), List.reverse_reverse]
  simp only [oS]
  rw [lD, hw]; rfl
def aY (p : Ac) (m : Af) (w : List Ag) : Prop := Lv p m w = true ∧ Bfs.Dig NV 100 w ∧ ∀ u, Lv p m u = true → Bfs.code NV 100 w ≤ Bfs.code NV 100 u
theorem WJ {p : Ac} (hp : Bk p) : ∀ {w : List Ag} {m x : Af}, OY p m w = some x → Bfs.Dig NV 100 w ∧ ∀ s, s ∈ w → s ∈ E2 p
 | [], _, _, _ => ⟨fun s hs => (by cases hs), fun s hs => (by cases hs)⟩
 | s :: w, m, x, h => by
  simp only [OY] at h
  cases hs : Nq p m s with
  | none => rw [hs] at h; cases h
  | some z =>
   rw [hs] at h
   obtain ⟨h1, h2⟩ := WJ hp h
   have h3 := (Ji (OS.1 (RW hs)).1).1
   refine ⟨fun t ht => ?_, fun t ht => ?_⟩
   ·rcases List.mem_cons.1 ht with rfl | ht
    ·exact (P4 hp h3).2
    ·exact h1 t ht
   ·rcases List.mem_cons.1 ht with rfl | ht
    ·exact h3
    ·exact h2 t ht
theorem WX {p : Ac} (hp : Bk p) {m : Af} {l : List KN} {ws : List (List Ag)} (h : bz p m l ws) :
  ((Qt p l ws).2 = 0 ∧ aY p m (Qt p l ws).1 ∧ (Qt p l ws).1.length ≤ l.length) ∨ (Qt p l ws = ([], 14) ∧ ∀ u, Lv p m u = false) := by
 unfold Qt
 cases hg : MC p l with
 | none =>
  right
  refine ⟨rfl, fun u => ?_⟩
  cases hu : Lv p m u
  ·rfl
  ·obtain ⟨x, h1, h2⟩ := R1 hu
   obtain ⟨k, f, s, w, g1, g2, g3⟩ := Sq hp h h1
   rw [WU hg g1] at h2; cases h2
 | some k =>
  left
  obtain ⟨⟨x, f, s, h1, h2⟩, h3⟩ := RC hg
  have hk := Wh hg
  obtain ⟨w, hw⟩ := Bfs.get_ex (l := ws) (k := k) (by rw [h.inv.len]; exact hk)
  have hwe : ws.getD k [] = w := by rw [lD, hw]; rfl
  simp only [hwe]
  have hrun := Zr hp h h1 hw
  refine ⟨trivial, ⟨?_, (WJ hp hrun).1, ?_⟩, ?_⟩
  ·unfold Lv; rw [hrun]; exact h2
  ·intro u hu
   obtain ⟨y, g1, g2⟩ := R1 hu
   obtain ⟨k', f', s', w', e1, e2, e3⟩ := Sq hp h g1
   refine Nat.le_trans ?_ e3
   by_cases hkk : k' < k
   ·rw [h3 k' y f' s' hkk e1] at g2; cases g2
   ·rcases Nat.lt_or_eq_of_le (Nat.le_of_not_lt hkk) with h4 | h4
    ·exact Nat.le_of_lt (h.inv.inc _ _ _ _ hw e2 h4)
    ·subst h4; rw [hw] at e2; cases e2; exact Nat.le_refl _
  ·have := Tg h (k + 1) k (Nat.lt_succ_self k) hw
   omega
def UT (p : Ac) (m : Af) (r : List Ag × Int) : Prop := (r.2 = 0 ∧ aY p m r.1 ∧ r.1.length ≤ 120) ∨ (r = ([], 14) ∧ ∀ u, Lv p m u = false)
def Pg (p : Ac) : Prop := By p (EA p) = false ∨ ∃ l, KM p (EA p) 120 1000 = some l
def N6 (p : Ac) (r : List Ag × Int) : Prop := (By p (EA p) = false ∧ r = ([], 13)) ∨ (By p (EA p) = true ∧ UT p (EA p) r)
theorem QF {α : Type} [DecidableEq α] : ∀ (L S : List α), L.Nodup → (∀ x, x ∈ L → x ∈ S) → L.length ≤ S.length
 | [], S, _, _ => Nat.zero_le _
 | x :: L, S, hn, hs => by
  obtain ⟨h1, h2⟩ := List.nodup_cons.1 hn
  have hx := hs x (by simp)
  have := QF L (S.erase x) h2 (fun y hy => by
   have hne : y ≠ x := fun e => h1 (e ▸ hy)
   exact (List.mem_erase_of_ne hne).2 (hs y (List.mem_cons_of_mem _ hy)))
  rw [List.length_erase_of_mem hx] at this
  have := List.length_pos_of_mem hx
  simp only [List.length_cons]
  omega
def KO (l : List KN) : List Af := l.map fun n => n.1
theorem Yw {i : Nat} {l : List KN} {q : Ag × Af} (h : (KO l).Nodup) : (KO (Bfs.put i l q)).Nodup ∧ ∀ x, x ∈ KO (Bfs.put i l q) → x ∈ KO l ∨ x = q.2 := by
 unfold Bfs.put
 split
 ·exact ⟨h, fun x hx => .inl hx⟩
 ·rename_i hn
  unfold KO at h ⊢
  rw [List.map_append]
  refine ⟨?_, ?_⟩
  ·rw [List.nodup_append]
   refine ⟨h, by simp, ?_⟩
   intro a ha b hb
   have hb : b = q.2 := by simpa using hb
   subst hb
   intro e
   subst e
   obtain ⟨n, hn1, hn2⟩ := List.mem_map.1 ha
   exact hn (List.any_eq_true.2 ⟨n, hn1, decide_eq_true hn2⟩)
  ·intro x hx
   rcases List.mem_append.1 hx with hx | hx
   ·exact .inl hx
   ·exact .inr (by simpa using hx)
theorem Pp {S : List Af} {most i : Nat} (hS : S.length ≤ most) : ∀ (qs : List (Ag × Af)) (l : List KN), (KO l).Nodup → (∀ x, x ∈ KO l → x ∈ S) → (∀ q, q ∈ qs → q.2 ∈ S) →
  ∃ l', Bfs.inner most i qs l = some l' ∧ (KO l').Nodup ∧ (∀ x, x ∈ KO l' → x ∈ S) ∧ l.length ≤ l'.length
 | [], l, h1, h2, _ => ⟨l, rfl, h1, h2, Nat.le_refl _⟩
 | q :: qs, l, h1, h2, h3 => by
  obtain ⟨g1, g2⟩ := Yw (i := i) (q := q) h1
  have g3 : ∀ x, x ∈ KO (Bfs.put i l q) → x ∈ S := fun x hx => (g2 x hx).elim (h2 x) fun e => by rw [e]; exact h3 q (by simp)
  have := QF _ S g1 g3
  unfold KO at this
  rw [List.length_map] at this
  simp only [Bfs.inner]
  rw [if_neg (by omega)]
  obtain ⟨l', e1, e2, e3, e4⟩ := Pp hS qs (Bfs.put i l q) g1 g3 (fun q hq => h3 q (List.mem_cons_of_mem _ hq))
  refine ⟨l', e1, e2, e3, Nat.le_trans ?_ e4⟩
  unfold Bfs.put; split
  ·exact Nat.le_refl _
  ·simp
theorem P6 {p : Ac} {S : List Af} {most : Nat} (hS : S.length ≤ most) (hc : ∀ x, x ∈ S → ∀ q, q ∈ JP p x → q.2 ∈ S) : ∀ (n i : Nat) (l : List KN), (KO l).Nodup → (∀ x, x ∈ KO l → x ∈ S) → i ≤ l.length → most < n + i → ∃ l', Bfs.go (JP p) most n i l = some l'
 | 0, i, l, h1, h2, hi, hn => by
  have := QF _ S h1 h2
  unfold KO at this
  rw [List.length_map] at this
  omega
 | n + 1, i, l, h1, h2, hi, hn => by
  simp only [Bfs.go]
  cases hx : l[i]? with
  | none => exact ⟨l, rfl⟩
  | some nd =>
   have hS2 : nd.1 ∈ S := h2 _ (List.mem_map.2 ⟨nd, lM hx, rfl⟩)
   obtain ⟨l1, e1, e2, e3, e4⟩ := Pp (i := i) hS (JP p nd.1) l h1 h2 (hc _ hS2)
   simp only [e1, oS]
   have := Bfs.lt_get hx
   exact P6 hS hc n (i + 1) l1 e2 e3 (by omega) (by omega)
def Qk (t u v : Nat) (ok : Bool) : List Aa := if ok = true then [] else [⟨(t : Int), (u : Int), (v : Int)⟩]
def Pa (t u : Nat) (row : List Bool) : List Aa := Cm (Qk t u) 0 row
def O6 (t : Nat) (x : An) : List Aa := Cm (Pa t) 0 x.fN
def CV (p : Ac) : List Aa := Cm O6 0 p.fF
theorem QJ (t u v : Nat) (ok : Bool) : (Qk t u v ok).length ≤ 1 := by unfold Qk; split <;> simp
theorem KL (t u : Nat) {row : List Bool} (h : row.length ≤ 6) : (Pa t u row).length ≤ 6 := by
 have := Gt (g := Qk t u) (c := 1) (i := 0) (xs := row) (fun j x _ => QJ _ _ _ _)
 unfold Pa; omega
theorem KG {p : Ac} {t : An} (hp : Bk p) (ht : Oz p t) (i : Nat) : (O6 i t).length ≤ 36 := by
 have h1 := J8 hp ht
 have := Gt (g := Pa i) (c := 6) (i := 0) (xs := t.fN) (fun j x hx => KL i _ (h1.2 x (lM hx)))
 unfold O6; omega
theorem OT {p : Ac} (hp : Bk p) : (CV p).length ≤ 432 := by
 have := Gt (g := O6) (c := 36) (i := 0) (xs := p.fF) (fun j x hx => KG hp (JA (hp.tab x (lM hx))) _)
 have := hp.nt
 unfold CV; omega
theorem Q7 {N : Nat} (hN : N ≤ 1000000) (h20 : 100 ≤ N) {p : Ac} (hp : Bk p) : Fn N p = some (CV p) := by
 unfold Fn
 have hnt := hp.nt
 rw [DM (BR N p _) (fun a k => (a, k)) p.fF some O6 36 9000
  (fun i t hx => KG hp (JA (hp.tab t (lM hx))) i)
  (fun n i t a hx ha => by
   have hi := (lI.1 hx).1
   have ht := JA (hp.tab t (lM hx))
   have hv := J8 hp ht
   have het := KG hp ht i
   rw [BR]
   rw [AC (by omega), DM (Cj N p (a, (i : Int)) _) (fun a k => (a, k)) t.fN (fun b => BR N p (fun v2 => some v2) n (b, wI .i64 ((i : Int) + 1))) (Pa i) 6 10000
    (fun u row hu => KL i u (hv.2 row (lM hu)))
    (fun n2 u row b hu hb => by
     have hui := (lI.1 hu).1
     have hrl := hv.2 row (lM hu)
     rw [Cj]
     simp only [AW, hx, oS]
     rw [AC (by omega), DM (C0 N p (a, (i : Int)) (b, (u : Int)) _) (fun a k => (a, k)) row (fun c => Cj N p (a, (i : Int)) (fun v5 => BR N p (fun v2 => some v2) n (v5, wI .i64 ((i : Int) + 1))) n2 (c, wI .i64 ((u : Int) + 1))) (Qk i u) 1 20000
      (fun v ok _ => QJ i u v ok)
      (fun n3 v ok c hv hc => by
       have hvi := (lI.1 hv).1
       rw [C0]
       simp only [AW, hx, hu, hv, oS, Bi]
       rw [AC (by omega), AB (i := v) (by omega)]
       cases ok
       ·simp only [Bool.not_false, AR]
        rw [Ap (by simp only [Qk, Bool.false_eq_true, if_false, List.length_singleton] at hc ⊢; unfold DU; omega)]
        rfl
       ·simp only [Bool.not_true, Ao, Qk, if_true, List.append_nil])
      (fun n3 c => by
       rw [C0]
       simp only [AW, hx, hu, oS, Bi]
       rw [Ay (by omega)]) N b (by omega) (by have := KL i u hrl; omega), AB (i := u) (by omega)]
     rfl)
    (fun n2 b => by
     rw [Cj]
     simp only [AW, hx, oS]
     rw [Ay (by omega)]) N a (by omega) (by omega), AB (i := i) (by omega)]
   rfl)
  (fun n a => by
   rw [BR]
   rw [Ay (by omega)]) N [] (by omega) (by simp; omega)]
 rfl
theorem MQ {N : Nat} (hN : N ≤ 1000000) (h20 : 100 ≤ N) {p : Ac} (hp : Bk p) : EV N p = some (CV p) := by
 unfold EV
 have hnt := hp.nt
 rw [DM (CO N p _) (fun a k => (a, k)) p.fF some O6 36 9000
  (fun i t hx => KG hp (JA (hp.tab t (lM hx))) i)
  (fun n i t a hx ha => by
   have hi := (lI.1 hx).1
   have ht := JA (hp.tab t (lM hx))
   have hv := J8 hp ht
   have het := KG hp ht i
   rw [CO]
   simp only [AW, hx, oS]
   rw [AC (by omega), DM (Dl N (a, (i : Int)) t _) (fun a k => (a, k)) t.fN (fun b => CO N p (fun v2 => some v2) n (b, wI .i64 ((i : Int) + 1))) (Pa i) 6 10000
    (fun u row hu => KL i u (hv.2 row (lM hu)))
    (fun n2 u row b hu hb => by
     have hui := (lI.1 hu).1
     have hrl := hv.2 row (lM hu)
     rw [Dl]
     simp only [AW, hu, oS]
     rw [AC (by omega), DM (D0 N (a, (i : Int)) (b, (u : Int)) row _) (fun a k => (a, k)) row (fun c => Dl N (a, (i : Int)) t (fun v5 => CO N p (fun v2 => some v2) n (v5, wI .i64 ((i : Int) + 1))) n2 (c, wI .i64 ((u : Int) + 1))) (Qk i u) 1 20000
      (fun v ok _ => QJ i u v ok)
      (fun n3 v ok c hv hc => by
       have hvi := (lI.1 hv).1
       rw [D0]
       simp only [AW, hv, oS, Bi]
       rw [AC (by omega), AB (i := v) (by omega)]
       cases ok
       ·simp only [Bool.not_false, AR]
        rw [Ap (by simp only [Qk, Bool.false_eq_true, if_false, List.length_singleton] at hc ⊢; unfold DU; omega)]
        rfl
       ·simp only [Bool.not_true, Ao, Qk, if_true, List.append_nil])
      (fun n3 c => by
       rw [D0]
       simp only [Bi]
       rw [Ay (by omega)]) N b (by omega) (by have := KL i u hrl; omega), AB (i := u) (by omega)]
     rfl)
    (fun n2 b => by
     rw [Dl]
     rw [Ay (by omega)]) N a (by omega) (by omega), AB (i := i) (by omega)]
   rfl)
  (fun n a => by
   rw [CO]
   rw [Ay (by omega)]) N [] (by omega) (by simp; omega)]
 rfl
def WN (a b : Aa) : Bool := (a.fX == b.fX) && ((a.fW == b.fW) && ((a.fV == b.fV) && true))
theorem MX (a b : Aa) : WN a b = true ↔ a = b := by
 unfold WN
 cases a; cases b
 simp
theorem XP (a b : Aa) : WN a b = WN b a := by
 rw [Bool.eq_iff_iff, MX, MX]; exact eq_comm
def WF (l : List Aa) (c : Aa) : Bool := l.any fun x => WN x c
theorem PX {l : List Aa} {c : Aa} : WF l c = true ↔ c ∈ l := by
 unfold WF
 rw [List.any_eq_true]
 constructor
 ·rintro ⟨x, h1, h2⟩; rw [MX] at h2; exact h2 ▸ h1
 ·intro h; exact ⟨c, h, (MX c c).2 rfl⟩
theorem Ub (x : Aa) (l : List Aa) (c : Aa) : WF (x :: l) c = (WN x c || WF l c) := rfl
theorem Wx (N : Nat) (l : List Aa) (c : Aa) (hl : l.length < 1000000) : ∀ (n i : Nat), i ≤ l.length → l.length - i < n → EY N l c (fun _ => some false) n (i : Int) = some (WF (l.drop i) c)
 | 0, i, _, h => by omega
 | n + 1, i, hi, h => by
  rw [EY]
  by_cases h1 : i < l.length
  ·have hx : l[i]? = some l[i] := by simp [h1]
   rw [AC (by omega), AW, hx, Hj hx, Ub, AB (by omega), Wx N l c hl n (i + 1) (by omega) (by omega)]
   simp only [oS]
   show AU (WN l[i] c) _ _ = _
   cases WN l[i] c <;> rfl
  ·rw [Ay (by omega), List.drop_eq_nil_of_le (by omega)]; rfl
theorem Xa {N : Nat} {l : List Aa} (hN : N ≤ 1000000) (hl : l.length < N) (c : Aa) : GW N l c = some (WF l c) := by
 unfold GW
 have := Wx N l c (by omega) N 0 (by omega) (by omega)
 simpa using this
theorem Np (N : Nat) (l : List Aa) (c : Aa) (hl : l.length < 1000000) : ∀ (n i : Nat), i ≤ l.length → l.length - i < n → ∃ k : Int, A3 N l c (fun _ => some (-1)) n (i : Int) = some k ∧ decide (0 ≤ k) = WF (l.drop i) c
 | 0, i, _, h => by omega
 | n + 1, i, hi, h => by
  rw [A3]
  by_cases h1 : i < l.length
  ·have hx : l[i]? = some l[i] := by simp [h1]
   obtain ⟨k, e1, e2⟩ := Np N l c hl n (i + 1) (by omega) (by omega)
   rw [AC (by omega), AW, hx, Hj hx, Ub, AB (by omega), e1]
   simp only [oS]
   have : ((c.fX == l[i].fX) && ((c.fW == l[i].fW) && ((c.fV == l[i].fV) && true))) = WN l[i] c := XP c l[i]
   rw [this]
   cases WN l[i] c
   ·exact ⟨k, rfl, e2⟩
   ·exact ⟨_, rfl, by simp⟩
  ·rw [Ay (by omega), List.drop_eq_nil_of_le (by omega)]
   exact ⟨-1, rfl, rfl⟩
theorem Ug {N : Nat} {l : List Aa} (hN : N ≤ 1000000) (hl : l.length < N) (c : Aa) : BG N l c = some (WF l c) := by
 unfold BG CI
 obtain ⟨k, e1, e2⟩ := Np N l c (by omega) N 0 (by omega) (by omega)
 have e1' : A3 N l c (fun _ => some (-1)) N 0 = some k := by simpa using e1
 rw [e1', oS, e2, List.drop_zero]
def W0 (l : List Aa) (t u v : Nat) (ok : Bool) : Bool := ok || WF l ⟨(t : Int), (u : Int), (v : Int)⟩
def KP (l : List Aa) (t u : Nat) (row : List Bool) : List Bool := row.mapIdx (W0 l t u)
def Mf (l : List Aa) (t : Nat) (x : An) : An := ⟨x.fI, x.fJ, x.fO, x.fR, x.fN.mapIdx (KP l t), x.fQ⟩
def Jt (p : Ac) (l : List Aa) : Ac := ⟨p.fE, p.fK, p.fP, p.fF.mapIdx (Mf l)⟩
theorem R7 {α β : Type} (f : Nat → α → β) : ∀ (k : Nat) (xs : List α), Cm (fun i x => [f i x]) k xs = xs.mapIdx fun i x => f (k + i) x
 | _, [] => rfl
 | k, x :: xs => by
  rw [Cm, R7 f (k + 1) xs, List.mapIdx_cons]
  simp only [List.singleton_append, Nat.add_zero, Nat.add_assoc, Nat.add_comm 1]
theorem KK {α β : Type} (f : Nat → α → β) (xs : List α) : Cm (fun i x => [f i x]) 0 xs = xs.mapIdx f := by
 rw [R7]; simp only [Nat.zero_add]
theorem Ll {α β : Type} {f g : Nat → α → β} {xs : List α} {k : Nat} {x : α} (hx : xs[k]? = some x) (h : ∀ j y, xs[j]? = some y → j ≠ k → g j y = f j y) : xs.mapIdx g = (xs.mapIdx f).set k (g k x) := by
 apply List.ext_getElem?
 intro j
 rw [List.getElem?_mapIdx, List.getElem?_set, List.getElem?_mapIdx]
 have hk := (lI.1 hx).1
 by_cases e : k = j
 ·subst e; rw [if_pos rfl, if_pos (by simpa using hk), hx]; rfl
 ·rw [if_neg e]
  cases hy : xs[j]? with
  | none => rfl
  | some y => simp only [Option.map_some]; rw [h j y hy (fun e' => e e'.symm)]
theorem YQ {N : Nat} (hN : N ≤ 1000000) {l : List Aa} (hl : l.length < N) (v4 : List An × Int) (v8 : List (List Bool) × Int) (t u : Nat) (h4 : v4.2 = (t : Int)) (h8 : v8.2 = (u : Int)) (row : List Bool) (hr : row.length ≤ 6) (h20 : 100 ≤ N) (j : List Bool → Option Ac) :
  CU N l v4 v8 j N (row, 0) = j (KP l t u row) := by
 obtain ⟨a, e, h⟩ := F8 (A := List Bool) (CU N l v4 v8 j) (fun a k => (a, k)) row.length j (fun i a => a.length = row.length ∧ (∀ k, i ≤ k → a[k]? = row[k]?) ∧ ∀ k, k < i → a[k]? = (row[k]?).map (W0 l t u k))
  (fun n i a hi h => by
   obtain ⟨h1, h2, h3⟩ := h
   have hx : row[i]? = some row[i] := by simp [hi]
   have ha : a[i]? = some row[i] := by rw [h2 i (Nat.le_refl _), hx]
   refine ⟨a.set i (W0 l t u i row[i]), ?_, by simpa using h1, fun k hk => ?_, fun k hk => ?_⟩
   ·rw [CU]
    simp only [Bi, AW, ha, oS]
    rw [AC (by omega), AB (by omega), h4, h8, Xa hN hl]
    simp only [oS, W0, Int.toNat_natCast]
    cases row[i]
    ·rw [Ao, Bool.false_or]
    ·rw [AR, Bool.true_or]
   ·rw [List.getElem?_set, if_neg (by omega)]; exact h2 k (by omega)
   ·rw [List.getElem?_set]
    by_cases e : i = k
    ·subst e; rw [if_pos rfl, if_pos (by omega), hx]; rfl
    ·rw [if_neg e]; exact h3 k (by omega))
  (fun n a h => by
   rw [CU, Ay (by simp only; omega)]) N 0 row (Nat.zero_le _) (by omega) ⟨rfl, fun _ _ => rfl, fun k hk => by omega⟩
 have : a = KP l t u row := by
  apply List.ext_getElem?
  intro k
  rw [KP, List.getElem?_mapIdx]
  by_cases hk : k < row.length
  ·exact h.2.2 k hk
  ·rw [h.2.1 k (by omega), List.getElem?_eq_none (by omega)]; rfl
 rw [← this]
 exact e
theorem UR {N : Nat} (hN : N ≤ 1000000) (h20 : 100 ≤ N) {p : Ac} (hp : Bk p) {l : List Aa} (hl : l.length < N) : Gf N p l = some (Jt p l) := by
 unfold Gf
 have hnt := hp.nt
 have hnv := hp.nv
 have hnow := hp.now
 have htg := hp.tgt
 rw [Ap (by simp only [List.length_nil]; unfold DU; omega), Ap (by simp only [List.length_nil]; unfold DU; omega), Ap (by simp only [List.length_nil]; unfold DU; omega)]
 rw [DM (Cv N p l _) (fun a k => (a, k)) p.fF (fun v5 => some (Ac.mk ([] ++ p.fE) ([] ++ p.fK) ([] ++ p.fP) v5)) (fun t x => [Mf l t x]) 1 1000
  (fun i t hx => by simp)
  (fun n i t a hx ha => by
   have hi := (lI.1 hx).1
   have ht := JA (hp.tab t (lM hx))
   have hv := J8 hp ht
   have hrw : t.fQ.length ≤ 6 ∧ ∀ row, row ∈ t.fQ → row.length ≤ 6 := by
    have h1 := Lb hp.ver ht.from0.1 ht.from0.2
    refine ⟨?_, fun row hr => by have := ht.reR row hr; omega⟩
    by_cases hk : t.fI = 4
    ·have := ht.reL hk; omega
    ·rw [ht.reN hk]; simp
   rw [Cv]
   simp only [AW, hx, oS]
   rw [AC (by omega), DM (DT N p l (a, (i : Int)) _) (fun a k => (a, k)) t.fN (fun v9 => CR N p (a, (i : Int)) (fun v26 => (Eo (a.length + ([(An.mk t.fI t.fJ t.fO t.fR v9 v26)] : List An).length ≤ DU)).bind fun _ => Cv N p l (fun v5 => some (Ac.mk ([] ++ p.fE) ([] ++ p.fK) ([] ++ p.fP) v5)) n (a ++ [(An.mk t.fI t.fJ t.fO t.fR v9 v26)], wI .i64 ((i : Int) + 1))) N ([], 0)) (fun u row => [KP l i u row]) 1 1000
    (fun u row hu => by simp)
    (fun n2 u row b hu hb => by
     have hui := (lI.1 hu).1
     have hrl := hv.2 row (lM hu)
     rw [DT]
     simp only [AW, hx, hu, oS]
     rw [AC (by omega), Ap (by simp only [List.length_nil]; unfold DU; omega)]
     simp only [List.nil_append]
     rw [YQ hN hl _ _ i u rfl rfl row hrl h20, Ap (by simp only [List.length_singleton] at hb ⊢; unfold DU; omega), AB (i := u) (by omega)])
    (fun n2 b => by
     rw [DT]
     simp only [AW, hx, oS]
     rw [Ay (by omega)]) N [] (by omega) (by simp only [List.length_nil]; omega)]
   rw [DM (CR N p (a, (i : Int)) _) (fun a k => (a, k)) t.fQ (fun v26 => (Eo (a.length + ([(An.mk t.fI t.fJ t.fO t.fR ([] ++ Cm (fun u row => [KP l i u row]) 0 t.fN) v26)] : List An).length ≤ DU)).bind fun _ => Cv N p l (fun v5 => some (Ac.mk ([] ++ p.fE) ([] ++ p.fK) ([] ++ p.fP) v5)) n (a ++ [(An.mk t.fI t.fJ t.fO t.fR ([] ++ Cm (fun u row => [KP l i u row]) 0 t.fN) v26)], wI .i64 ((i : Int) + 1))) (fun _ row => [row]) 1 1000
    (fun u row hu => by simp)
    (fun n2 u row b hu hb => by
     have hui := (lI.1 hu).1
     have hrl := hrw.2 row (lM hu)
     rw [CR]
     simp only [AW, hx, hu, oS]
     rw [AC (by omega), Ap (by simp only [List.length_nil]; unfold DU; omega), Ap (by simp only [List.length_singleton] at hb ⊢; unfold DU; omega), AB (i := u) (by omega)]
     rfl)
    (fun n2 b => by
     rw [CR]
     simp only [AW, hx, oS]
     rw [Ay (by omega)]) N [] (by omega) (by simp only [List.length_nil]; omega)]
   rw [Ap (by simp only [List.length_singleton] at ha ⊢; unfold DU; omega), AB (i := i) (by omega), KK, KK (fun _ row => row)]
   simp only [List.nil_append, Mf]
   have : t.fQ.mapIdx (fun _ row => row) = t.fQ := by
    apply List.ext_getElem?; intro k; rw [List.getElem?_mapIdx]; cases t.fQ[k]? <;> rfl
   rw [this])
  (fun n a => by
   rw [Cv]
   rw [Ay (by omega)]) N [] (by omega) (by simp only [List.length_nil]; omega), KK]
 rfl
theorem bE {p : Ac} {t : An} (hp : Bk p) (ht : Oz p t) : t.fQ.length ≤ 6 ∧ ∀ row, row ∈ t.fQ → row.length ≤ 6 := by
 have h1 := Lb hp.ver ht.from0.1 ht.from0.2
 refine ⟨?_, fun row hr => by have := ht.reR row hr; omega⟩
 by_cases hk : t.fI = 4
 ·have := ht.reL hk; omega
 ·rw [ht.reN hk]; simp
theorem Uz (N : Nat) {l : List (List Bool)} (h : l.length ≤ 100000) : DL N l = some l := by
 unfold DL
 rw [Ap (by simp only [List.length_nil]; unfold DU; omega)]; rfl
theorem Wc (N : Nat) {l : List Bool} (h : l.length ≤ 100000) : Di N l = some l := by
 unfold Di
 rw [Ap (by simp only [List.length_nil]; unfold DU; omega)]; rfl
theorem Tu (N : Nat) {l : List Int} (h : l.length ≤ 100000) : A8 N l = some l := by
 unfold A8
 rw [Ap (by simp only [List.length_nil]; unfold DU; omega)]; rfl
theorem WG (N : Nat) {l : List Aa} (h : l.length ≤ 100000) : Bb N l = some l := by
 unfold Bb
 rw [Ap (by simp only [List.length_nil]; unfold DU; omega)]; rfl
theorem Pz {α : Type} {l : List α} {i : Nat} {x : α} (h : l[i]? = some x) : l.set i x = l := by
 apply List.ext_getElem?
 intro k
 rw [List.getElem?_set]
 have := (lI.1 h).1
 by_cases e : i = k
 ·subst e; rw [if_pos rfl, if_pos this, h]
 ·rw [if_neg e]
theorem W7 {N : Nat} (h20 : 100 ≤ N) (t : An) (h1 : t.fN.length ≤ 6) (h2 : ∀ row, row ∈ t.fN → row.length ≤ 6) (h3 : t.fQ.length ≤ 6) (h4 : ∀ row, row ∈ t.fQ → row.length ≤ 6) : G4 N t = some t := by
 unfold G4
 rw [Uz N (by omega), Uz N (by omega)]
 simp only [oS]
 have l1 := IS (El N t.fN fun v4 => Ci N t.fQ (fun v12 => some ⟨t.fI, t.fJ, t.fO, t.fR, v4, v12⟩) N (t.fQ, 0)) (fun a i => (a, i)) t.fN (fun v4 => Ci N t.fQ (fun v12 => some ⟨t.fI, t.fJ, t.fO, t.fR, v4, v12⟩) N (t.fQ, 0)) (fun _ _ a => a) (fun _ a => a = t.fN)
  (fun n i x a hx ha => by
   subst ha
   have hi := (lI.1 hx).1
   refine ⟨?_, rfl⟩
   rw [El]
   simp only [AW, hx, oS]
   rw [AC (by omega), Wc N (by have := h2 x (lM hx); omega)]
   simp only [oS]
   rw [AB (by omega), Ap (by omega), Int.toNat_natCast, Pz hx])
  (fun n a ha => by
   subst ha
   rw [El, Ay (by omega), Ap (by simp only [Int.toNat_natCast])]) N 0 t.fN (Nat.zero_le _) (by omega) rfl
 have l2 := IS (Ci N t.fQ fun v12 => some ⟨t.fI, t.fJ, t.fO, t.fR, t.fN, v12⟩) (fun a i => (a, i)) t.fQ (fun v12 => some ⟨t.fI, t.fJ, t.fO, t.fR, t.fN, v12⟩) (fun _ _ a => a) (fun _ a => a = t.fQ)
  (fun n i x a hx ha => by
   subst ha
   have hi := (lI.1 hx).1
   refine ⟨?_, rfl⟩
   rw [Ci]
   simp only [AW, hx, oS]
   rw [AC (by omega), Wc N (by have := h4 x (lM hx); omega)]
   simp only [oS]
   rw [AB (by omega), Ap (by omega), Int.toNat_natCast, Pz hx])
  (fun n a ha => by
   subst ha
   rw [Ci, Ay (by omega), Ap (by simp only [Int.toNat_natCast])]) N 0 t.fQ (Nat.zero_le _) (by omega) rfl
 have e1 := l1.1.trans (congrArg (fun v4 => Ci N t.fQ (fun v12 => some (An.mk t.fI t.fJ t.fO t.fR v4 v12)) N (t.fQ, 0)) l1.2)
 have e2 := l2.1.trans (congrArg (fun v12 => some (An.mk t.fI t.fJ t.fO t.fR t.fN v12)) l2.2)
 exact e1.trans e2
theorem Vj {N : Nat} (hN : N ≤ 1000000) (h20 : 100 ≤ N) {p : Ac} (hv : Bo p = 0) : Gz N p p.fK p.fP = some (p, 0) := by
 obtain ⟨hp, _⟩ := Dt hv
 have hnt := hp.nt
 have hnv := hp.nv
 have hnow := hp.now
 have htg := hp.tgt
 unfold Gz
 rw [Ic N p hN (by omega), Tu N (by omega), Tu N (by omega), Tu N (by omega)]
 simp only [oS, hv, bne_self_eq_false, Ao]
 rw [DM (D2 N p _) (fun a i => (a, i)) p.fF (fun v7 => (BU N (Ac.mk p.fE p.fK p.fP v7)).bind fun v12 => AU (v12 != 0) (some (Ac.mk [] [] [] [], v12)) (some (Ac.mk p.fE p.fK p.fP v7, 0))) (fun _ x => [x]) 1 1000
  (fun i x hx => by simp)
  (fun n i x a hx ha => by
   have hi := (lI.1 hx).1
   have ht := JA (hp.tab x (lM hx))
   have hl := J8 hp ht
   have hr := bE hp ht
   rw [D2]
   simp only [AW, hx, oS]
   rw [AC (by omega), W7 h20 x hl.1 hl.2 hr.1 hr.2]
   simp only [oS]
   rw [Ap (by simp only [List.length_singleton] at ha ⊢; unfold DU; omega), AB (by omega)])
  (fun n a => by
   rw [D2, Ay (by omega)]) N [] (by omega) (by simp only [List.length_nil]; omega)]
 have e : ([] : List An) ++ Cm (fun _ x => [x]) 0 p.fF = p.fF := by
  rw [List.nil_append, KK (fun _ x => x)]
  apply List.ext_getElem?; intro k; rw [List.getElem?_mapIdx]; cases p.fF[k]? <;> rfl
 simp only [e]
 rw [Ic N _ hN (by omega)]
 simp only [oS, hv, bne_self_eq_false, Ao]
theorem TH {p : Ac} {c : Aa} (h : c ∈ CV p) : ∃ (t u v : Nat) (x : An) (row : List Bool), p.fF[t]? = some x ∧ x.fN[u]? = some row ∧ row[v]? = some false ∧ c = ⟨(t : Int), (u : Int), (v : Int)⟩ := by
 obtain ⟨t, x, hx, h⟩ := Gv.1 h
 obtain ⟨u, row, hu, h⟩ := Gv.1 h
 obtain ⟨v, ok, hv, h⟩ := Gv.1 h
 simp only [Nat.zero_add, Qk] at h
 cases ok
 ·simp only [Bool.false_eq_true, if_false, List.mem_singleton] at h
  exact ⟨t, u, v, x, row, hx, hu, hv, h⟩
 ·simp at h
theorem UQ (l : List Aa) (c : Aa) (t u v : Nat) (ok : Bool) : W0 (l ++ [c]) t u v ok = (W0 l t u v ok || WN c ⟨(t : Int), (u : Int), (v : Int)⟩) := by
 unfold W0 WF
 rw [List.any_append, List.any_cons, List.any_nil, Bool.or_false, Bool.or_assoc]
theorem Vy {l : List Aa} {t u v t' u' v' : Nat} (h : t ≠ t' ∨ u ≠ u' ∨ v ≠ v') (ok : Bool) : W0 (l ++ [⟨(t : Int), (u : Int), (v : Int)⟩]) t' u' v' ok = W0 l t' u' v' ok := by
 rw [UQ]
 have : WN ⟨(t : Int), (u : Int), (v : Int)⟩ ⟨(t' : Int), (u' : Int), (v' : Int)⟩ = false := by
  cases hh : WN ⟨(t : Int), (u : Int), (v : Int)⟩ ⟨(t' : Int), (u' : Int), (v' : Int)⟩
  ·rfl
  ·rw [MX] at hh
   simp only [Aa.mk.injEq] at hh
   omega
 rw [this, Bool.or_false]
theorem W2 {l : List Aa} {t u v : Nat} {x : An} {row : List Bool} (hu : x.fN[u]? = some row) (hv : v < row.length) :
  Mf (l ++ [⟨(t : Int), (u : Int), (v : Int)⟩]) t x = ⟨x.fI, x.fJ, x.fO, x.fR, (x.fN.mapIdx (KP l t)).set u ((KP l t u row).set v true), x.fQ⟩ := by
 have hz : row[v]? = some row[v] := by simp [hv]
 unfold Mf
 congr 1
 rw [Ll (f := KP l t) hu (fun j y _ hj => by
  unfold KP
  exact congrArg (fun f => y.mapIdx f) (funext fun k => funext fun ok => Vy (.inr (.inl (Ne.symm hj))) ok))]
 congr 1
 unfold KP
 rw [Ll (f := W0 l t u) hz (fun j y _ hj => Vy (.inr (.inr (Ne.symm hj))) y)]
 congr 1
 rw [UQ, (MX _ _).2 rfl, Bool.or_true]
theorem Vz {ts : List An} {l : List Aa} {t u v : Nat} {x : An} {row : List Bool} (hx : ts[t]? = some x) (hu : x.fN[u]? = some row) (hv : v < row.length) :
  ts.mapIdx (Mf (l ++ [⟨(t : Int), (u : Int), (v : Int)⟩])) = (ts.mapIdx (Mf l)).set t ⟨x.fI, x.fJ, x.fO, x.fR, (x.fN.mapIdx (KP l t)).set u ((KP l t u row).set v true), x.fQ⟩ := by
 rw [Ll (f := Mf l) hx (fun j y _ hj => by
  unfold Mf
  congr 1
  exact congrArg (fun f => y.fN.mapIdx f) (funext fun k => funext fun r => congrArg (fun f => r.mapIdx f) (funext fun q => funext fun ok => Vy (.inl (Ne.symm hj)) ok))), W2 hu hv]
theorem R0 (ts : List An) : ts.mapIdx (Mf []) = ts := by
 apply List.ext_getElem?
 intro k
 rw [List.getElem?_mapIdx]
 cases ts[k]? with
 | none => rfl
 | some x =>
  have : Mf [] k x = x := by
   unfold Mf
   have : x.fN.mapIdx (KP [] k) = x.fN := by
    apply List.ext_getElem?
    intro u
    rw [List.getElem?_mapIdx]
    cases x.fN[u]? with
    | none => rfl
    | some row =>
     simp only [Option.map_some, Option.some.injEq]
     apply List.ext_getElem?
     intro v
     rw [KP, List.getElem?_mapIdx]
     cases row[v]? with
     | none => rfl
     | some ok => simp [W0, WF]
   rw [this]
  rw [Option.map_some, this]
theorem Xm (p : Ac) : Jt p [] = p := by unfold Jt; rw [R0]
theorem Px {N : Nat} (hN : N ≤ 1000000) (h20 : 100 ≤ N) {p : Ac} (hv : Bo p = 0) {l : List Aa} (hl : l.length < N) (hm : ∀ c, c ∈ l → c ∈ CV p) : GM N p l = some (Jt p l) := by
 unfold GM
 rw [Vj hN h20 hv]
 simp only [oS]
 obtain ⟨a, e, h⟩ := F8 (A := List An) (ET N l fun v3 => some ⟨p.fE, p.fK, p.fP, v3⟩) (fun a k => (a, k)) l.length (fun v3 => some ⟨p.fE, p.fK, p.fP, v3⟩) (fun i a => a = p.fF.mapIdx (Mf (l.take i)))
  (fun n i a hi ha => by
   subst ha
   have hc : l[i]? = some l[i] := by simp [hi]
   obtain ⟨t, u, v, x, row, hx, hu, hv, e⟩ := TH (hm l[i] (List.getElem_mem hi))
   have hvl := (lI.1 hv).1
   refine ⟨_, ?_, rfl⟩
   have e1 : (p.fF.mapIdx (Mf (l.take i)))[t]? = some (Mf (l.take i) t x) := by rw [List.getElem?_mapIdx, hx]; rfl
   have e2 : (Mf (l.take i) t x).fN[u]? = some (KP (l.take i) t u row) := by
    show (x.fN.mapIdx (KP (l.take i) t))[u]? = _
    rw [List.getElem?_mapIdx, hu]; rfl
   have e3 : (KP (l.take i) t u row)[v]? = some (W0 (l.take i) t u v false) := by rw [KP, List.getElem?_mapIdx, hv]; rfl
   rw [ET]
   simp only [AW, hc, oS, e, e1, e2, e3, Int.toNat_natCast]
   rw [AC (by omega), AB (by omega)]
   have : l.take (i + 1) = l.take i ++ [⟨(t : Int), (u : Int), (v : Int)⟩] := by rw [List.take_add_one, hc, e]; rfl
   rw [this, Vz hx hu hvl]
   rfl)
  (fun n a h => by
   rw [ET, Ay (by simp only; omega)]) N 0 p.fF (Nat.zero_le _) (by omega) (by rw [List.take_zero, R0])
 rw [List.take_length] at h
 subst h
 exact e
def OO (p : Ac) (l : List Aa) : Int := if Bo p = 0 then (if l.all (WF (CV p)) = true then 0 else 4) else Bo p
def V8 (p : Ac) (l : List Aa) : Ac × Int := if OO p l = 0 then (Jt p l, 0) else (⟨[], [], [], []⟩, OO p l)
theorem Rk {l : List Aa} {f : Aa → Bool} {i : Nat} (h : i < l.length) : (l.drop i).all f = (f l[i] && (l.drop (i + 1)).all f) := by
 rw [Hj (show l[i]? = some l[i] by simp [h]), List.all_cons]
theorem QW (N : Nat) (hN : N ≤ 1000000) (l e : List Aa) (he : e.length < N) (hl : l.length < 1000000) (j : Unit → Option Int) : ∀ (n i : Nat), i ≤ l.length → l.length - i < n → Fs N l e j n (i : Int) = if (l.drop i).all (WF e) = true then j () else some 4
 | 0, i, _, h => by omega
 | n + 1, i, hi, h => by
  rw [Fs]
  by_cases h1 : i < l.length
  ·have hx : l[i]? = some l[i] := by simp [h1]
   rw [AC (by omega), AW, hx]
   simp only [oS]
   rw [Ug hN he, AB (by omega), QW N hN l e he hl j n (i + 1) (by omega) (by omega), Rk h1]
   simp only [oS]
   cases WF e l[i]
   ·rfl
   ·simp only [Bool.not_true, Ao, Bool.true_and]
  ·rw [Ay (by omega), List.drop_eq_nil_of_le (by omega)]; rfl
theorem Sw {N : Nat} (hN : N ≤ 1000000) (h20 : 500 ≤ N) (p : Ac) {l : List Aa} (hl : l.length < N) : Gu N p l = some (OO p l) := by
 unfold Gu OO
 rw [Ic N p hN (by omega)]
 simp only [oS]
 by_cases hv : Bo p = 0
 ·obtain ⟨hp, _⟩ := Dt hv
  have he := OT hp
  rw [if_pos hv, hv, bne_self_eq_false, Ao, MQ hN (by omega) hp]
  simp only [oS]
  have := QW N hN l (CV p) (by omega) (by omega) (fun _ => some 0) N 0 (by omega) (by omega)
  simp only [List.drop_zero] at this
  refine Eq.trans this ?_
  split <;> rfl
 ·rw [if_neg hv, bne_iff_ne.2 hv, AR]
theorem W3 {p : Ac} {l : List Aa} (h : OO p l = 0) : Bo p = 0 ∧ ∀ c, c ∈ l → c ∈ CV p := by
 unfold OO at h
 split at h
 ·rename_i hv
  split at h
  ·rename_i ha
   exact ⟨hv, fun c hc => PX.1 (List.all_eq_true.1 ha c hc)⟩
  ·cases h
 ·rename_i hv; exact absurd h hv
theorem Ys {p : Ac} {l : List Aa} (hv : Bo p = 0) (h : ∀ c, c ∈ l → c ∈ CV p) : OO p l = 0 := by
 unfold OO
 rw [if_pos hv, if_pos (List.all_eq_true.2 fun c hc => PX.2 (h c hc))]
theorem UC {N : Nat} (hN : N ≤ 1000000) (h20 : 500 ≤ N) (p : Ac) {l : List Aa} (hl : l.length < N) : GI N p l = some (V8 p l) := by
 unfold GI V8
 rw [Sw hN h20 p hl]
 simp only [oS]
 by_cases h : OO p l = 0
 ·obtain ⟨hv, hm⟩ := W3 h
  rw [if_pos h, h, bne_self_eq_false, Ao, Px hN (by omega) hv hl hm]; rfl
 ·rw [if_neg h, bne_iff_ne.2 h, AR]
structure dJ (N : Nat) (p : Ac) : Prop where
 v : p.fE.length < N
 n : p.fK.length < N
 t : p.fP.length < N
 s : p.fF.length < N
 m : ∀ t, t ∈ p.fF → t.fN.length < N ∧ (∀ row, row ∈ t.fN → row.length < N) ∧ t.fQ.length < N ∧ ∀ row, row ∈ t.fQ → row.length < N
def bU (p : Ac) : List Aa × Int := if Bo p = 0 then (CV p, 0) else ([], Bo p)
theorem P2 {N : Nat} (hN : N ≤ 1000000) (h20 : 500 ≤ N) (p : Ac) : FQ N p = some (bU p) := by
 unfold FQ bU
 rw [Ic N p hN (by omega)]
 simp only [oS]
 by_cases hv : Bo p = 0
 ·rw [if_pos hv, hv, bne_self_eq_false, Ao, MQ hN (by omega) (Dt hv).1]; rfl
 ·rw [if_neg hv, bne_iff_ne.2 hv, AR]
structure aQ (x y : An) : Prop where
 k : y.fI = x.fI
 f : y.fJ = x.fJ
 t : y.fO = x.fO
 a : y.fR = x.fR
 r : y.fQ = x.fQ
 l : y.fN.length = x.fN.length
 o : ∀ (u : Nat) (row : List Bool), x.fN[u]? = some row → ∃ row', y.fN[u]? = some row' ∧ row'.length = row.length ∧ ∀ v : Nat, row[v]? = some true → row'[v]? = some true
structure Xq (p q : Ac) : Prop where
 v : q.fE = p.fE
 n : q.fK = p.fK
 t : q.fP = p.fP
 l : q.fF.length = p.fF.length
 o : ∀ (i : Nat) (x : An), p.fF[i]? = some x → ∃ y, q.fF[i]? = some y ∧ aQ x y
theorem aQ.st {x y : An} (h : aQ x y) : Cx y = Cx x := by unfold Cx; rw [h.k]
theorem UU {α R : Type} {f g : Nat → α → Option R} : ∀ {i : Nat} {xs ys : List α}, ys.length = xs.length → (∀ (j : Nat) x, xs[j]? = some x → ∃ y, ys[j]? = some y ∧ g (i + j) y = f (i + j) x) → En g i ys = En f i xs
 | _, [], [], _, _ => rfl
 | _, [], y :: ys, h, _ => by simp at h
 | _, x :: xs, [], h, _ => by simp at h
 | i, x :: xs, y :: ys, h, hh => by
  obtain ⟨y', e1, e2⟩ := hh 0 x rfl
  simp only [List.getElem?_cons_zero, Option.some.injEq] at e1
  subst e1
  rw [Hf, Hf, show g i y = f i x from e2, UU (by simpa using h) fun j x' hx => by
   obtain ⟨y', e1, e2⟩ := hh (j + 1) x' (by simpa using hx)
   exact ⟨y', by simpa using e1, by rwa [show i + (j + 1) = i + 1 + j from by omega] at e2⟩]
theorem Zd {x y : An} (h : aQ x y) (m : Int) : (y.fN.all fun r => decide ((r.length : Int) = m)) = (x.fN.all fun r => decide ((r.length : Int) = m)) := by
 rw [Bool.eq_iff_iff, List.all_eq_true, List.all_eq_true]
 constructor
 ·intro hy r hr
  obtain ⟨u, hu⟩ := List.mem_iff_getElem?.1 hr
  obtain ⟨r', e1, e2, _⟩ := h.o u r hu
  have := hy r' (lM e1)
  rwa [e2] at this
 ·intro hx r hr
  obtain ⟨u, hu⟩ := List.mem_iff_getElem?.1 hr
  have hl := (lI.1 hu).1
  have hz : x.fN[u]? = some (x.fN[u]'(by rw [← h.l]; exact hl)) := by simp [show u < x.fN.length by rw [← h.l]; exact hl]
  obtain ⟨r', e1, e2, _⟩ := h.o u _ hz
  rw [hu] at e1; cases e1
  rw [e2]
  exact hx _ (lM hz)
theorem bM {x y : An} (h : aQ x y) (n m : Int) : sq y.fN n m = sq x.fN n m := by
 unfold sq; rw [h.l, Zd h]
theorem Vr {p q : Ac} (h : Xq p q) {x y : An} (hx : aQ x y) : EW q y = EW p x := by
 unfold EW
 simp only [h.v, hx.k, hx.f, hx.t, hx.a, hx.r, bM hx]
theorem Qp {p q : Ac} (h : Xq p q) : Bo q = Bo p := by
 unfold Bo
 have e1 : En (MB q) 0 q.fF = En (MB p) 0 p.fF := UU h.l fun j x hx => by
  obtain ⟨y, hy, ht⟩ := h.o j x hx
  exact ⟨y, hy, by unfold MB; rw [Vr h ht]⟩
 have e2 : G7 q = G7 p := by unfold G7; rw [h.n, h.t]
 rw [e1, e2, h.v, h.n, h.t, h.l]
theorem ae {β : Type} {p q : Ac} (h : Xq p q) {f g : An → β} (hf : ∀ x y, aQ x y → g y = f x) : q.fF.map g = p.fF.map f := by
 apply List.ext_getElem?
 intro i
 rw [List.getElem?_map, List.getElem?_map]
 by_cases hi : i < p.fF.length
 ·have hx : p.fF[i]? = some p.fF[i] := by simp [hi]
  obtain ⟨y, hy, ht⟩ := h.o i _ hx
  rw [hx, hy, Option.map_some, Option.map_some, hf _ _ ht]
 ·rw [List.getElem?_eq_none (by rw [h.l]; omega), List.getElem?_eq_none (by omega)]; rfl
theorem VF {p q : Ac} (h : Xq p q) : EA q = EA p := by
 unfold EA
 rw [h.n, ae h (f := GT p) (g := GT q) fun x y ht => by unfold GT; rw [ht.st, ht.f, h.n]]
theorem Vu {p q : Ac} (h : Xq p q) (s : Ag) (held : List Int) : I4 q s held = I4 p s held := by
 unfold I4
 have : ∀ (xs ys : List An) (i : Nat) (a : List Int), ys.length = xs.length → (∀ (j : Nat) x, xs[j]? = some x → ∃ y, ys[j]? = some y ∧ aQ x y) → IY (Up s) i ys a = IY (Up s) i xs a := by
  intro xs
  induction xs with
  | nil => intro ys i a hl _; rw [List.length_eq_zero_iff.1 (by simpa using hl : ys.length = 0)]
  | cons x xs ih =>
   intro ys i a hl hh
   cases ys with
   | nil => simp at hl
   | cons y ys =>
    obtain ⟨y', e1, e2⟩ := hh 0 x rfl
    simp only [List.getElem?_cons_zero, Option.some.injEq] at e1
    subst e1
    have : Up s i y a = Up s i x a := by unfold Up V3; rw [e2.f, e2.st]
    rw [IY, IY, this]
    exact ih ys (i + 1) _ (by simpa using hl) fun j x' hx => by
     obtain ⟨y', e1, e2⟩ := hh (j + 1) x' (by simpa using hx)
     exact ⟨y', by simpa using e1, e2⟩
 exact this _ _ _ _ h.l h.o
theorem U4 {p q : Ac} (h : Xq p q) (m : Af) (s : Ag) : GB q m s = GB p m s := by
 unfold GB
 simp only [Vu h]
 by_cases hi : s.fL.toNat < p.fF.length
 ·have hx : p.fF[s.fL.toNat]? = some p.fF[s.fL.toNat] := by simp [hi]
  obtain ⟨y, hy, ht⟩ := h.o _ _ hx
  rw [hx, hy]
  have : IG q m s.fL.toNat y = IG p m s.fL.toNat p.fF[s.fL.toNat] := by
   unfold IG PL Mh; rw [ht.k, ht.f, ht.r]
  simp only [this, ht.st, ht.f]
 ·rw [List.getElem?_eq_none (by rw [h.l]; omega), List.getElem?_eq_none (by omega)]
theorem P8 {p q : Ac} (h : Xq p q) (m : Af) (s : Ag) : A4 q m s = A4 p m s := by
 unfold A4 He
 rw [h.v, h.l, U4 h]
theorem SS {p q : Ac} (h : Xq p q) : E2 q = E2 p := by
 unfold E2; rw [h.v, h.l]
theorem V0 {p q : Ac} (h : Xq p q) {m : Af} (hc : FP p m = []) : FP q m = [] := by
 unfold FP at hc ⊢
 rw [Lj] at hc ⊢
 intro i y hy
 have hi : i < p.fF.length := by rw [← h.l]; exact (lI.1 hy).1
 have hx : p.fF[i]? = some p.fF[i] := by simp [hi]
 obtain ⟨y', hy', ht⟩ := h.o i _ hx
 rw [hy] at hy'; cases hy'
 have hci := hc i _ hx
 unfold K5 at hci ⊢
 rw [Lj] at hci ⊢
 intro u row' hu'
 have hu : u < (p.fF[i]).fN.length := by rw [← ht.l]; exact (lI.1 hu').1
 have hr : (p.fF[i]).fN[u]? = some (p.fF[i]).fN[u] := by simp [hu]
 obtain ⟨r2, e1, e2, e3⟩ := ht.o u _ hr
 rw [hu'] at e1; cases e1
 have hcu := hci u _ hr
 have hw : TN m (0 + i) y (0 + u) = TN m (0 + i) p.fF[i] (0 + u) := by unfold TN; rw [ht.st, ht.f]
 rw [hw]
 cases hwb : TN m (0 + i) p.fF[i] (0 + u)
 ·rfl
 ·rw [hwb, if_pos rfl] at hcu
  rw [if_pos rfl]
  unfold Lc at hcu ⊢
  rw [List.append_eq_nil_iff] at hcu ⊢
  have hfalse : ∀ (v : Nat), row'[v]? = some false → (p.fF[i]).fN[u][v]? = some false := fun v hv => by
   have hvl : v < (p.fF[i]).fN[u].length := by rw [← e2]; exact (lI.1 hv).1
   have hz : (p.fF[i]).fN[u][v]? = some (p.fF[i]).fN[u][v] := by simp [hvl]
   cases hb : (p.fF[i]).fN[u][v]
   ·rw [hz, hb]
   ·rw [hb] at hz
    have := e3 v hz
    rw [hv] at this; cases this
  refine ⟨?_, ?_⟩
  ·have h1 := hcu.1
   rw [Lj] at h1 ⊢
   intro v ok hv
   cases ok
   ·have := h1 v false (hfalse v hv)
    unfold gC at this ⊢
    rw [ht.t, ht.a]; exact this
   ·unfold gC; simp
  ·have h2 := hcu.2
   rw [ht.a]
   cases ha : (p.fF[i]).fR
   ·simp
   ·rw [ha] at h2
    cases hb : M4 (hC m p.fF[i]) 0 (p.fF[i]).fN[u]
    ·rw [hb] at h2; simp at h2
    ·obtain ⟨v, ok, hv, hh⟩ := QZ.1 hb
     unfold hC at hh
     rw [Bool.and_eq_true] at hh
     have hok : ok = true := hh.2
     subst hok
     have : M4 (hC m y) 0 row' = true := QZ.2 ⟨v, true, e3 v hv, by unfold hC; rw [ht.t, hh.1]; rfl⟩
     rw [this]; simp
theorem OG {p q : Ac} (h : Xq p q) {m : Af} (hr : By p m = true) : By q m = true := by
 unfold By Jw at hr ⊢
 rw [Uc] at hr ⊢
 intro j x hx
 have := hr j x hx
 rw [Ud] at this ⊢
 exact V0 h this
def dU (p : Ac) : Prop := By p (EA p) = true ∧ ∃ u, Lv p (EA p) u = true
theorem Vm {p q : Ac} (h : Xq p q) (hv : Bo p = 0) (hq : Pg q) : Pg p := by
 have hvq : Bo q = 0 := by rw [Qp h]; exact hv
 have hmq := Mz hvq
 obtain ⟨hpq, _⟩ := Dt hvq
 unfold Pg at hq ⊢
 rw [VF h] at hq hmq
 cases hr : By p (EA p)
 ·exact .inl rfl
 ·have hrq := OG h hr
  rcases hq with hq | ⟨l, hs⟩
  ·rw [hrq] at hq; cases hq
  ·obtain ⟨ws, hg⟩ := VV hpq hmq hrq hs
   have hl : l.length ≤ 120 := Bfs.go_len _ _ _ _ (by simp) hs
   refine .inr (P6 (S := KO l) (by unfold KO; rw [List.length_map]; exact hl) ?_ 1000 0 [(EA p, -1, Nl)] (by simp [KO]) (fun y hy => ?_) (Nat.zero_le _) (by omega))
   ·intro y hy w hw
    obtain ⟨⟨y0, f, s⟩, hm, rfl⟩ := List.mem_map.1 hy
    obtain ⟨k, hk⟩ := List.mem_iff_getElem?.1 hm
    obtain ⟨hw1, hw2, hw3⟩ := PY.1 hw
    have hwq : w ∈ JP q y0 := by
     refine PY.2 ⟨?_, by rw [hw2, P8 h], OG h hw3⟩
     have := Ji hw1
     unfold Hb
     rw [SS h]
     exact List.mem_filter.2 ⟨this.1, by rw [P8 h]; simpa using this.2⟩
    have hkl := Bfs.lt_get hk
    obtain ⟨wy, hwy⟩ := Bfs.get_ex (l := ws) (k := k) (by rw [hg.inv.len]; exact hkl)
    obtain ⟨k', f', s', w', e1, _, _⟩ := hg.inv.closed k y0 f s wy hk hwy w (.inl ⟨hkl, hwq⟩)
    exact List.mem_map.2 ⟨_, lM e1, rfl⟩
   ·simp only [KO, List.map_cons, List.map_nil, List.mem_singleton] at hy
    subst hy
    obtain ⟨s0, hs0⟩ := hg.inv.root
    exact List.mem_map.2 ⟨_, lM hs0, rfl⟩
theorem Uv {p : Ac} {l l' : List Aa} (h : ∀ c, c ∈ l → c ∈ l') : Xq (Jt p l) (Jt p l') := by
 refine ⟨rfl, rfl, rfl, by simp only [Jt, List.length_mapIdx], fun i x hx => ?_⟩
 simp only [Jt] at hx ⊢
 rw [List.getElem?_mapIdx] at hx ⊢
 cases hz : p.fF[i]? with
 | none => rw [hz] at hx; cases hx
 | some z =>
  rw [hz] at hx
  simp only [Option.map_some, Option.some.injEq] at hx
  subst hx
  refine ⟨_, rfl, ⟨rfl, rfl, rfl, rfl, rfl, by simp only [Mf, List.length_mapIdx], fun u row hu => ?_⟩⟩
  simp only [Mf] at hu ⊢
  rw [List.getElem?_mapIdx] at hu ⊢
  cases hr : z.fN[u]? with
  | none => rw [hr] at hu; cases hu
  | some r =>
   rw [hr] at hu
   simp only [Option.map_some, Option.some.injEq] at hu
   subst hu
   refine ⟨_, rfl, by simp only [KP, List.length_mapIdx], fun v hv => ?_⟩
   simp only [KP] at hv ⊢
   rw [List.getElem?_mapIdx] at hv ⊢
   cases hb : r[v]? with
   | none => rw [hb] at hv; cases hv
   | some b =>
    rw [hb] at hv
    simp only [Option.map_some, Option.some.injEq] at hv ⊢
    unfold W0 at hv ⊢
    rw [Bool.or_eq_true] at hv ⊢
    exact hv.imp id fun hv => PX.2 (h _ (PX.1 hv))
theorem KT (p : Ac) (l : List Aa) : Bo (Jt p l) = Bo p := by
 have := Qp (Uv (p := p) (l := []) (l' := l) fun c hc => by cases hc)
 rw [Xm] at this
 exact this
theorem Sv : F3 1000 = some true := by kernel_rfl
def HX : List Aa → Nat → List (List Aa)
 | _, 0 => [[]]
 | [], _ + 1 => []
 | x :: l, k + 1 => (HX l k).map (fun s => x :: s) ++ HX l (k + 1)
theorem NI (l : List Aa) : HX l 0 = [[]] := by cases l <;> rfl
theorem Uu {α β : Type} (g : Nat → α → List β) : ∀ (i : Nat) (xs : List α), Cm g (i + 1) xs = Cm (fun j x => g (j + 1) x) i xs
 | _, [] => rfl
 | i, x :: xs => by rw [Cm, Cm, Uu g (i + 1) xs]
theorem QV (k : Nat) : ∀ (l : List Aa), HX l (k + 1) = Cm (fun i c => (HX (l.drop (i + 1)) k).map fun s => c :: s) 0 l
 | [] => rfl
 | x :: l => by
  rw [HX, Cm, Uu, QV k l]
  rfl
theorem Ki : ∀ (l : List Aa) (k : Nat), (HX l k).length ≤ 2 ^ l.length
 | l, 0 => by rw [NI]; exact Nat.one_le_two_pow
 | [], _ + 1 => by simp [HX]
 | x :: l, k + 1 => by
  rw [HX, List.length_append, List.length_map, List.length_cons, Nat.pow_succ]
  have := Ki l k
  have := Ki l (k + 1)
  omega
theorem Kk : ∀ (l : List Aa) (k : Nat) (s : List Aa), s ∈ HX l k ↔ s.Sublist l ∧ s.length = k
 | l, 0, s => by
  rw [NI, List.mem_singleton]
  constructor
  ·rintro rfl; exact ⟨List.nil_sublist _, rfl⟩
  ·rintro ⟨_, h⟩; exact List.length_eq_zero_iff.1 h
 | [], k + 1, s => by
  simp only [HX, List.not_mem_nil, false_iff]
  rintro ⟨h1, h2⟩
  rw [List.sublist_nil.1 h1] at h2; cases h2
 | x :: l, k + 1, s => by
  rw [HX, List.mem_append, List.mem_map, Kk l (k + 1)]
  constructor
  ·rintro (⟨r, hr, rfl⟩ | ⟨h1, h2⟩)
   ·obtain ⟨h1, h2⟩ := (Kk l k r).1 hr
    exact ⟨h1.cons_cons x, by rw [List.length_cons, h2]⟩
   ·exact ⟨h1.cons x, h2⟩
  ·rintro ⟨h1, h2⟩
   cases h1 with
   | cons _ h => exact .inr ⟨h, h2⟩
   | cons_cons _ h => exact .inl ⟨_, (Kk l k _).2 ⟨h, by simpa using h2⟩, rfl⟩
theorem KC {n : Nat} (h : n ≤ 7) : 2 ^ n ≤ 128 := Nat.pow_le_pow_right (n := 2) (by omega) h
theorem PB (N : Nat) (hN : N ≤ 1000000) (h20 : 500 ≤ N) : ∀ (k f : Nat) (l : List Aa), k < f → k ≤ 3 → l.length ≤ 7 → EG N f l (k : Int) = some (HX l k)
 | k, 0, l, h, _, _ => by omega
 | 0, f + 1, l, _, _, _ => by rw [NI]; rfl
 | k + 1, f + 1, l, hf, hk, hl => by
  have p128 := KC hl
  rw [EG, HL, beq_eq_false_iff_ne.2 (by omega : ((k + 1 : Nat) : Int) ≠ 0), Ao]
  rw [DM (Ef N l ((k + 1 : Nat) : Int) (EG N f) _) (fun a i => (a, i)) l some (fun i c => (HX (l.drop (i + 1)) k).map fun s => c :: s) 128 2000
   (fun i c hc => by
    have := Ki (l.drop (i + 1)) k
    have := KC (show (l.drop (i + 1)).length ≤ 7 by rw [List.length_drop]; omega)
    rw [List.length_map]; omega)
   (fun n i c a hc ha => by
    have hi := (lI.1 hc).1
    have hd : (l.drop (i + 1)).take (l.length - (i + 1)) = l.drop (i + 1) := List.take_of_length_le (by rw [List.length_drop]; omega)
    have hlen := Ki (l.drop (i + 1)) k
    have hpow := KC (show (l.drop (i + 1)).length ≤ 7 by rw [List.length_drop]; omega)
    have hw : wI .i64 (((k + 1 : Nat) : Int) - 1) = (k : Int) := by rw [Dy (by omega) (by omega)]; omega
    rw [Ef]
    simp only [AW, hc, oS]
    rw [AC (by omega), AB (by omega), Ap (by omega), Int.toNat_natCast, hd, hw, PB N hN h20 k f _ (by omega) (by omega) (by rw [List.length_drop]; omega)]
    simp only [oS]
    rw [List.length_map] at ha
    rw [DM (EU N c (HX (l.drop (i + 1)) k) _) (fun a i => (a, i)) (HX (l.drop (i + 1)) k) (fun v9 => Ef N l ((k + 1 : Nat) : Int) (EG N f) some n (v9, ((i + 1 : Nat) : Int))) (fun _ s => [c :: s]) 1 3000
     (fun j s hs => by simp)
     (fun n2 j s b hs hb => by
      have hj := (lI.1 hs).1
      have hsl := (List.Sublist.length_le ((Kk _ _ s).1 (lM hs)).1)
      rw [List.length_drop] at hsl
      rw [EU]
      simp only [AW, hs, oS]
      rw [AC (by omega), Ap (by simp only [List.length_singleton]; unfold DU; omega), Ap (by simp only [List.length_singleton] at hb ⊢; unfold DU; omega), AB (by omega)]
      rfl)
     (fun n2 b => by
      rw [EU, Ay (by omega)]) N a (by omega) (by omega)]
    rw [KK (fun _ s => c :: s)]
    have : (HX (l.drop (i + 1)) k).mapIdx (fun _ s => c :: s) = (HX (l.drop (i + 1)) k).map fun s => c :: s := by
     apply List.ext_getElem?; intro q; rw [List.getElem?_mapIdx, List.getElem?_map]
    rw [this])
   (fun n a => by
    rw [Ef, Ay (by omega)]) N [] (by omega) (by simp only [List.length_nil]; omega)]
  rw [List.nil_append, QV]
structure JB (p : Ac) : Prop where
 v : Bo p = 0
 e : (CV p).length ≤ 7
 l : Pg (Jt p (CV p))
def Wi (p : Ac) (l : List Aa) : Bool := match Gi 1000 (Jt p l) with
 | some r => r.2 == 0
 | none => false
theorem WL {N : Nat} (hN : N ≤ 1000000) (h1 : 1000 ≤ N) {p : Ac} (hv : Bo p = 0) {m : Af} (hm : Cl p m) (hr : By p m = true) {l : List KN} (hs : KM p m 120 1000 = some l) :
  ∃ r, GR N p m = some r ∧ UT p m r := by
 obtain ⟨hp, _⟩ := Dt hv
 obtain ⟨ws, h⟩ := VV hp hm hr hs
 have hl : l.length ≤ 120 := Bfs.go_len _ _ _ _ (by simp) hs
 refine ⟨_, SM (N := N) (by omega) (by omega) hv hm hr (by omega) (by omega) (Bfs.go_more (Nat.le_refl _) _ _ _ _ _ h1 hs) (by omega) h, ?_⟩
 rcases WX hp h with ⟨k1, h2, h3⟩ | k1
 ·exact .inl ⟨k1, h2, by omega⟩
 ·exact .inr k1
theorem Ve {N : Nat} (hN : N ≤ 1000000) (h1 : 1000 ≤ N) {p : Ac} (hv : Bo p = 0) {m : Af} (hm : Cl p m) (hr : By p m = false) : GR N p m = some ([], 13) := by
 unfold GR
 rw [Lg N p m (by omega) (by omega) (LA hm) (I8 hv hm), hr]; rfl
theorem WV {N : Nat} (hN : N ≤ 1000000) (h1 : 1000 ≤ N) {p : Ac} (hv : Bo p = 0) (hl : Pg p) : ∃ r, Gi N p = some r ∧ N6 p r := by
 have hm := Mz hv
 unfold Gi
 rw [SY N p (by omega) (by omega), if_pos hv]
 simp only [oS, hv, bne_self_eq_false, Ao]
 cases hr : By p (EA p)
 ·rw [Ve hN h1 hv hm hr]
  exact ⟨_, rfl, .inl ⟨hr, rfl⟩⟩
 ·rcases hl with h | ⟨l, hs⟩
  ·rw [hr] at h; cases h
  ·obtain ⟨r, e1, e3⟩ := WL hN h1 hv hm hr hs
   rw [e1]
   exact ⟨r, rfl, .inr ⟨hr, e3⟩⟩
theorem VM {N : Nat} (hN : N ≤ 1000000) (h1 : 1000 ≤ N) {p : Ac} (hu : JB p) {l : List Aa} (hl : ∀ c, c ∈ l → c ∈ CV p) : ∃ r, Gi N (Jt p l) = some r ∧ N6 (Jt p l) r :=
 WV hN h1 (by rw [KT]; exact hu.v) (Vm (Uv hl) (by rw [KT]; exact hu.v) hu.l)
theorem Q5 {p : Ac} {r : List Ag × Int} (h : N6 p r) : ((r.2 == 0) = true ↔ dU p) ∧ (r.2 == 3) = false ∧ (r.2 = 0 ∨ r.2 = 13 ∨ r.2 = 14) := by
 rcases h with ⟨h1, h2⟩ | ⟨h1, ⟨h2, h3, _⟩ | ⟨h2, h3⟩⟩
 ·subst h2
  refine ⟨⟨(fun h => by cases h), fun h => ?_⟩, rfl, .inr (.inl rfl)⟩
  rw [h.1] at h1; cases h1
 ·rw [h2]
  exact ⟨⟨fun _ => ⟨h1, _, h3.1⟩, fun _ => rfl⟩, rfl, .inl rfl⟩
 ·subst h2
  refine ⟨⟨(fun h => by cases h), fun h => ?_⟩, rfl, .inr (.inr rfl)⟩
  obtain ⟨_, u, hu⟩ := h
  rw [h3 u] at hu; cases hu
theorem Z0 {p : Ac} (hu : JB p) {l : List Aa} (hl : ∀ c, c ∈ l → c ∈ CV p) : Wi p l = true ↔ dU (Jt p l) := by
 obtain ⟨r, e1, e3⟩ := VM (N := 1000) (by omega) (by omega) hu hl
 unfold Wi
 rw [e1]
 exact (Q5 e3).1
theorem Zh {p : Ac} (hu : JB p) {l : List Aa} (hl : ∀ c, c ∈ l → c ∈ CV p) {r : List Ag × Int} (h : N6 (Jt p l) r) : (r.2 == 0) = Wi p l := by
 rw [Bool.eq_iff_iff, Z0 hu hl]; exact (Q5 h).1
theorem Vf {N : Nat} (hN : N ≤ 1000000) (h1 : 1000 ≤ N) {p : Ac} (hu : JB p) {l : List Aa} (hl : ∀ c, c ∈ l → c ∈ CV p) (hs : l.length < 1000) : ER N p l = some (Wi p l, 0) := by
 obtain ⟨r, e1, e3⟩ := VM hN h1 hu hl
 unfold ER
 rw [Px hN (by omega) hu.v (by omega) hl]
 simp only [oS, e1, (Q5 e3).2.1, Ao, Zh hu hl e3]
def Ia (p : Ac) (k : Nat) : List (List Aa) := (HX (CV p) k).filter (Wi p)
theorem Oy {p : Ac} {k : Nat} {s : List Aa} : s ∈ Ia p k ↔ s.Sublist (CV p) ∧ s.length = k ∧ Wi p s = true := by
 unfold Ia
 rw [List.mem_filter, Kk, and_assoc]
def Q6 (p : Ac) : Nat → Nat → List (List Aa) × Int
 | 0, _ => ([], 14)
 | n + 1, k => if Ia p k = [] then Q6 p n (k + 1) else (Ia p k, 0)
theorem OB {α : Type} (f : α → Bool) : ∀ (i : Nat) (xs : List α), Cm (fun _ x => if f x = true then [x] else []) i xs = xs.filter f
 | _, [] => rfl
 | i, x :: xs => by
  rw [Cm, OB f (i + 1) xs, List.filter_cons]
  split <;> rfl
theorem WS {N : Nat} (hN : N ≤ 1000000) (h1 : 1000 ≤ N) {p : Ac} (hu : JB p) (k : Nat) (j : List (List Aa) → Option (List (List Aa) × Int)) : EI N p (HX (CV p) k) j N ([], 0) = j (Ia p k) := by
 have hl := Ki (CV p) k
 have hp := KC hu.e
 rw [DM (EI N p (HX (CV p) k) j) (fun a i => (a, i)) (HX (CV p) k) j (fun _ s => if Wi p s = true then [s] else []) 1 500
  (fun i s hs => by split <;> simp)
  (fun n i s a hs ha => by
   have hi := (lI.1 hs).1
   obtain ⟨k1, h2⟩ := (Kk _ _ s).1 (lM hs)
   have h3 := k1.length_le
   have := hu.e
   rw [EI]
   simp only [AW, hs, oS, Bi]
   rw [AC (by omega), Vf hN h1 hu (fun c hc => k1.subset hc) (by omega), AB (by omega)]
   simp only [oS, bne_self_eq_false, Ao]
   cases hb : Wi p s
   ·rw [Ao, if_neg (by simp), List.append_nil]
   ·rw [hb, if_pos rfl] at ha
    rw [AR, if_pos rfl, Ap (by simp only [List.length_singleton] at ha ⊢; unfold DU; omega)])
  (fun n a => by
   rw [EI, Ay (by omega)]) N [] (by omega) (by simp only [List.length_nil]; omega)]
 rw [List.nil_append, OB]; rfl
theorem Sn {N : Nat} (hN : N ≤ 1000000) (h1 : 1000 ≤ N) {p : Ac} (hu : JB p) : ∀ (n k m : Nat), k + n = 4 → n < m → Fh N p (fun _ => some ([], 14)) m (CV p, (k : Int)) = some (Q6 p n k)
 | n, k, 0, _, h => by omega
 | 0, k, m + 1, hk, _ => by
  rw [Fh, Ay (by omega)]; rfl
 | n + 1, k, m + 1, hk, hm => by
  rw [Fh, AC (by omega)]
  simp only [JY]
  rw [PB N (by omega) (by omega) k N _ (by omega) (by omega) hu.e]
  simp only [oS]
  rw [WS hN h1 hu k, AB (by omega), Q6]
  cases hr : Ia p k with
  | nil =>
   rw [if_pos rfl, Ay (by simp)]
   exact Sn hN h1 hu n (k + 1) m (by omega) (by omega)
  | cons s l =>
   rw [if_neg (by simp), AC (by simp only [List.length_cons]; omega)]
def bv (p : Ac) : List (List Aa) × Int := Q6 p 4 0
theorem VG {N : Nat} (hN : N ≤ 1000000) (h1 : 1000 ≤ N) {p : Ac} (hu : JB p) : GA N p = some (bv p) := by
 unfold GA
 have := hu.e
 rw [P2 (by omega) (by omega)]
 unfold bU
 rw [if_pos hu.v]
 simp only [oS, bne_self_eq_false, Ao]
 rw [Ay (by omega)]
 exact Sn hN h1 hu 4 0 N rfl (by omega)
theorem Qn (p : Ac) : ∀ (n k : Nat), (Q6 p n k = ([], 14) ∧ ∀ j, k ≤ j → j < k + n → Ia p j = []) ∨ ∃ j, k ≤ j ∧ j < k + n ∧ Q6 p n k = (Ia p j, 0) ∧ Ia p j ≠ [] ∧ ∀ i, k ≤ i → i < j → Ia p i = []
 | 0, k => .inl ⟨rfl, fun j h1 h2 => by omega⟩
 | n + 1, k => by
  rw [Q6]
  by_cases h : Ia p k = []
  ·rw [if_pos h]
   rcases Qn p n (k + 1) with ⟨h1, h2⟩ | ⟨j, h1, h2, h3, h4, h5⟩
   ·exact .inl ⟨h1, fun j hj1 hj2 => by
     by_cases e : j = k
     ·rw [e]; exact h
     ·exact h2 j (by omega) (by omega)⟩
   ·exact .inr ⟨j, by omega, by omega, h3, h4, fun i hi1 hi2 => by
     by_cases e : i = k
     ·rw [e]; exact h
     ·exact h5 i (by omega) hi2⟩
  ·rw [if_neg h]
   exact .inr ⟨k, Nat.le_refl _, by omega, rfl, h, fun i h1 h2 => by omega⟩
theorem W1 (p : Ac) : (bv p = ([], 14) ∧ ∀ j, j < 4 → Ia p j = []) ∨ ∃ j, j < 4 ∧ bv p = (Ia p j, 0) ∧ Ia p j ≠ [] ∧ ∀ i, i < j → Ia p i = [] := by
 rcases Qn p 4 0 with ⟨h1, h2⟩ | ⟨j, _, h2, h3, h4, h5⟩
 ·exact .inl ⟨h1, fun j hj => h2 j (Nat.zero_le _) (by omega)⟩
 ·exact .inr ⟨j, by omega, h3, h4, fun i hi => h5 i (Nat.zero_le _) hi⟩
theorem V2 {p : Ac} (hp : Bk p) {m : Af} (hm : Cl p m) (hr : By p m = true) {n : Nat} {l : List KN} (hs : KM p m 60 n = some l) : ∃ l', KM p m 120 1000 = some l' := by
 obtain ⟨ws, hg⟩ := VV hp hm hr hs
 have hl : l.length ≤ 60 := Bfs.go_len _ _ _ _ (by simp) hs
 refine P6 (S := KO l) (by unfold KO; rw [List.length_map]; omega) ?_ 1000 0 [(m, -1, Nl)] (by simp [KO]) (fun y hy => ?_) (Nat.zero_le _) (by omega)
 ·intro y hy w hw
  obtain ⟨⟨y0, f, s⟩, hmem, rfl⟩ := List.mem_map.1 hy
  obtain ⟨k, hk⟩ := List.mem_iff_getElem?.1 hmem
  have hkl := Bfs.lt_get hk
  obtain ⟨wy, hwy⟩ := Bfs.get_ex (l := ws) (k := k) (by rw [hg.inv.len]; exact hkl)
  obtain ⟨k', f', s', w', e1, _, _⟩ := hg.inv.closed k y0 f s wy hk hwy w (.inl ⟨hkl, hw⟩)
  exact List.mem_map.2 ⟨_, lM e1, rfl⟩
 ·simp only [KO, List.map_cons, List.map_nil, List.mem_singleton] at hy
  subst hy
  obtain ⟨s0, hs0⟩ := hg.inv.root
  exact List.mem_map.2 ⟨_, lM hs0, rfl⟩
theorem VQ {N : Nat} (hN : N ≤ 1000000) (h1 : 1000 ≤ N) {p : Ac} (hv : Bo p = 0) : ∃ b, F4 N p 60 = some b ∧ (b = true → Pg p) := by
 obtain ⟨hp, _⟩ := Dt hv
 have hm := Mz hv
 unfold F4
 rw [OP N p (by omega) (by omega), if_pos hv]
 simp only [oS, Bi, hv, bne_self_eq_false, Ao]
 rw [Ns N p _ (by omega) (by omega) hp hm]
 simp only [oS]
 cases hr : By p (EA p)
 ·exact ⟨true, rfl, fun _ => .inl hr⟩
 ·have e := Tv (N := N) (by omega) (by omega) hv hm hr (most := 60) (by omega) (by omega) (.inl (by omega))
  have e' : E9 N p (EA p) 60 = _ := e
  rw [Bool.not_true, Ao, e']
  cases hs : KM p (EA p) 60 N with
  | none => exact ⟨false, rfl, fun h => by cases h⟩
  | some l => exact ⟨true, rfl, fun _ => .inr (V2 hp hm hr hs)⟩
theorem XL {N : Nat} (hN : N ≤ 1000000) (h1 : 1000 ≤ N) (d : B1) (wd : GS d) : ∃ p b, G1 N d = some (p, b) ∧ (b = true → JB p) := by
 obtain ⟨p, ok, e, h⟩ := fg N d (by omega) (by omega) wd
 unfold G1
 rw [e]
 simp only [oS, Bi]
 cases ok
 ·exact ⟨p, false, rfl, fun h => by cases h⟩
 ·rw [AR]
  have hv := (h rfl).valid
  obtain ⟨hp, _⟩ := Dt hv
  have he := OT hp
  by_cases h2 : (p.fE.length : Int) ≤ 2
  ·rw [AC h2]
   unfold GQ
   rw [Q7 (by omega) (by omega) hp]
   simp only [oS, Bi]
   by_cases h7 : ((CV p).length : Int) ≤ 7
   ·rw [AC h7, UR (by omega) (by omega) hp (by omega)]
    simp only [oS]
    obtain ⟨b, e2, h3⟩ := VQ hN h1 (p := Jt p (CV p)) (by rw [KT]; exact hv)
    rw [e2]
    exact ⟨p, b, rfl, fun hb => ⟨hv, by omega, h3 hb⟩⟩
   ·rw [Ay h7]
    exact ⟨p, false, rfl, fun h => by cases h⟩
  ·rw [Ay h2]
   exact ⟨p, false, rfl, fun h => by cases h⟩
theorem Zn (N : Nat) (l : List Aa) (i : Nat) (hi : i < l.length) (hl : l.length ≤ 1000) : ∃ X, Bm N l (i : Int) (((i + 1 : Nat) : Int)) = some (l.length - 1, X) ∧ X.take (l.length - 1) = l.eraseIdx i ∧ l.length - 1 ≤ X.length := by
 unfold Bm
 have e1 : ((l.drop (i + 1)).take (l.length - (i + 1))) = l.drop (i + 1) := List.take_of_length_le (by simp)
 have e2 : i + (l.drop (i + 1)).length = l.length - 1 := by simp; omega
 have e3 : (HP l (0 + i) (l.drop (i + 1))).length = l.length := Hw (by simp; omega)
 simp only [Int.toNat_natCast, e1, e2, e3]
 rw [Ap ⟨by omega, by omega, by omega, by omega, by omega, Nat.le_refl _⟩, beq_eq_false_iff_ne.2 (show (i : Int) ≠ ((i + 1 : Nat) : Int) by omega), Ao,
  Ap ⟨by omega, by omega, by omega⟩, Ap ⟨by omega, by omega, Nat.le_refl _⟩, Ap (by omega), Ap ⟨by omega, by omega, by omega, Nat.le_refl _⟩]
 refine ⟨_, rfl, ?_, ?_⟩
 ·rw [XG]
  unfold HP
  rw [Nat.zero_add, List.append_assoc]
  have h1 : (l.take i ++ l.drop (i + 1) ++ l.drop (i + (l.drop (i + 1)).length)).take (l.length - 1) = l.take i ++ l.drop (i + 1) := by
   have : (l.take i ++ l.drop (i + 1)).length = l.length - 1 := by simp; omega
   rw [List.take_append_of_le_length (by omega), List.take_of_length_le (by omega)]
  rw [h1, List.take_append_of_le_length (by simp; omega), List.take_of_length_le (by simp; omega)]
 ·rw [Hw (by rw [e3, List.length_replicate]; omega), e3]; omega
theorem XK {p : Ac} (hv : Bo p = 0) {l : List Aa} (h : ∀ c, c ∈ l → c ∈ CV p) : V8 p l = (Jt p l, 0) := by
 unfold V8; rw [if_pos (Ys hv h)]
theorem Sl {p : Ac} (hu : JB p) {l : List Aa} (hl : ∀ c, c ∈ l → c ∈ CV p) (hs : l.length < 1000) (b : Bool) (hb : Wi p l = b) (K : Option Bool) (j24 : Bool → Option Bool) (hj : j24 false = K) :
  ((GI 1000 p l).bind fun v22 => (Gi 1000 v22.1).bind fun v23 => AU ((v22.2 != 0)) (j24 true) (AU ((!((v23.2 == 0) == b))) (j24 true) (AU ((v23.2 == 0)) ((E7 1000 v22.1 v23.1).bind fun v28 => j24 (!v28)) (j24 false)))) = K := by
 obtain ⟨r, e1, e3⟩ := VM (N := 1000) (by omega) (by omega) hu hl
 have hpl : Wi p l = (r.2 == 0) := by unfold Wi; rw [e1]
 rw [UC (by omega) (by omega) p hs, XK hu.v hl]
 simp only [oS, e1, bne_self_eq_false, Ao]
 rw [← hpl, hb]
 simp only [beq_self_eq_true, Bool.not_true, Ao]
 cases b
 ·rw [Ao, hj]
 ·rw [hb] at hpl
  have hr : r.2 = 0 := by simpa using hpl.symm
  rw [AR]
  rcases e3 with ⟨_, h2⟩ | ⟨h1, ⟨_, h3, h4⟩ | ⟨h2, _⟩⟩
  ·rw [h2] at hr; cases hr
  ·rw [Ts (by omega) (by omega) (by omega) (by omega), Xj, KT, hu.v, h1, h3.1]
   exact hj
  ·rw [h2] at hr; cases hr
theorem XN {p : Ac} {j : Nat} {s : List Aa} (hs : s ∈ Ia p j) (hm : ∀ i, i < j → Ia p i = []) {i : Nat} (hi : i < s.length) : Wi p (s.eraseIdx i) = false := by
 obtain ⟨h1, h2, _⟩ := Oy.1 hs
 cases h : Wi p (s.eraseIdx i)
 ·rfl
 ·have : s.eraseIdx i ∈ Ia p (j - 1) := Oy.2 ⟨(List.eraseIdx_sublist s i).trans h1, by rw [List.length_eraseIdx_of_lt hi, h2], h⟩
  rw [hm (j - 1) (by omega)] at this; cases this
theorem Uf {p : Ac} (hu : JB p) {j : Nat} {s : List Aa} (hs : s ∈ Ia p j) (hm : ∀ i, i < j → Ia p i = []) (J : Unit → Option Bool) : ∀ (n i : Nat), i ≤ s.length → s.length - i < n → A7 1000 (p, true) s J n (i : Int) = J ()
 | 0, i, _, h => by omega
 | n + 1, i, hi, hn => by
  obtain ⟨h1, h2, h3⟩ := Oy.1 hs
  have hlen := h1.length_le
  have he := hu.e
  rw [A7]
  by_cases hlt : i < s.length
  ·obtain ⟨X, x1, x2, x3⟩ := Zn 1000 s i hlt (by omega)
   have hel := List.length_eraseIdx_of_lt hlt
   rw [AC (by omega), WG 1000 (by omega)]
   simp only [oS, Bi]
   rw [AC (by omega), AB (by omega), x1]
   simp only [oS]
   rw [Ap x3, x2]
   have hd : decide ((i : Int) < 0) = false := decide_eq_false (by omega)
   rw [hd]
   refine Sl hu (fun c hc => h1.subset ((List.eraseIdx_sublist s i).subset hc)) (by omega) false (XN hs hm hlt) _ (fun v24 => AU v24 (some false) (A7 1000 (p, true) s J n ((i + 1 : Nat) : Int))) ?_
   simp only [Ao]
   exact Uf hu hs hm J n (i + 1) (by omega) (by omega)
  ·rw [Ay (by omega)]
theorem WR {p : Ac} (hu : JB p) {j : Nat} {s : List Aa} (hs : s ∈ Ia p j) (hm : ∀ i, i < j → Ia p i = []) (J : Unit → Option Bool) : A7 1000 (p, true) s J 1000 (-1) = J () := by
 obtain ⟨h1, h2, h3⟩ := Oy.1 hs
 have hlen := h1.length_le
 have he := hu.e
 rw [show (1000 : Nat) = 999 + 1 from rfl, A7]
 rw [AC (by omega), show (999 + 1 : Nat) = 1000 from rfl, WG 1000 (by omega)]
 simp only [oS, Bi]
 rw [Ay (by omega), show decide ((-1 : Int) < 0) = true from rfl, show wI .i64 (-1 + 1) = ((0 : Nat) : Int) from by rw [Dy (by omega) (by omega)]; rfl]
 refine Sl hu (fun c hc => h1.subset hc) (by omega) true h3 _ (fun v24 => AU v24 (some false) (A7 1000 (p, true) s J 999 ((0 : Nat) : Int))) ?_
 simp only [Ao]
 exact Uf hu hs hm J 999 0 (by omega) (by omega)
theorem RG {p : Ac} (hu : JB p) {j : Nat} (hm : ∀ i, i < j → Ia p i = []) (hl : (Ia p j).length < 1000) : ∀ (n i : Nat), i ≤ (Ia p j).length → (Ia p j).length - i < n → CE 1000 (p, true) (Ia p j, 0) (fun _ => some true) n (i : Int) = some true
 | 0, i, _, h => by omega
 | n + 1, i, hi, hn => by
  rw [CE]
  by_cases hlt : i < (Ia p j).length
  ·have hx : (Ia p j)[i]? = some (Ia p j)[i] := by simp [hlt]
   simp only [AW, hx, oS]
   rw [AC (by show (i : Int) < ((Ia p j).length : Int); omega), WR hu (lM hx) hm, AB (by omega)]
   exact RG hu hm hl n (i + 1) (by omega) (by omega)
  ·rw [Ay (by show ¬ (i : Int) < ((Ia p j).length : Int); omega)]
theorem Y6 {p : Ac} (hu : JB p) (j : Nat) : (Ia p j).length ≤ 128 := by
 have := Ki (CV p) j
 have := KC hu.e
 have := List.length_filter_le (Wi p) (HX (CV p) j)
 unfold Ia; omega
theorem NG (d : B1) (wd : GS d) : D5 1000 d = some true := by
 unfold D5
 obtain ⟨p, b, e, h⟩ := XL (N := 1000) (by omega) (by omega) d wd
 rw [e]
 simp only [oS, Bi, Sv, Bool.not_true, Ao]
 cases b
 ·rfl
 have hu := h rfl
 rw [VG (by omega) (by omega) hu]
 simp only [Bool.not_true, Ao, oS]
 rcases W1 p with ⟨h1, _⟩ | ⟨j, hj, h1, _, h3⟩
 ·rw [h1]; rfl
 ·rw [h1]
  simp only [bne_self_eq_false, Ao]
  have := Y6 hu j
  exact RG hu h3 (by omega) 1000 0 (by omega) (by omega)
end Go.Lift
