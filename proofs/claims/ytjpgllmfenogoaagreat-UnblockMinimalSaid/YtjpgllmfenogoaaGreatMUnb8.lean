/- Lemmas for UnblockMinimalSaid, which YtjpgllmfenogoaaGreatFinU4 proves. -/
import Derived.Test.YtjpgllmfenogoaaGreatMReg3
import Derived.KernelRfl
namespace Go.Lift
open IntKind renaming wrap → wI
open Option renaming bind_some → oS
open List renaming mem_of_getElem? → lM
open List renaming getElem?_eq_some_iff → lI
open List renaming getD_eq_getElem?_getD → lD
open Go
theorem Le {N : Nat} (hN : N ≤ 1000000) (h20 : 100 ≤ N) {p : Ab} (hv : Bk p = 0) {most : Nat} (hmo : most ≤ 20000) (j : List AF → Option (List AF × Int)) :
  ∀ (n i : Nat) (pl : List AF) (q : List (Ae × Int)) (l' : List Jt), i ≤ pl.length → (∀ n, n ∈ pl.map ET → B0 p n.1 ∧ Bq p n.1 = true) → pl.length ≤ most → Pj p q (pl.map ET) → MV p i [] pl → (∀ (b : Nat) nb, i ≤ b → pl[b]? = some nb → nb.fE = []) →
   Bfs.go (IN p) most n i (pl.map ET) = some l' →
   ∃ pl', DZ N p j n (pl, Mo q, (i : Int)) = j pl' ∧ pl'.map ET = l' ∧ MV p l'.length [] pl'
 | 0, i, pl, q, l', _, _, _, _, _, _, h => by cases h
 | n + 1, i, pl, q, l', hi, hA, hlm, hpl, hnx, hem, h => by
  obtain ⟨hp, _⟩ := BX hv
  simp only [Bfs.go] at h
  rw [DZ]
  by_cases h1 : i < pl.length
  ·obtain ⟨nd, hx⟩ := Bfs.get_ex h1
   have hxl : (pl.map ET)[i]? = some (ET nd) := by rw [List.getElem?_map, hx]; rfl
   have hm := (hA _ (lM hxl)).1
   have hm : B0 p nd.fU := hm
   rw [hxl] at h
   simp only at h
   rw [AB (by simp only; omega)]
   simp only [AN, hx, oS]
   rw [show (Ae.mk nd.fU.fH nd.fU.fE nd.fU.fI) = nd.fU from rfl, Vr N hN h20 hv hm]
   simp only [oS, bne_self_eq_false, Ap]
   have hsl := Rq hp nd.fU
   cases hin : Bfs.inner most i (IN p nd.fU) (pl.map ET) with
   | none =>
    have hin' : Bfs.inner most i (IN p (ET nd).1) (pl.map ET) = none := hin
    rw [hin'] at h; cases h
   | some l1 =>
    have hin' : Bfs.inner most i (IN p (ET nd).1) (pl.map ET) = some l1 := hin
    rw [hin'] at h
    simp only [oS] at h
    obtain ⟨pl1, q1, e1, e2, e3, e4, e5⟩ := HC hN h20 hv hm hmo (v2 := (pl, Mo q, (i : Int))) rfl (Ga p nd.fU) 0 (fun s hs => hs) (by omega) (fun (v9 : (List AF) × (List (ByteArray × Int))) =>
     DZ N p j n (v9.1, v9.2, (wI .i64 ((i : Int) + 1)))) N 0 pl q l1 (Nat.zero_le _) (by omega) ⟨nd, hx, rfl⟩ hA hlm hpl (by
      rw [List.take_zero]; exact hnx) ⟨nd, hx, by rw [hem i nd (Nat.le_refl _) hx]; exact Nat.le_refl _⟩ hin
    have e1' : CJ N p (pl, Mo q, (i : Int)) (Ga p nd.fU, 0) (fun (v9 : (List AF) × (List (ByteArray × Int))) =>
     DZ N p j n (v9.1, v9.2, (wI .i64 ((i : Int) + 1)))) N (pl, Mo q, 0) = _ := e1
    rw [e1']
    simp only
    obtain ⟨k1, k2⟩ := K8 hin (fun q hq => Vf hp hm hq) hA
    have hl1 : l1.length = pl1.length := by rw [← e2, List.length_map]
    have hil : i < pl1.length := by rw [← hl1]; exact Bfs.lt_get (k2 _ _ hxl)
    rw [Az (by have := Bfs.inner_len _ _ _ (by rw [List.length_map]; exact hlm) hin; omega)]
    refine Le hN h20 hv hmo j n (i + 1) pl1 q1 l' (by omega) (by rw [e2]; exact k1) (by rw [← hl1]; exact Bfs.inner_len _ _ _ (by rw [List.length_map]; exact hlm) hin) (by rw [e2]; exact e3) ?_ ?_ (by rw [e2]; exact h)
    ·have hmi : ∀ nb, pl1[i]? = some nb → nb.fU = nd.fU := fun nb hb => by
      have := k2 _ _ hxl
      rw [← e2, List.getElem?_map, hb] at this
      exact congrArg (fun n : Jt => n.1) (Option.some.inj this)
     constructor
     ·intro b nb hb r hr
      obtain ⟨s, y, g1, g2⟩ := e4.to b nb hb r hr
      refine ⟨s, y, .inl ?_, g2⟩
      rcases g1 with g1 | ⟨g1, g3⟩
      ·exact ⟨by omega, g1.2⟩
      ·subst g1; exact ⟨by omega, by rw [hmi nb hb]; exact g3⟩
     ·intro b nb hb s y hs
      refine e4.of b nb hb s y ?_
      rcases hs with ⟨h2, h3⟩ | ⟨_, h3⟩
      ·by_cases hbi : b < i
       ·exact .inl ⟨hbi, h3⟩
       ·have : b = i := by omega
        subst this
        exact .inr ⟨rfl, by rw [hmi nb hb] at h3; exact h3⟩
      ·cases h3
    ·intro b nb hb hb2
     rcases e5 b nb hb2 (by omega) with h2 | h2
     ·exact hem b nb (by omega) h2
     ·exact h2
  ·have hi' : i = pl.length := by omega
   subst hi'
   rw [List.getElem?_eq_none (by rw [List.length_map]; exact Nat.le_refl _)] at h
   have h : some (pl.map ET) = some l' := h
   cases h
   rw [Aw (by simp)]
   exact ⟨pl, rfl, rfl, by rw [List.length_map]; exact hnx⟩
theorem PQ {N : Nat} (hN : N ≤ 1000000) (h20 : 100 ≤ N) {p : Ab} (hv : Bk p = 0) {m : Ae} (hm : B0 p m) (hr : Bq p m = true) {most : Nat} (hmo : most ≤ 20000) (h1 : 1 ≤ most) {l : List Jt} (hs : Iz p m most N = some l) :
  ∃ pl, He N p m = some (pl, 0) ∧ pl.map ET = l ∧ MV p l.length [] pl := by
 obtain ⟨hp, _⟩ := BX hv
 unfold He
 rw [YV N hN h20 hp hm]
 simp only [oS]
 obtain ⟨pl, e1, e2, e3⟩ := Le hN h20 hv hmo (fun (v3 : (List AF)) => some (v3, 0)) N 0 [AF.mk m (-1) MC []] [(m, 0)] l (Nat.zero_le _) (We hm hr) h1 (by
  refine ⟨fun e he => by rw [List.mem_singleton.1 he]; exact hm, ?_, ?_⟩
  ·intro x _ hq n hn
   have hn : n = (m, -1, MC) := List.mem_singleton.1 hn
   simp only [JA] at hq
   split at hq
   ·cases hq
   ·rename_i h; rw [hn]; exact fun e => h e.symm
  ·intro x r _ hq
   simp only [JA] at hq
   split at hq
   ·rename_i h
    cases hq; right; exact ⟨0, -1, MC, rfl, by rw [h]; rfl⟩
   ·cases hq) (by
  constructor
  ·intro b nb hb r hr
   have := Bfs.lt_get hb
   simp at this; subst this
   cases hb; cases hr
  ·intro b nb hb s y hs
   rcases hs with h | h
   ·omega
   ·cases h.2) (fun b nb _ hb => by
    have := Bfs.lt_get hb
    simp at this; subst this
    cases hb; rfl) hs
 refine ⟨pl, ?_, e2, e3⟩
 exact e1
theorem Wn {α : Type} (xs : List α) (x y : α) : ∀ (A B : List α), ((A ++ x :: (xs ++ y :: B)).set A.length y).set (A.length + 1 + xs.length) x = A ++ y :: (xs ++ x :: B)
 | [], B => by
  rw [List.nil_append, List.length_nil, List.set_cons_zero, show 0 + 1 + xs.length = xs.length + 1 from by omega, List.set_cons_succ, List.set_append_right _ _ (Nat.le_refl _), Nat.sub_self]
  rfl
 | a :: A, B => by
  have := Wn xs x y A B
  simp only [List.cons_append, List.length_cons]
  rw [List.set_cons_succ, show A.length + 1 + 1 + xs.length = (A.length + 1 + xs.length) + 1 from by omega, List.set_cons_succ, this]
theorem T5 (N : Nat) (j : List Af → Option (List Af)) : ∀ (n : Nat) (xs A B : List Af), xs.length < 2 * n → A.length + xs.length ≤ 100000 →
  Bj N j n (A ++ (xs ++ B), (A.length : Int), ((A.length + xs.length : Nat) : Int) - 1) = j (A ++ (xs.reverse ++ B))
 | 0, xs, A, B, h, _ => by omega
 | n + 1, xs, A, B, h, h2 => by
  rw [Bj]
  rcases xs with _ | ⟨x, xs⟩
  ·rw [Aw (by simp only [List.length_nil]; omega)]; rfl
  ·rcases Bfs.list_snoc xs with rfl | ⟨xs, y, rfl⟩
   ·rw [Aw (by simp only [List.length_cons, List.length_nil]; omega)]; rfl
   ·simp only [List.length_cons, List.length_append, List.length_nil] at h h2
    rw [AB (by simp only [List.length_cons, List.length_append, List.length_nil]; omega)]
    have e1 : (((A.length + (x :: (xs ++ [y])).length : Nat) : Int) - 1) = ((A.length + 1 + xs.length : Nat) : Int) := by simp only [List.length_cons, List.length_append, List.length_nil]; omega
    have e2 : A ++ (x :: (xs ++ [y]) ++ B) = A ++ x :: (xs ++ y :: B) := by simp
    simp only [e1, e2, AN, Int.toNat_natCast]
    have g1 : (A ++ x :: (xs ++ y :: B))[A.length + 1 + xs.length]? = some y := by
     rw [List.getElem?_append_right (by omega), show A.length + 1 + xs.length - A.length = xs.length + 1 from by omega, List.getElem?_cons_succ, List.getElem?_append_right (Nat.le_refl _), Nat.sub_self]; rfl
    have g2 : (A ++ x :: (xs ++ y :: B))[A.length]? = some x := by
     rw [List.getElem?_append_right (Nat.le_refl _), Nat.sub_self]; rfl
    rw [g1, g2]
    simp only [oS]
    rw [List.getElem?_set, if_neg (by omega), g1]
    simp only [oS]
    rw [Wn, Az (by omega), show wI .i64 (((A.length + 1 + xs.length : Nat) : Int) - 1) = (((A ++ [y]).length + xs.length : Nat) : Int) - 1 from by
     rw [Cx (by omega) (by omega)]; simp only [List.length_append, List.length_singleton]]
    have := T5 N j n xs (A ++ [y]) (x :: B) (by omega) (by simp only [List.length_append, List.length_singleton]; omega)
    rw [show ((A.length + 1 : Nat) : Int) = (((A ++ [y]).length : Nat) : Int) from by simp]
    rw [show A ++ y :: (xs ++ x :: B) = (A ++ [y]) ++ (xs ++ x :: B) from by simp, this]
    simp
theorem Vl (N : Nat) (h20 : 100 ≤ N) (l : List Af) (h : l.length < 2 * N) (h2 : l.length ≤ 100000) : Bz N l = some l.reverse := by
 unfold Bz
 rw [Cx (by omega) (by omega)]
 have := T5 N (fun v2 => some v2) N l [] [] h (by simpa using h2)
 simp only [List.nil_append, List.append_nil, List.length_nil, Nat.zero_add] at this
 exact this
theorem My {p : Ab} {m : Ae} {l : List Jt} {ws : List (List Af)} (h : ZH p m l ws) (N : Nat) {pl : List AF} (hpl : pl.map ET = l) (j : List Af → Option (List Af)) : ∀ (n k : Nat) {w acc : List Af}, k < n → ws[k]? = some w → acc.length + k ≤ 20000 →
  Gp N pl j n ((k : Int), acc) = j (acc ++ w.reverse)
 | 0, k, _, _, hk, _, _ => by omega
 | n + 1, k, w, acc, hk, hw, ha => by
  obtain ⟨⟨x, f, s⟩, hx⟩ := Bfs.get_ex (l := l) (k := k) (by rw [← h.inv.len]; exact Bfs.lt_get hw)
  have hx2 := hx
  rw [← hpl, List.getElem?_map] at hx2
  cases hnd : pl[k]? with
  | none => rw [hnd] at hx2; cases hx2
  | some nd =>
   rw [hnd] at hx2
   have hx2 : ET nd = (x, f, s) := Option.some.inj hx2
   have hf : nd.fK = f := congrArg (fun n : Jt => n.2.1) hx2
   have hs : nd.fY = s := congrArg (fun n : Jt => n.2.2) hx2
   rw [Gp]
   simp only [AN, hnd, oS]
   rw [hf]
   rcases Nat.eq_zero_or_pos k with rfl | hk0
   ·obtain ⟨s0, hs0⟩ := h.inv.root; rw [hs0] at hx; cases hx
    rw [h.inv.root'] at hw; cases hw
    rw [Aw (by decide)]; simp
   ·obtain ⟨i, y', g', t', w', e1, e2, e3, e4, e5, e6, e7⟩ := h.inv.par k _ _ _ hk0 hx
    rw [e6] at hw; cases hw
    subst e1
    rw [AB (Int.natCast_nonneg i), An (by simp [C2]; omega)]
    have := My h N hpl j n i (w := w') (acc := acc ++ [Af.mk nd.fY.fJ nd.fY.fN nd.fY.fT]) (by omega) e5 (by simp; omega)
    rw [this, show (Af.mk nd.fY.fJ nd.fY.fN nd.fY.fT) = s from hs]
    simp
theorem VU {p : Ab} {l : List Jt} {k : Nat} (h : Ld p l = some k) : k < l.length := by
 obtain ⟨⟨x, f, s, h1, _⟩, _⟩ := Ry h
 exact Bfs.lt_get h1
theorem Sp {N : Nat} (hN : N ≤ 1000000) (h20 : 100 ≤ N) {p : Ab} (hv : Bk p = 0) {m : Ae} (hm : B0 p m) (hr : Bq p m = true) {most : Nat} (hmo : most ≤ 20000) (h1 : 1 ≤ most) {l : List Jt} (hs : Iz p m most N = some l) (hl : l.length < N) {ws : List (List Af)} (h : ZH p m l ws) :
  F5 N p m = some (Mv p l ws) := by
 obtain ⟨hp, _⟩ := BX hv
 have hl2 : l.length ≤ 20000 := Nat.le_trans (Bfs.go_len _ _ _ _ (by simpa using h1) hs) hmo
 unfold F5
 rw [Kl N p m hN h20 (MA hm) (IQ hv hm), hr]
 simp only [oS, bne_self_eq_false, Ap, Bool.not_true]
 obtain ⟨pl, e1, e2, e3⟩ := PQ hN h20 hv hm hr hmo h1 hs
 rw [e1]
 simp only [oS, bne_self_eq_false, Ap]
 have hpll : pl.length = l.length := by rw [← e2, List.length_map]
 unfold Cw
 have := CZ (AU N pl ((fun (x : AF) => Fn N x p.fF p.fL p.fQ p.fG)) fun _ => some (-1)) l (some (-1)) (fun i n => (if Ie p n.1 = true then some i else none).map fun (k : Nat) => (k : Int))
  (fun n i nd hnd => by
   have hi := (lI.1 hnd).1
   have hnd2 := hnd
   rw [← e2, List.getElem?_map] at hnd2
   cases hq : pl[i]? with
   | none => rw [hq] at hnd2; cases hnd2
   | some nq =>
    rw [hq] at hnd2
    have hnd2 : ET nq = nd := Option.some.inj hnd2
    rw [AU, AB (by omega), AN, hq]
    simp only [oS]
    have hok := (h.ok _ _ _ _ (show l[i]? = some (nd.1, nd.2.1, nd.2.2) from hnd)).1
    have hM : nq.fU = nd.1 := congrArg (fun n : Jt => n.1) hnd2
    unfold Fn
    simp only
    rw [show (Ab.mk p.fF p.fL p.fQ p.fG) = p from rfl, show (Ae.mk nq.fU.fH nq.fU.fE nq.fU.fI) = nd.1 from hM, Tj N p nd.1 hN h20 (MA hok), Az (by omega)]
    simp only [oS]
    cases hg : Ie p nd.1 <;> rfl)
  (fun n => by rw [AU, Aw (by omega)]) N 0 (Nat.zero_le _) (by omega)
 have e3 : AU N pl ((fun (x : AF) => Fn N x p.fF p.fL p.fQ p.fG)) (fun _ => some (-1)) N 0 = _ := this
 rw [e3, List.drop_zero, Lt]
 unfold Mv
 cases hg : Ld p l with
 | none =>
  unfold Ld at hg
  rw [hg]; rfl
 | some k =>
  have hk := VU hg
  unfold Ld at hg
  rw [hg]
  simp only [Option.map_some, BR, oS]
  rw [Aw (by omega)]
  obtain ⟨w, hw⟩ := Bfs.get_ex (l := ws) (k := k) (by rw [h.inv.len]; exact hk)
  have e4 := My h N e2 (fun (v2 : (List Af)) => (Bz N v2).bind fun v8 => some v8) N k (w := w) (acc := []) (by omega) hw (by simp; omega)
  unfold J5
  have hwl := SG h (k + 1) k (Nat.lt_succ_self k) hw
  rw [e4, List.nil_append, Vl N h20 _ (by rw [List.length_reverse]; omega) (by rw [List.length_reverse]; omega), List.reverse_reverse]
  simp only [oS]
  rw [lD, hw]; rfl
def ax (p : Ab) (m : Ae) (w : List Af) : Prop := Nc p m w = true ∧ Bfs.Dig M7 100 w ∧ ∀ u, Nc p m u = true → Bfs.code M7 100 w ≤ Bfs.code M7 100 u
theorem Wq {p : Ab} (hp : A9 p) : ∀ {w : List Af} {m x : Ae}, P0 p m w = some x → Bfs.Dig M7 100 w ∧ ∀ s, s ∈ w → s ∈ En p
 | [], _, _, _ => ⟨fun s hs => (by cases hs), fun s hs => (by cases hs)⟩
 | s :: w, m, x, h => by
  simp only [P0] at h
  cases hs : N2 p m s with
  | none => rw [hs] at h; cases h
  | some z =>
   rw [hs] at h
   obtain ⟨h1, h2⟩ := Wq hp h
   have h3 := (Ij (N8.1 (Q6 hs)).1).1
   refine ⟨fun t ht => ?_, fun t ht => ?_⟩
   ·rcases List.mem_cons.1 ht with rfl | ht
    ·exact (P7 hp h3).2
    ·exact h1 t ht
   ·rcases List.mem_cons.1 ht with rfl | ht
    ·exact h3
    ·exact h2 t ht
theorem RG {p : Ab} (hp : A9 p) {m : Ae} {l : List Jt} {ws : List (List Af)} (h : ZH p m l ws) :
  ((Mv p l ws).2 = 0 ∧ ax p m (Mv p l ws).1 ∧ (Mv p l ws).1.length ≤ l.length) ∨ (Mv p l ws = ([], 14) ∧ ∀ u, Nc p m u = false) := by
 unfold Mv
 cases hg : Ld p l with
 | none =>
  right
  refine ⟨rfl, fun u => ?_⟩
  cases hu : Nc p m u
  ·rfl
  ·obtain ⟨x, h1, h2⟩ := RE hu
   obtain ⟨k, f, s, w, g1, g2, g3⟩ := Rc hp h h1
   rw [WN hg g1] at h2; cases h2
 | some k =>
  left
  obtain ⟨⟨x, f, s, h1, h2⟩, h3⟩ := Ry hg
  have hk := VU hg
  obtain ⟨w, hw⟩ := Bfs.get_ex (l := ws) (k := k) (by rw [h.inv.len]; exact hk)
  have hwe : ws.getD k [] = w := by rw [lD, hw]; rfl
  simp only [hwe]
  have hrun := Zl hp h h1 hw
  refine ⟨trivial, ⟨?_, (Wq hp hrun).1, ?_⟩, ?_⟩
  ·unfold Nc; rw [hrun]; exact h2
  ·intro u hu
   obtain ⟨y, g1, g2⟩ := RE hu
   obtain ⟨k', f', s', w', e1, e2, e3⟩ := Rc hp h g1
   refine Nat.le_trans ?_ e3
   by_cases hkk : k' < k
   ·rw [h3 k' y f' s' hkk e1] at g2; cases g2
   ·rcases Nat.lt_or_eq_of_le (Nat.le_of_not_lt hkk) with h4 | h4
    ·exact Nat.le_of_lt (h.inv.inc _ _ _ _ hw e2 h4)
    ·subst h4; rw [hw] at e2; cases e2; exact Nat.le_refl _
  ·have := SG h (k + 1) k (Nat.lt_succ_self k) hw
   omega
def UI (p : Ab) (m : Ae) (r : List Af × Int) : Prop := (r.2 = 0 ∧ ax p m r.1 ∧ r.1.length ≤ 120) ∨ (r = ([], 14) ∧ ∀ u, Nc p m u = false)
def MS (p : Ab) : Prop := Bq p (EZ p) = false ∨ ∃ l, Iz p (EZ p) 120 1000 = some l
def LM (p : Ab) (r : List Af × Int) : Prop := (Bq p (EZ p) = false ∧ r = ([], 13)) ∨ (Bq p (EZ p) = true ∧ UI p (EZ p) r)
theorem IW {α : Type} [DecidableEq α] : ∀ (L S : List α), L.Nodup → (∀ x, x ∈ L → x ∈ S) → L.length ≤ S.length
 | [], S, _, _ => Nat.zero_le _
 | x :: L, S, hn, hs => by
  obtain ⟨h1, h2⟩ := List.nodup_cons.1 hn
  have hx := hs x (by simp)
  have := IW L (S.erase x) h2 (fun y hy => by
   have hne : y ≠ x := fun e => h1 (e ▸ hy)
   exact (List.mem_erase_of_ne hne).2 (hs y (List.mem_cons_of_mem _ hy)))
  rw [List.length_erase_of_mem hx] at this
  have := List.length_pos_of_mem hx
  simp only [List.length_cons]
  omega
def JZ (l : List Jt) : List Ae := l.map fun n => n.1
theorem XG {i : Nat} {l : List Jt} {q : Af × Ae} (h : (JZ l).Nodup) : (JZ (Bfs.put i l q)).Nodup ∧ ∀ x, x ∈ JZ (Bfs.put i l q) → x ∈ JZ l ∨ x = q.2 := by
 unfold Bfs.put
 split
 ·exact ⟨h, fun x hx => .inl hx⟩
 ·rename_i hn
  unfold JZ at h ⊢
  rw [List.map_append]
  refine ⟨?_, ?_⟩
  ·rw [List.nodup_append]
   refine ⟨h, by simp, ?_⟩
   intro a ha b hb
   have hb : b = q.2 := by simpa using hb
   subst hb
   intro e
   subst e
   obtain ⟨n, hn1, hn2⟩ := List.mem_map.1 ha
   exact hn (List.any_eq_true.2 ⟨n, hn1, decide_eq_true hn2⟩)
  ·intro x hx
   rcases List.mem_append.1 hx with hx | hx
   ·exact .inl hx
   ·exact .inr (by simpa using hx)
theorem O6 {S : List Ae} {most i : Nat} (hS : S.length ≤ most) : ∀ (qs : List (Af × Ae)) (l : List Jt), (JZ l).Nodup → (∀ x, x ∈ JZ l → x ∈ S) → (∀ q, q ∈ qs → q.2 ∈ S) →
  ∃ l', Bfs.inner most i qs l = some l' ∧ (JZ l').Nodup ∧ (∀ x, x ∈ JZ l' → x ∈ S) ∧ l.length ≤ l'.length
 | [], l, h1, h2, _ => ⟨l, rfl, h1, h2, Nat.le_refl _⟩
 | q :: qs, l, h1, h2, h3 => by
  obtain ⟨g1, g2⟩ := XG (i := i) (q := q) h1
  have g3 : ∀ x, x ∈ JZ (Bfs.put i l q) → x ∈ S := fun x hx => (g2 x hx).elim (h2 x) fun e => by rw [e]; exact h3 q (by simp)
  have := IW _ S g1 g3
  unfold JZ at this
  rw [List.length_map] at this
  simp only [Bfs.inner]
  rw [if_neg (by omega)]
  obtain ⟨l', e1, e2, e3, e4⟩ := O6 hS qs (Bfs.put i l q) g1 g3 (fun q hq => h3 q (List.mem_cons_of_mem _ hq))
  refine ⟨l', e1, e2, e3, Nat.le_trans ?_ e4⟩
  unfold Bfs.put; split
  ·exact Nat.le_refl _
  ·simp
theorem Qg {p : Ab} {S : List Ae} {most : Nat} (hS : S.length ≤ most) (hc : ∀ x, x ∈ S → ∀ q, q ∈ IN p x → q.2 ∈ S) : ∀ (n i : Nat) (l : List Jt), (JZ l).Nodup → (∀ x, x ∈ JZ l → x ∈ S) → i ≤ l.length → most < n + i → ∃ l', Bfs.go (IN p) most n i l = some l'
 | 0, i, l, h1, h2, hi, hn => by
  have := IW _ S h1 h2
  unfold JZ at this
  rw [List.length_map] at this
  omega
 | n + 1, i, l, h1, h2, hi, hn => by
  simp only [Bfs.go]
  cases hx : l[i]? with
  | none => exact ⟨l, rfl⟩
  | some nd =>
   have hS2 : nd.1 ∈ S := h2 _ (List.mem_map.2 ⟨nd, lM hx, rfl⟩)
   obtain ⟨l1, e1, e2, e3, e4⟩ := O6 (i := i) hS (IN p nd.1) l h1 h2 (hc _ hS2)
   simp only [e1, oS]
   have := Bfs.lt_get hx
   exact Qg hS hc n (i + 1) l1 e2 e3 (by omega) (by omega)
def Qz (t u v : Nat) (ok : Bool) : List Aa := if ok = true then [] else [⟨(t : Int), (u : Int), (v : Int)⟩]
def Oo (t u : Nat) (row : List Bool) : List Aa := B1 (Qz t u) 0 row
def Og (t : Nat) (x : Ao) : List Aa := B1 (Oo t) 0 x.fO
def Cv (p : Ab) : List Aa := B1 Og 0 p.fG
theorem Pt (t u v : Nat) (ok : Bool) : (Qz t u v ok).length ≤ 1 := by unfold Qz; split <;> simp
theorem JQ (t u : Nat) {row : List Bool} (h : row.length ≤ 6) : (Oo t u row).length ≤ 6 := by
 have := FG (g := Qz t u) (c := 1) (i := 0) (xs := row) (fun j x _ => Pt _ _ _ _)
 unfold Oo; omega
theorem JY {p : Ab} {t : Ao} (hp : A9 p) (ht : NA p t) (i : Nat) : (Og i t).length ≤ 36 := by
 have h1 := Jp hp ht
 have := FG (g := Oo i) (c := 6) (i := 0) (xs := t.fO) (fun j x hx => JQ i _ (h1.2 x (lM hx)))
 unfold Og; omega
theorem K1 {p : Ab} (hp : A9 p) : (Cv p).length ≤ 432 := by
 have := FG (g := Og) (c := 36) (i := 0) (xs := p.fG) (fun j x hx => JY hp (IA (hp.tab x (lM hx))) _)
 have := hp.nt
 unfold Cv; omega
theorem JP {N : Nat} (hN : N ≤ 1000000) (h20 : 100 ≤ N) {p : Ab} (hp : A9 p) : CG N p = some (Cv p) := by
 unfold CG
 have hnt := hp.nt
 rw [Dc (BB N p _) (fun a k => (a, k)) p.fG some Og 36 9000
  (fun i t hx => JY hp (IA (hp.tab t (lM hx))) i)
  (fun n i t a hx ha => by
   have hi := (lI.1 hx).1
   have ht := IA (hp.tab t (lM hx))
   have hv := Jp hp ht
   have het := JY hp ht i
   rw [BB]
   rw [AB (by omega), Dc (BY N p (a, (i : Int)) _) (fun a k => (a, k)) t.fO (fun b => BB N p (fun v2 => some v2) n (b, wI .i64 ((i : Int) + 1))) (Oo i) 6 10000
    (fun u row hu => JQ i u (hv.2 row (lM hu)))
    (fun n2 u row b hu hb => by
     have hui := (lI.1 hu).1
     have hrl := hv.2 row (lM hu)
     rw [BY]
     simp only [AN, hx, oS]
     rw [AB (by omega), Dc (Cy N p (a, (i : Int)) (b, (u : Int)) _) (fun a k => (a, k)) row (fun c => BY N p (a, (i : Int)) (fun v5 => BB N p (fun v2 => some v2) n (v5, wI .i64 ((i : Int) + 1))) n2 (c, wI .i64 ((u : Int) + 1))) (Qz i u) 1 20000
      (fun v ok _ => Pt i u v ok)
      (fun n3 v ok c hv hc => by
       have hvi := (lI.1 hv).1
       rw [Cy]
       simp only [AN, hx, hu, hv, oS, A5]
       rw [AB (by omega), Az (i := v) (by omega)]
       cases ok
       ·simp only [Bool.not_false, AJ]
        rw [An (by simp only [Qz, Bool.false_eq_true, if_false, List.length_singleton] at hc ⊢; unfold C2; omega)]
        rfl
       ·simp only [Bool.not_true, Ap, Qz, if_true, List.append_nil])
      (fun n3 c => by
       rw [Cy]
       simp only [AN, hx, hu, oS, A5]
       rw [Aw (by omega)]) N b (by omega) (by have := JQ i u hrl; omega), Az (i := u) (by omega)]
     rfl)
    (fun n2 b => by
     rw [BY]
     simp only [AN, hx, oS]
     rw [Aw (by omega)]) N a (by omega) (by omega), Az (i := i) (by omega)]
   rfl)
  (fun n a => by
   rw [BB]
   rw [Aw (by omega)]) N [] (by omega) (by simp; omega)]
 rfl
theorem JN {N : Nat} (hN : N ≤ 1000000) (h20 : 100 ≤ N) {p : Ab} (hp : A9 p) : Eb N p = some (Cv p) := by
 unfold Eb
 have hnt := hp.nt
 rw [Dc (Cm N p _) (fun a k => (a, k)) p.fG some Og 36 9000
  (fun i t hx => JY hp (IA (hp.tab t (lM hx))) i)
  (fun n i t a hx ha => by
   have hi := (lI.1 hx).1
   have ht := IA (hp.tab t (lM hx))
   have hv := Jp hp ht
   have het := JY hp ht i
   rw [Cm]
   simp only [AN, hx, oS]
   rw [AB (by omega), Dc (CR N (a, (i : Int)) t _) (fun a k => (a, k)) t.fO (fun b => Cm N p (fun v2 => some v2) n (b, wI .i64 ((i : Int) + 1))) (Oo i) 6 10000
    (fun u row hu => JQ i u (hv.2 row (lM hu)))
    (fun n2 u row b hu hb => by
     have hui := (lI.1 hu).1
     have hrl := hv.2 row (lM hu)
     rw [CR]
     simp only [AN, hu, oS]
     rw [AB (by omega), Dc (Do N (a, (i : Int)) (b, (u : Int)) row _) (fun a k => (a, k)) row (fun c => CR N (a, (i : Int)) t (fun v5 => Cm N p (fun v2 => some v2) n (v5, wI .i64 ((i : Int) + 1))) n2 (c, wI .i64 ((u : Int) + 1))) (Qz i u) 1 20000
      (fun v ok _ => Pt i u v ok)
      (fun n3 v ok c hv hc => by
       have hvi := (lI.1 hv).1
       rw [Do]
       simp only [AN, hv, oS, A5]
       rw [AB (by omega), Az (i := v) (by omega)]
       cases ok
       ·simp only [Bool.not_false, AJ]
        rw [An (by simp only [Qz, Bool.false_eq_true, if_false, List.length_singleton] at hc ⊢; unfold C2; omega)]
        rfl
       ·simp only [Bool.not_true, Ap, Qz, if_true, List.append_nil])
      (fun n3 c => by
       rw [Do]
       simp only [A5]
       rw [Aw (by omega)]) N b (by omega) (by have := JQ i u hrl; omega), Az (i := u) (by omega)]
     rfl)
    (fun n2 b => by
     rw [CR]
     rw [Aw (by omega)]) N a (by omega) (by omega), Az (i := i) (by omega)]
   rfl)
  (fun n a => by
   rw [Cm]
   rw [Aw (by omega)]) N [] (by omega) (by simp; omega)]
 rfl
def S7 (a b : Aa) : Bool := (a.fW == b.fW) && ((a.fV == b.fV) && ((a.fX == b.fX) && true))
theorem J7 (a b : Aa) : S7 a b = true ↔ a = b := by
 unfold S7
 cases a; cases b
 simp
theorem Xo (a b : Aa) : S7 a b = S7 b a := by
 rw [Bool.eq_iff_iff, J7, J7]; exact eq_comm
def Sa (l : List Aa) (c : Aa) : Bool := l.any fun x => S7 x c
theorem Kb {l : List Aa} {c : Aa} : Sa l c = true ↔ c ∈ l := by
 unfold Sa
 rw [List.any_eq_true]
 constructor
 ·rintro ⟨x, h1, h2⟩; rw [J7] at h2; exact h2 ▸ h1
 ·intro h; exact ⟨c, h, (J7 c c).2 rfl⟩
theorem Uq (x : Aa) (l : List Aa) (c : Aa) : Sa (x :: l) c = (S7 x c || Sa l c) := rfl
theorem Ws (N : Nat) (l : List Aa) (c : Aa) (hl : l.length < 1000000) : ∀ (n i : Nat), i ≤ l.length → l.length - i < n → El N l c (fun _ => some false) n (i : Int) = some (Sa (l.drop i) c)
 | 0, i, _, h => by omega
 | n + 1, i, hi, h => by
  rw [El]
  by_cases h1 : i < l.length
  ·have hx : l[i]? = some l[i] := by simp [h1]
   rw [AB (by omega), AN, hx, Gt hx, Uq, Az (by omega), Ws N l c hl n (i + 1) (by omega) (by omega)]
   simp only [oS]
   show AR (S7 l[i] c) _ _ = _
   cases S7 l[i] c <;> rfl
  ·rw [Aw (by omega), List.drop_eq_nil_of_le (by omega)]; rfl
theorem OD {N : Nat} {l : List Aa} (hN : N ≤ 1000000) (hl : l.length < N) (c : Aa) : Ez N l c = some (Sa l c) := by
 unfold Ez
 have := Ws N l c (by omega) N 0 (by omega) (by omega)
 simpa using this
theorem MG (N : Nat) (l : List Aa) (c : Aa) (hl : l.length < 1000000) : ∀ (n i : Nat), i ≤ l.length → l.length - i < n → ∃ k : Int, AX N l c (fun _ => some (-1)) n (i : Int) = some k ∧ decide (0 ≤ k) = Sa (l.drop i) c
 | 0, i, _, h => by omega
 | n + 1, i, hi, h => by
  rw [AX]
  by_cases h1 : i < l.length
  ·have hx : l[i]? = some l[i] := by simp [h1]
   obtain ⟨k, e1, e2⟩ := MG N l c hl n (i + 1) (by omega) (by omega)
   rw [AB (by omega), AN, hx, Gt hx, Uq, Az (by omega), e1]
   simp only [oS]
   have : ((c.fW == l[i].fW) && ((c.fV == l[i].fV) && ((c.fX == l[i].fX) && true))) = S7 l[i] c := Xo c l[i]
   rw [this]
   cases S7 l[i] c
   ·exact ⟨k, rfl, e2⟩
   ·exact ⟨_, rfl, by simp⟩
  ·rw [Aw (by omega), List.drop_eq_nil_of_le (by omega)]
   exact ⟨-1, rfl, rfl⟩
theorem Uo {N : Nat} {l : List Aa} (hN : N ≤ 1000000) (hl : l.length < N) (c : Aa) : Bm N l c = some (Sa l c) := by
 unfold Bm Ci
 obtain ⟨k, e1, e2⟩ := MG N l c (by omega) N 0 (by omega) (by omega)
 have e1' : AX N l c (fun _ => some (-1)) N 0 = some k := by simpa using e1
 rw [e1', oS, e2, List.drop_zero]
def UK (l : List Aa) (t u v : Nat) (ok : Bool) : Bool := ok || Sa l ⟨(t : Int), (u : Int), (v : Int)⟩
def I3 (l : List Aa) (t u : Nat) (row : List Bool) : List Bool := row.mapIdx (UK l t u)
def Kj (l : List Aa) (t : Nat) (x : Ao) : Ao := ⟨x.fJ, x.fK, x.fP, x.fS, x.fO.mapIdx (I3 l t), x.fR⟩
def HM (p : Ab) (l : List Aa) : Ab := ⟨p.fF, p.fL, p.fQ, p.fG.mapIdx (Kj l)⟩
theorem RA {α β : Type} (f : Nat → α → β) : ∀ (k : Nat) (xs : List α), B1 (fun i x => [f i x]) k xs = xs.mapIdx fun i x => f (k + i) x
 | _, [] => rfl
 | k, x :: xs => by
  rw [B1, RA f (k + 1) xs, List.mapIdx_cons]
  simp only [List.singleton_append, Nat.add_zero, Nat.add_assoc, Nat.add_comm 1]
theorem JB {α β : Type} (f : Nat → α → β) (xs : List α) : B1 (fun i x => [f i x]) 0 xs = xs.mapIdx f := by
 rw [RA]; simp only [Nat.zero_add]
theorem Ko {α β : Type} {f g : Nat → α → β} {xs : List α} {k : Nat} {x : α} (hx : xs[k]? = some x) (h : ∀ j y, xs[j]? = some y → j ≠ k → g j y = f j y) : xs.mapIdx g = (xs.mapIdx f).set k (g k x) := by
 apply List.ext_getElem?
 intro j
 rw [List.getElem?_mapIdx, List.getElem?_set, List.getElem?_mapIdx]
 have hk := (lI.1 hx).1
 by_cases e : k = j
 ·subst e; rw [if_pos rfl, if_pos (by simpa using hk), hx]; rfl
 ·rw [if_neg e]
  cases hy : xs[j]? with
  | none => rfl
  | some y => simp only [Option.map_some]; rw [h j y hy (fun e' => e e'.symm)]
theorem XU {N : Nat} (hN : N ≤ 1000000) {l : List Aa} (hl : l.length < N) (v4 : List Ao × Int) (v8 : List (List Bool) × Int) (t u : Nat) (h4 : v4.2 = (t : Int)) (h8 : v8.2 = (u : Int)) (row : List Bool) (hr : row.length ≤ 6) (h20 : 100 ≤ N) (j : List Bool → Option Ab) :
  Ct N l v4 v8 j N (row, 0) = j (I3 l t u row) := by
 obtain ⟨a, e, h⟩ := E9 (A := List Bool) (Ct N l v4 v8 j) (fun a k => (a, k)) row.length j (fun i a => a.length = row.length ∧ (∀ k, i ≤ k → a[k]? = row[k]?) ∧ ∀ k, k < i → a[k]? = (row[k]?).map (UK l t u k))
  (fun n i a hi h => by
   obtain ⟨h1, h2, h3⟩ := h
   have hx : row[i]? = some row[i] := by simp [hi]
   have ha : a[i]? = some row[i] := by rw [h2 i (Nat.le_refl _), hx]
   refine ⟨a.set i (UK l t u i row[i]), ?_, by simpa using h1, fun k hk => ?_, fun k hk => ?_⟩
   ·rw [Ct]
    simp only [A5, AN, ha, oS]
    rw [AB (by omega), Az (by omega), h4, h8, OD hN hl]
    simp only [oS, UK, Int.toNat_natCast]
    cases row[i]
    ·rw [Ap, Bool.false_or]
    ·rw [AJ, Bool.true_or]
   ·rw [List.getElem?_set, if_neg (by omega)]; exact h2 k (by omega)
   ·rw [List.getElem?_set]
    by_cases e : i = k
    ·subst e; rw [if_pos rfl, if_pos (by omega), hx]; rfl
    ·rw [if_neg e]; exact h3 k (by omega))
  (fun n a h => by
   rw [Ct, Aw (by simp only; omega)]) N 0 row (Nat.zero_le _) (by omega) ⟨rfl, fun _ _ => rfl, fun k hk => by omega⟩
 have : a = I3 l t u row := by
  apply List.ext_getElem?
  intro k
  rw [I3, List.getElem?_mapIdx]
  by_cases hk : k < row.length
  ·exact h.2.2 k hk
  ·rw [h.2.1 k (by omega), List.getElem?_eq_none (by omega)]; rfl
 rw [← this]
 exact e
theorem LC {N : Nat} (hN : N ≤ 1000000) (h20 : 100 ≤ N) {p : Ab} (hp : A9 p) {l : List Aa} (hl : l.length < N) : Dj N p l = some (HM p l) := by
 unfold Dj
 have hnt := hp.nt
 have hnv := hp.nv
 have hnow := hp.now
 have htg := hp.tgt
 rw [An (by simp only [List.length_nil]; unfold C2; omega), An (by simp only [List.length_nil]; unfold C2; omega), An (by simp only [List.length_nil]; unfold C2; omega)]
 rw [Dc (Cc N p l _) (fun a k => (a, k)) p.fG (fun v5 => some (Ab.mk ([] ++ p.fF) ([] ++ p.fL) ([] ++ p.fQ) v5)) (fun t x => [Kj l t x]) 1 1000
  (fun i t hx => by simp)
  (fun n i t a hx ha => by
   have hi := (lI.1 hx).1
   have ht := IA (hp.tab t (lM hx))
   have hv := Jp hp ht
   have hrw : t.fR.length ≤ 6 ∧ ∀ row, row ∈ t.fR → row.length ≤ 6 := by
    have h1 := Ku hp.ver ht.from0.1 ht.from0.2
    refine ⟨?_, fun row hr => by have := ht.reR row hr; omega⟩
    by_cases hk : t.fJ = 4
    ·have := ht.reL hk; omega
    ·rw [ht.reN hk]; simp
   rw [Cc]
   simp only [AN, hx, oS]
   rw [AB (by omega), Dc (Dh N p l (a, (i : Int)) _) (fun a k => (a, k)) t.fO (fun v9 => Cr N p (a, (i : Int)) (fun v26 => (Dp (a.length + ([(Ao.mk t.fJ t.fK t.fP t.fS v9 v26)] : List Ao).length ≤ C2)).bind fun _ => Cc N p l (fun v5 => some (Ab.mk ([] ++ p.fF) ([] ++ p.fL) ([] ++ p.fQ) v5)) n (a ++ [(Ao.mk t.fJ t.fK t.fP t.fS v9 v26)], wI .i64 ((i : Int) + 1))) N ([], 0)) (fun u row => [I3 l i u row]) 1 1000
    (fun u row hu => by simp)
    (fun n2 u row b hu hb => by
     have hui := (lI.1 hu).1
     have hrl := hv.2 row (lM hu)
     rw [Dh]
     simp only [AN, hx, hu, oS]
     rw [AB (by omega), An (by simp only [List.length_nil]; unfold C2; omega)]
     simp only [List.nil_append]
     rw [XU hN hl _ _ i u rfl rfl row hrl h20, An (by simp only [List.length_singleton] at hb ⊢; unfold C2; omega), Az (i := u) (by omega)])
    (fun n2 b => by
     rw [Dh]
     simp only [AN, hx, oS]
     rw [Aw (by omega)]) N [] (by omega) (by simp only [List.length_nil]; omega)]
   rw [Dc (Cr N p (a, (i : Int)) _) (fun a k => (a, k)) t.fR (fun v26 => (Dp (a.length + ([(Ao.mk t.fJ t.fK t.fP t.fS ([] ++ B1 (fun u row => [I3 l i u row]) 0 t.fO) v26)] : List Ao).length ≤ C2)).bind fun _ => Cc N p l (fun v5 => some (Ab.mk ([] ++ p.fF) ([] ++ p.fL) ([] ++ p.fQ) v5)) n (a ++ [(Ao.mk t.fJ t.fK t.fP t.fS ([] ++ B1 (fun u row => [I3 l i u row]) 0 t.fO) v26)], wI .i64 ((i : Int) + 1))) (fun _ row => [row]) 1 1000
    (fun u row hu => by simp)
    (fun n2 u row b hu hb => by
     have hui := (lI.1 hu).1
     have hrl := hrw.2 row (lM hu)
     rw [Cr]
     simp only [AN, hx, hu, oS]
     rw [AB (by omega), An (by simp only [List.length_nil]; unfold C2; omega), An (by simp only [List.length_singleton] at hb ⊢; unfold C2; omega), Az (i := u) (by omega)]
     rfl)
    (fun n2 b => by
     rw [Cr]
     simp only [AN, hx, oS]
     rw [Aw (by omega)]) N [] (by omega) (by simp only [List.length_nil]; omega)]
   rw [An (by simp only [List.length_singleton] at ha ⊢; unfold C2; omega), Az (i := i) (by omega), JB, JB (fun _ row => row)]
   simp only [List.nil_append, Kj]
   have : t.fR.mapIdx (fun _ row => row) = t.fR := by
    apply List.ext_getElem?; intro k; rw [List.getElem?_mapIdx]; cases t.fR[k]? <;> rfl
   rw [this])
  (fun n a => by
   rw [Cc]
   rw [Aw (by omega)]) N [] (by omega) (by simp only [List.length_nil]; omega), JB]
 rfl
theorem bn {p : Ab} {t : Ao} (hp : A9 p) (ht : NA p t) : t.fR.length ≤ 6 ∧ ∀ row, row ∈ t.fR → row.length ≤ 6 := by
 have h1 := Ku hp.ver ht.from0.1 ht.from0.2
 refine ⟨?_, fun row hr => by have := ht.reR row hr; omega⟩
 by_cases hk : t.fJ = 4
 ·have := ht.reL hk; omega
 ·rw [ht.reN hk]; simp
theorem Tb (N : Nat) {l : List (List Bool)} (h : l.length ≤ 100000) : Da N l = some l := by
 unfold Da
 rw [An (by simp only [List.length_nil]; unfold C2; omega)]; rfl
theorem VR (N : Nat) {l : List Bool} (h : l.length ≤ 100000) : CO N l = some l := by
 unfold CO
 rw [An (by simp only [List.length_nil]; unfold C2; omega)]; rfl
theorem SM (N : Nat) {l : List Int} (h : l.length ≤ 100000) : A0 N l = some l := by
 unfold A0
 rw [An (by simp only [List.length_nil]; unfold C2; omega)]; rfl
theorem SV (N : Nat) {l : List Aa} (h : l.length ≤ 100000) : A2 N l = some l := by
 unfold A2
 rw [An (by simp only [List.length_nil]; unfold C2; omega)]; rfl
theorem OQ {α : Type} {l : List α} {i : Nat} {x : α} (h : l[i]? = some x) : l.set i x = l := by
 apply List.ext_getElem?
 intro k
 rw [List.getElem?_set]
 have := (lI.1 h).1
 by_cases e : i = k
 ·subst e; rw [if_pos rfl, if_pos this, h]
 ·rw [if_neg e]
theorem WZ {N : Nat} (h20 : 100 ≤ N) (t : Ao) (h1 : t.fO.length ≤ 6) (h2 : ∀ row, row ∈ t.fO → row.length ≤ 6) (h3 : t.fR.length ≤ 6) (h4 : ∀ row, row ∈ t.fR → row.length ≤ 6) : FY N t = some t := by
 unfold FY
 rw [Tb N (by omega), Tb N (by omega)]
 simp only [oS]
 have l1 := HX (DF N t.fO fun v4 => BW N t.fR (fun v12 => some ⟨t.fJ, t.fK, t.fP, t.fS, v4, v12⟩) N (t.fR, 0)) (fun a i => (a, i)) t.fO (fun v4 => BW N t.fR (fun v12 => some ⟨t.fJ, t.fK, t.fP, t.fS, v4, v12⟩) N (t.fR, 0)) (fun _ _ a => a) (fun _ a => a = t.fO)
  (fun n i x a hx ha => by
   subst ha
   have hi := (lI.1 hx).1
   refine ⟨?_, rfl⟩
   rw [DF]
   simp only [AN, hx, oS]
   rw [AB (by omega), VR N (by have := h2 x (lM hx); omega)]
   simp only [oS]
   rw [Az (by omega), An (by omega), Int.toNat_natCast, OQ hx])
  (fun n a ha => by
   subst ha
   rw [DF, Aw (by omega), An (by simp only [Int.toNat_natCast])]) N 0 t.fO (Nat.zero_le _) (by omega) rfl
 have l2 := HX (BW N t.fR fun v12 => some ⟨t.fJ, t.fK, t.fP, t.fS, t.fO, v12⟩) (fun a i => (a, i)) t.fR (fun v12 => some ⟨t.fJ, t.fK, t.fP, t.fS, t.fO, v12⟩) (fun _ _ a => a) (fun _ a => a = t.fR)
  (fun n i x a hx ha => by
   subst ha
   have hi := (lI.1 hx).1
   refine ⟨?_, rfl⟩
   rw [BW]
   simp only [AN, hx, oS]
   rw [AB (by omega), VR N (by have := h4 x (lM hx); omega)]
   simp only [oS]
   rw [Az (by omega), An (by omega), Int.toNat_natCast, OQ hx])
  (fun n a ha => by
   subst ha
   rw [BW, Aw (by omega), An (by simp only [Int.toNat_natCast])]) N 0 t.fR (Nat.zero_le _) (by omega) rfl
 have e1 := l1.1.trans (congrArg (fun v4 => BW N t.fR (fun v12 => some (Ao.mk t.fJ t.fK t.fP t.fS v4 v12)) N (t.fR, 0)) l1.2)
 have e2 := l2.1.trans (congrArg (fun v12 => some (Ao.mk t.fJ t.fK t.fP t.fS t.fO v12)) l2.2)
 exact e1.trans e2
theorem VH {N : Nat} (hN : N ≤ 1000000) (h20 : 100 ≤ N) {p : Ab} (hv : Bk p = 0) : FL N p p.fL p.fQ = some (p, 0) := by
 obtain ⟨hp, _⟩ := BX hv
 have hnt := hp.nt
 have hnv := hp.nv
 have hnow := hp.now
 have htg := hp.tgt
 unfold FL
 rw [Hj N p hN (by omega), SM N (by omega), SM N (by omega), SM N (by omega)]
 simp only [oS, hv, bne_self_eq_false, Ap]
 rw [Dc (Dn N p _) (fun a i => (a, i)) p.fG (fun v7 => (BD N (Ab.mk p.fF p.fL p.fQ v7)).bind fun v12 => AR (v12 != 0) (some (Ab.mk [] [] [] [], v12)) (some (Ab.mk p.fF p.fL p.fQ v7, 0))) (fun _ x => [x]) 1 1000
  (fun i x hx => by simp)
  (fun n i x a hx ha => by
   have hi := (lI.1 hx).1
   have ht := IA (hp.tab x (lM hx))
   have hl := Jp hp ht
   have hr := bn hp ht
   rw [Dn]
   simp only [AN, hx, oS]
   rw [AB (by omega), WZ h20 x hl.1 hl.2 hr.1 hr.2]
   simp only [oS]
   rw [An (by simp only [List.length_singleton] at ha ⊢; unfold C2; omega), Az (by omega)])
  (fun n a => by
   rw [Dn, Aw (by omega)]) N [] (by omega) (by simp only [List.length_nil]; omega)]
 have e : ([] : List Ao) ++ B1 (fun _ x => [x]) 0 p.fG = p.fG := by
  rw [List.nil_append, JB (fun _ x => x)]
  apply List.ext_getElem?; intro k; rw [List.getElem?_mapIdx]; cases p.fG[k]? <;> rfl
 simp only [e]
 rw [Hj N _ hN (by omega)]
 simp only [oS, hv, bne_self_eq_false, Ap]
theorem TY {p : Ab} {c : Aa} (h : c ∈ Cv p) : ∃ (t u v : Nat) (x : Ao) (row : List Bool), p.fG[t]? = some x ∧ x.fO[u]? = some row ∧ row[v]? = some false ∧ c = ⟨(t : Int), (u : Int), (v : Int)⟩ := by
 obtain ⟨t, x, hx, h⟩ := FH.1 h
 obtain ⟨u, row, hu, h⟩ := FH.1 h
 obtain ⟨v, ok, hv, h⟩ := FH.1 h
 simp only [Nat.zero_add, Qz] at h
 cases ok
 ·simp only [Bool.false_eq_true, if_false, List.mem_singleton] at h
  exact ⟨t, u, v, x, row, hx, hu, hv, h⟩
 ·simp at h
theorem Th (l : List Aa) (c : Aa) (t u v : Nat) (ok : Bool) : UK (l ++ [c]) t u v ok = (UK l t u v ok || S7 c ⟨(t : Int), (u : Int), (v : Int)⟩) := by
 unfold UK Sa
 rw [List.any_append, List.any_cons, List.any_nil, Bool.or_false, Bool.or_assoc]
theorem VP {l : List Aa} {t u v t' u' v' : Nat} (h : t ≠ t' ∨ u ≠ u' ∨ v ≠ v') (ok : Bool) : UK (l ++ [⟨(t : Int), (u : Int), (v : Int)⟩]) t' u' v' ok = UK l t' u' v' ok := by
 rw [Th]
 have : S7 ⟨(t : Int), (u : Int), (v : Int)⟩ ⟨(t' : Int), (u' : Int), (v' : Int)⟩ = false := by
  cases hh : S7 ⟨(t : Int), (u : Int), (v : Int)⟩ ⟨(t' : Int), (u' : Int), (v' : Int)⟩
  ·rfl
  ·rw [J7] at hh
   simp only [Aa.mk.injEq] at hh
   omega
 rw [this, Bool.or_false]
theorem Xa {l : List Aa} {t u v : Nat} {x : Ao} {row : List Bool} (hu : x.fO[u]? = some row) (hv : v < row.length) :
  Kj (l ++ [⟨(t : Int), (u : Int), (v : Int)⟩]) t x = ⟨x.fJ, x.fK, x.fP, x.fS, (x.fO.mapIdx (I3 l t)).set u ((I3 l t u row).set v true), x.fR⟩ := by
 have hz : row[v]? = some row[v] := by simp [hv]
 unfold Kj
 congr 1
 rw [Ko (f := I3 l t) hu (fun j y _ hj => by
  unfold I3
  exact congrArg (fun f => y.mapIdx f) (funext fun k => funext fun ok => VP (.inr (.inl (Ne.symm hj))) ok))]
 congr 1
 unfold I3
 rw [Ko (f := UK l t u) hz (fun j y _ hj => VP (.inr (.inr (Ne.symm hj))) y)]
 congr 1
 rw [Th, (J7 _ _).2 rfl, Bool.or_true]
theorem Vi {ts : List Ao} {l : List Aa} {t u v : Nat} {x : Ao} {row : List Bool} (hx : ts[t]? = some x) (hu : x.fO[u]? = some row) (hv : v < row.length) :
  ts.mapIdx (Kj (l ++ [⟨(t : Int), (u : Int), (v : Int)⟩])) = (ts.mapIdx (Kj l)).set t ⟨x.fJ, x.fK, x.fP, x.fS, (x.fO.mapIdx (I3 l t)).set u ((I3 l t u row).set v true), x.fR⟩ := by
 rw [Ko (f := Kj l) hx (fun j y _ hj => by
  unfold Kj
  congr 1
  exact congrArg (fun f => y.fO.mapIdx f) (funext fun k => funext fun r => congrArg (fun f => r.mapIdx f) (funext fun q => funext fun ok => VP (.inl (Ne.symm hj)) ok))), Xa hu hv]
theorem RO (ts : List Ao) : ts.mapIdx (Kj []) = ts := by
 apply List.ext_getElem?
 intro k
 rw [List.getElem?_mapIdx]
 cases ts[k]? with
 | none => rfl
 | some x =>
  have : Kj [] k x = x := by
   unfold Kj
   have : x.fO.mapIdx (I3 [] k) = x.fO := by
    apply List.ext_getElem?
    intro u
    rw [List.getElem?_mapIdx]
    cases x.fO[u]? with
    | none => rfl
    | some row =>
     simp only [Option.map_some, Option.some.injEq]
     apply List.ext_getElem?
     intro v
     rw [I3, List.getElem?_mapIdx]
     cases row[v]? with
     | none => rfl
     | some ok => simp [UK, Sa]
   rw [this]
  rw [Option.map_some, this]
theorem W4 (p : Ab) : HM p [] = p := by unfold HM; rw [RO]
theorem Tx {N : Nat} (hN : N ≤ 1000000) (h20 : 100 ≤ N) {p : Ab} (hv : Bk p = 0) {l : List Aa} (hl : l.length < N) (hm : ∀ c, c ∈ l → c ∈ Cv p) : GK N p l = some (HM p l) := by
 unfold GK
 rw [VH hN h20 hv]
 simp only [oS]
 obtain ⟨a, e, h⟩ := E9 (A := List Ao) (Ef N l fun v3 => some ⟨p.fF, p.fL, p.fQ, v3⟩) (fun a k => (a, k)) l.length (fun v3 => some ⟨p.fF, p.fL, p.fQ, v3⟩) (fun i a => a = p.fG.mapIdx (Kj (l.take i)))
  (fun n i a hi ha => by
   subst ha
   have hc : l[i]? = some l[i] := by simp [hi]
   obtain ⟨t, u, v, x, row, hx, hu, hv, e⟩ := TY (hm l[i] (List.getElem_mem hi))
   have hvl := (lI.1 hv).1
   refine ⟨_, ?_, rfl⟩
   have e1 : (p.fG.mapIdx (Kj (l.take i)))[t]? = some (Kj (l.take i) t x) := by rw [List.getElem?_mapIdx, hx]; rfl
   have e2 : (Kj (l.take i) t x).fO[u]? = some (I3 (l.take i) t u row) := by
    show (x.fO.mapIdx (I3 (l.take i) t))[u]? = _
    rw [List.getElem?_mapIdx, hu]; rfl
   have e3 : (I3 (l.take i) t u row)[v]? = some (UK (l.take i) t u v false) := by rw [I3, List.getElem?_mapIdx, hv]; rfl
   rw [Ef]
   simp only [AN, hc, oS, e, e1, e2, e3, Int.toNat_natCast]
   rw [AB (by omega), Az (by omega)]
   have : l.take (i + 1) = l.take i ++ [⟨(t : Int), (u : Int), (v : Int)⟩] := by rw [List.take_add_one, hc, e]; rfl
   rw [this, Vi hx hu hvl]
   rfl)
  (fun n a h => by
   rw [Ef, Aw (by simp only; omega)]) N 0 p.fG (Nat.zero_le _) (by omega) (by rw [List.take_zero, RO])
 rw [List.take_length] at h
 subst h
 exact e
def KB (p : Ab) (l : List Aa) : Int := if Bk p = 0 then (if l.all (Sa (Cv p)) = true then 0 else 4) else Bk p
def V6 (p : Ab) (l : List Aa) : Ab × Int := if KB p l = 0 then (HM p l, 0) else (⟨[], [], [], []⟩, KB p l)
theorem Mu {l : List Aa} {f : Aa → Bool} {i : Nat} (h : i < l.length) : (l.drop i).all f = (f l[i] && (l.drop (i + 1)).all f) := by
 rw [Gt (show l[i]? = some l[i] by simp [h]), List.all_cons]
theorem Pq (N : Nat) (hN : N ≤ 1000000) (l e : List Aa) (he : e.length < N) (hl : l.length < 1000000) (j : Unit → Option Int) : ∀ (n i : Nat), i ≤ l.length → l.length - i < n → EF N l e j n (i : Int) = if (l.drop i).all (Sa e) = true then j () else some 4
 | 0, i, _, h => by omega
 | n + 1, i, hi, h => by
  rw [EF]
  by_cases h1 : i < l.length
  ·have hx : l[i]? = some l[i] := by simp [h1]
   rw [AB (by omega), AN, hx]
   simp only [oS]
   rw [Uo hN he, Az (by omega), Pq N hN l e he hl j n (i + 1) (by omega) (by omega), Mu h1]
   simp only [oS]
   cases Sa e l[i]
   ·rfl
   ·simp only [Bool.not_true, Ap, Bool.true_and]
  ·rw [Aw (by omega), List.drop_eq_nil_of_le (by omega)]; rfl
theorem SD {N : Nat} (hN : N ≤ 1000000) (h20 : 500 ≤ N) (p : Ab) {l : List Aa} (hl : l.length < N) : Gj N p l = some (KB p l) := by
 unfold Gj KB
 rw [Hj N p hN (by omega)]
 simp only [oS]
 by_cases hv : Bk p = 0
 ·obtain ⟨hp, _⟩ := BX hv
  have he := K1 hp
  rw [if_pos hv, hv, bne_self_eq_false, Ap, JN hN (by omega) hp]
  simp only [oS]
  have := Pq N hN l (Cv p) (by omega) (by omega) (fun _ => some 0) N 0 (by omega) (by omega)
  simp only [List.drop_zero] at this
  refine Eq.trans this ?_
  split <;> rfl
 ·rw [if_neg hv, bne_iff_ne.2 hv, AJ]
theorem RF {p : Ab} {l : List Aa} (h : KB p l = 0) : Bk p = 0 ∧ ∀ c, c ∈ l → c ∈ Cv p := by
 unfold KB at h
 split at h
 ·rename_i hv
  split at h
  ·rename_i ha
   exact ⟨hv, fun c hc => Kb.1 (List.all_eq_true.1 ha c hc)⟩
  ·cases h
 ·rename_i hv; exact absurd h hv
theorem XK {p : Ab} {l : List Aa} (hv : Bk p = 0) (h : ∀ c, c ∈ l → c ∈ Cv p) : KB p l = 0 := by
 unfold KB
 rw [if_pos hv, if_pos (List.all_eq_true.2 fun c hc => Kb.2 (h c hc))]
theorem PV (N : Nat) (hN : N ≤ 1000000) (l e : List Aa) (he : e.length < N) (hl : l.length < 1000000) (j : Unit → Option (Ab × Int)) : ∀ (n i : Nat), i ≤ l.length → l.length - i < n → DQ N l e j n (i : Int) = if (l.drop i).all (Sa e) = true then j () else some (⟨[], [], [], []⟩, 4)
 | 0, i, _, h => by omega
 | n + 1, i, hi, h => by
  rw [DQ]
  by_cases h1 : i < l.length
  ·have hx : l[i]? = some l[i] := by simp [h1]
   rw [AB (by omega), AN, hx]
   simp only [oS]
   rw [OD hN he, Az (by omega), PV N hN l e he hl j n (i + 1) (by omega) (by omega), Mu h1]
   simp only [oS]
   cases Sa e l[i]
   ·rfl
   ·simp only [Bool.not_true, Ap, Bool.true_and]
  ·rw [Aw (by omega), List.drop_eq_nil_of_le (by omega)]; rfl
theorem T0 {N : Nat} (hN : N ≤ 1000000) (h20 : 500 ≤ N) (p : Ab) {l : List Aa} (hl : l.length < N) : Fv N p l = some (V6 p l) := by
 unfold Fv V6 KB
 rw [MN N p hN (by omega)]
 simp only [oS]
 by_cases hv : Bk p = 0
 ·obtain ⟨hp, _⟩ := BX hv
  have he := K1 hp
  rw [if_pos hv, hv, bne_self_eq_false, Ap, JP hN (by omega) hp]
  simp only [oS]
  have := PV N hN l (Cv p) (by omega) (by omega) (fun _ => (Dj N p l).bind fun v10 => some (v10, 0)) N 0 (by omega) (by omega)
  simp only [List.drop_zero] at this
  refine Eq.trans this ?_
  rw [LC hN (by omega) hp hl]
  split <;> rfl
 ·rw [if_neg hv, if_neg hv, bne_iff_ne.2 hv, AJ]
theorem RV : Fd 2000 = some true := by kernel_rfl
structure dG (N : Nat) (p : Ab) : Prop where
 v : p.fF.length < N
 n : p.fL.length < N
 t : p.fQ.length < N
 s : p.fG.length < N
 m : ∀ t, t ∈ p.fG → t.fO.length < N ∧ (∀ row, row ∈ t.fO → row.length < N) ∧ t.fR.length < N ∧ ∀ row, row ∈ t.fR → row.length < N
def bp (p : Ab) : List Aa × Int := if Bk p = 0 then (Cv p, 0) else ([], Bk p)
theorem PA {N : Nat} (hN : N ≤ 1000000) (h20 : 500 ≤ N) (p : Ab) : E1 N p = some (bp p) := by
 unfold E1 bp
 rw [Hj N p hN (by omega)]
 simp only [oS]
 by_cases hv : Bk p = 0
 ·rw [if_pos hv, hv, bne_self_eq_false, Ap, JN hN (by omega) (BX hv).1]; rfl
 ·rw [if_neg hv, bne_iff_ne.2 hv, AJ]
theorem Y5 {β : Type} {p q : Ab} (h : Xj p q) {f g : Ao → β} (hf : ∀ x y, aN x y → g y = f x) : q.fG.map g = p.fG.map f := by
 apply List.ext_getElem?
 intro i
 rw [List.getElem?_map, List.getElem?_map]
 by_cases hi : i < p.fG.length
 ·have hx : p.fG[i]? = some p.fG[i] := by simp [hi]
  obtain ⟨y, hy, ht⟩ := h.o i _ hx
  rw [hx, hy, Option.map_some, Option.map_some, hf _ _ ht]
 ·rw [List.getElem?_eq_none (by rw [h.l]; omega), List.getElem?_eq_none (by omega)]; rfl
theorem UU {p q : Ab} (h : Xj p q) : EZ q = EZ p := by
 unfold EZ
 rw [h.n, Y5 h (f := FW p) (g := FW q) fun x y ht => by unfold FW; rw [ht.st, ht.f, h.n]]
theorem Vd {p q : Ab} (h : Xj p q) (s : Af) (held : List Int) : Io q s held = Io p s held := by
 unfold Io
 have : ∀ (xs ys : List Ao) (i : Nat) (a : List Int), ys.length = xs.length → (∀ (j : Nat) x, xs[j]? = some x → ∃ y, ys[j]? = some y ∧ aN x y) → HY (T2 s) i ys a = HY (T2 s) i xs a := by
  intro xs
  induction xs with
  | nil => intro ys i a hl _; rw [List.length_eq_zero_iff.1 (by simpa using hl : ys.length = 0)]
  | cons x xs ih =>
   intro ys i a hl hh
   cases ys with
   | nil => simp at hl
   | cons y ys =>
    obtain ⟨y', e1, e2⟩ := hh 0 x rfl
    simp only [List.getElem?_cons_zero, Option.some.injEq] at e1
    subst e1
    have : T2 s i y a = T2 s i x a := by unfold T2 Vk; rw [e2.f, e2.st]
    rw [HY, HY, this]
    exact ih ys (i + 1) _ (by simpa using hl) fun j x' hx => by
     obtain ⟨y', e1, e2⟩ := hh (j + 1) x' (by simpa using hx)
     exact ⟨y', by simpa using e1, e2⟩
 exact this _ _ _ _ h.l h.o
theorem UN {p q : Ab} (h : Xj p q) (m : Ae) (s : Af) : FQ q m s = FQ p m s := by
 unfold FQ
 simp only [Vd h]
 by_cases hi : s.fN.toNat < p.fG.length
 ·have hx : p.fG[s.fN.toNat]? = some p.fG[s.fN.toNat] := by simp [hi]
  obtain ⟨y, hy, ht⟩ := h.o _ _ hx
  rw [hx, hy]
  have : HS q m s.fN.toNat y = HS p m s.fN.toNat p.fG[s.fN.toNat] := by
   unfold HS O9 LZ; rw [ht.k, ht.f, ht.r]
  simp only [this, ht.st, ht.f]
 ·rw [List.getElem?_eq_none (by rw [h.l]; omega), List.getElem?_eq_none (by omega)]
theorem PI {p q : Ab} (h : Xj p q) (m : Ae) (s : Af) : A3 q m s = A3 p m s := by
 unfold A3 Gg
 rw [h.v, h.l, UN h]
theorem Su {p q : Ab} (h : Xj p q) : En q = En p := by
 unfold En; rw [h.v, h.l]
def d3 (p : Ab) : Prop := Bq p (EZ p) = true ∧ ∃ u, Nc p (EZ p) u = true
theorem PS {p q : Ab} (h : Xj p q) (hv : Bk p = 0) (hq : MS q) : MS p := by
 have hvq : Bk q = 0 := by rw [Pr h]; exact hv
 have hmq := NI hvq
 obtain ⟨hpq, _⟩ := BX hvq
 unfold MS at hq ⊢
 rw [UU h] at hq hmq
 cases hr : Bq p (EZ p)
 ·exact .inl rfl
 ·have hrq := NV h hr
  rcases hq with hq | ⟨l, hs⟩
  ·rw [hrq] at hq; cases hq
  ·obtain ⟨ws, hg⟩ := Sg hpq hmq hrq hs
   have hl : l.length ≤ 120 := Bfs.go_len _ _ _ _ (by simp) hs
   refine .inr (Qg (S := JZ l) (by unfold JZ; rw [List.length_map]; exact hl) ?_ 1000 0 [(EZ p, -1, MC)] (by simp [JZ]) (fun y hy => ?_) (Nat.zero_le _) (by omega))
   ·intro y hy w hw
    obtain ⟨⟨y0, f, s⟩, hm, rfl⟩ := List.mem_map.1 hy
    obtain ⟨k, hk⟩ := List.mem_iff_getElem?.1 hm
    obtain ⟨hw1, hw2, hw3⟩ := Pg.1 hw
    have hwq : w ∈ IN q y0 := by
     refine Pg.2 ⟨?_, by rw [hw2, PI h], NV h hw3⟩
     have := Ij hw1
     unfold Ga
     rw [Su h]
     exact List.mem_filter.2 ⟨this.1, by rw [PI h]; simpa using this.2⟩
    have hkl := Bfs.lt_get hk
    obtain ⟨wy, hwy⟩ := Bfs.get_ex (l := ws) (k := k) (by rw [hg.inv.len]; exact hkl)
    obtain ⟨k', f', s', w', e1, _, _⟩ := hg.inv.closed k y0 f s wy hk hwy w (.inl ⟨hkl, hwq⟩)
    exact List.mem_map.2 ⟨_, lM e1, rfl⟩
   ·simp only [JZ, List.map_cons, List.map_nil, List.mem_singleton] at hy
    subst hy
    obtain ⟨s0, hs0⟩ := hg.inv.root
    exact List.mem_map.2 ⟨_, lM hs0, rfl⟩
theorem P6 {p : Ab} {l l' : List Aa} (h : ∀ c, c ∈ l → c ∈ l') : Xj (HM p l) (HM p l') := by
 refine ⟨rfl, rfl, rfl, by simp only [HM, List.length_mapIdx], fun i x hx => ?_⟩
 simp only [HM] at hx ⊢
 rw [List.getElem?_mapIdx] at hx ⊢
 cases hz : p.fG[i]? with
 | none => rw [hz] at hx; cases hx
 | some z =>
  rw [hz] at hx
  simp only [Option.map_some, Option.some.injEq] at hx
  subst hx
  refine ⟨_, rfl, ⟨rfl, rfl, rfl, rfl, rfl, by simp only [Kj, List.length_mapIdx], fun u row hu => ?_⟩⟩
  simp only [Kj] at hu ⊢
  rw [List.getElem?_mapIdx] at hu ⊢
  cases hr : z.fO[u]? with
  | none => rw [hr] at hu; cases hu
  | some r =>
   rw [hr] at hu
   simp only [Option.map_some, Option.some.injEq] at hu
   subst hu
   refine ⟨_, rfl, by simp only [I3, List.length_mapIdx], fun v hv => ?_⟩
   simp only [I3] at hv ⊢
   rw [List.getElem?_mapIdx] at hv ⊢
   cases hb : r[v]? with
   | none => rw [hb] at hv; cases hv
   | some b =>
    rw [hb] at hv
    simp only [Option.map_some, Option.some.injEq] at hv ⊢
    unfold UK at hv ⊢
    rw [Bool.or_eq_true] at hv ⊢
    exact hv.imp id fun hv => Kb.2 (h _ (Kb.1 hv))
theorem IP (p : Ab) (l : List Aa) : Bk (HM p l) = Bk p := by
 have := Pr (P6 (p := p) (l := []) (l' := l) fun c hc => by cases hc)
 rw [W4] at this
 exact this
def Hq : List Aa → Nat → List (List Aa)
 | _, 0 => [[]]
 | [], _ + 1 => []
 | x :: l, k + 1 => (Hq l k).map (fun s => x :: s) ++ Hq l (k + 1)
theorem M6 (l : List Aa) : Hq l 0 = [[]] := by cases l <;> rfl
theorem Ux {α β : Type} (g : Nat → α → List β) : ∀ (i : Nat) (xs : List α), B1 g (i + 1) xs = B1 (fun j x => g (j + 1) x) i xs
 | _, [] => rfl
 | i, x :: xs => by rw [B1, B1, Ux g (i + 1) xs]
theorem P9 (k : Nat) : ∀ (l : List Aa), Hq l (k + 1) = B1 (fun i c => (Hq (l.drop (i + 1)) k).map fun s => c :: s) 0 l
 | [] => rfl
 | x :: l => by
  rw [Hq, B1, Ux, P9 k l]
  rfl
theorem Kz : ∀ (l : List Aa) (k : Nat), (Hq l k).length ≤ 2 ^ l.length
 | l, 0 => by rw [M6]; exact Nat.one_le_two_pow
 | [], _ + 1 => by simp [Hq]
 | x :: l, k + 1 => by
  rw [Hq, List.length_append, List.length_map, List.length_cons, Nat.pow_succ]
  have := Kz l k
  have := Kz l (k + 1)
  omega
theorem Jv : ∀ (l : List Aa) (k : Nat) (s : List Aa), s ∈ Hq l k ↔ s.Sublist l ∧ s.length = k
 | l, 0, s => by
  rw [M6, List.mem_singleton]
  constructor
  ·rintro rfl; exact ⟨List.nil_sublist _, rfl⟩
  ·rintro ⟨_, h⟩; exact List.length_eq_zero_iff.1 h
 | [], k + 1, s => by
  simp only [Hq, List.not_mem_nil, false_iff]
  rintro ⟨h1, h2⟩
  rw [List.sublist_nil.1 h1] at h2; cases h2
 | x :: l, k + 1, s => by
  rw [Hq, List.mem_append, List.mem_map, Jv l (k + 1)]
  constructor
  ·rintro (⟨r, hr, rfl⟩ | ⟨h1, h2⟩)
   ·obtain ⟨h1, h2⟩ := (Jv l k r).1 hr
    exact ⟨h1.cons_cons x, by rw [List.length_cons, h2]⟩
   ·exact ⟨h1.cons x, h2⟩
  ·rintro ⟨h1, h2⟩
   cases h1 with
   | cons _ h => exact .inr ⟨h, h2⟩
   | cons_cons _ h => exact .inl ⟨_, (Jv l k _).2 ⟨h, by simpa using h2⟩, rfl⟩
theorem KW {n : Nat} (h : n ≤ 7) : 2 ^ n ≤ 128 := Nat.pow_le_pow_right (n := 2) (by omega) h
theorem OS (N : Nat) (hN : N ≤ 1000000) (h20 : 500 ≤ N) : ∀ (k f : Nat) (l : List Aa), k < f → k ≤ 3 → l.length ≤ 7 → DU N f l (k : Int) = some (Hq l k)
 | k, 0, l, h, _, _ => by omega
 | 0, f + 1, l, _, _, _ => by rw [M6]; rfl
 | k + 1, f + 1, l, hf, hk, hl => by
  have p128 := KW hl
  rw [DU, GT, beq_eq_false_iff_ne.2 (by omega : ((k + 1 : Nat) : Int) ≠ 0), Ap]
  rw [Dc (DC N l ((k + 1 : Nat) : Int) (DU N f) _) (fun a i => (a, i)) l some (fun i c => (Hq (l.drop (i + 1)) k).map fun s => c :: s) 128 2000
   (fun i c hc => by
    have := Kz (l.drop (i + 1)) k
    have := KW (show (l.drop (i + 1)).length ≤ 7 by rw [List.length_drop]; omega)
    rw [List.length_map]; omega)
   (fun n i c a hc ha => by
    have hi := (lI.1 hc).1
    have hd : (l.drop (i + 1)).take (l.length - (i + 1)) = l.drop (i + 1) := List.take_of_length_le (by rw [List.length_drop]; omega)
    have hlen := Kz (l.drop (i + 1)) k
    have hpow := KW (show (l.drop (i + 1)).length ≤ 7 by rw [List.length_drop]; omega)
    have hw : wI .i64 (((k + 1 : Nat) : Int) - 1) = (k : Int) := by rw [Cx (by omega) (by omega)]; omega
    rw [DC]
    simp only [AN, hc, oS]
    rw [AB (by omega), Az (by omega), An (by omega), Int.toNat_natCast, hd, hw, OS N hN h20 k f _ (by omega) (by omega) (by rw [List.length_drop]; omega)]
    simp only [oS]
    rw [List.length_map] at ha
    rw [Dc (D9 N c (Hq (l.drop (i + 1)) k) _) (fun a i => (a, i)) (Hq (l.drop (i + 1)) k) (fun v9 => DC N l ((k + 1 : Nat) : Int) (DU N f) some n (v9, ((i + 1 : Nat) : Int))) (fun _ s => [c :: s]) 1 3000
     (fun j s hs => by simp)
     (fun n2 j s b hs hb => by
      have hj := (lI.1 hs).1
      have hsl := (List.Sublist.length_le ((Jv _ _ s).1 (lM hs)).1)
      rw [List.length_drop] at hsl
      rw [D9]
      simp only [AN, hs, oS]
      rw [AB (by omega), An (by simp only [List.length_singleton]; unfold C2; omega), An (by simp only [List.length_singleton] at hb ⊢; unfold C2; omega), Az (by omega)]
      rfl)
     (fun n2 b => by
      rw [D9, Aw (by omega)]) N a (by omega) (by omega)]
    rw [JB (fun _ s => c :: s)]
    have : (Hq (l.drop (i + 1)) k).mapIdx (fun _ s => c :: s) = (Hq (l.drop (i + 1)) k).map fun s => c :: s := by
     apply List.ext_getElem?; intro q; rw [List.getElem?_mapIdx, List.getElem?_map]
    rw [this])
   (fun n a => by
    rw [DC, Aw (by omega)]) N [] (by omega) (by simp only [List.length_nil]; omega)]
  rw [List.nil_append, P9]
structure Ia (p : Ab) : Prop where
 v : Bk p = 0
 e : (Cv p).length ≤ 7
 l : MS (HM p (Cv p))
def Rg (p : Ab) (l : List Aa) : Bool := match GF 1000 (HM p l) with
 | some r => r.2 == 0
 | none => false
theorem WJ {N : Nat} (hN : N ≤ 1000000) (h1 : 1000 ≤ N) {p : Ab} (hv : Bk p = 0) {m : Ae} (hm : B0 p m) (hr : Bq p m = true) {l : List Jt} (hs : Iz p m 120 1000 = some l) :
  ∃ r, F5 N p m = some r ∧ UI p m r := by
 obtain ⟨hp, _⟩ := BX hv
 obtain ⟨ws, h⟩ := Sg hp hm hr hs
 have hl : l.length ≤ 120 := Bfs.go_len _ _ _ _ (by simp) hs
 refine ⟨_, Sp (N := N) (by omega) (by omega) hv hm hr (by omega) (by omega) (Bfs.go_more (Nat.le_refl _) _ _ _ _ _ h1 hs) (by omega) h, ?_⟩
 rcases RG hp h with ⟨k1, h2, h3⟩ | k1
 ·exact .inl ⟨k1, h2, by omega⟩
 ·exact .inr k1
theorem UO {N : Nat} (hN : N ≤ 1000000) (h1 : 1000 ≤ N) {p : Ab} (hv : Bk p = 0) {m : Ae} (hm : B0 p m) (hr : Bq p m = false) : F5 N p m = some ([], 13) := by
 unfold F5
 rw [Kl N p m (by omega) (by omega) (MA hm) (IQ hv hm), hr]; rfl
theorem Xb {N : Nat} (hN : N ≤ 1000000) (h1 : 1000 ≤ N) {p : Ab} (hv : Bk p = 0) (hl : MS p) : ∃ r, GF N p = some r ∧ LM p r := by
 have hm := NI hv
 unfold GF
 rw [R2 N p (by omega) (by omega), if_pos hv]
 simp only [oS, hv, bne_self_eq_false, Ap]
 cases hr : Bq p (EZ p)
 ·rw [UO hN h1 hv hm hr]
  exact ⟨_, rfl, .inl ⟨hr, rfl⟩⟩
 ·rcases hl with h | ⟨l, hs⟩
  ·rw [hr] at h; cases h
  ·obtain ⟨r, e1, e3⟩ := WJ hN h1 hv hm hr hs
   rw [e1]
   exact ⟨r, rfl, .inr ⟨hr, e3⟩⟩
theorem XW {N : Nat} (hN : N ≤ 1000000) (h1 : 1000 ≤ N) {p : Ab} (hu : Ia p) {l : List Aa} (hl : ∀ c, c ∈ l → c ∈ Cv p) : ∃ r, GF N (HM p l) = some r ∧ LM (HM p l) r :=
 Xb hN h1 (by rw [IP]; exact hu.v) (PS (P6 hl) (by rw [IP]; exact hu.v) hu.l)
theorem Nk {p : Ab} {r : List Af × Int} (h : LM p r) : ((r.2 == 0) = true ↔ d3 p) ∧ (r.2 == 3) = false ∧ (r.2 = 0 ∨ r.2 = 13 ∨ r.2 = 14) := by
 rcases h with ⟨h1, h2⟩ | ⟨h1, ⟨h2, h3, _⟩ | ⟨h2, h3⟩⟩
 ·subst h2
  refine ⟨⟨(fun h => by cases h), fun h => ?_⟩, rfl, .inr (.inl rfl)⟩
  rw [h.1] at h1; cases h1
 ·rw [h2]
  exact ⟨⟨fun _ => ⟨h1, _, h3.1⟩, fun _ => rfl⟩, rfl, .inl rfl⟩
 ·subst h2
  refine ⟨⟨(fun h => by cases h), fun h => ?_⟩, rfl, .inr (.inr rfl)⟩
  obtain ⟨_, u, hu⟩ := h
  rw [h3 u] at hu; cases hu
theorem Z0 {p : Ab} (hu : Ia p) {l : List Aa} (hl : ∀ c, c ∈ l → c ∈ Cv p) : Rg p l = true ↔ d3 (HM p l) := by
 obtain ⟨r, e1, e3⟩ := XW (N := 1000) (by omega) (by omega) hu hl
 unfold Rg
 rw [e1]
 exact (Nk e3).1
theorem V3 {p : Ab} (hu : Ia p) {l : List Aa} (hl : ∀ c, c ∈ l → c ∈ Cv p) {r : List Af × Int} (h : LM (HM p l) r) : (r.2 == 0) = Rg p l := by
 rw [Bool.eq_iff_iff, Z0 hu hl]; exact (Nk h).1
theorem MZ {N : Nat} (hN : N ≤ 1000000) (h1 : 1000 ≤ N) {p : Ab} (hu : Ia p) {l : List Aa} (hl : ∀ c, c ∈ l → c ∈ Cv p) (hs : l.length < 1000) : Ed N p l = some (Rg p l, 0) := by
 obtain ⟨r, e1, e3⟩ := XW hN h1 hu hl
 unfold Ed
 rw [Tx hN (by omega) hu.v (by omega) hl]
 simp only [oS, e1, (Nk e3).2.1, Ap, V3 hu hl e3]
def Kw (p : Ab) (k : Nat) : List (List Aa) := (Hq (Cv p) k).filter (Rg p)
theorem UF {p : Ab} {k : Nat} {s : List Aa} : s ∈ Kw p k ↔ s.Sublist (Cv p) ∧ s.length = k ∧ Rg p s = true := by
 unfold Kw
 rw [List.mem_filter, Jv, and_assoc]
def Pm (p : Ab) : Nat → Nat → List (List Aa) × Int
 | 0, _ => ([], 14)
 | n + 1, k => if Kw p k = [] then Pm p n (k + 1) else (Kw p k, 0)
theorem N3 {α : Type} (f : α → Bool) : ∀ (i : Nat) (xs : List α), B1 (fun _ x => if f x = true then [x] else []) i xs = xs.filter f
 | _, [] => rfl
 | i, x :: xs => by
  rw [B1, N3 f (i + 1) xs, List.filter_cons]
  split <;> rfl
theorem WE {N : Nat} (hN : N ≤ 1000000) (h1 : 1000 ≤ N) {p : Ab} (hu : Ia p) (k : Nat) (j : List (List Aa) → Option (List (List Aa) × Int)) : DV N p (Hq (Cv p) k) j N ([], 0) = j (Kw p k) := by
 have hl := Kz (Cv p) k
 have hp := KW hu.e
 rw [Dc (DV N p (Hq (Cv p) k) j) (fun a i => (a, i)) (Hq (Cv p) k) j (fun _ s => if Rg p s = true then [s] else []) 1 500
  (fun i s hs => by split <;> simp)
  (fun n i s a hs ha => by
   have hi := (lI.1 hs).1
   obtain ⟨k1, h2⟩ := (Jv _ _ s).1 (lM hs)
   have h3 := k1.length_le
   have := hu.e
   rw [DV]
   simp only [AN, hs, oS, A5]
   rw [AB (by omega), MZ hN h1 hu (fun c hc => k1.subset hc) (by omega), Az (by omega)]
   simp only [oS, bne_self_eq_false, Ap]
   cases hb : Rg p s
   ·rw [Ap, if_neg (by simp), List.append_nil]
   ·rw [hb, if_pos rfl] at ha
    rw [AJ, if_pos rfl, An (by simp only [List.length_singleton] at ha ⊢; unfold C2; omega)])
  (fun n a => by
   rw [DV, Aw (by omega)]) N [] (by omega) (by simp only [List.length_nil]; omega)]
 rw [List.nil_append, N3]; rfl
theorem Q5 {N : Nat} (hN : N ≤ 1000000) (h1 : 1000 ≤ N) {p : Ab} (hu : Ia p) : ∀ (n k m : Nat), k + n = 4 → n < m → EC N p (fun _ => some ([], 14)) m (Cv p, (k : Int)) = some (Pm p n k)
 | n, k, 0, _, h => by omega
 | 0, k, m + 1, hk, _ => by
  rw [EC, Aw (by omega)]; rfl
 | n + 1, k, m + 1, hk, hm => by
  rw [EC, AB (by omega)]
  simp only [I5]
  rw [OS N (by omega) (by omega) k N _ (by omega) (by omega) hu.e]
  simp only [oS]
  rw [WE hN h1 hu k, Az (by omega), Pm]
  cases hr : Kw p k with
  | nil =>
   rw [if_pos rfl, Aw (by simp)]
   exact Q5 hN h1 hu n (k + 1) m (by omega) (by omega)
  | cons s l =>
   rw [if_neg (by simp), AB (by simp only [List.length_cons]; omega)]
def WG (p : Ab) : List (List Aa) × Int := Pm p 4 0
theorem VJ {N : Nat} (hN : N ≤ 1000000) (h1 : 1000 ≤ N) {p : Ab} (hu : Ia p) : Gq N p = some (WG p) := by
 unfold Gq
 have := hu.e
 rw [PA (by omega) (by omega)]
 unfold bp
 rw [if_pos hu.v]
 simp only [oS, bne_self_eq_false, Ap]
 rw [Aw (by omega)]
 exact Q5 hN h1 hu 4 0 N rfl (by omega)
theorem Qu (p : Ab) : ∀ (n k : Nat), (Pm p n k = ([], 14) ∧ ∀ j, k ≤ j → j < k + n → Kw p j = []) ∨ ∃ j, k ≤ j ∧ j < k + n ∧ Pm p n k = (Kw p j, 0) ∧ Kw p j ≠ [] ∧ ∀ i, k ≤ i → i < j → Kw p i = []
 | 0, k => .inl ⟨rfl, fun j h1 h2 => by omega⟩
 | n + 1, k => by
  rw [Pm]
  by_cases h : Kw p k = []
  ·rw [if_pos h]
   rcases Qu p n (k + 1) with ⟨h1, h2⟩ | ⟨j, h1, h2, h3, h4, h5⟩
   ·exact .inl ⟨h1, fun j hj1 hj2 => by
     by_cases e : j = k
     ·rw [e]; exact h
     ·exact h2 j (by omega) (by omega)⟩
   ·exact .inr ⟨j, by omega, by omega, h3, h4, fun i hi1 hi2 => by
     by_cases e : i = k
     ·rw [e]; exact h
     ·exact h5 i (by omega) hi2⟩
  ·rw [if_neg h]
   exact .inr ⟨k, Nat.le_refl _, by omega, rfl, h, fun i h1 h2 => by omega⟩
theorem Q8 (p : Ab) : (WG p = ([], 14) ∧ ∀ j, j < 4 → Kw p j = []) ∨ ∃ j, j < 4 ∧ WG p = (Kw p j, 0) ∧ Kw p j ≠ [] ∧ ∀ i, i < j → Kw p i = [] := by
 rcases Qu p 4 0 with ⟨h1, h2⟩ | ⟨j, _, h2, h3, h4, h5⟩
 ·exact .inl ⟨h1, fun j hj => h2 j (Nat.zero_le _) (by omega)⟩
 ·exact .inr ⟨j, by omega, h3, h4, fun i hi => h5 i (Nat.zero_le _) hi⟩
def Po (p : Ab) : List Aa × Int := if (WG p).2 = 0 then ((WG p).1.headD [], 0) else ([], (WG p).2)
theorem R3 {N : Nat} (hN : N ≤ 1000000) (h1 : 1000 ≤ N) {p : Ab} (hu : Ia p) : FF N p = some (Po p) := by
 unfold FF Po
 rw [VJ hN h1 hu]
 simp only [oS]
 rcases Q8 p with ⟨h, _⟩ | ⟨j, _, h, hn, _⟩
 ·rw [h]; rfl
 ·rw [h]
  simp only [bne_self_eq_false, Ap, if_true]
  cases hr : Kw p j with
  | nil => exact absurd hr hn
  | cons s l => rfl
theorem Uk (p : Ab) : (Po p = ([], 14) ∧ ∀ j, j < 4 → Kw p j = []) ∨ ∃ j s, j < 4 ∧ Po p = (s, 0) ∧ s ∈ Kw p j ∧ ∀ i, i < j → Kw p i = [] := by
 unfold Po
 rcases Q8 p with ⟨h, h2⟩ | ⟨j, h1, h, hn, h2⟩
 ·rw [h]; exact .inl ⟨rfl, h2⟩
 ·rw [h, if_pos rfl]
  cases hr : Kw p j with
  | nil => exact absurd hr hn
  | cons s l => exact .inr ⟨j, s, h1, rfl, by rw [hr]; exact List.mem_cons_self, h2⟩
theorem U0 {p : Ab} (hp : A9 p) {m : Ae} (hm : B0 p m) (hr : Bq p m = true) {n : Nat} {l : List Jt} (hs : Iz p m 60 n = some l) : ∃ l', Iz p m 120 1000 = some l' := by
 obtain ⟨ws, hg⟩ := Sg hp hm hr hs
 have hl : l.length ≤ 60 := Bfs.go_len _ _ _ _ (by simp) hs
 refine Qg (S := JZ l) (by unfold JZ; rw [List.length_map]; omega) ?_ 1000 0 [(m, -1, MC)] (by simp [JZ]) (fun y hy => ?_) (Nat.zero_le _) (by omega)
 ·intro y hy w hw
  obtain ⟨⟨y0, f, s⟩, hmem, rfl⟩ := List.mem_map.1 hy
  obtain ⟨k, hk⟩ := List.mem_iff_getElem?.1 hmem
  have hkl := Bfs.lt_get hk
  obtain ⟨wy, hwy⟩ := Bfs.get_ex (l := ws) (k := k) (by rw [hg.inv.len]; exact hkl)
  obtain ⟨k', f', s', w', e1, _, _⟩ := hg.inv.closed k y0 f s wy hk hwy w (.inl ⟨hkl, hw⟩)
  exact List.mem_map.2 ⟨_, lM e1, rfl⟩
 ·simp only [JZ, List.map_cons, List.map_nil, List.mem_singleton] at hy
  subst hy
  obtain ⟨s0, hs0⟩ := hg.inv.root
  exact List.mem_map.2 ⟨_, lM hs0, rfl⟩
theorem UX {N : Nat} (hN : N ≤ 1000000) (h1 : 1000 ≤ N) {p : Ab} (hv : Bk p = 0) : ∃ b, Ff N p 60 = some b ∧ (b = true → MS p) := by
 obtain ⟨hp, _⟩ := BX hv
 have hm := NI hv
 unfold Ff
 rw [NX N p (by omega) (by omega), if_pos hv]
 simp only [oS, A5, hv, bne_self_eq_false, Ap]
 rw [IJ N p _ (by omega) (by omega) hp hm]
 simp only [oS]
 cases hr : Bq p (EZ p)
 ·exact ⟨true, rfl, fun _ => .inl hr⟩
 ·have e := Nj (N := N) (by omega) (by omega) hv hm hr (most := 60) (by omega) (by omega) (.inl (by omega))
  have e' : C5 N p (EZ p) 60 = _ := e
  rw [Bool.not_true, Ap, e']
  cases hs : Iz p (EZ p) 60 N with
  | none => exact ⟨false, rfl, fun h => by cases h⟩
  | some l => exact ⟨true, rfl, fun _ => .inr (U0 hp hm hr hs)⟩
theorem Xz {N : Nat} (hN : N ≤ 1000000) (h1 : 1000 ≤ N) (d : BJ) (wd : F4 d) : ∃ p b, F1 N d = some (p, b) ∧ (b = true → Ia p) := by
 obtain ⟨p, ok, e, h⟩ := fg N d (by omega) (by omega) wd
 unfold F1
 rw [e]
 simp only [oS, A5]
 cases ok
 ·exact ⟨p, false, rfl, fun h => by cases h⟩
 ·rw [AJ]
  have hv := (h rfl).valid
  obtain ⟨hp, _⟩ := BX hv
  have he := K1 hp
  by_cases h2 : (p.fF.length : Int) ≤ 2
  ·rw [AB h2]
   unfold FV
   rw [JP (by omega) (by omega) hp]
   simp only [oS, A5]
   by_cases h7 : ((Cv p).length : Int) ≤ 7
   ·rw [AB h7, LC (by omega) (by omega) hp (by omega)]
    simp only [oS]
    obtain ⟨b, e2, h3⟩ := UX hN h1 (p := HM p (Cv p)) (by rw [IP]; exact hv)
    rw [e2]
    exact ⟨p, b, rfl, fun hb => ⟨hv, by omega, h3 hb⟩⟩
   ·rw [Aw h7]
    exact ⟨p, false, rfl, fun h => by cases h⟩
  ·rw [Aw h2]
   exact ⟨p, false, rfl, fun h => by cases h⟩
theorem Za (N : Nat) (l : List Aa) (i : Nat) (hi : i < l.length) (hl : l.length ≤ 1000) : ∃ X, Bx N l (i : Int) (((i + 1 : Nat) : Int)) = some (l.length - 1, X) ∧ X.take (l.length - 1) = l.eraseIdx i ∧ l.length - 1 ≤ X.length := by
 unfold Bx
 have e1 : ((l.drop (i + 1)).take (l.length - (i + 1))) = l.drop (i + 1) := List.take_of_length_le (by simp)
 have e2 : i + (l.drop (i + 1)).length = l.length - 1 := by simp; omega
 have e3 : (Gx l (0 + i) (l.drop (i + 1))).length = l.length := GI (by simp; omega)
 simp only [Int.toNat_natCast, e1, e2, e3]
 rw [An ⟨by omega, by omega, by omega, by omega, by omega, Nat.le_refl _⟩, beq_eq_false_iff_ne.2 (show (i : Int) ≠ ((i + 1 : Nat) : Int) by omega), Ap,
  An ⟨by omega, by omega, by omega⟩, An ⟨by omega, by omega, Nat.le_refl _⟩, An (by omega), An ⟨by omega, by omega, by omega, Nat.le_refl _⟩]
 refine ⟨_, rfl, ?_, ?_⟩
 ·rw [Qe]
  unfold Gx
  rw [Nat.zero_add, List.append_assoc]
  have h1 : (l.take i ++ l.drop (i + 1) ++ l.drop (i + (l.drop (i + 1)).length)).take (l.length - 1) = l.take i ++ l.drop (i + 1) := by
   have : (l.take i ++ l.drop (i + 1)).length = l.length - 1 := by simp; omega
   rw [List.take_append_of_le_length (by omega), List.take_of_length_le (by omega)]
  rw [h1, List.take_append_of_le_length (by simp; omega), List.take_of_length_le (by simp; omega)]
 ·rw [GI (by rw [e3, List.length_replicate]; omega), e3]; omega
theorem Tm {p : Ab} {l l' : List Aa} (h : ∀ c, c ∈ l ↔ c ∈ l') : HM p l = HM p l' := by
 have : Sa l = Sa l' := funext fun c => by rw [Bool.eq_iff_iff, Kb, Kb, h]
 unfold HM
 have e : Kj l = Kj l' := by
  funext t x; unfold Kj
  have : I3 l t = I3 l' t := by
   funext u row; unfold I3
   have : UK l t u = UK l' t u := by funext v ok; unfold UK; rw [this]
   rw [this]
  rw [this]
 rw [e]
end Go.Lift
namespace Go.Lift
open Go
structure Kv {α : Type} (c : α → α → Int) : Prop where
 anti : ∀ x y, c y x = - c x y
 le : ∀ x y z, c x y ≤ 0 → c y z ≤ 0 → c x z ≤ 0
namespace Kv
variable {α : Type} {c : α → α → Int}
theorem self (O : Kv c) (x : α) : c x x = 0 := by have := O.anti x x; omega
theorem lt1 (O : Kv c) {x y z : α} (h : c x y < 0) (h2 : c y z ≤ 0) : c x z < 0 := by
 have h3 := O.le x y z (by omega) h2
 by_cases h0 : c x z = 0
 ·have h4 := O.anti x z
  have h5 := O.le y z x h2 (by omega)
  have h6 := O.anti x y
  omega
 ·omega
theorem lt2 (O : Kv c) {x y z : α} (h : c x y ≤ 0) (h2 : c y z < 0) : c x z < 0 := by
 have h3 := O.le x y z h (by omega)
 by_cases h0 : c x z = 0
 ·have h4 := O.anti x z
  have h5 := O.le z x y (by omega) h
  have h6 := O.anti y z
  omega
 ·omega
theorem or {d : α → α → Int} (O : Kv c) (Q : Kv d) : Kv (fun x y => if c x y = 0 then d x y else c x y) := by
 refine ⟨fun x y => ?_, fun x y z => ?_⟩
 ·have := O.anti x y
  by_cases h : c x y = 0
  ·simp only [h, show c y x = 0 by omega, if_true]; exact Q.anti x y
  ·simp only [h, show ¬ c y x = 0 by omega, if_false]; exact this
 ·intro h1 h2
  have a1 : c x y ≤ 0 := by revert h1; split <;> omega
  have a2 : c y z ≤ 0 := by revert h2; split <;> omega
  have a3 := O.le x y z a1 a2
  by_cases h0 : c x z = 0
  ·have b1 : c x y = 0 := by
    by_cases q : c x y = 0
    ·exact q
    ·have := O.lt1 (show c x y < 0 by omega) a2; omega
   have b2 : c y z = 0 := by
    by_cases q : c y z = 0
    ·exact q
    ·have := O.lt2 a1 (show c y z < 0 by omega); omega
   simp only [b1, b2, h0, if_true] at h1 h2 ⊢
   exact Q.le x y z h1 h2
  ·simp only [h0, if_false]; exact a3
end Kv
section
variable {α : Type} {P : α → Prop} {cmp : α × α → Option Int} {bq : α → α → Bool} {c : α → α → Int}
theorem O1 (O : Kv c) (hc : ∀ x y, P x → P y → cmp (x, y) = some (c x y)) {x : α} (hx : P x) : ∀ l : List α, (∀ y, y ∈ l → P y) → l.Pairwise (fun x y => c x y ≤ 0) → (Va cmp x l).Pairwise (fun x y => c x y ≤ 0)
 | [], _, _ => by simp [Va]
 | y :: ys, hl, hp => by
  obtain ⟨p1, p2⟩ := List.pairwise_cons.1 hp
  have hy := hl y (by simp)
  unfold Va
  rw [hc x y hx hy]
  simp only
  split
  ·rename_i h
   refine List.pairwise_cons.2 ⟨fun z hz => ?_, hp⟩
   rcases List.mem_cons.1 hz with e | e
   ·subst e; exact h
   ·exact O.le _ _ _ h (p1 z e)
  ·refine List.pairwise_cons.2 ⟨fun z hz => ?_, O1 O hc hx ys (fun z hz => hl z (by simp [hz])) p2⟩
   rcases List.mem_cons.1 ((Oq cmp x ys).mem_iff.1 hz) with e | e
   ·subst e; have := O.anti z y; omega
   ·exact p1 z e
theorem ON (O : Kv c) (hc : ∀ x y, P x → P y → cmp (x, y) = some (c x y)) : ∀ l : List α, (∀ y, y ∈ l → P y) → (UQ cmp l).Pairwise (fun x y => c x y ≤ 0)
 | [], _ => List.Pairwise.nil
 | x :: l, hl => O1 O hc (hl x (by simp)) _ (fun y hy => hl y (by simp [(Mc cmp l).mem_iff.1 hy])) (ON O hc l fun y hy => hl y (by simp [hy]))
theorem YF (O : Kv c) (hc : ∀ x y, P x → P y → cmp (x, y) = some (c x y)) (h0 : ∀ x y, P x → P y → c x y = 0 → bq x y = true) : ∀ l : List α, (∀ y, y ∈ l → P y) → l.Pairwise (fun x y => c x y ≤ 0) → cx cmp bq l = true
 | [], _, _ => rfl
 | y :: ys, hl, hp => by
  obtain ⟨p1, p2⟩ := List.pairwise_cons.1 hp
  have hy := hl y (by simp)
  unfold cx
  rw [hc y y hy hy, YF O hc h0 ys (fun z hz => hl z (by simp [hz])) p2, Bool.and_true, Bool.and_eq_true, List.all_eq_true]
  refine ⟨decide_eq_true (O.self y), fun z hz => ?_⟩
  have hz' := hl z (by simp [hz])
  unfold Wo
  rw [hc y z hy hz', hc z y hz' hy]
  simp only
  have h1 := p1 z hz
  have h2 := O.anti y z
  by_cases h : c y z = 0
  ·rw [h0 y z hy hz' h, decide_eq_true h, decide_eq_true (show c z y = 0 by omega)]; simp
  ·rw [decide_eq_true (show c y z < 0 by omega), decide_eq_true (show 0 < c z y by omega)]; simp
theorem W1 (O : Kv c) (hc : ∀ x y, P x → P y → cmp (x, y) = some (c x y)) (h0 : ∀ x y, P x → P y → c x y = 0 → bq x y = true) (l : List α) (hl : l.length ≤ 1000) (hP : ∀ x, x ∈ l → P x) :
  ∃ r : List α, Ra cmp bq l = some r ∧ r.Perm l ∧ r.Pairwise (fun x y => c x y ≤ 0) := by
 have hp := Mc cmp l
 have hs := ON O hc l hP
 refine ⟨UQ cmp l, ?_, hp, hs⟩
 unfold Ra
 rw [YF O hc h0 _ (fun y hy => hP y (hp.mem_iff.1 hy)) hs, decide_eq_true (show l.length < 4611686018427387904 by omega)]
 rfl
end
section
variable {α : Type} {c : α → α → Int}
abbrev VN (c : α → α → Int) (l : List α) : Prop := l.Pairwise (fun x y => c x y < 0)
end
theorem Kv.pull {α β : Type} {c : α → α → Int} (O : Kv c) (f : β → α) : Kv (fun x y => c (f x) (f y)) := ⟨fun _x _y => O.anti _ _, fun _x _y _z => O.le _ _ _⟩
theorem XR : Kv (fun (x y : Int) => if x < y then -1 else if x = y then 0 else 1) := by
 refine ⟨fun x y => ?_, fun x y z => ?_⟩
 ·repeat' split
  all_goals omega
 ·repeat' split
  all_goals omega
end Go.Lift
namespace Go.Lift
open IntKind renaming wrap → wI
open Go
variable {α : Type}
def Gs.compact_L11 (z : α) (N : Nat) (p0 : List α) (p1 : (α × α) → Option Bool) (v2 : Int) (j11 : ((List α) × Int) → Option (Nat × (List α))) : Nat → ((List α) × Int × Int) → Option (Nat × (List α))
 | 0, _ => none
 | n11 + 1, v11 =>
  AR ((decide (v11.2.2 < ((((p0.length - (v2).toNat)) : Nat) : Int))))
   (Bi (fun (v14 : (List α) × Int) =>
    Gs.compact_L11 z N p0 p1 v2 j11 n11 (v14.1, v14.2, (wI .i64 (v11.2.2 + 1))))
   fun j14 =>
   (Dp (((v2).toNat) + ((p0.length - (v2).toNat)) ≤ v11.1.length)).bind fun _ =>
   (Br (((v11.1.drop ((v2).toNat)).take ((p0.length - (v2).toNat)))) v11.2.2).bind fun v15 =>
   (Br (((v11.1.drop ((v2).toNat)).take ((p0.length - (v2).toNat)))) ((wI .i64 (v11.2.2 - 1)))).bind fun v17 =>
   (p1 ((v15, v17))).bind fun v18 =>
   AR ((!v18))
    ((Br (((v11.1.drop ((v2).toNat)).take ((p0.length - (v2).toNat)))) v11.2.2).bind fun v20 =>
    (Br v11.1 v11.2.1).bind fun _ =>
    j14 (v11.1.set ((v11.2.1).toNat) v20, (wI .i64 (v11.2.1 + 1))))
    (j14 (v11.1, v11.2.1)))
   (j11 (v11.1, v11.2.1))
def Gs.compact_L2 (z : α) (N : Nat) (p0 : List α) (p1 : (α × α) → Option Bool) (j2 : Unit → Option (Nat × (List α))) : Nat → Int → Option (Nat × (List α))
 | 0, _ => none
 | n2 + 1, v2 =>
  AR ((decide (v2 < (p0.length : Int))))
   ((Br p0 v2).bind fun v5 =>
   (Br p0 ((wI .i64 (v2 - 1)))).bind fun v6 =>
   (p1 ((v5, v6))).bind fun v7 =>
   AR v7
    ((Dp ((0 : Int) ≤ v2 ∧ (v2).toNat ≤ p0.length ∧ p0.length ≤ p0.length)).bind fun _ =>
    Gs.compact_L11 z N p0 p1 v2 (fun (v12 : (List α) × Int) =>
     (Dp ((0 : Int) ≤ v12.2 ∧ (v12.2).toNat ≤ v12.1.length ∧ v12.1.length ≤ v12.1.length)).bind fun _ =>
     (Dp ((0 : Int) ≤ v12.2 ∧ 0 ≤ (v12.2).toNat ∧ (v12.2).toNat ≤ (Gx v12.1 ((v12.2).toNat) (List.replicate ((v12.1.length - (v12.2).toNat)) (z))).length)).bind fun _ =>
     some ((v12.2).toNat, Gx v12.1 ((v12.2).toNat) (List.replicate ((v12.1.length - (v12.2).toNat)) (z)))) N (p0, v2, 1))
    (Gs.compact_L2 z N p0 p1 j2 n2 (wI .i64 (v2 + 1))))
   (j2 ())
def Gs.compact (z : α) (N : Nat) (p0 : List α) (p1 : (α × α) → Option Bool) : Option (Nat × (List α)) :=
 AR ((decide ((p0.length : Int) < 2)))
  (some (p0.length, p0))
  (Gs.compact_L2 z N p0 p1 (fun (_ : Unit) =>
   some (p0.length, p0)) N 1)
end Go.Lift
namespace Go.Lift
open Option renaming bind_some → oS
open List renaming mem_of_getElem? → lM
open Go
section
variable {α : Type} {c : α → α → Int}
def Gd (c : α → α → Int) (l : List α) (r : List α) (j : Nat) : Prop := VN c r ∧ ∀ x, x ∈ r ↔ x ∈ l.take (j + 1)
theorem VQ {l r : List α} {j : Nat} (h : Gd c l r j) (hj : j + 1 < l.length) (e : l[j + 1] = l[j]) : Gd c l r (j + 1) := by
 refine ⟨h.1, fun x => ?_⟩
 rw [List.take_succ_eq_append_getElem hj, List.mem_append, ← h.2 x, List.mem_singleton, e]
 constructor
 ·exact .inl
 ·rintro (h1 | rfl)
  ·exact h1
  ·exact (h.2 _).2 (List.mem_take_iff_getElem.2 ⟨j, by omega, rfl⟩)
theorem V8 (O : Kv c) (h0 : ∀ x y, c x y = 0 → x = y) {l r : List α} {j : Nat} (hs : l.Pairwise (fun x y => c x y ≤ 0)) (h : Gd c l r j) (hj : j + 1 < l.length) (e : l[j + 1] ≠ l[j]) : Gd c l (r ++ [l[j + 1]]) (j + 1) := by
 rw [List.pairwise_iff_getElem] at hs
 refine ⟨List.pairwise_append.2 ⟨h.1, List.pairwise_singleton _ _, fun x hx y hy => ?_⟩, fun x => ?_⟩
 ·rw [List.mem_singleton.1 hy]
  obtain ⟨i, hi, rfl⟩ := List.mem_take_iff_getElem.1 ((h.2 x).1 hx)
  have h1 : c l[j] l[j + 1] < 0 := by
   have := hs j (j + 1) (by omega) hj (by omega)
   by_cases q : c l[j] l[j + 1] = 0
   ·exact absurd (h0 _ _ q).symm e
   ·omega
  by_cases q : i = j
  ·subst q; exact h1
  ·exact O.lt2 (hs i j (by omega) (by omega) (by omega)) h1
 ·rw [List.take_succ_eq_append_getElem hj, List.mem_append, List.mem_append, h.2 x]
variable {P : α → Prop} {eq : α × α → Option Bool} {b : α → α → Bool}
theorem R7 (O : Kv c) (h0 : ∀ x y, c x y = 0 → x = y) (z : α) (hc : ∀ x y, P x → P y → eq (x, y) = some (b x y)) (hb : ∀ x y, b x y = true ↔ x = y) (N : Nat) (l : List α) (hl : l.length ≤ 1000) (hP : ∀ x, x ∈ l → P x) (hs : l.Pairwise (fun x y => c x y ≤ 0)) (i0 : Nat) (h1 : 1 ≤ i0) (h2 : i0 < l.length) (J : List α × Int → Option (Nat × List α)) :
  ∀ (n q k : Nat) (a : List α), l.length - q < n → i0 < q → q ≤ l.length → k + 1 ≤ q → a.length = l.length → Gd c l (a.take k) (q - 1) → a.drop (q - 1) = l.drop (q - 1) →
  ∃ (a' : List α) (k' : Nat), Gs.compact_L11 z N l eq (i0 : Int) J n (a, (k : Int), ((q - i0 : Nat) : Int)) = J (a', (k' : Int)) ∧ a'.length = l.length ∧ k' ≤ l.length ∧ Gd c l (a'.take k') (l.length - 1)
 | 0, q, k, a, h, _, _, _, _, _, _ => by omega
 | n + 1, q, k, a, h, hq, hql, hk, ha, hg, hd => by
  rw [Gs.compact_L11]
  simp only [A5, Int.toNat_natCast]
  have at_ : ∀ p, q - 1 ≤ p → p < l.length → a[p]? = l[p]? := by
   intro p hp hpl
   have : (a.drop (q - 1))[p - (q - 1)]? = (l.drop (q - 1))[p - (q - 1)]? := by rw [hd]
   rw [List.getElem?_drop, List.getElem?_drop, show q - 1 + (p - (q - 1)) = p by omega] at this
   exact this
  by_cases h3 : q < l.length
  ·rw [AB (by omega), An (by omega)]
   have hx : l[q]? = some l[q] := by simp [h3]
   have hy : l[q - 1]? = some l[q - 1] := by simp <;> omega
   have ix : ∀ p, i0 ≤ p → q - 1 ≤ p → p < l.length → Br ((a.drop i0).take (l.length - i0)) ((p - i0 : Nat) : Int) = l[p]? := by
    intro p g1 g2 g3
    rw [AN, List.getElem?_take_of_lt (by omega), List.getElem?_drop, show i0 + (p - i0) = p by omega]
    exact at_ p g2 g3
   rw [Cx (n := ((q - i0 : Nat) : Int) - 1) (by omega) (by omega), show (((q - i0 : Nat) : Int) - 1) = ((q - 1 - i0 : Nat) : Int) by omega, ix q (by omega) (by omega) h3, ix (q - 1) (by omega) (by omega) (by omega), hx, hy]
   simp only [oS]
   rw [hc _ _ (hP _ (lM hx)) (hP _ (lM hy))]
   simp only [oS]
   rw [Cx (n := ((q - i0 : Nat) : Int) + 1) (by omega) (by omega), show (((q - i0 : Nat) : Int) + 1) = ((q + 1 - i0 : Nat) : Int) by omega]
   have eq1 : q - 1 + 1 = q := by omega
   by_cases e : l[q] = l[q - 1]
   ·rw [(hb _ _).2 e, Bool.not_true, Ap]
    refine R7 O h0 z hc hb N l hl hP hs i0 h1 h2 J n (q + 1) k a (by omega) (by omega) (by omega) (by omega) ha ?_ ?_
    ·have := VQ (j := q - 1) hg (by omega) (by simp only [eq1]; exact e)
     rw [eq1] at this; exact this
    ·show a.drop q = l.drop q
     rw [← eq1, ← List.drop_drop, ← List.drop_drop, hd]
   ·have hbf : b l[q] l[q - 1] = false := by
     cases hh : b l[q] l[q - 1] with
     | false => rfl
     | true => exact absurd ((hb _ _).1 hh) e
    rw [hbf, Bool.not_false, AJ]
    rw [AN, show a[k]? = some a[k] from by simp <;> omega]
    simp only [oS]
    rw [Az (by omega)]
    refine R7 O h0 z hc hb N l hl hP hs i0 h1 h2 J n (q + 1) (k + 1) (a.set k l[q]) (by omega) (by omega) (by omega) (by omega) (by simp [ha]) ?_ ?_
    ·have := V8 O h0 hs (j := q - 1) hg (by omega) (by simp only [eq1]; exact e)
     simp only [eq1] at this
     rw [List.take_succ_eq_append_getElem (by simp; omega), List.take_set_of_le (by omega), List.getElem_set_self]
     exact this
    ·show (a.set k l[q]).drop q = l.drop q
     rw [List.drop_set_of_lt (by omega), ← eq1, ← List.drop_drop, ← List.drop_drop, hd]
  ·rw [Aw (by omega)]
   have : q = l.length := by omega
   subst this
   exact ⟨a, k, rfl, ha, by omega, hg⟩
theorem TO (O : Kv c) (h0 : ∀ x y, c x y = 0 → x = y) (z : α) (hc : ∀ x y, P x → P y → eq (x, y) = some (b x y)) (hb : ∀ x y, b x y = true ↔ x = y) (N : Nat) (hN : 1010 ≤ N) (l : List α) (hl : l.length ≤ 1000) (hP : ∀ x, x ∈ l → P x) (hs : l.Pairwise (fun x y => c x y ≤ 0)) :
  ∀ (n i : Nat), l.length - i < n → 1 ≤ i → i ≤ l.length → Gd c l (l.take i) (i - 1) →
  ∃ (k : Nat) (r : List α), Gs.compact_L2 z N l eq (fun _ => some (l.length, l)) n (i : Int) = some (k, r) ∧ k ≤ r.length ∧ Gd c l (r.take k) (l.length - 1)
 | 0, i, h, _, _, _ => by omega
 | n + 1, i, h, h1, h2, hg => by
  rw [Gs.compact_L2]
  by_cases h3 : i < l.length
  ·have hx : l[i]? = some l[i] := by simp [h3]
   have hy : l[i - 1]? = some l[i - 1] := by simp <;> omega
   have eq1 : i - 1 + 1 = i := by omega
   rw [AB (by omega), Cx (n := (i : Int) - 1) (by omega) (by omega), show ((i : Int) - 1) = ((i - 1 : Nat) : Int) by omega]
   simp only [AN, hx, hy, oS]
   rw [hc _ _ (hP _ (lM hx)) (hP _ (lM hy))]
   simp only [oS, Int.toNat_natCast]
   by_cases e : l[i] = l[i - 1]
   ·rw [(hb _ _).2 e, AJ, An (by omega)]
    have hg2 : Gd c l (l.take i) i := by
     have := VQ (j := i - 1) hg (by omega) (by simp only [eq1]; exact e)
     rw [eq1] at this; exact this
    obtain ⟨a', k', e1, e2, e3, e4⟩ := R7 O h0 z hc hb N l hl hP hs i h1 h3 (fun (v12 : (List α) × Int) =>
     (Dp ((0 : Int) ≤ v12.2 ∧ (v12.2).toNat ≤ v12.1.length ∧ v12.1.length ≤ v12.1.length)).bind fun _ =>
     (Dp ((0 : Int) ≤ v12.2 ∧ 0 ≤ (v12.2).toNat ∧ (v12.2).toNat ≤ (Gx v12.1 ((v12.2).toNat) (List.replicate ((v12.1.length - (v12.2).toNat)) (z))).length)).bind fun _ =>
     some ((v12.2).toNat, Gx v12.1 ((v12.2).toNat) (List.replicate ((v12.1.length - (v12.2).toNat)) (z)))) N (i + 1) i l (by omega) (by omega) (by omega) (by omega) rfl hg2 rfl
    rw [show ((i + 1 - i : Nat) : Int) = 1 by omega] at e1
    rw [e1]
    simp only [Int.toNat_natCast]
    have hsp : (Gx a' k' (List.replicate (a'.length - k') z)).take k' = a'.take k' ∧ k' ≤ (Gx a' k' (List.replicate (a'.length - k') z)).length := by
     unfold Gx
     constructor
     ·simp only [List.append_assoc]
      rw [List.take_append_of_le_length (by simp; omega), List.take_take, Nat.min_self]
     ·simp; omega
    rw [An (by omega), An (by omega)]
    exact ⟨k', _, rfl, hsp.2, by rw [hsp.1]; exact e4⟩
   ·have hbf : b l[i] l[i - 1] = false := by
     cases hh : b l[i] l[i - 1] with
     | false => rfl
     | true => exact absurd ((hb _ _).1 hh) e
    rw [hbf, Ap, Az (by omega)]
    refine TO O h0 z hc hb N hN l hl hP hs n (i + 1) (by omega) (by omega) (by omega) ?_
    have := V8 O h0 hs (j := i - 1) hg (by omega) (by simp only [eq1]; exact e)
    simp only [eq1] at this
    rw [List.take_succ_eq_append_getElem h3]
    exact this
  ·rw [Aw (by omega)]
   have : i = l.length := by omega
   subst this
   exact ⟨_, _, rfl, Nat.le_refl _, hg⟩
theorem WV (O : Kv c) (h0 : ∀ x y, c x y = 0 → x = y) (z : α) (hc : ∀ x y, P x → P y → eq (x, y) = some (b x y)) (hb : ∀ x y, b x y = true ↔ x = y) {N : Nat} (hN : 1010 ≤ N) (l : List α) (hl : l.length ≤ 1000) (hP : ∀ x, x ∈ l → P x) (hs : l.Pairwise (fun x y => c x y ≤ 0)) :
  ∃ (k : Nat) (r : List α), Gs.compact z N l eq = some (k, r) ∧ k ≤ r.length ∧ VN c (r.take k) ∧ ∀ x, x ∈ r.take k ↔ x ∈ l := by
 unfold Gs.compact
 match l, hl, hP, hs with
 | [], _, _, _ => exact ⟨0, [], rfl, Nat.le_refl _, by simp, by simp⟩
 | [x], _, _, _ => exact ⟨1, [x], rfl, Nat.le_refl _, by simp, by simp⟩
 | x :: y :: l, hl, hP, hs =>
  rw [Aw (by simp; omega)]
  obtain ⟨k, r, e1, e2, e3, e4⟩ := TO O h0 z hc hb N hN (x :: y :: l) hl hP hs N 1 (by omega) (by omega) (by simp) ⟨by simp, by simp⟩
  refine ⟨k, r, e1, e2, e3, fun w => ?_⟩
  rw [e4 w, List.take_of_length_le (by simp)]
end
end Go.Lift
namespace Go.Lift
open Option renaming bind_some → oS
open Go
instance : Inhabited Aa := ⟨⟨0, 0, 0⟩⟩
theorem Sz : B3 = fun N p => @Gs.compact Aa (Aa.mk 0 0 0) N p (fun x => some ((x.1.fW == x.2.fW) && ((x.1.fV == x.2.fV) && ((x.1.fX == x.2.fX) && true)))) := by kernel_rfl
def MY (x y : Int) : Int := if x < y then -1 else if x = y then 0 else 1
theorem RY (N : Nat) (x y : Int) : Ea N x y = some (MY x y) := by
 unfold Ea Gu MY
 simp only [oS, bne_self_eq_false, Ap]
 by_cases h : x < y
 ·rw [AB h, if_pos h]
 ·rw [Aw h, if_neg h]
  by_cases e : x = y
  ·rw [if_pos e, Aw (by omega)]
  ·rw [if_neg e, AB (by omega)]
def TA (a b : Aa) : Int := UL [MY a.fW b.fW, MY a.fV b.fV, MY a.fX b.fX]
theorem Vy : Kv TA := by
 have := (XR.pull Aa.fW).or ((XR.pull Aa.fV).or (XR.pull Aa.fX))
 have e : TA = fun (x y : Aa) => if MY x.fW y.fW = 0 then (if MY x.fV y.fV = 0 then MY x.fX y.fX else MY x.fV y.fV) else MY x.fW y.fW := by
  funext x y
  unfold TA UL UL UL UL
  repeat' split
  all_goals (first | rfl | omega | simp_all)
 rw [e]; exact this
theorem On {x y : Int} (h : MY x y = 0) : x = y := by
 unfold MY at h
 split at h
 ·cases h
 ·split at h
  ·assumption
  ·cases h
theorem Q9 (a b : Aa) (h : TA a b = 0) : a = b := by
 have := PB h
 have h1 := On (this (MY a.fW b.fW) (by simp))
 have h2 := On (this (MY a.fV b.fV) (by simp))
 have h3 := On (this (MY a.fX b.fX) (by simp))
 cases a; cases b; simp only at h1 h2 h3; subst h1; subst h2; subst h3; rfl
def en (a b : Aa) : Bool := (a.fW == b.fW) && ((a.fV == b.fV) && ((a.fX == b.fX) && true))
theorem Z6 (x y : Aa) (_ : True) (_ : True) (h : TA x y = 0) : HN x y = true := by rw [Q9 x y h]; simp [HN]
theorem Si (a b : Aa) : en a b = true ↔ a = b := by
 cases a; cases b
 simp [en]
instance eo : DecidableEq Aa := fun a b => if h : en a b = true then isTrue ((Si a b).1 h) else isFalse fun e => h ((Si a b).2 e)
theorem VL {N : Nat} (hN : N ≤ 1000000) (h1 : 1000 ≤ N) {p : Ab} (hv : Bk p = 0) (hl : MS p) : ∃ r, Fw N p = some r ∧ LM p r := by
 obtain ⟨hp, _⟩ := BX hv
 have hm := NI hv
 unfold Fw
 rw [NX N p (by omega) (by omega), if_pos hv]
 simp only [oS, hv, bne_self_eq_false, Ap]
 cases hr : Bq p (EZ p)
 ·unfold EI
  rw [Jl N p _ (by omega) (by omega), IQ hv hm, IJ N p _ (by omega) (by omega) hp hm, hr]
  exact ⟨_, rfl, .inl ⟨hr, rfl⟩⟩
 ·rcases hl with h | ⟨l, hs⟩
  ·rw [hr] at h; cases h
  ·obtain ⟨ws, h⟩ := Sg hp hm hr hs
   have hl : l.length ≤ 120 := Bfs.go_len _ _ _ _ (by simp) hs
   have hs2 : Iz p (EZ p) 20000 N = some l := Bfs.go_more (by omega) _ _ _ _ _ h1 hs
   rw [Uh (N := N) (by omega) (by omega) hv hm hr hs2 (by omega) h]
   refine ⟨_, rfl, .inr ⟨hr, ?_⟩⟩
   rcases RG hp h with ⟨k1, h2, h3⟩ | k1
   ·exact .inl ⟨k1, h2, by show (Mv p l ws).1.length ≤ 120; omega⟩
   ·exact .inr k1
theorem P4 {N : Nat} (hN : N ≤ 1000000) (h1 : 1000 ≤ N) {p : Ab} (hu : Ia p) {l : List Aa} (hl : ∀ c, c ∈ l → c ∈ Cv p) (hs : l.length < 1000) : Dd N p l = some (Rg p l, 0) := by
 obtain ⟨r, e1, e3⟩ := VL (p := HM p l) hN h1 (by rw [IP]; exact hu.v) (PS (P6 hl) (by rw [IP]; exact hu.v) hu.l)
 unfold Dd
 rw [LC hN (by omega) (BX hu.v).1 (by omega)]
 simp only [oS, e1, (Nk e3).2.1, Ap, V3 hu hl e3]
theorem L4 {p : Ab} {l l' : List Aa} (h : ∀ c, c ∈ l ↔ c ∈ l') : Rg p l = Rg p l' := by
 unfold Rg; rw [Tm h]
theorem Oc {α : Type} {s : List α} (hn : s.Nodup) {i : Nat} (hi : i < s.length) (c : α) : c ∈ s.eraseIdx i ↔ c ∈ s ∧ c ≠ s[i] := by
 have hs : s.take i ++ s[i] :: s.drop (i + 1) = s := by
  rw [← List.drop_eq_getElem_cons hi, List.take_append_drop]
 rw [Qe]
 have hn' := hn
 rw [← hs, List.nodup_append] at hn'
 obtain ⟨_, n2, n3⟩ := hn'
 rw [List.nodup_cons] at n2
 constructor
 ·intro hc
  rcases List.mem_append.1 hc with hc | hc
  ·exact ⟨List.mem_of_mem_take hc, n3 c hc _ List.mem_cons_self⟩
  ·exact ⟨List.mem_of_mem_drop hc, fun e => n2.1 (e ▸ hc)⟩
 ·rintro ⟨h1, h2⟩
  rw [← hs] at h1
  rcases List.mem_append.1 h1 with h1 | h1
  ·exact List.mem_append_left _ h1
  ·rcases List.mem_cons.1 h1 with h1 | h1
   ·exact absurd h1 h2
   ·exact List.mem_append_right _ h1
def Nt (p : Ab) (s : List Aa) : Nat → Nat → Bool → Bool
 | 0, _, b => b
 | k + 1, i, b => Nt p s k (i + 1) (if b = true then !Rg p (s.eraseIdx i) else false)
theorem Rt (p : Ab) (s : List Aa) : ∀ (k i : Nat) (b : Bool), Nt p s k i b = true ↔ b = true ∧ ∀ j, i ≤ j → j < i + k → Rg p (s.eraseIdx j) = false
 | 0, i, b => by
  rw [Nt]
  exact ⟨fun h => ⟨h, fun j h1 h2 => by omega⟩, fun h => h.1⟩
 | k + 1, i, b => by
  rw [Nt, Rt p s k (i + 1)]
  cases b
  ·simp
  ·simp only [if_true, Bool.not_eq_true', true_and]
   constructor
   ·rintro ⟨h1, h2⟩ j hj1 hj2
    by_cases e : j = i
    ·rw [e]; exact h1
    ·exact h2 j (by omega) (by omega)
   ·intro h
    exact ⟨h i (Nat.le_refl _) (by omega), fun j h1 h2 => h j (by omega) (by omega)⟩
def Tq (p : Ab) (s : List Aa) : Bool := Nt p s s.length 0 (Rg p s)
theorem TK (p : Ab) (s : List Aa) : Tq p s = true ↔ Rg p s = true ∧ ∀ j, j < s.length → Rg p (s.eraseIdx j) = false := by
 unfold Tq
 rw [Rt]
 simp only [Nat.zero_le, true_implies, Nat.zero_add]
theorem VI {p : Ab} {s t : List Aa} (hs : s.Nodup) (ht : t.Nodup) (h : ∀ c, c ∈ s ↔ c ∈ t) : Tq p s = Tq p t := by
 have key : ∀ {s t : List Aa}, s.Nodup → t.Nodup → (∀ c, c ∈ s ↔ c ∈ t) → Tq p s = true → Tq p t = true := by
  intro s t hs ht h hm
  rw [TK] at hm ⊢
  refine ⟨by rw [← L4 h]; exact hm.1, fun j hj => ?_⟩
  have hx : t[j] ∈ s := (h _).2 (List.getElem_mem hj)
  obtain ⟨i, hi, e⟩ := List.mem_iff_getElem.1 hx
  rw [← L4 (l := s.eraseIdx i) fun c => ?_]
  ·exact hm.2 i hi
  ·rw [Oc hs hi, Oc ht hj, h, e]
 rw [Bool.eq_iff_iff]
 exact ⟨key hs ht h, key ht hs fun c => (h c).symm⟩
theorem K7 {N : Nat} (hN : N ≤ 1000000) (h1 : 1000 ≤ N) {p : Ab} (hu : Ia p) (k : Nat) (r : List Aa) {s : List Aa} (hk : r.take k = s) (hs : s.length ≤ 10) (hm : ∀ c, c ∈ s → c ∈ Cv p) (J : Bool → Option (Bool × Int)) : ∀ (n i : Nat) (b : Bool), i ≤ s.length → s.length - i < n → DP N p (k, r) J n (b, (i : Int)) = J (Nt p s (s.length - i) i b)
 | 0, i, b, _, h => by omega
 | n + 1, i, b, hi, hn => by
  rw [DP]
  simp only [hk]
  by_cases hlt : i < s.length
  ·obtain ⟨X, x1, x2, x3⟩ := Za N s i hlt (by omega)
   have hel := List.length_eraseIdx_of_lt hlt
   rw [AB (by omega), SV N (by omega)]
   simp only [oS, A5]
   rw [Az (by omega), x1]
   simp only [oS]
   rw [An x3, List.drop_zero, x2, MZ hN h1 hu (fun c hc => hm c ((List.eraseIdx_sublist s i).subset hc)) (by omega)]
   simp only [oS, bne_self_eq_false, Ap]
   have e : s.length - i = (s.length - (i + 1)) + 1 := by omega
   rw [e, Nt]
   cases b
   ·rw [Ap]; exact K7 hN h1 hu k r hk hs hm J n (i + 1) _ (by omega) (by omega)
   ·rw [AJ]; exact K7 hN h1 hu k r hk hs hm J n (i + 1) _ (by omega) (by omega)
  ·rw [Aw (by omega)]
   have e : s.length - i = 0 := by omega
   rw [e]; rfl
theorem eK {l : List Aa} {i : Nat} : (([] : List Aa) ++ ((l.drop 0).take (i - 0))) ++ ((l.drop (i + 1)).take (l.length - (i + 1))) = l.eraseIdx i := by
 rw [Qe, List.nil_append, List.drop_zero, Nat.sub_zero, List.take_of_length_le (by simp : (l.drop (i + 1)).length ≤ l.length - (i + 1))]
theorem KT {N : Nat} (hN : N ≤ 1000000) (h1 : 1000 ≤ N) {p : Ab} (hu : Ia p) {s : List Aa} (hs : s.length ≤ 10) (hm : ∀ c, c ∈ s → c ∈ Cv p) (J : Bool → Option (Bool × Int)) : ∀ (n i : Nat) (b : Bool), i ≤ s.length → s.length - i < n → Ck N p J n (s, b, (i : Int)) = J (Nt p s (s.length - i) i b)
 | 0, i, b, _, h => by omega
 | n + 1, i, b, hi, hn => by
  rw [Ck]
  by_cases hlt : i < s.length
  ·have hel := List.length_eraseIdx_of_lt hlt
   rw [AB (by simp only; omega)]
   simp only [A5]
   rw [Az (by omega), An (by omega), An (by simp only [List.length_nil, List.length_take, List.length_drop]; unfold C2; omega), An (by omega), An (by simp only [List.length_append, List.length_nil, List.length_take, List.length_drop]; unfold C2; omega)]
   simp only [Int.toNat_natCast]
   rw [eK, P4 hN h1 hu (fun c hc => hm c ((List.eraseIdx_sublist s i).subset hc)) (by omega)]
   simp only [oS, bne_self_eq_false, Ap]
   have e : s.length - i = (s.length - (i + 1)) + 1 := by omega
   rw [e, Nt]
   cases b
   ·rw [Ap]; exact KT hN h1 hu hs hm J n (i + 1) _ (by omega) (by omega)
   ·rw [AJ]; exact KT hN h1 hu hs hm J n (i + 1) _ (by omega) (by omega)
  ·rw [Aw (by simp only; omega)]
   have e : s.length - i = 0 := by omega
   rw [e]; rfl
def TP (p : Ab) (l s : List Aa) : Bool × Int := if KB p l = 0 then (if 3 < s.length then (false, 3) else (Tq p s, 0)) else (false, KB p l)
theorem ZA (N : Nat) (hN : N ≤ 1000000) (h20 : 100 ≤ N) (a b : Aa) : DD N a b = some (TA a b) := by
 unfold DD
 rw [RY, RY, RY]
 simp only [oS]
 rw [bM (by simp; omega) hN]; rfl
theorem RT {l : List Aa} (h : VN TA l) : l.Nodup :=
 List.Pairwise.imp (fun {a b} hab e => by subst e; have := Vy.self a; omega) h
theorem V2 {N : Nat} (hN : N ≤ 1000000) (h1 : 1010 ≤ N) {p : Ab} (hu : Ia p) {l : List Aa} (hl : l.length ≤ 7) : ∃ s, s.Nodup ∧ (∀ c, c ∈ s ↔ c ∈ l) ∧ Ee N p l = some (TP p l s) := by
 have hcmp : ∀ x y : Aa, True → True → (fun (x : Aa × Aa) => DD N x.1 x.2) (x, y) = some (TA x y) := fun x y _ _ => ZA N hN (by omega) x y
 obtain ⟨r1, s1, s2, s3⟩ := W1 (cmp := fun x => DD N x.1 x.2) Vy hcmp Z6 l (by omega) (fun _ _ => trivial)
 have heq : ∀ x y : Aa, True → True → (fun (x : Aa × Aa) => (some ((x.1.fW == x.2.fW) && ((x.1.fV == x.2.fV) && ((x.1.fX == x.2.fX) && true))) : Option Bool)) (x, y) = some (en x y) := fun x y _ _ => rfl
 obtain ⟨k, r, t1, t2, t3, t4⟩ := WV (eq := fun x => some ((x.1.fW == x.2.fW) && ((x.1.fV == x.2.fV) && ((x.1.fX == x.2.fX) && true)))) Vy Q9 (Aa.mk 0 0 0) heq Si (N := N) h1 r1 (by rw [s2.length_eq]; omega) (fun _ _ => trivial) s3
 have hn := RT t3
 have hmem : ∀ c, c ∈ r.take k ↔ c ∈ l := fun x => (t4 x).trans s2.mem_iff
 have hlen : (r.take k).length ≤ l.length := IW _ _ hn fun c hc => (hmem c).1 hc
 refine ⟨r.take k, hn, hmem, ?_⟩
 unfold Ee TP
 rw [SD hN (by omega) p (by omega)]
 simp only [oS]
 by_cases hw : KB p l = 0
 ·obtain ⟨_, hsub⟩ := RF hw
  have hu7 := hu.e
  rw [hw, bne_self_eq_false, Ap, SV N (by omega)]
  simp only [oS, if_true]
  unfold CX
  rw [s1]
  simp only [oS]
  rw [Sz]
  simp only
  rw [t1]
  simp only [oS]
  rw [An t2]
  simp only [A5]
  rw [JN hN (by omega) (BX hu.v).1]
  simp only [oS]
  rw [Aw (by omega)]
  by_cases h3 : 3 < (r.take k).length
  ·rw [if_pos h3, decide_eq_true (by omega), AJ]
  ·rw [if_neg h3, decide_eq_false (by omega), Ap, MZ hN (by omega) hu (fun c hc => hsub c ((hmem c).1 hc)) (by omega)]
   simp only [oS, bne_self_eq_false, Ap]
   have := K7 hN (by omega) hu k r rfl (by omega) (fun c hc => hsub c ((hmem c).1 hc)) (fun v15 => some (v15, 0)) N 0 (Rg p (r.take k)) (Nat.zero_le _) (by omega)
   exact this
 ·rw [if_neg hw, bne_iff_ne.2 hw, AJ]
theorem ZT {N : Nat} (hN : N ≤ 1000000) (h1 : 1010 ≤ N) {p : Ab} (hu : Ia p) {l : List Aa} (hl : l.length ≤ 7) : ∃ s, s.Nodup ∧ (∀ c, c ∈ s ↔ c ∈ l) ∧ EA N p l = some (TP p l s) := by
 have key : ∀ J : List Aa → Option (Bool × Int), ∃ s, B2 N l J N ([], ((0 : Nat) : Int)) = J s ∧ s.Nodup ∧ ∀ c, c ∈ s ↔ c ∈ l.take l.length := by
  intro J
  obtain ⟨a, e, h⟩ := E9 (A := List Aa) (B2 N l J) (fun a i => (a, i)) l.length J (fun i a => a.Nodup ∧ (∀ c, c ∈ a ↔ c ∈ l.take i) ∧ a.length ≤ i)
   (fun n i a hi h => by
    have hx : l[i]? = some l[i] := by simp [hi]
    have ht : l.take (i + 1) = l.take i ++ [l[i]] := by rw [List.take_add_one, hx]; rfl
    rw [B2]
    simp only [AN, hx, oS, A5]
    rw [AB (by omega), OD hN (by omega), Az (by omega)]
    simp only [oS]
    cases hb : Sa a l[i]
    ·have hni : l[i] ∉ a := fun hc => by rw [Kb.2 hc] at hb; cases hb
     refine ⟨a ++ [l[i]], ?_, ?_, fun c => ?_, ?_⟩
     ·rw [Bool.not_false, AJ, An (by simp only [List.length_singleton]; unfold C2; omega)]
     ·rw [List.nodup_append]
      exact ⟨h.1, by simp, fun x hx y hy => by rw [List.mem_singleton.1 hy]; intro e; exact hni (e ▸ hx)⟩
     ·rw [ht, List.mem_append, List.mem_append, h.2.1]
     ·rw [List.length_append, List.length_singleton]; omega
    ·refine ⟨a, by rw [Bool.not_true, Ap], h.1, fun c => ?_, by omega⟩
     rw [ht, List.mem_append, List.mem_singleton, h.2.1]
     constructor
     ·exact .inl
     ·rintro (hc | hc)
      ·exact hc
      ·rw [hc]; exact (h.2.1 _).1 (Kb.1 hb))
   (fun n a h => by
    rw [B2, Aw (by simp only; omega)]) N 0 [] (Nat.zero_le _) (by omega) ⟨List.nodup_nil, fun c => by simp, Nat.le_refl _⟩
  exact ⟨a, e, h.1, h.2.1⟩
 obtain ⟨s, e, hn, hm⟩ := key fun (v4 : (List Aa)) =>
   Bi (fun (v12 : Bool) =>
    AR v12
     (some (false, 3))
     ((Dd N p v4).bind fun v16 =>
     AR ((v16.2 != 0))
      (some (false, v16.2))
      (Ck N p (fun (v19 : Bool) =>
       some (v19, 0)) N (v4, v16.1, 0))))
   fun j12 =>
   (CG N p).bind fun v13 =>
   AR ((decide (24 < (v13.length : Int))))
    (j12 true)
    (j12 (decide (3 < (v4.length : Int))))
 rw [List.take_length] at hm
 have hlen : s.length ≤ l.length := IW _ _ hn fun c hc => (hm c).1 hc
 refine ⟨s, hn, hm, ?_⟩
 unfold EA TP
 rw [T0 hN (by omega) p (by omega)]
 simp only [oS]
 by_cases hw : KB p l = 0
 ·obtain ⟨_, hsub⟩ := RF hw
  have hu7 := hu.e
  unfold V6
  rw [if_pos hw, if_pos hw]
  simp only [bne_self_eq_false, Ap]
  refine Eq.trans e ?_
  simp only [A5]
  rw [JP hN (by omega) (BX hu.v).1]
  simp only [oS]
  rw [Aw (by omega)]
  by_cases h3 : 3 < s.length
  ·rw [if_pos h3, decide_eq_true (by omega), AJ]
  ·rw [if_neg h3, decide_eq_false (by omega), Ap, P4 hN (by omega) hu (fun c hc => hsub c ((hm c).1 hc)) (by omega)]
   simp only [oS, bne_self_eq_false, Ap]
   exact KT hN (by omega) hu (by omega) (fun c hc => hsub c ((hm c).1 hc)) (fun v15 => some (v15, 0)) N 0 (Rg p s) (Nat.zero_le _) (by omega)
 ·unfold V6
  rw [if_neg hw, if_neg hw]
  simp only
  rw [bne_iff_ne.2 hw, AJ]
theorem LK (d : BJ) (l : List Aa) (wd : F4 d) (_ : N9 Jr l) : C9 2000 d l = some true := by
 unfold C9
 obtain ⟨p, b, e, h⟩ := Xz (N := 2000) (by omega) (by omega) d wd
 rw [e]
 simp only [oS, A5, RV, Bool.not_true, Ap]
 cases b
 ·rfl
 have hu := h rfl
 simp only [Bool.not_true, Ap]
 by_cases h6 : (6 : Int) < (l.length : Int)
 ·rw [decide_eq_true h6, AJ]
 rw [decide_eq_false h6, Ap, SV 2000 (by omega)]
 simp only [oS]
 obtain ⟨s, s1, s2, s3⟩ := V2 (N := 2000) (by omega) (by omega) hu (l := l) (by omega)
 obtain ⟨t, t1, t2, t3⟩ := ZT (N := 2000) (by omega) (by omega) hu (l := l) (by omega)
 have hst : ∀ c, c ∈ s ↔ c ∈ t := fun c => (s2 c).trans (t2 c).symm
 have hlen : s.length = t.length := Nat.le_antisymm (IW _ _ s1 fun c hc => (hst c).1 hc) (IW _ _ t1 fun c hc => (hst c).2 hc)
 have hr : TP p l s = TP p l t := by unfold TP; rw [hlen, VI s1 t1 hst]
 rw [s3, t3, hr]
 simp only [oS, beq_self_eq_true, bne_self_eq_false, Bool.not_true, Ap]
 rw [R3 (by omega) (by omega) hu]
 simp only [oS]
 rcases Uk p with ⟨h1, _⟩ | ⟨j, w, hj, h1, h2, h3⟩
 ·rw [h1]; rfl
 ·rw [h1]
  simp only [bne_self_eq_false, Ap]
  obtain ⟨g1, g2, g3⟩ := UF.1 h2
  obtain ⟨q, q1, q2, q3⟩ := V2 (N := 2000) (by omega) (by omega) hu (l := w) (by omega)
  have hql : q.length ≤ w.length := IW _ _ q1 fun c hc => (q2 c).1 hc
  have hmin : Tq p q = true := by
   rw [TK]
   refine ⟨by rw [L4 q2]; exact g3, fun i hi => ?_⟩
   have hm : ∀ c, c ∈ q.eraseIdx i ↔ c ∈ w.filter fun c => !S7 c q[i] := fun c => by
    rw [Oc q1 hi, List.mem_filter, q2, Bool.not_eq_true', ← Bool.not_eq_true, J7]
   rw [L4 hm]
   have hlt : (w.filter fun c => !S7 c q[i]).length < w.length := by
    refine Nat.lt_of_le_of_ne (List.length_filter_le _ _) fun e => ?_
    have := List.length_filter_eq_length_iff.1 e q[i] ((q2 _).1 (List.getElem_mem hi))
    rw [(J7 _ _).2 rfl] at this; cases this
   cases hb : Rg p (w.filter fun c => !S7 c q[i])
   ·rfl
   ·have : (w.filter fun c => !S7 c q[i]) ∈ Kw p (w.filter fun c => !S7 c q[i]).length := UF.2 ⟨List.filter_sublist.trans g1, rfl, hb⟩
    rw [h3 _ (by omega)] at this; cases this
  rw [q3]
  unfold TP
  rw [if_pos (XK hu.v fun c hc => g1.subset hc), if_neg (by omega), hmin]
  rfl
end Go.Lift
