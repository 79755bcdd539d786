/- Lemmas for CoreOppositeCardSaid, which YtbfklmmnpdifaaaGreatDoorFinC5 proves. -/
import Derived.Test.YtbfklmmnpdifaaaGreatDoorMReg5
import Derived.KernelRfl
open Bool renaming and_eq_true → zA5, false_and → zK6, not_false → zE6, not_true → zC3, or_eq_true → zG0, true_and → zE5
open Int renaming toNat_natCast → zA7
open List renaming all_cons → zG7, all_eq_true → zA2, any_eq_true → zE0, append_assoc → zD7, append_eq_nil_iff → zM1, append_nil → zH1, drop_eq_nil_of_le → zD9, drop_zero → zC4, eq_nil_of_length_eq_zero → zD2, getElem?_append_left → zC8, getElem?_append_right → zB9, getElem?_eq_getElem → zC0, getElem?_eq_none → zD1, getElem?_map → zA1, getElem?_set → zE7, getElem_mem → zE9, length_append → zB2, length_cons → zC5, length_map → zB0, length_nil → zD4, length_singleton → zB8, map_append → zF0, map_cons → zC7, map_nil → zI7, mem_append → zC2, mem_cons → zB6, mem_cons_of_mem → zG8, mem_iff_getElem? → zB3, mem_map → zB5, mem_range → zD8, mem_singleton → zD6, nil_append → zG5, nodup_cons → zG2, not_mem_nil → zI8, range → zB4, range' → zF9, replicate → zA6, take_succ_cons → zG9
open Nat renaming add_sub_cancel_left → zH0, le_refl → zB1, le_trans → zG3, zero_add → zA3, zero_le → zA9
open Option renaming getD_some → zC6
namespace Go.Lift
open List renaming mem_of_getElem? → lM
open List renaming getElem?_eq_some_iff → lI
open List renaming getD_eq_getElem?_getD → lD
open Go
structure ek (Q R : Aa) (σ τ : Nat → Nat) : Prop where
 lt : ∀ s, s < R.fa.length → σ s < Q.fa.length
 inj : ∀ s s', s < R.fa.length → s' < R.fa.length → σ s = σ s' → s = s'
 ver : ∀ s, s < R.fa.length → R.fa.getD s 0 = Q.fa.getD (σ s) 0
 now : ∀ s, s < R.fa.length → R.fh.getD s 0 = Q.fh.getD (σ s) 0
 tgt : ∀ s, s < R.fa.length → R.fq.getD s 0 = Q.fq.getD (σ s) 0
 tab : ∀ i t, R.fc[i]? = some t → ∃ t', Q.fc[τ i]? = some t' ∧ t'.fg = t.fg ∧ t'.ft = t.ft ∧ t'.fr = t.fr ∧ t'.fk = t.fk ∧ t'.ff = (σ t.ff.toNat : Int) ∧ t'.fj = (σ t.fj.toNat : Int)
 tinj : ∀ i j, i < R.fc.length → j < R.fc.length → τ i = τ j → i = j
structure VN (Q R : Aa) (σ τ : Nat → Nat) (a b : Ac) : Prop where
 base : ∀ s, s < R.fa.length → b.fd.getD s 0 = a.fd.getD (σ s) 0
 next : ∀ s, s < R.fa.length → b.fb.getD s 0 = a.fb.getD (σ s) 0
 held : ∀ i, i < R.fc.length → b.fe.getD i 0 = a.fe.getD (τ i) 0
theorem OX {Q R : Aa} {σ τ : Nat → Nat} {a b : Ac} (h : VN Q R σ τ a b) {s : Nat} (hs : s < R.fa.length) (v : Nat) : Ic b s v = Ic a (σ s) v := by
 unfold Ic; rw [h.base s hs, h.next s hs]
theorem WJ {Q R : Aa} {σ τ : Nat → Nat} {a b : Ac} (h : VN Q R σ τ a b) {s : Nat} (hs : s < R.fa.length) : Gf b s = Gf a (σ s) := by
 unfold Gf; rw [h.base s hs, h.next s hs]
theorem X9 {Q R : Aa} {σ τ : Nat → Nat} {a b : Ac} (hr : A4 R) (h : VN Q R σ τ a b) {i : Nat} {t t' : Al} (ht : R.fc[i]? = some t) (k1 : t'.fg = t.fg) (k2 : t'.ft = t.ft) (k3 : t'.fr = t.fr) (k4 : t'.ff = (σ t.ff.toNat : Int)) (k5 : t'.fj = (σ t.fj.toNat : Int)) (hc : IC a (τ i) t' = []) : IC b i t = [] := by
 have hok := Is (hr.tab t (lM ht))
 have hf : t.ff.toNat < R.fa.length := by have := hok.from0; omega
 have hto : t.fj.toNat < R.fa.length := by have := hok.to0; omega
 have hi := (lI.1 ht).1
 have e5 : ∀ v, Ic b t.fj.toNat v = Ic a t'.fj.toNat v := fun v => by rw [OX h hto, k5, zA7]
 have ew : ∀ u, Sc b i t u = Sc a (τ i) t' u := fun u => by
  unfold Sc By
  rw [k1, h.held i hi, OX h hf, k4, zA7]
 unfold IC at hc ⊢
 rw [k3, Hr] at hc
 rw [Hr]
 intro u row hrow
 have := hc u row hrow
 simp only [ew]
 cases hw : Sc a (τ i) t' (0 + u)
 ·simp
 ·rw [hw] at this
  simp only [if_true] at this ⊢
  unfold Kd at this ⊢
  obtain ⟨h1, h2⟩ := zM1.1 this
  rw [zM1]
  constructor
  ·rw [Hr] at h1 ⊢
   intro v ok hv
   have := h1 v ok hv
   unfold gC at this ⊢
   rw [e5, ← k2]
   split at this
   ·cases this
   ·rename_i hn; rw [if_neg hn]
  ·have ea : NS (hC b t) 0 row = NS (hC a t') 0 row := by
    have : hC b t = hC a t' := by funext v ok; unfold hC; rw [e5]
    rw [this]
   rw [ea, ← k2]
   split at h2
   ·cases h2
   ·rename_i hn; rw [if_neg hn]
section
variable {Q R : Aa} {σ τ : Nat → Nat} (S : ek Q R σ τ)
include S
theorem Wa {a b : Ac} (hr : A4 R) (h : VN Q R σ τ a b) (hc : Ee Q a = []) : Ee R b = [] := by
 unfold Ee at hc ⊢
 rw [Hr] at hc ⊢
 intro i t ht
 obtain ⟨t', h1, k1, k2, k3, _, k4, k5⟩ := S.tab i t ht
 have := hc (τ i) t' h1
 rw [zA3] at this ⊢
 exact X9 hr h ht k1 k2 k3 k4 k5 this
theorem O7 {a b : Ac} (hr : A4 R) (hb : Bp R b) (ha : a.fb.length = Q.fa.length) (h : VN Q R σ τ a b) (hq : Br Q a = true) : Br R b = true := by
 rw [OL] at hq ⊢
 intro x hx
 let f : Nat → Int := fun q => if (zB4 R.fa.length).any (fun s => σ s == q && decide (x.fb.getD s 0 ≠ b.fb.getD s 0)) = true then -1 else a.fb.getD q 0
 have hxl : x.fb.length = R.fa.length := by rw [hx.len, hb.next]
 let y : Ac := ⟨a.fd, (zB4 a.fb.length).map f, a.fe⟩
 have hy : ∀ q, q < a.fb.length → y.fb.getD q 0 = f q := fun q hq => by
  show ((zB4 a.fb.length).map f).getD q 0 = _
  rw [lD, zA1, List.getElem?_range hq]; rfl
 have hab : On a y := ⟨rfl, rfl, by simp [y], fun q hq => by
  rw [hy q hq]
  show (if _ then _ else _) = _ ∨ _
  split
  ·rename_i hc
   obtain ⟨s, hs, hs2⟩ := zE0.1 hc
   rw [zA5, beq_iff_eq, decide_eq_true_eq] at hs2
   have hsl := zD8.1 hs
   refine .inr ⟨?_, by simp only [f]; rw [if_pos hc]⟩
   have := hx.next s (by rw [hb.next]; exact hsl)
   rw [← hs2.1, ← h.next s hsl]
   rcases this with h1 | h1
   ·exact absurd h1 hs2.2
   ·exact h1.1
  ·exact .inl rfl⟩
 refine Wa S hr (a := y) ⟨fun s hs => by rw [hx.base]; exact h.base s hs, fun s hs => ?_, fun i hi => by rw [hx.held]; exact h.held i hi⟩ (hq y hab)
 rw [hy _ (by rw [ha]; exact S.lt s hs)]
 show _ = if _ then _ else _
 by_cases he : x.fb.getD s 0 = b.fb.getD s 0
 ·rw [if_neg, he, h.next s hs]
  intro hc
  obtain ⟨s', hs', hs2⟩ := zE0.1 hc
  rw [zA5, beq_iff_eq, decide_eq_true_eq] at hs2
  have := S.inj s' s (zD8.1 hs') hs hs2.1
  subst this
  exact hs2.2 he
 ·rw [if_pos (zE0.2 ⟨s, zD8.2 hs, by rw [beq_self_eq_true, zE5]; exact decide_eq_true he⟩)]
  have := hx.next s (by rw [hb.next]; exact hs)
  rcases this with h1 | h1
  ·exact absurd h1 he
  ·exact h1.2
end
end Go.Lift
namespace Go.Lift
open Option renaming bind_some → oS
open List renaming mem_of_getElem? → lM
open Go
theorem Pw {α : Type} [DecidableEq α] : ∀ (L S : List α), L.Nodup → (∀ x, x ∈ L → x ∈ S) → L.length ≤ S.length
 | [], S, _, _ => zA9 _
 | x :: L, S, hn, hs => by
  obtain ⟨h1, h2⟩ := zG2.1 hn
  have hx := hs x (by simp)
  have := Pw L (S.erase x) h2 (fun y hy => by
   have hne : y ≠ x := fun e => h1 (e ▸ hy)
   exact (List.mem_erase_of_ne hne).2 (hs y (zG8 _ hy)))
  rw [List.length_erase_of_mem hx] at this
  have := List.length_pos_of_mem hx
  simp only [zC5]
  omega
def K6 (l : List JS) : List Ac := l.map fun n => n.1
theorem Wc {i : Nat} {l : List JS} {q : Ad × Ac} (h : (K6 l).Nodup) : (K6 (Bfs.put i l q)).Nodup ∧ ∀ x, x ∈ K6 (Bfs.put i l q) → x ∈ K6 l ∨ x = q.2 := by
 unfold Bfs.put
 split
 ·exact ⟨h, fun x hx => .inl hx⟩
 ·rename_i hn
  unfold K6 at h ⊢
  rw [zF0]
  refine ⟨?_, ?_⟩
  ·rw [List.nodup_append]
   refine ⟨h, by simp, ?_⟩
   intro a ha b hb
   have hb : b = q.2 := by simpa using hb
   subst hb
   intro e
   subst e
   obtain ⟨n, hn1, hn2⟩ := zB5.1 ha
   exact hn (zE0.2 ⟨n, hn1, decide_eq_true hn2⟩)
  ·intro x hx
   rcases zC2.1 hx with hx | hx
   ·exact .inl hx
   ·exact .inr (by simpa using hx)
theorem Oc {S : List Ac} {most i : Nat} (hS : S.length ≤ most) : ∀ (qs : List (Ad × Ac)) (l : List JS), (K6 l).Nodup → (∀ x, x ∈ K6 l → x ∈ S) → (∀ q, q ∈ qs → q.2 ∈ S) →
  ∃ l', Bfs.inner most i qs l = some l' ∧ (K6 l').Nodup ∧ (∀ x, x ∈ K6 l' → x ∈ S) ∧ l.length ≤ l'.length
 | [], l, h1, h2, _ => ⟨l, rfl, h1, h2, zB1 _⟩
 | q :: qs, l, h1, h2, h3 => by
  obtain ⟨g1, g2⟩ := Wc (i := i) (q := q) h1
  have g3 : ∀ x, x ∈ K6 (Bfs.put i l q) → x ∈ S := fun x hx => (g2 x hx).elim (h2 x) fun e => by rw [e]; exact h3 q (by simp)
  have := Pw _ S g1 g3
  unfold K6 at this
  rw [zB0] at this
  simp only [Bfs.inner]
  rw [if_neg (by omega)]
  obtain ⟨l', e1, e2, e3, e4⟩ := Oc hS qs (Bfs.put i l q) g1 g3 (fun q hq => h3 q (zG8 _ hq))
  refine ⟨l', e1, e2, e3, zG3 ?_ e4⟩
  unfold Bfs.put; split
  ·exact zB1 _
  ·simp
theorem Sd {p : Aa} {S : List Ac} {most : Nat} (hS : S.length ≤ most) (hc : ∀ x, x ∈ S → ∀ q, q ∈ IU p x → q.2 ∈ S) : ∀ (n i : Nat) (l : List JS), (K6 l).Nodup → (∀ x, x ∈ K6 l → x ∈ S) → i ≤ l.length → most < n + i → ∃ l', Bfs.go (IU p) most n i l = some l'
 | 0, i, l, h1, h2, hi, hn => by
  have := Pw _ S h1 h2
  unfold K6 at this
  rw [zB0] at this
  omega
 | n + 1, i, l, h1, h2, hi, hn => by
  simp only [Bfs.go]
  cases hx : l[i]? with
  | none => exact ⟨l, rfl⟩
  | some nd =>
   have hS2 : nd.1 ∈ S := h2 _ (zB5.2 ⟨nd, lM hx, rfl⟩)
   obtain ⟨l1, e1, e2, e3, e4⟩ := Oc (i := i) hS (IU p nd.1) l h1 h2 (hc _ hS2)
   simp only [e1, oS]
   have := Bfs.lt_get hx
   exact Sd hS hc n (i + 1) l1 e2 e3 (by omega) (by omega)
end Go.Lift
namespace Go.Lift
open List renaming getElem?_eq_some_iff → lI
open Go
theorem Z8 {p : Aa} {t : Al} (hp : A4 p) (ht : N6 p t) : t.fk.length ≤ 6 ∧ ∀ row, row ∈ t.fk → row.length ≤ 6 := by
 have h1 := Kh hp.ver ht.from0.1 ht.from0.2
 refine ⟨?_, fun row hr => by have := ht.reR row hr; omega⟩
 by_cases hk : t.fg = 4
 ·have := ht.reL hk; omega
 ·rw [ht.reN hk]; simp
theorem SZ (N : Nat) {l : List (List Bool)} (h : l.length ≤ 100000) : CS N l = some l := by
 unfold CS
 rw [Au (by simp only [zD4]; unfold C2; omega)]; rfl
theorem U2 (N : Nat) {l : List Bool} (h : l.length ≤ 100000) : CB N l = some l := by
 unfold CB
 rw [Au (by simp only [zD4]; unfold C2; omega)]; rfl
theorem N4 {α : Type} {l : List α} {i : Nat} {x : α} (h : l[i]? = some x) : l.set i x = l := by
 apply List.ext_getElem?
 intro k
 rw [zE7]
 have := (lI.1 h).1
 by_cases e : i = k
 ·subst e; rw [if_pos rfl, if_pos this, h]
 ·rw [if_neg e]
structure cx (N : Nat) (p : Aa) : Prop where
 v : p.fa.length < N
 n : p.fh.length < N
 t : p.fq.length < N
 s : p.fc.length < N
 m : ∀ t, t ∈ p.fc → t.fr.length < N ∧ (∀ row, row ∈ t.fr → row.length < N) ∧ t.fk.length < N ∧ ∀ row, row ∈ t.fk → row.length < N
def TR (p : Aa) : Prop := Br p (Fg p) = true ∧ ∃ u, LC p (Fg p) u = true
end Go.Lift
namespace Go.Lift
open Option renaming bind_some → oS
open Go
theorem Vk {N : Nat} (hN : N ≤ 1000000) (h1 : 1000 ≤ N) {p : Aa} (hv : BG p = 0) {m : Ac} (hm : Bp p m) (hr : Br p m = true) {l : List JS} (hs : JL p m 120 1000 = some l) :
  ∃ r, FM N p m = some r ∧ Tp p m r := by
 obtain ⟨hp, _⟩ := CW hv
 obtain ⟨ws, h⟩ := Xl hp hm hr hs
 have hl : l.length ≤ 120 := Bfs.go_len _ _ _ _ (by simp) hs
 refine ⟨_, RO (N := N) (by omega) (by omega) hv hm hr (by omega) (by omega) (Bfs.go_more (zB1 _) _ _ _ _ _ h1 hs) (by omega) h, ?_⟩
 rcases Va hp h with ⟨k1, h2, h3⟩ | k1
 ·exact .inl ⟨k1, h2, by omega⟩
 ·exact .inr k1
theorem Ub {N : Nat} (hN : N ≤ 1000000) (h1 : 1000 ≤ N) {p : Aa} (hv : BG p = 0) {m : Ac} (hm : Bp p m) (hr : Br p m = false) : FM N p m = some ([], 13) := by
 unfold FM
 rw [Kj N p m (by omega) (by omega) (MV hm) (IK hv hm), hr]; rfl
theorem NZ {N : Nat} (hN : N ≤ 1000000) (h1 : 1000 ≤ N) {p : Aa} (hv : BG p = 0) (hl : Lp p) : ∃ r, Gk N p = some r ∧ PE p r := by
 have hm := LD hv
 unfold Gk
 rw [RT N p (by omega) (by omega), if_pos hv]
 simp only [oS, hv, bne_self_eq_false, Ao]
 cases hr : Br p (Fg p)
 ·rw [Ub hN h1 hv hm hr]
  exact ⟨_, rfl, .inl ⟨hr, rfl⟩⟩
 ·rcases hl with h | ⟨l, hs⟩
  ·rw [hr] at h; cases h
  ·obtain ⟨r, e1, e3⟩ := Vk hN h1 hv hm hr hs
   rw [e1]
   exact ⟨r, rfl, .inr ⟨hr, e3⟩⟩
theorem O2 {p : Aa} {r : List Ad × Int} (h : PE p r) : ((r.2 == 0) = true ↔ TR p) ∧ (r.2 == 3) = false ∧ (r.2 = 0 ∨ r.2 = 13 ∨ r.2 = 14) := by
 rcases h with ⟨h1, h2⟩ | ⟨h1, ⟨h2, h3, _⟩ | ⟨h2, h3⟩⟩
 ·subst h2
  refine ⟨⟨(fun h => by cases h), fun h => ?_⟩, rfl, .inr (.inl rfl)⟩
  rw [h.1] at h1; cases h1
 ·rw [h2]
  exact ⟨⟨fun _ => ⟨h1, _, h3.1⟩, fun _ => rfl⟩, rfl, .inl rfl⟩
 ·subst h2
  refine ⟨⟨(fun h => by cases h), fun h => ?_⟩, rfl, .inr (.inr rfl)⟩
  obtain ⟨_, u, hu⟩ := h
  rw [h3 u] at hu; cases hu
end Go.Lift
namespace Go.Lift
open Option renaming bind_some → oS
open List renaming mem_of_getElem? → lM
open List renaming getElem?_eq_some_iff → lI
open List renaming getD_eq_getElem?_getD → lD
open Go
theorem FD {l : List Int} {i j : Nat} {x : Int} (hi : i < l.length) : (l.set i x).getD j 0 = if j = i then x else l.getD j 0 := by
 rw [lD, lD, zE7]
 by_cases e : i = j
 ·subst e; rw [if_pos rfl, if_pos hi, if_pos rfl]; rfl
 ·rw [if_neg e, if_neg (Ne.symm e)]
section
variable {Q R : Aa} {σ τ : Nat → Nat} (S : ek Q R σ τ) (hq : A4 Q) (hr : A4 R)
include S hq hr
theorem Vc : VN Q R σ τ (Fg Q) (Fg R) := by
 refine ⟨S.now, fun s hs => ?_, fun i hi => ?_⟩
 ·have h1 := S.lt s hs
  show (zA6 R.fh.length (-1)).getD s 0 = (zA6 Q.fh.length (-1)).getD (σ s) 0
  rw [lD, lD, List.getElem?_replicate, List.getElem?_replicate, if_pos (by rw [hr.now]; exact hs), if_pos (by rw [hq.now]; exact h1)]
 ·have ht : R.fc[i]? = some R.fc[i] := by simp [hi]
  generalize R.fc[i] = t at ht
  obtain ⟨t', h1, k1, _, _, _, k4, _⟩ := S.tab i t ht
  have hok := Is (hr.tab t (lM ht))
  show (R.fc.map (Fp R)).getD i 0 = (Q.fc.map (Fp Q)).getD (τ i) 0
  rw [lD, lD, zA1, zA1, ht, h1]
  show Fp R t = Fp Q t'
  unfold Fp By
  rw [k1, k4, zA7, S.now t.ff.toNat (by have := hok.from0; omega)]
theorem Xs {a b a' : Ac} {s : Ad} (ha : Bp Q a) (hb : Bp R b) (h : VN Q R σ τ a b) (hs : JP Q a s = some a') : ∃ b', Bp R b' ∧ VN Q R σ τ a' b' ∧ (b' = b ∨ ∃ s', JP R b s' = some b') := by
 obtain ⟨v1, x1, f1, n4, r1⟩ := Kl.1 hs
 have ha' := Lr hq ha v1 x1 f1
 have hV := v1
 unfold F2 at hV
 rw [zA5, decide_eq_true_eq, zG0, beq_iff_eq, beq_iff_eq] at hV
 obtain ⟨⟨w1, w2, w3, w4⟩, w5⟩ := hV
 obtain ⟨i, hi⟩ : ∃ i : Nat, s.fi = (i : Int) := ⟨s.fi.toNat, by omega⟩
 have hit : s.fi.toNat = i := by omega
 have hal := ha.next
 have hbl := hb.next
 have hab := ha.base
 have hbb := hb.base
 have hah := ha.held
 have hbh := hb.held
 -- a step here that is carried out
 have fin : ∀ s' b', F2 s' = true → Fb R s' = true → EL R b s' = some b' → s'.fg ≠ 4 → VN Q R σ τ a' b' → ∃ b', Bp R b' ∧ VN Q R σ τ a' b' ∧ (b' = b ∨ ∃ s', JP R b s' = some b') := fun s' b' c1 c2 c3 c4 c5 => by
  have hb' := Lr hr hb c1 c2 c3
  exact ⟨b', hb', c5, .inr ⟨s', Kl.2 ⟨c1, c2, c3, c4, O7 S hr hb' (by rw [ha'.next]) c5 r1⟩⟩⟩
 by_cases hk3 : s.fg = 3
 · -- a table
  unfold Fb at x1
  rw [if_pos hk3, decide_eq_true_eq] at x1
  unfold EL at f1
  rw [if_neg (by omega), if_pos hk3, hit] at f1
  have ht : Q.fc[i]? = some Q.fc[i] := by simp [show i < Q.fc.length from by omega]
  generalize Q.fc[i] = t' at ht
  rw [ht] at f1
  simp only at f1
  split at f1
  ·cases f1
  ·rename_i hn
   cases f1
   by_cases he : ∃ k, k < R.fc.length ∧ τ k = i
   ·obtain ⟨k, hk, rfl⟩ := he
    have htk : R.fc[k]? = some R.fc[k] := by simp [hk]
    generalize R.fc[k] = t at htk
    obtain ⟨t2, e1, k1, k2, k3, k4, k5, k6⟩ := S.tab k t htk
    rw [ht] at e1; cases e1
    have hok := Is (hr.tab t (lM htk))
    have hfl : t.ff.toNat < R.fa.length := by have := hok.from0; omega
    have em : Gf b t.ff.toNat = Gf a t'.ff.toNat := by rw [WJ h hfl, k5, zA7]
    have est : HF R b k t = HF Q a (τ k) t' := by
     unfold HF
     rw [k1]
     congr 1
     have : (fun u => Ns b k t u && !Ky b t u) = fun u => Ns a (τ k) t' u && !Ky a t' u := by
      funext u
      unfold Ns Ky
      rw [h.held k hk, OX h hfl, k4, h.base _ hfl, k5, zA7]
     rw [this]
    refine fin ⟨3, (k : Int), 0⟩ ⟨b.fd, b.fb, b.fe.set k (Gf b t.ff.toNat)⟩ (by unfold F2; simp) (by unfold Fb; simp [hk]) ?_ (by simp) ⟨h.base, h.next, fun j hj => ?_⟩
    ·unfold EL
     rw [if_neg (by simp), if_pos rfl]
     show (match R.fc[((k : Nat) : Int).toNat]? with | none => none | some t => _) = _
     rw [zA7, htk]
     simp only
     rw [if_neg]
     rw [em, est, h.held k hk]
     have : By t = By t' := by unfold By; rw [k1]
     rw [this]
     exact hn
    ·show (b.fe.set k (Gf b t.ff.toNat)).getD j 0 = (a.fe.set (τ k) (Gf a t'.ff.toNat)).getD (τ j) 0
     rw [FD (by rw [hbh]; exact hk), FD (by rw [hah]; omega), em]
     by_cases e : j = k
     ·subst e; rw [if_pos rfl, if_pos rfl]
     ·rw [if_neg e, if_neg (fun e' => e (S.tinj j k hj hk e'))]; exact h.held j hj
   ·refine ⟨b, hb, ⟨h.base, h.next, fun j hj => ?_⟩, .inl rfl⟩
    show b.fe.getD j 0 = (a.fe.set i _).getD (τ j) 0
    rw [FD (by rw [hah]; omega), if_neg (fun e' => he ⟨j, hj, e'⟩)]; exact h.held j hj
 · -- a service
  unfold Fb at x1
  rw [if_neg hk3, zA5, decide_eq_true_eq, zG0] at x1
  obtain ⟨x2, x3⟩ := x1
  have hiQ : i < Q.fa.length := by omega
  unfold EL at f1
  simp only [hit] at f1
  by_cases hk1 : s.fg = 1
  ·rw [if_pos hk1] at f1
   split at f1
   ·cases f1
   ·rename_i hn
    cases f1
    have x4 : s.fo < Q.fa.getD i 0 := by
     rcases x3 with x3 | x3
     ·rw [hk1] at x3; simp at x3
     ·rw [hit] at x3; exact of_decide_eq_true x3
    obtain ⟨u1, u2⟩ := NW (p := Q) (s := s) (held := a.fe) hah
    by_cases he : ∃ k, k < R.fa.length ∧ σ k = i
    ·obtain ⟨k, hk, rfl⟩ := he
     obtain ⟨q1, q2⟩ := NW (p := R) (s := ⟨1, (k : Int), s.fo⟩) (held := b.fe) hbh
     refine fin ⟨1, (k : Int), s.fo⟩ ⟨b.fd, b.fb.set k s.fo, HK R ⟨1, (k : Int), s.fo⟩ b.fe⟩ (by unfold F2; simp [w4]) ?_ ?_ (by simp) ⟨h.base, fun j hj => ?_, fun j hj => ?_⟩
     ·unfold Fb
      rw [if_neg (by simp)]
      show (decide ((k : Int) < _) && ((1 : Int) != 1 || decide (s.fo < R.fa.getD ((k : Nat) : Int).toNat 0))) = true
      rw [zA7, S.ver k hk, decide_eq_true (by omega), decide_eq_true x4]; rfl
     ·unfold EL
      rw [if_pos rfl]
      show (if 0 ≤ b.fb.getD ((k : Nat) : Int).toNat 0 ∨ b.fd.getD ((k : Nat) : Int).toNat 0 = s.fo then none else some _) = _
      rw [zA7, h.next k hk, h.base k hk, if_neg hn]
     ·show (b.fb.set k s.fo).getD j 0 = (a.fb.set (σ k) s.fo).getD (σ j) 0
      rw [FD (by rw [hbl]; exact hk), FD (by rw [hal]; exact hiQ)]
      by_cases e : j = k
      ·subst e; rw [if_pos rfl, if_pos rfl]
      ·rw [if_neg e, if_neg (fun e' => e (S.inj j k hj hk e'))]; exact h.next j hj
     ·have htj : R.fc[j]? = some R.fc[j] := by simp [hj]
      generalize R.fc[j] = t at htj
      obtain ⟨t', e1, k1, _, _, _, k5, _⟩ := S.tab j t htj
      have hok := Is (hr.tab t (lM htj))
      have hfl : t.ff.toNat < R.fa.length := by have := hok.from0; omega
      show (HK R ⟨1, (k : Int), s.fo⟩ b.fe).getD j 0 = (HK Q s a.fe).getD (τ j) 0
      rw [q2 j t htj, u2 (τ j) t' e1, h.held j hj]
      have : R0 ⟨1, (k : Int), s.fo⟩ t = R0 s t' := by
       unfold R0 By
       rw [k1, k5, hi]
       congr 1
       by_cases e : t.ff = (k : Int)
       ·rw [e, zA7, beq_self_eq_true, beq_self_eq_true]
       ·rw [beq_eq_false_iff_ne.2 e, eq_comm, beq_eq_false_iff_ne]
        intro e'
        have := S.inj _ _ hfl hk (Int.ofNat.inj e')
        have := hok.from0
        omega
      rw [this]
    ·refine ⟨b, hb, ⟨h.base, fun j hj => ?_, fun j hj => ?_⟩, .inl rfl⟩
     ·show _ = (a.fb.set i s.fo).getD (σ j) 0
      rw [FD (by rw [hal]; exact hiQ), if_neg (fun e' => he ⟨j, hj, e'⟩)]; exact h.next j hj
     ·have htj : R.fc[j]? = some R.fc[j] := by simp [hj]
      generalize R.fc[j] = t at htj
      obtain ⟨t', e1, k1, _, _, _, k5, _⟩ := S.tab j t htj
      have hok := Is (hr.tab t (lM htj))
      have hfl : t.ff.toNat < R.fa.length := by have := hok.from0; omega
      show _ = (HK Q s a.fe).getD (τ j) 0
      rw [u2 (τ j) t' e1, if_neg, h.held j hj]
      unfold R0
      rw [k5, hi, zA5, beq_iff_eq]
      intro e'
      exact he ⟨_, hfl, Int.ofNat.inj e'.1⟩
  ·have hk2 : s.fg = 2 := by omega
   rw [if_neg hk1, if_neg hk3] at f1
   split at f1
   ·cases f1
   ·rename_i hn
    cases f1
    by_cases he : ∃ k, k < R.fa.length ∧ σ k = i
    ·obtain ⟨k, hk, rfl⟩ := he
     refine fin ⟨2, (k : Int), 0⟩ ⟨b.fd.set k (b.fb.getD k 0), b.fb.set k (-1), b.fe⟩ (by unfold F2; simp) (by unfold Fb; simp [hk]) ?_ (by simp) ⟨fun j hj => ?_, fun j hj => ?_, h.held⟩
     ·unfold EL
      rw [if_neg (by simp), if_neg (by simp)]
      show (if b.fb.getD ((k : Nat) : Int).toNat 0 < 0 then none else some (⟨if (2 : Int) = 2 then b.fd.set ((k : Nat) : Int).toNat (b.fb.getD ((k : Nat) : Int).toNat 0) else b.fd, b.fb.set ((k : Nat) : Int).toNat (-1), b.fe⟩ : Ac)) = _
      rw [zA7, if_neg (by rw [h.next k hk]; exact hn), if_pos rfl]
     ·show (b.fd.set k (b.fb.getD k 0)).getD j 0 = (a.fd.set (σ k) (a.fb.getD (σ k) 0)).getD (σ j) 0
      rw [FD (by rw [hbb]; exact hk), FD (by rw [hab]; exact hiQ), h.next k hk]
      by_cases e : j = k
      ·subst e; rw [if_pos rfl, if_pos rfl]
      ·rw [if_neg e, if_neg (fun e' => e (S.inj j k hj hk e'))]; exact h.base j hj
     ·show (b.fb.set k (-1)).getD j 0 = (a.fb.set (σ k) (-1)).getD (σ j) 0
      rw [FD (by rw [hbl]; exact hk), FD (by rw [hal]; exact hiQ)]
      by_cases e : j = k
      ·subst e; rw [if_pos rfl, if_pos rfl]
      ·rw [if_neg e, if_neg (fun e' => e (S.inj j k hj hk e'))]; exact h.next j hj
    ·refine ⟨b, hb, ⟨fun j hj => ?_, fun j hj => ?_, h.held⟩, .inl rfl⟩
     ·show _ = (a.fd.set i (a.fb.getD i 0)).getD (σ j) 0
      rw [FD (by rw [hab]; exact hiQ), if_neg (fun e' => he ⟨j, hj, e'⟩)]; exact h.base j hj
     ·show _ = (a.fb.set i (-1)).getD (σ j) 0
      rw [FD (by rw [hal]; exact hiQ), if_neg (fun e' => he ⟨j, hj, e'⟩)]; exact h.next j hj
theorem Uz : ∀ {w : List Ad} {a b a' : Ac}, Bp Q a → Bp R b → VN Q R σ τ a b → Ld Q a w = some a' → ∃ u b', Bp R b' ∧ VN Q R σ τ a' b' ∧ Ld R b u = some b'
 | [], a, b, a', _, hb, h, hw => by
  cases hw
  exact ⟨[], b, hb, h, rfl⟩
 | s :: w, a, b, a', ha, hb, h, hw => by
  rw [Ld] at hw
  cases hs : JP Q a s with
  | none => rw [hs] at hw; cases hw
  | some c =>
   rw [hs, oS] at hw
   obtain ⟨v1, x1, f1, _, _⟩ := Kl.1 hs
   have hc := Lr hq ha v1 x1 f1
   obtain ⟨d, hd, h1, h2⟩ := Xs S hq hr ha hb h hs
   obtain ⟨u, b', k1, k2, k3⟩ := Uz hc hd h1 hw
   rcases h2 with rfl | ⟨s', h2⟩
   ·exact ⟨u, b', k1, k2, k3⟩
   ·exact ⟨s' :: u, b', k1, k2, by rw [Ld, h2, oS]; exact k3⟩
theorem YC (hvQ : BG Q = 0) (hvR : BG R = 0) (hh : TR Q) : TR R := by
 obtain ⟨h1, u, h2⟩ := hh
 have ha := LD hvQ
 have hb := LD hvR
 have hrel := Vc S hq hr
 unfold LC at h2
 cases hx : Ld Q (Fg Q) u with
 | none => rw [hx] at h2; cases h2
 | some x =>
  rw [hx] at h2
  have h2 : H6 Q x = true := h2
  obtain ⟨w, y, k1, k2, k3⟩ := Uz S hq hr ha hb hrel hx
  refine ⟨O7 S hr hb (by rw [ha.next]) hrel h1, w, ?_⟩
  unfold LC
  rw [k3]
  show H6 R y = true
  unfold H6 at h2 ⊢
  rw [zA5, zA5, beq_iff_eq, beq_iff_eq, zA2] at h2
  obtain ⟨_, g2, g3⟩ := h2
  rw [IK hvR k1, beq_self_eq_true, zE5, zA5, beq_iff_eq, zA2]
  have hT := hr.tgt
  have hxn : x.fb.length = Q.fa.length := by
   have := (UJ hq u _ x ha hx).next
   exact this
  constructor
  ·apply List.ext_getElem?
   intro j
   by_cases hj : j < R.fa.length
   ·have e := (k2.base j hj).trans ((congrArg (fun l => l.getD (σ j) 0) g2).trans (S.tgt j hj).symm)
    rw [lD, lD] at e
    have c1 : y.fd[j]? = some (y.fd[j]'(by rw [k1.base]; exact hj)) := by simp
    have c2 : R.fq[j]? = some (R.fq[j]'(by omega)) := by simp
    rw [c1, c2] at e ⊢
    simpa using e
   ·rw [zD1 (by rw [k1.base]; omega), zD1 (by omega)]
  ·intro n hn
   obtain ⟨j, hj⟩ := zB3.1 hn
   have hjl := (lI.1 hj).1
   rw [k1.next] at hjl
   have e := k2.next j hjl
   rw [lD, hj] at e
   have e : n = x.fb.getD (σ j) 0 := e
   rw [e]
   refine g3 _ ?_
   have hl := S.lt j hjl
   rw [lD, zC0 (by omega)]
   exact zE9 _
end
end Go.Lift
namespace Go.Lift
open Option renaming bind_some → oS
open List renaming getElem?_eq_some_iff → lI
open Go
def zP : Aa := ⟨[], [], [], []⟩
def La (l : List Int) (i : Nat) (x : Int) : Option (Aa × Int) := if 0 < i ∧ x ≤ l.getD (i - 1) 0 then some (zP, 1) else none
def Le (l : List Int) : Bool := (CC (La l) 0 l).isNone
def UB (p : Aa) (x : Int) : Bool := decide (0 ≤ x ∧ x < (p.fa.length : Int))
def Fl (l : List Int) (x : Int) : Int := (CC (fun i y => if (y == x) = true then some ((i : Nat) : Int) else none) 0 l).getD (-1)
def Hm (l : List Int) (t : Al) : List Al := if 0 ≤ Fl l t.ff ∧ 0 ≤ Fl l t.fj then [⟨t.fg, Fl l t.ff, Fl l t.fj, t.ft, t.fr, t.fk⟩] else []
def Om (xs : List Int) (s : Int) : Int := xs.getD s.toNat 0
def ED (p : Aa) (l : List Int) : Aa := ⟨l.map (Om p.fa), l.map (Om p.fh), l.map (Om p.fq), Bz (fun _ t => Hm l t) 0 p.fc⟩
def HY (p : Aa) (l : List Int) : Aa × Int := if Le l = true then (if l.all (UB p) = true then (ED p l, 0) else (zP, 4)) else (zP, 1)
theorem Tu (l : List Int) {r : Aa × Int} (h : CC (La l) 0 l = some r) : r = (zP, 1) := by
 obtain ⟨j, x, _, h⟩ := DJ h
 unfold La at h
 split at h
 ·cases h; rfl
 ·cases h
theorem Vu {N : Nat} (hN : N ≤ 1000000) (l : List Int) (hl : l.length < N) (j : Unit → Option (Aa × Int)) : Cm N l j N 0 = if Le l = true then j () else some (zP, 1) := by
 have h := Ck (Cm N l j) l (j ()) (La l)
  (fun n i x hx => by
   have hi := (lI.1 hx).1
   rw [Cm, AC (by omega)]
   simp only [Bl]
   unfold La
   by_cases h0 : 0 < i
   ·rw [AC (by omega), AV, hx, CH (by omega) (by omega), show (i : Int) - 1 = ((i - 1 : Nat) : Int) from by omega, De (d := 0) (by omega)]
    simp only [oS, h0, true_and]
    rw [AE (by omega)]
    by_cases h1 : x ≤ l.getD (i - 1) 0
    ·rw [AC h1, if_pos h1]; rfl
    ·rw [Ay h1, if_neg h1]; rfl
   ·rw [Ay (by omega), if_neg (fun h => h0 h.1), Ao, AE (by omega)]; rfl)
  (fun n => by rw [Cm, Ay (by omega)]) N 0 (zA9 _) (by omega)
 rw [zC4] at h
 have h' : Cm N l j N 0 = _ := h
 rw [h']
 unfold Le
 cases hs : CC (La l) 0 l with
 | none => rfl
 | some r => rw [Tu l hs]; rfl
theorem YA {N : Nat} (hN : N ≤ 1000000) (l : List Int) (hl : l.length < N) (j : Unit → Option (Aa × Int)) : AZ N l j N 1 = if Le l = true then j () else some (zP, 1) := by
 cases hc : l with
 | nil =>
  obtain ⟨n, rfl⟩ : ∃ n, N = n + 1 := ⟨N - 1, by omega⟩
  rw [AZ, Ay (by simp)]; rfl
 | cons y ys =>
  rw [← hc]
  have hll : l.length = ys.length + 1 := by rw [hc]; rfl
  have h := Ck (fun n i => AZ N l j n (i + 1)) ys (j ()) (fun i x => La l (i + 1) x)
   (fun n i x hx => by
    have hi := (lI.1 hx).1
    have hx' : l[i + 1]? = some x := by rw [hc]; simpa using hx
    show AZ N l j (n + 1) ((i : Int) + 1) = _
    rw [show (i : Int) + 1 = ((i + 1 : Nat) : Int) from by omega, AZ, AC (by omega), AV, hx', CH (by omega) (by omega), show ((i + 1 : Nat) : Int) - 1 = (i : Int) from by omega, De (d := 0) (by omega)]
    simp only [oS]
    unfold La
    rw [AE (by omega)]
    simp only [Nat.zero_lt_succ, true_and, Nat.add_sub_cancel]
    by_cases h1 : x ≤ l.getD i 0
    ·rw [AC h1, if_pos h1]; rfl
    ·rw [Ay h1, if_neg h1]
     show _ = AZ N l j n (((i + 1 : Nat) : Int) + 1)
     rw [show ((i + 1 : Nat) : Int) + 1 = ((i + 1 + 1 : Nat) : Int) from by omega])
   (fun n => by
    show AZ N l j (n + 1) ((ys.length : Int) + 1) = _
    rw [AZ, Ay (by omega)]) N 0 (zA9 _) (by omega)
  rw [zC4] at h
  have h' : AZ N l j N 1 = _ := h
  rw [h']
  have e : CC (La l) 0 l = CC (fun i x => La l (i + 1) x) 0 ys := by
   have sh : ∀ (ys : List Int) (i : Nat), CC (La l) (i + 1) ys = CC (fun i x => La l (i + 1) x) i ys := by
    intro ys
    induction ys with
    | nil => intro i; rfl
    | cons z zs ih => intro i; rw [FF, FF, ih]
   have h0 : La l 0 y = none := by unfold La; rw [if_neg (by omega)]
   have q : ∀ g : Nat → Int → Option (Aa × Int), CC g 0 l = CC g 0 (y :: ys) := fun g => by rw [hc]
   rw [q, FF, h0, ← sh ys 0]
  unfold Le
  rw [e]
  cases hs : CC (fun i x => La l (i + 1) x) 0 ys with
  | none => rfl
  | some r => rw [← e] at hs; rw [Tu l hs]; rfl
theorem Nr {N : Nat} (hN : N ≤ 1000000) (l : List Int) (hl : l.length < N) (x : Int) : Df N l x = some (Fl l x) ∧ DZ N l x = some (Fl l x) := by
 constructor
 ·unfold Df
  have h := Ck (BM N l x fun _ => some (-1)) l (some (-1)) (fun i y => if (x == y) = true then some ((i : Nat) : Int) else none)
   (fun n i y hy => by
    have hi := (lI.1 hy).1
    rw [BM, AC (by omega), AV, hy]
    simp only [oS]
    rw [AE (by omega)]
    cases x == y <;> rfl)
   (fun n => by rw [BM, Ay (by omega)]) N 0 (zA9 _) (by omega)
  rw [zC4] at h
  have h' : BM N l x (fun _ => some (-1)) N 0 = _ := h
  refine h'.trans ?_
  unfold Fl
  have e : (fun (i : Nat) (y : Int) => if (x == y) = true then some (i : Int) else none) = fun i y => if (y == x) = true then some ((i : Nat) : Int) else none := by
   funext i y
   rw [Bool.beq_comm]
  rw [e]
  cases CC (fun i y => if (y == x) = true then some ((i : Nat) : Int) else none) 0 l <;> rfl
 ·unfold DZ
  have h := Ck (Ce N l x fun _ => some (-1)) l (some (-1)) (fun i y => if (y == x) = true then some ((i : Nat) : Int) else none)
   (fun n i y hy => by
    have hi := (lI.1 hy).1
    rw [Ce, AC (by omega), AV, hy]
    simp only [oS]
    rw [AE (by omega)]
    cases y == x <;> rfl)
   (fun n => by rw [Ce, Ay (by omega)]) N 0 (zA9 _) (by omega)
  rw [zC4] at h
  have h' : Ce N l x (fun _ => some (-1)) N 0 = _ := h
  refine h'.trans ?_
  unfold Fl
  cases CC (fun i y => if (y == x) = true then some ((i : Nat) : Int) else none) 0 l <;> rfl
theorem QL {N : Nat} (hN : N ≤ 1000000) {p : Aa} (h2 : p.fh.length = p.fa.length) (h3 : p.fq.length = p.fa.length) (l : List Int) (hl : l.length ≤ 1000) (j : List Int × List Int × List Int → Option (Aa × Int)) : ∀ (n i : Nat) (a b c : List Int), i ≤ l.length → l.length - i < n → a.length = i → b.length = i → c.length = i →
  DM N p l j n (a, b, c, (i : Int)) = if (l.drop i).all (UB p) = true then j (a ++ (l.drop i).map (Om p.fa), b ++ (l.drop i).map (Om p.fh), c ++ (l.drop i).map (Om p.fq)) else some (zP, 4)
 | 0, i, _, _, _, _, h, _, _, _ => by omega
 | n + 1, i, a, b, c, hi, h, ha, hb, hc => by
  rw [DM]
  by_cases h1 : i < l.length
  ·have hx : l[i]? = some l[i] := by simp [h1]
   rw [AC (by simp only; omega), GE hx]
   simp only [AV, hx, oS, zG7, zC7]
   generalize l[i] = x
   unfold Dt
   simp only [Bl]
   by_cases hr : 0 ≤ x ∧ x < (p.fa.length : Int)
   ·have hin : UB p x = true := decide_eq_true hr
    rw [hin, zE5, AC hr.1, decide_eq_true hr.2]
    simp only [oS, zC3, Ao]
    rw [D9 (d := 0) hr.1 hr.2, D9 (d := 0) hr.1 (by omega), D9 (d := 0) hr.1 (by omega)]
    simp only [oS]
    rw [Au (by simp only [zB8]; unfold C2; omega), Au (by simp only [zB8]; unfold C2; omega), Au (by simp only [zB8]; unfold C2; omega), AE (by omega),
     QL hN h2 h3 l hl j n (i + 1) _ _ _ (by omega) (by omega) (by simp [ha]) (by simp [hb]) (by simp [hc])]
    simp only [zD7, List.singleton_append]
    rfl
   ·have hin : UB p x = false := decide_eq_false hr
    rw [hin, zK6, if_neg (by decide)]
    by_cases h0 : 0 ≤ x
    ·rw [AC h0, decide_eq_false (fun h => hr ⟨h0, h⟩)]; rfl
    ·rw [Ay h0]; rfl
  ·have : i = l.length := by omega
   subst this
   rw [Ay (by simp only; omega), zD9 (zB1 _)]
   simp
theorem U0 {N : Nat} (hN : N ≤ 1000000) {p : Aa} (h2 : p.fh.length = p.fa.length) (h3 : p.fq.length = p.fa.length) (l : List Int) (hl : l.length ≤ 1000) (j : List Int × List Int × List Int → Option (Aa × Int)) : ∀ (n i : Nat) (a b c : List Int), i ≤ l.length → l.length - i < n → a.length = i → b.length = i → c.length = i →
  CL N p l j n (a, b, c, (i : Int)) = if (l.drop i).all (UB p) = true then j (a ++ (l.drop i).map (Om p.fa), b ++ (l.drop i).map (Om p.fh), c ++ (l.drop i).map (Om p.fq)) else some (zP, 4)
 | 0, i, _, _, _, _, h, _, _, _ => by omega
 | n + 1, i, a, b, c, hi, h, ha, hb, hc => by
  rw [CL]
  by_cases h1 : i < l.length
  ·have hx : l[i]? = some l[i] := by simp [h1]
   rw [AC (by simp only; omega), GE hx]
   simp only [AV, hx, oS, zG7, zC7, Bl]
   generalize l[i] = x
   by_cases hr : 0 ≤ x ∧ x < (p.fa.length : Int)
   ·have hin : UB p x = true := decide_eq_true hr
    rw [hin, zE5, Ay (by omega), decide_eq_false (by omega), Ao]
    rw [D9 (d := 0) hr.1 hr.2, D9 (d := 0) hr.1 (by omega), D9 (d := 0) hr.1 (by omega)]
    simp only [oS]
    rw [Au (by simp only [zB8]; unfold C2; omega), Au (by simp only [zB8]; unfold C2; omega), Au (by simp only [zB8]; unfold C2; omega), AE (by omega),
     U0 hN h2 h3 l hl j n (i + 1) _ _ _ (by omega) (by omega) (by simp [ha]) (by simp [hb]) (by simp [hc])]
    simp only [zD7, List.singleton_append]
    rfl
   ·have hin : UB p x = false := decide_eq_false hr
    rw [hin, zK6, if_neg (by decide)]
    by_cases h0 : x < 0
    ·rw [AC h0]; rfl
    ·rw [Ay h0, decide_eq_true (by omega)]; rfl
  ·have : i = l.length := by omega
   subst this
   rw [Ay (by simp only; omega), zD9 (zB1 _)]
   simp
end Go.Lift
namespace Go.Lift
open Option renaming bind_some → oS
open List renaming mem_of_getElem? → lM
open List renaming getElem?_eq_some_iff → lI
open Go
theorem Ty {N : Nat} (h20 : 100 ≤ N) (t : Al) (h1 : t.fr.length ≤ 6) (h2 : ∀ row, row ∈ t.fr → row.length ≤ 6) (h3 : t.fk.length ≤ 6) (h4 : ∀ row, row ∈ t.fk → row.length ≤ 6) : GC N t = some t := by
 unfold GC
 rw [SZ N (by omega), SZ N (by omega)]
 simp only [oS]
 have l2 : ∀ v4, CX N t.fk (fun v10 => some ⟨t.fg, t.ff, t.fj, t.ft, v4, v10⟩) N (t.fk, 0) = some ⟨t.fg, t.ff, t.fj, t.ft, v4, t.fk⟩ := fun v4 => by
  have l2 := HU (CX N t.fk fun v12 => some ⟨t.fg, t.ff, t.fj, t.ft, v4, v12⟩) (fun a i => (a, i)) t.fk (fun v12 => some ⟨t.fg, t.ff, t.fj, t.ft, v4, v12⟩) (fun _ _ a => a) (fun _ a => a = t.fk)
   (fun n i x a hx ha => by
    subst ha
    have hi := (lI.1 hx).1
    refine ⟨?_, rfl⟩
    rw [CX]
    simp only [AV, hx, oS]
    rw [AC (by omega), U2 N (by have := h4 x (lM hx); omega)]
    simp only [oS]
    rw [AE (by omega), zA7, N4 hx])
   (fun n a ha => by
    subst ha
    rw [CX, Ay (by omega)]) N 0 t.fk (zA9 _) (by omega) rfl
  have e := l2.1
  rw [l2.2] at e
  exact e
 have l1 := HU (DT N t.fr fun v4 => CX N t.fk (fun v10 => some ⟨t.fg, t.ff, t.fj, t.ft, v4, v10⟩) N (t.fk, 0)) (fun a i => (a, i)) t.fr (fun v4 => some ⟨t.fg, t.ff, t.fj, t.ft, v4, t.fk⟩) (fun _ _ a => a) (fun _ a => a = t.fr)
  (fun n i x a hx ha => by
   subst ha
   have hi := (lI.1 hx).1
   refine ⟨?_, rfl⟩
   rw [DT]
   simp only [AV, hx, oS]
   rw [AC (by omega), U2 N (by have := h2 x (lM hx); omega)]
   simp only [oS]
   rw [AE (by omega), zA7, N4 hx])
  (fun n a ha => by
   subst ha
   rw [DT, Ay (by omega)]
   exact l2 t.fr) N 0 t.fr (zA9 _) (by omega) rfl
 have e := l1.1
 rw [l1.2] at e
 exact e
theorem Pq {N : Nat} (h20 : 100 ≤ N) (l : List (List Bool)) (h1 : l.length ≤ 6) (h2 : ∀ row, row ∈ l → row.length ≤ 6) : DL N l = some l := by
 unfold DL
 rw [FG (Cz N l _) (fun a i => (a, i)) l some (fun _ x => [x]) 1 1000
  (fun i x hx => by simp)
  (fun n i x a hx ha => by
   have hi := (lI.1 hx).1
   have hr := h2 x (lM hx)
   rw [Cz]
   simp only [AV, hx, oS]
   rw [AC (by omega), Au (by simp only [zD4]; unfold C2; omega), Au (by simp only [zB8] at ha ⊢; unfold C2; omega), AE (by omega)]
   rfl)
  (fun n a => by
   rw [Cz, Ay (by omega)]) N [] (by omega) (by simp only [zD4]; omega), R5]
 rfl
theorem R6 {p : Aa} (hp : A4 p) {t : Al} (h : t ∈ p.fc) : (t.fr.length ≤ 6 ∧ ∀ row, row ∈ t.fr → row.length ≤ 6) ∧ t.fk.length ≤ 6 ∧ ∀ row, row ∈ t.fk → row.length ≤ 6 := by
 have ht := Is (hp.tab t h)
 exact ⟨MU hp ht, Z8 hp ht⟩
theorem MO {N : Nat} (hN : N ≤ 1000000) (h20 : 100 ≤ N) {p : Aa} (hv : BG p = 0) (l : List Int) (hl : l.length ≤ 90) : FI N p l = some (HY p l) := by
 obtain ⟨hp, _⟩ := CW hv
 have hnt := hp.nt
 unfold FI HY
 rw [Ii N p hN (by omega)]
 simp only [oS, hv, bne_self_eq_false, Ao]
 rw [Vu hN l (by omega)]
 split
 ·have h := QL hN hp.now hp.tgt l (by omega) (fun v12 => CF N p l (fun v24 => some (Aa.mk v12.1 v12.2.1 v12.2.2 v24, 0)) N ([], 0)) N 0 [] [] [] (zA9 _) (by omega) rfl rfl rfl
  rw [zC4] at h
  refine Eq.trans h ?_
  split
  ·rw [FG (CF N p l _) (fun a i => (a, i)) p.fc (fun v24 => some (Aa.mk _ _ _ v24, 0)) (fun _ t => Hm l t) 1 1000
    (fun i t ht => by unfold Hm; split <;> simp)
    (fun n i t a ht ha => by
     have hi := (lI.1 ht).1
     obtain ⟨⟨a1, a2⟩, a3, a4⟩ := R6 hp (lM ht)
     rw [CF]
     simp only [Bl, AV, ht, oS]
     rw [AC (by omega), (Nr hN l (by omega) t.ff).1, (Nr hN l (by omega) t.fj).1]
     simp only [oS]
     rw [AE (by omega), Ty h20 t a1 a2 a3 a4]
     simp only [oS]
     unfold Hm at ha ⊢
     by_cases h1 : 0 ≤ Fl l t.ff
     ·rw [AC h1]
      by_cases h2 : 0 ≤ Fl l t.fj
      ·rw [decide_eq_true h2, AP, if_pos ⟨h1, h2⟩]
       rw [if_pos ⟨h1, h2⟩] at ha
       rw [Au (by simp only [zB8] at ha ⊢; unfold C2; omega)]
      ·rw [decide_eq_false h2, Ao, if_neg (fun h => h2 h.2), zH1]
     ·rw [Ay h1, Ao, if_neg (fun h => h1 h.1), zH1])
    (fun n a => by rw [CF, Ay (by omega)]) N [] (by omega) (by simp only [zD4]; omega)]
   rfl
  ·rfl
 ·rfl
theorem Ox {N : Nat} (hN : N ≤ 1000000) (h20 : 100 ≤ N) {p : Aa} (hv : BG p = 0) (l : List Int) (hl : l.length ≤ 90) : D0 N p l = some (HY p l) := by
 obtain ⟨hp, _⟩ := CW hv
 have hnt := hp.nt
 unfold D0 HY
 rw [KM N p hN (by omega)]
 simp only [oS, hv, bne_self_eq_false, Ao]
 rw [YA hN l (by omega)]
 split
 ·have h := U0 hN hp.now hp.tgt l (by omega) (fun v10 => BD N p l (fun v23 => some (Aa.mk v10.1 v10.2.1 v10.2.2 v23, 0)) N ([], 0)) N 0 [] [] [] (zA9 _) (by omega) rfl rfl rfl
  rw [zC4] at h
  refine Eq.trans h ?_
  split
  ·rw [FG (BD N p l _) (fun a i => (a, i)) p.fc (fun v24 => some (Aa.mk _ _ _ v24, 0)) (fun _ t => Hm l t) 1 1000
    (fun i t ht => by unfold Hm; split <;> simp)
    (fun n i t a ht ha => by
     have hi := (lI.1 ht).1
     obtain ⟨⟨a1, a2⟩, a3, a4⟩ := R6 hp (lM ht)
     rw [BD]
     simp only [Bl, AV, ht, oS]
     rw [AC (by omega), (Nr hN l (by omega) t.ff).2, (Nr hN l (by omega) t.fj).2]
     simp only [oS]
     unfold Fw
     rw [AE (by omega), Pq h20 _ a1 a2, Pq h20 _ a3 a4]
     simp only [oS]
     unfold Hm at ha ⊢
     by_cases h1 : 0 ≤ Fl l t.ff
     ·rw [AC h1]
      by_cases h2 : 0 ≤ Fl l t.fj
      ·rw [decide_eq_true h2, AP, if_pos ⟨h1, h2⟩]
       rw [if_pos ⟨h1, h2⟩] at ha
       rw [Au (by simp only [zB8] at ha ⊢; unfold C2; omega)]
      ·rw [decide_eq_false h2, Ao, if_neg (fun h => h2 h.2), zH1]
     ·rw [Ay h1, Ao, if_neg (fun h => h1 h.1), zH1])
    (fun n a => by rw [BD, Ay (by omega)]) N [] (by omega) (by simp only [zD4]; omega)]
   rfl
  ·rfl
 ·rfl
end Go.Lift
namespace Go.Lift
open List renaming mem_of_getElem? → lM
open List renaming getElem?_eq_some_iff → lI
open List renaming getD_eq_getElem?_getD → lD
open Go
theorem UZ {α R : Type} {f : Nat → α → Option R} {i : Nat} {xs : List α} (h : ∀ j x, xs[j]? = some x → f (i + j) x = none) : CC f i xs = none := by
 cases hs : CC f i xs with
 | none => rfl
 | some r =>
  obtain ⟨j, x, h1, h2⟩ := DJ hs
  rw [h j x h1] at h2; cases h2
theorem JH {l : List Int} (h : Le l = true) {i : Nat} {x y : Int} (hx : l[i]? = some x) (hy : l[i + 1]? = some y) : x < y := by
 unfold Le at h
 have h0 : CC (La l) 0 l = none := by
  cases hs : CC (La l) 0 l with
  | none => rfl
  | some r => rw [hs] at h; cases h
 have h1 := EB h0 (i + 1) y hy
 unfold La at h1
 split at h1
 ·cases h1
 ·rename_i hn
  have e : l.getD (0 + (i + 1) - 1) 0 = x := by
   rw [show 0 + (i + 1) - 1 = i from by omega, lD, hx]; rfl
  rw [e] at hn
  omega
theorem XE {l : List Int} (h : Le l = true) (h0 : ∀ x, x ∈ l → 0 ≤ x) : ∀ (i : Nat) (x : Int), l[i]? = some x → (i : Int) ≤ x
 | 0, x, hx => h0 x (lM hx)
 | i + 1, x, hx => by
  have hi := (lI.1 hx).1
  have hy : l[i]? = some l[i] := by simp
  have h1 := XE h h0 i _ hy
  have h2 := JH h hy hx
  omega
theorem Q8 {p : Aa} {l : List Int} (h : l.all (UB p) = true) : ∀ x, x ∈ l → 0 ≤ x ∧ x < (p.fa.length : Int) := fun x hx => of_decide_eq_true (zA2.1 h x hx)
theorem XX {p : Aa} {l : List Int} (h : Le l = true) (h0 : l.all (UB p) = true) : l.length ≤ p.fa.length := by
 by_cases hl : l.length = 0
 ·omega
 ·have hx : l[l.length - 1]? = some l[l.length - 1] := by simp [show l.length - 1 < l.length from by omega]
  have h1 := XE h (fun x hx => (Q8 h0 x hx).1) _ _ hx
  have h2 := (Q8 h0 _ (lM hx)).2
  omega
theorem NL {l : List Int} {x : Int} (h : 0 ≤ Fl l x) : Fl l x < (l.length : Int) ∧ l.getD (Fl l x).toNat 0 = x := by
 unfold Fl at h ⊢
 cases hs : CC (fun i y => if (y == x) = true then some ((i : Nat) : Int) else none) 0 l with
 | none => rw [hs] at h; simp at h
 | some r =>
  obtain ⟨j, y, hj, hq⟩ := DJ hs
  split at hq
  ·rename_i he
   cases hq
   have hjl := (lI.1 hj).1
   refine ⟨by simp only [zC6]; omega, ?_⟩
   simp only [zC6, zA3, zA7]
   rw [lD, hj]
   simpa using he
  ·cases hq
theorem NF {l xs : List Int} {k : Nat} (h : k < l.length) : (l.map (Om xs)).getD k 0 = xs.getD (l.getD k 0).toNat 0 := by
 rw [lD, zA1, lD (l := l)]
 have : l[k]? = some l[k] := by simp [h]
 rw [this]; rfl
theorem XI {p : Aa} {l : List Int} {t t' : Al} (ht : DW p t = 0) (hl : t' ∈ Hm l t) : DW (ED p l) t' = 0 := by
 unfold Hm at hl
 split at hl
 ·rename_i hp
  obtain ⟨h1, h2⟩ := NL hp.1
  obtain ⟨h3, h4⟩ := NL hp.2
  have : t' = ⟨t.fg, Fl l t.ff, Fl l t.fj, t.ft, t.fr, t.fk⟩ := by simpa using hl
  subst this
  have e1 : (ED p l).fa.getD (Fl l t.ff).toNat 0 = p.fa.getD t.ff.toNat 0 := by
   show (l.map (Om p.fa)).getD _ 0 = _
   rw [NF (by omega), h2]
  have e2 : (ED p l).fa.getD (Fl l t.fj).toNat 0 = p.fa.getD t.fj.toNat 0 := by
   show (l.map (Om p.fa)).getD _ 0 = _
   rw [NF (by omega), h4]
  have e3 : (ED p l).fa.length = l.length := by show (l.map _).length = _; rw [zB0]
  have hok := Is ht
  unfold DW at ht ⊢
  simp only [e1, e2, e3]
  split at ht
  ·cases ht
  ·rename_i g1
   rw [if_neg g1]
   split at ht
   ·cases ht
   ·rw [if_neg (by omega)]
    exact ht
 ·cases hl
theorem Iw {p : Aa} (hv : BG p = 0) {l : List Int} (ha : Le l = true) (hi : l.all (UB p) = true) : BG (ED p l) = 0 := by
 obtain ⟨hp, hx⟩ := CW hv
 have hn := XX ha hi
 have h6 := hp.nv
 have h12 := hp.nt
 have ht : (ED p l).fc.length ≤ 12 := by
  have : (Bz (fun _ t => Hm l t) 0 p.fc).length ≤ 1 * p.fc.length := Ga fun j t _ => by unfold Hm; split <;> simp
  show (Bz (fun _ t => Hm l t) 0 p.fc).length ≤ 12
  omega
 have e3 : ∀ xs : List Int, (l.map (Om xs)).length = l.length := fun xs => zB0 _
 unfold BG
 rw [if_neg (by show ¬ (6 < (l.map (Om p.fa)).length ∨ 12 < (ED p l).fc.length); rw [e3]; omega),
  if_neg (by show ¬ ((l.map (Om p.fh)).length ≠ (l.map (Om p.fa)).length ∨ (l.map (Om p.fq)).length ≠ (l.map (Om p.fa)).length); rw [e3, e3, e3]; simp)]
 have s1 : CC (F7 (ED p l)) 0 (ED p l).fa = none := by
  refine UZ fun j v hj => ?_
  have hj' : (l.map (Om p.fa))[j]? = some v := hj
  rw [zA1] at hj'
  cases hs : l[j]? with
  | none => rw [hs] at hj'; cases hj'
  | some s =>
   rw [hs] at hj'; cases hj'
   have hjl := (lI.1 hs).1
   have hin := Q8 hi s (lM hs)
   obtain ⟨b1, b2, b3, b4⟩ := hx s.toNat (by omega)
   have b5 := Kh hp.ver hin.1 hin.2
   have e : l.getD j 0 = s := by rw [lD, hs]; rfl
   have q1 : (ED p l).fh.getD (0 + j) 0 = p.fh.getD s.toNat 0 := by
    show (l.map (Om p.fh)).getD _ 0 = _; rw [zA3, NF hjl, e]
   have q2 : (ED p l).fq.getD (0 + j) 0 = p.fq.getD s.toNat 0 := by
    show (l.map (Om p.fq)).getD _ 0 = _; rw [zA3, NF hjl, e]
   unfold F7
   rw [q1, q2, if_neg]
   show ¬ (p.fa.getD s.toNat 0 < 1 ∨ 6 < p.fa.getD s.toNat 0 ∨ _ ∨ p.fa.getD s.toNat 0 ≤ _ ∨ _ ∨ p.fa.getD s.toNat 0 ≤ _)
   omega
 have s2 : CC (L9 (ED p l)) 0 (ED p l).fc = none := by
  refine UZ fun j t hj => ?_
  have hm : t ∈ Bz (fun _ t => Hm l t) 0 p.fc := lM hj
  obtain ⟨k, t0, hk, hm⟩ := Gd.1 hm
  unfold L9
  rw [if_pos (XI (hp.tab t0 (lM hk)) hm)]
 rw [s1, s2]; rfl
end Go.Lift
namespace Go.Lift
open List renaming getElem?_eq_some_iff → lI
open List renaming getD_eq_getElem?_getD → lD
open Go
theorem Ua {l : List Int} (h : Le l = true) : ∀ (d i : Nat) (x y : Int), l[i]? = some x → l[i + d + 1]? = some y → x < y
 | 0, i, x, y, hx, hy => JH h hx hy
 | d + 1, i, x, y, hx, hy => by
  have hl := (lI.1 hy).1
  have hz : l[i + d + 1]? = some l[i + d + 1] := by simp
  have h1 := Ua h d i x _ hx hz
  have h2 := JH h hz (show l[i + d + 1 + 1]? = some y from hy)
  omega
theorem XZ {l : List Int} (h : Le l = true) {i j : Nat} {x : Int} (hi : l[i]? = some x) (hj : l[j]? = some x) : i = j := by
 rcases Nat.lt_trichotomy i j with c | c | c
 ·have := Ua h (j - i - 1) i x x hi (by rw [show i + (j - i - 1) + 1 = j from by omega]; exact hj)
  omega
 ·exact c
 ·have := Ua h (i - j - 1) j x x hj (by rw [show j + (i - j - 1) + 1 = i from by omega]; exact hi)
  omega
theorem RL {l : List Int} {x : Int} (h : x ∈ l) : 0 ≤ Fl l x := by
 unfold Fl
 cases hs : CC (fun i y => if (y == x) = true then some ((i : Nat) : Int) else none) 0 l with
 | none =>
  obtain ⟨j, hj⟩ := zB3.1 h
  have := EB hs j x hj
  simp at this
 | some r =>
  obtain ⟨j, y, _, hq⟩ := DJ hs
  split at hq
  ·cases hq; simp only [zC6]; omega
  ·cases hq
theorem Px {l : List Int} {x : Int} (h : 0 ≤ Fl l x) : x ∈ l := by
 obtain ⟨h1, h2⟩ := NL h
 have hl : (Fl l x).toNat < l.length := by omega
 rw [lD, zC0 hl] at h2
 rw [← h2]
 exact zE9 _
section flat
variable {α β : Type}
def MG (g : α → List β) (xs : List α) (k : Nat) : Nat := (Bz (fun _ t => g t) 0 (xs.take k)).length
theorem GY (g : α → List β) : ∀ (i j : Nat) (xs : List α), Bz (fun _ t => g t) i xs = Bz (fun _ t => g t) j xs
 | _, _, [] => rfl
 | i, j, x :: xs => by rw [Bz, Bz, GY g (i + 1) (j + 1) xs]
theorem SO (g : α → List β) (hg : ∀ t, (g t).length ≤ 1) : ∀ (xs : List α) (i : Nat) (b : β), (Bz (fun _ t => g t) 0 xs)[i]? = some b → ∃ k t, xs[k]? = some t ∧ g t = [b] ∧ MG g xs k = i
 | [], i, b, h => by simp [Bz] at h
 | x :: xs, i, b, h => by
  rw [Bz, GY g (0 + 1) 0] at h
  by_cases hi : i < (g x).length
  ·have h1 := hg x
   have hi0 : i = 0 := by omega
   subst hi0
   rw [zC8 hi] at h
   refine ⟨0, x, rfl, ?_, rfl⟩
   match hgx : g x, h1, h with
   | [c], _, h => simp at h; rw [h]
   | [], _, h => simp at h
   | _ :: _ :: _, h1, _ => simp at h1
  ·rw [zB9 (by omega)] at h
   obtain ⟨k, t, e1, e2, e3⟩ := SO g hg xs _ b h
   refine ⟨k + 1, t, by simpa using e1, e2, ?_⟩
   unfold MG at e3 ⊢
   rw [zG9, Bz, GY g (0 + 1) 0, zB2, e3]
   omega
theorem QF (g : α → List β) : ∀ (xs : List α) (k : Nat) (t : α) (b : β), xs[k]? = some t → g t = [b] → (Bz (fun _ t => g t) 0 xs)[MG g xs k]? = some b
 | [], k, t, b, h, _ => by simp at h
 | x :: xs, 0, t, b, h, hg => by
  simp at h; subst h
  unfold MG
  rw [Bz, hg]; rfl
 | x :: xs, k + 1, t, b, h, hg => by
  have := QF g xs k t b (by simpa using h) hg
  unfold MG at this ⊢
  rw [zG9, Bz, GY g (0 + 1) 0, Bz, GY g (0 + 1) 0, zB2, zB9 (by omega), zH0]
  exact this
theorem TD (g : α → List β) : ∀ (xs : List α) (k k' : Nat) (t : α), xs[k]? = some t → g t ≠ [] → k < k' → MG g xs k < MG g xs k'
 | [], k, k', t, h, _, _ => by simp at h
 | x :: xs, 0, k' + 1, t, h, hg, _ => by
  simp at h; subst h
  unfold MG
  rw [zG9, Bz, zB2]
  have := List.length_pos_iff.2 hg
  simp [Bz]; omega
 | x :: xs, k + 1, k' + 1, t, h, hg, hk => by
  have := TD g xs k k' t (by simpa using h) hg (by omega)
  unfold MG at this ⊢
  rw [zG9, zG9, Bz, Bz, GY g (0 + 1) 0, GY g (0 + 1) 0, zB2, zB2]
  omega
end flat
theorem Yj (l : List Int) (t : Al) : (Hm l t).length ≤ 1 := by unfold Hm; split <;> simp
theorem V3 {p : Aa} {x y : List Int} (hx : Le x = true) (hxy : ∀ s, s ∈ x → s ∈ y) : ∃ σ τ, ek (ED p y) (ED p x) σ τ := by
 let σ : Nat → Nat := fun s => (Fl y (x.getD s 0)).toNat
 have len : ∀ (l : List Int) (V : List Int), (l.map (Om V)).length = l.length := fun l V => zB0 _
 have hs0 : ∀ s, s < x.length → 0 ≤ Fl y (x.getD s 0) ∧ Fl y (x.getD s 0) < (y.length : Int) ∧ y.getD (σ s) 0 = x.getD s 0 := fun s hs => by
  have hm : x.getD s 0 ∈ x := by
   rw [lD, zC0 hs]; exact zE9 _
  have h1 := RL (hxy _ hm)
  obtain ⟨h2, h3⟩ := NL h1
  exact ⟨h1, h2, h3⟩
 have hval : ∀ (V : List Int) s, s < x.length → (x.map (Om V)).getD s 0 = (y.map (Om V)).getD (σ s) 0 := fun V s hs => by
  obtain ⟨h1, h2, h3⟩ := hs0 s hs
  rw [NF hs, NF (by show (Fl y (x.getD s 0)).toNat < y.length; omega), h3]
 have hT : ∀ i, ∃ k, i < (ED p x).fc.length → ∃ t0 t t', p.fc[k]? = some t0 ∧ (ED p x).fc[i]? = some t ∧ Hm x t0 = [t] ∧ MG (Hm x) p.fc k = i ∧ Hm y t0 = [t'] := fun i => by
  by_cases hi : i < (ED p x).fc.length
  ·have ht : (ED p x).fc[i]? = some (ED p x).fc[i] := by simp [hi]
   generalize (ED p x).fc[i] = t at ht
   obtain ⟨k, t0, e1, e2, e3⟩ := SO (Hm x) (Yj x) p.fc i t ht
   refine ⟨k, fun _ => ⟨t0, t, ⟨t0.fg, Fl y t0.ff, Fl y t0.fj, t0.ft, t0.fr, t0.fk⟩, e1, ht, e2, e3, ?_⟩⟩
   have hn : 0 ≤ Fl x t0.ff ∧ 0 ≤ Fl x t0.fj := by
    unfold Hm at e2
    split at e2
    ·assumption
    ·cases e2
   unfold Hm
   rw [if_pos ⟨RL (hxy _ (Px hn.1)), RL (hxy _ (Px hn.2))⟩]
  ·exact ⟨0, fun h => absurd h hi⟩
 obtain ⟨K, hK⟩ := Classical.axiomOfChoice hT
 refine ⟨σ, fun i => MG (Hm y) p.fc (K i), ?_, ?_, ?_, ?_, ?_, ?_, ?_⟩
 ·intro s hs
  have hs : s < x.length := by rw [← len x p.fa]; exact hs
  obtain ⟨h1, h2, _⟩ := hs0 s hs
  show (Fl y (x.getD s 0)).toNat < (y.map (Om p.fa)).length
  rw [len]; omega
 ·intro s s' hs hs' he
  have hs : s < x.length := by rw [← len x p.fa]; exact hs
  have hs' : s' < x.length := by rw [← len x p.fa]; exact hs'
  have e : x.getD s 0 = x.getD s' 0 := by rw [← (hs0 s hs).2.2, ← (hs0 s' hs').2.2, he]
  have c1 : x[s]? = some (x.getD s 0) := by rw [lD, zC0 hs]; rfl
  have c2 : x[s']? = some (x.getD s' 0) := by rw [lD, zC0 hs']; rfl
  rw [e] at c1
  exact XZ hx c1 c2
 ·intro s hs; exact hval _ s (by rw [← len x p.fa]; exact hs)
 ·intro s hs; exact hval _ s (by rw [← len x p.fa]; exact hs)
 ·intro s hs; exact hval _ s (by rw [← len x p.fa]; exact hs)
 ·intro i t ht
  obtain ⟨t0, t1, t', e1, e2, e3, e4, e5⟩ := hK i (lI.1 ht).1
  rw [ht] at e2; cases e2
  refine ⟨t', QF (Hm y) p.fc (K i) t0 t' e1 e5, ?_⟩
  have g1 : (0 ≤ Fl x t0.ff ∧ 0 ≤ Fl x t0.fj) ∧ t = ⟨t0.fg, Fl x t0.ff, Fl x t0.fj, t0.ft, t0.fr, t0.fk⟩ := by
   unfold Hm at e3
   split at e3
   ·rename_i h; exact ⟨h, by simpa using e3.symm⟩
   ·cases e3
  have g2 : (0 ≤ Fl y t0.ff ∧ 0 ≤ Fl y t0.fj) ∧ t' = ⟨t0.fg, Fl y t0.ff, Fl y t0.fj, t0.ft, t0.fr, t0.fk⟩ := by
   unfold Hm at e5
   split at e5
   ·rename_i h; exact ⟨h, by simpa using e5.symm⟩
   ·cases e5
  obtain ⟨⟨a1, a2⟩, rfl⟩ := g1
  obtain ⟨⟨b1, b2⟩, rfl⟩ := g2
  have q1 := (NL a1).2
  have q2 := (NL a2).2
  refine ⟨rfl, rfl, rfl, rfl, ?_, ?_⟩
  ·show Fl y t0.ff = (((Fl y (x.getD (Fl x t0.ff).toNat 0)).toNat : Nat) : Int)
   rw [q1]; omega
  ·show Fl y t0.fj = (((Fl y (x.getD (Fl x t0.fj).toNat 0)).toNat : Nat) : Int)
   rw [q2]; omega
 ·intro i j hi hj he
  obtain ⟨t0, t1, t', e1, e2, e3, e4, e5⟩ := hK i hi
  obtain ⟨u0, u1, u', f1, f2, f3, f4, f5⟩ := hK j hj
  have hk : K i = K j := by
   rcases Nat.lt_trichotomy (K i) (K j) with c | c | c
   ·have := TD (Hm y) p.fc _ _ t0 e1 (by rw [e5]; simp) c
    have he : MG (Hm y) p.fc (K i) = MG (Hm y) p.fc (K j) := he
    omega
   ·exact c
   ·have := TD (Hm y) p.fc _ _ u0 f1 (by rw [f5]; simp) c
    have he : MG (Hm y) p.fc (K i) = MG (Hm y) p.fc (K j) := he
    omega
  rw [← e4, ← f4, hk]
theorem Vo {p : Aa} (hv : BG p = 0) {x y : List Int} (hx : (HY p x).2 = 0 ∧ Le x = true ∧ x.all (UB p) = true) (hy : Le y = true ∧ y.all (UB p) = true) (hxy : ∀ s, s ∈ x → s ∈ y) (hh : TR (ED p y)) : TR (ED p x) := by
 obtain ⟨σ, τ, S⟩ := V3 (p := p) hx.2.1 hxy
 have v1 := Iw hv hy.1 hy.2
 have v2 := Iw hv hx.2.1 hx.2.2
 exact YC S (CW v1).1 (CW v2).1 v1 v2 hh
end Go.Lift
namespace Go.Lift
open Option renaming bind_some → oS
open Go
def IW (p : Aa) (l : List Int) : Bool := match Gk 2000 (ED p l) with
 | some r => !(r.2 == 0)
 | none => false
def Yc (p : Aa) (l : List Int) : Bool × Int := if (HY p l).2 = 0 then (IW p l, 0) else (false, (HY p l).2)
theorem LV {p : Aa} {l : List Int} (h : (HY p l).2 = 0) : Le l = true ∧ l.all (UB p) = true ∧ HY p l = (ED p l, 0) := by
 unfold HY at h ⊢
 split at h
 ·rename_i h1
  split at h
  ·rename_i h2
   exact ⟨h1, h2, by rw [if_pos h1, if_pos h2]⟩
  ·cases h
 ·cases h
theorem X0 (p : Aa) (l : List Int) (h : (HY p l).2 ≠ 0) : ((HY p l).2 == 0) = false ∧ ((HY p l).2 != 0) = true := by
 refine ⟨beq_eq_false_iff_ne.2 h, ?_⟩
 unfold bne; rw [beq_eq_false_iff_ne.2 h]; rfl
theorem Q6 {p : Aa} (hv : BG p = 0) {l : List Int} (h : (HY p l).2 = 0) (hl : Lp (ED p l)) : IW p l = true ↔ ¬ TR (ED p l) := by
 obtain ⟨h1, h2, _⟩ := LV h
 obtain ⟨r, e, hs⟩ := NZ (N := 2000) (by omega) (by omega) (Iw hv h1 h2) hl
 unfold IW
 rw [e]
 obtain ⟨q, _, _⟩ := O2 hs
 show (!(r.2 == 0)) = true ↔ _
 rw [← q]
 generalize (r.2 == 0) = b
 cases b <;> simp
theorem Vd {q : Aa} (hv : BG q = 0) (hL : Lp q) {r : List Ad × Int} (hs : PE q r) : ∃ b : Bool, (r.2 == 0) = b ∧ (r.2 == 3) = false ∧ (match Gk 2000 q with | some r => !(r.2 == 0) | none => false) = !b := by
 obtain ⟨r2, e2, hs2⟩ := NZ (N := 2000) (by omega) (by omega) hv hL
 obtain ⟨q1, q2, _⟩ := O2 hs
 obtain ⟨q1'', _, _⟩ := O2 hs2
 have eb : ∀ a : Int, (a == 0) = (r2.2 == 0) ↔ ((a == 0) = true ↔ (r2.2 == 0) = true) := fun a => by cases a == 0 <;> cases r2.2 == 0 <;> simp
 have w : (r.2 == 0) = (r2.2 == 0) := (eb _).2 (q1.trans q1''.symm)
 exact ⟨_, w, q2, by rw [e2]⟩
theorem TO {N : Nat} (hN : N ≤ 1000000) (h1 : 1000 ≤ N) {p : Aa} (hv : BG p = 0) {l : List Int} (hl : l.length ≤ 90) (hL : (HY p l).2 = 0 → Lp (ED p l)) : Fs N p l = some (Yc p l) := by
 unfold Fs Yc
 rw [Ii N p hN (by omega), MO hN (by omega) hv l hl]
 simp only [oS, hv, bne_self_eq_false, Ao]
 by_cases h : (HY p l).2 = 0
 ·obtain ⟨g1, g2, g3⟩ := LV h
  have hvr := Iw hv g1 g2
  obtain ⟨r, e, hs⟩ := NZ hN h1 hvr (hL h)
  obtain ⟨b, w, q2, hb⟩ := Vd hvr (hL h) hs
  have hb : IW p l = !b := hb
  rw [if_pos h, g3]
  simp only [bne_self_eq_false, Ao]
  rw [e]
  simp only [oS]
  rw [q2, Ao, hb, w]
  cases b <;> rfl
 ·rw [if_neg h, (X0 p l h).2]; rfl
def Cs : Nat → List (List Int)
 | 0 => [[]]
 | 1 => [[], [0]]
 | 2 => [[], [0], [1], [0, 1]]
 | _ => [[], [0], [1], [2], [0, 1], [0, 2], [1, 2], [0, 1, 2]]
structure NY (p : Aa) : Prop where
 v : BG p = 0
 n : p.fa.length ≤ 3
 l : ∀ s, s ∈ Cs p.fa.length → Lp (ED p s)
theorem X6 {l : List Int} {n : Nat} (hn : n ≤ 3) (h : Le l = true) (h0 : ∀ x, x ∈ l → 0 ≤ x ∧ x < (n : Int)) : l ∈ Cs n := by
 match l, h, h0 with
 | [], _, _ => match n with | 0 => simp [Cs] | 1 => simp [Cs] | 2 => simp [Cs] | n + 3 => simp [Cs]
 | [a], h, h0 =>
  have ha := h0 a (by simp)
  match n, hn with
  | 0, _ => omega
  | 1, _ =>
   obtain rfl : a = 0 := by omega
   simp [Cs]
  | 2, _ => rcases (by omega : a = 0 ∨ a = 1) with rfl | rfl <;> simp [Cs]
  | 3, _ => rcases (by omega : a = 0 ∨ a = 1 ∨ a = 2) with rfl | rfl | rfl <;> simp [Cs]
  | n + 4, hn => omega
 | [a, b], h, h0 =>
  have ha := h0 a (by simp)
  have hb := h0 b (by simp)
  have hab := JH h (i := 0) (x := a) (y := b) rfl rfl
  match n, hn with
  | 0, _ => omega
  | 1, _ => omega
  | 2, _ =>
   obtain ⟨rfl, rfl⟩ : a = 0 ∧ b = 1 := by omega
   simp [Cs]
  | 3, _ => rcases (by omega : (a = 0 ∧ b = 1) ∨ (a = 0 ∧ b = 2) ∨ (a = 1 ∧ b = 2)) with ⟨rfl, rfl⟩ | ⟨rfl, rfl⟩ | ⟨rfl, rfl⟩ <;> simp [Cs]
  | n + 4, hn => omega
 | a :: b :: c :: r, h, h0 =>
  have ha := h0 a (by simp)
  have hc := h0 c (by simp)
  have hab := JH h (i := 0) (x := a) (y := b) rfl rfl
  have hbc := JH h (i := 1) (x := b) (y := c) rfl rfl
  match n, hn with
  | 0, _ => omega
  | 1, _ => omega
  | 2, _ => omega
  | 3, _ =>
   obtain ⟨rfl, rfl, rfl⟩ : a = 0 ∧ b = 1 ∧ c = 2 := by omega
   cases r with
   | nil => simp [Cs]
   | cons d r =>
    have hd := h0 d (by simp)
    have hcd := JH h (i := 2) (x := 2) (y := d) rfl rfl
    omega
  | n + 4, hn => omega
theorem OV {p : Aa} (hn : p.fa.length ≤ 3) {s : List Int} (hs : s ∈ Cs p.fa.length) : (HY p s).2 = 0 ∧ s.length ≤ 3 := by
 have key : ∀ n : Nat, n ≤ 3 → ∀ s, s ∈ Cs n → Le s = true ∧ s.length ≤ 3 ∧ ∀ x, x ∈ s → 0 ≤ x ∧ x < (n : Int) := by
  intro n hn
  match n, hn with
  | 0, _ => decide
  | 1, _ => decide
  | 2, _ => decide
  | 3, _ => decide
  | n + 4, hn => omega
 obtain ⟨h1, h2, h3⟩ := key _ hn s hs
 refine ⟨?_, h2⟩
 unfold HY
 rw [if_pos h1, if_pos (show s.all (UB p) = true from zA2.2 fun x hx => decide_eq_true (h3 x hx))]
theorem Vx {p : Aa} (h : NY p) {l : List Int} (hl : (HY p l).2 = 0) : Lp (ED p l) := by
 obtain ⟨h1, h2, _⟩ := LV hl
 exact h.l l (X6 h.n h1 (Q8 h2))
end Go.Lift
namespace Go.Lift
open Option renaming bind_some → oS
open List renaming mem_of_getElem? → lM
open Go
theorem Qb {p : Aa} (hp : A4 p) {m : Ac} (hm : Bp p m) (hr : Br p m = true) {n : Nat} {l : List JS} (hs : JL p m 120 n = some l) : ∃ l', JL p m 120 1000 = some l' := by
 obtain ⟨ws, hg⟩ := Xl hp hm hr hs
 have hl : l.length ≤ 120 := Bfs.go_len _ _ _ _ (by simp) hs
 refine Sd (S := K6 l) (by unfold K6; rw [zB0]; omega) ?_ 1000 0 [(m, -1, ML)] (by simp [K6]) (fun y hy => ?_) (zA9 _) (by omega)
 ·intro y hy w hw
  obtain ⟨⟨y0, f, s⟩, hmem, rfl⟩ := zB5.1 hy
  obtain ⟨k, hk⟩ := zB3.1 hmem
  have hkl := Bfs.lt_get hk
  obtain ⟨wy, hwy⟩ := Bfs.get_ex (l := ws) (k := k) (by rw [hg.inv.len]; exact hkl)
  obtain ⟨k', f', s', w', e1, _, _⟩ := hg.inv.closed k y0 f s wy hk hwy w (.inl ⟨hkl, hw⟩)
  exact zB5.2 ⟨_, lM e1, rfl⟩
 ·simp only [K6, zC7, zI7, zD6] at hy
  subst hy
  obtain ⟨s0, hs0⟩ := hg.inv.root
  exact zB5.2 ⟨_, lM hs0, rfl⟩
theorem Sy {N : Nat} (hN : N ≤ 1000000) (h1 : 1000 ≤ N) {p : Aa} (hv : BG p = 0) : ∃ b, EV N p 120 = some b ∧ (b = true → Lp p) := by
 obtain ⟨hp, _⟩ := CW hv
 have hm := LD hv
 unfold EV
 rw [RS N p (by omega) (by omega), if_pos hv]
 simp only [oS, Bl, hv, bne_self_eq_false, Ao]
 rw [Mo N p _ (by omega) (by omega) hp hm]
 simp only [oS]
 cases hr : Br p (Fg p)
 ·exact ⟨true, rfl, fun _ => .inl hr⟩
 ·have e := Rv (N := N) (by omega) (by omega) hv hm hr (most := 120) (by omega) (by omega) (.inl (by omega))
  have e' : D2 N p (Fg p) 120 = _ := e
  rw [zC3, Ao, e']
  cases hs : JL p (Fg p) 120 N with
  | none => exact ⟨false, rfl, fun h => by cases h⟩
  | some l => exact ⟨true, rfl, fun _ => .inr (Qb hp hm hr hs)⟩
theorem RA : EM 2000 = some true := by kernel_rfl
theorem Y2 {n : Nat} (h : n ≤ 3) : C3 2000 (n : Int) = some (Cs n) := by
 match n, h with
 | 0, _ => show C3 2000 0 = some (Cs 0); kernel_rfl
 | 1, _ => show C3 2000 1 = some (Cs 1); kernel_rfl
 | 2, _ => show C3 2000 2 = some (Cs 2); kernel_rfl
 | 3, _ => show C3 2000 3 = some (Cs 3); kernel_rfl
 | n + 4, h => omega
theorem Qg (n : Nat) : (Cs n).length ≤ 8 := by
 match n with
 | 0 => decide
 | 1 => decide
 | 2 => decide
 | n + 3 => simp [Cs]
theorem O8 {p : Aa} (hv : BG p = 0) (hn : p.fa.length ≤ 3) : ∀ (n i : Nat), i ≤ (Cs p.fa.length).length → (Cs p.fa.length).length - i < n →
  ∃ b, CJ 2000 p (Cs p.fa.length) (fun _ => some true) n (i : Int) = some b ∧ (b = true → ∀ s, s ∈ (Cs p.fa.length).drop i → Lp (ED p s))
 | 0, i, _, h => by omega
 | n + 1, i, hi, h => by
  have h8 := Qg p.fa.length
  rw [CJ]
  by_cases h1 : i < (Cs p.fa.length).length
  ·have hx : (Cs p.fa.length)[i]? = some (Cs p.fa.length)[i] := by simp [h1]
   have hm : (Cs p.fa.length)[i] ∈ Cs p.fa.length := zE9 _
   rw [AC (by omega), AV, hx, GE hx]
   generalize (Cs p.fa.length)[i] = s at hx hm ⊢
   obtain ⟨g1, g2⟩ := OV hn hm
   obtain ⟨k1, k2, k3⟩ := LV g1
   simp only [oS, Bl]
   rw [Ox (by omega) (by omega) hv s (by omega), k3]
   simp only [oS, bne_self_eq_false, Ao]
   obtain ⟨b, e, hb⟩ := Sy (N := 2000) (by omega) (by omega) (Iw hv k1 k2)
   rw [e]
   simp only [oS]
   cases b
   ·exact ⟨false, rfl, fun h => by cases h⟩
   ·obtain ⟨b2, e2, hb2⟩ := O8 hv hn n (i + 1) (by omega) (by omega)
    rw [zC3, Ao, AE (by omega)]
    refine ⟨b2, e2, fun h t ht => ?_⟩
    rcases zB6.1 ht with rfl | ht
    ·exact hb rfl
    ·exact hb2 h t ht
  ·rw [Ay (by omega)]
   exact ⟨true, rfl, fun _ s hs => by rw [zD9 (by omega)] at hs; cases hs⟩
theorem Wp (d : BF) (wd : FL d) : ∃ p b, zFS 2000 d = some (p, b) ∧ (b = true → NY p) := by
 obtain ⟨p, ok, e, h⟩ := dG 2000 d (by omega) (by omega) wd
 unfold zFS
 rw [e]
 simp only [oS, Bl]
 cases ok
 ·exact ⟨p, false, rfl, fun h => by cases h⟩
 ·rw [AP]
  have hv := (h rfl).valid
  unfold FO
  rw [KM 2000 p (by omega) (by omega)]
  simp only [oS, hv, bne_self_eq_false, Ao]
  by_cases h3 : 3 < (p.fa.length : Int)
  ·rw [AC h3]
   exact ⟨p, false, rfl, fun h => by cases h⟩
  ·rw [Ay h3, Y2 (by omega)]
   simp only [oS]
   obtain ⟨b, e2, hb⟩ := O8 hv (by omega) 2000 0 (zA9 _) (by have := Qg p.fa.length; omega)
   have e2' : CJ 2000 p (Cs p.fa.length) (fun _ => some true) 2000 0 = some b := e2
   rw [e2']
   exact ⟨p, b, rfl, fun h => ⟨hv, by omega, fun s hs => hb h s (by rw [zC4]; exact hs)⟩⟩
end Go.Lift
namespace Go.Lift
open IntKind renaming wrap → wI
open Option renaming bind_some → oS
open Go
def Ea : Nat → List Int
 | 0 => [0]
 | 1 => [0, 1]
 | 2 => [0, 1, 2, 3]
 | _ => [0, 1, 2, 4, 3, 5, 6, 7]
def aI : Nat → List Int
 | 0 => [0]
 | 1 => [0, 1]
 | 2 => [0, 1, 2, 3]
 | _ => [0, 1, 2, 3, 4, 5, 6, 7]
def JQ (x : Int) : List Int := (BH 2000 x).getD []
def YV (f : List Int → Bool) (n : Nat) : List (Int × Bool) := (Ea n).map fun x => (x, f (JQ x))
theorem SA (n : Nat) : (Ea n).length ≤ 8 := by
 match n with
 | 0 => decide
 | 1 => decide
 | 2 => decide
 | k + 3 => simp [Ea]
theorem Xb {i : Nat} (h : i < 1000000) : wI .u64 ((i : Int) + 1) = ((i + 1 : Nat) : Int) := by
 rw [show (i : Int) + 1 = ((i + 1 : Nat) : Int) from by omega]
 show (((i + 1 : Nat) : Int) % (18446744073709551616 : Int)) = _
 exact Int.emod_eq_of_lt (by omega) (by omega)
theorem Xz {p : Aa} (c : Nat) (hc : DQ .u64 1 (p.fa.length : Int) = (c : Int)) (h8 : c ≤ 8) (j : List Int → Option (List Int × List (Int × Bool) × Int)) : ∀ (n i : Nat) (a : List Int), i ≤ c → c - i < n → a.length = i →
  Fk 2000 p j n (a, (i : Int)) = j (a ++ (zF9 i (c - i)).map fun (k : Nat) => (k : Int))
 | 0, i, _, _, h, _ => by omega
 | n + 1, i, a, hi, h, ha => by
  rw [Fk]
  simp only [hc]
  by_cases h1 : i < c
  ·rw [AC (by omega), Au (by simp only [zB8]; unfold C2; omega), Xb (by omega), Xz c hc h8 j n (i + 1) _ (by omega) (by omega) (by simp [ha]),
    show c - i = (c - (i + 1)) + 1 from by omega, List.range'_succ]
   simp
  ·rw [Ay (by omega), show c - i = 0 from by omega]
   simp
theorem YQ {n : Nat} (hn : n ≤ 3) : ∀ x, x ∈ Ea n → BH 2000 x = some (JQ x) ∧ JQ x ∈ Cs n := by
 have h0 : BH 2000 0 = some [] := by kernel_rfl
 have h1 : BH 2000 1 = some [0] := by kernel_rfl
 have h2 : BH 2000 2 = some [1] := by kernel_rfl
 have h3 : BH 2000 3 = some [0, 1] := by kernel_rfl
 have h4 : BH 2000 4 = some [2] := by kernel_rfl
 have h5 : BH 2000 5 = some [0, 2] := by kernel_rfl
 have h6 : BH 2000 6 = some [1, 2] := by kernel_rfl
 have h7 : BH 2000 7 = some [0, 1, 2] := by kernel_rfl
 intro x hx
 match n, hn with
 | 0, _ => simp only [Ea, zB6, zI8, or_false] at hx; subst hx; unfold JQ; rw [h0]; simp [Cs]
 | 1, _ => simp only [Ea, zB6, zI8, or_false] at hx; unfold JQ; rcases hx with rfl | rfl <;> simp only [h0, h1] <;> simp [Cs]
 | 2, _ => simp only [Ea, zB6, zI8, or_false] at hx; unfold JQ; rcases hx with rfl | rfl | rfl | rfl <;> simp only [h0, h1, h2, h3] <;> simp [Cs]
 | 3, _ => simp only [Ea, zB6, zI8, or_false] at hx; unfold JQ; rcases hx with rfl | rfl | rfl | rfl | rfl | rfl | rfl | rfl <;> simp only [h0, h1, h2, h3, h4, h5, h6, h7] <;> simp [Cs]
 | n + 4, hn => omega
theorem af {p : Aa} (h : NY p) {s : List Int} (hs : s ∈ Cs p.fa.length) : Fs 2000 p s = some (IW p s, 0) := by
 obtain ⟨g1, g2⟩ := OV h.n hs
 have e1 := TO (N := 2000) (by omega) (by omega) h.v (l := s) (by omega) (Vx h)
 have e : Yc p s = (IW p s, 0) := by unfold Yc; rw [if_pos g1]
 rw [e] at e1
 exact e1
theorem Sz {x : Int} {b : Bool} : ∀ {m : List (Int × Bool)}, (∀ q, q ∈ m → q.1 ≠ x) → LB x b m = m ++ [(x, b)]
 | [], _ => rfl
 | q :: m, h => by
  have : (x == q.1) = false := beq_eq_false_iff_ne.2 fun e => h q (by simp) e.symm
  rw [LB, this, if_neg (by decide), Sz fun r hr => h r (by simp [hr])]; rfl
theorem Uy {p : Aa} (h : NY p) (hd : (Ea p.fa.length).Nodup) (j : List (Int × Bool) → Option (List Int × List (Int × Bool) × Int)) : ∀ (n i : Nat) (m : List (Int × Bool)), i ≤ (Ea p.fa.length).length → (Ea p.fa.length).length - i < n → m = ((Ea p.fa.length).take i).map (fun x => (x, IW p (JQ x))) →
  Ez 2000 p (Ea p.fa.length) j n (m, (i : Int)) = j (YV (IW p) p.fa.length)
 | 0, i, _, _, h, _ => by omega
 | n + 1, i, m, hi, hn, hm => by
  have h8 := SA p.fa.length
  rw [Ez]
  by_cases h1 : i < (Ea p.fa.length).length
  ·have hx : (Ea p.fa.length)[i]? = some (Ea p.fa.length)[i] := by simp [h1]
   obtain ⟨k1, k2⟩ := YQ h.n _ (zE9 h1)
   rw [AC (by simp only; omega)]
   simp only [AV, hx, oS]
   unfold H7
   rw [k1]
   simp only [oS]
   rw [af h k2]
   simp only [oS, bne_self_eq_false, Ao]
   have hnew : ∀ q, q ∈ m → q.1 ≠ (Ea p.fa.length)[i] := by
    intro q hq e
    rw [hm] at hq
    obtain ⟨x, hxm, rfl⟩ := zB5.1 hq
    obtain ⟨k, hk, e2⟩ := List.mem_take_iff_getElem.1 hxm
    have e : x = (Ea p.fa.length)[i] := e
    rw [← e2] at e
    have := (List.getElem_inj hd).1 e
    omega
   rw [AE (by omega), Sz hnew]
   refine Uy h hd j n (i + 1) _ (by omega) (by omega) ?_
   rw [hm, List.take_succ_eq_append_getElem h1, zF0]
   rfl
  ·rw [Ay (by simp only; omega)]
   simp only
   rw [hm, List.take_of_length_le (by omega)]; rfl
theorem YO (n : Nat) : (Ea n).Nodup := by
 match n with
 | 0 => decide
 | 1 => decide
 | 2 => decide
 | k + 3 => show ([0, 1, 2, 4, 3, 5, 6, 7] : List Int).Nodup; decide
theorem W6 {n : Nat} (hn : n ≤ 3) : Bu 2000 (aI n) (fun x => Du 2000 x.1 x.2) = some (Ea n) := by
 match n, hn with
 | 0, _ => show Bu 2000 (aI 0) (fun x => Du 2000 x.1 x.2) = some (Ea 0); kernel_rfl
 | 1, _ => show Bu 2000 (aI 1) (fun x => Du 2000 x.1 x.2) = some (Ea 1); kernel_rfl
 | 2, _ => show Bu 2000 (aI 2) (fun x => Du 2000 x.1 x.2) = some (Ea 2); kernel_rfl
 | 3, _ => show Bu 2000 (aI 3) (fun x => Du 2000 x.1 x.2) = some (Ea 3); kernel_rfl
 | n + 4, hn => omega
theorem bB {n : Nat} (hn : n ≤ 3) : ∃ c : Nat, c ≤ 8 ∧ DQ .u64 1 (n : Int) = (c : Int) ∧ (zF9 0 c).map (fun (k : Nat) => (k : Int)) = aI n := by
 match n, hn with
 | 0, _ => exact ⟨1, by omega, by decide, rfl⟩
 | 1, _ => exact ⟨2, by omega, by decide, rfl⟩
 | 2, _ => exact ⟨4, by omega, by decide, rfl⟩
 | 3, _ => exact ⟨8, by omega, by decide, rfl⟩
 | n + 4, hn => omega
theorem XH {p : Aa} (h : NY p) : GF 2000 p = some (Ea p.fa.length, YV (IW p) p.fa.length, 0) := by
 unfold GF
 rw [Ii 2000 p (by omega) (by omega)]
 simp only [oS, h.v, bne_self_eq_false, Ao]
 rw [Au (by omega)]
 obtain ⟨c, h8, hc, hu⟩ := bB h.n
 have e := Xz c hc h8 (fun v5 => (Bu 2000 v5 fun x => Du 2000 x.1 x.2).bind fun v8 => Ez 2000 p v8 (fun v10 => some (v8, v10, 0)) 2000 ([], 0)) 2000 0 [] (zA9 _) (by omega) rfl
 refine Eq.trans e ?_
 simp only [Nat.sub_zero, hu, zG5]
 rw [W6 h.n, oS]
 exact Uy h (YO _) (fun v10 => some (Ea p.fa.length, v10, 0)) 2000 0 [] (zA9 _) (by have := SA p.fa.length; omega) rfl
def Xx (sets : List Int) (fnd : List (Int × Bool)) : Option (List (List Int)) := (Gw 2000 sets fnd).bind fun v3 => GD 2000 v3
def Xi (sets : List Int) (fnd : List (Int × Bool)) : Option (List (List Int)) :=
 (Dz 2000 sets).bind fun v3 => (CK 2000 v3 (fun x => Ft 2000 x fnd sets)).bind fun v4 => (DH (v4.1 ≤ v4.2.length)).bind fun _ => GD 2000 (v4.2.take v4.1)
def Zg (a f : List (List Int)) : Option Bool := BX 2000 (a, 0) (f, 0) (fun _ => BW 2000 (f, 0) (fun _ => some true) 2000 0) 2000 0
def VR (n : Nat) (bs : List Bool) : Bool := ((Cs n).zip bs).all fun q => ((Cs n).zip bs).all fun r => !(q.2 && q.1.all fun s => r.1.contains s) || r.2
def Vb (n : Nat) (bs : List Bool) : Bool := if (VR n bs && !bs.headD true) = true then
  (match Xx (Ea n) ((Ea n).zip bs), Xi (Ea n) ((Ea n).zip bs) with
  | some a, some f => decide (f.length ≠ 0) && decide (Zg a f = some true)
  | _, _ => false) else true
def KK : Nat → List (List Bool)
 | 0 => [[]]
 | k + 1 => (KK k).map (true :: ·) ++ (KK k).map (false :: ·)
theorem JD : ∀ (k : Nat) (bs : List Bool), bs.length = k → bs ∈ KK k
 | 0, bs, h => by rw [zD2 h]; simp [KK]
 | k + 1, b :: bs, h => by
  have := JD k bs (by simpa using h)
  rw [KK, zC2]
  cases b
  ·exact .inr (zB5.2 ⟨bs, this, rfl⟩)
  ·exact .inl (zB5.2 ⟨bs, this, rfl⟩)
 | k + 1, [], h => by simp at h
theorem cZ : (KK 1).all (Vb 0) = true := by kernel_rfl
theorem cW : (KK 2).all (Vb 1) = true := by kernel_rfl
theorem aV : (KK 4).all (Vb 2) = true := by kernel_rfl
theorem cd : (KK 8).all (Vb 3) = true := by kernel_rfl
theorem Wx {n : Nat} (hn : n ≤ 3) {bs : List Bool} (h : bs.length = (Cs n).length) : Vb n bs = true := by
 match n, hn with
 | 0, _ => exact zA2.1 cZ bs (JD 1 bs h)
 | 1, _ => exact zA2.1 cW bs (JD 2 bs h)
 | 2, _ => exact zA2.1 aV bs (JD 4 bs h)
 | 3, _ => exact zA2.1 cd bs (JD 8 bs h)
 | n + 4, hn => omega
theorem VU (f : List Int → Bool) {n : Nat} (hn : n ≤ 3) : YV f n = (Ea n).zip ((Cs n).map f) := by
 have key : ∀ n, n ≤ 3 → (Ea n).map JQ = Cs n := by
  intro n hn
  match n, hn with
  | 0, _ => show (Ea 0).map JQ = Cs 0; kernel_rfl
  | 1, _ => show (Ea 1).map JQ = Cs 1; kernel_rfl
  | 2, _ => show (Ea 2).map JQ = Cs 2; kernel_rfl
  | 3, _ => show (Ea 3).map JQ = Cs 3; kernel_rfl
  | n + 4, hn => omega
 unfold YV
 rw [← key n hn, List.map_map]
 have : ∀ l : List Int, (l.map fun x => (x, f (JQ x))) = l.zip (l.map (f ∘ JQ)) := by
  intro l
  induction l with
  | nil => rfl
  | cons x l ih => simp [ih]
 exact this _
theorem X7 {p : Aa} (hv : BG p = 0) : TR (ED p []) := by
 have hvr := Iw (l := []) hv rfl rfl
 have ht : (ED p []).fc = [] := by
  show Bz (fun _ t => Hm [] t) 0 p.fc = []
  rw [Hr]
  intro j t _
  unfold Hm
  rw [if_neg]
  intro h
  have : Fl [] t.ff = -1 := rfl
  omega
 have hs := LD hvr
 refine ⟨OL.2 fun x _ => ?_, [], ?_⟩
 ·unfold Ee; rw [ht]; rfl
 ·show H6 (ED p []) (Fg (ED p [])) = true
  unfold H6
  rw [IK hvr hs]; rfl
theorem VY {p : Aa} (h : NY p) {s t : List Int} (hs : s ∈ Cs p.fa.length) (ht : t ∈ Cs p.fa.length) (hst : ∀ x, x ∈ s → x ∈ t) (hb : IW p s = true) : IW p t = true := by
 obtain ⟨g1, _⟩ := OV h.n hs
 obtain ⟨g2, _⟩ := OV h.n ht
 obtain ⟨a1, a2, _⟩ := LV g1
 obtain ⟨b1, b2, _⟩ := LV g2
 rw [Q6 h.v g1 (h.l s hs)] at hb
 rw [Q6 h.v g2 (h.l t ht)]
 exact fun hh => hb (Vo h.v ⟨g1, a1, a2⟩ ⟨b1, b2⟩ hst hh)
theorem ME (d : BF) (wd : FL d) : C8 2000 d = some true := by
 obtain ⟨p, b, e, hb⟩ := Wp d wd
 unfold C8
 rw [e, RA]
 cases b
 ·rfl
 ·have h := hb rfl
  have ht := XH h
  rw [VU (IW p) h.n] at ht
  have hc := Wx h.n (bs := (Cs p.fa.length).map (IW p)) (by simp)
  have hz : (Cs p.fa.length).zip ((Cs p.fa.length).map (IW p)) = (Cs p.fa.length).map fun s => (s, IW p s) := by
   generalize Cs p.fa.length = L
   induction L with
   | nil => rfl
   | cons x l ih => simp [ih]
  have hmono : VR p.fa.length ((Cs p.fa.length).map (IW p)) = true := by
   unfold VR
   rw [hz, zA2]
   intro q hq
   obtain ⟨s, hs, rfl⟩ := zB5.1 hq
   rw [zA2]
   intro r hr
   obtain ⟨t, htm, rfl⟩ := zB5.1 hr
   by_cases hcond : (IW p s && s.all fun x => t.contains x) = true
   ·show (!(IW p s && s.all fun x => t.contains x) || IW p t) = true
    rw [zA5, zA2] at hcond
    rw [VY h hs htm (fun x hx => by simpa using hcond.2 x hx) hcond.1, Bool.or_true]
   ·show (!(IW p s && s.all fun x => t.contains x) || IW p t) = true
    rw [Bool.not_eq_true _ |>.mp hcond]; rfl
  have hhead : ((Cs p.fa.length).map (IW p)).headD true = false := by
   have h0 : ∃ r, Cs p.fa.length = [] :: r := by
    match p.fa.length with
    | 0 => exact ⟨_, rfl⟩
    | 1 => exact ⟨_, rfl⟩
    | 2 => exact ⟨_, rfl⟩
    | k + 3 => exact ⟨_, rfl⟩
   obtain ⟨r, hr⟩ := h0
   rw [hr]
   show IW p [] = false
   have hm : ([] : List Int) ∈ Cs p.fa.length := by rw [hr]; simp
   obtain ⟨g1, _⟩ := OV h.n hm
   cases hbb : IW p []
   ·rfl
   ·exact absurd (X7 h.v) ((Q6 h.v g1 (h.l [] hm)).1 hbb)
  unfold Vb at hc
  rw [hmono, hhead] at hc
  simp only [zE6, Bool.and_true, if_true] at hc
  generalize (Ea p.fa.length).zip ((Cs p.fa.length).map (IW p)) = fm at ht hc
  split at hc
  ·rename_i a f e1 e2
   rw [zA5, decide_eq_true_eq, decide_eq_true_eq] at hc
   have ca : GV 2000 p = some (a, 0) := by
    unfold GV
    rw [ht, oS, show ((0 : Int) != 0) = false from rfl, Ao]
    unfold Xx at e1
    cases hm : Gw 2000 (Ea p.fa.length) fm with
    | none => rw [hm] at e1; cases e1
    | some v3 => rw [hm, oS] at e1; rw [oS, e1]; rfl
   have cf : Gn 2000 p = some (f, 0) := by
    unfold Gn
    rw [ht, oS, show ((0 : Int) != 0) = false from rfl, Ao]
    unfold Xi at e2
    cases hm : Dz 2000 (Ea p.fa.length) with
    | none => rw [hm] at e2; cases e2
    | some v3 =>
     rw [hm, oS] at e2
     rw [oS]
     cases hd : CK 2000 v3 (fun x => Ft 2000 x fm (Ea p.fa.length)) with
     | none => rw [hd] at e2; cases e2
     | some v4 =>
      rw [hd, oS] at e2
      rw [oS]
      cases hk : DH (v4.1 ≤ v4.2.length) with
      | none => rw [hk] at e2; cases e2
      | some u =>
       rw [hk, oS] at e2
       rw [oS, e2]; rfl
   show ((GV 2000 p).bind fun v7 => (Gn 2000 p).bind fun v8 => Bd (fun (v9 : Bool) => AR v9 (some false) (BX 2000 v7 v8 (fun _ => BW 2000 v8 (fun _ => some true) 2000 0) 2000 0)) fun j9 => AR (v7.2 != 0) (j9 true) (AR (v8.2 != 0) (j9 true) (j9 ((v8.1.length : Int) == 0)))) = some true
   rw [ca, cf]
   show AR ((f.length : Int) == 0) (some false) (Zg a f) = some true
   rw [beq_eq_false_iff_ne.2 (by omega), Ao]
   exact hc.2
  ·cases hc
end Go.Lift
