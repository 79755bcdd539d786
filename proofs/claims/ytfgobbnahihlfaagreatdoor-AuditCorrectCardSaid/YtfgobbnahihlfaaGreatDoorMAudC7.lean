/- Lemmas for AuditCorrectCardSaid, which YtfgobbnahihlfaaGreatDoorFinA6 proves. -/
import Derived.Test.YtfgobbnahihlfaaGreatDoorMAud11
import Derived.KernelRfl
open Bool renaming and_eq_true → zC, false_and → zB5, not_false → yX, not_true → zK, or_eq_true → yS, true_and → yA
open Int renaming eq_ofNat_of_zero_le → zF, le_refl → yK, natCast_nonneg → xK, natCast_succ → zB7, tdiv → y5, tmod → zJ, toNat_natCast → zN, toNat_of_nonneg → xF
open List renaming any_eq_false → zC2, any_eq_true → yE, append_assoc → xG, append_nil → yU, cons_append → uA, drop_eq_nil_of_le → zW, drop_zero → zY, getElem?_append_left → yC, getElem?_eq_getElem → zQ, getElem_mem → yN, length_append → zZ, length_cons → zX, length_map → zU, length_nil → xW, map_nil → zB4, mem_append → yI, mem_cons → yL, mem_cons_of_mem → yM, mem_cons_self → xO, mem_singleton → yF, nil_append → xY, singleton_append → xZ
open Nat renaming le_refl → yD, le_trans → xI, zero_add → zI, zero_le → zL
open Option renaming bind → zB9
namespace Go.Lift
open Option renaming bind_some → oS
open Go
def YX (l : List Ae) : Bool := l.any fun s => s.gD == 4
def MH (p : Aa) (l : List Ae) : Int := if Bj p ≠ 0 then Bj p else if YX l = true then 1 else (Jv p 0 (A0 p) [A0 p] l).2.2
def Sn (rs : List Int) : Bool := rs.any fun v => decide (v < 1) || decide (4 < v)
def Kv (p : Aa) (rs : List Int) : Int := if rs.length ≠ p.gH.length then 6 else if Sn rs = true then 7 else 0
def PX (p : Aa) (rs : List Int) (l : List Ae) (t : List Ad) : Int := if Bj p ≠ 0 then Bj p else if Kv p rs ≠ 0 then Kv p rs else if MH p l ≠ 0 then MH p l else WO t
theorem QY (N : Nat) (a : List Ae) (f : Ae → Option Bool) (g : Ae → Bool) (hN : N ≤ 1000000) (h : a.length < N) (hf : ∀ x, x ∈ a → f x = some (g x)) : BM N a f = some (a.any g) := by
 unfold BM
 rw [U1 N hN a f g h hf]
 simp only [oS]
 have key : ∀ (b : List Ae) (i : Nat), decide (0 ≤ (DS (fun i x => if g x = true then some (i : Int) else none) i b).getD (-1)) = b.any g := by
  intro b
  induction b with
  | nil => intro i; rfl
  | cons x b ih =>
   intro i
   rw [DS, List.any_cons]
   cases hg : g x
   ·rw [if_neg (by simp)]
    exact ih (i + 1)
   ·rw [if_pos rfl]
    simp
 rw [key]
theorem UE {N : Nat} (hN : N ≤ 1000000) (p : Aa) (rs : List Int) (hl : rs.length < N) : F9 N p rs = some (Kv p rs) := by
 unfold F9 Kv
 by_cases h : rs.length = p.gH.length
 ·rw [bne_eq_false_iff_eq.2 (by omega), Af, if_neg (by omega)]
  rw [S1 N rs (fun x => Fu N x) (fun v => decide (v < 1) || decide (4 < v)) hN hl (fun x _ => by
   show AL (decide (x < 1)) (some true) (some (decide (4 < x))) = _
   cases decide (x < 1) <;> rfl)]
  simp only [oS]
  show AL (Sn rs) _ _ = _
  cases Sn rs <;> rfl
 ·rw [bne_iff_ne.2 (by omega), Ap, if_pos h]
theorem NE (N : Nat) (rs : List Int) (hl : rs.length ≤ 1000) (J : Unit → Option Int) : ∀ (n i : Nat), rs.length - i < n → i ≤ rs.length →
  C4 N rs J n (i : Int) = if Sn (rs.drop i) = true then some 7 else J ()
 | 0, _, h, _ => by omega
 | n + 1, i, h, hi => by
  rw [C4]
  by_cases h1 : i < rs.length
  ·have hx : rs[i]? = some rs[i] := by simp [h1]
   rw [AK (by omega), D7 hx]
   unfold Sn
   rw [List.any_cons]
   simp only [A1, hx, oS, A2]
   rw [AR (by omega), NE N rs hl J n (i + 1) (by omega) (by omega)]
   unfold Sn
   cases decide (rs[i] < 1)
   ·rw [Af]
    cases decide (4 < rs[i])
    ·rw [Af]; rfl
    ·rw [Ap]; rfl
   ·rw [Ap, Ap]; rfl
  ·rw [AB (by omega), zW (by omega)]; rfl
theorem M3 {N : Nat} (hN : N ≤ 1000000) (h20 : 100 ≤ N) (p : Aa) (rs : List Int) (hl : rs.length ≤ 1000) (hl2 : rs.length < N) : C7 N p rs = some (if Bj p ≠ 0 then Bj p else Kv p rs) := by
 unfold C7 Kv
 rw [JE N p hN (by omega)]
 simp only [oS]
 by_cases hv : Bj p = 0
 ·rw [hv, bne_self_eq_false, Af, if_neg (by simp)]
  by_cases h : rs.length = p.gH.length
  ·rw [bne_eq_false_iff_eq.2 (by omega), Af, if_neg (by omega)]
   have e := NE N rs hl (fun _ => some 0) N 0 (by omega) (zL _)
   refine Eq.trans e ?_
   rw [zY]
   cases Sn rs <;> rfl
  ·rw [bne_iff_ne.2 (by omega), Ap, if_pos h]
 ·rw [bne_iff_ne.2 hv, Ap, if_pos hv]
theorem Vv (N : Nat) (hN : N ≤ 1000000) (h20 : 1010 ≤ N) {p : Aa} {m : Ab} (hv : Bj p = 0) (hm : B6 p m) (l : List Ae) (hl : l.length ≤ 1000) :
  IQ N p m l = some (Jv p 0 m [m] l) ∧ Fx N p m l = some (Jv p 0 m [m] l) := by
 obtain ⟨hp, _⟩ := BD hv
 constructor
 ·unfold IQ
  rw [N3 N p m hN (by omega) (J4 hm), G5 hv hm]
  simp only [oS, bne_self_eq_false, Af]
  rw [RE N hp hm]
  exact Uf N hN (by omega) hv l hl N 0 m [m] (zL _) (by omega) hm rfl rfl
 ·unfold Fx
  rw [Gp N p m hN (by omega), G5 hv hm]
  simp only [oS, bne_self_eq_false, Af]
  exact RH N hN (by omega) hv l hl N 0 m [m] (zL _) (by omega) hm rfl rfl
theorem K3 {N : Nat} (hN : N ≤ 1000000) (h20 : 1010 ≤ N) {p : Aa} (hv : Bj p = 0) (l : List Ae) (hl : l.length ≤ 1000) : EN N p l = some (if YX l = true then Gg else A0 p, MH p l) := by
 unfold EN MH
 rw [QY N l (fun x => E3 N x) (fun s => s.gD == 4) hN (by omega) (fun x _ => rfl)]
 simp only [oS]
 show AL (YX l) _ _ = _
 cases ha : YX l
 ·rw [Af, Su N p hN (by omega), if_pos hv, hv]
  simp only [oS, bne_self_eq_false, Af]
  rw [(Vv N hN h20 hv (JU hv) l hl).1]
  rfl
 ·rw [hv]; rfl
theorem PK {p : Aa} {l : List Ae} (hv : Bj p = 0) (h : MH p l = 0) : Gb p (A0 p) l ∧ YX l = false := by
 obtain ⟨hp, _⟩ := BD hv
 unfold MH at h
 rw [if_neg (by simp [hv])] at h
 cases ha : YX l
 ·rw [if_neg (by simp [ha])] at h
  refine ⟨RB hp l 0 _ _ (JU hv) h fun s hs e => ?_, rfl⟩
  have : YX l = true := yE.2 ⟨s, hs, beq_iff_eq.2 e⟩
  rw [ha] at this; cases this
 ·rw [if_pos ha] at h; cases h
def cT (rs : List Int) (m : Ab) (x : Ad) : Bool := decide (Jr rs x.gO 0 < 0) || !IX m (Jr rs x.gO 0).toNat x.gV
def Lh (p : Aa) (rs : List Int) (m : Ab) (right bad : Bool) (x : Ad) : Int :=
 if (x.gD == 1 && !Px p x) = true then 1 else if right = false then 2 else if bad = true then 3
 else if x.gD = 6 then (if cT rs m x = true then 4 else 0)
 else if x.gD = 1 then (if LN p m x = true then 0 else 5) else 0
structure NW (p : Aa) (rs : List Int) : Prop where
 v : Bj p = 0
 n : rs.length = p.gH.length
 w : ∀ v, v ∈ rs → 1 ≤ v ∧ v ≤ 4
theorem bP {p : Aa} {rs : List Int} (hv : Bj p = 0) (h : Kv p rs = 0) : NW p rs := by
 unfold Kv at h
 by_cases h1 : rs.length = p.gH.length
 ·rw [if_neg (by simp [h1])] at h
  cases hb : Sn rs
  ·refine ⟨hv, h1, fun v hm => ?_⟩
   unfold Sn at hb
   have := zC2.1 hb v hm
   simp only [yS, decide_eq_true_eq, not_or] at this
   omega
  ·rw [if_pos hb] at h; cases h
 ·rw [if_pos h1] at h; cases h
theorem J1 {p : Aa} {rs : List Int} (A : NW p rs) : rs.length ≤ 6 := by
 obtain ⟨hp, _⟩ := BD A.v
 have := hp.nv
 have := A.n
 omega
theorem ce {N : Nat} {p : Aa} {rs : List Int} (A : NW p rs) (h20 : 100 ≤ N) {m : Ab} (hm : B6 p m) {x : Ad} (hx : Pp x = true) (hw : x.gO < 9223372036854775808) :
  F8 N rs x.gO = some (Jr rs x.gO 0) ∧ Gu N rs x.gO = some (Jr rs x.gO 0) ∧ (0 ≤ Jr rs x.gO 0 → Dw N m (Jr rs x.gO 0) x.gV = some (IX m (Jr rs x.gO 0).toNat x.gV) ∧ Da N m (Jr rs x.gO 0) x.gV = some (IX m (Jr rs x.gO 0).toNat x.gV)) := by
 obtain ⟨_, _, _, _, _, _, _, _, h0, hv0, _⟩ := ST hx
 have hl := J1 A
 have ho := WP N rs (by omega) (by omega) A.w x.gO h0 hw
 refine ⟨ho.1, ho.2, fun hg => ?_⟩
 rcases VG rs x.gO 0 with q | ⟨s, q1, _, q3⟩
 ·omega
 ·rw [q1]
  have := A.n
  exact JR hm (by omega) hv0
theorem XV {x : Ad} (h : Ke x = true) : x.gD ≠ 6 ∧ x.gD ≠ 1 := by
 unfold Ke at h
 simp only [zC, decide_eq_true_eq] at h
 omega
theorem SO {N : Nat} (hN : N ≤ 1000000) (h20 : 100 ≤ N) {p : Aa} {rs : List Int} (A : NW p rs) {m : Ab} {l : List Ae} (hl : l.length ≤ 1000) (P : Gb p m l) {e : Ml} (h : LL p m l e) {t : List Ad} {k : BI} (hk : eG t k) {x : Ad} (hx : Pp x = true) (hw : x.gO < 9223372036854775808) :
  ∃ f' k', EO N (Om p l e) k rs x = some (Lh p rs e.gB (Gk p l e x).2 (t.any fun b => JV b x) x, f', k', k'.qo) ∧ (Lh p rs e.gB (Gk p l e x).2 (t.any fun b => JV b x) x = 0 → f' = Om p l (Gk p l e x).1 ∧ k' = (ak k x).2) := by
 obtain ⟨hp, _⟩ := BD A.v
 have hm := RY hp P h
 obtain ⟨hs1, _⟩ := SY hk hx
 obtain ⟨s1, _, s3⟩ := ce A h20 hm hx hw
 have hfit : x.gD = 1 → FW N p x = some (Px p x) := fun h1 => (Zm hp hx h1).1
 unfold EO Lh
 simp only [A2]
 rw [(YP N x).1, dK]
 simp only [oS]
 by_cases hb : Ke x = true
 ·obtain ⟨h6, h1⟩ := XV hb
  rw [hb, beq_eq_false_iff_ne.2 h1, beq_eq_false_iff_ne.2 h6]
  simp only [Af, Ap, zB5]
  rw [show Cr N _ x = _ from Rb (N := N) h hb]
  simp only [oS]
  rw [if_neg (by simp)]
  cases hr : (Gk p l e x).2
  ·refine ⟨_, _, rfl, fun q => ?_⟩
   rw [if_pos rfl] at q; cases q
  ·rw [zK, Af, if_neg (by simp), hs1]
   cases ht : t.any fun b => JV b x
   ·rw [yX, zK, Af, if_neg (by simp), if_neg h6, if_neg h1]
    rw [show Ci N _ x = _ from P0 hN h20 A.v hl P h hb hr]
    exact ⟨_, _, rfl, fun _ => ⟨rfl, rfl⟩⟩
   ·refine ⟨_, _, rfl, fun q => ?_⟩
    rw [if_pos rfl] at q; cases q
 ·have hb : Ke x = false := by simpa using hb
  have ha : Gk p l e x = (e, true) := by unfold Gk; rw [if_pos hb]
  rw [ha, hb]
  simp only [Af]
  by_cases h1 : x.gD = 1
  ·rw [beq_iff_eq.2 h1, Ap, show FW N _ x = _ from hfit h1]
   simp only [oS, yA]
   cases hf : Px p x
   ·refine ⟨_, _, rfl, fun q => ?_⟩
    rw [yX, if_pos rfl] at q; cases q
   ·rw [zK, Af, if_neg (by simp), if_neg (by simp), hs1]
    cases ht : t.any fun b => JV b x
    ·rw [yX, zK, Af, if_neg (by simp), beq_eq_false_iff_ne.2 (show x.gD ≠ 6 by omega), Af, if_neg (show x.gD ≠ 6 by omega), if_pos h1, Ap]
     rw [show Fp N _ _ x = _ from Uv (N := N) hp hm hx hf]
     simp only [oS]
     cases LN p e.gB x
     ·refine ⟨_, _, rfl, fun q => ?_⟩
      rw [if_neg (by simp)] at q; cases q
     ·exact ⟨_, _, rfl, fun _ => ⟨rfl, rfl⟩⟩
    ·refine ⟨_, _, rfl, fun q => ?_⟩
     rw [if_pos rfl] at q; cases q
  ·rw [beq_eq_false_iff_ne.2 h1]
   simp only [Af, zB5]
   rw [if_neg (by simp), if_neg (by simp), hs1]
   cases ht : t.any fun b => JV b x
   ·rw [yX, zK, Af, if_neg (by simp)]
    by_cases h6 : x.gD = 6
    ·rw [beq_iff_eq.2 h6, Ap, if_pos h6, s1]
     simp only [oS]
     unfold cT
     by_cases h0 : Jr rs x.gO 0 < 0
     ·rw [decide_eq_true h0]
      refine ⟨_, _, rfl, fun q => ?_⟩
      rw [Bool.true_or, if_pos rfl] at q; cases q
     ·rw [decide_eq_false h0, Af]
      rw [show Dw N _ _ x.gV = _ from (s3 (by omega)).1]
      simp only [oS]
      cases IX e.gB (Jr rs x.gO 0).toNat x.gV
      ·refine ⟨_, _, rfl, fun q => ?_⟩
       cases q
      ·exact ⟨_, _, rfl, fun _ => ⟨rfl, rfl⟩⟩
    ·rw [beq_eq_false_iff_ne.2 h6, Af, if_neg h6, if_neg h1]
     exact ⟨_, _, rfl, fun _ => ⟨rfl, rfl⟩⟩
   ·refine ⟨_, _, rfl, fun q => ?_⟩
    rw [if_pos rfl] at q; cases q
def Lc (p : Aa) : Ml := ⟨0, false, false, A0 p⟩
def Kq (p : Aa) (rs : List Int) (l : List Ae) : List Ad → Ml → List Ad → Option (Int × Int) × Ml
 | _, e, [] => (none, e)
 | bef, e, x :: t => if Lh p rs e.gB (Gk p l e x).2 (bef.any fun b => JV b x) x = 0 then Kq p rs l (bef ++ [x]) (Gk p l e x).1 t else (some ((bef.length : Int), Lh p rs e.gB (Gk p l e x).2 (bef.any fun b => JV b x) x), e)
def O7 (p : Aa) (l : List Ae) : Nat → Ml → List Ad → Ml × Int
 | _, e, [] => (e, -1)
 | i, e, x :: t => if (Gk p l e x).2 = true then O7 p l (i + 1) (Gk p l e x).1 t else (e, (i : Int))
def VX (t : List Ad) : Prop := ∀ x, x ∈ t → Pp x = true ∧ x.gO < 9223372036854775808
theorem L2 {α : Type} {t : List α} {i : Nat} (h : i < t.length) : t.take (i + 1) = t.take i ++ [t[i]] := by simp
theorem PS {N : Nat} (hN : N ≤ 1000000) (h20 : 100 ≤ N) {p : Aa} {rs : List Int} (A : NW p rs) {m : Ab} {l : List Ae} (hl : l.length ≤ 1000) (P : Gb p m l) (t : List Ad) (ht : t.length ≤ 10000) (T : VX t) (J : Ao → Option (Int × Int × (Option Ao) × Int)) : ∀ (n i : Nat) (e : Ml) (k : BI), t.length - i < n → i ≤ t.length → LL p m l e → eG (t.take i) k →
  EJ N rs t J n (Om p l e, k.hM, k.hO, k.qc, k.qo, (i : Int)) = match Kq p rs l (t.take i) e (t.drop i) with | (some r, _) => some (r.1, r.2, none, 0) | (none, e') => J (Om p l e')
 | 0, _, _, _, h, _, _, _ => by omega
 | n + 1, i, e, k, h, hi, he, hk => by
  rw [EJ]
  by_cases h1 : i < t.length
  ·have hx : t[i]? = some t[i] := by simp [h1]
   obtain ⟨t1, t2⟩ := T _ (yN h1)
   rw [AK (by simp only; omega), D7 hx, Kq]
   simp only [A1, hx, oS]
   obtain ⟨f', k', e1, e2⟩ := SO hN h20 A hl P he hk t1 t2
   rw [show EO N _ _ rs t[i] = _ from e1]
   simp only [oS]
   by_cases hz : Lh p rs e.gB (Gk p l e t[i]).2 ((t.take i).any fun b => JV b t[i]) t[i] = 0
   ·obtain ⟨rfl, rfl⟩ := e2 hz
    rw [hz, bne_self_eq_false, Af, if_pos rfl, AR (by omega), ← L2 h1]
    refine PS hN h20 A hl P t ht T J n (i + 1) _ _ (by omega) (by omega) (Sj P he _) ?_
    rw [L2 h1]
    refine (SY hk t1).2 ?_
    rw [(SY hk t1).1]
    cases hb : (t.take i).any fun b => JV b t[i]
    ·rfl
    ·rw [hb] at hz
     unfold Lh at hz
     split at hz
     ·cases hz
     ·split at hz
      ·cases hz
      ·rw [if_pos rfl] at hz; cases hz
   ·rw [bne_iff_ne.2 hz, Ap, if_neg hz]
    simp only [List.length_take, Nat.min_eq_left (Nat.le_of_lt h1)]
  ·rw [AB (by simp only; omega), zW (by omega), Kq]
theorem Ki {N : Nat} (hN : N ≤ 1000000) (h20 : 100 ≤ N) {p : Aa} (hv : Bj p = 0) {m : Ab} {l : List Ae} (hl : l.length ≤ 1000) (P : Gb p m l) (t : List Ad) (ht : t.length ≤ 10000) : ∀ (n i : Nat) (e : Ml), t.length - i < n → i ≤ t.length → LL p m l e →
  D3 N t (fun f => some (some f, -1, 0)) n (Om p l e, (i : Int)) = some (some (Om p l (O7 p l i e (t.drop i)).1), (O7 p l i e (t.drop i)).2, 0)
 | 0, _, _, h, _, _ => by omega
 | n + 1, i, e, h, hi, he => by
  rw [D3]
  by_cases h1 : i < t.length
  ·have hx : t[i]? = some t[i] := by simp [h1]
   rw [AK (by simp only; omega), D7 hx, O7]
   simp only [A1, hx, oS, A2]
   rw [(YP N t[i]).1]
   simp only [oS]
   cases hb : Ke t[i]
   ·have ha : Gk p l e t[i] = (e, true) := by unfold Gk; rw [if_pos hb]
    rw [ha, yX, Ap, if_pos rfl, AR (by omega)]
    exact Ki hN h20 hv hl P t ht n (i + 1) e (by omega) (by omega) he
   ·rw [zK, Af, show Cr N _ t[i] = _ from Rb (N := N) he hb]
    simp only [oS]
    cases hr : (Gk p l e t[i]).2
    ·rfl
    ·rw [zK, Af, if_pos rfl, show Ci N _ t[i] = _ from P0 hN h20 hv hl P he hb hr, AR (by omega)]
     exact Ki hN h20 hv hl P t ht n (i + 1) _ (by omega) (by omega) (Sj P he _)
  ·rw [AB (by simp only; omega), zW (by omega), O7]
def Kk (p : Aa) (rs : List Int) (l : List Ae) (t : List Ad) : Int × Int × Int := if PX p rs l t ≠ 0 then (0, 0, PX p rs l t) else match (Kq p rs l [] (Lc p) t).1 with | some r => (r.1, r.2, 0) | none => (0, 0, 15)
theorem cD {p : Aa} {rs : List Int} {l : List Ae} {t : List Ad} (h : PX p rs l t = 0) : NW p rs ∧ Gb p (A0 p) l ∧ YX l = false ∧ WO t = 0 ∧ Kv p rs = 0 ∧ MH p l = 0 := by
 unfold PX at h
 by_cases hv : Bj p = 0
 ·rw [if_neg (by simp [hv])] at h
  by_cases h1 : Kv p rs = 0
  ·rw [if_neg (by simp [h1])] at h
   by_cases h2 : MH p l = 0
   ·rw [if_neg (by simp [h2])] at h
    obtain ⟨a, b⟩ := PK hv h2
    exact ⟨bP hv h1, a, b, h, h1, h2⟩
   ·rw [if_pos h2] at h; exact absurd h h2
  ·rw [if_pos h1] at h; exact absurd h h1
 ·rw [if_pos hv] at h; exact absurd h hv
theorem XE {N : Nat} (hN : N ≤ 1000000) (h20 : 10001 ≤ N) (p : Aa) (rs : List Int) (hr : rs.length ≤ 1000) (l : List Ae) (hl : l.length ≤ 1000) (t : List Ad) (T : WO t = 0 → VX t ∧ t.length ≤ 10000) :
  ∃ fo, GV N p rs l t = some ((Kk p rs l t).1, (Kk p rs l t).2.1, fo, (Kk p rs l t).2.2) ∧ (PX p rs l t = 0 → (Kq p rs l [] (Lc p) t).1 = none → fo = some (Om p l (Kq p rs l [] (Lc p) t).2)) := by
 unfold GV
 rw [Jm N p hN (by omega), UE hN p rs (by omega), Mf N h20 t]
 simp only [oS, A2]
 by_cases he : PX p rs l t = 0
 ·obtain ⟨A, P, ha, ht, hs, h2⟩ := cD he
  obtain ⟨T1, T2⟩ := T ht
  rw [A.v, bne_self_eq_false, Af, hs, bne_self_eq_false, Af, K3 hN (by omega) A.v l hl, h2, ha, ht]
  simp only [oS]
  rw [beq_self_eq_true, Ap, bne_self_eq_false, Af, show Gq N = some ⟨0, 0, false, []⟩ from rfl]
  simp only [oS]
  have e := PS hN (by omega) A hl P t T2 T1 (fun (v12 : Ao) => some (0, 0, some ((Ao.mk ((Aa.mk v12.gK.gH v12.gK.gR v12.gK.gU v12.gK.gJ)) v12.gZ v12.gE v12.gQ ((Ab.mk v12.gB.gI v12.gB.gF v12.gB.gG)))), 15)) N 0 (Lc p) ⟨0, 0, false, []⟩ (by omega) (zL _) (Qq p _ l) Xu
  rw [zY, List.take_zero] at e
  have hf : Kk p rs l t = match (Kq p rs l [] (Lc p) t).1 with | some r => (r.1, r.2, 0) | none => (0, 0, 15) := by
   unfold Kk; rw [if_neg (by simp [he])]
  rw [hf]
  generalize hg : Kq p rs l [] (Lc p) t = g at e
  obtain ⟨o, e'⟩ := g
  cases o with
  | some r =>
   exact ⟨_, Eq.trans e rfl, fun _ q => (by cases q)⟩
  | none =>
   exact ⟨_, Eq.trans e rfl, fun _ _ => rfl⟩
 ·have hf : Kk p rs l t = (0, 0, PX p rs l t) := by unfold Kk; rw [if_pos he]
  rw [hf]
  refine ⟨none, ?_, fun q => absurd q he⟩
  unfold PX at he ⊢
  by_cases hv : Bj p = 0
  ·rw [if_neg (show ¬ Bj p ≠ 0 by simp [hv])] at he ⊢
   rw [hv, bne_self_eq_false, Af, K3 hN (by omega) hv l hl]
   simp only [oS]
   by_cases h1 : Kv p rs = 0
   ·rw [if_neg (show ¬ Kv p rs ≠ 0 by simp [h1])] at he ⊢
    rw [h1, bne_self_eq_false, Af]
    by_cases h2 : MH p l = 0
    ·rw [if_neg (show ¬ MH p l ≠ 0 by simp [h2])] at he ⊢
     rw [h2, beq_self_eq_true, Ap, bne_iff_ne.2 he, Ap]
    ·rw [if_pos h2, beq_eq_false_iff_ne.2 h2, Af, bne_iff_ne.2 h2, Ap]
   ·rw [if_pos h1, bne_iff_ne.2 h1, Ap]
  ·rw [if_pos hv, bne_iff_ne.2 hv, Ap]
theorem WG {N : Nat} (hN : N ≤ 1000000) (h20 : 10001 ≤ N) (p : Aa) (rs : List Int) (hr : rs.length ≤ 1000) (l : List Ae) (hl : l.length ≤ 1000) (t : List Ad) (T : WO t = 0 → VX t ∧ t.length ≤ 10000) : Ft N p rs l t = some (Kk p rs l t) := by
 obtain ⟨fo, e, _⟩ := XE hN h20 p rs hr l hl t T
 unfold Ft
 rw [e]; rfl
theorem Sp : EU 20000 = some true := by kernel_rfl
def Km (p : Aa) (l : List Ae) (t : List Ad) : Int := if Bj p ≠ 0 then Bj p else if MH p l ≠ 0 then MH p l else WO t
theorem Up {N : Nat} (hN : N ≤ 1000000) (h20 : 10001 ≤ N) (p : Aa) (l : List Ae) (hl : l.length ≤ 1000) (t : List Ad) : FT N p l t = some (if Km p l t ≠ 0 then (none, 0, Km p l t) else (some (Om p l (O7 p l 0 (Lc p) t).1), (O7 p l 0 (Lc p) t).2, 0)) := by
 unfold FT
 rw [Jm N p hN (by omega), Mf N h20 t]
 simp only [oS, A2]
 unfold Km
 by_cases hv : Bj p = 0
 ·rw [if_neg (show ¬ Bj p ≠ 0 by simp [hv]), hv, bne_self_eq_false, Af, K3 hN (by omega) hv l hl]
  simp only [oS]
  by_cases h2 : MH p l = 0
  ·rw [if_neg (show ¬ MH p l ≠ 0 by simp [h2]), h2, beq_self_eq_true, Ap]
   obtain ⟨P, ha⟩ := PK hv h2
   by_cases ht : WO t = 0
   ·rw [if_neg (show ¬ WO t ≠ 0 by simp [ht]), ht, bne_self_eq_false, Af, ha]
    have hT : t.length ≤ 10000 := by
     unfold WO at ht
     split at ht
     ·cases ht
     ·omega
    have e := Ki hN (by omega) hv hl P t hT N 0 (Lc p) (by omega) (zL _) (Qq p _ l)
    rw [zY] at e
    exact Eq.trans e rfl
   ·rw [if_pos ht, bne_iff_ne.2 ht, Ap]
  ·rw [if_pos h2, if_pos h2, beq_eq_false_iff_ne.2 h2, Af, bne_iff_ne.2 h2, Ap]
 ·rw [if_pos hv, if_pos hv, bne_iff_ne.2 hv, Ap]
def Vw (p : Aa) (l : List Ae) (t : List Ad) : Ab × Int := if Km p l t ≠ 0 then (Gg, Km p l t) else if 0 ≤ (O7 p l 0 (Lc p) t).2 then (Gg, 11) else ((O7 p l 0 (Lc p) t).1.gB, 0)
theorem ZV {N : Nat} (hN : N ≤ 1000000) (h20 : 10001 ≤ N) (p : Aa) (l : List Ae) (hl : l.length ≤ 1000) (t : List Ad) : G9 N p l t = some (Vw p l t) := by
 unfold G9 Vw
 rw [Up hN h20 p l hl t]
 simp only [oS]
 by_cases h : Km p l t = 0
 ·rw [if_neg (show ¬ Km p l t ≠ 0 by simp [h]), if_neg (show ¬ Km p l t ≠ 0 by simp [h])]
  by_cases h0 : 0 ≤ (O7 p l 0 (Lc p) t).2
  ·rw [if_pos h0, bne_self_eq_false, Af, AK h0]; rfl
  ·rw [if_neg h0, bne_self_eq_false, Af, AB h0]; rfl
 ·rw [if_pos h, if_pos h, bne_iff_ne.2 h, Ap]; rfl
theorem TC : ∀ {p : Aa} {rs : List Int} {l : List Ae} (t : List Ad) (bef : List Ad) (e : Ml) (i : Nat), (Kq p rs l bef e t).1 = none → O7 p l i e t = ((Kq p rs l bef e t).2, -1)
 | _, _, _, [], _, _, _, _ => rfl
 | p, rs, l, x :: t, bef, e, i, h => by
  rw [Kq] at h ⊢
  rw [O7]
  by_cases hz : Lh p rs e.gB (Gk p l e x).2 (bef.any fun b => JV b x) x = 0
  ·rw [if_pos hz] at h ⊢
   have hr : (Gk p l e x).2 = true := by
    unfold Lh at hz
    split at hz
    ·cases hz
    ·split at hz
     ·cases hz
     ·rename_i q; simpa using q
   rw [if_pos hr]
   exact TC t _ _ _ h
  ·rw [if_neg hz] at h; cases h
end Go.Lift
namespace Go.Lift
open IntKind renaming wrap → wI
open Option renaming bind_some → oS
open List renaming mem_of_getElem? → lM
open List renaming getElem?_eq_some_iff → lI
open List renaming getD_eq_getElem?_getD → lD
open Go
structure QI (p : Aa) (rs : List Int) (l : List Ae) (out : List Ad) (e : Ml) (tok rnd a : Int) : Prop where
 fir : Kq p rs l [] (Lc p) out = (none, e)
 ok : Un none out = true
 ats : ∀ b, b ∈ out → b.gE ≤ a
 wf : VX out
 tk : ∀ b, b ∈ out → Ke b = true ∨ b.gD = 7 → b.gN ≤ tok
 rd : ∀ b, b ∈ out → b.gD = 6 → b.gP ≤ rnd
theorem QI.le {p : Aa} {rs : List Int} {l : List Ae} {out : List Ad} {e : Ml} {tok rnd a tok' rnd' a' : Int} (h : QI p rs l out e tok rnd a) (h1 : tok ≤ tok') (h2 : rnd ≤ rnd') (h3 : a ≤ a') : QI p rs l out e tok' rnd' a' :=
 ⟨h.fir, h.ok, fun b hb => by have := h.ats b hb; omega, h.wf, fun b hb hk => by have := h.tk b hb hk; omega, fun b hb hk => by have := h.rd b hb hk; omega⟩
theorem Va (p : Aa) (rs : List Int) (l : List Ae) (x : Ad) : ∀ (a bef : List Ad) (e e' : Ml), Kq p rs l bef e a = (none, e') → Lh p rs e'.gB (Gk p l e' x).2 ((bef ++ a).any fun b => JV b x) x = 0 → Kq p rs l bef e (a ++ [x]) = (none, (Gk p l e' x).1)
 | [], bef, e, e', h, hz => by
  rw [Kq] at h
  cases h
  rw [yU] at hz
  rw [xY, Kq, if_pos hz, Kq]
 | y :: a, bef, e, e', h, hz => by
  rw [Kq] at h
  rw [uA, Kq]
  split at h
  ·rename_i q
   rw [if_pos q]
   exact Va p rs l x a _ _ _ h (by rw [xG]; exact hz)
  ·cases h
theorem SG (x : Ad) (hx : Pp x = true) : ∀ (o : Option Int) (a : List Ad), Un o a = true → (∀ b, b ∈ a → b.gE ≤ x.gE) → (∀ v, o = some v → v ≤ x.gE) → Un o (a ++ [x]) = true
 | none, [], _, _, _ => by rw [xY, Un, hx]; rfl
 | some v, [], _, _, h => by
  rw [xY, Un, hx, decide_eq_false (by have := h v rfl; omega)]; rfl
 | none, y :: a, h, h2, _ => by
  rw [Un, zC] at h
  rw [uA, Un, h.1, yA]
  exact SG x hx _ a h.2 (fun b hb => h2 b (yM _ hb)) fun v hv => by cases hv; exact h2 y xO
 | some v, y :: a, h, h2, _ => by
  rw [Un, zC, zC] at h
  rw [uA, Un, h.1, h.2.1, yA, yA]
  exact SG x hx _ a h.2.2 (fun b hb => h2 b (yM _ hb)) fun v hv => by cases hv; exact h2 y xO
theorem QI.add {p : Aa} {rs : List Int} {l : List Ae} {out : List Ad} {e : Ml} {tok rnd a tok' rnd' : Int} (h : QI p rs l out e tok rnd a) {x : Ad} (hx : Pp x = true) (hw : x.gO < 9223372036854775808) (ha : x.gE = a) (ht : tok ≤ tok') (hr : rnd ≤ rnd')
  (k1 : x.gD = 1 → Px p x = true ∧ LN p e.gB x = true) (k2 : Ke x = true → (Gk p l e x).2 = true ∧ tok ≤ x.gN ∧ x.gN ≤ tok') (k6 : x.gD = 6 → cT rs e.gB x = false ∧ rnd ≤ x.gP ∧ x.gP ≤ rnd') (k7 : x.gD = 7 → tok < x.gN ∧ x.gN ≤ tok') :
  QI p rs l (out ++ [x]) (Gk p l e x).1 tok' rnd' a := by
 have hV : (out.any fun b => JV b x) = false := Ku fun b hb => by
  by_cases hs : Ke x = true
  ·rw [RJ hs]
   cases hb2 : Ke b
   ·rfl
   ·have := h.tk b hb (.inl hb2)
    have := (k2 hs).2.1
    rw [decide_eq_false (by omega)]; rfl
  ·have hs : Ke x = false := by simpa using hs
   by_cases h6 : x.gD = 6
   ·rw [OG hs h6]
    cases hb2 : (b.gD == 6)
    ·rfl
    ·have := h.rd b hb (beq_iff_eq.1 hb2)
     have := (k6 h6).2.1
     rw [decide_eq_false (by omega), Bool.and_false, Bool.and_false]
   ·by_cases h7 : x.gD = 7
    ·rw [Qi hs h7]
     cases hb2 : (b.gD == 7)
     ·rfl
     ·have := h.tk b hb (.inr (beq_iff_eq.1 hb2))
      have := (k7 h7).1
      rw [decide_eq_false (by omega)]; rfl
    ·exact QC hs h6 h7
 have hright : (Gk p l e x).2 = true := by
  by_cases hs : Ke x = true
  ·exact (k2 hs).1
  ·unfold Gk
   rw [if_pos (by simpa using hs)]
 have hk : Lh p rs e.gB (Gk p l e x).2 (([] ++ out).any fun b => JV b x) x = 0 := by
  rw [xY, hV, hright]
  unfold Lh
  by_cases h1 : x.gD = 1
  ·obtain ⟨f1, f2⟩ := k1 h1
   rw [f1, if_neg (by simp), if_neg (by simp), if_neg (by simp), if_neg (by omega), if_pos h1, if_pos f2]
  ·rw [beq_eq_false_iff_ne.2 h1, if_neg (by simp), if_neg (by simp), if_neg (by simp), if_neg h1]
   split
   ·rename_i h6
    rw [if_neg (by rw [(k6 h6).1]; simp)]
   ·rfl
 refine ⟨Va p rs l x out [] _ _ h.fir hk, SG x hx none out h.ok (fun b hb => by have := h.ats b hb; omega) (fun v hv => by cases hv), fun b hb => ?_, fun b hb => ?_, fun b hb hq => ?_, fun b hb hq => ?_⟩
 ·rcases BO.1 hb with q | q
  ·exact h.ats b q
  ·rw [q, ha]; exact yK _
 ·rcases BO.1 hb with q | q
  ·exact h.wf b q
  ·rw [q]; exact ⟨hx, hw⟩
 ·rcases BO.1 hb with q | q
  ·have := h.tk b q hq; omega
  ·subst q
   rcases hq with hq | hq
   ·exact (k2 hq).2.2
   ·exact (k7 hq).2
 ·rcases BO.1 hb with q | q
  ·have := h.rd b q hq; omega
  ·subst q; exact (k6 hq).2.2
def O9 (p : Aa) (m : Ab) (r : Ad) : Prop := r.gE = 0 ∧ r.gD = 1 ∧ r.gL = 0 ∧ r.gN = 0 ∧ r.gP = 0 ∧ r.gO = 0 ∧ r.gV = 0 ∧ r.qv = 0 ∧ 0 ≤ r.gX ∧ 0 ≤ r.g8 ∧ 0 ≤ r.hJ ∧ Px p r = true ∧ LN p m r = true
theorem JA {l : List Int} {i : Nat} (h : i < l.length) : l.getD i 0 ∈ l := by
 rw [lD, zQ h]
 exact yN _
theorem VP {N : Nat} {p : Aa} (hp : Bn p) {m : Ab} (hm : B6 p m) {i : Nat} {t : AA} (ht : p.gJ[i]? = some t) (acc0 : List Ad) {u : Nat} (hu : (u : Int) < p.gH.getD t.gM.toNat 0) (j : List Ad → Option (List Ad)) : ∀ (n v : Nat) (acc : List Ad) (acc2 : List Ad), 8 - v < n → v ≤ 8 → acc.length ≤ 10000 + v → (∀ r, r ∈ acc → O9 p m r) →
  ∃ acc', B0 N p m (acc0, (i : Int)) t (acc2, (u : Int)) j n (acc, (v : Int)) = j acc' ∧ acc'.length + v ≤ acc.length + 8 ∧ ∀ r, r ∈ acc' → O9 p m r
 | 0, _, _, _, h, _, _, _ => by omega
 | n + 1, v, acc, acc2, h, hv8, hl, ha => by
  have hk := LP (hp.tab _ (lM ht))
  have hvl := N8 hp hk
  have f0 := hk.from0
  have t0 := hk.to0
  have hti := (lI.1 ht).1
  have hr := hm.range _ hti
  have hokl := hk.okL
  have eT : Bg p.gH t.gW = some (p.gH.getD t.gW.toNat 0) := by
   have := Cl (xs := p.gH) (i := t.gW.toNat) (d := 0) (by omega)
   rwa [show ((t.gW.toNat : Nat) : Int) = t.gW by omega] at this
  rw [B0, eT]
  simp only [oS, A2]
  by_cases hlt : (v : Int) < p.gH.getD t.gW.toNat 0
  ·rw [AK hlt]
   have hv6 : v < 6 := by
    have := hp.ver _ (JA (l := p.gH) (i := t.gW.toNat) (by omega))
    omega
   have e1 := (JR (N := N) hm (s := t.gM.toNat) (by omega) (show 0 ≤ (u : Int) by omega)).2
   rw [show ((t.gM.toNat : Nat) : Int) = t.gM by omega] at e1
   have e2 := (JR (N := N) hm (s := t.gW.toNat) (by omega) (show 0 ≤ (v : Int) by omega)).2
   rw [show ((t.gW.toNat : Nat) : Int) = t.gW by omega] at e2
   have hu6 : u < 6 := by
    have := hp.ver _ (JA (l := p.gH) (i := t.gM.toNat) (by omega))
    omega
   have e3 : Bg m.gG (i : Int) = some (m.gG.getD i 0) := by
    have hh := hm.held
    exact Cl (xs := m.gG) (i := i) (d := 0) (by omega)
   have e4 := UR N (s := m.gG.getD i 0) (v := u) hr (by omega)
   have e5 : Bg t.gY (u : Int) = some (t.gY.getD u []) := Cl (xs := t.gY) (i := u) (d := []) (by omega)
   have hrow : t.gY.getD u [] ∈ t.gY := by
    rw [lD, zQ (show u < t.gY.length by omega)]
    exact yN _
   have hrl := hk.okR _ hrow
   have e6 : Bg (t.gY.getD u []) (v : Int) = some ((t.gY.getD u []).getD v false) := Cl (xs := t.gY.getD u []) (i := v) (d := false) (by omega)
   rw [e1, GE, e2, e3, e5]
   simp only [oS]
   rw [e4, e6]
   simp only [oS]
   rw [AR (show v < 1000000 by omega)]
   have step := fun (acc' : List Ad) (q1 : acc'.length ≤ 10000 + (v + 1)) (q2 : ∀ r, r ∈ acc' → O9 p m r) => VP (N := N) hp hm ht acc0 hu j n (v + 1) acc' acc2 (by omega) (by omega) q1 q2
   have new : ∀ r : Ad, r = ⟨0, 1, (i : Int), (u : Int), (v : Int), 0, 0, 0, 0, 0, 0⟩ → (if BX t = true then Eg (m.gG.getD i 0) u else IX m t.gM.toNat (u : Int)) = true → IX m t.gW.toNat (v : Int) = true → (t.gY.getD u []).getD v false = true → O9 p m r := by
    rintro r rfl g1 g2 g3
    refine ⟨rfl, rfl, rfl, rfl, rfl, rfl, rfl, rfl, xK _, xK _, xK _, ?_, ?_⟩
    ·unfold Px
     simp only [zN, ht]
     rw [g3, decide_eq_true hlt, decide_eq_true (by omega)]; rfl
    ·unfold LN
     simp only [zN, ht]
     rw [g2, g1]; rfl
   have keep : ∃ acc', B0 N p m (acc0, (i : Int)) t (acc2, (u : Int)) j n (acc, ((v + 1 : Nat) : Int)) = j acc' ∧ acc'.length + v ≤ acc.length + 8 ∧ ∀ r, r ∈ acc' → O9 p m r := by
    obtain ⟨b, b1, b2, b3⟩ := step acc (by omega) ha
    exact ⟨b, b1, by omega, b3⟩
   have more : (if BX t = true then Eg (m.gG.getD i 0) u else IX m t.gM.toNat (u : Int)) = true → IX m t.gW.toNat (v : Int) = true → (t.gY.getD u []).getD v false = true → ∃ acc', ((ES (acc.length + (([(Ad.mk 0 1 (i : Int) (u : Int) (v : Int) 0 0 0 0 0 0)] : List Ad)).length ≤ EI)).bind fun _ => B0 N p m (acc0, (i : Int)) t (acc2, (u : Int)) j n (acc ++ [⟨0, 1, (i : Int), (u : Int), (v : Int), 0, 0, 0, 0, 0, 0⟩], ((v + 1 : Nat) : Int))) = j acc' ∧ acc'.length + v ≤ acc.length + 8 ∧ ∀ r, r ∈ acc' → O9 p m r := fun g1 g2 g3 => by
    obtain ⟨b, b1, b2, b3⟩ := step (acc ++ [⟨0, 1, (i : Int), (u : Int), (v : Int), 0, 0, 0, 0, 0, 0⟩]) (by rw [zZ]; simp only [zX, xW]; omega) (fun r hr => by
     rcases yI.1 hr with q | q
     ·exact ha r q
     ·exact new r (yF.1 q) g1 g2 g3)
    rw [zZ] at b2
    simp only [zX, xW] at b2
    refine ⟨b, ?_, by omega, b3⟩
    rw [AG (by simp [EI]; omega)]
    exact b1
   cases hst : BX t <;> rw [hst] at more
   ·rw [Af]
    rw [if_neg (by simp)] at more
    cases h1 : IX m t.gM.toNat (u : Int)
    ·rw [Af, Af]; exact keep
    ·rw [Ap]
     cases h2 : IX m t.gW.toNat (v : Int)
     ·rw [Af, Af]; exact keep
     ·rw [Ap]
      cases h3 : (t.gY.getD u []).getD v false
      ·rw [Af]; exact keep
      ·rw [Ap]; exact more h1 h2 h3
   ·rw [Ap]
    rw [if_pos rfl] at more
    cases h1 : Eg (m.gG.getD i 0) u
    ·rw [Af, Af]; exact keep
    ·rw [Ap]
     cases h2 : IX m t.gW.toNat (v : Int)
     ·rw [Af, Af]; exact keep
     ·rw [Ap]
      cases h3 : (t.gY.getD u []).getD v false
      ·rw [Af]; exact keep
      ·rw [Ap]; exact more h1 h2 h3
  ·rw [AB hlt]
   exact ⟨acc, rfl, by omega, ha⟩
theorem V0 {N : Nat} (h20 : 100 ≤ N) {p : Aa} (hp : Bn p) {m : Ab} (hm : B6 p m) {i : Nat} {t : AA} (ht : p.gJ[i]? = some t) (acc0 : List Ad) (j : List Ad → Option (List Ad)) : ∀ (n u : Nat) (acc : List Ad), 8 - u < n → u ≤ 8 → acc.length ≤ 5000 + 8 * u → (∀ r, r ∈ acc → O9 p m r) →
  ∃ acc', Ck N p m (acc0, (i : Int)) t j n (acc, (u : Int)) = j acc' ∧ acc'.length + 8 * u ≤ acc.length + 64 ∧ ∀ r, r ∈ acc' → O9 p m r
 | 0, _, _, h, _, _, _ => by omega
 | n + 1, u, acc, h, hu8, hl, ha => by
  have hk := LP (hp.tab _ (lM ht))
  have f0 := hk.from0
  have eF : Bg p.gH t.gM = some (p.gH.getD t.gM.toNat 0) := by
   have := Cl (xs := p.gH) (i := t.gM.toNat) (d := 0) (by omega)
   rwa [show ((t.gM.toNat : Nat) : Int) = t.gM by omega] at this
  rw [Ck, eF]
  simp only [oS]
  by_cases hlt : (u : Int) < p.gH.getD t.gM.toNat 0
  ·have hu6 : u < 6 := by
    have := hp.ver _ (JA (l := p.gH) (i := t.gM.toNat) (by omega))
    omega
   rw [AK hlt]
   obtain ⟨b, b1, b2, b3⟩ := VP (N := N) hp hm ht acc0 hlt (fun (v10 : (List Ad)) => Ck N p m (acc0, (i : Int)) t j n (v10, (wI .i64 ((u : Int) + 1)))) N 0 acc acc (by omega) (by omega) (by omega) ha
   rw [AR (show u < 1000000 by omega)] at b1 ⊢
   obtain ⟨c, c1, c2, c3⟩ := V0 h20 hp hm ht acc0 j n (u + 1) b (by omega) (by omega) (by omega) b3
   exact ⟨c, Eq.trans b1 c1, by omega, c3⟩
  ·rw [AB hlt]
   exact ⟨acc, rfl, by omega, ha⟩
theorem V1 {N : Nat} (h20 : 100 ≤ N) {p : Aa} (hp : Bn p) {m : Ab} (hm : B6 p m) (j : List Ad → Option (List Ad)) : ∀ (n i : Nat) (acc : List Ad), p.gJ.length - i < n → i ≤ p.gJ.length → acc.length ≤ 64 * i → (∀ r, r ∈ acc → O9 p m r) →
  ∃ acc', Cn N p m j n (acc, (i : Int)) = j acc' ∧ acc'.length ≤ 768 ∧ ∀ r, r ∈ acc' → O9 p m r
 | 0, _, _, h, _, _, _ => by omega
 | n + 1, i, acc, h, hi, hl, ha => by
  have hnt := hp.nt
  rw [Cn]
  by_cases h1 : i < p.gJ.length
  ·have ht : p.gJ[i]? = some p.gJ[i] := by simp [h1]
   rw [AK (by simp only; omega)]
   simp only [A1, ht, oS]
   obtain ⟨b, b1, b2, b3⟩ := V0 h20 hp hm ht acc (fun (v6 : (List Ad)) => Cn N p m j n (v6, (wI .i64 ((i : Int) + 1)))) N 0 acc (by omega) (by omega) (by omega) ha
   rw [AR (show i < 1000000 by omega)] at b1 ⊢
   obtain ⟨c, c1, c2, c3⟩ := V1 h20 hp hm j n (i + 1) b (by omega) (by omega) (by omega) b3
   exact ⟨c, Eq.trans b1 c1, c2, c3⟩
  ·rw [AB (by simp only; omega)]
   exact ⟨acc, rfl, by omega, ha⟩
theorem Tc {N : Nat} (h20 : 100 ≤ N) {p : Aa} (hp : Bn p) {m : Ab} (hm : B6 p m) : ∃ l, D2 N p m = some l ∧ l.length ≤ 768 ∧ ∀ r, r ∈ l → O9 p m r := by
 have hnt := hp.nt
 obtain ⟨l, h1, h2, h3⟩ := V1 h20 hp hm (fun (v2 : (List Ad)) => some v2) N 0 [] (by omega) (zL _) (zL _) (fun r hr => by cases hr)
 exact ⟨l, h1, h2, h3⟩
theorem dR {p : Aa} {m : Ab} {r : Ad} (h : O9 p m r) {a : Int} (ha : 0 ≤ a) : Pp ⟨a, r.gD, r.gX, r.g8, r.hJ, r.gL, r.gN, r.gP, r.gO, r.gV, r.qv⟩ = true := by
 obtain ⟨_, k1, z1, z2, z3, z4, z5, z6, t0, w0, r0, _⟩ := h
 rw [k1, z1, z2, z3, z4, z5, z6]
 unfold Pp SI PZ Mx
 simp [ha, t0, w0, r0]
def Eu : List Int → Nat → Int
 | _, 0 => 0
 | [], _ + 1 => 0
 | v :: rs, k + 1 => v + Eu rs k
theorem NP : ∀ (rs : List Int) (k : Nat), (∀ v, v ∈ rs → 1 ≤ v ∧ v ≤ 4) → 0 ≤ Eu rs k ∧ Eu rs k ≤ 4 * k
 | _, 0, _ => by unfold Eu; omega
 | [], _ + 1, _ => by unfold Eu; omega
 | v :: rs, k + 1, h => by
  have := NP rs k fun x hx => h x (yM _ hx)
  have hv := h v xO
  unfold Eu
  omega
theorem Rv : ∀ (rs : List Int) (k i : Nat) (j : Int), (∀ v, v ∈ rs → 1 ≤ v ∧ v ≤ 4) → k < rs.length → 0 ≤ j → j < rs.getD k 0 → Jr rs (Eu rs k + j) i = ((i + k : Nat) : Int)
 | [], k, _, _, _, h, _, _ => by simp at h
 | v :: rs, 0, i, j, _, _, h0, h1 => by
  have h1 : j < v := by simpa using h1
  unfold Eu Jr
  rw [if_pos (by omega)]; rfl
 | v :: rs, k + 1, i, j, hw, hk, h0, h1 => by
  have hv := hw v xO
  have hb := NP rs k fun x hx => hw x (yM _ hx)
  unfold Eu Jr
  rw [if_neg (by omega), show v + Eu rs k + j - v = Eu rs k + j by omega]
  rw [Rv rs k (i + 1) j (fun x hx => hw x (yM _ hx)) (by simpa using hk) h0 (by simpa using h1)]
  omega
theorem NI (N : Nat) (rs : List Int) (hl : rs.length ≤ 1000) (hw : ∀ v, v ∈ rs → 1 ≤ v ∧ v ≤ 4) (k : Nat) (hk : k ≤ rs.length) : ∀ (n i : Nat) (a : Int), k - i < n → i ≤ k → 0 ≤ a → a ≤ 4 * i →
  Do N rs (k : Int) (fun v2 => some v2) n (a, (i : Int)) = some (a + Eu (rs.drop i) (k - i))
 | 0, _, _, h, _, _, _ => by omega
 | n + 1, i, a, h, hi, h0, h1 => by
  rw [Do]
  by_cases hlt : i < k
  ·have hx : rs[i]? = some (rs[i]'(by omega)) := by simp [show i < rs.length by omega]
   have hv := hw _ (lM hx)
   rw [AK (by simp only; omega), D7 hx]
   simp only [A1, hx, oS]
   rw [AR (by omega), Be (by omega) (by omega), NI N rs hl hw k hk n (i + 1) _ (by omega) (by omega) (by omega) (by omega), show k - i = (k - (i + 1)) + 1 by omega, Eu]
   exact congrArg some (by omega)
  ·rw [AB (by simp only; omega), show k - i = 0 by omega]
   unfold Eu
   exact congrArg some (by simp)
theorem M1 {N : Nat} (rs : List Int) (hl : rs.length ≤ 1000) (hw : ∀ v, v ∈ rs → 1 ≤ v ∧ v ≤ 4) (k : Nat) (hk : k ≤ rs.length) (hN : k < N) : CI N rs (k : Int) = some (Eu rs k) := by
 have e := NI N rs hl hw k hk N 0 0 (by omega) (zL _) (yK _) (by omega)
 rw [zY, Nat.sub_zero, Int.zero_add] at e
 exact e
theorem Mj {p : Aa} {m : Ab} {s : Ae} {l : List Ae} (P : Gb p m (s :: l)) : Gb p (A4 p m s).1 l :=
 ⟨fun k hk => by rw [← Hb]; exact P.ok (k + 1) (by simpa using hk), fun k x hx => by rw [← Hb, ← Hb]; exact P.st (k + 1) x (by simpa using hx), fun x hx => P.na x (yM _ hx)⟩
theorem KG {p : Aa} : ∀ (l : List Ae) (i : Nat) (m : Ab) (acc : List Ab), Gb p m l → (Jv p i m acc l).2.2 = 0 ∧ ∀ k, k ≤ l.length → (Jv p i m (acc ++ [m]) l).1[acc.length + k]? = some (Fe p m l k)
 | [], i, m, acc, _ => ⟨rfl, fun k hk => by
  have : k = 0 := by simpa using hk
  subst this
  rw [Jv]
  simp [Fe]⟩
 | s :: l, i, m, acc, P => by
  have h0 : (A4 p m s).2 = 0 := by
   have := P.st 0 s rfl
   exact congrArg Prod.snd this
  constructor
  ·rw [Jv, if_neg (by simp [h0])]
   exact (KG l (i + 1) _ _ (Mj P)).1
  ·intro k hk
   rw [Jv, if_neg (by simp [h0])]
   cases k with
   | zero =>
    have := (KG l (i + 1) _ (acc ++ [m]) (Mj P)).2
    have key : ∀ (l : List Ae) (i : Nat) (m' : Ab) (acc' : List Ab), (Jv p i m' acc' l).2.2 = 0 → ∀ j, j < acc'.length → (Jv p i m' acc' l).1[j]? = acc'[j]? := by
     intro l
     induction l with
     | nil => intro i m' acc' _ j _; rw [Jv]
     | cons s l ih =>
      intro i m' acc' h j hj
      rw [Jv] at h ⊢
      by_cases hz : (A4 p m' s).2 = 0
      ·rw [if_neg (by simp [hz])] at h ⊢
       rw [ih _ _ _ h j (by rw [zZ]; omega), yC hj]
      ·rw [if_pos hz] at h
       exact absurd h hz
    rw [key l (i + 1) _ _ (KG l (i + 1) _ _ (Mj P)).1 _ (by simp)]
    simp [Fe]
   | succ k =>
    rw [Hb]
    have := (KG l (i + 1) _ (acc ++ [m]) (Mj P)).2 k (by simpa using hk)
    rw [zZ] at this
    rw [show acc.length + (k + 1) = acc.length + [m].length + k by simp; omega]
    exact this
theorem Ri (p : Aa) (total : Nat) : ∀ (l : List Ae) (i : Nat) (m : Ab) (acc : List Ab) (j : Nat), (M9 p total l i m).2.2.2 = 15 → (Jv p j m acc l).2.2 = 0 ∧ YX l = false
 | [], _, _, _, _, _ => ⟨rfl, rfl⟩
 | s :: l, i, m, acc, j, h => by
  rw [M9] at h
  split at h
  ·cases h
  ·rename_i q
   have h0 : (A4 p m s).2 = 0 := Decidable.not_not.1 fun e => q (.inl e)
   have h4 : s.gD ≠ 4 := fun e => q (.inr e)
   split at h
   ·cases h
   ·obtain ⟨r1, r2⟩ := Ri p total l (i + 1) _ (acc ++ [(A4 p m s).1]) (j + 1) h
    rw [Jv, if_neg (by simp [h0])]
    refine ⟨r1, ?_⟩
    unfold YX at r2 ⊢
    rw [List.any_cons, r2, beq_eq_false_iff_ne.2 h4]; rfl
theorem RD {p : Aa} {l : List Ae} (h : KV p l = true) : Bj p = 0 ∧ MH p l = 0 := by
 unfold KV VY at h
 rw [beq_iff_eq] at h
 by_cases hv : Bj p = 0
 ·rw [if_neg (by simp [hv])] at h
  split at h
  ·cases h
  ·obtain ⟨r1, r2⟩ := Ri p l.length l 0 (A0 p) [A0 p] 0 h
   refine ⟨hv, ?_⟩
   unfold MH
   rw [if_neg (by simp [hv]), if_neg (by simp [r2])]
   exact r1
 ·rw [if_pos hv] at h
  rcases Ic p with q | q
  ·exact absurd q.1 hv
  ·have h : Bj p = 15 := h
   omega
structure S3 (p : Aa) (rs : List Int) (l : List Ae) : Prop where
 A : NW p rs
 P : Gb p (A0 p) l
 c : KV p l = true
 n : l.length ≤ 1000
theorem Pr {N : Nat} (hN : N ≤ 1000000) (h20 : 1010 ≤ N) {p : Aa} {rs : List Int} {l : List Ae} (X : S3 p rs l) : ∃ ms, D0 N p l = some ms ∧ ∀ k, k ≤ l.length → Bg ms (k : Int) = some (Fe p (A0 p) l k) := by
 unfold D0
 rw [Id N p hN (by omega), if_pos X.A.v]
 simp only [oS]
 rw [(Vv N hN h20 X.A.v (JU X.A.v) l X.n).2]
 refine ⟨_, rfl, fun k hk => ?_⟩
 have := (KG l 0 (A0 p) [] X.P).2 k hk
 rw [A1]
 simpa using this
theorem ID {p : Aa} {m : Ab} {l : List Ae} (P : Gb p m l) {k : Nat} {s : Ae} (h : l[k]? = some s) : (s.gD = 1 ∨ s.gD = 2 ∨ s.gD = 3) ∧ 0 ≤ s.gL ∧ 0 ≤ s.gV ∧ (s.gD ≠ 3 → s.gL < (p.gH.length : Int)) ∧ (s.gD = 3 → s.gL < (p.gJ.length : Int)) := by
 obtain ⟨a1, a2, _⟩ := JJ (P.st k s h)
 obtain ⟨v1, v2, v3, v4, _⟩ := Ha a1
 obtain ⟨x3, xn, _⟩ := HP a2
 have := P.na s (lM h)
 exact ⟨by omega, v3, v4, xn, x3⟩
theorem M2 {N : Nat} (hN : N ≤ 1000000) (h20 : 1010 ≤ N) {p : Aa} {rs : List Int} {l : List Ae} (X : S3 p rs l) {k : Nat} {s : Ae} (h : l[k]? = some s) (h1 : s.gD = 1) : CE N p l (k : Int) = some (Lp (Fe p (A0 p) l (k + 1)) s.gL.toNat) := by
 obtain ⟨ms, e1, e2⟩ := Pr hN h20 X
 obtain ⟨hp, _⟩ := BD X.A.v
 have hk := (lI.1 h).1
 have ha := (Rg (X.P.ok k (by omega)) h1 (X.P.st k s h)).1
 obtain ⟨a1, a2, a3⟩ := JJ ha
 unfold CE
 rw [e1]
 simp only [oS]
 have hn := X.n
 rw [AR (by omega), e2 (k + 1) (by omega), A1, h]
 simp only [oS]
 rw [H7 N hN (by omega) hp (X.P.ok (k + 1) (by omega)) a1 a2, a3]; rfl
end Go.Lift
namespace Go.Lift
open IntKind renaming wrap → wI
open Option renaming bind_some → oS
open List renaming getElem?_eq_some_iff → lI
open Go
inductive Ph (p : Aa) (rs : List Int) (l : List Ae) (e : Ml) : Nat → Int → Int → Int → Ab → Prop
 | idle (k : Nat) (s : Ae) : l[e.gE.toNat]? = some s → e.qq = false → e.qd = false → (e.gB = Fe p (A0 p) l e.gE.toNat ∨ (s.gD = 1 ∧ 1 ≤ k ∧ e.gB = Lp (Fe p (A0 p) l (e.gE.toNat + 1)) s.gL.toNat)) → Ph p rs l e k 0 0 (2 * e.gE + 0 + 3 * k) e.gB
 | com (k : Nat) (s : Ae) : l[e.gE.toNat]? = some s → e.qq = true → e.qd = false → s.gD = 1 → Ph p rs l e k 1 (Eu rs s.gL.toNat) (2 * e.gE + 1 + 3 * k) e.gB
 | prb (k : Nat) (s : Ae) : l[e.gE.toNat]? = some s → e.qq = true → e.qd = false → s.gD = 1 → Ph p rs l e k 2 (Eu rs s.gL.toNat) (2 * e.gE + 1 + 3 * k) e.gB
 | fns (k : Nat) (s : Ae) (j : Int) : l[e.gE.toNat]? = some s → e.qq = true → e.qd = false → s.gD = 2 → 0 ≤ j → j < rs.getD s.gL.toNat 0 → Ph p rs l e k 1 (Eu rs s.gL.toNat + j) (2 * e.gE + 1 + 3 * k) e.gB
 | und (k : Nat) (s : Ae) : l[e.gE.toNat]? = some s → e.qq = false → e.qd = true → s.gD = 1 → Ph p rs l e k 3 (Eu rs s.gL.toNat) (2 * e.gE + 2 + 3 * k) e.gB
 | clr (k : Nat) (s : Ae) : l[e.gE.toNat]? = some s → e.qq = true → e.qd = false → s.gD = 3 → Ph p rs l e k 4 0 (2 * e.gE + 1 + 3 * k) e.gB
 | fld (k : Nat) (s : Ae) : l[e.gE.toNat]? = some s → e.qq = false → e.qd = true → s.gD = 1 → Ph p rs l e k 5 0 (2 * e.gE + 2 + 3 * k) (Lp (Fe p (A0 p) l (e.gE.toNat + 1)) s.gL.toNat)
 | fin (k : Nat) : e.gE = (l.length : Int) → e.qq = false → e.qd = false → Ph p rs l e k 6 0 (2 * e.gE + 0 + 3 * k) e.gB
variable {p : Aa} {rs : List Int} {l : List Ae} {e : Ml}
theorem Oy {N : Nat} {u : Nat} {s : Ae} (h : l[u]? = some s) : Cv N l (u : Int) = some s.gD := by
 have := (lI.1 h).1
 unfold Cv
 rw [AK (by omega), A1, h]; rfl
theorem Ta {N : Nat} (hN : N ≤ 1000000) (h20 : 1010 ≤ N) (X : S3 p rs l) (hE : LL p (A0 p) l e) {k : Nat} {ph rep rnd : Int} {mx : Ab} (h : Ph p rs l e k ph rep rnd mx) : ∃ x, CT N p l e.gE ph = some (x, 0) ∧ (x = mx ∨ (ph = 0 ∧ ∃ s, l[e.gE.toNat]? = some s ∧ s.gD = 1 ∧ 1 ≤ k ∧ mx = Lp (Fe p (A0 p) l (e.gE.toNat + 1)) s.gL.toNat)) := by
 obtain ⟨ms, e1, e2⟩ := Pr hN h20 X
 obtain ⟨u, hu, hul⟩ := hE.at_
 have hn := X.n
 have hat : e.gE.toNat = u := by omega
 unfold CT
 rw [JE N p hN (by omega), KQ hN (by omega) hn (by omega), X.c, X.A.v, e1]
 simp only [oS, A2, bne_self_eq_false, Af, zK]
 rw [AB (by omega), AB (by omega), hu]
 have hkind : ∀ {s : Ae}, l[e.gE.toNat]? = some s → Cv N l (u : Int) = some s.gD ∧ ((u : Int) == (l.length : Int)) = false ∧ u < l.length := fun hl => by
  rw [hat] at hl
  have := (lI.1 hl).1
  exact ⟨Oy hl, beq_eq_false_iff_ne.2 (by omega), this⟩
 cases h with
 | idle s hl hb hs hm =>
  obtain ⟨q1, q2, q3⟩ := hkind hl
  rw [q1, q2]
  simp only [oS]
  refine ⟨Fe p (A0 p) l u, ?_, ?_⟩
  ·simp [Ap, Af, e2 u hul]
  ·rw [hat] at hm
   rcases hm with hm | ⟨g1, g2, g3⟩
   ·exact .inl hm.symm
   ·exact .inr ⟨trivial, s, by rw [zN, ← hat]; exact hl, g1, g2, by rw [zN]; exact g3⟩
 | com s hl hb hs h1 =>
  obtain ⟨q1, q2, q3⟩ := hkind hl
  rw [q1, q2, h1]
  simp only [oS]
  obtain ⟨s', r1, r2⟩ := hE.beg hb
  rw [hl] at r1; cases r1
  rw [if_pos h1, hat] at r2
  refine ⟨Fe p (A0 p) l (u + 1), ?_, .inl r2.symm⟩
  rw [AR (by omega)]
  simp [Ap, Af]
  rw [← zB7, e2 (u + 1) (by omega)]; rfl
 | prb s hl hb hs h1 =>
  obtain ⟨q1, q2, q3⟩ := hkind hl
  rw [q1, q2, h1]
  simp only [oS]
  obtain ⟨s', r1, r2⟩ := hE.beg hb
  rw [hl] at r1; cases r1
  rw [if_pos h1, hat] at r2
  refine ⟨Fe p (A0 p) l (u + 1), ?_, .inl r2.symm⟩
  rw [AR (by omega)]
  simp [Ap, Af]
  rw [← zB7, e2 (u + 1) (by omega)]; rfl
 | und s hl hb hs h1 =>
  obtain ⟨q1, q2, q3⟩ := hkind hl
  rw [q1, q2, h1]
  simp only [oS]
  obtain ⟨s', r1, _, r2⟩ := hE.stp hs
  rw [hat] at r2
  refine ⟨Fe p (A0 p) l (u + 1), ?_, .inl r2.symm⟩
  rw [AR (by omega)]
  simp [Ap, Af]
  rw [← zB7, e2 (u + 1) (by omega)]; rfl
 | fns s j hl hb hs h1 j0 j1 =>
  obtain ⟨q1, q2, q3⟩ := hkind hl
  rw [q1, q2, h1]
  simp only [oS]
  obtain ⟨s', r1, r2⟩ := hE.beg hb
  rw [hl] at r1; cases r1
  rw [if_neg (by omega), hat] at r2
  refine ⟨Fe p (A0 p) l u, ?_, .inl r2.symm⟩
  simp [Ap, Af, e2 u hul]
 | clr s hl hb hs h1 =>
  obtain ⟨q1, q2, q3⟩ := hkind hl
  rw [q1, q2, h1]
  simp only [oS]
  obtain ⟨s', r1, r2⟩ := hE.beg hb
  rw [hl] at r1; cases r1
  rw [if_neg (by omega), hat] at r2
  refine ⟨Fe p (A0 p) l u, ?_, .inl r2.symm⟩
  simp [Ap, Af, e2 u hul]
 | fld s hl hb hs h1 =>
  obtain ⟨q1, q2, q3⟩ := hkind hl
  rw [q1, q2, h1]
  simp only [oS]
  have ha := M2 hN h20 X (k := u) (by rw [← hat]; exact hl) h1
  rw [ha]
  rw [hat]
  exact ⟨_, by simp [Ap, Af], .inl rfl⟩
 | fin hf hb hs =>
  have hul' : u = l.length := by omega
  subst hul'
  have q1 : Cv N l (l.length : Int) = some 0 := by
   unfold Cv
   rw [AB (by omega)]
  rw [q1]
  simp only [oS, beq_self_eq_true]
  rcases hE.wai hb hs with r | ⟨s, r1, _⟩
  ·rw [hat] at r
   refine ⟨Fe p (A0 p) l l.length, ?_, .inl r.symm⟩
   simp [Ap, Af, e2 l.length (yD _)]
  ·have := (lI.1 r1).1
   omega
theorem cm (hp : Bn p) {m : Ab} (P : Gb p m l) {u : Nat} {s : Ae} (h : l[u]? = some s) (h1 : s.gD = 1) : B6 p (Lp (Fe p m l (u + 1)) s.gL.toNat) := by
 have hk := (lI.1 h).1
 have ha := (Rg (P.ok u (by omega)) h1 (P.st u s h)).1
 have := Hg hp (P.ok (u + 1) (by omega)) (s := ⟨4, s.gL, 0⟩) (by rw [ha])
 rw [ha] at this
 exact this
theorem Vs (X : S3 p rs l) (hE : LL p (A0 p) l e) {k : Nat} {ph rep rnd : Int} {mx : Ab} (h : Ph p rs l e k ph rep rnd mx) : B6 p mx := by
 obtain ⟨hp, _⟩ := BD X.A.v
 cases h with
 | fld s hl hb hs h1 => exact cm hp X.P hl h1
 | _ => exact RY hp X.P hE
def Y0 (ph : Int) : Int := if ph = 1 ∨ ph = 2 ∨ ph = 4 then 1 else if ph = 3 ∨ ph = 5 then 2 else 0
theorem X2 {k : Nat} {ph rep rnd : Int} {mx : Ab} (h : Ph p rs l e k ph rep rnd mx) : rnd = 2 * e.gE + Y0 ph + 3 * k := by
 cases h <;> rfl
theorem UG {N : Nat} {a b : Ab} (hN : N ≤ 1000000) (h20 : 100 ≤ N) (hp : Bn p) (ha : B6 p a) (hb : B6 p b) : ∃ c, Bm N a b = some c := by
 have h1 := ha.base
 have h2 := ha.next
 have h3 := ha.held
 have h4 := hb.held
 have n1 := hp.nv
 have n2 := hp.nt
 unfold Bm
 rw [LC hN (by omega) (by omega) (by omega) (by omega) (J4 ha) (J4 hb)]
 exact ⟨_, rfl⟩
theorem U6 {N : Nat} (hN : N ≤ 1000000) (h20 : 1010 ≤ N) (X : S3 p rs l) (hE : LL p (A0 p) l e) {k : Nat} {ph rep rnd : Int} {mx : Ab} (h : Ph p rs l e k ph rep rnd mx) (hk : k ≤ 1000) {tok : Int} (ht : 0 ≤ tok) : D9 N p rs ⟨l, e.gE, ph, rep, rnd, tok, mx⟩ = some true := by
 obtain ⟨hp, _⟩ := BD X.A.v
 obtain ⟨u, hu, hul⟩ := hE.at_
 have hn := X.n
 have hat : e.gE.toNat = u := by omega
 have hmx := Vs X hE h
 have hrs := J1 X.A
 obtain ⟨x, x1, x2⟩ := Ta hN h20 X hE h
 have hr := X2 h
 have hS : Kv p rs = 0 := by
  unfold Kv
  rw [if_neg (by simp [X.A.n]), if_neg]
  intro q
  obtain ⟨v, v1, v2⟩ := yE.1 q
  have := X.A.w v v1
  simp only [yS, decide_eq_true_eq] at v2
  omega
 have hex : 0 ≤ Y0 ph ∧ Y0 ph ≤ 2 := by unfold Y0; split; omega; split <;> omega
 have hfin : ∀ (lo hi : Int), lo ≤ rep → rep ≤ hi → (AL (decide (rnd < (wI .i64 ((wI .i64 (2 * e.gE)) + Y0 ph)))) (some false) (A7 (fun (v25 : Bool) => AL v25 (some false) ((Bm N mx x).bind fun v29 => AL v29 (some true) (A7 (fun (v31 : Bool) => some v31) fun j31 =>
   AL (ph == 0) ((Cv N l e.gE).bind fun v33 => AL (v33 == 1) (AL (decide (3 ≤ (wI .i64 ((wI .i64 (rnd - (wI .i64 (2 * e.gE)))) - Y0 ph)))) ((CE N p l e.gE).bind fun v36 => (Bm N mx v36).bind fun v37 => j31 v37) (j31 false)) (j31 false)) (j31 false))))
   fun j25 => AL ((zJ (wI .i64 ((wI .i64 (rnd - (wI .i64 (2 * e.gE)))) - Y0 ph)) 3) != 0) (j25 true) (AL (decide (rep < lo)) (j25 true) (j25 (decide (hi < rep)))))) = some true := by
  intro lo hi h1 h2
  simp only [A2]
  rw [Be (n := 2 * e.gE) (by omega) (by omega), Be (n := 2 * e.gE + Y0 ph) (by omega) (by omega), AB (by omega), Be (n := rnd - 2 * e.gE) (by omega) (by omega), Be (n := rnd - 2 * e.gE - Y0 ph) (by omega) (by omega), show rnd - 2 * e.gE - Y0 ph = ((3 * k : Nat) : Int) by omega]
  rw [show zJ ((3 * k : Nat) : Int) 3 = ((3 * k % 3 : Nat) : Int) from rfl, Nat.mul_mod_right, show (((0 : Nat) : Int) != 0) = false from rfl, Af, AB (by omega), decide_eq_false (by omega), Af]
  rcases x2 with rfl | ⟨rfl, s, g0, g1, g2, g3⟩
  ·rw [RG hN (by omega) hp hmx]; rfl
  ·have hx : B6 p x := by
    have hx0 : x = Fe p (A0 p) l u := by
     have : ∃ y, CT N p l e.gE 0 = some (y, 0) ∧ y = Fe p (A0 p) l u := by
      obtain ⟨ms, e1, e2⟩ := Pr hN h20 X
      refine ⟨_, ?_, rfl⟩
      unfold CT
      rw [hat] at g0
      have q3 := (lI.1 g0).1
      rw [JE N p hN (by omega), KQ hN (by omega) hn (by omega), X.c, X.A.v, e1]
      simp only [oS, A2, bne_self_eq_false, Af, zK]
      rw [AB (by omega), AB (by omega), hu, beq_eq_false_iff_ne.2 (show (u : Int) ≠ (l.length : Int) by omega), Oy g0]
      simp only [oS]
      simp [Ap, Af, e2 u hul]
     obtain ⟨y, y1, y2⟩ := this
     rw [x1] at y1
     cases y1
     exact y2
    rw [hx0]; exact X.P.ok u hul
   obtain ⟨c, hc⟩ := UG hN (by omega) hp hmx hx
   rw [hc]
   rw [hat] at g0 g3
   simp only [oS]
   cases c
   ·rw [Af, beq_self_eq_true, Ap, hu, Oy g0]
    simp only [oS]
    rw [g1, beq_self_eq_true, Ap, AK (by omega), M2 hN h20 X g0 g1]
    simp only [oS]
    rw [← g3, RG hN (by omega) hp hmx]; rfl
   ·rfl
 unfold D9
 simp only [A2]
 rw [M3 hN (by omega) p rs (by omega) (by omega), if_neg (by simp [X.A.v]), hS]
 simp only [oS, bne_self_eq_false, Af]
 rw [decide_eq_false (by omega), Af, x1]
 simp only [oS, bne_self_eq_false, Af]
 have hrep : ∀ s : Ae, l[e.gE.toNat]? = some s → s.gD ≠ 3 → Bg l e.gE = some s ∧ CI N rs s.gL = some (Eu rs s.gL.toNat) ∧ Bg rs s.gL = some (rs.getD s.gL.toNat 0) ∧ Eu rs s.gL.toNat ≤ 100 ∧ rs.getD s.gL.toNat 0 ≤ 4 ∧ 1 ≤ rs.getD s.gL.toNat 0 ∧ 0 ≤ Eu rs s.gL.toNat := by
  intro s hl h3
  rw [hat] at hl
  obtain ⟨_, i0, _, iv, _⟩ := ID X.P hl
  have hi := iv h3
  have hnl := X.A.n
  have ef := M1 (N := N) rs (by omega) X.A.w s.gL.toNat (by omega) (by omega)
  rw [xF i0] at ef
  have hb := NP rs s.gL.toNat X.A.w
  have hg := X.A.w _ (JA (l := rs) (i := s.gL.toNat) (by omega))
  refine ⟨by rw [hu, A1]; exact hl, ef, ?_, by omega, hg.2, hg.1, hb.1⟩
  have := Cl (xs := rs) (i := s.gL.toNat) (d := 0) (by omega)
  rwa [xF i0] at this
 cases h with
 | idle s hl hb hs hm => exact hfin 0 0 (by omega) (by omega)
 | com s hl hb hs h1 =>
  obtain ⟨r1, r2, r3, r4, r5, r6, r7⟩ := hrep s hl (by omega)
  rw [r1]
  simp only [oS]
  rw [r2, h1]
  exact hfin (Eu rs s.gL.toNat) (Eu rs s.gL.toNat) (by omega) (by omega)
 | prb s hl hb hs h1 =>
  obtain ⟨r1, r2, r3, r4, r5, r6, r7⟩ := hrep s hl (by omega)
  rw [r1]
  simp only [oS]
  rw [r2, h1]
  exact hfin (Eu rs s.gL.toNat) (Eu rs s.gL.toNat) (by omega) (by omega)
 | und s hl hb hs h1 =>
  obtain ⟨r1, r2, r3, r4, r5, r6, r7⟩ := hrep s hl (by omega)
  rw [r1]
  simp only [oS]
  rw [r2, h1]
  exact hfin (Eu rs s.gL.toNat) (Eu rs s.gL.toNat) (by omega) (by omega)
 | fns s j hl hb hs h1 j0 j1 =>
  obtain ⟨r1, r2, r3, r4, r5, r6, r7⟩ := hrep s hl (by omega)
  rw [r1]
  simp only [oS]
  rw [r2, r3, h1]
  simp only [oS]
  rw [Be (n := Eu rs s.gL.toNat + rs.getD s.gL.toNat 0) (by omega) (by omega), Be (n := Eu rs s.gL.toNat + rs.getD s.gL.toNat 0 - 1) (by omega) (by omega)]
  exact hfin (Eu rs s.gL.toNat) (Eu rs s.gL.toNat + rs.getD s.gL.toNat 0 - 1) (by omega) (by omega)
 | clr s hl hb hs h1 => exact hfin 0 0 (by omega) (by omega)
 | fld s hl hb hs h1 => exact hfin 0 0 (by omega) (by omega)
 | fin hf hb hs => exact hfin 0 0 (by omega) (by omega)
end Go.Lift
namespace Go.Lift
open Option renaming bind_some → oS
open List renaming getElem?_eq_some_iff → lI
open Go
variable {p : Aa} {rs : List Int} {l : List Ae} {e : Ml}
def S7 (a : Int) : List Bk → List Ad
 | [] => []
 | x :: xs => if x.gD = 1 then ⟨a, x.qt.gD + 1, 0, 0, 0, x.qt.gL, x.qt.gN, 0, 0, 0, 0⟩ :: S7 a xs else S7 a xs
theorem KC (a : Int) : ∀ xs : List Bk, (∀ x, x ∈ xs → x.gD ≠ 1) → S7 a xs = []
 | [], _ => rfl
 | x :: xs, h => by
  rw [S7, if_neg (h x xO)]
  exact KC a xs fun y hy => h y (yM _ hy)
structure Qr (acts : List Bk) : Prop where
 n : acts.length ≤ 4
 k : ∀ x, x ∈ acts → x.gD = 1 → 1 ≤ x.qt.gD ∧ x.qt.gD ≤ 4
 one : (acts.filter fun x => x.gD == 1).length ≤ 1
def aq (p : Aa) (rs : List Int) (l : List Ae) (r : Option (Ak × List Bk)) (k : Nat) (t tok a : Int) (out : List Ad) : Prop :=
 ∃ e' k' ph' rep' rnd' mx' acts, r = some (⟨l, e'.gE, ph', rep', rnd', t, mx'⟩, acts) ∧ LL p (A0 p) l e' ∧ k' ≤ k + 1 ∧ Ph p rs l e' k' ph' rep' rnd' mx' ∧ Qr acts ∧ QI p rs l (out ++ S7 a acts) e' tok rnd' a
theorem bN {s : Ae} (hE : LL p (A0 p) l e) (hl : l[e.gE.toNat]? = some s) {x : Ad} (hb : Ke x = true) (hi : x.gL = e.gE) : Gk p l e x = Mw p s e x := by
 obtain ⟨u, hu, hul⟩ := hE.at_
 have := (lI.1 hl).1
 unfold Gk
 rw [if_neg (by simp [hb]), if_neg (by rw [hi]; simp; omega), hl]
def QN (a k i tok : Int) : Ad := ⟨a, k, 0, 0, 0, i, tok, 0, 0, 0, 0⟩
theorem bO {a k i tok : Int} (ha : 0 ≤ a) (hk : 2 ≤ k ∧ k ≤ 5) (hi : 0 ≤ i) (ht : 0 ≤ tok) : Pp (QN a k i tok) = true := by
 unfold Pp SI PZ Mx QN
 simp [ha, show k ≠ 1 by omega, show k ≠ 6 by omega, show k ≠ 7 by omega, show 1 ≤ k by omega, show k ≤ 7 by omega, hi, ht]
theorem Pf {out : List Ad} {tok rnd a : Int} (T : QI p rs l out e tok rnd a) (hE : LL p (A0 p) l e) {s : Ae} (hl : l[e.gE.toNat]? = some s) (ha : 0 ≤ a) (ht : 0 ≤ tok) {k : Int} (hk : 2 ≤ k ∧ k ≤ 5) (hr : (Mw p s e (QN a k e.gE tok)).2 = true) :
  QI p rs l (out ++ [QN a k e.gE tok]) (Mw p s e (QN a k e.gE tok)).1 tok (rnd + 1) a ∧ LL p (A0 p) l (Mw p s e (QN a k e.gE tok)).1 ∨ ¬ Gb p (A0 p) l := by
 by_cases P : Gb p (A0 p) l
 ·left
  obtain ⟨u, hu, hul⟩ := hE.at_
  have hb : Ke (QN a k e.gE tok) = true := by unfold Ke QN; simp [hk]
  have he := bN hE hl hb rfl
  rw [← he]
  rw [← he] at hr
  refine ⟨T.add (bO ha hk (by omega) ht) (by show (0 : Int) < _; omega) rfl (yK _) (by omega) (fun q => ?_) (fun _ => ⟨hr, yK _, yK _⟩) (fun q => ?_) (fun q => ?_), Sj P hE _⟩
  ·have q : k = 1 := q; omega
  ·have q : k = 6 := q; omega
  ·have q : k = 7 := q; omega
 ·exact .inr P
theorem Nj (X : S3 p rs l) (hE : LL p (A0 p) l e) {s : Ae} (hl : l[e.gE.toNat]? = some s) (h3 : s.gD ≠ 3) {m : Ab} (hm : B6 p m) : Bg l e.gE = some s ∧ Bg m.gI s.gL = some (m.gI.getD s.gL.toNat 0) ∧ Bg m.gF s.gL = some (m.gF.getD s.gL.toNat 0) := by
 obtain ⟨u, hu, hul⟩ := hE.at_
 have hat : e.gE.toNat = u := by omega
 obtain ⟨_, i0, _, iv, _⟩ := ID X.P hl
 have hi := iv h3
 have hb := hm.base
 have hn := hm.next
 refine ⟨by rw [hu, A1, ← hat]; exact hl, ?_, ?_⟩
 ·have := Cl (xs := m.gI) (i := s.gL.toNat) (d := 0) (by omega)
  rwa [xF i0] at this
 ·have := Cl (xs := m.gF) (i := s.gL.toNat) (d := 0) (by omega)
  rwa [xF i0] at this
theorem G8 {N : Nat} (X : S3 p rs l) (hE : LL p (A0 p) l e) {k : Nat} {ph rep rnd : Int} {mx : Ab} (h : Ph p rs l e k ph rep rnd mx) (tok : Int) : ∃ acts, A3 N ⟨l, e.gE, ph, rep, rnd, tok, mx⟩ = some acts ∧ acts.length ≤ 1 ∧ ∀ x, x ∈ acts → x.gD ≠ 1 := by
 have hm := Vs X hE h
 unfold A3 AZ
 simp only [A2]
 cases h with
 | idle s hl hb hs hm' => exact ⟨[], rfl, by simp, fun x hx => by cases hx⟩
 | com s hl hb hs h1 =>
  obtain ⟨a1, a2, a3⟩ := Nj X hE hl (by omega) hm
  rw [a1]
  simp only [oS]
  rw [a2, a3]
  exact ⟨_, rfl, by simp, fun x hx => by rw [yF.1 hx]; simp⟩
 | prb s hl hb hs h1 =>
  obtain ⟨a1, a2, a3⟩ := Nj X hE hl (by omega) hm
  rw [a1]
  simp only [oS]
  rw [a2, a3]
  exact ⟨_, rfl, by simp, fun x hx => by rw [yF.1 hx]; simp⟩
 | und s hl hb hs h1 =>
  obtain ⟨a1, a2, a3⟩ := Nj X hE hl (by omega) hm
  rw [a1]
  simp only [oS]
  rw [a2, a3]
  exact ⟨_, rfl, by simp, fun x hx => by rw [yF.1 hx]; simp⟩
 | fns s j hl hb hs h1 j0 j1 =>
  obtain ⟨a1, a2, a3⟩ := Nj X hE hl (by omega) hm
  rw [a1]
  simp only [oS]
  rw [a2, a3]
  exact ⟨_, rfl, by simp, fun x hx => by rw [yF.1 hx]; simp⟩
 | clr s hl hb hs h1 =>
  obtain ⟨u, hu, hul⟩ := hE.at_
  have a1 : Bg l e.gE = some s := by
   rw [hu, A1, ← show e.gE.toNat = u by omega]; exact hl
  rw [a1]
  exact ⟨_, rfl, by simp, fun x hx => by rw [yF.1 hx]; simp⟩
 | fld s hl hb hs h1 => exact ⟨[], rfl, by simp, fun x hx => by cases hx⟩
 | fin hf hb hs => exact ⟨[], rfl, by simp, fun x hx => by cases hx⟩
theorem ZB {acts : List Bk} (h1 : acts.length ≤ 1) (h2 : ∀ x, x ∈ acts → x.gD ≠ 1) : Qr acts :=
 ⟨by omega, fun x hx q => absurd q (h2 x hx), xI (List.length_filter_le _ _) h1⟩
theorem KM {acts : List Bk} (h1 : acts.length ≤ 1) (h2 : ∀ x, x ∈ acts → x.gD ≠ 1) {y : Bk} (hy : 1 ≤ y.qt.gD ∧ y.qt.gD ≤ 4) : Qr (y :: acts) := by
 refine ⟨by simp only [zX]; omega, fun x hx q => ?_, ?_⟩
 ·rcases yL.1 hx with rfl | hx
  ·exact hy
  ·exact absurd q (h2 x hx)
 ·have : acts.filter (fun x => x.gD == 1) = [] := List.filter_eq_nil_iff.2 fun x hx => by simp [h2 x hx]
  rw [List.filter_cons, this]
  split <;> simp
theorem Mb {N : Nat} (X : S3 p rs l) (hE : LL p (A0 p) l e) {k : Nat} {ph rep rnd : Int} {mx : Ab} (h : Ph p rs l e k ph rep rnd mx) {out : List Ad} {t tok a : Int} (T : QI p rs l out e tok rnd a) {acts : List Bk} (h1 : acts.length ≤ 1) (h2 : ∀ x, x ∈ acts → x.gD ≠ 1) : aq p rs l (some (⟨l, e.gE, ph, rep, rnd, t, mx⟩, acts)) k t tok a out :=
 ⟨e, k, ph, rep, rnd, mx, acts, rfl, hE, by omega, h, ZB h1 h2, by rw [KC a acts h2, yU]; exact T⟩
theorem SD {N : Nat} (hN : N ≤ 1000000) (h20 : 1010 ≤ N) (X : S3 p rs l) (hE : LL p (A0 p) l e) {k : Nat} {ph rep rnd : Int} {mx : Ab} (h : Ph p rs l e k ph rep rnd mx) (hk : k ≤ 1000) {out : List Ad} {tok a : Int} (T : QI p rs l out e tok rnd a) (ht : 0 ≤ tok) (ha : 0 ≤ a) : aq p rs l (DE N p rs ⟨l, e.gE, ph, rep, rnd, tok, mx⟩) k tok tok a out := by
 obtain ⟨hp, _⟩ := BD X.A.v
 by_cases h0 : ph = 0
 ·cases h with
  | idle s hl hb hs hm =>
   obtain ⟨u, hu, hul⟩ := hE.at_
   have hlt := (lI.1 hl).1
   have hn := X.n
   have hat : e.gE.toNat = u := by omega
   have a1 : Bg l e.gE = some s := by rw [hu, A1, ← hat]; exact hl
   have hst : Mw p s e (QN a 2 e.gE tok) = (⟨e.gE, true, e.qd, if s.gD = 1 then (A4 p e.gB s).1 else e.gB⟩, true) := by
    unfold Mw
    rw [if_pos ⟨rfl, hb, hs⟩]
   have had := Pf T hE hl ha ht (k := 2) (by omega) (by rw [hst])
   rcases had with ⟨T', hE'⟩ | q
   ·rw [hst] at T' hE'
    unfold DE Cd
    simp only [bne_self_eq_false, Af, oS, A2]
    rw [a1]
    simp only [oS]
    rw [Be (n := 2 * e.gE + 0 + 3 * (k : Int) + 1) (by omega) (by omega)]
    obtain ⟨hkd, i0, v0, iv, it⟩ := ID X.P hl
    by_cases h3 : s.gD = 3
    ·rw [beq_iff_eq.2 h3, Ap, beq_eq_false_iff_ne.2 (show s.gD ≠ 1 by omega), Af]
     rw [if_neg (show ¬ s.gD = 1 by omega)] at T' hE'
     have hP : Ph p rs l ⟨e.gE, true, e.qd, e.gB⟩ k 4 0 (2 * e.gE + 1 + 3 * k) e.gB := .clr k s hl rfl hs h3
     obtain ⟨acts, r1, r2, r3⟩ := G8 (N := N) X hE' hP tok
     rw [show 2 * e.gE + 0 + 3 * (k : Int) + 1 = 2 * e.gE + 1 + 3 * k by omega] at T' ⊢
     rw [show A3 N _ = _ from r1]
     simp only [oS]
     rw [AG (by simp [EI]; omega)]
     refine ⟨⟨e.gE, true, e.qd, e.gB⟩, k, 4, 0, _, _, _, rfl, hE', by omega, hP, KM r2 r3 (by show (1 : Int) ≤ 1 ∧ (1 : Int) ≤ 4; omega), ?_⟩
     rw [xZ, S7, if_pos rfl, KC a acts r3]
     exact T'
    ·obtain ⟨_, ef, _⟩ : True ∧ CI N rs s.gL = some (Eu rs s.gL.toNat) ∧ True := by
      have hnl := X.A.n
      have hrl := J1 X.A
      have hi := iv h3
      have ef := M1 (N := N) rs (by omega) X.A.w s.gL.toNat (by omega) (by omega)
      rw [xF i0] at ef
      exact ⟨trivial, ef, trivial⟩
     rw [beq_eq_false_iff_ne.2 h3, Af, ef]
     simp only [oS]
     by_cases h1 : s.gD = 1
     ·rw [if_pos h1, Lt X.P hE hb hs hl h1] at T' hE'
      obtain ⟨b1, b2, b3⟩ := JJ (Lt X.P hE hb hs hl h1)
      have haf := H7 N hN (by omega) hp (RY hp X.P hE) b1 b2
      rw [b3] at haf
      rw [beq_iff_eq.2 h1, Ap, show Bu N p _ s = _ from haf]
      simp only [oS]
      have hP : Ph p rs l ⟨e.gE, true, e.qd, Fe p (A0 p) l (e.gE.toNat + 1)⟩ k 1 (Eu rs s.gL.toNat) (2 * e.gE + 1 + 3 * k) (Fe p (A0 p) l (e.gE.toNat + 1)) := .com k s hl rfl hs h1
      obtain ⟨acts, r1, r2, r3⟩ := G8 (N := N) X hE' hP tok
      rw [show 2 * e.gE + 0 + 3 * (k : Int) + 1 = 2 * e.gE + 1 + 3 * k by omega] at T' ⊢
      rw [show A3 N _ = _ from r1]
      simp only [oS]
      rw [AG (by simp [EI]; omega)]
      refine ⟨⟨e.gE, true, e.qd, Fe p (A0 p) l (e.gE.toNat + 1)⟩, k, 1, _, _, _, _, rfl, hE', by omega, hP, KM r2 r3 (by show (1 : Int) ≤ 1 ∧ (1 : Int) ≤ 4; omega), ?_⟩
      rw [xZ, S7, if_pos rfl, KC a acts r3]
      exact T'
     ·rw [if_neg h1] at T' hE'
      have h2 : s.gD = 2 := by omega
      rw [beq_eq_false_iff_ne.2 h1, Af]
      have hnl := X.A.n
      have hi := iv h3
      have hg := X.A.w _ (JA (l := rs) (i := s.gL.toNat) (by omega))
      have hP : Ph p rs l ⟨e.gE, true, e.qd, e.gB⟩ k 1 (Eu rs s.gL.toNat + 0) (2 * e.gE + 1 + 3 * k) e.gB := .fns k s 0 hl rfl hs h2 (yK _) (by omega)
      rw [Int.add_zero] at hP
      obtain ⟨acts, r1, r2, r3⟩ := G8 (N := N) X hE' hP tok
      rw [show 2 * e.gE + 0 + 3 * (k : Int) + 1 = 2 * e.gE + 1 + 3 * k by omega] at T' ⊢
      rw [show A3 N _ = _ from r1]
      simp only [oS]
      rw [AG (by simp [EI]; omega)]
      refine ⟨⟨e.gE, true, e.qd, e.gB⟩, k, 1, _, _, _, _, rfl, hE', by omega, hP, KM r2 r3 (by show (1 : Int) ≤ 1 ∧ (1 : Int) ≤ 4; omega), ?_⟩
      rw [xZ, S7, if_pos rfl, KC a acts r3]
      exact T'
   ·exact absurd X.P q
  | _ => exact absurd h0 (by decide)
 ·unfold DE
  rw [bne_iff_ne.2 h0, Ap]
  obtain ⟨acts, r1, r2, r3⟩ := G8 (N := N) X hE h tok
  rw [show A3 N _ = _ from r1]
  exact Mb (N := N) X hE h T r2 r3
end Go.Lift
namespace Go.Lift
open IntKind renaming wrap → wI
open Option renaming bind_some → oS
open List renaming getElem?_eq_some_iff → lI
open Go
variable {p : Aa} {rs : List Int} {l : List Ae} {e : Ml}
theorem Si {N : Nat} (hN : N ≤ 1000000) (h20 : 1010 ≤ N) (X : S3 p rs l) (hE : LL p (A0 p) l e) {k : Nat} {ph rep : Int} {s : Ae} (hl : l[e.gE.toNat]? = some s) (hb : e.qq = true) (hs : e.qd = false) (hk : k ≤ 1000) {out : List Ad} {tok a : Int} (T : QI p rs l out e tok (2 * e.gE + 1 + 3 * k) a) (ht : 0 ≤ tok) (ha : 0 ≤ a) : aq p rs l (DF N p ⟨l, e.gE, ph, rep, 2 * e.gE + 1 + 3 * k, tok, e.gB⟩) k tok tok a out := by
 obtain ⟨hp, _⟩ := BD X.A.v
 obtain ⟨u, hu, hul⟩ := hE.at_
 have hlt := (lI.1 hl).1
 have hn := X.n
 have hat : e.gE.toNat = u := by omega
 have a1 : Bg l e.gE = some s := by rw [hu, A1, ← hat]; exact hl
 have hst : Mw p s e (QN a 3 e.gE tok) = (⟨e.gE + 1, false, e.qd, Fe p (A0 p) l (u + 1)⟩, true) := by
  unfold Mw
  rw [if_neg (fun q => absurd q.1 (by unfold QN; simp)), if_pos ⟨rfl, hb⟩]
  by_cases h1 : s.gD = 1
  ·obtain ⟨s', r1, r2⟩ := hE.beg hb
   rw [hl] at r1; cases r1
   rw [if_pos h1, hat] at r2
   rw [if_pos h1, r2]
  ·rw [if_neg h1, Mk X.P hE hb hl h1, hat]
 rcases Pf T hE hl ha ht (k := 3) (by omega) (by rw [hst]) with ⟨T', hE'⟩ | q
 ·rw [hst] at T' hE'
  have hmix : ((if s.gD ≠ 1 then (A4 p e.gB s).1 else e.gB) : Ab) = Fe p (A0 p) l (u + 1) := by
   by_cases h1 : s.gD = 1
   ·obtain ⟨s', r1, r2⟩ := hE.beg hb
    rw [hl] at r1; cases r1
    rw [if_pos h1, hat] at r2
    rw [if_neg (by simp [h1]), r2]
   ·rw [if_pos h1, Mk X.P hE hb hl h1, hat]
  have hnew : ∀ phn : Int, phn = (if u + 1 = l.length then 6 else 0) → Ph p rs l ⟨e.gE + 1, false, e.qd, Fe p (A0 p) l (u + 1)⟩ k phn 0 (2 * (e.gE + 1) + 0 + 3 * k) (Fe p (A0 p) l (u + 1)) := by
   intro phn hph
   by_cases hend : u + 1 = l.length
   ·rw [if_pos hend] at hph
    subst hph
    exact .fin k (by show e.gE + 1 = _; omega) rfl hs
   ·rw [if_neg hend] at hph
    subst hph
    obtain ⟨s2, hs2⟩ : ∃ s2, l[(e.gE + 1).toNat]? = some s2 := ⟨l[u + 1]'(by omega), by rw [show (e.gE + 1).toNat = u + 1 by omega]; simp [show u + 1 < l.length by omega]⟩
    exact .idle k s2 hs2 rfl hs (.inl (by show _ = Fe p (A0 p) l (e.gE + 1).toNat; rw [show (e.gE + 1).toNat = u + 1 by omega]))
  have fin : ∀ (v2 : Ab), v2 = Fe p (A0 p) l (u + 1) → aq p rs l (AL ((wI .i64 (e.gE + 1)) == (l.length : Int)) (some ((⟨l, wI .i64 (e.gE + 1), 6, 0, 2 * e.gE + 1 + 3 * (k : Int) + 1, tok, v2⟩ : Ak), [(Bk.mk 1 (Fw.mk 2 tok e.gE ⟨#[]⟩) (DY.mk 0 0 0) 0 0)])) (some (⟨l, wI .i64 (e.gE + 1), 0, 0, 2 * e.gE + 1 + 3 * (k : Int) + 1, tok, v2⟩, [(Bk.mk 1 (Fw.mk 2 tok e.gE ⟨#[]⟩) (DY.mk 0 0 0) 0 0)]))) k tok tok a out := by
   rintro v2 rfl
   rw [Be (n := e.gE + 1) (by omega) (by omega)]
   have hev : S7 a [(Bk.mk 1 (Fw.mk 2 tok e.gE ⟨#[]⟩) (DY.mk 0 0 0) 0 0)] = [QN a 3 e.gE tok] := rfl
   have hac : Qr [(Bk.mk 1 (Fw.mk 2 tok e.gE ⟨#[]⟩) (DY.mk 0 0 0) 0 0)] := KM (acts := []) (by simp) (fun x hx => by cases hx) (by show (1 : Int) ≤ 2 ∧ (2 : Int) ≤ 4; omega)
   rw [show 2 * e.gE + 1 + 3 * (k : Int) + 1 = 2 * (e.gE + 1) + 0 + 3 * k by omega] at T' ⊢
   by_cases hend : u + 1 = l.length
   ·rw [beq_iff_eq.2 (show e.gE + 1 = (l.length : Int) by omega), Ap]
    exact ⟨_, k, 6, 0, _, _, _, rfl, hE', by omega, hnew 6 (by rw [if_pos hend]), hac, by rw [hev]; exact T'⟩
   ·rw [beq_eq_false_iff_ne.2 (show e.gE + 1 ≠ (l.length : Int) by omega), Af]
    exact ⟨_, k, 0, 0, _, _, _, rfl, hE', by omega, hnew 0 (by rw [if_neg hend]), hac, by rw [hev]; exact T'⟩
  unfold DF Cd
  simp only [oS, A2]
  rw [Be (n := 2 * e.gE + 1 + 3 * (k : Int) + 1) (by omega) (by omega), a1]
  simp only [oS]
  by_cases h1 : s.gD = 1
  ·rw [bne_eq_false_iff_eq.2 h1, Af]
   rw [if_neg (by simp [h1])] at hmix
   exact fin e.gB hmix
  ·rw [if_pos h1] at hmix
   obtain ⟨b1, b2, b3⟩ := JJ (Mk X.P hE hb hl h1)
   have haf := H7 N hN (by omega) hp (RY hp X.P hE) b1 b2
   rw [b3, hat] at haf
   rw [bne_iff_ne.2 h1, Ap, show Bu N p _ s = _ from haf]
   exact fin _ rfl
 ·exact absurd X.P q
theorem Mi {r : Option (Ak × List Bk)} {k : Nat} {t tok a : Int} {out : List Ad} (h : aq p rs l r k t tok a out) : aq p rs l (r.bind fun v3 => some ((Ak.mk v3.1.gT v3.1.gE v3.1.gQ v3.1.gO v3.1.gP v3.1.gN ((Ab.mk v3.1.gB.gI v3.1.gB.gF v3.1.gB.gG))), v3.2)) k t tok a out := by
 obtain ⟨e', k', ph', rep', rnd', mx', acts, rfl, h1, h2, h3, h4, h5⟩ := h
 exact ⟨e', k', ph', rep', rnd', mx', acts, rfl, h1, h2, h3, h4, h5⟩
def Y1 (a rnd rep ver : Int) : Ad := ⟨a, 6, 0, 0, 0, 0, 0, rnd, rep, ver, 0⟩
theorem UK {out : List Ad} {tok rnd a : Int} (T : QI p rs l out e tok rnd a) (ha : 0 ≤ a) (hr : 0 ≤ rnd) {rep ver : Int} (h0 : 0 ≤ rep) (h9 : rep < 9223372036854775808) (hv : 0 ≤ ver) (hs : cT rs e.gB (Y1 a rnd rep ver) = false) : QI p rs l (out ++ [Y1 a rnd rep ver]) e tok rnd a := by
 have hx : Pp (Y1 a rnd rep ver) = true := by
  unfold Pp SI PZ Mx Y1
  simp [ha, hr, h0, hv]
 have hb : Ke (Y1 a rnd rep ver) = false := by unfold Ke Y1; simp
 have haf : Gk p l e (Y1 a rnd rep ver) = (e, true) := by unfold Gk; rw [if_pos hb]
 have := T.add hx h9 rfl (yK _) (yK _) (fun q => by cases q) (fun q => by rw [hb] at q; cases q) (fun _ => ⟨hs, yK _, yK _⟩) (fun q => by cases q)
 rw [haf] at this
 exact this
theorem U9 {s : Ae} (X : S3 p rs l) (hE : LL p (A0 p) l e) (hl : l[e.gE.toNat]? = some s) (h3 : s.gD ≠ 3) {a rnd ver j : Int} (j0 : 0 ≤ j) (j1 : j < rs.getD s.gL.toNat 0) (hv : IX e.gB s.gL.toNat ver = true) : cT rs e.gB (Y1 a rnd (Eu rs s.gL.toNat + j) ver) = false ∧ 0 ≤ Eu rs s.gL.toNat + j ∧ Eu rs s.gL.toNat + j < 9223372036854775808 := by
 obtain ⟨_, i0, _, iv, _⟩ := ID X.P hl
 have hi := iv h3
 have hnl := X.A.n
 have hrl := J1 X.A
 have hb := NP rs s.gL.toNat X.A.w
 have hg := X.A.w _ (JA (l := rs) (i := s.gL.toNat) (by omega))
 have ho := Rv rs s.gL.toNat 0 j X.A.w (by omega) j0 j1
 refine ⟨?_, by omega, by omega⟩
 unfold cT Y1
 simp only
 rw [ho, zI, zN, hv, decide_eq_false (by omega)]; rfl
theorem PU {s : Ae} (X : S3 p rs l) (hE : LL p (A0 p) l e) (hl : l[e.gE.toNat]? = some s) (hb : e.qq = true) (h3 : s.gD ≠ 3) : 0 ≤ e.gB.gF.getD s.gL.toNat 0 := by
 obtain ⟨hp, _⟩ := BD X.A.v
 obtain ⟨hk, i0, v0, iv, _⟩ := ID X.P hl
 have hlt := (lI.1 hl).1
 have hi := iv h3
 obtain ⟨s', r1, r2⟩ := hE.beg hb
 rw [hl] at r1; cases r1
 obtain ⟨_, _, b3⟩ := JJ (X.P.st _ s hl)
 have hm := X.P.ok e.gE.toNat (by omega)
 have hn := hm.next
 unfold Fm at b3
 by_cases h1 : s.gD = 1
 ·rw [if_pos h1] at r2
  simp only [if_pos h1] at b3
  split at b3
  ·cases b3
  ·rw [r2, ← Option.some.inj b3]
   simp only
   rw [Hw (by omega), if_pos rfl]
   exact v0
 ·rw [if_neg h1] at r2
  simp only [if_neg h1, if_neg h3] at b3
  split at b3
  ·cases b3
  ·rename_i q
   rw [r2]
   omega
theorem T4 (m : Ab) (i : Nat) : IX m i (m.gF.getD i 0) = true := by unfold IX; rw [beq_self_eq_true, Bool.or_true]
theorem XF (m : Ab) (i : Nat) : IX m i (m.gI.getD i 0) = true := by unfold IX; rw [beq_self_eq_true]; rfl
end Go.Lift
namespace Go.Lift
open Option renaming bind_some → oS
open Go
variable {p : Aa} {rs : List Int} {l : List Ae} {e : Ml}
theorem Yy {N : Nat} (hN : N ≤ 1000000) (h20 : 1010 ≤ N) (X : S3 p rs l) (hE : LL p (A0 p) l e) {k : Nat} {ph rep rnd : Int} {mx : Ab} (h : Ph p rs l e k ph rep rnd mx) (hk : k ≤ 1000) {out : List Ad} {tok a : Int} (T : QI p rs l out e tok rnd a) (ht : 0 < tok) (ha : 0 ≤ a) :
  ∃ sg : Ct, Dh N ⟨l, e.gE, ph, rep, rnd, tok, mx⟩ 0 = some sg ∧ ∀ pass, aq p rs l (A6 N p rs ⟨l, e.gE, ph, rep, rnd, tok, mx⟩ ⟨sg.gD, sg.gN, sg.gP, sg.gO, sg.gV, pass, sg.gX⟩) k tok tok a (out ++ if sg.gD = 4 then [Y1 a sg.gP sg.gO sg.gV] else []) := by
 obtain ⟨hp, _⟩ := BD X.A.v
 obtain ⟨u, hu, hul⟩ := hE.at_
 have hat : e.gE.toNat = u := by omega
 have hn := X.n
 have hm := Vs X hE h
 have hr := X2 h
 have ht0 : (tok == 0) = false := beq_eq_false_iff_ne.2 (by omega)
 have hrep0 : ∀ s : Ae, l[e.gE.toNat]? = some s → s.gD ≠ 3 → 1 ≤ rs.getD s.gL.toNat 0 ∧ Bg rs s.gL = some (rs.getD s.gL.toNat 0) ∧ CI N rs s.gL = some (Eu rs s.gL.toNat) ∧ 0 ≤ Eu rs s.gL.toNat ∧ Eu rs s.gL.toNat ≤ 100 ∧ rs.getD s.gL.toNat 0 ≤ 4 := by
  intro s hl h3
  obtain ⟨_, i0, _, iv, _⟩ := ID X.P hl
  have hi := iv h3
  have hnl := X.A.n
  have hrl := J1 X.A
  have hg := X.A.w _ (JA (l := rs) (i := s.gL.toNat) (by omega))
  have hb := NP rs s.gL.toNat X.A.w
  have ef := M1 (N := N) rs (by omega) X.A.w s.gL.toNat (by omega) (by omega)
  rw [xF i0] at ef
  have := Cl (xs := rs) (i := s.gL.toNat) (d := 0) (by omega)
  rw [xF i0] at this
  exact ⟨hg.1, this, ef, hb.1, by omega, hg.2⟩
 unfold Dh
 simp only [ht0, Af, A2]
 cases h with
 | idle s hl hb hs hm' =>
  refine ⟨⟨3, 0, 0, 0, 0, false, 0⟩, rfl, fun pass => ?_⟩
  unfold A6
  simp only [ht0, A2]
  rw [if_neg (by decide), yU]
  exact Mi (SD hN h20 X hE (.idle k s hl hb hs hm') hk T (by omega) ha)
 | fin hf hb hs =>
  refine ⟨⟨3, 0, 0, 0, 0, false, 0⟩, rfl, fun pass => ?_⟩
  unfold A6
  simp only [ht0, A2]
  rw [if_neg (by decide), yU]
  exact Mi (SD hN h20 X hE (.fin k hf hb hs) hk T (by omega) ha)
 | com s hl hb hs h1 =>
  obtain ⟨a1, a2, a3⟩ := Nj X hE hl (by omega) hm
  obtain ⟨g1, g2, g3, g4, g5, g6⟩ := hrep0 s hl (by omega)
  obtain ⟨w1, w2, w3⟩ := U9 X hE hl (by omega) (a := a) (rnd := 2 * e.gE + 1 + 3 * (k : Int)) (ver := e.gB.gF.getD s.gL.toNat 0) (j := 0) (by omega) (by omega) (T4 _ _)
  rw [Int.add_zero] at w1 w2 w3
  have hw : ∀ t : Int, AZ N ⟨l, e.gE, 1, Eu rs s.gL.toNat, 2 * e.gE + 1 + 3 * (k : Int), t, e.gB⟩ = some (e.gB.gF.getD s.gL.toNat 0) := by
   intro t
   unfold AZ
   rw [a1]
   simp only [oS]
   rw [show ((1 : Int) == 3) = false from rfl, Af, a3]; rfl
  refine ⟨⟨4, 0, 2 * e.gE + 1 + 3 * (k : Int), Eu rs s.gL.toNat, e.gB.gF.getD s.gL.toNat 0, false, 0⟩, ?_, fun pass => ?_⟩
  ·rw [show AZ N _ = _ from hw tok]; rfl
  ·have T2 := UK T ha (by omega) w2 w3 (PU X hE hl hb (by omega)) w1
   unfold A6
   simp only [ht0, A2]
   rw [show AZ N _ = _ from hw tok, a1]
   simp only [oS, beq_self_eq_true, bne_self_eq_false]
   rw [h1, if_pos trivial]
   have hP : Ph p rs l e k 2 (Eu rs s.gL.toNat) (2 * e.gE + 1 + 3 * k) e.gB := .prb k s hl hb hs h1
   obtain ⟨acts, r1, r2, r3⟩ := G8 (N := N) X hE hP tok
   rw [show A3 N (Ak.mk l e.gE 2 _ _ _ _) = _ from r1]
   exact Mb (N := N) X hE hP T2 r2 r3
 | prb s hl hb hs h1 =>
  refine ⟨⟨5, 0, 2 * e.gE + 1 + 3 * (k : Int), 0, 0, true, 0⟩, rfl, fun pass => ?_⟩
  unfold A6
  simp only [ht0, A2]
  rw [if_neg (by decide), yU]
  simp only [beq_self_eq_true]
  cases pass
  ·have a1 : Bg l e.gE = some s := by rw [hu, A1, ← hat]; exact hl
   have hst : Mw p s e (QN a 4 e.gE tok) = (⟨e.gE, false, true, e.gB⟩, true) := by
    unfold Mw
    rw [if_neg (fun q => absurd q.1 (by unfold QN; simp)), if_neg (fun q => absurd q.1 (by unfold QN; simp)), if_pos ⟨rfl, hb, h1⟩]
   rcases Pf T hE hl ha (by omega) (k := 4) (by omega) (by rw [hst]) with ⟨T', hE'⟩ | q
   ·rw [hst] at T' hE'
    have hP : Ph p rs l ⟨e.gE, false, true, e.gB⟩ k 3 (Eu rs s.gL.toNat) (2 * e.gE + 2 + 3 * k) e.gB := .und k s hl rfl rfl h1
    obtain ⟨acts, r1, r2, r3⟩ := G8 (N := N) X hE' hP tok
    unfold Cd
    simp only [oS]
    rw [Be (n := 2 * e.gE + 1 + 3 * (k : Int) + 1) (by omega) (by omega), show 2 * e.gE + 1 + 3 * (k : Int) + 1 = 2 * e.gE + 2 + 3 * k by omega] at *
    rw [show A3 N (Ak.mk l e.gE 3 _ _ _ _) = _ from r1]
    simp only [oS]
    rw [AG (by simp [EI]; omega)]
    refine ⟨⟨e.gE, false, true, e.gB⟩, k, 3, _, _, _, _, rfl, hE', by omega, hP, KM r2 r3 (by show (1 : Int) ≤ 3 ∧ (3 : Int) ≤ 4; omega), ?_⟩
    rw [xZ, S7, if_pos rfl, KC a acts r3]
    exact T'
   ·exact absurd X.P q
  ·exact Mi (Si hN h20 X hE hl hb hs hk T (by omega) ha)
 | fns s j hl hb hs h1 j0 j1 =>
  obtain ⟨a1, a2, a3⟩ := Nj X hE hl (by omega) hm
  obtain ⟨g1, g2, g3, g4, g5, g6⟩ := hrep0 s hl (by omega)
  obtain ⟨w1, w2, w3⟩ := U9 X hE hl (by omega) (a := a) (rnd := 2 * e.gE + 1 + 3 * (k : Int)) (ver := e.gB.gF.getD s.gL.toNat 0) (j := j) j0 j1 (T4 _ _)
  have hw : ∀ t : Int, AZ N ⟨l, e.gE, 1, Eu rs s.gL.toNat + j, 2 * e.gE + 1 + 3 * (k : Int), t, e.gB⟩ = some (e.gB.gF.getD s.gL.toNat 0) := by
   intro t
   unfold AZ
   rw [a1]
   simp only [oS]
   rw [show ((1 : Int) == 3) = false from rfl, Af, a3]; rfl
  refine ⟨⟨4, 0, 2 * e.gE + 1 + 3 * (k : Int), Eu rs s.gL.toNat + j, e.gB.gF.getD s.gL.toNat 0, false, 0⟩, ?_, fun pass => ?_⟩
  ·rw [show AZ N _ = _ from hw tok]; rfl
  ·have T2 := UK T ha (by omega) w2 w3 (PU X hE hl hb (by omega)) w1
   unfold A6
   simp only [ht0, A2]
   rw [show AZ N _ = _ from hw tok, a1]
   simp only [oS, beq_self_eq_true, bne_self_eq_false]
   rw [h1, if_pos trivial, g3, g2]
   simp only [oS]
   rw [Be (n := Eu rs s.gL.toNat + rs.getD s.gL.toNat 0) (by omega) (by omega), Be (n := Eu rs s.gL.toNat + rs.getD s.gL.toNat 0 - 1) (by omega) (by omega), Be (n := Eu rs s.gL.toNat + j + 1) (by omega) (by omega)]
   by_cases hlast : j = rs.getD s.gL.toNat 0 - 1
   ·rw [beq_iff_eq.2 (show Eu rs s.gL.toNat + j = Eu rs s.gL.toNat + rs.getD s.gL.toNat 0 - 1 by omega)]
    exact Mi (Si hN h20 X hE hl hb hs hk T2 (by omega) ha)
   ·rw [beq_eq_false_iff_ne.2 (show Eu rs s.gL.toNat + j ≠ Eu rs s.gL.toNat + rs.getD s.gL.toNat 0 - 1 by omega)]
    have hP : Ph p rs l e k 1 (Eu rs s.gL.toNat + (j + 1)) (2 * e.gE + 1 + 3 * k) e.gB := .fns k s (j + 1) hl hb hs h1 (by omega) (by omega)
    rw [← Int.add_assoc] at hP
    obtain ⟨acts, r1, r2, r3⟩ := G8 (N := N) X hE hP tok
    rw [show A3 N (Ak.mk l e.gE 1 (Eu rs s.gL.toNat + j + 1) _ _ _) = _ from r1]
    exact Mb (N := N) X hE hP T2 r2 r3
 | und s hl hb hs h1 =>
  obtain ⟨a1, a2, a3⟩ := Nj X hE hl (by omega) hm
  obtain ⟨g1, g2, g3, g4, g5, g6⟩ := hrep0 s hl (by omega)
  have hbn := hm.base
  obtain ⟨_, i0, _, iv, _⟩ := ID X.P hl
  have hi := iv (by omega)
  have hb0 : 0 ≤ e.gB.gI.getD s.gL.toNat 0 := by
   have := hm.b0 s.gL.toNat (by omega)
   omega
  obtain ⟨w1, w2, w3⟩ := U9 X hE hl (by omega) (a := a) (rnd := 2 * e.gE + 2 + 3 * (k : Int)) (ver := e.gB.gI.getD s.gL.toNat 0) (j := 0) (by omega) (by omega) (XF _ _)
  rw [Int.add_zero] at w1 w2 w3
  have hw : ∀ t : Int, AZ N ⟨l, e.gE, 3, Eu rs s.gL.toNat, 2 * e.gE + 2 + 3 * (k : Int), t, e.gB⟩ = some (e.gB.gI.getD s.gL.toNat 0) := by
   intro t
   unfold AZ
   rw [a1]
   simp only [oS]
   rw [show ((3 : Int) == 3) = true from rfl, Ap, a2]; rfl
  refine ⟨⟨4, 0, 2 * e.gE + 2 + 3 * (k : Int), Eu rs s.gL.toNat, e.gB.gI.getD s.gL.toNat 0, false, 0⟩, ?_, fun pass => ?_⟩
  ·rw [show AZ N _ = _ from hw tok]; rfl
  ·have T2 := UK T ha (by omega) w2 w3 hb0 w1
   unfold A6
   simp only [ht0, A2]
   rw [show AZ N _ = _ from hw tok, a1]
   simp only [oS, beq_self_eq_true, bne_self_eq_false]
   rw [if_pos trivial]
   have hl' : l[u]? = some s := by rw [← hat]; exact hl
   have hab := M2 hN h20 X hl' h1
   rw [← hu, ← hat] at hab
   rw [hab]
   have hP : Ph p rs l e k 5 0 (2 * e.gE + 2 + 3 * k) (Lp (Fe p (A0 p) l (e.gE.toNat + 1)) s.gL.toNat) := .fld k s hl hb hs h1
   exact Mb (N := N) X hE hP T2 (acts := []) (by simp) (fun x hx => by cases hx)
 | clr s hl hb hs h1 =>
  have a1 : Bg l e.gE = some s := by rw [hu, A1, ← hat]; exact hl
  rw [a1]
  refine ⟨⟨6, 0, 2 * e.gE + 1 + 3 * (k : Int), 0, 0, false, s.gL⟩, rfl, fun pass => ?_⟩
  unfold A6
  simp only [ht0, A2]
  rw [if_neg (by decide), yU, a1]
  simp only [beq_self_eq_true, oS]
  exact Mi (Si hN h20 X hE hl hb hs hk T (by omega) ha)
 | fld s hl hb hs h1 =>
  have a1 : Bg l e.gE = some s := by rw [hu, A1, ← hat]; exact hl
  refine ⟨⟨7, 0, 0, 0, 0, false, 0⟩, rfl, fun pass => ?_⟩
  unfold A6
  simp only [ht0, A2]
  rw [if_neg (by decide), yU]
  have hst : Mw p s e (QN a 5 e.gE tok) = (⟨e.gE, e.qq, false, Lp (Fe p (A0 p) l (e.gE.toNat + 1)) s.gL.toNat⟩, true) := by
   unfold Mw
   rw [if_neg (fun q => absurd q.1 (by unfold QN; simp)), if_neg (fun q => absurd q.1 (by unfold QN; simp)), if_neg (fun q => absurd q.1 (by unfold QN; simp)), if_pos ⟨rfl, hs⟩, Ny X.P hE hs hl]
  rcases Pf T hE hl ha (by omega) (k := 5) (by omega) (by rw [hst]) with ⟨T', hE'⟩ | q
  ·rw [hst] at T' hE'
   have hP : Ph p rs l ⟨e.gE, e.qq, false, Lp (Fe p (A0 p) l (e.gE.toNat + 1)) s.gL.toNat⟩ (k + 1) 0 0 (2 * e.gE + 0 + 3 * ((k + 1 : Nat) : Int)) (Lp (Fe p (A0 p) l (e.gE.toNat + 1)) s.gL.toNat) := .idle (k + 1) s hl hb rfl (.inr ⟨h1, by omega, rfl⟩)
   unfold Cd
   simp only [oS]
   rw [show 2 * e.gE + 2 + 3 * (k : Int) + 1 = 2 * e.gE + 0 + 3 * ((k + 1 : Nat) : Int) by omega] at T'
   rw [Be (n := 2 * e.gE + 2 + 3 * (k : Int) + 1) (by omega) (by omega), show 2 * e.gE + 2 + 3 * (k : Int) + 1 = 2 * e.gE + 0 + 3 * ((k + 1 : Nat) : Int) by omega]
   refine ⟨⟨e.gE, e.qq, false, Lp (Fe p (A0 p) l (e.gE.toNat + 1)) s.gL.toNat⟩, k + 1, 0, 0, _, _, _, rfl, hE', by omega, hP, KM (acts := []) (by simp) (fun x hx => by cases hx) (by show (1 : Int) ≤ 4 ∧ (4 : Int) ≤ 4; omega), T'⟩
  ·exact absurd X.P q
end Go.Lift
namespace Go.Lift
open IntKind renaming wrap → wI
open Option renaming bind_some → oS
open Go
variable {p : Aa} {rs : List Int} {l : List Ae} {e : Ml}
def cS (a : Int) (x : Ad) : Ad := ⟨a, x.gD, x.gX, x.g8, x.hJ, x.gL, x.gN, x.gP, x.gO, x.gV, x.qv⟩
theorem XX {N : Nat} (hN : N ≤ 1000000) (h20 : 1010 ≤ N) (X : S3 p rs l) (hE : LL p (A0 p) l e) {k : Nat} {ph rep rnd : Int} {mx : Ab} (h : Ph p rs l e k ph rep rnd mx) (hk : k ≤ 1000) {out : List Ad} {t tok a n : Int} (T : QI p rs l out e tok rnd a) (ht : t = 0 ∨ (t = tok ∧ 0 < tok)) (h0 : 0 ≤ tok) (ha : 0 ≤ a) (hn : 0 ≤ n ∧ n ≤ 255) :
  ∃ sg pts t', CN N ⟨l, e.gE, ph, rep, rnd, t, mx⟩ n (if t = 0 then tok + 1 else tok) = some (sg, pts) ∧ pts.length ≤ 1 ∧ (t' = 0 ∨ (t' = (if t = 0 then tok + 1 else tok) ∧ 0 < (if t = 0 then tok + 1 else tok))) ∧ aq p rs l (A6 N p rs ⟨l, e.gE, ph, rep, rnd, t, mx⟩ sg) k t' (if t = 0 then tok + 1 else tok) a (out ++ pts.map (cS a)) := by
 unfold CN
 by_cases hz : t = 0
 ·subst hz
  rw [beq_self_eq_true, Ap, if_pos rfl]
  refine ⟨_, _, tok + 1, rfl, by simp, .inr ⟨rfl, by omega⟩, ?_⟩
  have hh : 0 ≤ wI .i64 (zJ n 2) := by
   obtain ⟨u, rfl⟩ := zF hn.1
   rw [show zJ (u : Int) 2 = ((u % 2 : Nat) : Int) from rfl, Be (by omega) (by omega)]
   exact xK _
  generalize wI .i64 (zJ n 2) = hd at hh
  have hx : Pp ⟨a, 7, 0, 0, 0, 0, tok + 1, 0, 0, 0, hd⟩ = true := by
   unfold Pp SI PZ Mx
   simp [ha, hh, show 0 ≤ tok + 1 by omega]
  have hb : Ke ⟨a, 7, 0, 0, 0, 0, tok + 1, 0, 0, 0, hd⟩ = false := by unfold Ke; simp
  have haf : Gk p l e ⟨a, 7, 0, 0, 0, 0, tok + 1, 0, 0, 0, hd⟩ = (e, true) := by unfold Gk; rw [if_pos hb]
  have T2 := T.add (tok' := tok + 1) (rnd' := rnd) hx (by show (0 : Int) < _; omega) rfl (by omega) (yK _) (fun q => by cases q) (fun q => by rw [hb] at q; cases q) (fun q => by cases q) (fun _ => ⟨by show tok < tok + 1; omega, by show tok + 1 ≤ tok + 1; omega⟩)
  rw [haf] at T2
  unfold A6
  simp only [beq_self_eq_true, Ap]
  rw [AB (show ¬ (tok + 1 ≤ 0) by omega)]
  exact Mi (SD hN h20 X hE h hk T2 (by omega) ha)
 ·obtain ⟨rfl, hp0⟩ : t = tok ∧ 0 < tok := by rcases ht with q | q; exact absurd q hz; exact q
  rw [beq_eq_false_iff_ne.2 hz, Af, if_neg hz]
  cases h5 : (zJ n 8 == 5)
  ·rw [Af]
   obtain ⟨sg, s1, s2⟩ := Yy hN h20 X hE h hk T hp0 ha
   rw [show Dh N _ 0 = _ from s1]
   simp only [oS, A2]
   have fin : ∀ pass : Bool, ∃ sg' pts t', (AL (sg.gD == 4) (some ((Ct.mk sg.gD sg.gN sg.gP sg.gO sg.gV pass sg.gX), ([(Ad.mk 0 6 0 0 0 0 0 sg.gP sg.gO sg.gV 0)] : List Ad))) (some ((Ct.mk sg.gD sg.gN sg.gP sg.gO sg.gV pass sg.gX), ([] : List Ad)))) = some (sg', pts) ∧ pts.length ≤ 1 ∧ (t' = 0 ∨ (t' = t ∧ 0 < t)) ∧ aq p rs l (A6 N p rs ⟨l, e.gE, ph, rep, rnd, t, mx⟩ sg') k t' t a (out ++ pts.map (cS a)) := by
    intro pass
    have s3 := s2 pass
    by_cases h4 : sg.gD = 4
    ·rw [beq_iff_eq.2 h4, Ap]
     rw [if_pos h4] at s3
     exact ⟨_, _, t, rfl, by simp, .inr ⟨rfl, hp0⟩, s3⟩
    ·rw [beq_eq_false_iff_ne.2 h4, Af]
     rw [if_neg h4] at s3
     exact ⟨_, _, t, rfl, by simp, .inr ⟨rfl, hp0⟩, s3⟩
   cases (sg.gD == 5)
   ·exact fin sg.qG
   ·exact fin _
  ·rw [Ap]
   refine ⟨_, _, 0, rfl, by simp, .inl rfl, ?_⟩
   unfold A6
   simp only [A2]
   rw [beq_eq_false_iff_ne.2 hz]
   simp only [Af]
   have := Mb (N := N) X hE h (t := 0) T (acts := []) (by simp) (fun x hx => by cases hx)
   rw [zB4, yU]
   exact this
theorem X4 {N : Nat} (h2 : 2 < N) (v3 : Ak × (List Ad) × Int × Int) (J : List Ad → Option (Aa × (List Int) × (List Ae) × (List Ad) × Bool)) (out pts : List Ad) (hl : pts.length ≤ 1) (ho : out.length ≤ 1000) : Bo N v3 J N (out, pts, 0) = J (out ++ pts.map (cS (wI .i64 (y5 v3.2.2.2 2)))) := by
 obtain ⟨n, rfl⟩ : ∃ n, N = n + 2 := ⟨N - 2, by omega⟩
 match pts, hl with
 | [], _ =>
  rw [Bo, AB (by simp), zB4, yU]
 | [x], _ =>
  rw [Bo, AK (by simp)]
  simp only [show Bg [x] (0 : Int) = some x from rfl, oS]
  show (zB9 (some (cS (wI .i64 (y5 v3.2.2.2 2)) x)) _) = _
  simp only [oS]
  rw [AG (by simp [EI]; omega), Bo, AB (by show ¬ ((1 : Int) < ((1 : Nat) : Int)); omega)]
  rfl
theorem W6 (a : Int) (x : Bk) (xs : List Bk) : S7 a (x :: xs) = (if x.gD = 1 then [QN a (x.qt.gD + 1) x.qt.gL x.qt.gN] else []) ++ S7 a xs := by
 rw [S7]
 split <;> rfl
theorem SA (a : Int) : ∀ acts : List Bk, (S7 a acts).length = (acts.filter fun x => x.gD == 1).length
 | [] => rfl
 | x :: xs => by
  rw [S7, List.filter_cons]
  by_cases h : x.gD = 1
  ·rw [if_pos h, if_pos (beq_iff_eq.2 h), zX, zX, SA a xs]
  ·rw [if_neg h, if_neg (by simp [h]), SA a xs]
theorem Oa {N : Nat} (v3 : Ak × (List Ad) × Int × Int) (v24 : Ak × (List Bk) × Int) (A : Qr v24.2.1) (J : List Ad → Option (Aa × (List Int) × (List Ae) × (List Ad) × Bool)) : ∀ (n j : Nat) (out : List Ad), v24.2.1.length - j < n → j ≤ v24.2.1.length → out.length ≤ 1000 + j →
  BW N v3 v24 J n (out, (j : Int)) = J (out ++ S7 (wI .i64 (y5 v3.2.2.2 2)) (v24.2.1.drop j))
 | 0, _, _, h, _, _ => by omega
 | n + 1, j, out, h, hj, ho => by
  have h4 := A.n
  rw [BW]
  by_cases h1 : j < v24.2.1.length
  ·have hx : v24.2.1[j]? = some v24.2.1[j] := by simp [h1]
   rw [AK (by simp only; omega), D7 hx, W6]
   simp only [A1, hx, oS, A2]
   rw [AR (by omega)]
   by_cases hk : (v24.2.1[j]).gD = 1
   ·obtain ⟨k1, k4⟩ := A.k _ (yN h1) hk
    have hp : D1 N (wI .i64 (y5 v3.2.2.2 2)) v24.2.1[j] = some (QN (wI .i64 (y5 v3.2.2.2 2)) ((v24.2.1[j]).qt.gD + 1) (v24.2.1[j]).qt.gL (v24.2.1[j]).qt.gN) := by
     unfold D1
     generalize (v24.2.1[j]).qt.gD = q at k1 k4
     have : q = 1 ∨ q = 2 ∨ q = 3 ∨ q = 4 := by omega
     rcases this with rfl | rfl | rfl | rfl <;> rfl
    rw [if_pos hk, beq_iff_eq.2 hk, Ap, show D1 N _ _ = _ from hp]
    simp only [oS]
    rw [AG (by simp [EI]; omega), Oa v3 v24 A J n (j + 1) _ (by omega) (by omega) (by rw [zZ]; simp only [zX, xW]; omega), xG]
   ·rw [if_neg hk, beq_eq_false_iff_ne.2 hk, Af, Oa v3 v24 A J n (j + 1) _ (by omega) (by omega) (by omega), xY]
  ·rw [AB (by simp only; omega), zW (by omega), S7, yU]
theorem Wz {N : Nat} (hN : N ≤ 1000000) (h20 : 1010 ≤ N) (X : S3 p rs l) (hE : LL p (A0 p) l e) {k : Nat} {ph rep rnd t : Int} {mx : Ab} (h : Ph p rs l e k ph rep rnd mx) (hk : k ≤ 1000) (ht : 0 ≤ t) (sg : Ct) {c' : Ak} {acts : List Bk} (hn : A6 N p rs ⟨l, e.gE, ph, rep, rnd, t, mx⟩ sg = some (c', acts)) : Dg N p rs ⟨l, e.gE, ph, rep, rnd, t, mx⟩ sg = some (c', acts, 0) := by
 have hrl := J1 X.A
 have hS : Kv p rs = 0 := by
  unfold Kv
  rw [if_neg (by simp [X.A.n]), if_neg]
  intro q
  obtain ⟨v, v1, v2⟩ := yE.1 q
  have := X.A.w v v1
  simp only [yS, decide_eq_true_eq] at v2
  omega
 unfold Dg FI
 rw [M3 hN (by omega) p rs (by omega) (by omega), if_neg (by simp [X.A.v]), hS]
 simp only [oS, bne_self_eq_false, Af]
 rw [show D9 N p rs _ = _ from U6 hN h20 X hE h hk ht]
 simp only [oS, zK, Af, bne_self_eq_false]
 rw [show A6 N p rs _ sg = _ from hn]; rfl
theorem V5 {m : Ab} {i s : Nat} {v : Int} (hv : 0 ≤ v) (h : IX (Lp m i) s v = true) : IX m s v = true := by
 unfold IX Lp at *
 rw [yS] at *
 rcases h with h | h
 ·exact .inl h
 ·right
  rw [beq_iff_eq] at h ⊢
  by_cases hi : i < m.gF.length
  ·simp only at h
   rw [Hw hi] at h
   split at h
   ·omega
   ·exact h
  ·simp only at h
   rw [List.set_eq_of_length_le (by omega)] at h
   exact h
theorem Zp (X : S3 p rs l) (hE : LL p (A0 p) l e) {k : Nat} {ph rep rnd : Int} {mx : Ab} (h : Ph p rs l e k ph rep rnd mx) {r : Ad} (w0 : 0 ≤ r.g8) (r0 : 0 ≤ r.hJ) (hp : LN p mx r = true) : LN p e.gB r = true := by
 cases h with
 | fld s hl hb hs h1 =>
  obtain ⟨s', q1, _, q3⟩ := hE.stp hs
  rw [q3]
  unfold LN at *
  cases ht : p.gJ[r.gX.toNat]? with
  | none => rw [ht] at hp; exact hp
  | some t =>
   rw [ht] at hp
   simp only [zC] at hp ⊢
   refine ⟨V5 r0 hp.1, ?_⟩
   have h2 := hp.2
   split
   ·rename_i q; rw [if_pos q] at h2; exact h2
   ·rename_i q; rw [if_neg q] at h2; exact V5 w0 h2
 | _ => exact hp
theorem K9 {N : Nat} (hN : N ≤ 1000000) (h20 : 1010 ≤ N) (X : S3 p rs l) (cs : List Int) (hc : cs.length ≤ 60) (hb : ∀ c, c ∈ cs → 0 ≤ c ∧ c ≤ 255) (v1 : Aa × (List Int) × Ak × Bool) (h1 : v1.1 = p) (h2 : v1.2.1 = rs) : ∀ (n i : Nat) (e : Ml) (k : Nat) (ph rep rnd t tok : Int) (mx : Ab) (out : List Ad), cs.length - i < n → i ≤ cs.length → LL p (A0 p) l e → Ph p rs l e k ph rep rnd mx → k ≤ i → (t = 0 ∨ (t = tok ∧ 0 < tok)) → 0 ≤ tok → tok ≤ i → QI p rs l out e tok rnd (i / 2 : Nat) → out.length ≤ 2 * i →
  ∃ out' e' tok' rnd' a', BK N cs v1 (fun v4 => some (v1.1, v1.2.1, v4.1.gT, v4.2, true)) n (⟨l, e.gE, ph, rep, rnd, t, mx⟩, out, tok, (i : Int)) = some (p, rs, l, out', true) ∧ LL p (A0 p) l e' ∧ QI p rs l out' e' tok' rnd' a' ∧ out'.length ≤ 120
 | 0, _, _, _, _, _, _, _, _, _, _, h, _, _, _, _, _, _, _, _, _ => by omega
 | n + 1, i, e, k, ph, rep, rnd, t, tok, mx, out, h, hi, hE, hP, hki, ht, htk, hti, T, ho => by
  obtain ⟨hp, _⟩ := BD X.A.v
  rw [BK]
  by_cases hlt : i < cs.length
  ·have hx : cs[i]? = some cs[i] := by simp [hlt]
   obtain ⟨c0, c9⟩ := hb _ (yN hlt)
   rw [AK (by simp only; omega)]
   simp only [A1, hx, oS, A2]
   obtain ⟨rd, r1, r2, r3⟩ := Tc (N := N) (by omega) hp (Vs X hE hP)
   rw [h1, h2, show D2 N p _ = _ from r1]
   simp only [oS]
   have hat : wI .i64 (y5 (i : Int) 2) = ((i / 2 : Nat) : Int) := by
    rw [show y5 (i : Int) 2 = ((i / 2 : Nat) : Int) from rfl, Be (by omega) (by omega)]
   rw [hat, AR (show i < 1000000 by omega)]
   have hmono : ((i / 2 : Nat) : Int) ≤ (((i + 1) / 2 : Nat) : Int) := by omega
   -- a signal
   have sig : ∃ out' e' tok' rnd' a', (CN N ⟨l, e.gE, ph, rep, rnd, t, mx⟩ cs[i] (if t = 0 then tok + 1 else tok)).bind (fun v17 =>
      Bo N (⟨l, e.gE, ph, rep, rnd, t, mx⟩, out, tok, (i : Int)) (fun (v19 : (List Ad)) =>
       (Dg N p rs ⟨l, e.gE, ph, rep, rnd, t, mx⟩ v17.1).bind fun v24 =>
       BW N (⟨l, e.gE, ph, rep, rnd, t, mx⟩, out, tok, (i : Int)) v24 (fun (v26 : (List Ad)) =>
        BK N cs v1 (fun v4 => some (p, rs, v4.1.gT, v4.2, true)) n (v24.1, v26, (if t = 0 then tok + 1 else tok), ((i + 1 : Nat) : Int))) N (v19, 0)) N (out, v17.2, 0)) = some (p, rs, l, out', true) ∧ LL p (A0 p) l e' ∧ QI p rs l out' e' tok' rnd' a' ∧ out'.length ≤ 120 := by
    obtain ⟨sg, pts, t', s1, s2, s3, s4⟩ := XX hN h20 X hE hP (by omega) T ht htk (xK _) ⟨c0, c9⟩
    obtain ⟨e', k', ph', rep', rnd', mx', acts, q1, q2, q3, q4, q5, q6⟩ := s4
    rw [s1]
    simp only [oS]
    rw [X4 (by omega) _ _ out pts s2 (by omega)]
    have hst := Wz hN h20 X hE hP (by omega) (t := t) (by rcases ht with g | g <;> omega) sg q1
    rw [hst]
    simp only [oS]
    have hal := Oa (N := N) (⟨l, e.gE, ph, rep, rnd, t, mx⟩, out, tok, (i : Int)) (⟨l, e'.gE, ph', rep', rnd', t', mx'⟩, acts, 0) q5 (fun (v26 : (List Ad)) => BK N cs v1 (fun v4 => some (p, rs, v4.1.gT, v4.2, true)) n (⟨l, e'.gE, ph', rep', rnd', t', mx'⟩, v26, (if t = 0 then tok + 1 else tok), ((i + 1 : Nat) : Int))) N 0 (out ++ pts.map (cS (wI .i64 (y5 (i : Int) 2)))) (by have := q5.n; simp only; omega) (zL _) (by rw [zZ, zU]; omega)
    rw [zY, hat] at hal
    rw [hat]
    have hev := SA ((i / 2 : Nat) : Int) acts
    have hone := q5.one
    obtain ⟨out2, e2, tok2, rnd2, a2, w1, w2, w3, w4⟩ := K9 hN h20 X cs hc hb v1 h1 h2 n (i + 1) e' k' ph' rep' rnd' t' (if t = 0 then tok + 1 else tok) mx' (out ++ pts.map (cS ((i / 2 : Nat) : Int)) ++ S7 ((i / 2 : Nat) : Int) acts) (by omega) (by omega) q2 q4 (by omega) s3 (by split <;> omega) (by split <;> omega) (q6.le (yK _) (yK _) hmono) (by rw [zZ, zZ, zU]; omega)
    rw [h1, h2] at w1
    exact ⟨out2, e2, tok2, rnd2, a2, Eq.trans hal w1, w2, w3, w4⟩
   have sig' : ∃ out' e' tok' rnd' a', (AL (t == 0) ((CN N ⟨l, e.gE, ph, rep, rnd, t, mx⟩ cs[i] (wI .i64 (tok + 1))).bind (fun v17 =>
      Bo N (⟨l, e.gE, ph, rep, rnd, t, mx⟩, out, tok, (i : Int)) (fun (v19 : (List Ad)) =>
       (Dg N p rs ⟨l, e.gE, ph, rep, rnd, t, mx⟩ v17.1).bind fun v24 =>
       BW N (⟨l, e.gE, ph, rep, rnd, t, mx⟩, out, tok, (i : Int)) v24 (fun (v26 : (List Ad)) =>
        BK N cs v1 (fun v4 => some (p, rs, v4.1.gT, v4.2, true)) n (v24.1, v26, (wI .i64 (tok + 1)), ((i + 1 : Nat) : Int))) N (v19, 0)) N (out, v17.2, 0)))
     ((CN N ⟨l, e.gE, ph, rep, rnd, t, mx⟩ cs[i] tok).bind (fun v17 =>
      Bo N (⟨l, e.gE, ph, rep, rnd, t, mx⟩, out, tok, (i : Int)) (fun (v19 : (List Ad)) =>
       (Dg N p rs ⟨l, e.gE, ph, rep, rnd, t, mx⟩ v17.1).bind fun v24 =>
       BW N (⟨l, e.gE, ph, rep, rnd, t, mx⟩, out, tok, (i : Int)) v24 (fun (v26 : (List Ad)) =>
        BK N cs v1 (fun v4 => some (p, rs, v4.1.gT, v4.2, true)) n (v24.1, v26, tok, ((i + 1 : Nat) : Int))) N (v19, 0)) N (out, v17.2, 0)))) = some (p, rs, l, out', true) ∧ LL p (A0 p) l e' ∧ QI p rs l out' e' tok' rnd' a' ∧ out'.length ≤ 120 := by
    by_cases hz : t = 0
    ·simp only [if_pos hz] at sig
     rw [beq_iff_eq.2 hz, Ap, Be (n := tok + 1) (by omega) (by omega)]
     exact sig
    ·simp only [if_neg hz] at sig
     rw [beq_eq_false_iff_ne.2 hz, Af]
     exact sig
   cases h6 : decide (6 ≤ zJ cs[i] 8)
   ·rw [Af, Af]
    exact sig'
   ·rw [Ap]
    by_cases hrd : (0 : Int) < (rd.length : Int)
    ·rw [decide_eq_true hrd, Ap, AG (by omega)]
     obtain ⟨u, hu⟩ := zF c0
     rw [hu, show y5 (u : Int) 8 = ((u / 8 : Nat) : Int) from rfl, Yw (by omega), Be (n := ((u / 8 : Nat) : Int)) (by omega) (by omega), show zJ ((u / 8 : Nat) : Int) (rd.length : Int) = ((u / 8 % rd.length : Nat) : Int) from rfl]
     have hm := Nat.mod_lt (u / 8) (show 0 < rd.length by omega)
     have hg : rd[u / 8 % rd.length]? = some rd[u / 8 % rd.length] := by simp [hm]
     rw [A1, hg]
     simp only [oS]
     rw [AG (by simp [EI]; omega)]
     have hr := r3 _ (yN hm)
     generalize rd[u / 8 % rd.length] = r at hr
     have hpt := dR hr (a := ((i / 2 : Nat) : Int)) (xK _)
     obtain ⟨z1, k1, z3, z4, z5, z6, z7, z8, t0, w0, rr0, f1, f2⟩ := hr
     have hbs : Ke ⟨((i / 2 : Nat) : Int), r.gD, r.gX, r.g8, r.hJ, r.gL, r.gN, r.gP, r.gO, r.gV, r.qv⟩ = false := by unfold Ke; simp [k1]
     have haf : Gk p l e ⟨((i / 2 : Nat) : Int), r.gD, r.gX, r.g8, r.hJ, r.gL, r.gN, r.gP, r.gO, r.gV, r.qv⟩ = (e, true) := by unfold Gk; rw [if_pos hbs]
     have hpres : LN p e.gB r = true := Zp X hE hP w0 rr0 f2
     have T2 := T.add (tok' := tok) (rnd' := rnd) hpt (by show r.gO < _; omega) rfl (yK _) (yK _) (fun _ => ⟨f1, hpres⟩) (fun q => by rw [hbs] at q; cases q) (fun q => by have q : r.gD = 6 := q; omega) (fun q => by have q : r.gD = 7 := q; omega)
     rw [haf] at T2
     have w := K9 hN h20 X cs hc hb v1 h1 h2 n (i + 1) e k ph rep rnd t tok mx (out ++ [⟨((i / 2 : Nat) : Int), r.gD, r.gX, r.g8, r.hJ, r.gL, r.gN, r.gP, r.gO, r.gV, r.qv⟩]) (by omega) (by omega) hE hP (by omega) ht htk (by omega) (T2.le (yK _) (yK _) hmono) (by rw [zZ]; simp only [zX, xW]; omega)
     rw [h1, h2] at w
     exact w
    ·rw [decide_eq_false hrd, Af]
     exact sig'
  ·rw [AB (by simp only; omega)]
   exact ⟨out, e, tok, rnd, _, by rw [h1, h2], hE, T, by omega⟩
theorem Tk {N : Nat} (c : Bz) (hR : ∀ v, v ∈ c.qA → 0 ≤ v ∧ v ≤ 255) (v1 : Aa × Bool) (hv : v1.1.gH.length ≤ 100) (J : List Int → Option (Aa × (List Int) × Ak × Bool)) : ∀ (n i : Nat) (acc : List Int), v1.1.gH.length - i < n → i ≤ v1.1.gH.length → acc.length = i → (∀ v, v ∈ acc → 1 ≤ v ∧ v ≤ 4) →
  ∃ rs, Du N c v1 J n (acc, (i : Int)) = J rs ∧ rs.length = v1.1.gH.length ∧ ∀ v, v ∈ rs → 1 ≤ v ∧ v ≤ 4
 | 0, _, _, h, _, _, _ => by omega
 | n + 1, i, acc, h, hi, hl, ha => by
  rw [Du]
  by_cases h1 : i < v1.1.gH.length
  ·rw [AK (by simp only; omega)]
   simp only [A2]
   have step : ∀ v12 : Int, 1 ≤ v12 → v12 ≤ 4 → ∃ rs, ((ES (acc.length + (([v12] : List Int)).length ≤ EI)).bind fun _ => Du N c v1 J n (acc ++ (([v12] : List Int)), (wI .i64 ((i : Int) + 1)))) = J rs ∧ rs.length = v1.1.gH.length ∧ ∀ v, v ∈ rs → 1 ≤ v ∧ v ≤ 4 := by
    intro v12 g1 g2
    rw [AG (by simp [EI]; omega), AR (by omega)]
    exact Tk c hR v1 hv J n (i + 1) (acc ++ [v12]) (by omega) (by omega) (by rw [zZ, hl]; rfl) fun v hv => by
     rcases yI.1 hv with q | q
     ·exact ha v q
     ·rw [yF.1 q]; exact ⟨g1, g2⟩
   by_cases h2 : i < c.qA.length
   ·have hx : c.qA[i]? = some c.qA[i] := by simp [h2]
    obtain ⟨c0, c9⟩ := hR _ (yN h2)
    rw [AK (by omega), A1, hx]
    simp only [oS]
    obtain ⟨u, hu⟩ := zF c0
    rw [hu, show zJ (u : Int) 3 = ((u % 3 : Nat) : Int) from rfl, Be (n := ((u % 3 : Nat) : Int)) (by omega) (by omega), Be (n := 1 + ((u % 3 : Nat) : Int)) (by omega) (by omega)]
    exact step _ (by omega) (by omega)
   ·rw [AB (by omega)]
    exact step 1 (by omega) (by omega)
  ·rw [AB (by simp only; omega)]
   exact ⟨acc, rfl, by omega, ha⟩
theorem Xc {N : Nat} (hN : N ≤ 1000000) (h20 : 1010 ≤ N) {p : Aa} {rs : List Int} (A : NW p rs) (l : List Ae) (hl : l.length ≤ 1000) : ∃ c, EM N p rs l = some (c, if KV p l = true then 0 else 13) ∧ (KV p l = true → c = ⟨l, 0, if l.length = 0 then 6 else 0, 0, 0, 0, A0 p⟩) := by
 have hrl := J1 A
 have hS : Kv p rs = 0 := by
  unfold Kv
  rw [if_neg (by simp [A.n]), if_neg]
  intro q
  obtain ⟨v, v1, v2⟩ := yE.1 q
  have := A.w v v1
  simp only [yS, decide_eq_true_eq] at v2
  omega
 unfold EM
 rw [M3 hN (by omega) p rs (by omega) (by omega), if_neg (by simp [A.v]), hS, KQ hN (by omega) hl (by omega), Id N p hN (by omega), if_pos A.v]
 simp only [oS, bne_self_eq_false, Af, A2]
 cases KV p l
 ·exact ⟨_, rfl, fun h => by cases h⟩
 ·rw [zK, Af, AG (by simp [EI]; omega)]
  by_cases h0 : l.length = 0
  ·rw [beq_iff_eq.2 (show (l.length : Int) = 0 by omega), Ap]
   exact ⟨_, rfl, fun _ => by rw [if_pos h0]; rfl⟩
  ·rw [beq_eq_false_iff_ne.2 (show (l.length : Int) ≠ 0 by omega), Af]
   exact ⟨_, rfl, fun _ => by rw [if_neg h0]; rfl⟩
theorem al {N : Nat} (hN : N ≤ 1000000) (h20 : 1010 ≤ N) (d : BG) (wd : GR d) (R : List Int) (wR : Oq Lr R) : ∃ p rs c ok, E7 N ⟨d, R, []⟩ = some (p, rs, c, ok) ∧ (ok = true → ∃ l, S3 p rs l ∧ c = ⟨l, 0, if l.length = 0 then 6 else 0, 0, 0, 0, A0 p⟩) := by
 obtain ⟨p, ok, e, hok⟩ := fS N d hN (by omega) wd
 unfold E7
 rw [show Fc N _ = _ from e]
 simp only [oS, A2]
 cases ok
 ·exact ⟨_, _, _, false, rfl, fun h => by cases h⟩
 have hv := (hok rfl).valid
 obtain ⟨hp, _⟩ := BD hv
 rw [zK, Af, AB (by simp)]
 obtain ⟨b, b1, b2⟩ := T7 hN (by omega) hv
 rw [b1]
 simp only [oS]
 cases b
 ·exact ⟨_, _, _, false, rfl, fun h => by cases h⟩
 rw [zK, Af]
 obtain ⟨r, r1, r2⟩ := UB hN (by omega) hv (b2 rfl)
 rw [r1]
 simp only [oS]
 by_cases hz : r.2 = 0
 ·rw [bne_eq_false_iff_eq.2 hz, Af]
  have hlen : r.1.length ≤ 120 := by
   rcases r2 with ⟨_, q⟩ | ⟨_, ⟨_, _, q⟩ | ⟨q, _⟩⟩
   ·rw [q] at hz; cases hz
   ·exact q
   ·rw [q] at hz; cases hz
  have hnv := hp.nv
  obtain ⟨rs, s1, s2, s3⟩ := Tk (N := N) ⟨d, R, []⟩ (fun v hv => H8 (wR v hv)) (p, true) (by simp only; omega) (fun (v10 : (List Int)) =>
     (EM N p v10 r.1).bind fun v16 =>
     Di N ⟨d, R, []⟩ (fun (v18 : Aa × Ak × (List Int)) =>
      some (v18.1, v18.2.2, (Ak.mk v18.2.1.gT v18.2.1.gE v18.2.1.gQ v18.2.1.gO v18.2.1.gP v18.2.1.gN ((Ab.mk v18.2.1.gB.gI v18.2.1.gB.gF v18.2.1.gB.gG))), (v16.2 == 0))) N (p.gH, p.gR, p.gU, p.gJ, v16.1.gT, v16.1.gE, v16.1.gQ, v16.1.gO, v16.1.gP, v16.1.gN, v16.1.gB.gI, v16.1.gB.gF, v16.1.gB.gG, v10, 0)) N 0 [] (by simp only; omega) (zL _) rfl (fun v hv => by cases hv)
  have A : NW p rs := ⟨hv, s2, s3⟩
  obtain ⟨c, c1, c2⟩ := Xc hN h20 A r.1 (by omega)
  obtain ⟨n, hn⟩ : ∃ n, N = n + 1 := ⟨N - 1, by omega⟩
  have hfin : ∀ (c : Ak) (b : Int), Di N ⟨d, R, []⟩ (fun (v18 : Aa × Ak × (List Int)) =>
      some (v18.1, v18.2.2, (Ak.mk v18.2.1.gT v18.2.1.gE v18.2.1.gQ v18.2.1.gO v18.2.1.gP v18.2.1.gN ((Ab.mk v18.2.1.gB.gI v18.2.1.gB.gF v18.2.1.gB.gG))), (b == 0))) N (p.gH, p.gR, p.gU, p.gJ, c.gT, c.gE, c.gQ, c.gO, c.gP, c.gN, c.gB.gI, c.gB.gF, c.gB.gG, rs, 0) = some (p, rs, c, b == 0) := by
   intro c b
   rw [hn, Di, AB (by simp)]
  rw [c1] at s1
  simp only [oS] at s1
  rw [hfin] at s1
  refine ⟨p, rs, c, _, s1, fun q => ?_⟩
  have hc : KV p r.1 = true := by
   cases hq : KV p r.1
   ·rw [hq, if_neg (by simp)] at q; cases q
   ·rfl
  obtain ⟨_, st⟩ := RD hc
  exact ⟨r.1, ⟨A, (PK hv st).1, hc, by omega⟩, c2 hc⟩
 ·rw [bne_iff_ne.2 hz, Ap]
  exact ⟨_, _, _, false, rfl, fun h => by cases h⟩
theorem Wq {p : Aa} {rs : List Int} {l : List Ae} {t : List Ad} (h : PX p rs l t = 0) : Kk p rs l t = match (Kq p rs l [] (Lc p) t).1 with | some r => (r.1, r.2, 0) | none => (0, 0, 15) := by
 unfold Kk; exact if_neg (by simp [h])
theorem M8 (c : Bz) (cs : List Int) (wc : Iq c) (wcs : Oq Lr cs) : Dn 20000 c cs = some true := by
 unfold Dn
 simp only [A2]
 rw [Sp]
 simp only [oS]
 rw [zK, Af]
 by_cases h60 : (60 : Int) < (cs.length : Int)
 ·rw [decide_eq_true h60, Ap]
 rw [decide_eq_false h60, Af]
 obtain ⟨p, rs, x, ok, o1, o2⟩ := al (N := 20000) (by omega) (by omega) c.gK wc.1 c.qA wc.2.1
 have key : (ok = false ∧ ∃ a b d, C0 20000 c cs = some (a, b, d, [], false)) ∨ ∃ l, S3 p rs l ∧ ∃ out e tok rnd a, C0 20000 c cs = some (p, rs, l, out, true) ∧ LL p (A0 p) l e ∧ QI p rs l out e tok rnd a ∧ out.length ≤ 120 := by
  unfold C0
  rw [show E7 20000 _ = _ from o1]
  simp only [oS]
  cases ok
  ·exact .inl ⟨rfl, _, _, _, rfl⟩
  ·obtain ⟨l, X, rfl⟩ := o2 rfl
   right
   rw [zK, Af]
   obtain ⟨hp, _⟩ := BD X.A.v
   have hE := Qq p (A0 p) l
   have hP : Ph p rs l (Lc p) 0 (if l.length = 0 then 6 else 0) 0 0 (A0 p) := by
    by_cases h0 : l.length = 0
    ·rw [if_pos h0]
     exact .fin 0 (by rw [h0]; rfl) rfl rfl
    ·rw [if_neg h0]
     exact .idle 0 (l[0]'(by omega)) (by simp [Lc]) rfl rfl (.inl rfl)
   have T0 : QI p rs l [] (Lc p) 0 0 ((0 / 2 : Nat) : Int) := ⟨rfl, rfl, fun b hb => (by cases hb), fun b hb => (by cases hb), fun b hb => (by cases hb), fun b hb => (by cases hb)⟩
   obtain ⟨out, e, tok, rnd, a, w1, w2, w3, w4⟩ := K9 (N := 20000) (by omega) (by omega) X cs (by omega) (fun q hq => H8 (wcs q hq)) (p, rs, ⟨l, 0, if l.length = 0 then 6 else 0, 0, 0, 0, A0 p⟩, true) rfl rfl 20000 0 (Lc p) 0 (if l.length = 0 then 6 else 0) 0 0 0 0 (A0 p) [] (by omega) (zL _) hE hP (yD _) (.inl rfl) (yK _) (yK _) T0 (zL _)
   exact ⟨l, X, out, e, tok, rnd, a, w1, w2, w3, w4⟩
 rcases key with ⟨_, a, b, d, k⟩ | ⟨l, X, out, e, tok, rnd, a, k, hE, T, ho⟩
 ·rw [show C0 20000 _ cs = _ from k]
  rfl
 ·rw [show C0 20000 _ cs = _ from k]
  simp only [oS]
  rw [zK, Af]
  obtain ⟨hp, _⟩ := BD X.A.v
  have hrl := J1 X.A
  obtain ⟨_, hst⟩ := RD X.c
  have ht : WO out = 0 := by
   unfold WO
   rw [if_neg (by omega), if_pos T.ok]
  have hS : Kv p rs = 0 := by
   unfold Kv
   rw [if_neg (by simp [X.A.n]), if_neg]
   intro q
   obtain ⟨v, v1, v2⟩ := yE.1 q
   have := X.A.w v v1
   simp only [yS, decide_eq_true_eq] at v2
   omega
  have he : PX p rs l out = 0 := by
   unfold PX
   rw [if_neg (by simp [X.A.v]), if_neg (by simp [hS]), if_neg (by simp [hst])]
   exact ht
  have hm : Km p l out = 0 := by
   unfold Km
   rw [if_neg (by simp [X.A.v]), if_neg (by simp [hst])]
   exact ht
  have hn := X.n
  rw [WG (by omega) (by omega) p rs (by omega) l hn out (fun _ => ⟨T.wf, by omega⟩), ZV (by omega) (by omega) p l hn out, Wq he, T.fir]
  simp only [oS]
  have hw := TC out [] (Lc p) 0 (by rw [T.fir])
  rw [T.fir] at hw
  have hmx : Vw p l out = (e.gB, 0) := by
   unfold Vw
   rw [if_neg (by simp [hm]), hw, if_neg (by simp)]
  rw [hmx]
  simp only [beq_self_eq_true, Ap]
  rw [Gp 20000 p _ (by omega) (by omega), G5 X.A.v (RY hp X.P hE)]; rfl
end Go.Lift
