/- Lemmas for UnblockNoneSaid, which YtjpgllmfenogoaaGreatFinU3 proves. -/
import Derived.Test.YtjpgllmfenogoaaGreatMNear
import Derived.KernelRfl
namespace Go.Lift
open IntKind renaming wrap → wI
open Option renaming bind_some → oS
open List renaming mem_of_getElem? → lM
open List renaming getElem?_eq_some_iff → lI
open Go
def Pp (t u v : Nat) (ok : Bool) : List Aa := if ok = true then [] else [⟨(t : Int), (u : Int), (v : Int)⟩]
def Om (t u : Nat) (row : List Bool) : List Aa := Cg (Pp t u) 0 row
def Ot (t : Nat) (x : Ar) : List Aa := Cg (Om t) 0 x.fj
def EM (p : Ae) : List Aa := Cg Ot 0 p.fc
theorem QD (t u v : Nat) (ok : Bool) : (Pp t u v ok).length ≤ 1 := by unfold Pp; split <;> simp
theorem J2 (t u : Nat) {row : List Bool} (h : row.length ≤ 6) : (Om t u row).length ≤ 6 := by
 have := Gd (g := Pp t u) (c := 1) (i := 0) (xs := row) (fun j x _ => QD _ _ _ _)
 unfold Om; omega
theorem J7 {p : Ae} {t : Ar} (hp : Bj p) (ht : NU p t) (i : Nat) : (Ot i t).length ≤ 36 := by
 have h1 := JE hp ht
 have := Gd (g := Om i) (c := 6) (i := 0) (xs := t.fj) (fun j x hx => J2 i _ (h1.2 x (lM hx)))
 unfold Ot; omega
theorem Si {p : Ae} (hp : Bj p) : (EM p).length ≤ 432 := by
 have := Gd (g := Ot) (c := 36) (i := 0) (xs := p.fc) (fun j x hx => J7 hp (Jd (hp.tab x (lM hx))) _)
 have := hp.nt
 unfold EM; omega
theorem QA {N : Nat} (hN : N ≤ 1000000) (h20 : 100 ≤ N) {p : Ae} (hp : Bj p) : E3 N p = some (EM p) := by
 unfold E3
 have hnt := hp.nt
 rw [DB (BO N p _) (fun a k => (a, k)) p.fc some Ot 36 9000
  (fun i t hx => J7 hp (Jd (hp.tab t (lM hx))) i)
  (fun n i t a hx ha => by
   have hi := (lI.1 hx).1
   have ht := Jd (hp.tab t (lM hx))
   have hv := JE hp ht
   have het := J7 hp ht i
   rw [BO]
   rw [AM (by omega), DB (Cf N p (a, (i : Int)) _) (fun a k => (a, k)) t.fj (fun b => BO N p (fun v2 => some v2) n (b, wI .i64 ((i : Int) + 1))) (Om i) 6 10000
    (fun u row hu => J2 i u (hv.2 row (lM hu)))
    (fun n2 u row b hu hb => by
     have hui := (lI.1 hu).1
     have hrl := hv.2 row (lM hu)
     rw [Cf]
     simp only [A1, hx, oS]
     rw [AM (by omega), DB (CT N p (a, (i : Int)) (b, (u : Int)) _) (fun a k => (a, k)) row (fun c => Cf N p (a, (i : Int)) (fun v5 => BO N p (fun v2 => some v2) n (v5, wI .i64 ((i : Int) + 1))) n2 (c, wI .i64 ((u : Int) + 1))) (Pp i u) 1 20000
      (fun v ok _ => QD i u v ok)
      (fun n3 v ok c hv hc => by
       have hvi := (lI.1 hv).1
       rw [CT]
       simp only [A1, hx, hu, hv, oS, Br]
       rw [AM (by omega), AI (i := v) (by omega)]
       cases ok
       ·simp only [Bool.not_false, AX]
        rw [Au (by simp only [Pp, Bool.false_eq_true, if_false, List.length_singleton] at hc ⊢; unfold DM; omega)]
        rfl
       ·simp only [Bool.not_true, Av, Pp, if_true, List.append_nil])
      (fun n3 c => by
       rw [CT]
       simp only [A1, hx, hu, oS, Br]
       rw [AE (by omega)]) N b (by omega) (by have := J2 i u hrl; omega), AI (i := u) (by omega)]
     rfl)
    (fun n2 b => by
     rw [Cf]
     simp only [A1, hx, oS]
     rw [AE (by omega)]) N a (by omega) (by omega), AI (i := i) (by omega)]
   rfl)
  (fun n a => by
   rw [BO]
   rw [AE (by omega)]) N [] (by omega) (by simp; omega)]
 rfl
theorem Pw {N : Nat} (hN : N ≤ 1000000) (h20 : 100 ≤ N) {p : Ae} (hp : Bj p) : EK N p = some (EM p) := by
 unfold EK
 have hnt := hp.nt
 rw [DB (CI N p _) (fun a k => (a, k)) p.fc some Ot 36 9000
  (fun i t hx => J7 hp (Jd (hp.tab t (lM hx))) i)
  (fun n i t a hx ha => by
   have hi := (lI.1 hx).1
   have ht := Jd (hp.tab t (lM hx))
   have hv := JE hp ht
   have het := J7 hp ht i
   rw [CI]
   simp only [A1, hx, oS]
   rw [AM (by omega), DB (De N (a, (i : Int)) t _) (fun a k => (a, k)) t.fj (fun b => CI N p (fun v2 => some v2) n (b, wI .i64 ((i : Int) + 1))) (Om i) 6 10000
    (fun u row hu => J2 i u (hv.2 row (lM hu)))
    (fun n2 u row b hu hb => by
     have hui := (lI.1 hu).1
     have hrl := hv.2 row (lM hu)
     rw [De]
     simp only [A1, hu, oS]
     rw [AM (by omega), DB (DT N (a, (i : Int)) (b, (u : Int)) row _) (fun a k => (a, k)) row (fun c => De N (a, (i : Int)) t (fun v5 => CI N p (fun v2 => some v2) n (v5, wI .i64 ((i : Int) + 1))) n2 (c, wI .i64 ((u : Int) + 1))) (Pp i u) 1 20000
      (fun v ok _ => QD i u v ok)
      (fun n3 v ok c hv hc => by
       have hvi := (lI.1 hv).1
       rw [DT]
       simp only [A1, hv, oS, Br]
       rw [AM (by omega), AI (i := v) (by omega)]
       cases ok
       ·simp only [Bool.not_false, AX]
        rw [Au (by simp only [Pp, Bool.false_eq_true, if_false, List.length_singleton] at hc ⊢; unfold DM; omega)]
        rfl
       ·simp only [Bool.not_true, Av, Pp, if_true, List.append_nil])
      (fun n3 c => by
       rw [DT]
       simp only [Br]
       rw [AE (by omega)]) N b (by omega) (by have := J2 i u hrl; omega), AI (i := u) (by omega)]
     rfl)
    (fun n2 b => by
     rw [De]
     rw [AE (by omega)]) N a (by omega) (by omega), AI (i := i) (by omega)]
   rfl)
  (fun n a => by
   rw [CI]
   rw [AE (by omega)]) N [] (by omega) (by simp; omega)]
 rfl
def YJ (a b : Aa) : Bool := (a.fw == b.fw) && ((a.fv == b.fv) && ((a.fu == b.fu) && true))
theorem Pe (a b : Aa) : YJ a b = true ↔ a = b := by
 unfold YJ
 cases a; cases b
 simp
def Zc (l : List Aa) (c : Aa) : Bool := l.any fun x => YJ x c
theorem VG {l : List Aa} {c : Aa} : Zc l c = true ↔ c ∈ l := by
 unfold Zc
 rw [List.any_eq_true]
 constructor
 ·rintro ⟨x, h1, h2⟩; rw [Pe] at h2; exact h2 ▸ h1
 ·intro h; exact ⟨c, h, (Pe c c).2 rfl⟩
theorem XP (x : Aa) (l : List Aa) (c : Aa) : Zc (x :: l) c = (YJ x c || Zc l c) := rfl
theorem VR (N : Nat) (l : List Aa) (c : Aa) (hl : l.length < 1000000) : ∀ (n i : Nat), i ≤ l.length → l.length - i < n → EP N l c (fun _ => some false) n (i : Int) = some (Zc (l.drop i) c)
 | 0, i, _, h => by omega
 | n + 1, i, hi, h => by
  rw [EP]
  by_cases h1 : i < l.length
  ·have hx : l[i]? = some l[i] := by simp [h1]
   rw [AM (by omega), A1, hx, IG hx, XP, AI (by omega), VR N l c hl n (i + 1) (by omega) (by omega)]
   simp only [oS]
   show AY (YJ l[i] c) _ _ = _
   cases YJ l[i] c <;> rfl
  ·rw [AE (by omega), List.drop_eq_nil_of_le (by omega)]; rfl
theorem Wf {N : Nat} {l : List Aa} (hN : N ≤ 1000000) (hl : l.length < N) (c : Aa) : GD N l c = some (Zc l c) := by
 unfold GD
 have := VR N l c (by omega) N 0 (by omega) (by omega)
 simpa using this
def WB (l : List Aa) (t u v : Nat) (ok : Bool) : Bool := ok || Zc l ⟨(t : Int), (u : Int), (v : Int)⟩
def Kl (l : List Aa) (t u : Nat) (row : List Bool) : List Bool := row.mapIdx (WB l t u)
def LK (l : List Aa) (t : Nat) (x : Ar) : Ar := ⟨x.ff, x.fg, x.fk, x.fp, x.fj.mapIdx (Kl l t), x.fm⟩
def Kt (p : Ae) (l : List Aa) : Ae := ⟨p.fb, p.fh, p.fo, p.fc.mapIdx (LK l)⟩
theorem Rq {α β : Type} (f : Nat → α → β) : ∀ (k : Nat) (xs : List α), Cg (fun i x => [f i x]) k xs = xs.mapIdx fun i x => f (k + i) x
 | _, [] => rfl
 | k, x :: xs => by
  rw [Cg, Rq f (k + 1) xs, List.mapIdx_cons]
  simp only [List.singleton_append, Nat.add_zero, Nat.add_assoc, Nat.add_comm 1]
theorem J6 {α β : Type} (f : Nat → α → β) (xs : List α) : Cg (fun i x => [f i x]) 0 xs = xs.mapIdx f := by
 rw [Rq]; simp only [Nat.zero_add]
theorem KH {α β : Type} {f g : Nat → α → β} {xs : List α} {k : Nat} {x : α} (hx : xs[k]? = some x) (h : ∀ j y, xs[j]? = some y → j ≠ k → g j y = f j y) : xs.mapIdx g = (xs.mapIdx f).set k (g k x) := by
 apply List.ext_getElem?
 intro j
 rw [List.getElem?_mapIdx, List.getElem?_set, List.getElem?_mapIdx]
 have hk := (lI.1 hx).1
 by_cases e : k = j
 ·subst e; rw [if_pos rfl, if_pos (by simpa using hk), hx]; rfl
 ·rw [if_neg e]
  cases hy : xs[j]? with
  | none => rfl
  | some y => simp only [Option.map_some]; rw [h j y hy (fun e' => e e'.symm)]
theorem XN {N : Nat} (hN : N ≤ 1000000) {l : List Aa} (hl : l.length < N) (v4 : List Ar × Int) (v8 : List (List Bool) × Int) (t u : Nat) (h4 : v4.2 = (t : Int)) (h8 : v8.2 = (u : Int)) (row : List Bool) (hr : row.length ≤ 6) (h20 : 100 ≤ N) (j : List Bool → Option Ae) :
  CM N l v4 v8 j N (row, 0) = j (Kl l t u row) := by
 obtain ⟨a, e, h⟩ := FU (A := List Bool) (CM N l v4 v8 j) (fun a k => (a, k)) row.length j (fun i a => a.length = row.length ∧ (∀ k, i ≤ k → a[k]? = row[k]?) ∧ ∀ k, k < i → a[k]? = (row[k]?).map (WB l t u k))
  (fun n i a hi h => by
   obtain ⟨h1, h2, h3⟩ := h
   have hx : row[i]? = some row[i] := by simp [hi]
   have ha : a[i]? = some row[i] := by rw [h2 i (Nat.le_refl _), hx]
   refine ⟨a.set i (WB l t u i row[i]), ?_, by simpa using h1, fun k hk => ?_, fun k hk => ?_⟩
   ·rw [CM]
    simp only [Br, A1, ha, oS]
    rw [AM (by omega), AI (by omega), h4, h8, Wf hN hl]
    simp only [oS, WB, Int.toNat_natCast]
    cases row[i]
    ·rw [Av, Bool.false_or]
    ·rw [AX, Bool.true_or]
   ·rw [List.getElem?_set, if_neg (by omega)]; exact h2 k (by omega)
   ·rw [List.getElem?_set]
    by_cases e : i = k
    ·subst e; rw [if_pos rfl, if_pos (by omega), hx]; rfl
    ·rw [if_neg e]; exact h3 k (by omega))
  (fun n a h => by
   rw [CM, AE (by simp only; omega)]) N 0 row (Nat.zero_le _) (by omega) ⟨rfl, fun _ _ => rfl, fun k hk => by omega⟩
 have : a = Kl l t u row := by
  apply List.ext_getElem?
  intro k
  rw [Kl, List.getElem?_mapIdx]
  by_cases hk : k < row.length
  ·exact h.2.2 k hk
  ·rw [h.2.1 k (by omega), List.getElem?_eq_none (by omega)]; rfl
 rw [← this]
 exact e
theorem Ui {N : Nat} (hN : N ≤ 1000000) (h20 : 100 ≤ N) {p : Ae} (hp : Bj p) {l : List Aa} (hl : l.length < N) : F1 N p l = some (Kt p l) := by
 unfold F1
 have hnt := hp.nt
 have hnv := hp.nv
 have hnow := hp.now
 have htg := hp.tgt
 rw [Au (by simp only [List.length_nil]; unfold DM; omega), Au (by simp only [List.length_nil]; unfold DM; omega), Au (by simp only [List.length_nil]; unfold DM; omega)]
 rw [DB (Cq N p l _) (fun a k => (a, k)) p.fc (fun v5 => some (Ae.mk ([] ++ p.fb) ([] ++ p.fh) ([] ++ p.fo) v5)) (fun t x => [LK l t x]) 1 1000
  (fun i t hx => by simp)
  (fun n i t a hx ha => by
   have hi := (lI.1 hx).1
   have ht := Jd (hp.tab t (lM hx))
   have hv := JE hp ht
   have hrw : t.fm.length ≤ 6 ∧ ∀ row, row ∈ t.fm → row.length ≤ 6 := by
    have h1 := KJ hp.ver ht.from0.1 ht.from0.2
    refine ⟨?_, fun row hr => by have := ht.reR row hr; omega⟩
    by_cases hk : t.ff = 4
    ·have := ht.reL hk; omega
    ·rw [ht.reN hk]; simp
   rw [Cq]
   simp only [A1, hx, oS]
   rw [AM (by omega), DB (DJ N p l (a, (i : Int)) _) (fun a k => (a, k)) t.fj (fun v9 => CN N p (a, (i : Int)) (fun v26 => (Ef (a.length + ([(Ar.mk t.ff t.fg t.fk t.fp v9 v26)] : List Ar).length ≤ DM)).bind fun _ => Cq N p l (fun v5 => some (Ae.mk ([] ++ p.fb) ([] ++ p.fh) ([] ++ p.fo) v5)) n (a ++ [(Ar.mk t.ff t.fg t.fk t.fp v9 v26)], wI .i64 ((i : Int) + 1))) N ([], 0)) (fun u row => [Kl l i u row]) 1 1000
    (fun u row hu => by simp)
    (fun n2 u row b hu hb => by
     have hui := (lI.1 hu).1
     have hrl := hv.2 row (lM hu)
     rw [DJ]
     simp only [A1, hx, hu, oS]
     rw [AM (by omega), Au (by simp only [List.length_nil]; unfold DM; omega)]
     simp only [List.nil_append]
     rw [XN hN hl _ _ i u rfl rfl row hrl h20, Au (by simp only [List.length_singleton] at hb ⊢; unfold DM; omega), AI (i := u) (by omega)])
    (fun n2 b => by
     rw [DJ]
     simp only [A1, hx, oS]
     rw [AE (by omega)]) N [] (by omega) (by simp only [List.length_nil]; omega)]
   rw [DB (CN N p (a, (i : Int)) _) (fun a k => (a, k)) t.fm (fun v26 => (Ef (a.length + ([(Ar.mk t.ff t.fg t.fk t.fp ([] ++ Cg (fun u row => [Kl l i u row]) 0 t.fj) v26)] : List Ar).length ≤ DM)).bind fun _ => Cq N p l (fun v5 => some (Ae.mk ([] ++ p.fb) ([] ++ p.fh) ([] ++ p.fo) v5)) n (a ++ [(Ar.mk t.ff t.fg t.fk t.fp ([] ++ Cg (fun u row => [Kl l i u row]) 0 t.fj) v26)], wI .i64 ((i : Int) + 1))) (fun _ row => [row]) 1 1000
    (fun u row hu => by simp)
    (fun n2 u row b hu hb => by
     have hui := (lI.1 hu).1
     have hrl := hrw.2 row (lM hu)
     rw [CN]
     simp only [A1, hx, hu, oS]
     rw [AM (by omega), Au (by simp only [List.length_nil]; unfold DM; omega), Au (by simp only [List.length_singleton] at hb ⊢; unfold DM; omega), AI (i := u) (by omega)]
     rfl)
    (fun n2 b => by
     rw [CN]
     simp only [A1, hx, oS]
     rw [AE (by omega)]) N [] (by omega) (by simp only [List.length_nil]; omega)]
   rw [Au (by simp only [List.length_singleton] at ha ⊢; unfold DM; omega), AI (i := i) (by omega), J6, J6 (fun _ row => row)]
   simp only [List.nil_append, LK]
   have : t.fm.mapIdx (fun _ row => row) = t.fm := by
    apply List.ext_getElem?; intro k; rw [List.getElem?_mapIdx]; cases t.fm[k]? <;> rfl
   rw [this])
  (fun n a => by
   rw [Cq]
   rw [AE (by omega)]) N [] (by omega) (by simp only [List.length_nil]; omega), J6]
 rfl
theorem aK {p : Ae} {t : Ar} (hp : Bj p) (ht : NU p t) : t.fm.length ≤ 6 ∧ ∀ row, row ∈ t.fm → row.length ≤ 6 := by
 have h1 := KJ hp.ver ht.from0.1 ht.from0.2
 refine ⟨?_, fun row hr => by have := ht.reR row hr; omega⟩
 by_cases hk : t.ff = 4
 ·have := ht.reL hk; omega
 ·rw [ht.reN hk]; simp
theorem Th (N : Nat) {l : List (List Bool)} (h : l.length ≤ 100000) : DA N l = some l := by
 unfold DA
 rw [Au (by simp only [List.length_nil]; unfold DM; omega)]; rfl
theorem VP (N : Nat) {l : List Bool} (h : l.length ≤ 100000) : Db N l = some l := by
 unfold Db
 rw [Au (by simp only [List.length_nil]; unfold DM; omega)]; rfl
theorem R1 (N : Nat) {l : List Int} (h : l.length ≤ 100000) : A7 N l = some l := by
 unfold A7
 rw [Au (by simp only [List.length_nil]; unfold DM; omega)]; rfl
theorem OM {α : Type} {l : List α} {i : Nat} {x : α} (h : l[i]? = some x) : l.set i x = l := by
 apply List.ext_getElem?
 intro k
 rw [List.getElem?_set]
 have := (lI.1 h).1
 by_cases e : i = k
 ·subst e; rw [if_pos rfl, if_pos this, h]
 ·rw [if_neg e]
theorem V5 {N : Nat} (h20 : 100 ≤ N) (t : Ar) (h1 : t.fj.length ≤ 6) (h2 : ∀ row, row ∈ t.fj → row.length ≤ 6) (h3 : t.fm.length ≤ 6) (h4 : ∀ row, row ∈ t.fm → row.length ≤ 6) : GA N t = some t := by
 unfold GA
 rw [Th N (by omega), Th N (by omega)]
 simp only [oS]
 have l1 := IF (Ea N t.fj fun v4 => Cd N t.fm (fun v12 => some ⟨t.ff, t.fg, t.fk, t.fp, v4, v12⟩) N (t.fm, 0)) (fun a i => (a, i)) t.fj (fun v4 => Cd N t.fm (fun v12 => some ⟨t.ff, t.fg, t.fk, t.fp, v4, v12⟩) N (t.fm, 0)) (fun _ _ a => a) (fun _ a => a = t.fj)
  (fun n i x a hx ha => by
   subst ha
   have hi := (lI.1 hx).1
   refine ⟨?_, rfl⟩
   rw [Ea]
   simp only [A1, hx, oS]
   rw [AM (by omega), VP N (by have := h2 x (lM hx); omega)]
   simp only [oS]
   rw [AI (by omega), Au (by omega), Int.toNat_natCast, OM hx])
  (fun n a ha => by
   subst ha
   rw [Ea, AE (by omega), Au (by simp only [Int.toNat_natCast])]) N 0 t.fj (Nat.zero_le _) (by omega) rfl
 have l2 := IF (Cd N t.fm fun v12 => some ⟨t.ff, t.fg, t.fk, t.fp, t.fj, v12⟩) (fun a i => (a, i)) t.fm (fun v12 => some ⟨t.ff, t.fg, t.fk, t.fp, t.fj, v12⟩) (fun _ _ a => a) (fun _ a => a = t.fm)
  (fun n i x a hx ha => by
   subst ha
   have hi := (lI.1 hx).1
   refine ⟨?_, rfl⟩
   rw [Cd]
   simp only [A1, hx, oS]
   rw [AM (by omega), VP N (by have := h4 x (lM hx); omega)]
   simp only [oS]
   rw [AI (by omega), Au (by omega), Int.toNat_natCast, OM hx])
  (fun n a ha => by
   subst ha
   rw [Cd, AE (by omega), Au (by simp only [Int.toNat_natCast])]) N 0 t.fm (Nat.zero_le _) (by omega) rfl
 have e1 := l1.1.trans (congrArg (fun v4 => Cd N t.fm (fun v12 => some (Ar.mk t.ff t.fg t.fk t.fp v4 v12)) N (t.fm, 0)) l1.2)
 have e2 := l2.1.trans (congrArg (fun v12 => some (Ar.mk t.ff t.fg t.fk t.fp t.fj v12)) l2.2)
 exact e1.trans e2
theorem UF {N : Nat} (hN : N ≤ 1000000) (h20 : 100 ≤ N) {p : Ae} (hv : BZ p = 0) : Gp N p p.fh p.fo = some (p, 0) := by
 obtain ⟨hp, _⟩ := DR hv
 have hnt := hp.nt
 have hnv := hp.nv
 have hnow := hp.now
 have htg := hp.tgt
 unfold Gp
 rw [IN N p hN (by omega), R1 N (by omega), R1 N (by omega), R1 N (by omega)]
 simp only [oS, hv, bne_self_eq_false, Av]
 rw [DB (DU N p _) (fun a i => (a, i)) p.fc (fun v7 => (BQ N (Ae.mk p.fb p.fh p.fo v7)).bind fun v12 => AY (v12 != 0) (some (Ae.mk [] [] [] [], v12)) (some (Ae.mk p.fb p.fh p.fo v7, 0))) (fun _ x => [x]) 1 1000
  (fun i x hx => by simp)
  (fun n i x a hx ha => by
   have hi := (lI.1 hx).1
   have ht := Jd (hp.tab x (lM hx))
   have hl := JE hp ht
   have hr := aK hp ht
   rw [DU]
   simp only [A1, hx, oS]
   rw [AM (by omega), V5 h20 x hl.1 hl.2 hr.1 hr.2]
   simp only [oS]
   rw [Au (by simp only [List.length_singleton] at ha ⊢; unfold DM; omega), AI (by omega)])
  (fun n a => by
   rw [DU, AE (by omega)]) N [] (by omega) (by simp only [List.length_nil]; omega)]
 have e : ([] : List Ar) ++ Cg (fun _ x => [x]) 0 p.fc = p.fc := by
  rw [List.nil_append, J6 (fun _ x => x)]
  apply List.ext_getElem?; intro k; rw [List.getElem?_mapIdx]; cases p.fc[k]? <;> rfl
 simp only [e]
 rw [IN N _ hN (by omega)]
 simp only [oS, hv, bne_self_eq_false, Av]
theorem Ub {p : Ae} {c : Aa} (h : c ∈ EM p) : ∃ (t u v : Nat) (x : Ar) (row : List Bool), p.fc[t]? = some x ∧ x.fj[u]? = some row ∧ row[v]? = some false ∧ c = ⟨(t : Int), (u : Int), (v : Int)⟩ := by
 obtain ⟨t, x, hx, h⟩ := Gf.1 h
 obtain ⟨u, row, hu, h⟩ := Gf.1 h
 obtain ⟨v, ok, hv, h⟩ := Gf.1 h
 simp only [Nat.zero_add, Pp] at h
 cases ok
 ·simp only [Bool.false_eq_true, if_false, List.mem_singleton] at h
  exact ⟨t, u, v, x, row, hx, hu, hv, h⟩
 ·simp at h
theorem Tv (l : List Aa) (c : Aa) (t u v : Nat) (ok : Bool) : WB (l ++ [c]) t u v ok = (WB l t u v ok || YJ c ⟨(t : Int), (u : Int), (v : Int)⟩) := by
 unfold WB Zc
 rw [List.any_append, List.any_cons, List.any_nil, Bool.or_false, Bool.or_assoc]
theorem UK {l : List Aa} {t u v t' u' v' : Nat} (h : t ≠ t' ∨ u ≠ u' ∨ v ≠ v') (ok : Bool) : WB (l ++ [⟨(t : Int), (u : Int), (v : Int)⟩]) t' u' v' ok = WB l t' u' v' ok := by
 rw [Tv]
 have : YJ ⟨(t : Int), (u : Int), (v : Int)⟩ ⟨(t' : Int), (u' : Int), (v' : Int)⟩ = false := by
  cases hh : YJ ⟨(t : Int), (u : Int), (v : Int)⟩ ⟨(t' : Int), (u' : Int), (v' : Int)⟩
  ·rfl
  ·rw [Pe] at hh
   simp only [Aa.mk.injEq] at hh
   omega
 rw [this, Bool.or_false]
theorem WD {l : List Aa} {t u v : Nat} {x : Ar} {row : List Bool} (hu : x.fj[u]? = some row) (hv : v < row.length) :
  LK (l ++ [⟨(t : Int), (u : Int), (v : Int)⟩]) t x = ⟨x.ff, x.fg, x.fk, x.fp, (x.fj.mapIdx (Kl l t)).set u ((Kl l t u row).set v true), x.fm⟩ := by
 have hz : row[v]? = some row[v] := by simp [hv]
 unfold LK
 congr 1
 rw [KH (f := Kl l t) hu (fun j y _ hj => by
  unfold Kl
  exact congrArg (fun f => y.mapIdx f) (funext fun k => funext fun ok => UK (.inr (.inl (Ne.symm hj))) ok))]
 congr 1
 unfold Kl
 rw [KH (f := WB l t u) hz (fun j y _ hj => UK (.inr (.inr (Ne.symm hj))) y)]
 congr 1
 rw [Tv, (Pe _ _).2 rfl, Bool.or_true]
theorem UA {ts : List Ar} {l : List Aa} {t u v : Nat} {x : Ar} {row : List Bool} (hx : ts[t]? = some x) (hu : x.fj[u]? = some row) (hv : v < row.length) :
  ts.mapIdx (LK (l ++ [⟨(t : Int), (u : Int), (v : Int)⟩])) = (ts.mapIdx (LK l)).set t ⟨x.ff, x.fg, x.fk, x.fp, (x.fj.mapIdx (Kl l t)).set u ((Kl l t u row).set v true), x.fm⟩ := by
 rw [KH (f := LK l) hx (fun j y _ hj => by
  unfold LK
  congr 1
  exact congrArg (fun f => y.fj.mapIdx f) (funext fun k => funext fun r => congrArg (fun f => r.mapIdx f) (funext fun q => funext fun ok => UK (.inl (Ne.symm hj)) ok))), WD hu hv]
theorem Ro (ts : List Ar) : ts.mapIdx (LK []) = ts := by
 apply List.ext_getElem?
 intro k
 rw [List.getElem?_mapIdx]
 cases ts[k]? with
 | none => rfl
 | some x =>
  have : LK [] k x = x := by
   unfold LK
   have : x.fj.mapIdx (Kl [] k) = x.fj := by
    apply List.ext_getElem?
    intro u
    rw [List.getElem?_mapIdx]
    cases x.fj[u]? with
    | none => rfl
    | some row =>
     simp only [Option.map_some, Option.some.injEq]
     apply List.ext_getElem?
     intro v
     rw [Kl, List.getElem?_mapIdx]
     cases row[v]? with
     | none => rfl
     | some ok => simp [WB, Zc]
   rw [this]
  rw [Option.map_some, this]
theorem Or (p : Ae) : Kt p [] = p := by unfold Kt; rw [Ro]
theorem Tq {N : Nat} (hN : N ≤ 1000000) (h20 : 100 ≤ N) {p : Ae} (hv : BZ p = 0) {l : List Aa} (hl : l.length < N) (hm : ∀ c, c ∈ l → c ∈ EM p) : Hh N p l = some (Kt p l) := by
 unfold Hh
 rw [UF hN h20 hv]
 simp only [oS]
 obtain ⟨a, e, h⟩ := FU (A := List Ar) (EJ N l fun v3 => some ⟨p.fb, p.fh, p.fo, v3⟩) (fun a k => (a, k)) l.length (fun v3 => some ⟨p.fb, p.fh, p.fo, v3⟩) (fun i a => a = p.fc.mapIdx (LK (l.take i)))
  (fun n i a hi ha => by
   subst ha
   have hc : l[i]? = some l[i] := by simp [hi]
   obtain ⟨t, u, v, x, row, hx, hu, hv, e⟩ := Ub (hm l[i] (List.getElem_mem hi))
   have hvl := (lI.1 hv).1
   refine ⟨_, ?_, rfl⟩
   have e1 : (p.fc.mapIdx (LK (l.take i)))[t]? = some (LK (l.take i) t x) := by rw [List.getElem?_mapIdx, hx]; rfl
   have e2 : (LK (l.take i) t x).fj[u]? = some (Kl (l.take i) t u row) := by
    show (x.fj.mapIdx (Kl (l.take i) t))[u]? = _
    rw [List.getElem?_mapIdx, hu]; rfl
   have e3 : (Kl (l.take i) t u row)[v]? = some (WB (l.take i) t u v false) := by rw [Kl, List.getElem?_mapIdx, hv]; rfl
   rw [EJ]
   simp only [A1, hc, oS, e, e1, e2, e3, Int.toNat_natCast]
   rw [AM (by omega), AI (by omega)]
   have : l.take (i + 1) = l.take i ++ [⟨(t : Int), (u : Int), (v : Int)⟩] := by rw [List.take_add_one, hc, e]; rfl
   rw [this, UA hx hu hvl]
   rfl)
  (fun n a h => by
   rw [EJ, AE (by simp only; omega)]) N 0 p.fc (Nat.zero_le _) (by omega) (by rw [List.take_zero, Ro])
 rw [List.take_length] at h
 subst h
 exact e
structure cE (N : Nat) (p : Ae) : Prop where
 v : p.fb.length < N
 n : p.fh.length < N
 t : p.fo.length < N
 s : p.fc.length < N
 m : ∀ t, t ∈ p.fc → t.fj.length < N ∧ (∀ row, row ∈ t.fj → row.length < N) ∧ t.fm.length < N ∧ ∀ row, row ∈ t.fm → row.length < N
def Z0 (p : Ae) : List Aa × Int := if BZ p = 0 then (EM p, 0) else ([], BZ p)
theorem PL {N : Nat} (hN : N ≤ 1000000) (h20 : 500 ≤ N) (p : Ae) : Fv N p = some (Z0 p) := by
 unfold Fv Z0
 rw [IN N p hN (by omega)]
 simp only [oS]
 by_cases hv : BZ p = 0
 ·rw [if_pos hv, hv, bne_self_eq_false, Av, Pw hN (by omega) (DR hv).1]; rfl
 ·rw [if_neg hv, bne_iff_ne.2 hv, AX]
structure ZE (x y : Ar) : Prop where
 k : y.ff = x.ff
 f : y.fg = x.fg
 t : y.fk = x.fk
 a : y.fp = x.fp
 r : y.fm = x.fm
 l : y.fj.length = x.fj.length
 o : ∀ (u : Nat) (row : List Bool), x.fj[u]? = some row → ∃ row', y.fj[u]? = some row' ∧ row'.length = row.length ∧ ∀ v : Nat, row[v]? = some true → row'[v]? = some true
structure WF (p q : Ae) : Prop where
 v : q.fb = p.fb
 n : q.fh = p.fh
 t : q.fo = p.fo
 l : q.fc.length = p.fc.length
 o : ∀ (i : Nat) (x : Ar), p.fc[i]? = some x → ∃ y, q.fc[i]? = some y ∧ ZE x y
theorem ZE.st {x y : Ar} (h : ZE x y) : Ct y = Ct x := by unfold Ct; rw [h.k]
theorem Un {α R : Type} {f g : Nat → α → Option R} : ∀ {i : Nat} {xs ys : List α}, ys.length = xs.length → (∀ (j : Nat) x, xs[j]? = some x → ∃ y, ys[j]? = some y ∧ g (i + j) y = f (i + j) x) → Ep g i ys = Ep f i xs
 | _, [], [], _, _ => rfl
 | _, [], y :: ys, h, _ => by simp at h
 | _, x :: xs, [], h, _ => by simp at h
 | i, x :: xs, y :: ys, h, hh => by
  obtain ⟨y', e1, e2⟩ := hh 0 x rfl
  simp only [List.getElem?_cons_zero, Option.some.injEq] at e1
  subst e1
  rw [GW, GW, show g i y = f i x from e2, Un (by simpa using h) fun j x' hx => by
   obtain ⟨y', e1, e2⟩ := hh (j + 1) x' (by simpa using hx)
   exact ⟨y', by simpa using e1, by rwa [show i + (j + 1) = i + 1 + j from by omega] at e2⟩]
theorem YZ {x y : Ar} (h : ZE x y) (m : Int) : (y.fj.all fun r => decide ((r.length : Int) = m)) = (x.fj.all fun r => decide ((r.length : Int) = m)) := by
 rw [Bool.eq_iff_iff, List.all_eq_true, List.all_eq_true]
 constructor
 ·intro hy r hr
  obtain ⟨u, hu⟩ := List.mem_iff_getElem?.1 hr
  obtain ⟨r', e1, e2, _⟩ := h.o u r hu
  have := hy r' (lM e1)
  rwa [e2] at this
 ·intro hx r hr
  obtain ⟨u, hu⟩ := List.mem_iff_getElem?.1 hr
  have hl := (lI.1 hu).1
  have hz : x.fj[u]? = some (x.fj[u]'(by rw [← h.l]; exact hl)) := by simp [show u < x.fj.length by rw [← h.l]; exact hl]
  obtain ⟨r', e1, e2, _⟩ := h.o u _ hz
  rw [hu] at e1; cases e1
  rw [e2]
  exact hx _ (lM hz)
theorem Z8 {x y : Ar} (h : ZE x y) (n m : Int) : sq y.fj n m = sq x.fj n m := by
 unfold sq; rw [h.l, YZ h]
theorem U8 {p q : Ae} (h : WF p q) {x y : Ar} (hx : ZE x y) : EH q y = EH p x := by
 unfold EH
 simp only [h.v, hx.k, hx.f, hx.t, hx.a, hx.r, Z8 hx]
theorem PM {p q : Ae} (h : WF p q) : BZ q = BZ p := by
 unfold BZ
 have e1 : Ep (Mk q) 0 q.fc = Ep (Mk p) 0 p.fc := Un h.l fun j x hx => by
  obtain ⟨y, hy, ht⟩ := h.o j x hx
  exact ⟨y, hy, by unfold Mk; rw [U8 h ht]⟩
 have e2 : GO q = GO p := by unfold GO; rw [h.n, h.t]
 rw [e1, e2, h.v, h.n, h.t, h.l]
theorem Zl {β : Type} {p q : Ae} (h : WF p q) {f g : Ar → β} (hf : ∀ x y, ZE x y → g y = f x) : q.fc.map g = p.fc.map f := by
 apply List.ext_getElem?
 intro i
 rw [List.getElem?_map, List.getElem?_map]
 by_cases hi : i < p.fc.length
 ·have hx : p.fc[i]? = some p.fc[i] := by simp [hi]
  obtain ⟨y, hy, ht⟩ := h.o i _ hx
  rw [hx, hy, Option.map_some, Option.map_some, hf _ _ ht]
 ·rw [List.getElem?_eq_none (by rw [h.l]; omega), List.getElem?_eq_none (by omega)]; rfl
theorem UG {p q : Ae} (h : WF p q) : FY q = FY p := by
 unfold FY
 rw [h.n, Zl h (f := GB p) (g := GB q) fun x y ht => by unfold GB; rw [ht.st, ht.f, h.n]]
theorem U1 {p q : Ae} (h : WF p q) (s : Ai) (held : List Int) : IQ q s held = IQ p s held := by
 unfold IQ
 have : ∀ (xs ys : List Ar) (i : Nat) (a : List Int), ys.length = xs.length → (∀ (j : Nat) x, xs[j]? = some x → ∃ y, ys[j]? = some y ∧ ZE x y) → Iz (T7 s) i ys a = Iz (T7 s) i xs a := by
  intro xs
  induction xs with
  | nil => intro ys i a hl _; rw [List.length_eq_zero_iff.1 (by simpa using hl : ys.length = 0)]
  | cons x xs ih =>
   intro ys i a hl hh
   cases ys with
   | nil => simp at hl
   | cons y ys =>
    obtain ⟨y', e1, e2⟩ := hh 0 x rfl
    simp only [List.getElem?_cons_zero, Option.some.injEq] at e1
    subst e1
    have : T7 s i y a = T7 s i x a := by unfold T7 U4; rw [e2.f, e2.st]
    rw [Iz, Iz, this]
    exact ih ys (i + 1) _ (by simpa using hl) fun j x' hx => by
     obtain ⟨y', e1, e2⟩ := hh (j + 1) x' (by simpa using hx)
     exact ⟨y', by simpa using e1, e2⟩
 exact this _ _ _ _ h.l h.o
theorem UY {p q : Ae} (h : WF p q) (m : Ag) (s : Ai) : Gm q m s = Gm p m s := by
 unfold Gm
 simp only [U1 h]
 by_cases hi : s.fi.toNat < p.fc.length
 ·have hx : p.fc[s.fi.toNat]? = some p.fc[s.fi.toNat] := by simp [hi]
  obtain ⟨y, hy, ht⟩ := h.o _ _ hx
  rw [hx, hy]
  have : Ix q m s.fi.toNat y = Ix p m s.fi.toNat p.fc[s.fi.toNat] := by
   unfold Ix O8 L6; rw [ht.k, ht.f, ht.r]
  simp only [this, ht.st, ht.f]
 ·rw [List.getElem?_eq_none (by rw [h.l]; omega), List.getElem?_eq_none (by omega)]
theorem P3 {p q : Ae} (h : WF p q) (m : Ag) (s : Ai) : Ba q m s = Ba p m s := by
 unfold Ba GS
 rw [h.v, h.l, UY h]
theorem SQ {p q : Ae} (h : WF p q) : EU q = EU p := by
 unfold EU; rw [h.v, h.l]
theorem UJ {p q : Ae} (h : WF p q) {m : Ag} (hc : FW p m = []) : FW q m = [] := by
 unfold FW at hc ⊢
 rw [KN] at hc ⊢
 intro i y hy
 have hi : i < p.fc.length := by rw [← h.l]; exact (lI.1 hy).1
 have hx : p.fc[i]? = some p.fc[i] := by simp [hi]
 obtain ⟨y', hy', ht⟩ := h.o i _ hx
 rw [hy] at hy'; cases hy'
 have hci := hc i _ hx
 unfold KF at hci ⊢
 rw [KN] at hci ⊢
 intro u row' hu'
 have hu : u < (p.fc[i]).fj.length := by rw [← ht.l]; exact (lI.1 hu').1
 have hr : (p.fc[i]).fj[u]? = some (p.fc[i]).fj[u] := by simp [hu]
 obtain ⟨r2, e1, e2, e3⟩ := ht.o u _ hr
 rw [hu'] at e1; cases e1
 have hcu := hci u _ hr
 have hw : TO m (0 + i) y (0 + u) = TO m (0 + i) p.fc[i] (0 + u) := by unfold TO; rw [ht.st, ht.f]
 rw [hw]
 cases hwb : TO m (0 + i) p.fc[i] (0 + u)
 ·rfl
 ·rw [hwb, if_pos rfl] at hcu
  rw [if_pos rfl]
  unfold KK at hcu ⊢
  rw [List.append_eq_nil_iff] at hcu ⊢
  have hfalse : ∀ (v : Nat), row'[v]? = some false → (p.fc[i]).fj[u][v]? = some false := fun v hv => by
   have hvl : v < (p.fc[i]).fj[u].length := by rw [← e2]; exact (lI.1 hv).1
   have hz : (p.fc[i]).fj[u][v]? = some (p.fc[i]).fj[u][v] := by simp [hvl]
   cases hb : (p.fc[i]).fj[u][v]
   ·rw [hz, hb]
   ·rw [hb] at hz
    have := e3 v hz
    rw [hv] at this; cases this
  refine ⟨?_, ?_⟩
  ·have h1 := hcu.1
   rw [KN] at h1 ⊢
   intro v ok hv
   cases ok
   ·have := h1 v false (hfalse v hv)
    unfold gC at this ⊢
    rw [ht.t, ht.a]; exact this
   ·unfold gC; simp
  ·have h2 := hcu.2
   rw [ht.a]
   cases ha : (p.fc[i]).fp
   ·simp
   ·rw [ha] at h2
    cases hb : MG (hC m p.fc[i]) 0 (p.fc[i]).fj[u]
    ·rw [hb] at h2; simp at h2
    ·obtain ⟨v, ok, hv, hh⟩ := PS.1 hb
     unfold hC at hh
     rw [Bool.and_eq_true] at hh
     have hok : ok = true := hh.2
     subst hok
     have : MG (hC m y) 0 row' = true := PS.2 ⟨v, true, e3 v hv, by unfold hC; rw [ht.t, hh.1]; rfl⟩
     rw [this]; simp
theorem NJ {p q : Ae} (h : WF p q) {m : Ag} (hr : BJ p m = true) : BJ q m = true := by
 unfold BJ Ou at hr ⊢
 rw [T1] at hr ⊢
 intro j x hx
 have := hr j x hx
 rw [TE] at this ⊢
 exact UJ h this
def d8 (p : Ae) : Prop := BJ p (FY p) = true ∧ ∃ u, NY p (FY p) u = true
theorem UN {p q : Ae} (h : WF p q) (hv : BZ p = 0) (hq : Oi q) : Oi p := by
 have hvq : BZ q = 0 := by rw [PM h]; exact hv
 have hmq := Qt hvq
 obtain ⟨hpq, _⟩ := DR hvq
 unfold Oi at hq ⊢
 rw [UG h] at hq hmq
 cases hr : BJ p (FY p)
 ·exact .inl rfl
 ·have hrq := NJ h hr
  rcases hq with hq | ⟨l, hs⟩
  ·rw [hrq] at hq; cases hq
  ·obtain ⟨ws, hg⟩ := XT hpq hmq hrq hs
   have hl : l.length ≤ 120 := Bfs.go_len _ _ _ _ (by simp) hs
   refine .inr (S4 (S := LG l) (by unfold LG; rw [List.length_map]; exact hl) ?_ 1000 0 [(FY p, -1, NQ)] (by simp [LG]) (fun y hy => ?_) (Nat.zero_le _) (by omega))
   ·intro y hy w hw
    obtain ⟨⟨y0, f, s⟩, hm, rfl⟩ := List.mem_map.1 hy
    obtain ⟨k, hk⟩ := List.mem_iff_getElem?.1 hm
    obtain ⟨hw1, hw2, hw3⟩ := Pg.1 hw
    have hwq : w ∈ Js q y0 := by
     refine Pg.2 ⟨?_, by rw [hw2, P3 h], NJ h hw3⟩
     have := IZ hw1
     unfold GR
     rw [SQ h]
     exact List.mem_filter.2 ⟨this.1, by rw [P3 h]; simpa using this.2⟩
    have hkl := Bfs.lt_get hk
    obtain ⟨wy, hwy⟩ := Bfs.get_ex (l := ws) (k := k) (by rw [hg.inv.len]; exact hkl)
    obtain ⟨k', f', s', w', e1, _, _⟩ := hg.inv.closed k y0 f s wy hk hwy w (.inl ⟨hkl, hwq⟩)
    exact List.mem_map.2 ⟨_, lM e1, rfl⟩
   ·simp only [LG, List.map_cons, List.map_nil, List.mem_singleton] at hy
    subst hy
    obtain ⟨s0, hs0⟩ := hg.inv.root
    exact List.mem_map.2 ⟨_, lM hs0, rfl⟩
theorem S1 {p : Ae} {l l' : List Aa} (h : ∀ c, c ∈ l → c ∈ l') : WF (Kt p l) (Kt p l') := by
 refine ⟨rfl, rfl, rfl, by simp only [Kt, List.length_mapIdx], fun i x hx => ?_⟩
 simp only [Kt] at hx ⊢
 rw [List.getElem?_mapIdx] at hx ⊢
 cases hz : p.fc[i]? with
 | none => rw [hz] at hx; cases hx
 | some z =>
  rw [hz] at hx
  simp only [Option.map_some, Option.some.injEq] at hx
  subst hx
  refine ⟨_, rfl, ⟨rfl, rfl, rfl, rfl, rfl, by simp only [LK, List.length_mapIdx], fun u row hu => ?_⟩⟩
  simp only [LK] at hu ⊢
  rw [List.getElem?_mapIdx] at hu ⊢
  cases hr : z.fj[u]? with
  | none => rw [hr] at hu; cases hu
  | some r =>
   rw [hr] at hu
   simp only [Option.map_some, Option.some.injEq] at hu
   subst hu
   refine ⟨_, rfl, by simp only [Kl, List.length_mapIdx], fun v hv => ?_⟩
   simp only [Kl] at hv ⊢
   rw [List.getElem?_mapIdx] at hv ⊢
   cases hb : r[v]? with
   | none => rw [hb] at hv; cases hv
   | some b =>
    rw [hb] at hv
    simp only [Option.map_some, Option.some.injEq] at hv ⊢
    unfold WB at hv ⊢
    rw [Bool.or_eq_true] at hv ⊢
    exact hv.imp id fun hv => VG.2 (h _ (VG.1 hv))
theorem LZ (p : Ae) (l : List Aa) : BZ (Kt p l) = BZ p := by
 have := PM (S1 (p := p) (l := []) (l' := l) fun c hc => by cases hc)
 rw [Or] at this
 exact this
theorem R2 : FA 1000 = some true := by kernel_rfl
def H1 : List Aa → Nat → List (List Aa)
 | _, 0 => [[]]
 | [], _ + 1 => []
 | x :: l, k + 1 => (H1 l k).map (fun s => x :: s) ++ H1 l (k + 1)
theorem M2 (l : List Aa) : H1 l 0 = [[]] := by cases l <;> rfl
theorem S9 {α β : Type} (g : Nat → α → List β) : ∀ (i : Nat) (xs : List α), Cg g (i + 1) xs = Cg (fun j x => g (j + 1) x) i xs
 | _, [] => rfl
 | i, x :: xs => by rw [Cg, Cg, S9 g (i + 1) xs]
theorem PP (k : Nat) : ∀ (l : List Aa), H1 l (k + 1) = Cg (fun i c => (H1 (l.drop (i + 1)) k).map fun s => c :: s) 0 l
 | [] => rfl
 | x :: l => by
  rw [H1, Cg, S9, PP k l]
  rfl
theorem K3 : ∀ (l : List Aa) (k : Nat), (H1 l k).length ≤ 2 ^ l.length
 | l, 0 => by rw [M2]; exact Nat.one_le_two_pow
 | [], _ + 1 => by simp [H1]
 | x :: l, k + 1 => by
  rw [H1, List.length_append, List.length_map, List.length_cons, Nat.pow_succ]
  have := K3 l k
  have := K3 l (k + 1)
  omega
theorem JP : ∀ (l : List Aa) (k : Nat) (s : List Aa), s ∈ H1 l k ↔ s.Sublist l ∧ s.length = k
 | l, 0, s => by
  rw [M2, List.mem_singleton]
  constructor
  ·rintro rfl; exact ⟨List.nil_sublist _, rfl⟩
  ·rintro ⟨_, h⟩; exact List.length_eq_zero_iff.1 h
 | [], k + 1, s => by
  simp only [H1, List.not_mem_nil, false_iff]
  rintro ⟨h1, h2⟩
  rw [List.sublist_nil.1 h1] at h2; cases h2
 | x :: l, k + 1, s => by
  rw [H1, List.mem_append, List.mem_map, JP l (k + 1)]
  constructor
  ·rintro (⟨r, hr, rfl⟩ | ⟨h1, h2⟩)
   ·obtain ⟨h1, h2⟩ := (JP l k r).1 hr
    exact ⟨h1.cons_cons x, by rw [List.length_cons, h2]⟩
   ·exact ⟨h1.cons x, h2⟩
  ·rintro ⟨h1, h2⟩
   cases h1 with
   | cons _ h => exact .inr ⟨h, h2⟩
   | cons_cons _ h => exact .inl ⟨_, (JP l k _).2 ⟨h, by simpa using h2⟩, rfl⟩
theorem Lw {n : Nat} (h : n ≤ 7) : 2 ^ n ≤ 128 := Nat.pow_le_pow_right (n := 2) (by omega) h
theorem OX (N : Nat) (hN : N ≤ 1000000) (h20 : 500 ≤ N) : ∀ (k f : Nat) (l : List Aa), k < f → k ≤ 3 → l.length ≤ 7 → Ew N f l (k : Int) = some (H1 l k)
 | k, 0, l, h, _, _ => by omega
 | 0, f + 1, l, _, _, _ => by rw [M2]; rfl
 | k + 1, f + 1, l, hf, hk, hl => by
  have p128 := Lw hl
  rw [Ew, Ht, beq_eq_false_iff_ne.2 (by omega : ((k + 1 : Nat) : Int) ≠ 0), Av]
  rw [DB (Ec N l ((k + 1 : Nat) : Int) (Ew N f) _) (fun a i => (a, i)) l some (fun i c => (H1 (l.drop (i + 1)) k).map fun s => c :: s) 128 2000
   (fun i c hc => by
    have := K3 (l.drop (i + 1)) k
    have := Lw (show (l.drop (i + 1)).length ≤ 7 by rw [List.length_drop]; omega)
    rw [List.length_map]; omega)
   (fun n i c a hc ha => by
    have hi := (lI.1 hc).1
    have hd : (l.drop (i + 1)).take (l.length - (i + 1)) = l.drop (i + 1) := List.take_of_length_le (by rw [List.length_drop]; omega)
    have hlen := K3 (l.drop (i + 1)) k
    have hpow := Lw (show (l.drop (i + 1)).length ≤ 7 by rw [List.length_drop]; omega)
    have hw : wI .i64 (((k + 1 : Nat) : Int) - 1) = (k : Int) := by rw [DH (by omega) (by omega)]; omega
    rw [Ec]
    simp only [A1, hc, oS]
    rw [AM (by omega), AI (by omega), Au (by omega), Int.toNat_natCast, hd, hw, OX N hN h20 k f _ (by omega) (by omega) (by rw [List.length_drop]; omega)]
    simp only [oS]
    rw [List.length_map] at ha
    rw [DB (EG N c (H1 (l.drop (i + 1)) k) _) (fun a i => (a, i)) (H1 (l.drop (i + 1)) k) (fun v9 => Ec N l ((k + 1 : Nat) : Int) (Ew N f) some n (v9, ((i + 1 : Nat) : Int))) (fun _ s => [c :: s]) 1 3000
     (fun j s hs => by simp)
     (fun n2 j s b hs hb => by
      have hj := (lI.1 hs).1
      have hsl := (List.Sublist.length_le ((JP _ _ s).1 (lM hs)).1)
      rw [List.length_drop] at hsl
      rw [EG]
      simp only [A1, hs, oS]
      rw [AM (by omega), Au (by simp only [List.length_singleton]; unfold DM; omega), Au (by simp only [List.length_singleton] at hb ⊢; unfold DM; omega), AI (by omega)]
      rfl)
     (fun n2 b => by
      rw [EG, AE (by omega)]) N a (by omega) (by omega)]
    rw [J6 (fun _ s => c :: s)]
    have : (H1 (l.drop (i + 1)) k).mapIdx (fun _ s => c :: s) = (H1 (l.drop (i + 1)) k).map fun s => c :: s := by
     apply List.ext_getElem?; intro q; rw [List.getElem?_mapIdx, List.getElem?_map]
    rw [this])
   (fun n a => by
    rw [Ec, AE (by omega)]) N [] (by omega) (by simp only [List.length_nil]; omega)]
  rw [List.nil_append, PP]
structure M9 (p : Ae) : Prop where
 v : BZ p = 0
 e : (EM p).length ≤ 7
 l : Oi (Kt p (EM p))
def X3 (p : Ae) (l : List Aa) : Bool := match Gz 1000 (Kt p l) with
 | some r => r.2 == 0
 | none => false
theorem Ww {p : Ae} (hv : BZ p = 0) {m : Ag} (hm : Co p m) (hr : BJ p m = true) {l : List Kn} (hs : Lt p m 120 1000 = some l) :
  ∃ r, GC 1000 p m = some r ∧ TV p m r := by
 obtain ⟨hp, _⟩ := DR hv
 obtain ⟨ws, h⟩ := XT hp hm hr hs
 have hl : l.length ≤ 120 := Bfs.go_len _ _ _ _ (by simp) hs
 refine ⟨_, R5 (by omega) (by omega) hv hm hr (by omega) (by omega) hs (by omega) h, ?_⟩
 rcases Wl hp h with ⟨h1, h2, h3⟩ | h1
 ·exact .inl ⟨h1, h2, by omega⟩
 ·exact .inr h1
theorem Vb {p : Ae} (hv : BZ p = 0) {m : Ag} (hm : Co p m) (hr : BJ p m = false) : GC 1000 p m = some ([], 13) := by
 unfold GC
 rw [KL 1000 p m (by omega) (by omega) (NH hm) (K5 hv hm), hr]; rfl
theorem Wp {p : Ae} (hv : BZ p = 0) (hl : Oi p) : ∃ r, Gz 1000 p = some r ∧ PC p r := by
 have hm := Qt hv
 unfold Gz
 rw [RX 1000 p (by omega) (by omega), if_pos hv]
 simp only [oS, hv, bne_self_eq_false, Av]
 cases hr : BJ p (FY p)
 ·rw [Vb hv hm hr]
  exact ⟨_, rfl, .inl ⟨hr, rfl⟩⟩
 ·rcases hl with h | ⟨l, hs⟩
  ·rw [hr] at h; cases h
  ·obtain ⟨r, e1, e3⟩ := Ww hv hm hr hs
   rw [e1]
   exact ⟨r, rfl, .inr ⟨hr, e3⟩⟩
theorem X9 {p : Ae} (hu : M9 p) {l : List Aa} (hl : ∀ c, c ∈ l → c ∈ EM p) : ∃ r, Gz 1000 (Kt p l) = some r ∧ PC (Kt p l) r :=
 Wp (by rw [LZ]; exact hu.v) (UN (S1 hl) (by rw [LZ]; exact hu.v) hu.l)
theorem W9 {p : Ae} {r : List Ai × Int} (h : PC p r) : ((r.2 == 0) = true ↔ d8 p) ∧ (r.2 == 3) = false ∧ (r.2 = 0 ∨ r.2 = 13 ∨ r.2 = 14) := by
 rcases h with ⟨h1, h2⟩ | ⟨h1, ⟨h2, h3, _⟩ | ⟨h2, h3⟩⟩
 ·subst h2
  refine ⟨⟨(fun h => by cases h), fun h => ?_⟩, rfl, .inr (.inl rfl)⟩
  rw [h.1] at h1; cases h1
 ·rw [h2]
  exact ⟨⟨fun _ => ⟨h1, _, h3.1⟩, fun _ => rfl⟩, rfl, .inl rfl⟩
 ·subst h2
  refine ⟨⟨(fun h => by cases h), fun h => ?_⟩, rfl, .inr (.inr rfl)⟩
  obtain ⟨_, u, hu⟩ := h
  rw [h3 u] at hu; cases hu
theorem Vn {p : Ae} (hu : M9 p) {l : List Aa} (hl : ∀ c, c ∈ l → c ∈ EM p) (hs : l.length < 1000) : EL 1000 p l = some (X3 p l, 0) := by
 obtain ⟨r, e1, e3⟩ := X9 hu hl
 unfold EL X3
 rw [Tq (by omega) (by omega) hu.v hs hl]
 simp only [oS, e1, (W9 e3).2.1, Av]
def Ki (p : Ae) (k : Nat) : List (List Aa) := (H1 (EM p) k).filter (X3 p)
theorem PY {p : Ae} {k : Nat} {s : List Aa} : s ∈ Ki p k ↔ s.Sublist (EM p) ∧ s.length = k ∧ X3 p s = true := by
 unfold Ki
 rw [List.mem_filter, JP, and_assoc]
def PI (p : Ae) : Nat → Nat → List (List Aa) × Int
 | 0, _ => ([], 14)
 | n + 1, k => if Ki p k = [] then PI p n (k + 1) else (Ki p k, 0)
theorem N5 {α : Type} (f : α → Bool) : ∀ (i : Nat) (xs : List α), Cg (fun _ x => if f x = true then [x] else []) i xs = xs.filter f
 | _, [] => rfl
 | i, x :: xs => by
  rw [Cg, N5 f (i + 1) xs, List.filter_cons]
  split <;> rfl
theorem Wr {p : Ae} (hu : M9 p) (k : Nat) (j : List (List Aa) → Option (List (List Aa) × Int)) : Eu 1000 p (H1 (EM p) k) j 1000 ([], 0) = j (Ki p k) := by
 have hl := K3 (EM p) k
 have hp := Lw hu.e
 rw [DB (Eu 1000 p (H1 (EM p) k) j) (fun a i => (a, i)) (H1 (EM p) k) j (fun _ s => if X3 p s = true then [s] else []) 1 500
  (fun i s hs => by split <;> simp)
  (fun n i s a hs ha => by
   have hi := (lI.1 hs).1
   obtain ⟨h1, h2⟩ := (JP _ _ s).1 (lM hs)
   have h3 := h1.length_le
   have := hu.e
   rw [Eu]
   simp only [A1, hs, oS, Br]
   rw [AM (by omega), Vn hu (fun c hc => h1.subset hc) (by omega), AI (by omega)]
   simp only [oS, bne_self_eq_false, Av]
   cases hb : X3 p s
   ·rw [Av, if_neg (by simp), List.append_nil]
   ·rw [hb, if_pos rfl] at ha
    rw [AX, if_pos rfl, Au (by simp only [List.length_singleton] at ha ⊢; unfold DM; omega)])
  (fun n a => by
   rw [Eu, AE (by omega)]) 1000 [] (by omega) (by simp only [List.length_nil]; omega)]
 rw [List.nil_append, N5]; rfl
theorem Rt {p : Ae} (hu : M9 p) : ∀ (n k m : Nat), k + n = 4 → n < m → E4 1000 p (fun _ => some ([], 14)) m (EM p, (k : Int)) = some (PI p n k)
 | n, k, 0, _, h => by omega
 | 0, k, m + 1, hk, _ => by
  rw [E4, AE (by omega)]; rfl
 | n + 1, k, m + 1, hk, hm => by
  rw [E4, AM (by omega)]
  simp only [Jw]
  rw [OX 1000 (by omega) (by omega) k 1000 _ (by omega) (by omega) hu.e]
  simp only [oS]
  rw [Wr hu k, AI (by omega), PI]
  cases hr : Ki p k with
  | nil =>
   rw [if_pos rfl, AE (by simp)]
   exact Rt hu n (k + 1) m (by omega) (by omega)
  | cons s l =>
   rw [if_neg (by simp), AM (by simp only [List.length_cons]; omega)]
def V2 (p : Ae) : List (List Aa) × Int := PI p 4 0
theorem UI {p : Ae} (hu : M9 p) : GV 1000 p = some (V2 p) := by
 unfold GV
 have := hu.e
 rw [PL (by omega) (by omega)]
 unfold Z0
 rw [if_pos hu.v]
 simp only [oS, bne_self_eq_false, Av]
 rw [AE (by omega)]
 exact Rt hu 4 0 1000 rfl (by omega)
theorem Qm (p : Ae) : ∀ (n k : Nat), (PI p n k = ([], 14) ∧ ∀ j, k ≤ j → j < k + n → Ki p j = []) ∨ ∃ j, k ≤ j ∧ j < k + n ∧ PI p n k = (Ki p j, 0) ∧ Ki p j ≠ [] ∧ ∀ i, k ≤ i → i < j → Ki p i = []
 | 0, k => .inl ⟨rfl, fun j h1 h2 => by omega⟩
 | n + 1, k => by
  rw [PI]
  by_cases h : Ki p k = []
  ·rw [if_pos h]
   rcases Qm p n (k + 1) with ⟨h1, h2⟩ | ⟨j, h1, h2, h3, h4, h5⟩
   ·exact .inl ⟨h1, fun j hj1 hj2 => by
     by_cases e : j = k
     ·rw [e]; exact h
     ·exact h2 j (by omega) (by omega)⟩
   ·exact .inr ⟨j, by omega, by omega, h3, h4, fun i hi1 hi2 => by
     by_cases e : i = k
     ·rw [e]; exact h
     ·exact h5 i (by omega) hi2⟩
  ·rw [if_neg h]
   exact .inr ⟨k, Nat.le_refl _, by omega, rfl, h, fun i h1 h2 => by omega⟩
theorem RC (p : Ae) : (V2 p = ([], 14) ∧ ∀ j, j < 4 → Ki p j = []) ∨ ∃ j, j < 4 ∧ V2 p = (Ki p j, 0) ∧ Ki p j ≠ [] ∧ ∀ i, i < j → Ki p i = [] := by
 rcases Qm p 4 0 with ⟨h1, h2⟩ | ⟨j, _, h2, h3, h4, h5⟩
 ·exact .inl ⟨h1, fun j hj => h2 j (Nat.zero_le _) (by omega)⟩
 ·exact .inr ⟨j, by omega, h3, h4, fun i hi => h5 i (Nat.zero_le _) hi⟩
def Ql (p : Ae) : List Aa × Int := if (V2 p).2 = 0 then ((V2 p).1.headD [], 0) else ([], (V2 p).2)
theorem R0 {p : Ae} (hu : M9 p) : Gi 1000 p = some (Ql p) := by
 unfold Gi Ql
 rw [UI hu]
 simp only [oS]
 rcases RC p with ⟨h, _⟩ | ⟨j, _, h, hn, _⟩
 ·rw [h]; rfl
 ·rw [h]
  simp only [bne_self_eq_false, Av, if_true]
  cases hr : Ki p j with
  | nil => exact absurd hr hn
  | cons s l => rfl
theorem S5 (p : Ae) : (Ql p = ([], 14) ∧ ∀ j, j < 4 → Ki p j = []) ∨ ∃ j s, j < 4 ∧ Ql p = (s, 0) ∧ s ∈ Ki p j ∧ ∀ i, i < j → Ki p i = [] := by
 unfold Ql
 rcases RC p with ⟨h, h2⟩ | ⟨j, h1, h, hn, h2⟩
 ·rw [h]; exact .inl ⟨rfl, h2⟩
 ·rw [h, if_pos rfl]
  cases hr : Ki p j with
  | nil => exact absurd hr hn
  | cons s l => exact .inr ⟨j, s, h1, rfl, by rw [hr]; exact List.mem_cons_self, h2⟩
theorem U9 {p : Ae} (hv : BZ p = 0) : ∃ b, FL 1000 p 60 = some b ∧ (b = true → Oi p) := by
 obtain ⟨hp, _⟩ := DR hv
 have hm := Qt hv
 unfold FL
 rw [RQ 1000 p (by omega) (by omega), if_pos hv]
 simp only [oS, Br, hv, bne_self_eq_false, Av]
 rw [MS 1000 p _ (by omega) (by omega) hp hm]
 simp only [oS]
 cases hr : BJ p (FY p)
 ·exact ⟨true, rfl, fun _ => .inl hr⟩
 ·have e := Su (N := 1000) (by omega) (by omega) hv hm hr (most := 60) (by omega) (by omega) (.inl (by omega))
  have e' : EQ 1000 p (FY p) 60 = _ := e
  rw [Bool.not_true, Av, e']
  cases hs : Lt p (FY p) 60 1000 with
  | none => exact ⟨false, rfl, fun h => by cases h⟩
  | some l => exact ⟨true, rfl, fun _ => .inr ⟨l, Bfs.go_more (by omega) _ _ _ _ _ (Nat.le_refl _) hs⟩⟩
theorem X8 (d : BW) (wd : GE d) : ∃ p b, GG 1000 d = some (p, b) ∧ (b = true → M9 p) := by
 obtain ⟨p, ok, e, h⟩ := d4 1000 d (by omega) (by omega) wd
 unfold GG
 rw [e]
 simp only [oS, Br]
 cases ok
 ·exact ⟨p, false, rfl, fun h => by cases h⟩
 ·rw [AX]
  have hv := (h rfl).valid
  obtain ⟨hp, _⟩ := DR hv
  have he := Si hp
  by_cases h2 : (p.fb.length : Int) ≤ 2
  ·rw [AM h2]
   unfold Gx
   rw [QA (by omega) (by omega) hp]
   simp only [oS, Br]
   by_cases h7 : ((EM p).length : Int) ≤ 7
   ·rw [AM h7, Ui (by omega) (by omega) hp (by omega)]
    simp only [oS]
    obtain ⟨b, e2, h3⟩ := U9 (p := Kt p (EM p)) (by rw [LZ]; exact hv)
    rw [e2]
    exact ⟨p, b, rfl, fun hb => ⟨hv, by omega, h3 hb⟩⟩
   ·rw [AE h7]
    exact ⟨p, false, rfl, fun h => by cases h⟩
  ·rw [AE h2]
   exact ⟨p, false, rfl, fun h => by cases h⟩
theorem Ns (d : BW) (wd : GE d) : D7 1000 d = some true := by
 unfold D7
 obtain ⟨p, b, e, h⟩ := X8 d wd
 rw [e]
 simp only [oS, Br, R2, Bool.not_true, Av]
 cases b
 ·rfl
 have hu := h rfl
 obtain ⟨r, e1, e3⟩ := X9 hu (l := []) fun c hc => by cases hc
 rw [Or] at e1
 have hpl : X3 p [] = (r.2 == 0) := by unfold X3; rw [Or, e1]
 rw [R0 hu, e1]
 simp only [Bool.not_true, Av, oS]
 rcases S5 p with ⟨h1, h2⟩ | ⟨j, s, hj, h1, h2, h3⟩
 ·have h0 : X3 p [] = false := by
   cases hh : X3 p []
   ·rfl
   ·have : [] ∈ Ki p 0 := PY.2 ⟨List.nil_sublist _, rfl, hh⟩
    rw [h2 0 (by omega)] at this; cases this
  rw [h1, ← hpl, h0]; rfl
 ·obtain ⟨g1, g2, g3⟩ := PY.1 h2
  rw [h1, ← hpl]
  simp only [beq_self_eq_true, AX]
  cases hh : X3 p []
  ·have : s ≠ [] := fun e => by rw [e, hh] at g3; cases g3
   have : ((s.length : Int) == 0) = false := beq_eq_false_iff_ne.2 (by
    have := List.length_pos_iff.2 this; omega)
   rw [this]; rfl
  ·have hm : [] ∈ Ki p 0 := PY.2 ⟨List.nil_sublist _, rfl, hh⟩
   have hj0 : j = 0 := by
    rcases Nat.eq_zero_or_pos j with h | h
    ·exact h
    ·rw [h3 0 h] at hm; cases hm
   subst hj0
   rw [List.length_eq_zero_iff.1 g2]; rfl
end Go.Lift
