/- Lemmas for UnblockMoreSaid, which YtjpgllmfenogoaaGreatFinU5 proves. -/
import Derived.Test.YtjpgllmfenogoaaGreatMNear
import Derived.KernelRfl
namespace Go.Lift
open IntKind renaming wrap → wI
open Option renaming bind_some → oS
open List renaming mem_of_getElem? → lM
open List renaming getElem?_eq_some_iff → lI
open Go
def Pv (t u v : Nat) (ok : Bool) : List Aa := if ok = true then [] else [⟨(t : Int), (u : Int), (v : Int)⟩]
def Ny (t u : Nat) (row : List Bool) : List Aa := BE (Pv t u) 0 row
def Nj (t : Nat) (x : Aq) : List Aa := BE (Ny t) 0 x.fi
def Cq (p : Ad) : List Aa := BE Nj 0 p.fb
theorem QH (t u v : Nat) (ok : Bool) : (Pv t u v ok).length ≤ 1 := by unfold Pv; split <;> simp
theorem Km (t u : Nat) {row : List Bool} (h : row.length ≤ 6) : (Ny t u row).length ≤ 6 := by
 have := Gq (g := Pv t u) (c := 1) (i := 0) (xs := row) (fun j x _ => QH _ _ _ _)
 unfold Ny; omega
theorem Kq {p : Ad} {t : Aq} (hp : Bj p) (ht : Ob p t) (i : Nat) : (Nj i t).length ≤ 36 := by
 have h1 := JU hp ht
 have := Gq (g := Ny i) (c := 6) (i := 0) (xs := t.fi) (fun j x hx => Km i _ (h1.2 x (lM hx)))
 unfold Nj; omega
theorem NP {p : Ad} (hp : Bj p) : (Cq p).length ≤ 432 := by
 have := Gq (g := Nj) (c := 36) (i := 0) (xs := p.fb) (fun j x hx => Kq hp (Jm (hp.tab x (lM hx))) _)
 have := hp.nt
 unfold Cq; omega
theorem Kb {N : Nat} (hN : N ≤ 1000000) (h20 : 100 ≤ N) {p : Ad} (hp : Bj p) : DK N p = some (Cq p) := by
 unfold DK
 have hnt := hp.nt
 rw [DG (BQ N p _) (fun a k => (a, k)) p.fb some Nj 36 9000
  (fun i t hx => Kq hp (Jm (hp.tab t (lM hx))) i)
  (fun n i t a hx ha => by
   have hi := (lI.1 hx).1
   have ht := Jm (hp.tab t (lM hx))
   have hv := JU hp ht
   have het := Kq hp ht i
   rw [BQ]
   rw [AK (by omega), DG (Cj N p (a, (i : Int)) _) (fun a k => (a, k)) t.fi (fun b => BQ N p (fun v2 => some v2) n (b, wI .i64 ((i : Int) + 1))) (Ny i) 6 10000
    (fun u row hu => Km i u (hv.2 row (lM hu)))
    (fun n2 u row b hu hb => by
     have hui := (lI.1 hu).1
     have hrl := hv.2 row (lM hu)
     rw [Cj]
     simp only [AZ, hx, oS]
     rw [AK (by omega), DG (CY N p (a, (i : Int)) (b, (u : Int)) _) (fun a k => (a, k)) row (fun c => Cj N p (a, (i : Int)) (fun v5 => BQ N p (fun v2 => some v2) n (v5, wI .i64 ((i : Int) + 1))) n2 (c, wI .i64 ((u : Int) + 1))) (Pv i u) 1 20000
      (fun v ok _ => QH i u v ok)
      (fun n3 v ok c hv hc => by
       have hvi := (lI.1 hv).1
       rw [CY]
       simp only [AZ, hx, hu, hv, oS, Bn]
       rw [AK (by omega), AF (i := v) (by omega)]
       cases ok
       ·simp only [Bool.not_false, AU]
        rw [As (by simp only [Pv, Bool.false_eq_true, if_false, List.length_singleton] at hc ⊢; unfold DP; omega)]
        rfl
       ·simp only [Bool.not_true, Au, Pv, if_true, List.append_nil])
      (fun n3 c => by
       rw [CY]
       simp only [AZ, hx, hu, oS, Bn]
       rw [AD (by omega)]) N b (by omega) (by have := Km i u hrl; omega), AF (i := u) (by omega)]
     rfl)
    (fun n2 b => by
     rw [Cj]
     simp only [AZ, hx, oS]
     rw [AD (by omega)]) N a (by omega) (by omega), AF (i := i) (by omega)]
   rfl)
  (fun n a => by
   rw [BQ]
   rw [AD (by omega)]) N [] (by omega) (by simp; omega)]
 rfl
theorem QC {N : Nat} (hN : N ≤ 1000000) (h20 : 100 ≤ N) {p : Ad} (hp : Bj p) : EN N p = some (Cq p) := by
 unfold EN
 have hnt := hp.nt
 rw [DG (CN N p _) (fun a k => (a, k)) p.fb some Nj 36 9000
  (fun i t hx => Kq hp (Jm (hp.tab t (lM hx))) i)
  (fun n i t a hx ha => by
   have hi := (lI.1 hx).1
   have ht := Jm (hp.tab t (lM hx))
   have hv := JU hp ht
   have het := Kq hp ht i
   rw [CN]
   simp only [AZ, hx, oS]
   rw [AK (by omega), DG (Dh N (a, (i : Int)) t _) (fun a k => (a, k)) t.fi (fun b => CN N p (fun v2 => some v2) n (b, wI .i64 ((i : Int) + 1))) (Ny i) 6 10000
    (fun u row hu => Km i u (hv.2 row (lM hu)))
    (fun n2 u row b hu hb => by
     have hui := (lI.1 hu).1
     have hrl := hv.2 row (lM hu)
     rw [Dh]
     simp only [AZ, hu, oS]
     rw [AK (by omega), DG (DY N (a, (i : Int)) (b, (u : Int)) row _) (fun a k => (a, k)) row (fun c => Dh N (a, (i : Int)) t (fun v5 => CN N p (fun v2 => some v2) n (v5, wI .i64 ((i : Int) + 1))) n2 (c, wI .i64 ((u : Int) + 1))) (Pv i u) 1 20000
      (fun v ok _ => QH i u v ok)
      (fun n3 v ok c hv hc => by
       have hvi := (lI.1 hv).1
       rw [DY]
       simp only [AZ, hv, oS, Bn]
       rw [AK (by omega), AF (i := v) (by omega)]
       cases ok
       ·simp only [Bool.not_false, AU]
        rw [As (by simp only [Pv, Bool.false_eq_true, if_false, List.length_singleton] at hc ⊢; unfold DP; omega)]
        rfl
       ·simp only [Bool.not_true, Au, Pv, if_true, List.append_nil])
      (fun n3 c => by
       rw [DY]
       simp only [Bn]
       rw [AD (by omega)]) N b (by omega) (by have := Km i u hrl; omega), AF (i := u) (by omega)]
     rfl)
    (fun n2 b => by
     rw [Dh]
     rw [AD (by omega)]) N a (by omega) (by omega), AF (i := i) (by omega)]
   rfl)
  (fun n a => by
   rw [CN]
   rw [AD (by omega)]) N [] (by omega) (by simp; omega)]
 rfl
def Zd (a b : Aa) : Bool := (a.fw == b.fw) && ((a.fv == b.fv) && ((a.fu == b.fu) && true))
theorem PE (a b : Aa) : Zd a b = true ↔ a = b := by
 unfold Zd
 cases a; cases b
 simp
def Q4 (l : List Aa) (c : Aa) : Bool := l.any fun x => Zd x c
theorem PI {l : List Aa} {c : Aa} : Q4 l c = true ↔ c ∈ l := by
 unfold Q4
 rw [List.any_eq_true]
 constructor
 ·rintro ⟨x, h1, h2⟩; rw [PE] at h2; exact h2 ▸ h1
 ·intro h; exact ⟨c, h, (PE c c).2 rfl⟩
theorem YC (x : Aa) (l : List Aa) (c : Aa) : Q4 (x :: l) c = (Zd x c || Q4 l c) := rfl
theorem Wh (N : Nat) (l : List Aa) (c : Aa) (hl : l.length < 1000000) : ∀ (n i : Nat), i ≤ l.length → l.length - i < n → ES N l c (fun _ => some false) n (i : Int) = some (Q4 (l.drop i) c)
 | 0, i, _, h => by omega
 | n + 1, i, hi, h => by
  rw [ES]
  by_cases h1 : i < l.length
  ·have hx : l[i]? = some l[i] := by simp [h1]
   rw [AK (by omega), AZ, hx, H8 hx, YC, AF (by omega), Wh N l c hl n (i + 1) (by omega) (by omega)]
   simp only [oS]
   show AW (Zd l[i] c) _ _ = _
   cases Zd l[i] c <;> rfl
  ·rw [AD (by omega), List.drop_eq_nil_of_le (by omega)]; rfl
theorem Sc {N : Nat} {l : List Aa} (hN : N ≤ 1000000) (hl : l.length < N) (c : Aa) : FZ N l c = some (Q4 l c) := by
 unfold FZ
 have := Wh N l c (by omega) N 0 (by omega) (by omega)
 simpa using this
def Vv (l : List Aa) (t u v : Nat) (ok : Bool) : Bool := ok || Q4 l ⟨(t : Int), (u : Int), (v : Int)⟩
def J1 (l : List Aa) (t u : Nat) (row : List Bool) : List Bool := row.mapIdx (Vv l t u)
def Ls (l : List Aa) (t : Nat) (x : Aq) : Aq := ⟨x.ff, x.fg, x.fk, x.fp, x.fi.mapIdx (J1 l t), x.fo⟩
def Ha (p : Ad) (l : List Aa) : Ad := ⟨p.fc, p.fh, p.fm, p.fb.mapIdx (Ls l)⟩
theorem RS {α β : Type} (f : Nat → α → β) : ∀ (k : Nat) (xs : List α), BE (fun i x => [f i x]) k xs = xs.mapIdx fun i x => f (k + i) x
 | _, [] => rfl
 | k, x :: xs => by
  rw [BE, RS f (k + 1) xs, List.mapIdx_cons]
  simp only [List.singleton_append, Nat.add_zero, Nat.add_assoc, Nat.add_comm 1]
theorem Ky {α β : Type} (f : Nat → α → β) (xs : List α) : BE (fun i x => [f i x]) 0 xs = xs.mapIdx f := by
 rw [RS]; simp only [Nat.zero_add]
theorem K0 {α β : Type} {f g : Nat → α → β} {xs : List α} {k : Nat} {x : α} (hx : xs[k]? = some x) (h : ∀ j y, xs[j]? = some y → j ≠ k → g j y = f j y) : xs.mapIdx g = (xs.mapIdx f).set k (g k x) := by
 apply List.ext_getElem?
 intro j
 rw [List.getElem?_mapIdx, List.getElem?_set, List.getElem?_mapIdx]
 have hk := (lI.1 hx).1
 by_cases e : k = j
 ·subst e; rw [if_pos rfl, if_pos (by simpa using hk), hx]; rfl
 ·rw [if_neg e]
  cases hy : xs[j]? with
  | none => rfl
  | some y => simp only [Option.map_some]; rw [h j y hy (fun e' => e e'.symm)]
theorem XW {N : Nat} (hN : N ≤ 1000000) {l : List Aa} (hl : l.length < N) (v4 : List Aq × Int) (v8 : List (List Bool) × Int) (t u : Nat) (h4 : v4.2 = (t : Int)) (h8 : v8.2 = (u : Int)) (row : List Bool) (hr : row.length ≤ 6) (h20 : 100 ≤ N) (j : List Bool → Option Ad) :
  CQ N l v4 v8 j N (row, 0) = j (J1 l t u row) := by
 obtain ⟨a, e, h⟩ := FF (A := List Bool) (CQ N l v4 v8 j) (fun a k => (a, k)) row.length j (fun i a => a.length = row.length ∧ (∀ k, i ≤ k → a[k]? = row[k]?) ∧ ∀ k, k < i → a[k]? = (row[k]?).map (Vv l t u k))
  (fun n i a hi h => by
   obtain ⟨h1, h2, h3⟩ := h
   have hx : row[i]? = some row[i] := by simp [hi]
   have ha : a[i]? = some row[i] := by rw [h2 i (Nat.le_refl _), hx]
   refine ⟨a.set i (Vv l t u i row[i]), ?_, by simpa using h1, fun k hk => ?_, fun k hk => ?_⟩
   ·rw [CQ]
    simp only [Bn, AZ, ha, oS]
    rw [AK (by omega), AF (by omega), h4, h8, Sc hN hl]
    simp only [oS, Vv, Int.toNat_natCast]
    cases row[i]
    ·rw [Au, Bool.false_or]
    ·rw [AU, Bool.true_or]
   ·rw [List.getElem?_set, if_neg (by omega)]; exact h2 k (by omega)
   ·rw [List.getElem?_set]
    by_cases e : i = k
    ·subst e; rw [if_pos rfl, if_pos (by omega), hx]; rfl
    ·rw [if_neg e]; exact h3 k (by omega))
  (fun n a h => by
   rw [CQ, AD (by simp only; omega)]) N 0 row (Nat.zero_le _) (by omega) ⟨rfl, fun _ _ => rfl, fun k hk => by omega⟩
 have : a = J1 l t u row := by
  apply List.ext_getElem?
  intro k
  rw [J1, List.getElem?_mapIdx]
  by_cases hk : k < row.length
  ·exact h.2.2 k hk
  ·rw [h.2.1 k (by omega), List.getElem?_eq_none (by omega)]; rfl
 rw [← this]
 exact e
theorem Pf {N : Nat} (hN : N ≤ 1000000) (h20 : 100 ≤ N) {p : Ad} (hp : Bj p) {l : List Aa} (hl : l.length < N) : Ev N p l = some (Ha p l) := by
 unfold Ev
 have hnt := hp.nt
 have hnv := hp.nv
 have hnow := hp.now
 have htg := hp.tgt
 rw [As (by simp only [List.length_nil]; unfold DP; omega), As (by simp only [List.length_nil]; unfold DP; omega), As (by simp only [List.length_nil]; unfold DP; omega)]
 rw [DG (Cv N p l _) (fun a k => (a, k)) p.fb (fun v5 => some (Ad.mk ([] ++ p.fc) ([] ++ p.fh) ([] ++ p.fm) v5)) (fun t x => [Ls l t x]) 1 1000
  (fun i t hx => by simp)
  (fun n i t a hx ha => by
   have hi := (lI.1 hx).1
   have ht := Jm (hp.tab t (lM hx))
   have hv := JU hp ht
   have hrw : t.fo.length ≤ 6 ∧ ∀ row, row ∈ t.fo → row.length ≤ 6 := by
    have h1 := K3 hp.ver ht.from0.1 ht.from0.2
    refine ⟨?_, fun row hr => by have := ht.reR row hr; omega⟩
    by_cases hk : t.ff = 4
    ·have := ht.reL hk; omega
    ·rw [ht.reN hk]; simp
   rw [Cv]
   simp only [AZ, hx, oS]
   rw [AK (by omega), DG (DM N p l (a, (i : Int)) _) (fun a k => (a, k)) t.fi (fun v9 => CU N p (a, (i : Int)) (fun v26 => (Eh (a.length + ([(Aq.mk t.ff t.fg t.fk t.fp v9 v26)] : List Aq).length ≤ DP)).bind fun _ => Cv N p l (fun v5 => some (Ad.mk ([] ++ p.fc) ([] ++ p.fh) ([] ++ p.fm) v5)) n (a ++ [(Aq.mk t.ff t.fg t.fk t.fp v9 v26)], wI .i64 ((i : Int) + 1))) N ([], 0)) (fun u row => [J1 l i u row]) 1 1000
    (fun u row hu => by simp)
    (fun n2 u row b hu hb => by
     have hui := (lI.1 hu).1
     have hrl := hv.2 row (lM hu)
     rw [DM]
     simp only [AZ, hx, hu, oS]
     rw [AK (by omega), As (by simp only [List.length_nil]; unfold DP; omega)]
     simp only [List.nil_append]
     rw [XW hN hl _ _ i u rfl rfl row hrl h20, As (by simp only [List.length_singleton] at hb ⊢; unfold DP; omega), AF (i := u) (by omega)])
    (fun n2 b => by
     rw [DM]
     simp only [AZ, hx, oS]
     rw [AD (by omega)]) N [] (by omega) (by simp only [List.length_nil]; omega)]
   rw [DG (CU N p (a, (i : Int)) _) (fun a k => (a, k)) t.fo (fun v26 => (Eh (a.length + ([(Aq.mk t.ff t.fg t.fk t.fp ([] ++ BE (fun u row => [J1 l i u row]) 0 t.fi) v26)] : List Aq).length ≤ DP)).bind fun _ => Cv N p l (fun v5 => some (Ad.mk ([] ++ p.fc) ([] ++ p.fh) ([] ++ p.fm) v5)) n (a ++ [(Aq.mk t.ff t.fg t.fk t.fp ([] ++ BE (fun u row => [J1 l i u row]) 0 t.fi) v26)], wI .i64 ((i : Int) + 1))) (fun _ row => [row]) 1 1000
    (fun u row hu => by simp)
    (fun n2 u row b hu hb => by
     have hui := (lI.1 hu).1
     have hrl := hrw.2 row (lM hu)
     rw [CU]
     simp only [AZ, hx, hu, oS]
     rw [AK (by omega), As (by simp only [List.length_nil]; unfold DP; omega), As (by simp only [List.length_singleton] at hb ⊢; unfold DP; omega), AF (i := u) (by omega)]
     rfl)
    (fun n2 b => by
     rw [CU]
     simp only [AZ, hx, oS]
     rw [AD (by omega)]) N [] (by omega) (by simp only [List.length_nil]; omega)]
   rw [As (by simp only [List.length_singleton] at ha ⊢; unfold DP; omega), AF (i := i) (by omega), Ky, Ky (fun _ row => row)]
   simp only [List.nil_append, Ls]
   have : t.fo.mapIdx (fun _ row => row) = t.fo := by
    apply List.ext_getElem?; intro k; rw [List.getElem?_mapIdx]; cases t.fo[k]? <;> rfl
   rw [this])
  (fun n a => by
   rw [Cv]
   rw [AD (by omega)]) N [] (by omega) (by simp only [List.length_nil]; omega), Ky]
 rfl
theorem aW {p : Ad} {t : Aq} (hp : Bj p) (ht : Ob p t) : t.fo.length ≤ 6 ∧ ∀ row, row ∈ t.fo → row.length ≤ 6 := by
 have h1 := K3 hp.ver ht.from0.1 ht.from0.2
 refine ⟨?_, fun row hr => by have := ht.reR row hr; omega⟩
 by_cases hk : t.ff = 4
 ·have := ht.reL hk; omega
 ·rw [ht.reN hk]; simp
theorem Tm (N : Nat) {l : List (List Bool)} (h : l.length ≤ 100000) : DI N l = some l := by
 unfold DI
 rw [As (by simp only [List.length_nil]; unfold DP; omega)]; rfl
theorem Wp (N : Nat) {l : List Bool} (h : l.length ≤ 100000) : De N l = some l := by
 unfold De
 rw [As (by simp only [List.length_nil]; unfold DP; omega)]; rfl
theorem Sl (N : Nat) {l : List Int} (h : l.length ≤ 100000) : A6 N l = some l := by
 unfold A6
 rw [As (by simp only [List.length_nil]; unfold DP; omega)]; rfl
theorem Pm {α : Type} {l : List α} {i : Nat} {x : α} (h : l[i]? = some x) : l.set i x = l := by
 apply List.ext_getElem?
 intro k
 rw [List.getElem?_set]
 have := (lI.1 h).1
 by_cases e : i = k
 ·subst e; rw [if_pos rfl, if_pos this, h]
 ·rw [if_neg e]
theorem WL {N : Nat} (h20 : 100 ≤ N) (t : Aq) (h1 : t.fi.length ≤ 6) (h2 : ∀ row, row ∈ t.fi → row.length ≤ 6) (h3 : t.fo.length ≤ 6) (h4 : ∀ row, row ∈ t.fo → row.length ≤ 6) : GH N t = some t := by
 unfold GH
 rw [Tm N (by omega), Tm N (by omega)]
 simp only [oS]
 have l1 := IM (Eb N t.fi fun v4 => Cg N t.fo (fun v12 => some ⟨t.ff, t.fg, t.fk, t.fp, v4, v12⟩) N (t.fo, 0)) (fun a i => (a, i)) t.fi (fun v4 => Cg N t.fo (fun v12 => some ⟨t.ff, t.fg, t.fk, t.fp, v4, v12⟩) N (t.fo, 0)) (fun _ _ a => a) (fun _ a => a = t.fi)
  (fun n i x a hx ha => by
   subst ha
   have hi := (lI.1 hx).1
   refine ⟨?_, rfl⟩
   rw [Eb]
   simp only [AZ, hx, oS]
   rw [AK (by omega), Wp N (by have := h2 x (lM hx); omega)]
   simp only [oS]
   rw [AF (by omega), As (by omega), Int.toNat_natCast, Pm hx])
  (fun n a ha => by
   subst ha
   rw [Eb, AD (by omega), As (by simp only [Int.toNat_natCast])]) N 0 t.fi (Nat.zero_le _) (by omega) rfl
 have l2 := IM (Cg N t.fo fun v12 => some ⟨t.ff, t.fg, t.fk, t.fp, t.fi, v12⟩) (fun a i => (a, i)) t.fo (fun v12 => some ⟨t.ff, t.fg, t.fk, t.fp, t.fi, v12⟩) (fun _ _ a => a) (fun _ a => a = t.fo)
  (fun n i x a hx ha => by
   subst ha
   have hi := (lI.1 hx).1
   refine ⟨?_, rfl⟩
   rw [Cg]
   simp only [AZ, hx, oS]
   rw [AK (by omega), Wp N (by have := h4 x (lM hx); omega)]
   simp only [oS]
   rw [AF (by omega), As (by omega), Int.toNat_natCast, Pm hx])
  (fun n a ha => by
   subst ha
   rw [Cg, AD (by omega), As (by simp only [Int.toNat_natCast])]) N 0 t.fo (Nat.zero_le _) (by omega) rfl
 have e1 := l1.1.trans (congrArg (fun v4 => Cg N t.fo (fun v12 => some (Aq.mk t.ff t.fg t.fk t.fp v4 v12)) N (t.fo, 0)) l1.2)
 have e2 := l2.1.trans (congrArg (fun v12 => some (Aq.mk t.ff t.fg t.fk t.fp t.fi v12)) l2.2)
 exact e1.trans e2
theorem UX {N : Nat} (hN : N ≤ 1000000) (h20 : 100 ≤ N) {p : Ad} (hv : BG p = 0) : Gv N p p.fh p.fm = some (p, 0) := by
 obtain ⟨hp, _⟩ := Dl hv
 have hnt := hp.nt
 have hnv := hp.nv
 have hnow := hp.now
 have htg := hp.tgt
 unfold Gv
 rw [I7 N p hN (by omega), Sl N (by omega), Sl N (by omega), Sl N (by omega)]
 simp only [oS, hv, bne_self_eq_false, Au]
 rw [DG (DW N p _) (fun a i => (a, i)) p.fb (fun v7 => (BV N (Ad.mk p.fc p.fh p.fm v7)).bind fun v12 => AW (v12 != 0) (some (Ad.mk [] [] [] [], v12)) (some (Ad.mk p.fc p.fh p.fm v7, 0))) (fun _ x => [x]) 1 1000
  (fun i x hx => by simp)
  (fun n i x a hx ha => by
   have hi := (lI.1 hx).1
   have ht := Jm (hp.tab x (lM hx))
   have hl := JU hp ht
   have hr := aW hp ht
   rw [DW]
   simp only [AZ, hx, oS]
   rw [AK (by omega), WL h20 x hl.1 hl.2 hr.1 hr.2]
   simp only [oS]
   rw [As (by simp only [List.length_singleton] at ha ⊢; unfold DP; omega), AF (by omega)])
  (fun n a => by
   rw [DW, AD (by omega)]) N [] (by omega) (by simp only [List.length_nil]; omega)]
 have e : ([] : List Aq) ++ BE (fun _ x => [x]) 0 p.fb = p.fb := by
  rw [List.nil_append, Ky (fun _ x => x)]
  apply List.ext_getElem?; intro k; rw [List.getElem?_mapIdx]; cases p.fb[k]? <;> rfl
 simp only [e]
 rw [I7 N _ hN (by omega)]
 simp only [oS, hv, bne_self_eq_false, Au]
theorem TH {p : Ad} {c : Aa} (h : c ∈ Cq p) : ∃ (t u v : Nat) (x : Aq) (row : List Bool), p.fb[t]? = some x ∧ x.fi[u]? = some row ∧ row[v]? = some false ∧ c = ⟨(t : Int), (u : Int), (v : Int)⟩ := by
 obtain ⟨t, x, hx, h⟩ := Gn.1 h
 obtain ⟨u, row, hu, h⟩ := Gn.1 h
 obtain ⟨v, ok, hv, h⟩ := Gn.1 h
 simp only [Nat.zero_add, Pv] at h
 cases ok
 ·simp only [Bool.false_eq_true, if_false, List.mem_singleton] at h
  exact ⟨t, u, v, x, row, hx, hu, hv, h⟩
 ·simp at h
theorem UF (l : List Aa) (c : Aa) (t u v : Nat) (ok : Bool) : Vv (l ++ [c]) t u v ok = (Vv l t u v ok || Zd c ⟨(t : Int), (u : Int), (v : Int)⟩) := by
 unfold Vv Q4
 rw [List.any_append, List.any_cons, List.any_nil, Bool.or_false, Bool.or_assoc]
theorem Vh {l : List Aa} {t u v t' u' v' : Nat} (h : t ≠ t' ∨ u ≠ u' ∨ v ≠ v') (ok : Bool) : Vv (l ++ [⟨(t : Int), (u : Int), (v : Int)⟩]) t' u' v' ok = Vv l t' u' v' ok := by
 rw [UF]
 have : Zd ⟨(t : Int), (u : Int), (v : Int)⟩ ⟨(t' : Int), (u' : Int), (v' : Int)⟩ = false := by
  cases hh : Zd ⟨(t : Int), (u : Int), (v : Int)⟩ ⟨(t' : Int), (u' : Int), (v' : Int)⟩
  ·rfl
  ·rw [PE] at hh
   simp only [Aa.mk.injEq] at hh
   omega
 rw [this, Bool.or_false]
theorem W1 {l : List Aa} {t u v : Nat} {x : Aq} {row : List Bool} (hu : x.fi[u]? = some row) (hv : v < row.length) :
  Ls (l ++ [⟨(t : Int), (u : Int), (v : Int)⟩]) t x = ⟨x.ff, x.fg, x.fk, x.fp, (x.fi.mapIdx (J1 l t)).set u ((J1 l t u row).set v true), x.fo⟩ := by
 have hz : row[v]? = some row[v] := by simp [hv]
 unfold Ls
 congr 1
 rw [K0 (f := J1 l t) hu (fun j y _ hj => by
  unfold J1
  exact congrArg (fun f => y.mapIdx f) (funext fun k => funext fun ok => Vh (.inr (.inl (Ne.symm hj))) ok))]
 congr 1
 unfold J1
 rw [K0 (f := Vv l t u) hz (fun j y _ hj => Vh (.inr (.inr (Ne.symm hj))) y)]
 congr 1
 rw [UF, (PE _ _).2 rfl, Bool.or_true]
theorem Va {ts : List Aq} {l : List Aa} {t u v : Nat} {x : Aq} {row : List Bool} (hx : ts[t]? = some x) (hu : x.fi[u]? = some row) (hv : v < row.length) :
  ts.mapIdx (Ls (l ++ [⟨(t : Int), (u : Int), (v : Int)⟩])) = (ts.mapIdx (Ls l)).set t ⟨x.ff, x.fg, x.fk, x.fp, (x.fi.mapIdx (J1 l t)).set u ((J1 l t u row).set v true), x.fo⟩ := by
 rw [K0 (f := Ls l) hx (fun j y _ hj => by
  unfold Ls
  congr 1
  exact congrArg (fun f => y.fi.mapIdx f) (funext fun k => funext fun r => congrArg (fun f => r.mapIdx f) (funext fun q => funext fun ok => Vh (.inl (Ne.symm hj)) ok))), W1 hu hv]
theorem RW (ts : List Aq) : ts.mapIdx (Ls []) = ts := by
 apply List.ext_getElem?
 intro k
 rw [List.getElem?_mapIdx]
 cases ts[k]? with
 | none => rfl
 | some x =>
  have : Ls [] k x = x := by
   unfold Ls
   have : x.fi.mapIdx (J1 [] k) = x.fi := by
    apply List.ext_getElem?
    intro u
    rw [List.getElem?_mapIdx]
    cases x.fi[u]? with
    | none => rfl
    | some row =>
     simp only [Option.map_some, Option.some.injEq]
     apply List.ext_getElem?
     intro v
     rw [J1, List.getElem?_mapIdx]
     cases row[v]? with
     | none => rfl
     | some ok => simp [Vv, Q4]
   rw [this]
  rw [Option.map_some, this]
theorem WC (p : Ad) : Ha p [] = p := by unfold Ha; rw [RW]
theorem UB {N : Nat} (hN : N ≤ 1000000) (h20 : 100 ≤ N) {p : Ad} (hv : BG p = 0) {l : List Aa} (hl : l.length < N) (hm : ∀ c, c ∈ l → c ∈ Cq p) : Ht N p l = some (Ha p l) := by
 unfold Ht
 rw [UX hN h20 hv]
 simp only [oS]
 obtain ⟨a, e, h⟩ := FF (A := List Aq) (EQ N l fun v3 => some ⟨p.fc, p.fh, p.fm, v3⟩) (fun a k => (a, k)) l.length (fun v3 => some ⟨p.fc, p.fh, p.fm, v3⟩) (fun i a => a = p.fb.mapIdx (Ls (l.take i)))
  (fun n i a hi ha => by
   subst ha
   have hc : l[i]? = some l[i] := by simp [hi]
   obtain ⟨t, u, v, x, row, hx, hu, hv, e⟩ := TH (hm l[i] (List.getElem_mem hi))
   have hvl := (lI.1 hv).1
   refine ⟨_, ?_, rfl⟩
   have e1 : (p.fb.mapIdx (Ls (l.take i)))[t]? = some (Ls (l.take i) t x) := by rw [List.getElem?_mapIdx, hx]; rfl
   have e2 : (Ls (l.take i) t x).fi[u]? = some (J1 (l.take i) t u row) := by
    show (x.fi.mapIdx (J1 (l.take i) t))[u]? = _
    rw [List.getElem?_mapIdx, hu]; rfl
   have e3 : (J1 (l.take i) t u row)[v]? = some (Vv (l.take i) t u v false) := by rw [J1, List.getElem?_mapIdx, hv]; rfl
   rw [EQ]
   simp only [AZ, hc, oS, e, e1, e2, e3, Int.toNat_natCast]
   rw [AK (by omega), AF (by omega)]
   have : l.take (i + 1) = l.take i ++ [⟨(t : Int), (u : Int), (v : Int)⟩] := by rw [List.take_add_one, hc, e]; rfl
   rw [this, Va hx hu hvl]
   rfl)
  (fun n a h => by
   rw [EQ, AD (by simp only; omega)]) N 0 p.fb (Nat.zero_le _) (by omega) (by rw [List.take_zero, RW])
 rw [List.take_length] at h
 subst h
 exact e
def T1 (p : Ad) (l : List Aa) : Int := if BG p = 0 then (if l.all (Q4 (Cq p)) = true then 0 else 4) else BG p
def V9 (p : Ad) (l : List Aa) : Ad × Int := if T1 p l = 0 then (Ha p l, 0) else (⟨[], [], [], []⟩, T1 p l)
theorem Rj {l : List Aa} {f : Aa → Bool} {i : Nat} (h : i < l.length) : (l.drop i).all f = (f l[i] && (l.drop (i + 1)).all f) := by
 rw [H8 (show l[i]? = some l[i] by simp [h]), List.all_cons]
theorem XD {p : Ad} {l : List Aa} (hv : BG p = 0) (h : ∀ c, c ∈ l → c ∈ Cq p) : T1 p l = 0 := by
 unfold T1
 rw [if_pos hv, if_pos (List.all_eq_true.2 fun c hc => PI.2 (h c hc))]
theorem PV (N : Nat) (hN : N ≤ 1000000) (l e : List Aa) (he : e.length < N) (hl : l.length < 1000000) (j : Unit → Option (Ad × Int)) : ∀ (n i : Nat), i ≤ l.length → l.length - i < n → Eo N l e j n (i : Int) = if (l.drop i).all (Q4 e) = true then j () else some (⟨[], [], [], []⟩, 4)
 | 0, i, _, h => by omega
 | n + 1, i, hi, h => by
  rw [Eo]
  by_cases h1 : i < l.length
  ·have hx : l[i]? = some l[i] := by simp [h1]
   rw [AK (by omega), AZ, hx]
   simp only [oS]
   rw [Sc hN he, AF (by omega), PV N hN l e he hl j n (i + 1) (by omega) (by omega), Rj h1]
   simp only [oS]
   cases Q4 e l[i]
   ·rfl
   ·simp only [Bool.not_true, Au, Bool.true_and]
  ·rw [AD (by omega), List.drop_eq_nil_of_le (by omega)]; rfl
theorem TD {N : Nat} (hN : N ≤ 1000000) (h20 : 500 ≤ N) (p : Ad) {l : List Aa} (hl : l.length < N) : Fh N p l = some (V9 p l) := by
 unfold Fh V9 T1
 rw [LB N p hN (by omega)]
 simp only [oS]
 by_cases hv : BG p = 0
 ·obtain ⟨hp, _⟩ := Dl hv
  have he := NP hp
  rw [if_pos hv, hv, bne_self_eq_false, Au, Kb hN (by omega) hp]
  simp only [oS]
  have := PV N hN l (Cq p) (by omega) (by omega) (fun _ => (Ev N p l).bind fun v10 => some (v10, 0)) N 0 (by omega) (by omega)
  simp only [List.drop_zero] at this
  refine Eq.trans this ?_
  rw [Pf hN (by omega) hp hl]
  split <;> rfl
 ·rw [if_neg hv, if_neg hv, bne_iff_ne.2 hv, AU]
structure cZ (N : Nat) (p : Ad) : Prop where
 v : p.fc.length < N
 n : p.fh.length < N
 t : p.fm.length < N
 s : p.fb.length < N
 m : ∀ t, t ∈ p.fb → t.fi.length < N ∧ (∀ row, row ∈ t.fi → row.length < N) ∧ t.fo.length < N ∧ ∀ row, row ∈ t.fo → row.length < N
def WS (p : Ad) : List Aa × Int := if BG p = 0 then (Cq p, 0) else ([], BG p)
theorem QD {N : Nat} (hN : N ≤ 1000000) (h20 : 500 ≤ N) (p : Ad) : Fe N p = some (WS p) := by
 unfold Fe WS
 rw [LB N p hN (by omega)]
 simp only [oS]
 by_cases hv : BG p = 0
 ·rw [if_pos hv, hv, bne_self_eq_false, Au, Kb hN (by omega) (Dl hv).1]; rfl
 ·rw [if_neg hv, bne_iff_ne.2 hv, AU]
theorem QR {N : Nat} (hN : N ≤ 1000000) (h20 : 500 ≤ N) (p : Ad) : FE N p = some (WS p) := by
 unfold FE WS
 rw [I7 N p hN (by omega)]
 simp only [oS]
 by_cases hv : BG p = 0
 ·rw [if_pos hv, hv, bne_self_eq_false, Au, QC hN (by omega) (Dl hv).1]; rfl
 ·rw [if_neg hv, bne_iff_ne.2 hv, AU]
structure al (x y : Aq) : Prop where
 k : y.ff = x.ff
 f : y.fg = x.fg
 t : y.fk = x.fk
 a : y.fp = x.fp
 r : y.fo = x.fo
 l : y.fi.length = x.fi.length
 o : ∀ (u : Nat) (row : List Bool), x.fi[u]? = some row → ∃ row', y.fi[u]? = some row' ∧ row'.length = row.length ∧ ∀ v : Nat, row[v]? = some true → row'[v]? = some true
structure TS (p q : Ad) : Prop where
 v : q.fc = p.fc
 n : q.fh = p.fh
 t : q.fm = p.fm
 l : q.fb.length = p.fb.length
 o : ∀ (i : Nat) (x : Aq), p.fb[i]? = some x → ∃ y, q.fb[i]? = some y ∧ al x y
theorem al.st {x y : Aq} (h : al x y) : Cx y = Cx x := by unfold Cx; rw [h.k]
theorem PQ {α R : Type} {f g : Nat → α → Option R} : ∀ {i : Nat} {xs ys : List α}, ys.length = xs.length → (∀ (j : Nat) x, xs[j]? = some x → ∃ y, ys[j]? = some y ∧ g (i + j) y = f (i + j) x) → Ei g i ys = Ei f i xs
 | _, [], [], _, _ => rfl
 | _, [], y :: ys, h, _ => by simp at h
 | _, x :: xs, [], h, _ => by simp at h
 | i, x :: xs, y :: ys, h, hh => by
  obtain ⟨y', e1, e2⟩ := hh 0 x rfl
  simp only [List.getElem?_cons_zero, Option.some.injEq] at e1
  subst e1
  rw [G5, G5, show g i y = f i x from e2, PQ (by simpa using h) fun j x' hx => by
   obtain ⟨y', e1, e2⟩ := hh (j + 1) x' (by simpa using hx)
   exact ⟨y', by simpa using e1, by rwa [show i + (j + 1) = i + 1 + j from by omega] at e2⟩]
theorem Y3 {x y : Aq} (h : al x y) (m : Int) : (y.fi.all fun r => decide ((r.length : Int) = m)) = (x.fi.all fun r => decide ((r.length : Int) = m)) := by
 rw [Bool.eq_iff_iff, List.all_eq_true, List.all_eq_true]
 constructor
 ·intro hy r hr
  obtain ⟨u, hu⟩ := List.mem_iff_getElem?.1 hr
  obtain ⟨r', e1, e2, _⟩ := h.o u r hu
  have := hy r' (lM e1)
  rwa [e2] at this
 ·intro hx r hr
  obtain ⟨u, hu⟩ := List.mem_iff_getElem?.1 hr
  have hl := (lI.1 hu).1
  have hz : x.fi[u]? = some (x.fi[u]'(by rw [← h.l]; exact hl)) := by simp [show u < x.fi.length by rw [← h.l]; exact hl]
  obtain ⟨r', e1, e2, _⟩ := h.o u _ hz
  rw [hu] at e1; cases e1
  rw [e2]
  exact hx _ (lM hz)
theorem bC {x y : Aq} (h : al x y) (n m : Int) : sq y.fi n m = sq x.fi n m := by
 unfold sq; rw [h.l, Y3 h]
theorem VH {p q : Ad} (h : TS p q) {x y : Aq} (hx : al x y) : EM q y = EM p x := by
 unfold EM
 simp only [h.v, hx.k, hx.f, hx.t, hx.a, hx.r, bC hx]
theorem Nu {p q : Ad} (h : TS p q) : BG q = BG p := by
 unfold BG
 have e1 : Ei (Mf q) 0 q.fb = Ei (Mf p) 0 p.fb := PQ h.l fun j x hx => by
  obtain ⟨y, hy, ht⟩ := h.o j x hx
  exact ⟨y, hy, by unfold Mf; rw [VH h ht]⟩
 have e2 : GT q = GT p := by unfold GT; rw [h.n, h.t]
 rw [e1, e2, h.v, h.n, h.t, h.l]
theorem Zp {β : Type} {p q : Ad} (h : TS p q) {f g : Aq → β} (hf : ∀ x y, al x y → g y = f x) : q.fb.map g = p.fb.map f := by
 apply List.ext_getElem?
 intro i
 rw [List.getElem?_map, List.getElem?_map]
 by_cases hi : i < p.fb.length
 ·have hx : p.fb[i]? = some p.fb[i] := by simp [hi]
  obtain ⟨y, hy, ht⟩ := h.o i _ hx
  rw [hx, hy, Option.map_some, Option.map_some, hf _ _ ht]
 ·rw [List.getElem?_eq_none (by rw [h.l]; omega), List.getElem?_eq_none (by omega)]; rfl
theorem PT {p q : Ad} (h : TS p q) : F4 q = F4 p := by
 unfold F4
 rw [h.n, Zp h (f := GJ p) (g := GJ q) fun x y ht => by unfold GJ; rw [ht.st, ht.f, h.n]]
theorem Vw {p q : Ad} (h : TS p q) (s : Ah) (held : List Int) : Jc q s held = Jc p s held := by
 unfold Jc
 have : ∀ (xs ys : List Aq) (i : Nat) (a : List Int), ys.length = xs.length → (∀ (j : Nat) x, xs[j]? = some x → ∃ y, ys[j]? = some y ∧ al x y) → IK (TQ s) i ys a = IK (TQ s) i xs a := by
  intro xs
  induction xs with
  | nil => intro ys i a hl _; rw [List.length_eq_zero_iff.1 (by simpa using hl : ys.length = 0)]
  | cons x xs ih =>
   intro ys i a hl hh
   cases ys with
   | nil => simp at hl
   | cons y ys =>
    obtain ⟨y', e1, e2⟩ := hh 0 x rfl
    simp only [List.getElem?_cons_zero, Option.some.injEq] at e1
    subst e1
    have : TQ s i y a = TQ s i x a := by unfold TQ VG; rw [e2.f, e2.st]
    rw [IK, IK, this]
    exact ih ys (i + 1) _ (by simpa using hl) fun j x' hx => by
     obtain ⟨y', e1, e2⟩ := hh (j + 1) x' (by simpa using hx)
     exact ⟨y', by simpa using e1, e2⟩
 exact this _ _ _ _ h.l h.o
theorem U6 {p q : Ad} (h : TS p q) (m : Ag) (s : Ah) : Gu q m s = Gu p m s := by
 unfold Gu
 simp only [Vw h]
 by_cases hi : s.fj.toNat < p.fb.length
 ·have hx : p.fb[s.fj.toNat]? = some p.fb[s.fj.toNat] := by simp [hi]
  obtain ⟨y, hy, ht⟩ := h.o _ _ hx
  rw [hx, hy]
  have : IC q m s.fj.toNat y = IC p m s.fj.toNat p.fb[s.fj.toNat] := by
   unfold IC PA MC; rw [ht.k, ht.f, ht.r]
  simp only [this, ht.st, ht.f]
 ·rw [List.getElem?_eq_none (by rw [h.l]; omega), List.getElem?_eq_none (by omega)]
theorem NH {p q : Ad} (h : TS p q) (m : Ag) (s : Ah) : A8 q m s = A8 p m s := by
 unfold A8 GZ
 rw [h.v, h.l, U6 h]
theorem SV {p q : Ad} (h : TS p q) : EU q = EU p := by
 unfold EU; rw [h.v, h.l]
theorem UU {p q : Ad} (h : TS p q) (m : Ag) : GC q m = GC p m := by
 unfold GC
 have e1 : Ei (Jw q m) 0 q.fb = Ei (Jw p m) 0 p.fb := PQ h.l fun j x hx => by
  obtain ⟨y, hy, ht⟩ := h.o j x hx
  exact ⟨y, hy, by unfold Jw X8; rw [ht.st, ht.f, h.v]⟩
 rw [Nu h, e1, h.v, h.l]
theorem WH {p q : Ad} (h : TS p q) (m : Ag) : Js q m = Js p m := by
 unfold Js; rw [UU h, h.t]
theorem U0 {p q : Ad} (h : TS p q) {m : Ag} (hc : F7 p m = []) : F7 q m = [] := by
 unfold F7 at hc ⊢
 rw [KZ] at hc ⊢
 intro i y hy
 have hi : i < p.fb.length := by rw [← h.l]; exact (lI.1 hy).1
 have hx : p.fb[i]? = some p.fb[i] := by simp [hi]
 obtain ⟨y', hy', ht⟩ := h.o i _ hx
 rw [hy] at hy'; cases hy'
 have hci := hc i _ hx
 unfold KI at hci ⊢
 rw [KZ] at hci ⊢
 intro u row' hu'
 have hu : u < (p.fb[i]).fi.length := by rw [← ht.l]; exact (lI.1 hu').1
 have hr : (p.fb[i]).fi[u]? = some (p.fb[i]).fi[u] := by simp [hu]
 obtain ⟨r2, e1, e2, e3⟩ := ht.o u _ hr
 rw [hu'] at e1; cases e1
 have hcu := hci u _ hr
 have hw : Uj m (0 + i) y (0 + u) = Uj m (0 + i) p.fb[i] (0 + u) := by unfold Uj; rw [ht.st, ht.f]
 rw [hw]
 cases hwb : Uj m (0 + i) p.fb[i] (0 + u)
 ·rfl
 ·rw [hwb, if_pos rfl] at hcu
  rw [if_pos rfl]
  unfold La at hcu ⊢
  rw [List.append_eq_nil_iff] at hcu ⊢
  have hfalse : ∀ (v : Nat), row'[v]? = some false → (p.fb[i]).fi[u][v]? = some false := fun v hv => by
   have hvl : v < (p.fb[i]).fi[u].length := by rw [← e2]; exact (lI.1 hv).1
   have hz : (p.fb[i]).fi[u][v]? = some (p.fb[i]).fi[u][v] := by simp [hvl]
   cases hb : (p.fb[i]).fi[u][v]
   ·rw [hz, hb]
   ·rw [hb] at hz
    have := e3 v hz
    rw [hv] at this; cases this
  refine ⟨?_, ?_⟩
  ·have h1 := hcu.1
   rw [KZ] at h1 ⊢
   intro v ok hv
   cases ok
   ·have := h1 v false (hfalse v hv)
    unfold gC at this ⊢
    rw [ht.t, ht.a]; exact this
   ·unfold gC; simp
  ·have h2 := hcu.2
   rw [ht.a]
   cases ha : (p.fb[i]).fp
   ·simp
   ·rw [ha] at h2
    cases hb : MV (hC m p.fb[i]) 0 (p.fb[i]).fi[u]
    ·rw [hb] at h2; simp at h2
    ·obtain ⟨v, ok, hv, hh⟩ := Qc.1 hb
     unfold hC at hh
     rw [Bool.and_eq_true] at hh
     have hok : ok = true := hh.2
     subst hok
     have : MV (hC m y) 0 row' = true := Qc.2 ⟨v, true, e3 v hv, by unfold hC; rw [ht.t, hh.1]; rfl⟩
     rw [this]; simp
theorem JV {p q : Ad} (h : TS p q) {m : Ag} (hr : BM p m = true) : BM q m = true := by
 unfold BM OI at hr ⊢
 rw [Un] at hr ⊢
 intro j x hx
 have := hr j x hx
 rw [TF] at this ⊢
 exact U0 h this
theorem Rw {p q : Ad} (h : TS p q) : ∀ (l : List Ah) (m x : Ag), Ns p m l = some x → Ns q m l = some x
 | [], m, x, hh => hh
 | s :: l, m, x, hh => by
  rw [Ns] at hh ⊢
  cases hs : LY p m s with
  | none => rw [hs] at hh; cases hh
  | some y =>
   rw [hs] at hh
   have : LY q m s = some y := by
    unfold LY at hs ⊢
    rw [NH h]
    split at hs
    ·rename_i hc
     rw [if_pos ⟨hc.1, hc.2.1, JV h hc.2.2⟩]; exact hs
    ·cases hs
   rw [this]
   exact Rw h l y x hh
theorem WI {p q : Ad} (h : TS p q) {m : Ag} {l : List Ah} (hp : LV p m l = true) : LV q m l = true := by
 unfold LV at hp ⊢
 cases hr : Ns p m l with
 | none => rw [hr] at hp; cases hp
 | some x =>
  rw [hr] at hp
  rw [Rw h l m x hr]
  simp only at hp ⊢
  rw [WH h]; exact hp
def X4 (p : Ad) : Prop := BM p (F4 p) = true ∧ ∃ u, LV p (F4 p) u = true
theorem XP {p q : Ad} (h : TS p q) (hp : X4 p) : X4 q := by
 unfold X4 at hp ⊢
 rw [PT h]
 obtain ⟨h1, u, h2⟩ := hp
 exact ⟨JV h h1, u, WI h h2⟩
theorem P7 {p q : Ad} (h : TS p q) (hv : BG p = 0) (hq : OR q) : OR p := by
 have hvq : BG q = 0 := by rw [Nu h]; exact hv
 have hmq := Qo hvq
 obtain ⟨hpq, _⟩ := Dl hvq
 unfold OR at hq ⊢
 rw [PT h] at hq hmq
 cases hr : BM p (F4 p)
 ·exact .inl rfl
 ·have hrq := JV h hr
  rcases hq with hq | ⟨l, hs⟩
  ·rw [hrq] at hq; cases hq
  ·obtain ⟨ws, hg⟩ := XA hpq hmq hrq hs
   have hl : l.length ≤ 120 := Bfs.go_len _ _ _ _ (by simp) hs
   refine .inr (Ue (S := L3 l) (by unfold L3; rw [List.length_map]; exact hl) ?_ 1000 0 [(F4 p, -1, N2)] (by simp [L3]) (fun y hy => ?_) (Nat.zero_le _) (by omega))
   ·intro y hy w hw
    obtain ⟨⟨y0, f, s⟩, hm, rfl⟩ := List.mem_map.1 hy
    obtain ⟨k, hk⟩ := List.mem_iff_getElem?.1 hm
    obtain ⟨hw1, hw2, hw3⟩ := PJ.1 hw
    have hwq : w ∈ JC q y0 := by
     refine PJ.2 ⟨?_, by rw [hw2, NH h], JV h hw3⟩
     have := I4 hw1
     unfold GY
     rw [SV h]
     exact List.mem_filter.2 ⟨this.1, by rw [NH h]; simpa using this.2⟩
    have hkl := Bfs.lt_get hk
    obtain ⟨wy, hwy⟩ := Bfs.get_ex (l := ws) (k := k) (by rw [hg.inv.len]; exact hkl)
    obtain ⟨k', f', s', w', e1, _, _⟩ := hg.inv.closed k y0 f s wy hk hwy w (.inl ⟨hkl, hwq⟩)
    exact List.mem_map.2 ⟨_, lM e1, rfl⟩
   ·simp only [L3, List.map_cons, List.map_nil, List.mem_singleton] at hy
    subst hy
    obtain ⟨s0, hs0⟩ := hg.inv.root
    exact List.mem_map.2 ⟨_, lM hs0, rfl⟩
theorem OA {p : Ad} {l l' : List Aa} (h : ∀ c, c ∈ l → c ∈ l') : TS (Ha p l) (Ha p l') := by
 refine ⟨rfl, rfl, rfl, by simp only [Ha, List.length_mapIdx], fun i x hx => ?_⟩
 simp only [Ha] at hx ⊢
 rw [List.getElem?_mapIdx] at hx ⊢
 cases hz : p.fb[i]? with
 | none => rw [hz] at hx; cases hx
 | some z =>
  rw [hz] at hx
  simp only [Option.map_some, Option.some.injEq] at hx
  subst hx
  refine ⟨_, rfl, ⟨rfl, rfl, rfl, rfl, rfl, by simp only [Ls, List.length_mapIdx], fun u row hu => ?_⟩⟩
  simp only [Ls] at hu ⊢
  rw [List.getElem?_mapIdx] at hu ⊢
  cases hr : z.fi[u]? with
  | none => rw [hr] at hu; cases hu
  | some r =>
   rw [hr] at hu
   simp only [Option.map_some, Option.some.injEq] at hu
   subst hu
   refine ⟨_, rfl, by simp only [J1, List.length_mapIdx], fun v hv => ?_⟩
   simp only [J1] at hv ⊢
   rw [List.getElem?_mapIdx] at hv ⊢
   cases hb : r[v]? with
   | none => rw [hb] at hv; cases hv
   | some b =>
    rw [hb] at hv
    simp only [Option.map_some, Option.some.injEq] at hv ⊢
    unfold Vv at hv ⊢
    rw [Bool.or_eq_true] at hv ⊢
    exact hv.imp id fun hv => PI.2 (h _ (PI.1 hv))
theorem JD (p : Ad) (l : List Aa) : BG (Ha p l) = BG p := by
 have := Nu (OA (p := p) (l := []) (l' := l) fun c hc => by cases hc)
 rw [WC] at this
 exact this
theorem ST : FM 1000 = some true := by kernel_rfl
def H9 : List Aa → Nat → List (List Aa)
 | _, 0 => [[]]
 | [], _ + 1 => []
 | x :: l, k + 1 => (H9 l k).map (fun s => x :: s) ++ H9 l (k + 1)
theorem NF (l : List Aa) : H9 l 0 = [[]] := by cases l <;> rfl
theorem UO {α β : Type} (g : Nat → α → List β) : ∀ (i : Nat) (xs : List α), BE g (i + 1) xs = BE (fun j x => g (j + 1) x) i xs
 | _, [] => rfl
 | i, x :: xs => by rw [BE, BE, UO g (i + 1) xs]
theorem PW (k : Nat) : ∀ (l : List Aa), H9 l (k + 1) = BE (fun i c => (H9 (l.drop (i + 1)) k).map fun s => c :: s) 0 l
 | [] => rfl
 | x :: l => by
  rw [H9, BE, UO, PW k l]
  rfl
theorem Lg : ∀ (l : List Aa) (k : Nat), (H9 l k).length ≤ 2 ^ l.length
 | l, 0 => by rw [NF]; exact Nat.one_le_two_pow
 | [], _ + 1 => by simp [H9]
 | x :: l, k + 1 => by
  rw [H9, List.length_append, List.length_map, List.length_cons, Nat.pow_succ]
  have := Lg l k
  have := Lg l (k + 1)
  omega
theorem J6 : ∀ (l : List Aa) (k : Nat) (s : List Aa), s ∈ H9 l k ↔ s.Sublist l ∧ s.length = k
 | l, 0, s => by
  rw [NF, List.mem_singleton]
  constructor
  ·rintro rfl; exact ⟨List.nil_sublist _, rfl⟩
  ·rintro ⟨_, h⟩; exact List.length_eq_zero_iff.1 h
 | [], k + 1, s => by
  simp only [H9, List.not_mem_nil, false_iff]
  rintro ⟨h1, h2⟩
  rw [List.sublist_nil.1 h1] at h2; cases h2
 | x :: l, k + 1, s => by
  rw [H9, List.mem_append, List.mem_map, J6 l (k + 1)]
  constructor
  ·rintro (⟨r, hr, rfl⟩ | ⟨h1, h2⟩)
   ·obtain ⟨h1, h2⟩ := (J6 l k r).1 hr
    exact ⟨h1.cons_cons x, by rw [List.length_cons, h2]⟩
   ·exact ⟨h1.cons x, h2⟩
  ·rintro ⟨h1, h2⟩
   cases h1 with
   | cons _ h => exact .inr ⟨h, h2⟩
   | cons_cons _ h => exact .inl ⟨_, (J6 l k _).2 ⟨h, by simpa using h2⟩, rfl⟩
theorem LJ {n : Nat} (h : n ≤ 7) : 2 ^ n ≤ 128 := Nat.pow_le_pow_right (n := 2) (by omega) h
theorem Pr (N : Nat) (hN : N ≤ 1000000) (h20 : 500 ≤ N) : ∀ (k f : Nat) (l : List Aa), k < f → k ≤ 3 → l.length ≤ 7 → EC N f l (k : Int) = some (H9 l k)
 | k, 0, l, h, _, _ => by omega
 | 0, f + 1, l, _, _, _ => by rw [NF]; rfl
 | k + 1, f + 1, l, hf, hk, hl => by
  have p128 := LJ hl
  rw [EC, HF, beq_eq_false_iff_ne.2 (by omega : ((k + 1 : Nat) : Int) ≠ 0), Au]
  rw [DG (Ec N l ((k + 1 : Nat) : Int) (EC N f) _) (fun a i => (a, i)) l some (fun i c => (H9 (l.drop (i + 1)) k).map fun s => c :: s) 128 2000
   (fun i c hc => by
    have := Lg (l.drop (i + 1)) k
    have := LJ (show (l.drop (i + 1)).length ≤ 7 by rw [List.length_drop]; omega)
    rw [List.length_map]; omega)
   (fun n i c a hc ha => by
    have hi := (lI.1 hc).1
    have hd : (l.drop (i + 1)).take (l.length - (i + 1)) = l.drop (i + 1) := List.take_of_length_le (by rw [List.length_drop]; omega)
    have hlen := Lg (l.drop (i + 1)) k
    have hpow := LJ (show (l.drop (i + 1)).length ≤ 7 by rw [List.length_drop]; omega)
    have hw : wI .i64 (((k + 1 : Nat) : Int) - 1) = (k : Int) := by rw [DL (by omega) (by omega)]; omega
    rw [Ec]
    simp only [AZ, hc, oS]
    rw [AK (by omega), AF (by omega), As (by omega), Int.toNat_natCast, hd, hw, Pr N hN h20 k f _ (by omega) (by omega) (by rw [List.length_drop]; omega)]
    simp only [oS]
    rw [List.length_map] at ha
    rw [DG (EO N c (H9 (l.drop (i + 1)) k) _) (fun a i => (a, i)) (H9 (l.drop (i + 1)) k) (fun v9 => Ec N l ((k + 1 : Nat) : Int) (EC N f) some n (v9, ((i + 1 : Nat) : Int))) (fun _ s => [c :: s]) 1 3000
     (fun j s hs => by simp)
     (fun n2 j s b hs hb => by
      have hj := (lI.1 hs).1
      have hsl := (List.Sublist.length_le ((J6 _ _ s).1 (lM hs)).1)
      rw [List.length_drop] at hsl
      rw [EO]
      simp only [AZ, hs, oS]
      rw [AK (by omega), As (by simp only [List.length_singleton]; unfold DP; omega), As (by simp only [List.length_singleton] at hb ⊢; unfold DP; omega), AF (by omega)]
      rfl)
     (fun n2 b => by
      rw [EO, AD (by omega)]) N a (by omega) (by omega)]
    rw [Ky (fun _ s => c :: s)]
    have : (H9 (l.drop (i + 1)) k).mapIdx (fun _ s => c :: s) = (H9 (l.drop (i + 1)) k).map fun s => c :: s := by
     apply List.ext_getElem?; intro q; rw [List.getElem?_mapIdx, List.getElem?_map]
    rw [this])
   (fun n a => by
    rw [Ec, AD (by omega)]) N [] (by omega) (by simp only [List.length_nil]; omega)]
  rw [List.nil_append, PW]
structure KW (p : Ad) : Prop where
 v : BG p = 0
 e : (Cq p).length ≤ 7
 l : OR (Ha p (Cq p))
def ZW (p : Ad) (l : List Aa) : Bool := match Hn 1000 (Ha p l) with
 | some r => r.2 == 0
 | none => false
theorem WG {p : Ad} (hv : BG p = 0) {m : Ag} (hm : Cs p m) (hr : BM p m = true) {l : List KD} (hs : LI p m 120 1000 = some l) :
  ∃ r, GK 1000 p m = some r ∧ Tz p m r := by
 obtain ⟨hp, _⟩ := Dl hv
 obtain ⟨ws, h⟩ := XA hp hm hr hs
 have hl : l.length ≤ 120 := Bfs.go_len _ _ _ _ (by simp) hs
 refine ⟨_, SB (by omega) (by omega) hv hm hr (by omega) (by omega) hs (by omega) h, ?_⟩
 rcases W3 hp h with ⟨h1, h2, h3⟩ | h1
 ·exact .inl ⟨h1, h2, by omega⟩
 ·exact .inr h1
theorem Vo {p : Ad} (hv : BG p = 0) {m : Ag} (hm : Cs p m) (hr : BM p m = false) : GK 1000 p m = some ([], 13) := by
 unfold GK
 rw [KV 1000 p m (by omega) (by omega) (Ok hm) (Ll hv hm), hr]; rfl
theorem Ww {p : Ad} (hv : BG p = 0) (hl : OR p) : ∃ r, Hn 1000 p = some r ∧ Qr p r := by
 have hm := Qo hv
 unfold Hn
 rw [Su 1000 p (by omega) (by omega), if_pos hv]
 simp only [oS, hv, bne_self_eq_false, Au]
 cases hr : BM p (F4 p)
 ·rw [Vo hv hm hr]
  exact ⟨_, rfl, .inl ⟨hr, rfl⟩⟩
 ·rcases hl with h | ⟨l, hs⟩
  ·rw [hr] at h; cases h
  ·obtain ⟨r, e1, e3⟩ := WG hv hm hr hs
   rw [e1]
   exact ⟨r, rfl, .inr ⟨hr, e3⟩⟩
theorem Xr {p : Ad} (hu : KW p) {l : List Aa} (hl : ∀ c, c ∈ l → c ∈ Cq p) : ∃ r, Hn 1000 (Ha p l) = some r ∧ Qr (Ha p l) r :=
 Ww (by rw [JD]; exact hu.v) (P7 (OA hl) (by rw [JD]; exact hu.v) hu.l)
theorem Tu {p : Ad} {r : List Ah × Int} (h : Qr p r) : ((r.2 == 0) = true ↔ X4 p) ∧ (r.2 == 3) = false ∧ (r.2 = 0 ∨ r.2 = 13 ∨ r.2 = 14) := by
 rcases h with ⟨h1, h2⟩ | ⟨h1, ⟨h2, h3, _⟩ | ⟨h2, h3⟩⟩
 ·subst h2
  refine ⟨⟨(fun h => by cases h), fun h => ?_⟩, rfl, .inr (.inl rfl)⟩
  rw [h.1] at h1; cases h1
 ·rw [h2]
  exact ⟨⟨fun _ => ⟨h1, _, h3.1⟩, fun _ => rfl⟩, rfl, .inl rfl⟩
 ·subst h2
  refine ⟨⟨(fun h => by cases h), fun h => ?_⟩, rfl, .inr (.inr rfl)⟩
  obtain ⟨_, u, hu⟩ := h
  rw [h3 u] at hu; cases hu
theorem Wo {p : Ad} (hu : KW p) {l : List Aa} (hl : ∀ c, c ∈ l → c ∈ Cq p) : ZW p l = true ↔ X4 (Ha p l) := by
 obtain ⟨r, e1, e3⟩ := Xr hu hl
 unfold ZW
 rw [e1]
 exact (Tu e3).1
theorem Vk {p : Ad} (hu : KW p) {l : List Aa} (hl : ∀ c, c ∈ l → c ∈ Cq p) (hs : l.length < 1000) : EP 1000 p l = some (ZW p l, 0) := by
 obtain ⟨r, e1, e3⟩ := Xr hu hl
 unfold EP ZW
 rw [UB (by omega) (by omega) hu.v hs hl]
 simp only [oS, e1, (Tu e3).2.1, Au]
def KX (p : Ad) (k : Nat) : List (List Aa) := (H9 (Cq p) k).filter (ZW p)
theorem P2 {p : Ad} {k : Nat} {s : List Aa} : s ∈ KX p k ↔ s.Sublist (Cq p) ∧ s.length = k ∧ ZW p s = true := by
 unfold KX
 rw [List.mem_filter, J6, and_assoc]
def QV (p : Ad) : Nat → Nat → List (List Aa) × Int
 | 0, _ => ([], 14)
 | n + 1, k => if KX p k = [] then QV p n (k + 1) else (KX p k, 0)
theorem N0 {α : Type} (f : α → Bool) : ∀ (i : Nat) (xs : List α), BE (fun _ x => if f x = true then [x] else []) i xs = xs.filter f
 | _, [] => rfl
 | i, x :: xs => by
  rw [BE, N0 f (i + 1) xs, List.filter_cons]
  split <;> rfl
theorem WW {p : Ad} (hu : KW p) (k : Nat) (j : List (List Aa) → Option (List (List Aa) × Int)) : EG 1000 p (H9 (Cq p) k) j 1000 ([], 0) = j (KX p k) := by
 have hl := Lg (Cq p) k
 have hp := LJ hu.e
 rw [DG (EG 1000 p (H9 (Cq p) k) j) (fun a i => (a, i)) (H9 (Cq p) k) j (fun _ s => if ZW p s = true then [s] else []) 1 500
  (fun i s hs => by split <;> simp)
  (fun n i s a hs ha => by
   have hi := (lI.1 hs).1
   obtain ⟨h1, h2⟩ := (J6 _ _ s).1 (lM hs)
   have h3 := h1.length_le
   have := hu.e
   rw [EG]
   simp only [AZ, hs, oS, Bn]
   rw [AK (by omega), Vk hu (fun c hc => h1.subset hc) (by omega), AF (by omega)]
   simp only [oS, bne_self_eq_false, Au]
   cases hb : ZW p s
   ·rw [Au, if_neg (by simp), List.append_nil]
   ·rw [hb, if_pos rfl] at ha
    rw [AU, if_pos rfl, As (by simp only [List.length_singleton] at ha ⊢; unfold DP; omega)])
  (fun n a => by
   rw [EG, AD (by omega)]) 1000 [] (by omega) (by simp only [List.length_nil]; omega)]
 rw [List.nil_append, N0]; rfl
theorem RL {p : Ad} (hu : KW p) : ∀ (n k m : Nat), k + n = 4 → n < m → Fb 1000 p (fun _ => some ([], 14)) m (Cq p, (k : Int)) = some (QV p n k)
 | n, k, 0, _, h => by omega
 | 0, k, m + 1, hk, _ => by
  rw [Fb, AD (by omega)]; rfl
 | n + 1, k, m + 1, hk, hm => by
  rw [Fb, AK (by omega)]
  simp only [JI]
  rw [Pr 1000 (by omega) (by omega) k 1000 _ (by omega) (by omega) hu.e]
  simp only [oS]
  rw [WW hu k, AF (by omega), QV]
  cases hr : KX p k with
  | nil =>
   rw [if_pos rfl, AD (by simp)]
   exact RL hu n (k + 1) m (by omega) (by omega)
  | cons s l =>
   rw [if_neg (by simp), AK (by simp only [List.length_cons]; omega)]
def Wx (p : Ad) : List (List Aa) × Int := QV p 4 0
theorem Ve {p : Ad} (hu : KW p) : G4 1000 p = some (Wx p) := by
 unfold G4
 have := hu.e
 rw [QR (by omega) (by omega)]
 unfold WS
 rw [if_pos hu.v]
 simp only [oS, bne_self_eq_false, Au]
 rw [AD (by omega)]
 exact RL hu 4 0 1000 rfl (by omega)
theorem Qi (p : Ad) : ∀ (n k : Nat), (QV p n k = ([], 14) ∧ ∀ j, k ≤ j → j < k + n → KX p j = []) ∨ ∃ j, k ≤ j ∧ j < k + n ∧ QV p n k = (KX p j, 0) ∧ KX p j ≠ [] ∧ ∀ i, k ≤ i → i < j → KX p i = []
 | 0, k => .inl ⟨rfl, fun j h1 h2 => by omega⟩
 | n + 1, k => by
  rw [QV]
  by_cases h : KX p k = []
  ·rw [if_pos h]
   rcases Qi p n (k + 1) with ⟨h1, h2⟩ | ⟨j, h1, h2, h3, h4, h5⟩
   ·exact .inl ⟨h1, fun j hj1 hj2 => by
     by_cases e : j = k
     ·rw [e]; exact h
     ·exact h2 j (by omega) (by omega)⟩
   ·exact .inr ⟨j, by omega, by omega, h3, h4, fun i hi1 hi2 => by
     by_cases e : i = k
     ·rw [e]; exact h
     ·exact h5 i (by omega) hi2⟩
  ·rw [if_neg h]
   exact .inr ⟨k, Nat.le_refl _, by omega, rfl, h, fun i h1 h2 => by omega⟩
theorem R7 (p : Ad) : (Wx p = ([], 14) ∧ ∀ j, j < 4 → KX p j = []) ∨ ∃ j, j < 4 ∧ Wx p = (KX p j, 0) ∧ KX p j ≠ [] ∧ ∀ i, i < j → KX p i = [] := by
 rcases Qi p 4 0 with ⟨h1, h2⟩ | ⟨j, _, h2, h3, h4, h5⟩
 ·exact .inl ⟨h1, fun j hj => h2 j (Nat.zero_le _) (by omega)⟩
 ·exact .inr ⟨j, by omega, h3, h4, fun i hi => h5 i (Nat.zero_le _) hi⟩
def P4 (p : Ad) : List Aa × Int := if (Wx p).2 = 0 then ((Wx p).1.headD [], 0) else ([], (Wx p).2)
theorem Oy {p : Ad} (hu : KW p) : EW 1000 p = some (P4 p) := by
 unfold EW P4
 rw [Ve hu]
 simp only [oS]
 rcases R7 p with ⟨h, _⟩ | ⟨j, _, h, hn, _⟩
 ·rw [h]; rfl
 ·rw [h]
  simp only [bne_self_eq_false, Au, if_true]
  cases hr : KX p j with
  | nil => exact absurd hr hn
  | cons s l => rfl
theorem Pc (p : Ad) : (P4 p = ([], 14) ∧ ∀ j, j < 4 → KX p j = []) ∨ ∃ j s, j < 4 ∧ P4 p = (s, 0) ∧ s ∈ KX p j ∧ ∀ i, i < j → KX p i = [] := by
 unfold P4
 rcases R7 p with ⟨h, h2⟩ | ⟨j, h1, h, hn, h2⟩
 ·rw [h]; exact .inl ⟨rfl, h2⟩
 ·rw [h, if_pos rfl]
  cases hr : KX p j with
  | nil => exact absurd hr hn
  | cons s l => exact .inr ⟨j, s, h1, rfl, by rw [hr]; exact List.mem_cons_self, h2⟩
theorem VL {p : Ad} (hv : BG p = 0) : ∃ b, zFS 1000 p 60 = some b ∧ (b = true → OR p) := by
 obtain ⟨hp, _⟩ := Dl hv
 have hm := Qo hv
 unfold zFS
 rw [SJ 1000 p (by omega) (by omega), if_pos hv]
 simp only [oS, Bn, hv, bne_self_eq_false, Au]
 rw [Na 1000 p _ (by omega) (by omega) hp hm]
 simp only [oS]
 cases hr : BM p (F4 p)
 ·exact ⟨true, rfl, fun _ => .inl hr⟩
 ·have e := S7 (N := 1000) (by omega) (by omega) hv hm hr (most := 60) (by omega) (by omega) (.inl (by omega))
  have e' : ET 1000 p (F4 p) 60 = _ := e
  rw [Bool.not_true, Au, e']
  cases hs : LI p (F4 p) 60 1000 with
  | none => exact ⟨false, rfl, fun h => by cases h⟩
  | some l => exact ⟨true, rfl, fun _ => .inr ⟨l, Bfs.go_more (by omega) _ _ _ _ _ (Nat.le_refl _) hs⟩⟩
theorem Xb (d : B1) (wd : GF d) : ∃ p b, GP 1000 d = some (p, b) ∧ (b = true → KW p) := by
 obtain ⟨p, ok, e, h⟩ := d7 1000 d (by omega) (by omega) wd
 unfold GP
 rw [e]
 simp only [oS, Bn]
 cases ok
 ·exact ⟨p, false, rfl, fun h => by cases h⟩
 ·rw [AU]
  have hv := (h rfl).valid
  obtain ⟨hp, _⟩ := Dl hv
  have he := NP hp
  by_cases h2 : (p.fc.length : Int) ≤ 2
  ·rw [AK h2]
   unfold GQ
   rw [Kb (by omega) (by omega) hp]
   simp only [oS, Bn]
   by_cases h7 : ((Cq p).length : Int) ≤ 7
   ·rw [AK h7, Pf (by omega) (by omega) hp (by omega)]
    simp only [oS]
    obtain ⟨b, e2, h3⟩ := VL (p := Ha p (Cq p)) (by rw [JD]; exact hv)
    rw [e2]
    exact ⟨p, b, rfl, fun hb => ⟨hv, by omega, h3 hb⟩⟩
   ·rw [AD h7]
    exact ⟨p, false, rfl, fun h => by cases h⟩
  ·rw [AD h2]
   exact ⟨p, false, rfl, fun h => by cases h⟩
theorem Yx {p : Ad} (hv : BG p = 0) {l : List Aa} (h : ∀ c, c ∈ l → c ∈ Cq p) : V9 p l = (Ha p l, 0) := by
 unfold V9; rw [if_pos (XD hv h)]
theorem NX {α β γ : Type} (g : Nat → β → List γ) (f : Nat → α → β) : ∀ (i : Nat) (xs : List α), BE g i (xs.mapIdx fun j x => f (i + j) x) = BE (fun k x => g k (f k x)) i xs
 | _, [] => rfl
 | i, x :: xs => by
  rw [List.mapIdx_cons, BE, BE, ← NX g f (i + 1) xs]
  simp only [Nat.add_zero, Nat.add_assoc, Nat.add_comm 1]
theorem K6 {α β γ : Type} (g : Nat → β → List γ) (f : Nat → α → β) (xs : List α) : BE g 0 (xs.mapIdx f) = BE (fun k x => g k (f k x)) 0 xs := by
 have := NX g f 0 xs
 simpa only [Nat.zero_add] using this
theorem JS {α β : Type} (P : β → Bool) (g : Nat → α → List β) : ∀ (i : Nat) (xs : List α), (BE g i xs).filter P = BE (fun k x => (g k x).filter P) i xs
 | _, [] => rfl
 | i, x :: xs => by rw [BE, BE, List.filter_append, JS P g (i + 1) xs]
theorem LG (p : Ad) (l : List Aa) : Cq (Ha p l) = (Cq p).filter fun c => !Q4 l c := by
 unfold Cq Ha
 rw [K6, JS]
 refine congrArg (fun g => BE g 0 p.fb) (funext fun t => funext fun x => ?_)
 unfold Nj Ls
 rw [K6, JS]
 refine congrArg (fun g => BE g 0 x.fi) (funext fun u => funext fun row => ?_)
 unfold Ny J1
 rw [K6, JS]
 refine congrArg (fun g => BE g 0 row) (funext fun v => funext fun ok => ?_)
 unfold Pv Vv
 cases ok
 ·cases hc : Q4 l ⟨(t : Int), (u : Int), (v : Int)⟩ <;> simp [hc]
 ·rfl
theorem QJ (p : Ad) (l l' : List Aa) : Ha (Ha p l) l' = Ha p (l ++ l') := by
 unfold Ha
 simp only [Ad.mk.injEq, true_and]
 rw [List.mapIdx_mapIdx]
 refine congrArg (fun g => p.fb.mapIdx g) (funext fun t => funext fun x => ?_)
 simp only [Function.comp, Ls, Aq.mk.injEq, true_and, and_true]
 rw [List.mapIdx_mapIdx]
 refine congrArg (fun g => x.fi.mapIdx g) (funext fun u => funext fun row => ?_)
 simp only [Function.comp, J1]
 rw [List.mapIdx_mapIdx]
 refine congrArg (fun g => row.mapIdx g) (funext fun v => funext fun ok => ?_)
 simp only [Function.comp, Vv, Q4, List.any_append, Bool.or_assoc]
theorem WP (k : Int) (es : List Aa) (e : Int) (he : es.length ≤ 7) (J : List Aa → Option Bool) : ∃ a, Bz 1000 k (es, e) J 1000 ([], 0) = J a ∧ (∀ c, c ∈ a → c ∈ es) ∧ a.length ≤ 7 := by
 obtain ⟨a, e, h⟩ := FF (A := List Aa) (Bz 1000 k (es, e) J) (fun a i => (a, i)) es.length J (fun i a => a.length ≤ i ∧ ∀ c, c ∈ a → c ∈ es)
  (fun n i a hi h => by
   have hx : es[i]? = some es[i] := by simp [hi]
   have h0 : 0 ≤ Int.tmod (i : Int) 8 := Int.tmod_nonneg _ (by omega)
   rw [Bz]
   simp only [AZ, hx, oS, Bn]
   rw [AK (by omega), As h0, AF (by omega)]
   cases Hh .u8 (FA .u8 k (Int.tmod (i : Int) 8)) 1 == 1
   ·exact ⟨a, rfl, by omega, h.2⟩
   ·refine ⟨a ++ [es[i]], ?_, ?_, fun c hc => ?_⟩
    ·rw [AU, As (by simp only [List.length_singleton]; unfold DP; omega)]
    ·rw [List.length_append, List.length_singleton]; omega
    ·rcases List.mem_append.1 hc with hc | hc
     ·exact h.2 c hc
     ·rw [List.mem_singleton.1 hc]; exact List.getElem_mem hi)
  (fun n a h => by
   rw [Bz, AD (by simp only; omega)]) 1000 0 [] (Nat.zero_le _) (by omega) ⟨Nat.zero_le _, fun c hc => by cases hc⟩
 exact ⟨a, e, h.2, by omega⟩
theorem UV {p : Ad} (hu : KW p) {l : List Aa} (hl : ∀ c, c ∈ l → c ∈ Cq p) : KW (Ha p l) := by
 refine ⟨by rw [JD]; exact hu.v, ?_, ?_⟩
 ·rw [LG]
  have := List.length_filter_le (fun c => !Q4 l c) (Cq p)
  have := hu.e
  omega
 ·rw [QJ]
  refine P7 (OA (l' := Cq p) fun c hc => ?_) (by rw [JD]; exact hu.v) hu.l
  rcases List.mem_append.1 hc with hc | hc
  ·exact hl c hc
  ·rw [LG] at hc; exact (List.mem_filter.1 hc).1
theorem Oi (d : B1) (k : Int) (wd : GF d) (_ : MN k) : Ef 1000 d k = some true := by
 unfold Ef
 obtain ⟨p, b, e, h⟩ := Xb d wd
 rw [e]
 simp only [oS, Bn, ST, Bool.not_true, Au]
 cases b
 ·rfl
 have hu := h rfl
 rw [Oy hu, QD (by omega) (by omega)]
 unfold WS
 rw [if_pos hu.v]
 simp only [Bool.not_true, Au, oS]
 rcases Pc p with ⟨h1, _⟩ | ⟨j, s, hj, h1, h2, h3⟩
 ·rw [h1]; rfl
 ·rw [h1]
  simp only [bne_self_eq_false, Au]
  obtain ⟨a, e1, e2, e3⟩ := WP k (Cq p) 0 hu.e fun v13 => (Fh 1000 p v13).bind fun v20 => (EW 1000 v20.1).bind fun v21 => AW ((v21.2 == 0)) (some (decide ((v21.1.length : Int) ≤ (s.length : Int)))) (some false)
  refine Eq.trans e1 ?_
  have hq := UV hu e2
  rw [TD (by omega) (by omega) p (by omega), Yx hu.v e2]
  simp only [oS]
  rw [Oy hq]
  simp only [oS]
  obtain ⟨g1, g2, g3⟩ := P2.1 h2
  have hs' : (s.filter fun c => !Q4 a c) ∈ KX (Ha p a) (s.filter fun c => !Q4 a c).length := by
   have hsub : (s.filter fun c => !Q4 a c).Sublist (Cq (Ha p a)) := by rw [LG]; exact g1.filter _
   refine P2.2 ⟨hsub, rfl, (Wo hq fun c hc => hsub.subset hc).2 ?_⟩
   rw [QJ]
   refine XP (OA fun c hc => ?_) ((Wo hu fun c hc => g1.subset hc).1 g3)
   rw [List.mem_append, List.mem_filter]
   cases hi : Q4 a c
   ·exact .inr ⟨hc, rfl⟩
   ·exact .inl (PI.1 hi)
  have hle := List.length_filter_le (fun c => !Q4 a c) s
  rcases Pc (Ha p a) with ⟨_, k2⟩ | ⟨j', s2, _, k1, k2, k3⟩
  ·rw [k2 _ (by omega)] at hs'; cases hs'
  ·rw [k1]
   simp only [beq_self_eq_true, AU]
   have k4 := (P2.1 k2).2.1
   have : j' ≤ (s.filter fun c => !Q4 a c).length := Nat.le_of_not_lt fun hlt => by
    rw [k3 _ hlt] at hs'; cases hs'
   rw [decide_eq_true (by omega)]
end Go.Lift
