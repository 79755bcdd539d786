/- Lemmas for PlanReversibleSaid, which YtohibkdhajkmdaaGreatFinP11 proves. -/
import Derived.Test.YtohibkdhajkmdaaGreatMReg4
import Derived.KernelRfl
open Bool renaming and_eq_true → zA6, false_or → zH1, not_false → zD6, not_true → zB7, true_and → zE8
open Int renaming toNat_natCast → zB2
open List renaming all_cons → zH0, any_eq_true → zD3, append_assoc → zD7, drop_eq_nil_of_le → zB0, drop_zero → zB9, getElem?_eq_getElem → zC3, getElem?_map → zA1, getElem?_set → zI1, length_cons → zC8, length_map → zB1, length_nil → zF8, length_set → zI3, length_singleton → zE3, map_append → zF0, mem_append → zC2, mem_cons → zC6, mem_cons_of_mem → zE4, mem_iff_getElem? → zA8, mem_map → zB6, mem_singleton → zD2, nil_append → zH3, nodup_cons → zG2, replicate → zA5
open Nat renaming le_refl → zB4, le_trans → zH5, zero_le → zA9
namespace Go.Lift
open Option renaming bind_some → oS
open Go
def Vq (p : Aa) : Prop := BJ p (CZ p) = false ∨ ∃ l, HS p (CZ p) 120 1000 = some l
theorem Vy {p : Aa} (hv : Bx p = 0) : ∃ b, EM 1000 p 120 = some b ∧ (b = true → Vq p) := by
 obtain ⟨hp, _⟩ := Cy hv
 have hm := JO hv
 unfold EM
 rw [Ke 1000 p (by omega) (by omega), if_pos hv]
 simp only [oS, A7, hv, bne_self_eq_false, Am]
 rw [LM 1000 p _ (by omega) (by omega) hp hm]
 simp only [oS]
 cases hr : BJ p (CZ p)
 ·exact ⟨true, rfl, fun _ => .inl hr⟩
 ·have e := J9 (N := 1000) (by omega) (by omega) hv hm hr (most := 120) (by omega) (by omega) (.inl (by omega))
  have e' : B2 1000 p (CZ p) 120 = _ := e
  rw [zB7, Am, e']
  cases hs : HS p (CZ p) 120 1000 with
  | none => exact ⟨false, rfl, fun h => by cases h⟩
  | some l => exact ⟨true, rfl, fun _ => .inr ⟨l, hs⟩⟩
theorem VN (d : BA) (wd : Fp d) : ∃ p b, Fr 1000 d = some (p, b) ∧ (b = true → VO p ∧ Vq p) := by
 obtain ⟨p, ok, e, h⟩ := bc 1000 d (by omega) (by omega) wd
 unfold Fr
 rw [e]
 simp only [oS, A7]
 cases ok
 ·exact ⟨p, false, rfl, fun h => by cases h⟩
 ·rw [AG]
  obtain ⟨b, e2, h2⟩ := Vy (h rfl).valid
  rw [e2]
  exact ⟨p, b, rfl, fun hb => ⟨h rfl, h2 hb⟩⟩
end Go.Lift
namespace Go.Lift
open Option renaming bind_some → oS
open List renaming mem_of_getElem? → lM
open Go
theorem O7 {α : Type} [DecidableEq α] : ∀ (L S : List α), L.Nodup → (∀ x, x ∈ L → x ∈ S) → L.length ≤ S.length
 | [], S, _, _ => zA9 _
 | x :: L, S, hn, hs => by
  obtain ⟨h1, h2⟩ := zG2.1 hn
  have hx := hs x (by simp)
  have := O7 L (S.erase x) h2 (fun y hy => by
   have hne : y ≠ x := fun e => h1 (e ▸ hy)
   exact (List.mem_erase_of_ne hne).2 (hs y (zE4 _ hy)))
  rw [List.length_erase_of_mem hx] at this
  have := List.length_pos_of_mem hx
  simp only [zC8]
  omega
def JR (l : List Ku) : List Ab := l.map fun n => n.1
theorem UU {i : Nat} {l : List Ku} {q : Ad × Ab} (h : (JR l).Nodup) : (JR (Bfs.put i l q)).Nodup ∧ ∀ x, x ∈ JR (Bfs.put i l q) → x ∈ JR l ∨ x = q.2 := by
 unfold Bfs.put
 split
 ·exact ⟨h, fun x hx => .inl hx⟩
 ·rename_i hn
  unfold JR at h ⊢
  rw [zF0]
  refine ⟨?_, ?_⟩
  ·rw [List.nodup_append]
   refine ⟨h, by simp, ?_⟩
   intro a ha b hb
   have hb : b = q.2 := by simpa using hb
   subst hb
   intro e
   subst e
   obtain ⟨n, hn1, hn2⟩ := zB6.1 ha
   exact hn (zD3.2 ⟨n, hn1, decide_eq_true hn2⟩)
  ·intro x hx
   rcases zC2.1 hx with hx | hx
   ·exact .inl hx
   ·exact .inr (by simpa using hx)
theorem NK {S : List Ab} {most i : Nat} (hS : S.length ≤ most) : ∀ (qs : List (Ad × Ab)) (l : List Ku), (JR l).Nodup → (∀ x, x ∈ JR l → x ∈ S) → (∀ q, q ∈ qs → q.2 ∈ S) →
  ∃ l', Bfs.inner most i qs l = some l' ∧ (JR l').Nodup ∧ (∀ x, x ∈ JR l' → x ∈ S) ∧ l.length ≤ l'.length
 | [], l, h1, h2, _ => ⟨l, rfl, h1, h2, zB4 _⟩
 | q :: qs, l, h1, h2, h3 => by
  obtain ⟨g1, g2⟩ := UU (i := i) (q := q) h1
  have g3 : ∀ x, x ∈ JR (Bfs.put i l q) → x ∈ S := fun x hx => (g2 x hx).elim (h2 x) fun e => by rw [e]; exact h3 q (by simp)
  have := O7 _ S g1 g3
  unfold JR at this
  rw [zB1] at this
  simp only [Bfs.inner]
  rw [if_neg (by omega)]
  obtain ⟨l', e1, e2, e3, e4⟩ := NK hS qs (Bfs.put i l q) g1 g3 (fun q hq => h3 q (zE4 _ hq))
  refine ⟨l', e1, e2, e3, zH5 ?_ e4⟩
  unfold Bfs.put; split
  ·exact zB4 _
  ·simp
theorem Rm {p : Aa} {S : List Ab} {most : Nat} (hS : S.length ≤ most) (hc : ∀ x, x ∈ S → ∀ q, q ∈ H0 p x → q.2 ∈ S) : ∀ (n i : Nat) (l : List Ku), (JR l).Nodup → (∀ x, x ∈ JR l → x ∈ S) → i ≤ l.length → most < n + i → ∃ l', Bfs.go (H0 p) most n i l = some l'
 | 0, i, l, h1, h2, hi, hn => by
  have := O7 _ S h1 h2
  unfold JR at this
  rw [zB1] at this
  omega
 | n + 1, i, l, h1, h2, hi, hn => by
  simp only [Bfs.go]
  cases hx : l[i]? with
  | none => exact ⟨l, rfl⟩
  | some nd =>
   have hS2 : nd.1 ∈ S := h2 _ (zB6.2 ⟨nd, lM hx, rfl⟩)
   obtain ⟨l1, e1, e2, e3, e4⟩ := NK (i := i) hS (H0 p nd.1) l h1 h2 (hc _ hS2)
   simp only [e1, oS]
   have := Bfs.lt_get hx
   exact Rm hS hc n (i + 1) l1 e2 e3 (by omega) (by omega)
theorem TP {p : Aa} (hp : A3 p) {m x : Ab} {l : List Ku} (hm : Bm p m) (hr : BJ p m = true) (hs : HS p m 120 1000 = some l) {w : List Ad} (hw : GN p m w = some x) : ∃ l', HS p x 120 1000 = some l' := by
 obtain ⟨ws, h⟩ := Sq hp hm hr hs
 have hl : l.length ≤ 120 := Bfs.go_len _ _ _ _ (by simp) hs
 have hin : ∀ y u, GN p m u = some y → y ∈ JR l := fun y u hu => by
  obtain ⟨k, f, s, _, h1, _⟩ := Li hp h hu
  exact zB6.2 ⟨_, lM h1, rfl⟩
 refine Rm (S := JR l) (by unfold JR; rw [zB1]; exact hl) ?_ 1000 0 [(x, -1, MS)] (by simp [JR]) (fun y hy => ?_) (zA9 _) (by omega)
 ·intro y hy q hq
  obtain ⟨n, hn1, hn2⟩ := zB6.1 hy
  obtain ⟨k, hk⟩ := zA8.1 hn1
  obtain ⟨u, hu⟩ := Bfs.get_ex (l := ws) (k := k) (by rw [h.inv.len]; exact Bfs.lt_get hk)
  have hrun := Tb hp h (show l[k]? = some (n.1, n.2.1, n.2.2) from hk) hu
  rw [hn2] at hrun
  refine hin q.2 (u ++ [q.1]) ?_
  rw [NJ, hrun]
  simp only [oS, GN]
  rw [Nw hp (show (q.1, q.2) ∈ H0 p y from hq)]; rfl
 ·have hy : y = x := by simpa [JR] using hy
  rw [hy]; exact hin x w hw
end Go.Lift
namespace Go.Lift
open Go
structure NG {α : Type} (c : α → α → Int) : Prop where
 anti : ∀ x y, c y x = - c x y
 le : ∀ x y z, c x y ≤ 0 → c y z ≤ 0 → c x z ≤ 0
namespace NG
variable {α : Type} {c : α → α → Int}
theorem self (O : NG c) (x : α) : c x x = 0 := by have := O.anti x x; omega
theorem lt1 (O : NG c) {x y z : α} (h : c x y < 0) (h2 : c y z ≤ 0) : c x z < 0 := by
 have h3 := O.le x y z (by omega) h2
 by_cases h0 : c x z = 0
 ·have h4 := O.anti x z
  have h5 := O.le y z x h2 (by omega)
  have h6 := O.anti x y
  omega
 ·omega
theorem lt2 (O : NG c) {x y z : α} (h : c x y ≤ 0) (h2 : c y z < 0) : c x z < 0 := by
 have h3 := O.le x y z h (by omega)
 by_cases h0 : c x z = 0
 ·have h4 := O.anti x z
  have h5 := O.le z x y (by omega) h
  have h6 := O.anti y z
  omega
 ·omega
theorem or {d : α → α → Int} (O : NG c) (Q : NG d) : NG (fun x y => if c x y = 0 then d x y else c x y) := by
 refine ⟨fun x y => ?_, fun x y z => ?_⟩
 ·have := O.anti x y
  by_cases h : c x y = 0
  ·simp only [h, show c y x = 0 by omega, if_true]; exact Q.anti x y
  ·simp only [h, show ¬ c y x = 0 by omega, if_false]; exact this
 ·intro h1 h2
  have a1 : c x y ≤ 0 := by revert h1; split <;> omega
  have a2 : c y z ≤ 0 := by revert h2; split <;> omega
  have a3 := O.le x y z a1 a2
  by_cases h0 : c x z = 0
  ·have b1 : c x y = 0 := by
    by_cases q : c x y = 0
    ·exact q
    ·have := O.lt1 (show c x y < 0 by omega) a2; omega
   have b2 : c y z = 0 := by
    by_cases q : c y z = 0
    ·exact q
    ·have := O.lt2 a1 (show c y z < 0 by omega); omega
   simp only [b1, b2, h0, if_true] at h1 h2 ⊢
   exact Q.le x y z h1 h2
  ·simp only [h0, if_false]; exact a3
end NG
section
variable {α : Type} {P : α → Prop} {cmp : α × α → Option Int} {bq : α → α → Bool} {c : α → α → Int}
end
section
variable {α : Type} {c : α → α → Int}
end
theorem Ss : NG EK := ⟨fun a b => PA a b, Tw⟩
theorem NG.pull {α β : Type} {c : α → α → Int} (O : NG c) (f : β → α) : NG (fun x y => c (f x) (f y)) := ⟨fun _x _y => O.anti _ _, fun _x _y _z => O.le _ _ _⟩
theorem Xz : NG MT := by
 have := (Ss.pull Ab.fc).or ((Ss.pull Ab.fa).or (Ss.pull Ab.fd))
 have e : MT = fun (x y : Ab) => if EK x.fc y.fc = 0 then (if EK x.fa y.fa = 0 then EK x.fd y.fd else EK x.fa y.fa) else EK x.fc y.fc := by
  funext x y
  unfold MT SO SO SO SO
  repeat' split
  all_goals (first | rfl | omega | simp_all)
 rw [e]; exact this
end Go.Lift
namespace Go.Lift
open Go
variable {α : Type}
end Go.Lift
namespace Go.Lift
open Go
section
variable {α : Type} {c : α → α → Int}
variable {P : α → Prop} {eq : α × α → Option Bool} {b : α → α → Bool}
end
end Go.Lift
namespace Go.Lift
open Option renaming bind_some → oS
open Go
def QL (p : Aa) : Nat → Ab → List Ab → List Ad → List Ab × Int × Int
 | i, _, acc, [] => (acc, (i : Int), 0)
 | i, m, acc, s :: ss => if (AT p m s).2 ≠ 0 then ([], (i : Int), (AT p m s).2) else QL p (i + 1) (AT p m s).1 (acc ++ [(AT p m s).1]) ss
theorem RI (N : Nat) (hN : N ≤ 1000000) (h20 : 100 ≤ N) {p : Aa} (hv : Bx p = 0) (l : List Ad) (hl : l.length ≤ 1000) : ∀ (n i : Nat) (m : Ab) (acc : List Ab), i ≤ l.length → l.length - i < n → Bm p m → acc.length = i + 1 → acc[i]? = some m →
  FD N p l (fun v5 => some (v5, (l.length : Int), 0)) n (acc, (i : Int)) = some (QL p i m acc (l.drop i))
 | 0, i, _, _, _, h, _, _, _ => by omega
 | n + 1, i, m, acc, hi, h, hm, ha, hg => by
  obtain ⟨hp, _⟩ := Cy hv
  rw [FD]
  by_cases h1 : i < l.length
  ·have hx : l[i]? = some l[i] := by simp [h1]
   rw [AD (by first | omega | (simp only; omega)), CW hx, QL]
   simp only [AS, hx, hg, oS]
   rw [LJ N hN h20 hp hm]
   simp only [oS]
   by_cases h2 : (AT p m l[i]).2 = 0
   ·rw [h2, if_neg (by simp), bne_self_eq_false, Am, As (by simp [Dv]; omega), AE (by omega)]
    exact RI N hN h20 hv l hl n (i + 1) (AT p m l[i]).1 (acc ++ [(AT p m l[i]).1]) (by omega) (by omega) (HY hp hm h2) (by simp [ha]) (by rw [← ha]; simp)
   ·rw [if_pos h2, bne_iff_ne.2 h2, AG]
  ·rw [AB (by first | omega | (simp only; omega)), zB0 (by omega), QL, show i = l.length by omega]
theorem Qz (N : Nat) (hN : N ≤ 1000000) (h20 : 100 ≤ N) {p : Aa} {m : Ab} (hv : Bx p = 0) (hm : Bm p m) (l : List Ad) (hl : l.length ≤ 60) :
  Gv N p m l = some (QL p 0 m [m] l) := by
 obtain ⟨hp, _⟩ := Cy hv
 unfold Gv
 rw [Hv N p m hN (by omega) (Ij hm), Gr hv hm]
 simp only [oS, bne_self_eq_false, Am]
 rw [P0 N hp hm]
 exact RI N hN h20 hv l (by omega) N 0 m [m] (zA9 _) (by omega) hm rfl rfl
instance Zy : Inhabited Ab := ⟨FR⟩
theorem RV {N : Nat} (hN : N ≤ 1000000) {a b : Ab} (h1 : a.fc.length < N) (h2 : a.fa.length < N) (h3 : a.fd.length < N) (h4 : 3 < N) : Gx N a b = some (MT a b) := by
 unfold Gx
 rw [OL h1 hN, OL h2 hN, Rl h3 hN]
 simp only [oS]
 rw [Yr (by simp; omega) hN]
 rfl
end Go.Lift
namespace Go.Lift
open Option renaming bind_some → oS
open List renaming mem_of_getElem? → lM
open List renaming getElem?_eq_some_iff → lI
open List renaming getD_eq_getElem?_getD → lD
open Go
def KJ (p : Aa) (x : Ab) : Bool := (x.fc == p.fj) && x.fa.all fun v => decide (v < 0)
def NN (p : Aa) (x : Ab) : Prop := ∃ w y, GN p x w = some y ∧ KJ p y = true
structure Mx (p : Aa) (pl : List Ar) (b : List Bool) : Prop where
 len : b.length = pl.length
 sound : ∀ (i : Nat) nd, pl[i]? = some nd → b[i]? = some true → NN p nd.fh
 base : ∀ (i : Nat) nd, pl[i]? = some nd → KJ p nd.fh = true → b[i]? = some true
def JD (pl : List Ar) (b : List Bool) (i : Nat) : Prop := ∀ nd, pl[i]? = some nd → (nd.fa.any fun r => b.getD r.toNat false) = true → b[i]? = some true
theorem Se {p : Aa} {pl : List Ar} {b : List Bool} (hn : H1 p pl.length [] pl) (hb : Mx p pl b) (hc : ∀ i, i < pl.length → JD pl b i) : ∀ (w : List Ad) (i : Nat) nd y, pl[i]? = some nd → GN p nd.fh w = some y → KJ p y = true → b[i]? = some true
 | [], i, nd, y, hi, hw, hy => by
  cases hw; exact hb.base i nd hi hy
 | s :: w, i, nd, y, hi, hw, hy => by
  rw [GN] at hw
  cases hs : Ii p nd.fh s with
  | none => rw [hs] at hw; cases hw
  | some x =>
   rw [hs] at hw
   have hil := (lI.1 hi).1
   obtain ⟨a, f, t, h1, h2⟩ := hn.of i nd hi s x (.inl ⟨hil, Nu hs⟩)
   rw [zA1] at h2
   cases ha : pl[a]? with
   | none => rw [ha] at h2; cases h2
   | some na =>
    rw [ha] at h2
    have hx : na.fh = x := congrArg (fun q : Ku => q.1) (Option.some.inj h2)
    have ih := Se hn hb hc w a na y ha (by rw [hx]; exact hw) hy
    refine hc i hil nd hi (zD3.2 ⟨_, h1, ?_⟩)
    rw [zB2, lD, ih]; rfl
theorem TZ {p : Aa} (hp : A3 p) {pl : List Ar} {b : List Bool} (hn : H1 p pl.length [] pl) (hb : Mx p pl b) {i : Nat} {nd : Ar} (hi : pl[i]? = some nd) (h : (nd.fa.any fun r => b.getD r.toNat false) = true) : NN p nd.fh := by
 obtain ⟨r, hr, hx⟩ := zD3.1 h
 obtain ⟨s, y, h1, a, f, t, rfl, h2⟩ := hn.to i nd hi r hr
 have h1 : (s, y) ∈ H0 p nd.fh := by
  rcases h1 with h1 | h1
  ·exact h1.2
  ·cases h1.2
 rw [zA1] at h2
 cases ha : pl[a]? with
 | none => rw [ha] at h2; cases h2
 | some na =>
  rw [ha] at h2
  have hy : na.fh = y := congrArg (fun q : Ku => q.1) (Option.some.inj h2)
  have hba : b[a]? = some true := by
   have hal := (lI.1 ha).1
   rw [zB2, lD] at hx
   have : a < b.length := by rw [hb.len]; exact hal
   rw [zC3 this] at hx ⊢
   exact congrArg some hx
  obtain ⟨w, z, hw, hz⟩ := hb.sound a na ha hba
  exact ⟨s :: w, z, by rw [GN, Nw hp h1]; simp only [oS]; rw [← hy]; exact hw, hz⟩
theorem WR {p : Aa} {pl : List Ar} (hn : H1 p pl.length [] pl) {i : Nat} {nd : Ar} (hi : pl[i]? = some nd) : ∀ r, r ∈ nd.fa → ∃ a : Nat, r = (a : Int) ∧ a < pl.length := fun r hr => by
 obtain ⟨s, y, h1, a, f, t, rfl, h2⟩ := hn.to i nd hi r hr
 have := (lI.1 h2).1
 rw [zB1] at this
 exact ⟨a, rfl, this⟩
theorem Pg (N : Nat) (l : List Int) (b : List Bool) (hl : l.length ≤ 100000) (hN : l.length < N) (hr : ∀ x, x ∈ l → ∃ a : Nat, x = (a : Int) ∧ a < b.length) : Cm N l b = some (l.any fun r => b.getD r.toNat false) := by
 have key : ∀ (n i : Nat), l.length - i < n → i ≤ l.length → ∃ r, Bp N l b (fun _ => some (-1)) n (i : Int) = some r ∧ decide (0 ≤ r) = (l.drop i).any fun r => b.getD r.toNat false := by
  intro n
  induction n with
  | zero => intro i h; omega
  | succ n ih =>
   intro i h hi
   rw [Bp]
   by_cases h1 : i < l.length
   ·have hx : l[i]? = some l[i] := by simp [h1]
    obtain ⟨a, ha, hab⟩ := hr _ (lM hx)
    rw [AD (by omega), CW hx, List.any_cons]
    simp only [AS, hx, oS]
    unfold Fs
    rw [ha, C4 (d := false) hab, zB2]
    simp only [oS]
    cases b.getD a false
    ·rw [Am, AE (by omega)]
     obtain ⟨r, e1, e2⟩ := ih (i + 1) (by omega) (by omega)
     exact ⟨r, e1, by rw [e2, zH1]⟩
    ·exact ⟨(i : Int), rfl, by rw [decide_eq_true (by omega)]; rfl⟩
   ·rw [AB (by omega), zB0 (by omega)]
    exact ⟨-1, rfl, rfl⟩
 obtain ⟨r, e1, e2⟩ := key N 0 (by omega) (zA9 _)
 unfold Cm DA
 have e1' : Bp N l b (fun _ => some (-1)) N 0 = some r := e1
 rw [e1']
 simp only [oS]
 rw [e2, zB9]
theorem Ry (l : List Int) : (!(l.any fun v => decide (0 ≤ v))) = l.all fun v => decide (v < 0) := by
 induction l with
 | nil => rfl
 | cons x l ih =>
  rw [List.any_cons, zH0, ← ih]
  by_cases h : 0 ≤ x
  ·rw [decide_eq_true h, decide_eq_false (by omega)]; rfl
  ·rw [decide_eq_false h, decide_eq_true (by omega)]; simp
theorem OT {N : Nat} (hN : N ≤ 1000000) (h20 : 100 ≤ N) {p : Aa} (hp : A3 p) (pl : List Ar) (hl : pl.length ≤ 1000) (hm : ∀ nd, nd ∈ pl → Bm p nd.fh) (e : Int) (J : List Bool → Option (Bool × Int)) : ∀ (n i : Nat) (b : List Bool), i ≤ pl.length → pl.length - i < n → b.length = pl.length → (∀ (k : Nat) nd, k < i → pl[k]? = some nd → b[k]? = some (KJ p nd.fh)) →
  ∃ b', C5 N p (pl, e) J n (b, (i : Int)) = J b' ∧ b'.length = pl.length ∧ ∀ (k : Nat) nd, pl[k]? = some nd → b'[k]? = some (KJ p nd.fh)
 | 0, _, _, _, h, _, _ => by omega
 | n + 1, i, b, hi, hn, hb, hk => by
  rw [C5]
  by_cases h1 : i < pl.length
  ·have hx : pl[i]? = some pl[i] := by simp [h1]
   have hmi := hm _ (lM hx)
   have hnv := hp.nv
   have hbx : b[i]? = some (b[i]'(by omega)) := by simp [show i < b.length by omega]
   rw [AD (by simp only; omega)]
   simp only [A7, AS, hx, hbx, oS, zB2]
   rw [MO N pl[i].fh.fc p.fj hN (by rw [hmi.base]; omega)]
   simp only [oS]
   rw [Mw N pl[i].fh.fa (fun (x : Int) => EE N x) (fun v => decide (0 ≤ v)) hN (by rw [hmi.next]; omega) (fun _ _ => rfl)]
   simp only [oS]
   rw [AE (by omega)]
   have hh : ∀ v : Bool, v = KJ p pl[i].fh → ∃ b', C5 N p (pl, e) J n (b.set i v, ((i + 1 : Nat) : Int)) = J b' ∧ b'.length = pl.length ∧ ∀ (k : Nat) nd, pl[k]? = some nd → b'[k]? = some (KJ p nd.fh) := fun v hv => by
    refine OT hN h20 hp pl hl hm e J n (i + 1) (b.set i v) (by omega) (by omega) (by rw [zI3]; exact hb) fun k nd hki hnd => ?_
    rw [zI1]
    by_cases q : i = k
    ·subst q
     rw [hx] at hnd; cases hnd
     rw [if_pos rfl, if_pos (by omega), hv]
    ·rw [if_neg q]; exact hk k nd (by omega) hnd
   cases hbq : pl[i].fh.fc == p.fj
   ·rw [Am]; exact hh false (by unfold KJ; rw [hbq]; rfl)
   ·rw [AG]; exact hh _ (by unfold KJ; rw [hbq, Ry]; rfl)
  ·rw [AB (by simp only; omega)]
   refine ⟨b, rfl, hb, fun k nd hnd => hk k nd ?_ hnd⟩
   have := (lI.1 hnd).1
   omega
def Lb (b : List Bool) : Nat := b.count false
theorem WN {b : List Bool} {i : Nat} (h : b[i]? = some false) : Lb (b.set i true) < Lb b := by
 obtain ⟨hi, hb⟩ := lI.1 h
 unfold Lb
 rw [List.count_set hi, hb]
 have : 0 < List.count false b := List.count_pos_iff.2 (lM h)
 simp only [beq_self_eq_true, if_true]
 simp
 omega
theorem Nj {N : Nat} {p : Aa} (hp : A3 p) (pl : List Ar) (hl : pl.length ≤ 1000) (hln : ∀ nd, nd ∈ pl → nd.fa.length ≤ 100000 ∧ nd.fa.length < N) (hn : H1 p pl.length [] pl) (e : Int) (b0 : List Bool) (J : List Bool × Bool → Option (Bool × Int)) : ∀ (n i : Nat) (b : List Bool) (ch : Bool), i ≤ pl.length → pl.length - i < n → Mx p pl b → (ch = false → b = b0 ∧ ∀ k, k < i → JD pl b0 k) → (ch = true → Lb b < Lb b0) →
  ∃ b' ch', Cu N (pl, e) J n (b, ch, (i : Int)) = J (b', ch') ∧ Mx p pl b' ∧ (ch' = false → b' = b0 ∧ ∀ k, k < pl.length → JD pl b0 k) ∧ (ch' = true → Lb b' < Lb b0)
 | 0, _, _, _, _, h, _, _, _ => by omega
 | n + 1, i, b, ch, hi, hni, hb, hf, ht => by
  rw [Cu]
  by_cases h1 : i < pl.length
  ·have hx : pl[i]? = some pl[i] := by simp [h1]
   have hbl := hb.len
   have hbx : b[i]? = some (b[i]'(by omega)) := by simp [show i < b.length by omega]
   rw [AD (by simp only; omega)]
   simp only [A7, AS, hx, hbx, oS, zB2]
   rw [AE (by omega)]
   have keep : (∀ k, k = i → JD pl b k) → ∃ b' ch', Cu N (pl, e) J n (b, ch, ((i + 1 : Nat) : Int)) = J (b', ch') ∧ Mx p pl b' ∧ (ch' = false → b' = b0 ∧ ∀ k, k < pl.length → JD pl b0 k) ∧ (ch' = true → Lb b' < Lb b0) := fun hc =>
    Nj hp pl hl hln hn e b0 J n (i + 1) b ch (by omega) (by omega) hb (fun h => by
     obtain ⟨e1, e2⟩ := hf h
     refine ⟨e1, fun k hk => ?_⟩
     by_cases q : k = i
     ·rw [← e1]; exact hc k q
     ·exact e2 k (by omega)) ht
   cases hbi : b[i]'(by omega)
   ·rw [zD6, AG]
    have hlen := hln _ (lM hx)
    rw [Pg N pl[i].fa b hlen.1 hlen.2 (fun x hxx => by
     obtain ⟨a, h1, h2⟩ := WR hn hx x hxx
     exact ⟨a, h1, by omega⟩)]
    simp only [oS]
    cases hany : (pl[i].fa.any fun r => b.getD r.toNat false)
    ·rw [Am]
     refine keep fun k hk nd hnd ha => ?_
     subst hk
     rw [hx] at hnd; cases hnd
     rw [hany] at ha; cases ha
    ·rw [AG]
     have hhr := TZ hp hn hb hx hany
     have hb' : Mx p pl (b.set i true) := by
      refine ⟨by rw [zI3]; exact hbl, fun k nd hnd hk => ?_, fun k nd hnd hh => ?_⟩
      ·by_cases q : i = k
       ·subst q; rw [hx] at hnd; cases hnd; exact hhr
       ·rw [zI1, if_neg q] at hk; exact hb.sound k nd hnd hk
      ·rw [zI1]
       by_cases q : i = k
       ·rw [if_pos q, if_pos (by omega)]
       ·rw [if_neg q]; exact hb.base k nd hnd hh
     have hcs := WN (b := b) (i := i) (by rw [hbx, hbi])
     refine Nj hp pl hl hln hn e b0 J n (i + 1) (b.set i true) true (by omega) (by omega) hb' (fun h => by cases h) fun _ => ?_
     cases hch : ch
     ·rw [(hf hch).1] at hcs ⊢; exact hcs
     ·have := ht hch; omega
   ·rw [zB7, Am, Am]
    refine keep fun k hk nd hnd ha => ?_
    subst hk; rw [hbx, hbi]
  ·rw [AB (by simp only; omega)]
   refine ⟨b, ch, rfl, hb, fun h => ?_, ht⟩
   obtain ⟨e1, e2⟩ := hf h
   exact ⟨e1, fun k hk => e2 k (by omega)⟩
theorem RG {N : Nat} {p : Aa} (hp : A3 p) (pl : List Ar) (hl : pl.length ≤ 1000) (hlN : pl.length < N) (hln : ∀ nd, nd ∈ pl → nd.fa.length ≤ 100000 ∧ nd.fa.length < N) (hn : H1 p pl.length [] pl) (e : Int) (J : List Bool → Option (Bool × Int)) : ∀ (n : Nat) (b : List Bool), Mx p pl b → Lb b + 1 < n →
  ∃ b', BD N (pl, e) J n (b, true) = J b' ∧ Mx p pl b' ∧ ∀ i, i < pl.length → JD pl b' i
 | 0, _, _, h => by omega
 | n + 1, b, hb, h => by
  rw [BD, AG]
  obtain ⟨b', ch', e1, e2, e3, e4⟩ := Nj (N := N) hp pl hl hln hn e b (fun (v22 : (List Bool) × Bool) => BD N (pl, e) J n (v22.1, v22.2)) N 0 b false (zA9 _) (by omega) hb (fun _ => ⟨rfl, fun k hk => by omega⟩) (fun h => by cases h)
  have e1' : Cu N (pl, e) (fun (v22 : (List Bool) × Bool) => BD N (pl, e) J n (v22.1, v22.2)) N (b, false, 0) = _ := e1
  simp only
  rw [e1']
  cases hch : ch'
  ·obtain ⟨q1, q2⟩ := e3 hch
   match n, h with
   | k + 1, _ =>
    rw [BD, Am]
    exact ⟨b', rfl, e2, by rw [q1]; exact q2⟩
  ·have := e4 hch
   exact RG hp pl hl hlN hln hn e J n b' e2 (by omega)
def Lv (p : Aa) : Ab → List Ad → List Ab
 | m, [] => [m]
 | m, s :: l => m :: Lv p (AT p m s).1 l
theorem KW {p : Aa} {m x : Ab} {s : Ad} (h : Ii p m s = some x) : (AT p m s).1 = x ∧ (AT p m s).2 = 0 := by
 unfold Ii at h
 split at h
 ·rename_i hc; exact ⟨Option.some.inj h, hc.1⟩
 ·cases h
theorem Q7 {p : Aa} : ∀ (l : List Ad) (i : Nat) (m : Ab) (acc : List Ab) (y : Ab), GN p m l = some y → QL p i m (acc ++ [m]) l = (acc ++ Lv p m l, ((i + l.length : Nat) : Int), 0)
 | [], i, m, acc, y, _ => by simp [QL, Lv]
 | s :: l, i, m, acc, y, h => by
  rw [GN] at h
  cases hs : Ii p m s with
  | none => rw [hs] at h; cases h
  | some x =>
   rw [hs] at h
   obtain ⟨h1, h2⟩ := KW hs
   rw [QL, if_neg (by simp [h2]), h1, Lv, h1]
   have := Q7 l (i + 1) x (acc ++ [m]) y h
   rw [this]
   simp only [zC8, zD7, List.singleton_append]
   rw [show i + 1 + l.length = i + (l.length + 1) by omega]
theorem R2 {p : Aa} : ∀ (l : List Ad) (m y : Ab), GN p m l = some y → ∀ x, x ∈ Lv p m l → ∃ w, GN p m w = some x
 | [], m, y, _, x, hx => by
  rw [Lv, zD2] at hx; exact ⟨[], by rw [hx]; rfl⟩
 | s :: l, m, y, h, x, hx => by
  rw [GN] at h
  cases hs : Ii p m s with
  | none => rw [hs] at h; cases h
  | some z =>
   rw [hs] at h
   rw [Lv, zC6] at hx
   rcases hx with hx | hx
   ·exact ⟨[], by rw [hx]; rfl⟩
   ·rw [(KW hs).1] at hx
    obtain ⟨w, hw⟩ := R2 l z y h x hx
    exact ⟨s :: w, by rw [GN, hs]; exact hw⟩
theorem OP (p : Aa) : ∀ (l : List Ad) (m : Ab), (Lv p m l).length = l.length + 1
 | [], _ => rfl
 | s :: l, m => by rw [Lv, zC8, OP p l]; rfl
theorem Sw {N : Nat} (hN : N ≤ 1000000) (h20 : 100 ≤ N) {p : Aa} (hp : A3 p) (pl : List Ar) (hl : pl.length ≤ 1000) (hln : pl.length < N) (hm : ∀ nd, nd ∈ pl → Bm p nd.fh) (x : Ab) (hx : ∃ nd, nd ∈ pl ∧ nd.fh = x) :
  ∃ (a : Nat) (nd : Ar), Bd N pl (fun (y : Ar) => CO N y x.fc x.fa x.fd) = some (a : Int) ∧ pl[a]? = some nd ∧ nd.fh = x := by
 have key : ∀ (n i : Nat), pl.length - i < n → i ≤ pl.length → (∃ nd, nd ∈ pl.drop i ∧ nd.fh = x) → ∃ (a : Nat) (nd : Ar), A6 N pl (fun (y : Ar) => CO N y x.fc x.fa x.fd) (fun _ => some (-1)) n (i : Int) = some (a : Int) ∧ pl[a]? = some nd ∧ nd.fh = x := by
  intro n
  induction n with
  | zero => intro i h; omega
  | succ n ih =>
   intro i h hi he
   rw [A6]
   by_cases h1 : i < pl.length
   ·have hxi : pl[i]? = some pl[i] := by simp [h1]
    have hmi := hm _ (lM hxi)
    have hnv := hp.nv
    have hnt := hp.nt
    rw [AD (by omega)]
    simp only [AS, hxi, oS]
    unfold CO
    rw [RV hN (by simp only; rw [hmi.base]; omega) (by simp only; rw [hmi.next]; omega) (by simp only; rw [hmi.held]; omega) (by omega)]
    simp only [oS]
    have hcm : MT ⟨pl[i].fh.fc, pl[i].fh.fa, pl[i].fh.fd⟩ ⟨x.fc, x.fa, x.fd⟩ = MT pl[i].fh x := rfl
    rw [hcm]
    by_cases q : pl[i].fh = x
    ·rw [q, Xz.self x, show ((0 : Int) == 0) = true from rfl, AG]
     exact ⟨i, pl[i], rfl, hxi, q⟩
    ·have hne : (MT pl[i].fh x == 0) = false := beq_eq_false_iff_ne.2 fun hz => q (Ny hz)
     rw [hne, Am, AE (by omega)]
     refine ih (i + 1) (by omega) (by omega) ?_
     rw [CW hxi] at he
     obtain ⟨nd, h2, h3⟩ := he
     rcases zC6.1 h2 with h2 | h2
     ·exact absurd (by rw [← h2]; exact h3) q
     ·exact ⟨nd, h2, h3⟩
   ·rw [zB0 (by omega)] at he
    obtain ⟨nd, h2, _⟩ := he
    cases h2
 unfold Bd
 exact key N 0 (by omega) (zA9 _) (by rw [zB9]; exact hx)
theorem PP {N : Nat} (hN : N ≤ 1000000) (h20 : 100 ≤ N) {p : Aa} (hp : A3 p) (pl : List Ar) (hl : pl.length ≤ 1000) (hln : pl.length < N) (hm : ∀ nd, nd ∈ pl → Bm p nd.fh) (e : Int) (b : List Bool) (hbl : b.length = pl.length) (hb : ∀ (i : Nat) nd, pl[i]? = some nd → (b[i]? = some true ↔ NN p nd.fh)) (run : List Ab) (hrl : run.length ≤ 1000) (hrun : ∀ x, x ∈ run → ∃ nd, nd ∈ pl ∧ nd.fh = x) (z : Int × Int) : ∀ (n i : Nat), run.length - i < n → i ≤ run.length →
  ∃ v : Bool, Cn N (pl, e) b (run, z) (fun _ => some (true, 0)) n (i : Int) = some (v, 0) ∧ (v = true ↔ ∀ x, x ∈ run.drop i → NN p x)
 | 0, _, h, _ => by omega
 | n + 1, i, h, hi => by
  rw [Cn]
  by_cases h1 : i < run.length
  ·have hxi : run[i]? = some run[i] := by simp [h1]
   rw [AD (by simp only; omega)]
   simp only [AS, hxi, oS, A7]
   obtain ⟨a, nd, e1, e2, e3⟩ := Sw hN h20 hp pl hl hln hm run[i] (hrun _ (lM hxi))
   rw [e1]
   simp only [oS]
   have hal := (lI.1 e2).1
   rw [AB (by omega), AS]
   have hba : b[a]? = some (b[a]'(by omega)) := by simp [show a < b.length by omega]
   have hh := hb a nd e2
   rw [hba] at hh ⊢
   simp only [oS]
   rw [CW hxi]
   cases hv : b[a]'(by omega)
   ·rw [zD6, AG]
    refine ⟨false, rfl, fun h => (by cases h), fun h => ?_⟩
    have := hh.2 (by rw [e3]; exact h _ (.head _))
    rw [hv] at this; exact Option.some.inj this
   ·rw [zB7, Am, AE (by omega)]
    obtain ⟨v, f1, f2⟩ := PP hN h20 hp pl hl hln hm e b hbl hb run hrl hrun z n (i + 1) (by omega) (by omega)
    refine ⟨v, f1, f2.trans ⟨fun q x hx => ?_, fun q x hx => q x (zE4 _ hx)⟩⟩
    rcases zC6.1 hx with hx | hx
    ·rw [hx, ← e3]; exact hh.1 (by rw [hv])
    ·exact q x hx
  ·rw [AB (by simp only; omega), zB0 (by omega)]
   exact ⟨true, rfl, fun _ x hx => by (cases hx), fun _ => rfl⟩
theorem Rv {p : Aa} (hv : Bx p = 0) (hr : BJ p (CZ p) = true) {l : List Ku} (hs : HS p (CZ p) 120 1000 = some l) (u : List Ad) (hu : u.length ≤ 12) {y : Ab} (hrun : GN p (CZ p) u = some y) (hc : Nt p u = true) :
  ∃ v : Bool, DR 1000 p u = some (v, 0) ∧ (v = true ↔ ∀ x, x ∈ Lv p (CZ p) u → NN p x) := by
 obtain ⟨hp, _⟩ := Cy hv
 have hm0 := JO hv
 obtain ⟨pl, e1, e2, e3, e4⟩ := Ox (N := 1000) (by omega) (by omega) hv hm0 hr (most := 120) (by omega) (by omega) hs
 obtain ⟨ws, hreg⟩ := Sq hp hm0 hr hs
 have hl : l.length ≤ 120 := Bfs.go_len _ _ _ _ (by simp) hs
 have hpl : pl.length = l.length := by rw [← e2, zB1]
 have e3 : H1 p pl.length [] pl := by rw [hpl]; exact e3
 have hmo : ∀ nd, nd ∈ pl → Bm p nd.fh := fun nd hnd => by
  obtain ⟨k, hk⟩ := zA8.1 hnd
  have : l[k]? = some (Ez nd) := by rw [← e2, zA1, hk]; rfl
  exact (hreg.ok k nd.fh nd.fg nd.ft this).1
 have hin : ∀ x, (∃ w, GN p (CZ p) w = some x) → ∃ nd, nd ∈ pl ∧ nd.fh = x := fun x ⟨w, hw⟩ => by
  obtain ⟨k, f, s, _, h1, _⟩ := Li hp hreg hw
  rw [← e2, zA1] at h1
  cases hk : pl[k]? with
  | none => rw [hk] at h1; cases h1
  | some nd =>
   rw [hk] at h1
   exact ⟨nd, lM hk, congrArg (fun q : Ku => q.1) (Option.some.inj h1)⟩
 unfold DR
 rw [J7 1000 p (by omega) (by omega), if_pos hv, hv]
 simp only [oS, bne_self_eq_false, Am]
 rw [LQ (by omega) (by omega) (by omega) (by omega), hc]
 simp only [oS, zB7, Am]
 rw [e1]
 simp only [oS, bne_self_eq_false, Am]
 rw [As (by simp only [Dv]; omega)]
 obtain ⟨b0, f1, f2, f3⟩ := OT (N := 1000) (by omega) (by omega) hp pl (by omega) hmo 0 (fun (v9 : (List Bool)) =>
     BD 1000 (pl, 0) (fun (v19 : (List Bool)) =>
      (Gv 1000 p (CZ p) u).bind fun v32 =>
      AN ((v32.2.2 != 0))
       (some (false, v32.2.2))
       (Cn 1000 (pl, 0) v19 v32 (fun (_ : Unit) =>
        some (true, 0)) 1000 0)) 1000 (v9, true)) 1000 0 (zA5 ((pl.length : Int)).toNat false) (zA9 _) (by omega) (by simp) (fun k nd hk => by omega)
 have hb0 : Mx p pl b0 := by
  refine ⟨f2, fun i nd hi hb => ?_, fun i nd hi hh => by rw [f3 i nd hi, hh]⟩
  rw [f3 i nd hi] at hb
  exact ⟨[], nd.fh, rfl, Option.some.inj hb⟩
 have hcf : Lb b0 ≤ b0.length := List.count_le_length
 obtain ⟨b, g1, g2, g3⟩ := RG (N := 1000) hp pl (by omega) (by omega) (fun nd hnd => by
  obtain ⟨k, hk⟩ := zA8.1 hnd
  have := e4 k nd hk
  exact ⟨by omega, by omega⟩) e3 0 (fun (v19 : (List Bool)) =>
      (Gv 1000 p (CZ p) u).bind fun v32 =>
      AN ((v32.2.2 != 0))
       (some (false, v32.2.2))
       (Cn 1000 (pl, 0) v19 v32 (fun (_ : Unit) =>
        some (true, 0)) 1000 0)) 1000 b0 hb0 (by omega)
 have hbb : ∀ (i : Nat) nd, pl[i]? = some nd → (b[i]? = some true ↔ NN p nd.fh) := fun i nd hi =>
  ⟨g2.sound i nd hi, fun ⟨w, z, hw, hz⟩ => Se e3 g2 g3 w i nd z hi hw hz⟩
 have hrr := Q7 u 0 (CZ p) [] y hrun
 obtain ⟨v, k1, k2⟩ := PP (N := 1000) (by omega) (by omega) hp pl (by omega) (by omega) hmo 0 b g2.len hbb (Lv p (CZ p) u) (by rw [OP]; omega) (fun x hx => hin x (R2 u _ y hrun x hx)) (((0 + u.length : Nat) : Int), 0) 1000 0 (by rw [OP]; omega) (zA9 _)
 refine ⟨v, ?_, by rw [zB9] at k2; exact k2⟩
 refine Eq.trans f1 ?_
 refine Eq.trans g1 ?_
 rw [Qz 1000 (by omega) (by omega) hv hm0 u (by omega)]
 have hrr' : QL p 0 (CZ p) [CZ p] u = _ := hrr
 rw [hrr']
 simp only [oS, zH3, bne_self_eq_false, Am]
 exact k1
def JQ (p : Aa) : Aa := ⟨p.fb, p.fm, p.fj, p.fe⟩
theorem WY {p : Aa} (hp : A3 p) : A3 (JQ p) := ⟨hp.nv, hp.nt, hp.tgt, hp.now, hp.ver, hp.tab⟩
theorem OJ {p : Aa} (hv : Bx p = 0) : Bx (JQ p) = 0 := by
 obtain ⟨hp, h⟩ := Cy hv
 exact M1 (WY hp) fun i hi => ⟨(h i hi).2.2.1, (h i hi).2.2.2, (h i hi).1, (h i hi).2.1⟩
theorem Qc {p : Aa} (hv : Bx p = 0) {x : Ab} (hx : Bm p x) : GI (JQ p) x = KJ p x := by
 have : Bm (JQ p) x := ⟨⟨hx.base,hx.next,hx.held,hx.b0,hx.n0,hx.ne⟩, hx.range, hx.low, hx.high, hx.none⟩
 unfold GI KJ
 rw [Gr (OJ hv) this]; rfl
theorem O4 {α : Type} : ∀ (i : Nat) (xs : List α), C1 (fun _ x => [x]) i xs = xs
 | _, [] => rfl
 | i, x :: xs => by rw [C1, O4 (i + 1) xs]; rfl
theorem OU {N : Nat} (h20 : 100 ≤ N) (l : List (List Bool)) (h1 : l.length ≤ 6) (h2 : ∀ row, row ∈ l → row.length ≤ 6) : DI N l = some l := by
 unfold DI
 rw [FM (CB N l _) (fun a i => (a, i)) l some (fun _ x => [x]) 1 1000
  (fun i x hx => by simp)
  (fun n i x a hx ha => by
   have hi := (lI.1 hx).1
   have hr := h2 x (lM hx)
   rw [CB]
   simp only [AS, hx, oS]
   rw [AD (by omega), As (by simp only [zF8]; unfold Dv; omega), As (by simp only [zE3] at ha ⊢; unfold Dv; omega), AE (by omega)]
   rfl)
  (fun n a => by
   rw [CB, AB (by omega)]) N [] (by omega) (by simp only [zF8]; omega), O4]
 rfl
theorem XM {p : Aa} {t : Av} (hp : A3 p) (ht : NZ p t) : t.fp.length ≤ 6 ∧ ∀ row, row ∈ t.fp → row.length ≤ 6 := by
 have h1 := Ka hp.ver ht.from0.1 ht.from0.2
 refine ⟨?_, fun row hr => by have := ht.reR row hr; omega⟩
 by_cases hk : t.ff = 4
 ·have := ht.reL hk; omega
 ·rw [ht.reN hk]; simp
theorem VG {N : Nat} (hN : N ≤ 1000000) (h20 : 100 ≤ N) {p : Aa} (hv : Bx p = 0) : ET N p = some (JQ p, 0) := by
 obtain ⟨hp, _⟩ := Cy hv
 have hnt := hp.nt
 have hnv := hp.nv
 have hnow := hp.now
 have htg := hp.tgt
 unfold ET EX
 rw [HW N p hN (by omega)]
 simp only [oS, hv, bne_self_eq_false, Am]
 rw [As (by simp only [zF8]; unfold Dv; omega), As (by simp only [zF8]; unfold Dv; omega), As (by simp only [zF8]; unfold Dv; omega)]
 simp only [zH3]
 rw [FM (Ci N p _) (fun a i => (a, i)) p.fe (fun v7 => (A8 N (Aa.mk p.fb p.fm p.fj v7)).bind fun v14 => AN (v14 != 0) (some (Aa.mk [] [] [] [], v14)) (some (Aa.mk p.fb p.fm p.fj v7, 0))) (fun _ x => [x]) 1 1000
  (fun i x hx => by simp)
  (fun n i x a hx ha => by
   have hi := (lI.1 hx).1
   have ht := LS (hp.tab x (lM hx))
   have hl := Mj hp ht
   have hr := XM hp ht
   rw [Ci]
   simp only [AS, hx, oS]
   unfold Fc
   rw [AD (by omega), OU h20 x.fr hl.1 hl.2, OU h20 x.fp hr.1 hr.2]
   simp only [oS]
   rw [As (by simp only [zE3] at ha ⊢; unfold Dv; omega), AE (by omega)])
  (fun n a => by
   rw [Ci, AB (by omega)]) N [] (by omega) (by simp only [zF8]; omega)]
 simp only [zH3, O4]
 have hb : Bx ⟨p.fb, p.fm, p.fj, p.fe⟩ = 0 := OJ hv
 rw [HW N _ hN (by omega)]
 simp only [oS, hb, bne_self_eq_false, Am]
 rfl
theorem PS {N : Nat} (hN : N ≤ 1000000) (h20 : 100 ≤ N) {p : Aa} (l : List Ku) (hl : l.length ≤ 1000) (hm : ∀ n, n ∈ l → Bm p n.1) (J : Bool × Bool → Option Bool) : ∀ (n i : Nat) (g h : Bool), l.length - i < n → i ≤ l.length →
  Dm N p (l.map Hq) (JQ p, 0) J n (g, h, (i : Int)) = J (g || (l.drop i).any (fun n => GI p n.1), h || (l.drop i).any (fun n => GI (JQ p) n.1))
 | 0, _, _, _, h, _ => by omega
 | n + 1, i, g, h, hn, hi => by
  rw [Dm]
  by_cases h1 : i < l.length
  ·have hx : l[i]? = some l[i] := by simp [h1]
   have hx' : (l.map Hq)[i]? = some (Hq l[i]) := by rw [zA1, hx]; rfl
   have hmi := hm _ (lM hx)
   rw [AD (by simp only [zB1]; omega)]
   simp only [A7, AS, hx', oS]
   have e1 : Cd N p ⟨(Hq l[i]).fu.fc, (Hq l[i]).fu.fa, (Hq l[i]).fu.fd⟩ = some (GI p l[i].1) := KA N p l[i].1 hN h20 (Ij hmi)
   have e2 : Cd N (JQ p) ⟨(Hq l[i]).fu.fc, (Hq l[i]).fu.fa, (Hq l[i]).fu.fd⟩ = some (GI (JQ p) l[i].1) := KA N (JQ p) l[i].1 hN h20 (Ij hmi)
   rw [e1, e2]
   simp only [oS]
   rw [CW hx, List.any_cons, List.any_cons, AE (by omega)]
   have ih := fun g h => PS hN h20 l hl hm J n (i + 1) g h (by omega) (by omega)
   cases g <;> cases h <;> simp only [AG, Am, Bool.true_or, zH1] <;> rw [ih] <;> simp
  ·rw [AB (by simp only [zB1]; omega), zB0 (by omega)]
   simp
theorem WP {N : Nat} (hN : N ≤ 1000000) (h20 : 100 ≤ N) {p : Aa} (hv : Bx p = 0) (l : List Ku) (hl : l.length ≤ 1000) (hlN : l.length < N) (hm : ∀ n, n ∈ l → Bm p n.1) : EV N p (l.map Hq) = some (l.any (fun n => GI p n.1) && l.any (fun n => GI (JQ p) n.1)) := by
 unfold EV
 rw [VG hN h20 hv]
 simp only [oS]
 have := PS hN h20 l hl hm (fun (v3 : Bool × Bool) => Bi (fun (v13 : Bool) => some v13) fun j13 => AN v3.1 (j13 v3.2) (j13 false)) N 0 false false (by omega) (zA9 _)
 refine Eq.trans this ?_
 rw [zB9, zH1, zH1]
 simp only [A7]
 cases l.any (fun n => GI p n.1) <;> rfl
theorem P4 {p : Aa} (hv : Bx p = 0) (u : List Ad) (hu : u.length ≤ 12) : ∀ (n i : Nat) (m : Ab), i ≤ u.length → u.length - i + 1 < n → Bm p m → BJ p m = true → (∃ l', HS p m 120 1000 = some l') → (∃ y, GN p m (u.drop i) = some y ∧ GI p y = true) →
  ∃ v : Bool, BN 1000 p u (fun _ => some (true, 0)) n (m, (i : Int)) = some (v, 0) ∧ (v = true ↔ ∀ x, x ∈ Lv p m (u.drop i) → NN p x)
 | 0, _, _, _, h, _, _, _, _ => by omega
 | n + 1, i, m, hi, hn, hm, hr, ⟨l', hs⟩, ⟨y, hy, hg⟩ => by
  obtain ⟨hp, _⟩ := Cy hv
  obtain ⟨ws, hreg⟩ := Sq hp hm hr hs
  have hl : l'.length ≤ 120 := Bfs.go_len _ _ _ _ (by simp) hs
  have hs2 : HS p m 20000 1000 = some l' := Bfs.go_more (by omega) _ _ _ _ _ (zB4 _) hs
  have hok : ∀ q, q ∈ l' → Bm p q.1 := fun q hq => by
   obtain ⟨k, hk⟩ := zA8.1 hq
   exact (hreg.ok k q.1 q.2.1 q.2.2 hk).1
  rw [BN, AD (by simp only; omega)]
  have e1 := J9 (N := 1000) (by omega) (by omega) hv hm hr (most := 20000) (by omega) (by omega) (.inr ⟨l', hs2, by omega⟩)
  rw [hs2] at e1
  have e1' : B2 1000 p m 20000 = some (l'.map Hq, true) := e1
  simp only [A7]
  rw [e1']
  simp only [oS]
  rw [WP (by omega) (by omega) hv l' (by omega) (by omega) hok]
  simp only [oS]
  have hgo : l'.any (fun n => GI p n.1) = true := by
   obtain ⟨k, f, s, _, h1, _⟩ := Li hp hreg hy
   exact zD3.2 ⟨_, lM h1, hg⟩
  have hho : l'.any (fun n => GI (JQ p) n.1) = true ↔ NN p m := by
   constructor
   ·intro h
    obtain ⟨q, hq, hqg⟩ := zD3.1 h
    rw [Qc hv (hok q hq)] at hqg
    obtain ⟨k, hk⟩ := zA8.1 hq
    obtain ⟨w, hw⟩ := Bfs.get_ex (l := ws) (k := k) (by rw [hreg.inv.len]; exact Bfs.lt_get hk)
    exact ⟨w, q.1, Tb hp hreg (show l'[k]? = some (q.1, q.2.1, q.2.2) from hk) hw, hqg⟩
   ·rintro ⟨w, z, hw, hz⟩
    obtain ⟨k, f, s, _, h1, _⟩ := Li hp hreg hw
    have hzm := lM h1
    exact zD3.2 ⟨_, hzm, by rw [Qc hv (hok _ hzm)]; exact hz⟩
  rw [hgo, zE8]
  have hhead : m ∈ Lv p m (u.drop i) := by cases u.drop i <;> simp [Lv]
  cases hhv : l'.any (fun n => GI (JQ p) n.1)
  ·rw [zD6, AG]
   refine ⟨false, rfl, fun h => (by cases h), fun h => ?_⟩
   have := hho.2 (h m hhead)
   rw [hhv] at this; exact this
  ·rw [zB7, Am]
   have hmh := hho.1 hhv
   by_cases h1 : i < u.length
   ·have hx : u[i]? = some u[i] := by simp [h1]
    rw [AD (by omega)]
    simp only [AS, hx, oS]
    rw [CW hx] at hy ⊢
    rw [GN] at hy
    cases hst : Ii p m u[i] with
    | none => rw [hst] at hy; cases hy
    | some x =>
     rw [hst] at hy
     obtain ⟨a1, a2⟩ := KW hst
     have hnx := Nu hst
     obtain ⟨b, e3⟩ := M0 1000 (by omega) (by omega) hp hm (Ms.1 hnx).1
     rw [e3]
     simp only [oS]
     rw [AE (by omega), a1, Lv, a1]
     have hxo := UN hp hm hst
     have hxr := (NC.1 hst).2.2.2.2
     obtain ⟨v, f1, f2⟩ := P4 hv u hu n (i + 1) x (by omega) (by omega) hxo hxr (TP hp hm hr hs (w := [u[i]]) (by rw [GN, hst]; rfl)) ⟨y, hy, hg⟩
     refine ⟨v, f1, f2.trans ⟨fun q z hz => ?_, fun q z hz => q z (zE4 _ hz)⟩⟩
     rcases zC6.1 hz with hz | hz
     ·rw [hz]; exact hmh
     ·exact q z hz
   ·rw [AB (by omega), AE (by omega)]
    match n, hn with
    | k + 1, _ =>
     rw [BN, AB (by simp only; omega)]
     refine ⟨true, rfl, fun _ x hx => ?_, fun _ => rfl⟩
     rw [zB0 (by omega), Lv, zD2] at hx
     rw [hx]; exact hmh
theorem KL (d : BA) (u : List Ad) (wd : Fp d) (_ : Nf MB u) : CP 1000 d u = some true := by
 unfold CP
 simp only [A7, Qe, oS, zB7, Am]
 by_cases h12 : (12 : Int) < (u.length : Int)
 ·rw [decide_eq_true h12, AG]
 rw [decide_eq_false h12, Am]
 have hu : u.length ≤ 12 := by omega
 obtain ⟨p, b, e, hb⟩ := VN d wd
 rw [e]
 simp only [oS]
 cases b
 ·rfl
 rw [zB7, Am]
 obtain ⟨hg, hlt⟩ := hb rfl
 have hv := hg.valid
 obtain ⟨hp, _⟩ := Cy hv
 have hm0 := JO hv
 have main : ∃ r : Bool × Int, DR 1000 p u = some r ∧ CV 1000 p u = some r := by
  cases hc : Nt p u
  ·refine ⟨(false, 13), ?_, ?_⟩
   ·unfold DR
    rw [J7 1000 p (by omega) (by omega), if_pos hv, hv]
    simp only [oS, bne_self_eq_false, Am]
    rw [LQ (by omega) (by omega) (by omega) (by omega), hc]
    rfl
   ·unfold CV
    rw [HW 1000 p (by omega) (by omega), hv]
    simp only [oS, bne_self_eq_false, Am]
    rw [Mr (by omega) (by omega) (by omega) (by omega), hc]
    rfl
  ·have hc' := hc
   rw [TY, zA6, zA6] at hc'
   obtain ⟨_, hr, hpb⟩ := hc'
   rcases hlt with hlt | ⟨l, hs⟩
   ·rw [hr] at hlt; cases hlt
   unfold Sc at hpb
   cases hrun : GN p (CZ p) u with
   | none => rw [hrun] at hpb; cases hpb
   | some y =>
    rw [hrun] at hpb
    obtain ⟨v1, f1, f2⟩ := Rv hv hr hs u hu hrun hc
    obtain ⟨v2, g1, g2⟩ := P4 hv u hu 1000 0 (CZ p) (zA9 _) (by omega) hm0 hr ⟨l, hs⟩ ⟨y, by rw [zB9]; exact hrun, hpb⟩
    rw [zB9] at g2
    have hvv : v1 = v2 := by
     have := f2.trans g2.symm
     cases v1 <;> cases v2 <;> simp_all
    refine ⟨(v1, 0), f1, ?_⟩
    unfold CV
    rw [HW 1000 p (by omega) (by omega), hv]
    simp only [oS, bne_self_eq_false, Am]
    rw [Mr (by omega) (by omega) (by omega) (by omega), hc]
    simp only [oS, zB7, Am]
    rw [Ke 1000 p (by omega) (by omega), if_pos hv]
    simp only [oS]
    have hl : l.length ≤ 120 := Bfs.go_len _ _ _ _ (by simp) hs
    have hs2 : HS p (CZ p) 20000 1000 = some l := Bfs.go_more (by omega) _ _ _ _ _ (zB4 _) hs
    have e1 := J9 (N := 1000) (by omega) (by omega) hv hm0 hr (most := 20000) (by omega) (by omega) (.inr ⟨l, hs2, by omega⟩)
    rw [hs2] at e1
    have e1' : B2 1000 p (CZ p) 20000 = some (l.map Hq, true) := e1
    rw [e1']
    simp only [oS, zB7, Am]
    rw [hvv]; exact g1
 obtain ⟨r, r1, r2⟩ := main
 rw [r1, r2]
 simp only [oS, beq_self_eq_true, AG]
end Go.Lift
