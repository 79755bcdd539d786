/- Lemmas for RefuseReasonsSaid, which YtpaobkaighpaaaaGreatFinR7 proves. -/
import Derived.Test.YtpaobkaighpaaaaGreatMBord3
import Derived.KernelRfl
open Bool renaming and_eq_true → zA4, eq_iff_iff → zJ8, false_or → zH9, not_false → zE0, not_true → zB7, or_eq_true → zF6, true_and → zF1
open Int renaming toNat_natCast → zA9
open List renaming all_eq_true → zA5, any_eq_true → zF0, cons_append → zI2, drop_eq_nil_of_le → zB3, drop_zero → zC0, getElem?_eq_getElem → zB6, getElem?_eq_none → zB9, getElem?_map → zA6, getElem?_set → zD8, length_cons → zC6, length_filter_le → zH6, length_map → zC2, length_set → zF8, mem_append → zC5, mem_cons → zB0, mem_cons_of_mem → zJ3, mem_filter → zK4, mem_iff_getElem? → zA8, mem_map → zB8, mem_singleton → zE1, nil_append → zG1, pairwise_cons → zD3, pairwise_iff_getElem → zH7, take_of_length_le → zJ5
open Nat renaming le_refl → zB4, le_trans → zG4, zero_add → zA1, zero_le → zB2
open Option renaming getD_some → zC9, map_some → zE8
namespace Go.Lift
open List renaming getElem?_eq_some_iff → lI
open List renaming getD_eq_getElem?_getD → lD
open Go
def Jt (p : Aa) (m : Ab) (s : Nat) : Nat :=
 if m.fa.getD s 0 < 0 then (if m.fd.getD s 0 = p.fi.getD s 0 then 0 else 2) else (if m.fa.getD s 0 = p.fi.getD s 0 then 1 else 3)
def Of (f : Nat → Nat) : Nat → Nat
 | 0 => 0
 | n + 1 => Of f n + f n
theorem Rh {f g : Nat → Nat} : ∀ n : Nat, (∀ i, i < n → f i ≤ g i) → Of f n ≤ Of g n
 | 0, _ => zB4 _
 | n + 1, h => Nat.add_le_add (Rh n fun i hi => h i (by omega)) (h n (by omega))
theorem Ri {f g : Nat → Nat} : ∀ (n s : Nat), s < n → (∀ i, i < n → f i ≤ g i) → f s < g s → Of f n < Of g n
 | 0, s, h, _, _ => by omega
 | n + 1, s, hs, h, hlt => by
  rw [Of, Of]
  by_cases e : s = n
  ·subst e
   have := Rh s fun i hi => h i (by omega)
   omega
  ·have h1 := Ri n s (by omega) (fun i hi => h i (by omega)) hlt
   have h2 := h n (by omega)
   omega
theorem Qw {f : Nat → Nat} : ∀ n : Nat, Of f n = 0 → ∀ i, i < n → f i = 0
 | 0, _, i, h => by omega
 | n + 1, h, i, hi => by
  rw [Of] at h
  by_cases e : i = n
  ·subst e; omega
  ·exact Qw n (by omega) i (by omega)
def Ts (p : Aa) (m : Ab) : Nat := Of (Jt p m) p.fb.length
theorem M9 {l : List Int} {i j : Nat} {x d : Int} (hi : i < l.length) : (l.set i x).getD j d = if j = i then x else l.getD j d := by
 rw [lD, lD, zD8]
 by_cases e : i = j
 ·subst e; rw [if_pos rfl, if_pos hi, if_pos rfl]; rfl
 ·rw [if_neg e, if_neg (fun q => e q.symm)]
theorem VU {p : Aa} (hv : By p = 0) {m : Ab} (hm : BI p m) (hc : Ts p m ≠ 0) : ∃ s, s ∈ Eb p m ∧ Ts p (A6 p m s).1 < Ts p m := by
 obtain ⟨hp, hx⟩ := Cd hv
 have hex : ∃ s, s < p.fb.length ∧ Jt p m s ≠ 0 := by
  apply Classical.byContradiction
  intro h
  apply hc
  have hz : ∀ i, i < p.fb.length → Jt p m i ≤ 0 := fun i hi => Nat.le_of_not_lt fun q => h ⟨i, hi, by omega⟩
  have := Rh (g := fun _ => 0) p.fb.length hz
  have hzz : ∀ n, Of (fun _ => 0) n = 0 := fun n => by
   induction n with
   | zero => rfl
   | succ n ih => rw [Of, ih]
  rw [hzz] at this
  exact Nat.le_zero.1 this
 obtain ⟨s, hs, hcs⟩ := hex
 have hbl : s < m.fd.length := by rw [hm.base]; exact hs
 have hnl : s < m.fa.length := by rw [hm.next]; exact hs
 have ht := hx s hs
 have hv6 := H8 hp hs
 by_cases ho : m.fa.getD s 0 < 0
 · -- closed, another version
  have hne : m.fd.getD s 0 ≠ p.fi.getD s 0 := fun e => hcs (by unfold Jt; rw [if_pos ho, if_pos e])
  have hsv : FY (⟨1, (s : Int), p.fi.getD s 0⟩ : Ah) = true := by
   unfold FY; simp only [zA4, decide_eq_true_iff]; refine ⟨⟨by omega, by omega, by omega, ht.2.2.1⟩, by simp⟩
  have hsx : Fa p (⟨1, (s : Int), p.fi.getD s 0⟩ : Ah) = true := by
   unfold Fa
   rw [if_neg (by simp)]
   simp only [zA9, zA4, decide_eq_true_iff, zF6]
   exact ⟨by omega, .inr ht.2.2.2⟩
  have ha : Ez p m ⟨1, (s : Int), p.fi.getD s 0⟩ = some ⟨m.fd, m.fa.set s (p.fi.getD s 0), Gx p ⟨1, (s : Int), p.fi.getD s 0⟩ m.fe⟩ := by
   unfold Ez
   simp only [zA9, if_true]
   rw [if_neg (by omega)]
  have hap : A6 p m ⟨1, (s : Int), p.fi.getD s 0⟩ = (⟨m.fd, m.fa.set s (p.fi.getD s 0), Gx p ⟨1, (s : Int), p.fi.getD s 0⟩ m.fe⟩, 0) := by
   unfold A6
   rw [if_neg (by rw [hsv]; simp), if_neg (by rw [hsx]; simp), ha]
  refine ⟨⟨1, (s : Int), p.fi.getD s 0⟩, zK4.2 ⟨Q7 hsv hsx (by simp), by rw [hap]; rfl⟩, ?_⟩
  rw [hap]
  have hat : ∀ i, Jt p ⟨m.fd, m.fa.set s (p.fi.getD s 0), Gx p ⟨1, (s : Int), p.fi.getD s 0⟩ m.fe⟩ i = if i = s then 1 else Jt p m i := fun i => by
   unfold Jt
   simp only [M9 hnl]
   by_cases e : i = s
   ·subst e; simp only [if_true]; rw [if_neg (by omega)]
   ·simp only [if_neg e]
  refine Ri _ s hs (fun i hi => ?_) ?_
  ·rw [hat]; split
   ·rename_i e; subst e; omega
   ·exact zB4 _
  ·rw [hat, if_pos rfl]; unfold Jt; rw [if_pos ho, if_neg hne]; omega
 · -- open
  have hsv : FY (⟨2, (s : Int), 0⟩ : Ah) = true := by
   unfold FY; simp only [zA4, decide_eq_true_iff]; exact ⟨⟨by omega, by omega, by omega, by omega⟩, by simp⟩
  have hsx : Fa p (⟨2, (s : Int), 0⟩ : Ah) = true := by
   unfold Fa
   rw [if_neg (by simp)]
   simp only [zA9, zA4, decide_eq_true_iff]
   exact ⟨by omega, by simp⟩
  have ha : Ez p m ⟨2, (s : Int), 0⟩ = some ⟨m.fd.set s (m.fa.getD s 0), m.fa.set s (-1), m.fe⟩ := by
   unfold Ez
   simp only [zA9]
   rw [if_neg (by simp), if_neg (by simp), if_neg ho, if_pos trivial]
  have hap : A6 p m ⟨2, (s : Int), 0⟩ = (⟨m.fd.set s (m.fa.getD s 0), m.fa.set s (-1), m.fe⟩, 0) := by
   unfold A6
   rw [if_neg (by rw [hsv]; simp), if_neg (by rw [hsx]; simp), ha]
  refine ⟨⟨2, (s : Int), 0⟩, zK4.2 ⟨Q7 hsv hsx (by simp), by rw [hap]; rfl⟩, ?_⟩
  rw [hap]
  have hat : ∀ i, Jt p ⟨m.fd.set s (m.fa.getD s 0), m.fa.set s (-1), m.fe⟩ i = if i = s then (if m.fa.getD s 0 = p.fi.getD s 0 then 0 else 2) else Jt p m i := fun i => by
   unfold Jt
   simp only [M9 hnl, M9 hbl]
   by_cases e : i = s
   ·subst e; simp only [if_true]; rw [if_pos (by omega)]
   ·simp only [if_neg e]
  have hlt : (if m.fa.getD s 0 = p.fi.getD s 0 then 0 else 2) < Jt p m s := by
   unfold Jt; rw [if_neg ho]; split <;> omega
  refine Ri _ s hs (fun i hi => ?_) ?_
  ·rw [hat]; split
   ·rename_i e; subst e; omega
   ·exact zB4 _
  ·rw [hat, if_pos rfl]; exact hlt
theorem Md {p : Aa} (hv : By p = 0) {m : Ab} (hm : BI p m) (hc : Ts p m = 0) : IF p m = true := by
 obtain ⟨hp, _⟩ := Cd hv
 have hz := Qw _ hc
 have hat : ∀ i, i < p.fb.length → m.fa.getD i 0 < 0 ∧ m.fd.getD i 0 = p.fi.getD i 0 := fun i hi => by
  have := hz i hi
  unfold Jt at this
  split at this
  ·rename_i h1
   split at this
   ·rename_i h2; exact ⟨h1, h2⟩
   ·omega
  ·split at this <;> omega
 unfold IF
 rw [Ij hv hm, beq_self_eq_true, zF1, zA4, beq_iff_eq, zA5]
 refine ⟨?_, fun n hn => ?_⟩
 ·apply List.ext_getElem?
  intro i
  by_cases hi : i < p.fb.length
  ·have := (hat i hi).2
   have h1 : i < m.fd.length := by rw [hm.base]; exact hi
   have h2 : i < p.fi.length := by rw [hp.tgt]; exact hi
   rw [lD, lD, zB6 h1, zB6 h2] at this
   rw [zB6 h1, zB6 h2]
   exact congrArg some this
  ·rw [zB9 (by rw [hm.base]; omega), zB9 (by rw [hp.tgt]; omega)]
 ·obtain ⟨i, hi⟩ := zA8.1 hn
  have h1 := (lI.1 hi).1
  have := (hat i (by rw [← hm.next]; exact h1)).1
  rw [lD, hi] at this
  exact decide_eq_true this
theorem NM {p : Aa} (hv : By p = 0) (A : Ab → Prop) (hA : ∀ m, A m → BI p m) (hs : ∀ m s, A m → s ∈ Eb p m → A (A6 p m s).1) : ∀ (n : Nat) (m : Ab), Ts p m ≤ n → A m → ∃ x, A x ∧ IF p x = true
 | 0, m, h, hm => ⟨m, hm, Md hv (hA m hm) (by omega)⟩
 | n + 1, m, h, hm => by
  by_cases hc : Ts p m = 0
  ·exact ⟨m, hm, Md hv (hA m hm) hc⟩
  ·obtain ⟨s, h1, h2⟩ := VU hv (hA m hm) hc
   exact NM hv A hA hs n _ (by omega) (hs m s hm h1)
end Go.Lift
namespace Go.Lift
open Option renaming bind_some → oS
open List renaming mem_of_getElem? → lM
open Go
theorem MY (N : Nat) (hN : N ≤ 1000000) (h20 : 100 ≤ N) {p : Aa} (hv : By p = 0) {m : Ab} (hm : BI p m) (l : List Ah) (hl : l.length ≤ 54) (hs : ∀ s, s ∈ l → s ∈ Eb p m) (e : Int) : ∀ (n i : Nat) (a : List Ah) (b : List Ab), i ≤ l.length → l.length - i < n → a.length ≤ i → b.length ≤ i →
  Fe N p m (l, e) (fun v3 => some (v3.1, v3.2)) n (a, b, (i : Int)) = some (a ++ (S8 p m (l.drop i)).map (·.1), b ++ (S8 p m (l.drop i)).map (·.2))
 | 0, i, _, _, _, h, _, _ => by omega
 | n + 1, i, a, b, hi, h, ha, hb => by
  obtain ⟨hp, _⟩ := Cd hv
  rw [Fe]
  by_cases h1 : i < l.length
  ·have hx : l[i]? = some l[i] := by simp [h1]
   have hmem := hs _ (lM hx)
   have h0 := (JY hmem).2
   have hk := Lm hp hm h0
   rw [AD (by first | omega | (simp only; omega)), Dg hx, RP]
   simp only [Bc, AU, hx, oS]
   rw [LO N hN h20 (Kx hm), Ij hv hm, if_pos rfl]
   simp only [oS]
   rw [h0, bne_self_eq_false, Am, LQ N p _ hN h20 (Kx hk) (Ij hv hk)]
   simp only [oS]
   cases hr : BF p (A6 p m l[i]).1
   ·rw [Am, if_neg (by simp), AE (by omega)]
    exact MY N hN h20 hv hm l hl hs e n (i + 1) a b (by omega) (by omega) (by omega) (by omega)
   ·rw [AI, if_pos rfl, Aq (by simp [Dw]; omega), Aq (by simp [Dw]; omega), AE (by omega)]
    rw [MY N hN h20 hv hm l hl hs e n (i + 1) _ _ (by omega) (by omega) (by simp; omega) (by simp; omega)]
    simp
  ·rw [AA (by first | omega | (simp only; omega)), zB3 (by omega)]
   simp [S8]
theorem XU (N : Nat) (hN : N ≤ 1000000) (h20 : 100 ≤ N) {p : Aa} (hv : By p = 0) {m : Ab} (hm : BI p m) : Hb N p m = some ((IZ p m).map (·.1), (IZ p m).map (·.2)) := by
 obtain ⟨hp, _⟩ := Cd hv
 unfold Hb
 rw [OA N hN h20 hv hm]
 simp only [oS]
 have hl : (Eb p m).length ≤ 54 := zG4 (zH6 _ _) (MI hp)
 have := MY N hN h20 hv hm (Eb p m) hl (fun _ h => h) 0 N 0 [] [] (zB2 _) (by omega) (zB4 _) (zB4 _)
 simpa [IZ] using this
theorem Xq {p : Aa} (hp : A2 p) (m : Ab) : (IZ p m).length ≤ 54 := by
 unfold IZ S8
 exact zG4 (List.length_filterMap_le _ _) (zG4 (zH6 _ _) (MI hp))
def KF (x : Ab) : List Ab → List Ab
 | [] => [x]
 | y :: ys => if GD y x = 0 then y :: ys else if 0 < GD y x then x :: y :: ys else y :: KF x ys
theorem Pb {x : Ab} : ∀ {l : List Ab} {z : Ab}, z ∈ KF x l ↔ z = x ∨ z ∈ l
 | [], z => by simp [KF]
 | y :: ys, z => by
  simp only [KF]
  split
  ·rename_i h
   have h := H2 h
   constructor
   ·exact fun hz => .inr hz
   ·rintro (rfl | hz)
    ·rw [h]; simp
    ·exact hz
  ·split
   ·simp
   ·rw [zB0, Pb, zB0]
    constructor
    ·rintro (h | h | h)
     ·exact .inr (.inl h)
     ·exact .inl h
     ·exact .inr (.inr h)
    ·rintro (h | h | h)
     ·exact .inr (.inl h)
     ·exact .inl h
     ·exact .inr (.inr h)
theorem SY (x : Ab) : ∀ (l : List Ab), (KF x l).length ≤ l.length + 1 ∧ l.length ≤ (KF x l).length
 | [] => by simp [KF]
 | y :: ys => by
  have := SY x ys
  simp only [KF]
  split
  ·simp
  ·split
   ·simp
   ·simp only [zC6]; omega
theorem NO {x : Ab} : ∀ {l : List Ab}, Hm GD l → Hm GD (KF x l)
 | [], _ => by simp [KF, Hm]
 | y :: ys, h => by
  obtain ⟨h1, h2⟩ := zD3.1 h
  simp only [KF]
  split
  ·exact h
  ·split
   ·rename_i h0 hx
    have hxy : GD x y < 0 := by rw [U3 y x]; omega
    refine zD3.2 ⟨fun z hz => ?_, h⟩
    rcases zB0.1 hz with rfl | hz
    ·exact hxy
    ·have := h1 z hz
     exact OX.lt1 hxy (by omega)
   ·rename_i h0 hx
    refine zD3.2 ⟨fun z hz => ?_, NO h2⟩
    rcases Pb.1 hz with rfl | hz
    ·omega
    ·exact h1 z hz
def Cp (a : List Ab) : List Ab → List Ab
 | [] => a
 | x :: xs => Cp (KF x a) xs
theorem HZ {z : Ab} : ∀ {xs a : List Ab}, z ∈ Cp a xs ↔ z ∈ a ∨ z ∈ xs
 | [], a => by simp [Cp]
 | x :: xs, a => by
  simp only [Cp]
  rw [HZ, Pb, zB0]
  constructor
  ·rintro ((h | h) | h)
   ·exact .inr (.inl h)
   ·exact .inl h
   ·exact .inr (.inr h)
  ·rintro (h | h | h)
   ·exact .inl (.inr h)
   ·exact .inl (.inl h)
   ·exact .inr h
theorem If : ∀ {xs a : List Ab}, Hm GD a → Hm GD (Cp a xs)
 | [], _, h => h
 | _ :: xs, _, h => If (xs := xs) (NO h)
theorem Kk : ∀ (xs a : List Ab), (Cp a xs).length ≤ a.length + xs.length
 | [], a => by simp [Cp]
 | x :: xs, a => by
  have h1 := Kk xs (KF x a)
  have h2 := SY x a
  simp only [Cp, zC6]; omega
def CZ (l : List Ob) : List Ab := l.map (·.1)
theorem Oz {l : List Ob} {i : Nat} {m : Ab} {f : Int} {t : Ah} (h : l[i]? = some (m, f, t)) : (CZ l)[i]? = some m := by
 unfold CZ; rw [zA6, h]; rfl
theorem FU (l : List Ob) : (CZ l).length = l.length := zC2 _
theorem GF {l : List Ob} {x : Ab} : x ∈ CZ l ↔ ∃ n, n ∈ l ∧ n.1 = x := zB8
theorem Lp {p : Aa} (hp : A2 p) {most : Nat} : ∀ (n i : Nat) (l l' : List Ob), Bfs.go (IZ p) most n i l = some l' → (∀ n, n ∈ l → BI p n.1 ∧ BF p n.1 = true) → ∀ n, n ∈ l' → BI p n.1 ∧ BF p n.1 = true
 | 0, i, l, l', h, _ => by cases h
 | n + 1, i, l, l', h, hA => by
  simp only [Bfs.go] at h
  split at h
  ·cases h; exact hA
  ·rename_i nd hx
   cases hin : Bfs.inner most i (IZ p nd.1) l with
   | none => rw [hin] at h; cases h
   | some l1 =>
    rw [hin] at h
    exact Lp hp n (i + 1) l1 l' h (J5 hin (fun q hq => Ps hp (hA _ (lM hx)).1 hq) hA).1
instance aL : Inhabited Ab := ⟨Hs⟩
theorem Sr {N : Nat} (hN : N ≤ 1000000) {a b : Ab} (h1 : a.fd.length < N) (h2 : a.fa.length < N) (h3 : a.fe.length < N) (h4 : 3 < N) : CK N a b = some (GD a b) := by
 unfold CK
 rw [Ov h1 hN, Ov h2 hN, R3 h3 hN]
 simp only [oS]
 rw [WX (by simp; omega) hN]
 rfl
theorem Vw {N : Nat} (hN : N ≤ 1000000) (h20 : 1010 ≤ N) {p : Aa} (hp : A2 p) (l : List Ab) (hl : l.length ≤ 1000) (hm : ∀ x, x ∈ l → BI p x) :
  ∃ r : List Ab, Ce N l (fun (x : Ab × Ab) => CK N x.1 x.2) = some r ∧ r.Perm l ∧ r.Pairwise (fun x y => GD x y ≤ 0) := by
 have hcmp : ∀ x y : Ab, BI p x → BI p y → (fun (x : Ab × Ab) => CK N x.1 x.2) (x, y) = some (GD x y) := fun x y hx _ => by
  have := hp.nv
  have := hp.nt
  exact Sr hN (by rw [hx.base]; omega) (by rw [hx.next]; omega) (by rw [hx.held]; omega) (by omega)
 obtain ⟨r1, s1, s2, s3⟩ := Qc (cmp := fun (x : Ab × Ab) => CK N x.1 x.2) OX hcmp (bq := KU) (fun x y _ _ h => by rw [H2 h]; simp [KU]) l (by omega) hm
 unfold Ce
 exact ⟨r1, s1, s2, s3⟩
end Go.Lift
namespace Go.Lift
open IntKind renaming wrap → wI
open Option renaming bind_some → oS
open List renaming mem_of_getElem? → lM
open List renaming getElem?_eq_some_iff → lI
open List renaming getD_eq_getElem?_getD → lD
open Go
theorem MV (N : Nat) (hN : N ≤ 1000000) (h20 : 100 ≤ N) {p : Aa} {m : Ab} (hp : A2 p) (hm : BI p m) : F9 N m = some (CP (Lz m)) := by
 have hnv := hp.nv
 have hnt := hp.nt
 have hb := hm.base
 have hn := hm.next
 have hh := hm.held
 unfold F9
 have l1 := Fr (Ep N m fun v2 => Dv N m (fun v8 => some (CP v8)) N (v2, 0)) (fun a i => (a, i)) m.fd (fun v2 => Dv N m (fun v8 => some (CP v8)) N (v2, 0)) (Gv m) 2 100
  (fun i x hx => by simp [Gv])
  (fun n i x a hx hl => by
   have hi := (lI.1 hx).1
   rw [Ep, AD (by simp only; omega)]
   simp only [AU, hx, oS, AE (show i < 1000000 by omega)]
   have e2 : m.fa[i]? = some (m.fa.getD i 0) := by rw [lD]; simp [show i < m.fa.length by omega]
   rw [e2]
   simp only [oS]
   rw [Aq (by simp [Dw]; simp [Gv] at hl; omega)]
   rfl)
  (fun n a => by rw [Ep, AA (by simp)]) N [] (by omega) (by simp; omega)
 have l1' : Ep N m (fun v2 => Dv N m (fun v8 => some (CP v8)) N (v2, 0)) N ([], 0) = _ := l1
 rw [l1', zG1]
 have hfl : (Cy (Gv m) 0 m.fd).length ≤ 2 * m.fd.length := Ft fun j x hx => by simp [Gv]
 have l2 := Fr (Dv N m fun v9 => some (CP v9)) (fun a i => (a, i)) m.fe (fun v9 => some (CP v9)) (fun _ x => [x]) 1 100
  (fun i x hx => by simp)
  (fun n i x a hx hl => by
   have hi := (lI.1 hx).1
   rw [Dv, AD (by simp only; omega)]
   simp only [AU, hx, oS, AE (show i < 1000000 by omega)]
   rw [Aq (by simp [Dw]; simp at hl; omega)])
  (fun n a => by rw [Dv, AA (by simp)]) N (Cy (Gv m) 0 m.fd) (by omega) (by omega)
 have e3 : ∀ (i : Nat) (l : List Int), Cy (fun _ (x : Int) => [x]) i l = l := by
  intro i l
  induction l generalizing i with
  | nil => rfl
  | cons x l ih => rw [Cy, ih]; rfl
 refine l2.trans ?_
 rw [e3]; rfl
def RN (q : List Ab) : List (ByteArray × Bool) := q.map fun x => (CP (Lz x), true)
theorem VA {p : Aa} (hp : A2 p) {x y : Ab} (hx : BI p x) (hy : BI p y) : (CP (Lz x) == CP (Lz y)) = decide (x = y) := by
 by_cases h : x = y
 ·rw [decide_eq_true h, h, QT]
 ·rw [decide_eq_false h]
  cases hb : CP (Lz x) == CP (Lz y)
  ·rfl
  ·exact absurd (X3 hp hx hy hb) h
theorem Nj {p : Aa} (hp : A2 p) {x : Ab} (hx : BI p x) : ∀ {q : List Ab}, (∀ e, e ∈ q → BI p e) → JQ (CP (Lz x)) (RN q) = if q.any (fun y => decide (y = x)) = true then some true else none
 | [], _ => rfl
 | e :: q, h => by
  have ih := Nj hp hx (q := q) fun e he => h e (zJ3 _ he)
  show (if (CP (Lz x) == CP (Lz e)) = true then some true else JQ (CP (Lz x)) (RN q)) = _
  rw [VA hp hx (h e (by simp)), ih, List.any_cons]
  by_cases h : x = e
  ·rw [decide_eq_true h, if_pos rfl, decide_eq_true h.symm, Bool.true_or, if_pos rfl]
  ·rw [decide_eq_false h, if_neg (by simp), decide_eq_false (fun e' => h e'.symm), zH9]
theorem VR (q : List Ab) (x : Ab) : RN (q ++ [x]) = RN q ++ [(CP (Lz x), true)] := by simp [RN]
theorem WS {N : Nat} (hN : N ≤ 1000000) (h20 : 100 ≤ N) {p : Aa} (hp : A2 p) {m : Ab} {most i : Nat} (hmo : most ≤ 20000) (ss : List Ah) (qs : List (Ah × Ab)) (hqs : ∀ q, q ∈ qs → BI p q.2 ∧ BF p q.2 = true) (hsl : qs.length ≤ 1000) (j : List Ab × List (ByteArray × Bool) → Option (List Ab × Int)) :
  ∀ (n k : Nat) (l l' : List Ob), k ≤ qs.length → qs.length - k < n → (∀ n, n ∈ l → BI p n.1 ∧ BF p n.1 = true) → l.length ≤ most → Bfs.inner most i (qs.drop k) l = some l' →
   Eo N (ss, qs.map (·.2)) j n (CZ l, RN (CZ l), (k : Int)) = j (CZ l', RN (CZ l'))
 | 0, k, l, l', _, h, _, _, _ => by omega
 | n + 1, k, l, l', hk, h, hA, hlm, hin => by
  rw [Eo]
  by_cases h1 : k < qs.length
  ·have hs : qs[k]? = some qs[k] := by simp [h1]
   obtain ⟨hxo, hxr⟩ := hqs _ (lM hs)
   rw [Dg hs] at hin
   simp only [Bfs.inner] at hin
   rw [AD (by simp only; rw [zC2]; omega)]
   simp only [Bc, AU, zA6, hs, zE8, oS]
   rw [MV N hN h20 hp hxo]
   simp only [oS]
   have hok : ∀ x, x ∈ CZ l → BI p x := fun x hx => by obtain ⟨q, h1, rfl⟩ := GF.1 hx; exact (hA q h1).1
   rw [Nj hp hxo hok]
   have hany : ((CZ l).any fun y => decide (y = qs[k].2)) = l.any fun n => decide (n.1 = qs[k].2) := by
    unfold CZ; rw [List.any_map]; rfl
   rw [hany]
   have hput : Bfs.put i l qs[k] = if (l.any fun n => decide (n.1 = qs[k].2)) = true then l else l ++ [(qs[k].2, (i : Int), qs[k].1)] := rfl
   split at hin
   ·cases hin
   ·rename_i hb
    have hA2 : ∀ n, n ∈ Bfs.put i l qs[k] → BI p n.1 ∧ BF p n.1 = true := fun n hn => by
     rcases Rq hn with h | h
     ·exact hA n h
     ·rw [h]; exact ⟨hxo, hxr⟩
    have main := WS hN h20 hp (m := m) hmo ss qs hqs hsl j n (k + 1) (Bfs.put i l qs[k]) l' (by omega) (by omega) hA2 (by omega) hin
    cases ha : (l.any fun n => decide (n.1 = qs[k].2))
    ·rw [ha] at hput
     rw [if_neg (by simp)] at hput ⊢
     simp only [Option.getD_none, zE0, AI]
     rw [Aq (by rw [FU]; simp [Dw]; omega), AE (by omega)]
     have e : CZ l ++ [qs[k].2] = CZ (Bfs.put i l qs[k]) := by rw [hput]; simp [CZ]
     rw [Lj _ _ (by rw [Nj hp hxo hok, hany, ha, if_neg (by simp)]), ← VR, e]
     exact main
    ·rw [ha] at hput
     rw [if_pos rfl] at hput ⊢
     simp only [zC9, zB7, Am]
     rw [AE (by omega)]
     rw [hput] at main
     exact main
  ·have : k = qs.length := by omega
   subst this
   rw [zB3 (zB4 _)] at hin
   cases hin
   rw [AA (by simp)]
theorem Sf {N : Nat} (hN : N ≤ 1000000) (h20 : 100 ≤ N) {p : Aa} (hv : By p = 0) {most : Nat} (hmo : most ≤ 20000) (j : List Ab → Option (List Ab × Int)) :
  ∀ (n i : Nat) (l l' : List Ob), i ≤ l.length → (∀ n, n ∈ l → BI p n.1 ∧ BF p n.1 = true) → l.length ≤ most → Bfs.go (IZ p) most n i l = some l' →
   DX N p j n (CZ l, RN (CZ l), (i : Int)) = j (CZ l')
 | 0, i, l, l', hi, _, hlm, hg => by cases hg
 | n + 1, i, l, l', hi, hA, hlm, hg => by
  obtain ⟨hp, _⟩ := Cd hv
  simp only [Bfs.go] at hg
  rw [DX]
  by_cases h1 : i < l.length
  ·obtain ⟨⟨m, f, t⟩, hx⟩ := Bfs.get_ex h1
   have hm := (hA _ (lM hx)).1
   rw [hx] at hg
   simp only at hg
   cases hin : Bfs.inner most i (IZ p m) l with
   | none => rw [hin] at hg; cases hg
   | some l1 =>
    rw [hin] at hg
    simp only [oS] at hg
    rw [AD (by simp only; rw [FU]; omega)]
    simp only [AU, Oz hx, oS]
    rw [XU N hN h20 hv hm]
    simp only [oS]
    have hsl := Xq hp m
    have e := WS hN h20 hp (m := m) hmo ((IZ p m).map (·.1)) (IZ p m) (fun q hq => Ps hp hm hq) (by omega) (fun (v12 : (List Ab) × (List (ByteArray × Bool))) =>
     AP ((decide (20000 < (v12.1.length : Int)))) (some (([] : List Ab), 3)) (DX N p j n (v12.1, v12.2, (wI .i64 ((i : Int) + 1))))) N 0 l l1 (zB2 _) (by omega) hA hlm (by rw [zC0]; exact hin)
    refine e.trans ?_
    have hk := J5 hin (fun q hq => Ps hp hm hq) hA
    have hl1 := Bfs.inner_len _ _ _ hlm hin
    simp only
    rw [AA (by rw [FU]; omega), AE (by omega)]
    exact Sf hN h20 hv hmo j n (i + 1) l1 l' (by have := Bfs.lt_get (hk.2 i _ hx); omega) hk.1 hl1 hg
  ·have : l[i]? = none := by rw [zB9]; omega
   rw [this] at hg
   cases hg
   rw [AA (by simp only; rw [FU]; omega)]
theorem UL {p : Aa} {m : Ab} {l : List Ob} {ws : List (List Ah)} (h : YE p m l ws) : (CZ l).Nodup := by
 rw [List.Nodup, zH7]
 intro a b ha hb hab e
 have h1 : (CZ l)[a]? = some (CZ l)[a] := by simp [ha]
 have h2 : (CZ l)[b]? = some (CZ l)[b] := by simp [hb]
 unfold CZ at h1 h2
 rw [zA6] at h1 h2
 cases ha' : l[a]? with
 | none => rw [ha'] at h1; cases h1
 | some x =>
  cases hb' : l[b]? with
  | none => rw [hb'] at h2; cases h2
  | some y =>
   rw [ha'] at h1; rw [hb'] at h2
   simp only [zE8, Option.some.injEq] at h1 h2
   obtain ⟨x1, x2, x3⟩ := x
   obtain ⟨y1, y2, y3⟩ := y
   simp only at h1 h2
   have : x1 = y1 := by rw [h1, h2]; exact e
   subst this
   exact absurd (h.inv.nodup a b _ _ _ _ _ ha' hb') (by omega)
theorem Tt {p : Aa} {m : Ab} {l : List Ob} {ws : List (List Ah)} (h : YE p m l ws) {r : List Ab} (hp1 : r.Perm (CZ l)) (hp2 : r.Pairwise (fun x y => GD x y ≤ 0)) : r = Cp [] (CZ l) := by
 have hn : r.Nodup := hp1.nodup_iff.2 (UL h)
 refine Ox OX _ _ (U7 OX (fun x y h => H2 h) r hp2 hn) (If List.Pairwise.nil) fun x => ?_
 rw [hp1.mem_iff, HZ]
 simp
theorem Oa {N : Nat} (hN : N ≤ 1000000) (h20 : 1010 ≤ N) {p : Aa} (hv : By p = 0) {most : Nat} (h1 : 1 ≤ most) (hmo : most ≤ 1000) :
  (BF p (Dt p) = false → E0 N p = some ([], 0)) ∧
  (BF p (Dt p) = true → ∀ l, LW p (Dt p) most N = some l → E0 N p = some (Cp [] (CZ l), 0)) := by
 obtain ⟨hp, _⟩ := Cd hv
 have hs := ME hv
 have est : Gy N p = some (Dt p, BF p (Dt p), 0) := by
  unfold Gy
  rw [Rb N p hN (by omega), if_pos hv, hv]
  simp only [oS, bne_self_eq_false, Am]
  rw [LQ N p _ hN (by omega) (Kx hs) (Ij hv hs)]
  rfl
 unfold E0
 rw [est]
 simp only [oS, Bc, bne_self_eq_false, Am]
 refine ⟨fun hr => by rw [hr]; rfl, fun hr l hg => ?_⟩
 rw [hr]
 simp only [zB7, Am]
 rw [MV N hN (by omega) hp hs]
 simp only [oS]
 have e := Sf hN (by omega) hv (by omega : most ≤ 20000) (fun (v7 : (List Ab)) =>
    (Ce N v7 ((fun (x : Ab × Ab) => CK N x.1 x.2))).bind fun v21 =>
    some (v21, 0)) N 0 [(Dt p, -1, Ss)] l (zB2 _) (MN hs hr) (by simpa using h1) hg
 refine Eq.trans e ?_
 obtain ⟨ws, hreg⟩ := Tq hp hs hr hg
 have hA := Lp hp _ _ _ _ hg (MN hs hr)
 have hl := Bfs.go_len _ _ _ _ (by simpa using h1) hg
 obtain ⟨r, e1, e2, e3⟩ := Vw hN h20 hp (CZ l) (by rw [FU]; omega) (fun x hx => by obtain ⟨q, h1, rfl⟩ := GF.1 hx; exact (hA q h1).1)
 rw [e1]
 simp only [oS]
 rw [Tt hreg e2 e3]
structure ZD (m : Ab) : Prop where
 base : m.fd.length ≤ 100
 next : m.fa.length ≤ 100
 held : m.fe.length ≤ 100
 u8 : LL JT m.fe
theorem BI.lok {p : Aa} (hp : A2 p) {m : Ab} (h : BI p m) : ZD m := by
 have hnv := hp.nv
 have hnt := hp.nt
 exact ⟨by rw [h.base]; omega, by rw [h.next]; omega, by rw [h.held]; omega, Kx h⟩
theorem Xd {N : Nat} (hN : N ≤ 1000000) (h20 : 1010 ≤ N) {a b : Ab} (ha : ZD a) (hb : ZD b) : B3 N a b = some (GD a b) :=
 NV hN (by have := ha.base; omega) (by have := ha.next; omega) (by have := ha.held; omega) (by have := hb.held; omega) ha.u8 hb.u8
def Gn (x : Ab) : List Ab → Nat
 | [] => 0
 | y :: ys => if GD y x < 0 then Gn x ys + 1 else 0
def L7 (x : Ab) : List Ab → Bool
 | [] => false
 | y :: ys => if GD y x < 0 then L7 x ys else GD y x == 0
theorem PT (x : Ab) : ∀ l : List Ab, Gn x l ≤ l.length
 | [] => zB4 _
 | y :: ys => by
  have := PT x ys
  simp only [Gn]; split
  ·simp only [zC6]; omega
  ·omega
theorem SN (x : Ab) : ∀ l : List Ab, L7 x l = match l[Gn x l]? with
  | none => false
  | some y => GD y x == 0
 | [] => rfl
 | y :: ys => by
  simp only [Gn, L7]
  split
  ·rw [List.getElem?_cons_succ]; exact SN x ys
  ·rfl
theorem LI {x : Ab} : ∀ {l : List Ab}, Hm GD l → L7 x l = decide (x ∈ l)
 | [], _ => by simp [L7]
 | y :: ys, h => by
  obtain ⟨h1, h2⟩ := zD3.1 h
  simp only [L7]
  split
  ·rename_i hy
   rw [LI h2]
   have : y ≠ x := fun e => by rw [e, Lh] at hy; omega
   rw [zJ8, decide_eq_true_eq, decide_eq_true_eq, zB0]
   exact ⟨.inr, fun h => h.resolve_left fun e => this e.symm⟩
  ·rename_i hy
   rw [zJ8, beq_iff_eq, decide_eq_true_eq, zB0]
   constructor
   ·intro e; exact .inl (H2 e).symm
   ·rintro (rfl | hx)
    ·exact Lh _
    ·exact absurd (h1 x hx) hy
theorem QC {x : Ab} : ∀ {l : List Ab}, Hm GD l → x ∉ l → l.take (Gn x l) ++ [x] ++ l.drop (Gn x l) = KF x l
 | [], _, _ => rfl
 | y :: ys, h, hx => by
  obtain ⟨h1, h2⟩ := zD3.1 h
  have hne : GD y x ≠ 0 := fun e => hx (by rw [H2 e]; simp)
  simp only [Gn, KF]
  rw [if_neg hne]
  split
  ·rename_i hy
   rw [if_neg (by omega)]
   simp only [List.take_succ_cons, List.drop_succ_cons, zI2]
   rw [QC h2 fun h => hx (by simp [h])]
  ·rename_i hy
   rw [if_pos (by omega)]; rfl
theorem OG {N : Nat} (hN : N ≤ 1000000) (h20 : 1010 ≤ N) {x : Ab} (hx : ZD x) (l : List Ab) (hl : l.length ≤ 100000) (hA : ∀ y, y ∈ l → ZD y) (J : Int → Option (Int × Bool)) : ∀ (n i : Nat), l.length - i < n → i ≤ l.length →
  De N l x J n (i : Int) = J (((i + Gn x (l.drop i) : Nat)) : Int)
 | 0, i, h, _ => by omega
 | n + 1, i, h, hi => by
  rw [De]
  simp only [Bc]
  by_cases h1 : i < l.length
  ·have hy : l[i]? = some l[i] := by simp [h1]
   rw [AD (by omega), Dg hy]
   simp only [AU, hy, oS]
   rw [Xd hN h20 (hA _ (lM hy)) hx]
   simp only [oS, Gn]
   by_cases e : GD l[i] x < 0
   ·rw [AD e, if_pos e, AE (by omega), OG hN h20 hx l hl hA J n (i + 1) (by omega) (by omega)]
    rw [show i + 1 + Gn x (l.drop (i + 1)) = i + (Gn x (l.drop (i + 1)) + 1) from by omega]
   ·rw [AA e, if_neg e]; rfl
  ·rw [AA (by omega), Am, zB3 (by omega)]
   rfl
theorem V1 {N : Nat} (hN : N ≤ 1000000) (h20 : 1010 ≤ N) {x : Ab} (hx : ZD x) (l : List Ab) (hl : l.length ≤ 100000) (hl2 : l.length < N) (hA : ∀ y, y ∈ l → ZD y) : EJ N l x = some (((Gn x l : Nat) : Int), L7 x l) := by
 unfold EJ
 have e := OG hN h20 hx l hl hA (fun (v2 : Int) =>
  Bf (fun (v8 : Bool) =>
   some (v2, v8))
  fun j8 =>
  AP ((decide (v2 < (l.length : Int))))
   ((Bx l v2).bind fun v10 =>
   (B3 N v10 x).bind fun v11 =>
   j8 (v11 == 0))
   (j8 false)) N 0 (by omega) (zB2 _)
 refine Eq.trans e ?_
 simp only [Bc, zC0, zA1]
 rw [SN]
 cases hx2 : l[Gn x l]? with
 | none =>
  have : l.length ≤ Gn x l := List.getElem?_eq_none_iff.1 hx2
  rw [AA (by omega)]
 | some y =>
  have := (lI.1 hx2).1
  rw [AD (by omega)]
  simp only [AU, hx2, oS]
  rw [Xd hN h20 (hA _ (lM hx2)) hx]
  rfl
theorem RB (a xs : List Ab) (x : Ab) : Cp a (xs ++ [x]) = KF x (Cp a xs) := by
 induction xs generalizing a with
 | nil => rfl
 | cons y xs ih => exact ih (KF y a)
theorem VP {N : Nat} (hN : N ≤ 1000000) (h20 : 1010 ≤ N) {p : Aa} (hp : A2 p) {m : Ab} (hm : BI p m) {f : Int} {t : Ah} {most i : Nat} (hmo : most ≤ 20000) (hmN : most < N) {v4 : List Ab × List Ab × Int} (hv4 : v4.2.2 = (i : Int)) (ss : List Ah) (hss : ∀ s, s ∈ ss → s ∈ Eb p m) (hsl : ss.length ≤ 1000) (j : List Ab × List Ab → Option (List Ab × Bool)) :
  ∀ (n k : Nat) (l : List Ob), k ≤ ss.length → ss.length - k < n → l[i]? = some (m, f, t) → (∀ n, n ∈ l → BI p n.1 ∧ BF p n.1 = true) → l.length ≤ most →
   B6 N p (most : Int) v4 ss j n (CZ l, Cp [] (CZ l), (k : Int)) = match Bfs.inner most i (S8 p m (ss.drop k)) l with
    | none => some ([], false)
    | some l' => j (CZ l', Cp [] (CZ l'))
 | 0, k, l, _, h, _, _, _ => by omega
 | n + 1, k, l, hk, h, hi, hA, hlm => by
  have hlen : (Cp [] (CZ l)).length ≤ l.length := by
   have := Kk (CZ l) []
   rw [FU] at this; simpa using this
  have hmem : ∀ x, x ∈ Cp [] (CZ l) ↔ x ∈ CZ l := fun x => by rw [HZ]; simp
  have hok : ∀ x, x ∈ CZ l → BI p x := fun x hx => by obtain ⟨q, h1, rfl⟩ := GF.1 hx; exact (hA q h1).1
  have hstr : Hm GD (Cp [] (CZ l)) := If List.Pairwise.nil
  by_cases h1 : k < ss.length
  ·have hs : ss[k]? = some ss[k] := by simp [h1]
   have hsm := hss _ (lM hs)
   have hxo := Lm hp hm (JY hsm).2
   obtain ⟨b, ea⟩ := QR N hN (by omega) hp hm hsm
   rw [B6, AD (by simp only; omega)]
   simp only [Bc, hv4, AU, Oz hi, hs, oS]
   rw [ea]
   simp only [oS]
   rw [V1 hN h20 (hxo.lok hp) (Cp [] (CZ l)) (by omega) (by omega) (fun y hy => (hok y ((hmem y).1 hy)).lok hp), LI hstr]
   simp only [oS]
   rw [Dg hs, RP]
   have hput : Bfs.put i l (ss[k], (A6 p m ss[k]).1) = if (l.any fun n => decide (n.1 = (A6 p m ss[k]).1)) = true then l else l ++ [((A6 p m ss[k]).1, (i : Int), ss[k])] := rfl
   have hany : (l.any fun n => decide (n.1 = (A6 p m ss[k]).1)) = decide ((A6 p m ss[k]).1 ∈ Cp [] (CZ l)) := by
    rw [zJ8, decide_eq_true_eq, hmem, zF0, GF]
    exact ⟨fun ⟨n, h1, h2⟩ => ⟨n, h1, of_decide_eq_true h2⟩, fun ⟨n, h1, h2⟩ => ⟨n, h1, decide_eq_true h2⟩⟩
   have next : ∀ (l' : List Ob), l'[i]? = some (m, f, t) → (∀ n, n ∈ l' → BI p n.1 ∧ BF p n.1 = true) → l'.length ≤ most →
     B6 N p (most : Int) v4 ss j n (CZ l', Cp [] (CZ l'), wI .i64 ((k : Int) + 1)) = match Bfs.inner most i (S8 p m (ss.drop (k + 1))) l' with
     | none => some ([], false)
     | some l' => j (CZ l', Cp [] (CZ l')) := fun l' a1 a2 a3 => by
    rw [AE (by omega)]
    exact VP hN h20 hp hm hmo hmN hv4 ss hss hsl j n (k + 1) l' (by omega) (by omega) a1 a2 a3
   rw [hany] at hput
   by_cases hin : (A6 p m ss[k]).1 ∈ Cp [] (CZ l)
   ·rw [decide_eq_true hin, AI, AI]
    rw [decide_eq_true hin, if_pos rfl] at hput
    rw [next l hi hA hlm]
    cases BF p (A6 p m ss[k]).1
    ·rfl
    ·rw [if_pos rfl]
     simp only [Bfs.inner]
     rw [hput, if_neg (by omega)]
   ·rw [decide_eq_false hin, Am, LJ N p _ hN (by omega) hp hxo]
    simp only [oS]
    rw [decide_eq_false hin, if_neg (by simp)] at hput
    cases hr : BF p (A6 p m ss[k]).1
    ·rw [zE0, AI, if_neg (by simp)]
     exact next l hi hA hlm
    ·rw [zB7, Am, if_pos rfl]
     have hpl := PT (A6 p m ss[k]).1 (Cp [] (CZ l))
     simp only [zA9, Nat.sub_zero, zC0, zG1]
     rw [Aq (by rw [FU]; simp [Dw]; omega), Aq ⟨by omega, by omega, hpl⟩, Aq (by simp [Dw]; omega), Aq (by simp [Dw]; omega), Aq ⟨by omega, hpl, zB4 _⟩, Aq (by simp [Dw]; omega)]
     have ht : ((Cp [] (CZ l)).drop (Gn (A6 p m ss[k]).1 (Cp [] (CZ l)))).take ((Cp [] (CZ l)).length - Gn (A6 p m ss[k]).1 (Cp [] (CZ l))) = (Cp [] (CZ l)).drop (Gn (A6 p m ss[k]).1 (Cp [] (CZ l))) := zJ5 (by rw [List.length_drop]; omega)
     rw [ht, QC hstr hin]
     have e : CZ l ++ [(A6 p m ss[k]).1] = CZ (Bfs.put i l (ss[k], (A6 p m ss[k]).1)) := by rw [hput]; simp [CZ]
     have e2 : KF (A6 p m ss[k]).1 (Cp [] (CZ l)) = Cp [] (CZ (Bfs.put i l (ss[k], (A6 p m ss[k]).1))) := by rw [← e, RB]
     rw [e, e2]
     simp only [Bfs.inner]
     by_cases hb : most < (Bfs.put i l (ss[k], (A6 p m ss[k]).1)).length
     ·rw [if_pos hb, AD (by rw [FU]; omega)]
     ·rw [if_neg hb, AA (by rw [FU]; omega)]
      refine next _ (RS hi) (fun n hn => ?_) (by omega)
      rcases Rq hn with h | h
      ·exact hA n h
      ·rw [h]; exact ⟨hxo, hr⟩
  ·have : k = ss.length := by omega
   subst this
   rw [B6, AA (by simp), zB3 (zB4 _)]
   rfl
theorem Su {N : Nat} (hN : N ≤ 1000000) (h20 : 1010 ≤ N) {p : Aa} (hv : By p = 0) {most : Nat} (hmo : most ≤ 20000) (hmN : most < N) (j : List Ab → Option (List Ab × Bool)) :
  ∀ (n i : Nat) (l : List Ob), i ≤ l.length → (∀ n, n ∈ l → BI p n.1 ∧ BF p n.1 = true) → l.length ≤ most → most < n + i →
   CB N p (most : Int) j n (CZ l, Cp [] (CZ l), (i : Int)) = match Bfs.go (IZ p) most n i l with
    | none => some ([], false)
    | some l' => j (Cp [] (CZ l'))
 | 0, i, l, hi, _, hlm, hfu => by omega
 | n + 1, i, l, hi, hA, hlm, hfu => by
  obtain ⟨hp, _⟩ := Cd hv
  simp only [Bfs.go]
  rw [CB]
  by_cases h1 : i < l.length
  ·obtain ⟨⟨m, f, t⟩, hx⟩ := Bfs.get_ex h1
   have hm := (hA _ (lM hx)).1
   rw [hx]
   simp only
   rw [AD (by rw [FU]; omega)]
   simp only [AU, Oz hx, oS]
   rw [QZ N hN (by omega) hv hm]
   simp only [oS]
   have hsl := UV hp m
   have e := VP hN h20 hp hm hmo hmN (v4 := (CZ l, Cp [] (CZ l), (i : Int))) rfl (Eb p m) (fun s hs => hs) (by omega) (fun (v10 : (List Ab) × (List Ab)) => CB N p (most : Int) j n (v10.1, v10.2, (wI .i64 ((i : Int) + 1)))) N 0 l (zB2 _) (by omega) hx hA hlm
   rw [zC0, show S8 p m (Eb p m) = IZ p m from rfl] at e
   refine e.trans ?_
   cases hin : Bfs.inner most i (IZ p m) l with
   | none => rfl
   | some l1 =>
    simp only [oS]
    rw [AE (by omega)]
    have hk := J5 hin (fun q hq => Ps hp hm hq) hA
    exact Su hN h20 hv hmo hmN j n (i + 1) l1 (by have := Bfs.lt_get (hk.2 i _ hx); omega) hk.1 (Bfs.inner_len _ _ _ hlm hin) (by omega)
  ·have : l[i]? = none := by rw [zB9]; omega
   rw [this, AA (by simp only; rw [FU]; omega)]
theorem Mn {N : Nat} (hN : N ≤ 1000000) (h20 : 1010 ≤ N) {p : Aa} (hv : By p = 0) {most : Nat} (h1 : 1 ≤ most) (hmo : most ≤ 20000) (hmN : most < N) :
  C2 N p (most : Int) = some (if BF p (Dt p) = true then (match LW p (Dt p) most N with
   | none => ([], false)
   | some l => (Cp [] (CZ l), true)) else ([], true)) := by
 obtain ⟨hp, _⟩ := Cd hv
 have hs := ME hv
 unfold C2
 rw [QE N p hN (by omega), if_pos hv]
 simp only [oS]
 rw [LJ N p _ hN (by omega) hp hs]
 simp only [oS]
 cases hr : BF p (Dt p)
 ·rfl
 ·rw [zB7, Am, if_pos rfl]
  have e := Su hN h20 hv hmo hmN (fun (v5 : (List Ab)) => some (v5, true)) N 0 [(Dt p, -1, Ss)] (zB2 _) (MN hs hr) (by simpa using h1) (by omega)
  refine e.trans ?_
  show (match LW p (Dt p) most N with | none => _ | some l' => _) = _
  cases LW p (Dt p) most N <;> rfl
theorem MA {N : Nat} (hN : N ≤ 1000000) (h20 : 100 ≤ N) {p : Aa} (l : List Ab) (hl : l.length ≤ 100000) (hA : ∀ x, x ∈ l → LL JT x.fe) : ∀ (n i : Nat), l.length - i < n → i ≤ l.length →
  CV N p l (fun _ => some false) n (i : Int) = some ((l.drop i).any (IF p))
 | 0, i, h, _ => by omega
 | n + 1, i, h, hi => by
  rw [CV]
  by_cases h1 : i < l.length
  ·have hy : l[i]? = some l[i] := by simp [h1]
   rw [AD (by omega), Dg hy]
   simp only [AU, hy, oS, List.any_cons]
   rw [SM N p _ hN h20 (hA _ (lM hy))]
   simp only [oS]
   cases IF p l[i]
   ·rw [Am, AE (by omega), MA hN h20 l hl hA n (i + 1) (by omega) (by omega), zH9]
   ·rfl
  ·rw [AA (by omega), zB3 (by omega)]; rfl
theorem TW {N : Nat} (hN : N ≤ 1000000) (h20 : 100 ≤ N) {p : Aa} (l : List Ab) (hl : l.length ≤ 100000) (hl2 : l.length < N) (hA : ∀ x, x ∈ l → LL JT x.fe) : Eg N p l = some (l.any (IF p)) := by
 unfold Eg
 have := MA hN h20 (p := p) l hl hA N 0 (by omega) (zB2 _)
 rw [zC0] at this
 exact this
theorem My {N : Nat} (hN : N ≤ 1000000) (l : List Ab) (hl : l.length ≤ 100000) (hl2 : l.length < N) (f : Ab → Option Bool) (g : Ab → Bool) (hf : ∀ x, x ∈ l → f x = some (g x)) : Bh N l f = some (l.any g) := by
 have key : ∀ (n i : Nat), l.length - i < n → i ≤ l.length → ∃ r, A3 N l f (fun _ => some (-1)) n (i : Int) = some r ∧ decide (0 ≤ r) = (l.drop i).any g := by
  intro n
  induction n with
  | zero => intro i h; omega
  | succ n ih =>
   intro i h hi
   rw [A3]
   by_cases h1 : i < l.length
   ·have hy : l[i]? = some l[i] := by simp [h1]
    rw [AD (by omega), Dg hy]
    simp only [AU, hy, oS, List.any_cons]
    rw [hf _ (lM hy)]
    simp only [oS]
    cases g l[i]
    ·rw [Am, AE (by omega)]
     obtain ⟨r, e1, e2⟩ := ih (i + 1) (by omega) (by omega)
     exact ⟨r, e1, by rw [e2, zH9]⟩
    ·exact ⟨(i : Int), rfl, by rw [decide_eq_true (by omega)]; rfl⟩
   ·rw [AA (by omega), zB3 (by omega)]
    exact ⟨-1, rfl, rfl⟩
 obtain ⟨r, e1, e2⟩ := key N 0 (by omega) (zB2 _)
 unfold Bh CN
 have e1' : A3 N l f (fun _ => some (-1)) N 0 = some r := e1
 rw [e1']
 simp only [oS]
 rw [e2, zC0]
theorem WH {N : Nat} (hN : N ≤ 1000000) (h20 : 1010 ≤ N) {p : Aa} (hv : By p = 0) {A : List Ab} (hr : E0 N p = some (A, 0)) (hA : ∀ x, x ∈ A → BI p x) (hl : A.length ≤ 1000) : Fu N p = some (if A.any (IF p) = true then ([], 15) else (A, 0)) := by
 unfold Fu
 rw [hr]
 simp only [oS, bne_self_eq_false, Am]
 rw [My hN A (by omega) (by omega) _ (IF p) (fun x hx => by
  show Ek N x p.fb p.fh p.fi p.fc = _
  unfold Ek
  have e := Sx N p x hN (by omega) (Kx (hA x hx))
  rw [show (Aa.mk p.fb p.fh p.fi p.fc) = p from rfl, e]; rfl)]
 simp only [oS]
 cases A.any (IF p) <;> rfl
theorem XW {p : Aa} {m : Ab} {c : Ad} (h : c ∈ DY p m) : ∃ (i u : Nat) (t : An) (row : List Bool), p.fc[i]? = some t ∧ t.fk[u]? = some row ∧ c.fr = (i : Int) ∧ c.fq = (u : Int) ∧ (c.fu = -1 ∨ ∃ v : Nat, v < row.length ∧ c.fu = (v : Int)) := by
 obtain ⟨i, t, ht, h⟩ := D4.1 h
 obtain ⟨u, row, hr, h⟩ := D4.1 h
 refine ⟨i, u, t, row, ht, hr, ?_⟩
 simp only [zA1] at h
 split at h
 ·rcases zC5.1 h with h | h
  ·obtain ⟨v, b, hb, h⟩ := D4.1 h
   unfold gC at h
   split at h
   ·rw [zE1.1 h]
    refine ⟨rfl, rfl, .inr ⟨v, (lI.1 hb).1, ?_⟩⟩
    simp
   ·cases h
  ·split at h
   ·rw [zE1.1 h]; exact ⟨rfl, rfl, .inl rfl⟩
   ·cases h
 ·cases h
theorem SP {p : Aa} {l : List Ab} {c : Ad} (h : c ∈ (HG p l).map (·.fv)) : ∃ y, c ∈ DY p y := by
 obtain ⟨b, hb, rfl⟩ := zB8.1 h
 obtain ⟨j, m, _, hb⟩ := D4.1 hb
 obtain ⟨k, s, _, hb⟩ := D4.1 hb
 unfold Ku at hb
 split at hb
 ·rename_i y c hbl
  rw [zE1.1 hb]
  unfold Iw at hbl
  obtain ⟨q, z, _, hz⟩ := El hbl
  unfold JL at hz
  split at hz
  ·cases hz
  ·rename_i hc; cases hz; exact ⟨_, by rw [hc]; simp⟩
 ·cases hb
theorem UO {p : Aa} (hv : By p = 0) {l : List Ob} {ws : List (List Ah)} (hreg : YE p (Dt p) l ws) {A : List Ab} (hA : ∀ x, x ∈ A ↔ x ∈ CZ l) (hno : A.any (IF p) = false) : HG p A ≠ [] := by
 intro hb
 obtain ⟨hp, _⟩ := Cd hv
 have hrun : ∀ x, x ∈ A → ∃ w, KW p (Dt p) w = some x := fun x hx => by
  obtain ⟨q, h1, rfl⟩ := GF.1 ((hA x).1 hx)
  obtain ⟨k, hk⟩ := zA8.1 h1
  obtain ⟨u, hu⟩ := Bfs.get_ex (l := ws) (k := k) (by rw [hreg.inv.len]; exact Bfs.lt_get hk)
  exact ⟨u, Uj hp hreg (show l[k]? = some (q.1, q.2.1, q.2.2) from hk) hu⟩
 have hin : ∀ x w, KW p (Dt p) w = some x → x ∈ A := fun x w hw => by
  obtain ⟨k, f, s, _, h1, _⟩ := P1 hp hreg hw
  exact (hA x).2 (GF.2 ⟨_, lM h1, rfl⟩)
 have hok : ∀ x, x ∈ A → BI p x := fun x hx => by
  obtain ⟨q, h1, rfl⟩ := GF.1 ((hA x).1 hx)
  obtain ⟨k, hk⟩ := zA8.1 h1
  exact (hreg.ok k q.1 q.2.1 q.2.2 hk).1
 obtain ⟨x, hx, hg⟩ := NM hv (fun x => x ∈ A) hok (fun m s hm hs => by
  cases hbl : Iw p (A6 p m s).1 with
  | none =>
   have hr : BF p (A6 p m s).1 = true := by unfold BF; rw [hbl]; rfl
   obtain ⟨w, hw⟩ := hrun m hm
   refine hin _ (w ++ [s]) ?_
   have hq : ((s, (A6 p m s).1) : Ah × Ab) ∈ IZ p m := Ul.2 ⟨hs, rfl, hr⟩
   rw [NZ, hw]
   simp only [oS, KW]
   rw [Qo hp hq]; rfl
  | some yc =>
   exfalso
   obtain ⟨y, c⟩ := yc
   obtain ⟨j, hj⟩ := zA8.1 hm
   obtain ⟨k, hk⟩ := zA8.1 hs
   have : (⟨s, y, c⟩ : BD) ∈ HG p A := D4.2 ⟨j, m, hj, D4.2 ⟨k, s, hk, by unfold Ku; rw [hbl]; simp⟩⟩
   rw [hb] at this
   cases this) (Ts p (Dt p)) (Dt p) (zB4 _) (hin _ [] rfl)
 have : A.any (IF p) = true := zF0.2 ⟨x, hx, hg⟩
 rw [hno] at this
 cases this
theorem RW {p q : Aa} (hv : By p = 0) (h : Vp p q) {l l' : List Ob} {ws ws' : List (List Ah)} (hreg : YE p (Dt p) l ws) (hreg' : YE q (Dt q) l' ws') : ∀ x, x ∈ CZ l → x ∈ CZ l' := by
 intro x hx
 obtain ⟨hp, _⟩ := Cd hv
 obtain ⟨hq, _⟩ := Cd (show By q = 0 by rw [Ot h]; exact hv)
 obtain ⟨n, h1, rfl⟩ := GF.1 hx
 obtain ⟨k, hk⟩ := zA8.1 h1
 obtain ⟨u, hu⟩ := Bfs.get_ex (l := ws) (k := k) (by rw [hreg.inv.len]; exact Bfs.lt_get hk)
 have := P2 h u _ _ (Uj hp hreg (show l[k]? = some (n.1, n.2.1, n.2.2) from hk) hu)
 rw [← Pu h] at this
 obtain ⟨k', f, s, _, h2, _⟩ := P1 hq hreg' this
 exact GF.2 ⟨_, lM h2, rfl⟩
theorem Ng.setR {xs ys : List An} (h : Ng xs ys) {i u : Nat} {y : An} {row row' : List Bool} (hy : ys[i]? = some y) (hu : y.fk[u]? = some row) (hl : row'.length = row.length) (hm : ∀ v : Nat, row[v]? = some true → row'[v]? = some true) :
  Ng xs (ys.set i ⟨y.ff, y.fg, y.fm, y.ft, y.fk.set u row', y.fo⟩) := by
 refine ⟨by rw [zF8]; exact h.l, fun k x hx => ?_⟩
 obtain ⟨z, hz, ht⟩ := h.o k x hx
 by_cases e : i = k
 ·subst e
  rw [hy] at hz; cases hz
  have hi := (lI.1 hy).1
  refine ⟨⟨y.ff, y.fg, y.fm, y.ft, y.fk.set u row', y.fo⟩, by rw [zD8, if_pos rfl, if_pos hi], ⟨ht.k, ht.f, ht.t, ht.a, ht.r, by show (y.fk.set u row').length = _; rw [zF8]; exact ht.l, fun w r hw => ?_⟩⟩
  obtain ⟨r', e1, e2, e3⟩ := ht.o w r hw
  by_cases eu : u = w
  ·subst eu
   rw [hu] at e1; cases e1
   have hul := (lI.1 hu).1
   exact ⟨row', by show (y.fk.set u row')[u]? = _; rw [zD8, if_pos rfl, if_pos hul], by rw [hl]; exact e2, fun q hq => hm q (e3 q hq)⟩
  ·exact ⟨r', by show (y.fk.set u row')[w]? = _; rw [zD8, if_neg eu]; exact e1, e2, e3⟩
 ·exact ⟨z, by rw [zD8, if_neg e]; exact hz, ht⟩
theorem K5 (N : Nat) (v17 : List An × Int) (c : Ad) (t : An) (row0 : List Bool) (h6 : row0.length ≤ 1000) (J : List An → Option Bool) : ∀ (n k : Nat) (row : List Bool), row.length = row0.length → k ≤ row0.length → row0.length - k < n → (∀ v : Nat, row0[v]? = some true → row[v]? = some true) →
  ∃ row' : List Bool, row'.length = row0.length ∧ (∀ v : Nat, row0[v]? = some true → row'[v]? = some true) ∧ Bq N v17 c t row0 J n (row, (k : Int)) = J (v17.1.set c.fr.toNat ⟨t.ff, t.fg, t.fm, t.ft, t.fk.set c.fq.toNat row', t.fo⟩)
 | 0, _, _, _, _, h, _ => by omega
 | n + 1, k, row, hl, hk, hn, hm => by
  rw [Bq]
  by_cases h1 : k < row0.length
  ·rw [AD (by simp only; omega)]
   have hx : row[k]? = some (row[k]'(by omega)) := by simp [show k < row.length by omega]
   simp only [Bc, AU, hx, oS, zA9]
   rw [AE (by omega)]
   have hset : ∀ v : Nat, row0[v]? = some true → (row.set k true)[v]? = some true := fun v hv => by
    rw [zD8]
    by_cases e : k = v
    ·rw [if_pos e, if_pos (by omega)]
    ·rw [if_neg e]; exact hm v hv
   have i1 := K5 N v17 c t row0 h6 J n (k + 1) (row.set k true) (by rw [zF8]; exact hl) (by omega) (by omega) hset
   have i2 := K5 N v17 c t row0 h6 J n (k + 1) row hl (by omega) (by omega) hm
   by_cases hr : c.fu < 0
   ·rw [AD hr, AI]; exact i1
   ·rw [AA hr]
    cases hb : (c.fu == (k : Int))
    ·rw [Am]; exact i2
    ·rw [AI]; exact i1
  ·rw [AA (by simp only; omega)]
   exact ⟨row, hl, hm, rfl⟩
theorem Qs {N : Nat} (h20 : 100 ≤ N) {p : Aa} (hp : A2 p) (cs : List Ad) (e : Int) (hcs : ∀ c, c ∈ cs → ∃ y, c ∈ DY p y) (hl : cs.length ≤ 100000) (J : List An → Option Bool) : ∀ (n k : Nat) (ys : List An), k ≤ cs.length → cs.length - k < n → Ng p.fc ys →
  ∃ zs, Ng p.fc zs ∧ A7 N (cs, e) J n (ys, (k : Int)) = J zs
 | 0, _, _, _, h, _ => by omega
 | n + 1, k, ys, hk, hn, hy => by
  rw [A7]
  by_cases h1 : k < cs.length
  ·have hx : cs[k]? = some cs[k] := by simp [h1]
   obtain ⟨m, hm⟩ := hcs _ (lM hx)
   obtain ⟨i, u, t, row, ht, hr, c1, c2, c3⟩ := XW hm
   obtain ⟨y, r, y1, y2, y3⟩ := hy.row ht hr
   have hr6 := (Ll hp (Lb (hp.tab _ (lM ht)))).2 row (lM hr)
   have hil := (lI.1 y1).1
   have hul := (lI.1 y2).1
   rw [AD (by simp only; omega)]
   simp only [Bc, AU, hx, oS, c1, c2, y1, y2]
   rw [AA (by omega), AA (by omega), AA (by omega), AA (by omega), decide_eq_false (show ¬ ((r.length : Int) ≤ cs[k].fu) from by rcases c3 with c3 | ⟨v, hv, c3⟩ <;> omega), Am]
   obtain ⟨row', r1, r2, r3⟩ := K5 N (ys, (k : Int)) cs[k] y r (by omega) (fun v37 => A7 N (cs, e) J n (v37, wI .i64 ((k : Int) + 1))) N 0 r rfl (zB2 _) (by omega) (fun _ h => h)
   have r3' : Bq N (ys, (k : Int)) cs[k] y r (fun v37 => A7 N (cs, e) J n (v37, wI .i64 ((k : Int) + 1))) N (r, 0) = _ := r3
   rw [r3']
   simp only [c1, c2, zA9]
   rw [AE (by omega)]
   exact Qs h20 hp cs e hcs hl J n (k + 1) _ (by omega) (by omega) (hy.setR y1 y2 r1 r2)
  ·rw [AA (by simp only; omega)]
   exact ⟨ys, hy, rfl⟩
theorem Se {N : Nat} (hN : N ≤ 1000000) (p : Aa) (A B : List Ab) (b b2 : Bool) {q : Aa} (hq : A2 q) (hA : A.length ≤ 1000) (hB : B.length ≤ 1000) (hBN : 1010 ≤ N) (hAB : ∀ x, x ∈ A → x ∈ B) (hok : ∀ x, x ∈ B → BI q x) (J : Unit → Option Bool) : ∀ (n k : Nat), A.length - k < n → k ≤ A.length →
  Bs N (p, A, b) (B, b2) J n (k : Int) = J ()
 | 0, _, h, _ => by omega
 | n + 1, k, hn, hk => by
  rw [Bs]
  by_cases h1 : k < A.length
  ·have hx : A[k]? = some A[k] := by simp [h1]
   have hm := hAB _ (lM hx)
   rw [AD (by simp only; omega)]
   simp only [AU, hx, oS]
   rw [My hN B (by omega) (by omega) _ (fun x => decide (x = A[k])) (fun x hxB => by
    show BK N x _ _ _ = _
    unfold BK
    have e := WM hN (by omega) hq (hok x hxB) (hok _ hm)
    rw [show (Ab.mk A[k].fd A[k].fa A[k].fe) = A[k] from rfl, e]; rfl)]
   simp only [oS]
   rw [show (B.any fun x => decide (x = A[k])) = true from zF0.2 ⟨_, hm, decide_eq_true rfl⟩, zB7, Am, AE (by omega)]
   exact Se hN p A B b b2 hq hA hB hBN hAB hok J n (k + 1) (by omega) (by omega)
  ·rw [AA (by simp only; omega)]
theorem N6 (N : Nat) (hN : N ≤ 1000000) (h20 : 16300 ≤ N) (haw : D3 N = some true) (d : BJ) (wd : FD d) : Cr N d = some true := by
 obtain ⟨p, ok, e, hok⟩ := cF N d (by omega) (by omega) wd
 unfold Cr Fw
 rw [e]
 simp only [oS, Bc, haw, zB7, Am]
 cases ok
 ·simp only [zE0, AI, oS]
 simp only [zB7, Am]
 have hv := (hok rfl).valid
 obtain ⟨hp, _⟩ := Cd hv
 have hs := ME hv
 have e1 := Mn hN (by omega) hv (most := 300) (by omega) (by omega) (by omega)
 obtain ⟨_, e3⟩ := Oa hN (by omega) hv (most := 300) (by omega) (by omega)
 rw [show (300 : Int) = ((300 : Nat) : Int) from rfl, e1]
 simp only [oS]
 cases hr : BF p (Dt p)
 ·rw [if_neg (by simp)]
  simp only [zB7, Am]
  rfl
 rw [if_pos rfl]
 cases hg : LW p (Dt p) 300 N with
 | none => simp only [zE0, AI]
 | some l =>
  simp only [zB7, Am]
  obtain ⟨ws, hreg⟩ := Tq hp hs hr hg
  have hA := Lp hp _ _ _ _ hg (MN hs hr)
  have hl := Bfs.go_len _ _ _ _ (by simp) hg
  have hl2 : (Cp [] (CZ l)).length ≤ l.length := by
   have := Kk (CZ l) []
   rw [FU] at this; simpa using this
  have hmem : ∀ x, x ∈ Cp [] (CZ l) ↔ x ∈ CZ l := fun x => by rw [HZ]; simp
  have hA2 : ∀ x, x ∈ Cp [] (CZ l) → BI p x := fun x hx => by
   obtain ⟨n, h1, rfl⟩ := GF.1 ((hmem x).1 hx)
   exact (hA n h1).1
  have hst : Hm GD (Cp [] (CZ l)) := If List.Pairwise.nil
  rw [WH hN (by omega) hv (e3 hr l hg) hA2 (by omega), TW hN (by omega) _ (by omega) (by omega) (fun x hx => Kx (hA2 x hx))]
  simp only [oS]
  obtain ⟨A, hAe⟩ : ∃ A, Cp [] (CZ l) = A := ⟨_, rfl⟩
  rw [hAe] at hl2 hmem hA2 hst
  simp only [hAe]
  by_cases h0 : ((A.length : Int) == 0) = true
  ·rw [h0, AI, AI]
  rw [show ((A.length : Int) == 0) = false from by simpa using h0, Am]
  cases hno : A.any (IF p)
  ·simp only [Bool.false_eq_true, if_false, Am, bne_self_eq_false]
   have herr : MM p A = 0 := Y8 hv fun m hm => Ij hv (hA2 m hm)
   obtain ⟨r, r1, r2, _⟩ := ST N hN (by omega) p A (by omega) (by omega) (fun m hm => Kx (hA2 m hm))
   obtain ⟨r2, r3⟩ := r2 herr
   rw [r1]
   simp only [oS, herr, bne_self_eq_false, Am]
   have hb := UO hv hreg hmem hno
   have hbl := NE hp A
   have hne : r ≠ [] := fun hr0 => by
    cases hbb : HG p A with
    | nil => exact hb hbb
    | cons b bs =>
     have := (r3 b.fv).2 (by rw [hbb]; simp)
     rw [hr0] at this; cases this
   have hn0 : ((r.length : Int) == 0) = false := beq_eq_false_iff_ne.2 fun hh => hne (List.length_eq_zero_iff.1 (by omega))
   rw [hn0, Am, SA hN (by omega) hv]
   simp only [oS]
   have hnd : r.Nodup := r2.imp fun {a b} h => by
    intro e; subst e; have := TQ.self a; omega
   have hrl := Np r _ hnd (fun x hx => (r3 x).1 hx)
   rw [zC2] at hrl
   obtain ⟨zs, z1, z2⟩ := Qs (N := N) (by omega) hp r 0 (fun c hc => SP ((r3 c).1 hc)) (by omega) (fun (v18 : (List An)) =>
      (C2 N ((Aa.mk p.fb p.fh p.fi v18)) ((300 : Nat) : Int)).bind fun v44 =>
      AP ((!v44.2))
       (some true)
       (Bs N (p, A, true) v44 (fun (_ : Unit) =>
        some ((decide ((A.length : Int) ≤ (v44.1.length : Int))))) N 0)) N 0 p.fc (zB2 _) (by omega) (Ng.refl _)
   refine Eq.trans z2 ?_
   have hq : Vp p ⟨p.fb, p.fh, p.fi, zs⟩ := ⟨rfl, rfl, rfl, z1.l, z1.o⟩
   obtain ⟨q, hqe⟩ : ∃ q, (⟨p.fb, p.fh, p.fi, zs⟩ : Aa) = q := ⟨_, rfl⟩
   rw [hqe] at hq ⊢
   have hvq : By q = 0 := by rw [Ot hq]; exact hv
   obtain ⟨hpq, _⟩ := Cd hvq
   have hsq := ME hvq
   have hrq : BF q (Dt q) = true := by rw [Pu hq]; exact MP hq hr
   rw [Mn hN (by omega) hvq (most := 300) (by omega) (by omega) (by omega), if_pos hrq]
   cases hgq : LW q (Dt q) 300 N with
   | none => rfl
   | some l' =>
    obtain ⟨ws', hreg'⟩ := Tq hpq hsq hrq hgq
    have hA' := Lp hpq _ _ _ _ hgq (MN hsq hrq)
    have hl' := Bfs.go_len _ _ _ _ (by simp) hgq
    have hl2' : (Cp [] (CZ l')).length ≤ l'.length := by
     have := Kk (CZ l') []
     rw [FU] at this; simpa using this
    have hAB : ∀ x, x ∈ A → x ∈ Cp [] (CZ l') := fun x hx => by
     rw [HZ]; exact .inr (RW hv hq hreg hreg' x ((hmem x).1 hx))
    have hB : ∀ x, x ∈ Cp [] (CZ l') → BI q x := fun x hx => by
     rw [HZ] at hx
     obtain ⟨n, h1, rfl⟩ := GF.1 (hx.resolve_left (by simp))
     exact (hA' n h1).1
    simp only [oS, zB7, Am]
    have e5 := Se hN p A (Cp [] (CZ l')) true true hpq (by omega) (by omega) (by omega) hAB hB (fun (_ : Unit) => some ((decide ((A.length : Int) ≤ ((Cp [] (CZ l')).length : Int))))) N 0 (by omega) (zB2 _)
    refine Eq.trans e5 ?_
    have hnA : A.Nodup := hst.imp fun {a b} h => by
     intro e; subst e; have := OX.self a; omega
    have := Np A _ hnA hAB
    rw [decide_eq_true (by omega)]
  ·rw [AI]
theorem PR : D3 20000 = some true := by kernel_rfl
theorem LB (d : BJ) (wd : FD d) : Cr 20000 d = some true := N6 20000 (by omega) (by omega) PR d wd
end Go.Lift
