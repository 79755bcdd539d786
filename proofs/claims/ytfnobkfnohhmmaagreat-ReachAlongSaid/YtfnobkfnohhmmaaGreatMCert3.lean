/- Lemmas for ReachAlongSaid, which YtfnobkfnohhmmaaGreatFinZ3 proves. -/
import Derived.Test.YtfnobkfnohhmmaaGreatMReach6
namespace Go.Lift
open Option renaming bind_some → oS
open List renaming mem_of_getElem? → lM
open Go
theorem MS {p : Ah} {m : Ae} : HH p m = (DC m).all fun x => (DG p x).isEmpty := by
 rw [Bool.eq_iff_iff, QK, List.all_eq_true]
 constructor
 ·intro h x hx; rw [h x (D1.1 hx)]; rfl
 ·intro h x hx; exact List.isEmpty_iff.1 (h x (D1.2 hx))
theorem N1 {N : Nat} (hN : N ≤ 1000000) (h20 : 1010 ≤ N) {p : Ah} (hp : Ca p) (v : List Ae) (hv : ∀ x, x ∈ v → Cp p x) (hvl : v.length ≤ 100) (j : List Ae → Option (List Ae × Int)) : ∀ (n i : Nat) (a : List Ae), v.length - i < n → i ≤ v.length → (a.length + (v.length - i) ≤ 1005) → (∀ x, x ∈ a → Cp p x) →
  CB N v j n (a, (i : Int)) = j (FU a (v.drop i))
 | 0, i, a, h, _, _, _ => by omega
 | n + 1, i, a, h, hi, ha, hA => by
  rw [CB]
  by_cases h1 : i < v.length
  ·have hy : v[i]? = some v[i] := by simp [h1]
   have hyo := hv _ (lM hy)
   rw [AG (by simp only; omega), Cu hy]
   simp only [A6, hy, oS]
   rw [V1 N hN (by omega) hp (by omega) (by omega) hA hyo]
   simp only [oS]
   rw [AZ (by omega), N1 hN h20 hp v hv hvl j n (i + 1) _ (by omega) (by omega) (by have := (M9 v[i] a).1; omega) (fun x hx => by
    rcases K5.1 hx with rfl | hx
    ·exact hyo
    ·exact hA x hx)]
   rfl
  ·rw [AD (by simp only; omega), List.drop_eq_nil_of_le (by omega)]; rfl
theorem Qv (a : List Ae) : ∀ (xs ys : List Ae) , FU a (xs ++ ys) = FU (FU a xs) ys := by
 intro xs
 induction xs generalizing a with
 | nil => intro ys; rfl
 | cons x xs ih => intro ys; simp only [List.cons_append, FU]; exact ih (JC x a) ys
theorem LV {N : Nat} (hN : N ≤ 1000000) (h20 : 1010 ≤ N) {p : Ah} (hp : Ca p) (l : List Ae) (hl : l.length ≤ 15) (hm : ∀ x, x ∈ l → Cp p x) (e : Int × Int) (j : List Ae → Option (List Ae × Int)) : ∀ (n i : Nat) (a : List Ae), i ≤ l.length → l.length - i < n → a.length ≤ 64 * i → (∀ x, x ∈ a → Cp p x) →
  CK N (l, e) j n (a, (i : Int)) = j (FU a ((l.drop i).flatMap DC))
 | 0, i, _, _, h, _, _ => by omega
 | n + 1, i, a, hi, h, ha, hA => by
  rw [CK]
  by_cases h1 : i < l.length
  ·have hx : l[i]? = some l[i] := by simp [h1]
   have hk := hm _ (lM hx)
   have hal := Jc (m := l[i]) (by rw [hk.next]; exact hp.nv)
   have hab : ∀ x, x ∈ DC l[i] → Cp p x := fun x hx => Rg hp hk (D1.1 hx)
   rw [AG (by first | omega | (simp only; omega)), Cu hx]
   simp only [A6, hx, oS]
   rw [Qy N p _ hN (by omega) hp hk]
   simp only [oS]
   rw [show (0 : Int) = ((0 : Nat) : Int) from rfl, N1 hN h20 hp (DC l[i]) hab (by omega) _ N 0 a (by omega) (Nat.zero_le _) (by omega) hA]
   rw [List.drop_zero, AZ (by omega)]
   have h9 := Kb (DC l[i]) a
   rw [LV hN h20 hp l hl hm e j n (i + 1) _ (by omega) (by omega) (by omega) (fun x hx => by
    rcases Kn.1 hx with hx | hx
    ·exact hA x hx
    ·exact hab x hx)]
   rw [List.flatMap_cons, Qv]
  ·rw [AD (by first | omega | (simp only; omega)), List.drop_eq_nil_of_le (by omega)]; rfl
theorem RS {N : Nat} (hN : N ≤ 1000000) (h20 : 1010 ≤ N) {p : Ah} (hv : Cx p = 0) (l : List Au) (hl : l.length ≤ 14) (h0 : (FC p 0 (Bz p) [Bz p] l).2.2 = 0) :
  Co N p l = some (FU [] ((FC p 0 (Bz p) [Bz p] l).1.flatMap DC), 0) := by
 obtain ⟨hp, _⟩ := DB hv
 have hs := JH hv
 unfold Co
 rw [KU N p hN (by omega), if_pos hv, hv]
 simp only [oS, bne_self_eq_false, As]
 rw [L9 N hN (by omega) hv hs l (by omega)]
 have hR := Kw hp l 0 (Bz p) [Bz p] hs (fun x hx => by rw [List.mem_singleton.1 hx]; exact hs) rfl
 obtain ⟨_, _, h2, h3⟩ := hR.resolve_left (by simp [h0])
 simp only [oS]
 rw [h0, bne_self_eq_false, As]
 generalize FC p 0 (Bz p) [Bz p] l = r at h2 h3
 exact LV hN h20 hp r.1 (by omega) h3 r.2 (fun v6 => some (v6, 0)) N 0 [] (Nat.zero_le _) (by omega) (Nat.zero_le _) (fun x hx => by cases hx)
theorem Nl {N : Nat} (hN : N ≤ 1000000) (h20 : 100 ≤ N) {p : Ah} (hp : Ca p) (A : List Ae) (hA : ∀ x, x ∈ A → Cp p x) (hl : A.length ≤ 100000) (e : Int) : ∀ (n i : Nat), A.length - i < n → i ≤ A.length →
  CW N p (A, e) (fun _ => some (true, 0)) n (i : Int) = some ((A.drop i).all fun x => (DG p x).isEmpty, 0)
 | 0, i, h, _ => by omega
 | n + 1, i, h, hi => by
  rw [CW]
  by_cases h1 : i < A.length
  ·have hy : A[i]? = some A[i] := by simp [h1]
   rw [AG (by first | omega | (simp only; omega)), Cu hy]
   simp only [A6, hy, oS, List.all_cons]
   rw [P3 N p _ hN h20 hp (hA _ (lM hy))]
   simp only [oS]
   cases (DG p A[i]).isEmpty
   ·rfl
   ·rw [Bool.not_true, As, AZ (by omega), Nl hN h20 hp A hA hl e n (i + 1) (by omega) (by omega), Bool.true_and]
  ·rw [AD (by first | omega | (simp only; omega)), List.drop_eq_nil_of_le (by omega)]; rfl
theorem OX (N : Nat) (hN : N ≤ 1000000) (h20 : 1010 ≤ N) (haw : Dn N = some true) (d : B5) (l : List Au) (wd : ES d) : Cr N d l = some true := by
 obtain ⟨p, ok, e, hok⟩ := XK N d (by omega) (by omega) wd
 unfold Cr
 rw [e]
 simp only [oS, A7, haw, Bool.not_true, As]
 cases ok
 ·rfl
 simp only [Bool.not_true, As]
 by_cases h6 : (12 : Int) < (l.length : Int)
 ·rw [decide_eq_true h6, AK]
 rw [decide_eq_false h6, As]
 have hv := (hok rfl).valid
 obtain ⟨hp, _⟩ := DB hv
 have hs := JH hv
 rw [Q2 N l (by simp [Dw]; omega)]
 simp only [oS]
 have hR := Kw hp l 0 (Bz p) [Bz p] hs (fun x hx => by rw [List.mem_singleton.1 hx]; exact hs) rfl
 by_cases h0 : (FC p 0 (Bz p) [Bz p] l).2.2 = 0
 ·obtain ⟨_, _, h2, h3⟩ := hR.resolve_left (by simp [h0])
  obtain ⟨A, a1, a2, a3⟩ := SM N hN h20 hv l (by omega) h0
  have b1 := RS hN h20 hv l (by omega) h0
  have hAB : A = FU [] ((FC p 0 (Bz p) [Bz p] l).1.flatMap DC) := Nv ON _ _ a2 (J7 List.Pairwise.nil) fun x => by
   rw [a3, Kn, List.mem_flatMap]
   constructor
   ·rintro ⟨m, hm, hx⟩; exact .inr ⟨m, hm, D1.2 hx⟩
   ·rintro (h | ⟨m, hm, hx⟩)
    ·cases h
    ·exact ⟨m, hm, D1.1 hx⟩
  have hAok : ∀ x, x ∈ A → Cp p x := fun x hx => by
   obtain ⟨m, hm, hx⟩ := (a3 x).1 hx
   exact Rg hp (h3 m hm) hx
  have hfl := Np hp _ h3
  have hAl : A.length ≤ 900 := by
   rw [hAB]
   have := Kb ((FC p 0 (Bz p) [Bz p] l).1.flatMap DC) []
   simp only [List.length_nil, Nat.zero_add] at this
   omega
  rw [a1, b1, ← hAB]
  simp only [oS]
  rw [Ur N hN (by omega) hv l (by omega) h0]
  have hrs : C1 N p l = some (A.all fun x => (DG p x).isEmpty, 0) := by
   unfold C1
   rw [b1, ← hAB]
   simp only [oS, bne_self_eq_false, As]
   have := Nl hN (by omega) hp A hAok (by omega) 0 N 0 (by omega) (Nat.zero_le _)
   rw [List.drop_zero] at this
   exact this
  rw [hrs]
  simp only [oS, beq_self_eq_true, AK]
  rw [Oa N A hN (by omega) (fun x hx => by rw [Sq hN (by omega) hp (hAok x hx) (hAok x hx), decide_eq_true rfl])]
  simp only [oS, AK]
  have hall : ((FC p 0 (Bz p) [Bz p] l).1.all (HH p)) = A.all fun x => (DG p x).isEmpty := by
   rw [Bool.eq_iff_iff, List.all_eq_true, List.all_eq_true]
   constructor
   ·intro h x hx
    obtain ⟨m, hm, hx⟩ := (a3 x).1 hx
    have := h m hm
    rw [MS, List.all_eq_true] at this
    exact this x (D1.2 hx)
   ·intro h m hm
    rw [MS, List.all_eq_true]
    intro x hx
    exact h x ((a3 x).2 ⟨m, hm, D1.1 hx⟩)
  rw [hall, beq_self_eq_true]
 ·have hne : ((FC p 0 (Bz p) [Bz p] l).2.2 != 0) = true := by simpa using h0
  have q1 : Ee N p l = some ([], (FC p 0 (Bz p) [Bz p] l).2.2) := by
   unfold Ee
   rw [HK N hN (by omega) hv l (by omega)]
   simp only [oS, hne, AK]
  have q2 : Er N p l = some (false, (FC p 0 (Bz p) [Bz p] l).2.2) := by
   unfold Er
   rw [HK N hN (by omega) hv l (by omega)]
   simp only [oS, hne, AK]
  have q3 : Co N p l = some ([], (FC p 0 (Bz p) [Bz p] l).2.2) := by
   unfold Co
   rw [KU N p hN (by omega), if_pos hv, hv]
   simp only [oS, bne_self_eq_false, As]
   rw [L9 N hN (by omega) hv hs l (by omega)]
   simp only [oS, hne, AK]
  have q4 : C1 N p l = some (false, (FC p 0 (Bz p) [Bz p] l).2.2) := by
   unfold C1
   rw [q3]
   simp only [oS, hne, AK]
  rw [q1, q2, q3, q4]
  simp only [oS, beq_self_eq_true, AK]
  rw [Oa N [] hN (by simp; omega) (fun x hx => by cases hx)]
  rfl
theorem Lr (d : B5) (l : List Au) (wd : ES d) (_ : Mq KW l) : Cr 2000 d l = some true := OX 2000 (by omega) (by omega) OJ d l wd
end Go.Lift
