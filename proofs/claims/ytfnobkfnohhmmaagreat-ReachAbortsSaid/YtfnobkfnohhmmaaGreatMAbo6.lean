/- Lemmas for ReachAbortsSaid, which YtfnobkfnohhmmaaGreatFinW8 proves. -/
import Derived.Test.YtfnobkfnohhmmaaGreatMAbo4
namespace Go.Lift
open IntKind renaming wrap → wI
open Option renaming bind_some → oS
open Go
def Oq (p2 : List Int) (i : Nat) (m : Ae) : List Aj := ((List.range' 0 m.fNext.length).filter (IM p2 i m)).map SK ++ ((List.range' 0 m.fNext.length).filter (IM p2 i m)).map (SQ m)
theorem Rt {p : Ag} (hp : B9 p) {m : Ae} (hm : Cx p m) (p2 : List Int) (i : Nat) : H2 (Ia m) p m (Oq p2 i m) m := by
 refine Pu hp hm _ ((List.nodup_range' ..).filter _) fun s hs => ?_
 obtain ⟨h1, h2⟩ := List.mem_filter.1 hs
 refine ⟨by rw [← hm.next]; simpa using h1, ?_⟩
 unfold IM at h2
 exact of_decide_eq_true (Bool.and_eq_true_iff.1 h2).1
theorem Tq {p : Ag} (hp : B9 p) {m : Ae} (hm : Cx p m) (p2 : List Int) (i : Nat) : (Oq p2 i m).length ≤ 12 := by
 have h1 := List.length_filter_le (IM p2 i m) (List.range' 0 m.fNext.length)
 have := hp.nv
 have := hm.next
 unfold Oq
 simp only [List.length_append, List.length_map, List.length_range'] at h1 ⊢
 omega
theorem Nu (N : Nat) (hN : N ≤ 1000000) (h20 : 100 ≤ N) {p : Ag} (hv : Cg p = 0) (Q : Ae → Prop) (l : List Aj) (y : Ae) (hl : l.length ≤ 20) (p2 : List Int) (ok : Bool) (J : Ae × List Aj → Option Bool) : ∀ (n i : Nat) (m : Ae) (pl : List Aj), l.length + 1 - i < n → i ≤ l.length → Cx p m → WB p m (l.drop i) y → (∀ m', m' ∈ Kr p m (l.drop i) → ∀ x, Ia m' x → Q x) → pl.length ≤ 20 * i →
  ∃ rest : List Aj, Bu N p2 (p, ok) (l, y) J n (m, pl, (i : Int)) = J (y, pl ++ rest) ∧ H2 Q p m rest y ∧ rest.length ≤ 20 * (l.length + 1 - i)
 | 0, i, m, pl, h, _, _, _, _, _ => by omega
 | n + 1, i, m, pl, h, hi, hm, hok, hQ, hpl => by
  obtain ⟨hp, _⟩ := C6 hv
  have hnv := hp.nv
  have hnl := hm.next
  have hbl := Tq hp hm p2 i
  have hbp := Rt hp hm p2 i
  have hw1 : wI .i64 ((l.length : Int) + 1) = ((l.length + 1 : Nat) : Int) := A2 (by omega)
  rw [Bu]
  simp only [Bj, hw1]
  rw [AF (by omega)]
  have e16 := fun J16 => LE N p2 m pl i (by omega) J16 m.fNext.length N 0 pl [] (by omega) (by omega) (by omega) (by simp; omega)
  have e16' : ∀ J16, A3 N p2 (m, pl, (i : Int)) J16 N (pl, ([] : List Aj), 0) = _ := e16
  rw [e16']
  have hb : (pl ++ ((List.range' 0 m.fNext.length).filter (IM p2 i m)).map SK) ++ ([] ++ ((List.range' 0 m.fNext.length).filter (IM p2 i m)).map (SQ m)) = pl ++ Oq p2 i m := by unfold Oq; simp
  simp only [hb]
  rw [AI (by
   have := congrArg List.length hb
   rw [List.length_append] at this
   rw [this, List.length_append]; simp only [D2]; omega)]
  rw [A2 (by omega)]
  by_cases h1 : i < l.length
  ·have hx : l[i]? = some l[i] := by simp [h1]
   rw [C8 hx] at hok hQ
   have hQm : ∀ x, Ia m x → Q x := hQ m (by simp [Kr])
   rw [AF (by omega)]
   simp only [Bi, hx, oS]
   obtain ⟨b, e⟩ := Ki N hN h20 hp hm hok.1
   rw [AI (by simp [D2]; omega), e]
   simp only [oS]
   have h0 := (I0 hok.1).2
   obtain ⟨rest, r1, r2, r3⟩ := Nu N hN h20 hv Q l y hl p2 ok J n (i + 1) (Ce p m l[i]).1 (pl ++ Oq p2 i m ++ [l[i]]) (by omega) (by omega) (Jj hp hm h0) hok.2 (fun m' hm' => hQ m' (by rw [Kr]; exact List.mem_cons_of_mem _ hm')) (by simp; omega)
   refine ⟨Oq p2 i m ++ (l[i] :: rest), ?_, ?_, ?_⟩
   ·refine Eq.trans r1 ?_; simp
   ·exact KH (JQ hQm hbp) ⟨hQm m (Ia.refl m), h0, r2⟩
   ·simp; omega
  ·rw [List.drop_eq_nil_of_le (by omega)] at hok hQ
   have hQm : ∀ x, Ia m x → Q x := hQ m (by simp [Kr])
   have hy : m = y := hok
   rw [AD (by omega)]
   obtain ⟨n, rfl⟩ : ∃ q, n = q + 1 := ⟨n - 1, by omega⟩
   rw [Bu]
   simp only [hw1]
   rw [AD (by omega)]
   exact ⟨Oq p2 i m, by rw [← hy], by rw [← hy]; exact JQ hQm hbp, by omega⟩
end Go.Lift
namespace Go.Lift
open IntKind renaming wrap → wI
open Option renaming bind_some → oS
open List renaming mem_of_getElem? → lM
open Go
theorem NP : DE 2000 = some true := by kernel_rfl
theorem MO (N : Nat) (hN : N ≤ 1000000) (h20 : 1010 ≤ N) {p : Ag} (hv : Cg p = 0) (l : List Aj) (hl : l.length ≤ 1000) : DX N p l = some (Gq p 0 (BP p) [BP p] l) := by
 obtain ⟨hp, _⟩ := C6 hv
 have hm := Kv hv
 unfold DX FW
 rw [Kh N p hN (by omega), if_pos hv, hv]
 simp only [oS, bne_self_eq_false, As]
 rw [Io N p _ hN (by omega) (MY hm), Kf hv hm]
 simp only [oS, bne_self_eq_false, As]
 rw [KQ N hp hm]
 have := Me N hN (by omega) hv l hl N 0 (BP p) [BP p] (Nat.zero_le _) (by omega) hm rfl rfl
 have e : D7 N p l (fun v5 => some (v5, (l.length : Int), 0)) N ([BP p], 0) = _ := this
 simp only [oS]
 rw [e]; rfl
theorem Qt (N : Nat) (hN : N ≤ 1000000) (h20 : 1010 ≤ N) {p : Ag} (hv : Cg p = 0) (l : List Aj) (hl : l.length ≤ 1000) {k : Nat} {z : Ae} (h1 : (Gq p 0 (BP p) [BP p] l).2 = ((k : Int), 0)) (h2 : (Gq p 0 (BP p) [BP p] l).1[k]? = some z) : D1 N p l = some (z, (k : Int), 0) := by
 unfold D1
 rw [MO N hN h20 hv l hl]
 generalize Gq p 0 (BP p) [BP p] l = r at h1 h2
 obtain ⟨r1, r2⟩ := r
 simp only at h1 h2
 subst h1
 simp only [oS, bne_self_eq_false, As, Bi, h2]
theorem QH (N : Nat) (hN : N ≤ 1000000) (h20 : 100 ≤ N) {p : Ag} (hp : B9 p) (A : List Ae) (hA : ∀ x, x ∈ A → Cx p x) (hl : A.length ≤ 100000) {x : Ae} (hx : Cx p x) : ∀ (n i : Nat), A.length - i < n → i ≤ A.length → x ∈ A.drop i → CD N A x (fun _ => some false) n (i : Int) = some true
 | 0, i, h, _, _ => by omega
 | n + 1, i, h, hi, hmem => by
  rw [CD]
  by_cases h1 : i < A.length
  ·have hy : A[i]? = some A[i] := by simp [h1]
   rw [C8 hy] at hmem
   rw [AF (by omega)]
   simp only [Bi, hy, oS]
   rw [O9 hN h20 hp (hA _ (lM hy)) hx]
   simp only [oS]
   by_cases e : A[i] = x
   ·rw [decide_eq_true e, AK]
   ·rw [decide_eq_false e, As, A2 (by omega)]
    exact QH N hN h20 hp A hA hl hx n (i + 1) (by omega) (by omega) (by
     rcases List.mem_cons.1 hmem with h | h
     ·exact absurd h.symm e
     ·exact h)
  ·rw [List.drop_eq_nil_of_le (by omega)] at hmem; cases hmem
theorem MC (N : Nat) (hN : N ≤ 1000000) (h20 : 1010 ≤ N) {p : Ag} (hv : Cg p = 0) (A : List Ae) (hA : ∀ x, x ∈ A → Cx p x) (hAl : A.length < N) (hAl2 : A.length ≤ 1000) (e : Int) (ok : Bool) (y y' : Ae) (pl : List Aj) (hl : pl.length ≤ 1000) (hp1 : H2 (fun x => x ∈ A) p (BP p) pl y) (J : List Aj → Option Bool) : ∀ (n k : Nat), pl.length + 1 - k < n → k ≤ pl.length + 1 →
  Bv N (p, ok) (A, e) (y', pl) J n (pl, (k : Int)) = J pl
 | 0, k, h, _ => by omega
 | n + 1, k, h, hk => by
  obtain ⟨hp, _⟩ := C6 hv
  have hw1 : wI .i64 ((pl.length : Int) + 1) = ((pl.length + 1 : Nat) : Int) := A2 (by omega)
  rw [Bv]
  simp only [Bj, hw1]
  by_cases h1 : k ≤ pl.length
  ·rw [AF (by omega), AI (by simp; omega)]
   simp only [Int.toNat_natCast, Nat.sub_zero, List.drop_zero]
   obtain ⟨z, z1, z2, z3, _⟩ := KF hp1 k 0 [BP p] h1 rfl rfl
   rw [Nat.zero_add] at z1 z2
   rw [Qt N hN h20 hv (pl.take k) (by simp; omega) z1 z2]
   simp only [oS, bne_self_eq_false, As]
   unfold E1
   have := QH N hN (by omega) hp A hA (by omega) (hA z z3) N 0 (by omega) (Nat.zero_le _) z3
   have e' : CD N A z (fun _ => some false) N 0 = some true := this
   rw [e']
   simp only [oS, Bool.not_true, As]
   rw [A2 (by omega)]
   exact MC N hN h20 hv A hA hAl hAl2 e ok y y' pl hl hp1 J n (k + 1) (by omega) (by omega)
  ·rw [AD (by omega)]
theorem Mn : ∀ (r cs : List Ae), r.Nodup → (∀ x, x ∈ r → x ∈ cs) → r.length ≤ cs.length
 | [], _, _, _ => Nat.zero_le _
 | x :: r, cs, hn, hs => by
  obtain ⟨h1, h2⟩ := List.nodup_cons.1 hn
  have hx := hs x (by simp)
  have := Mn r (cs.erase x) h2 fun y hy => (List.mem_erase_of_ne (show y ≠ x from fun e => h1 (by rw [← e]; exact hy))).2 (hs y (by simp [hy]))
  rw [List.length_erase_of_mem hx] at this
  have := List.length_pos_of_mem hx
  simp only [List.length_cons]
  omega
theorem Ky (d : Cd) (l l2 : List Int) (wd : E2 d) (wl : Mq Jp l) (_ : Mq Jp l2) : CF 2000 d l l2 = some true := by
 obtain ⟨p, ok, e, hok⟩ := WP 2000 d (by omega) (by omega) wd
 unfold CF
 rw [e]
 simp only [oS, Bj, NP, Bool.not_true, As]
 cases ok
 ·rfl
 simp only [Bool.not_true, As]
 by_cases h6 : (8 : Int) < (l.length : Int)
 ·rw [decide_eq_true h6, AK]
 rw [decide_eq_false h6, As]
 have hv := (hok rfl).valid
 obtain ⟨hp, _⟩ := C6 hv
 have hs := Kv hv
 rw [N0 2000 p (by omega) (by omega), if_pos hv]
 simp only [oS]
 rw [ON 2000 (by omega) (by omega) hv hs l (by omega) (fun c hc => by
  have := wl c hc
  simp [Jp, Lit.wf, IntKind.min, IntKind.max, IntKind.signed, IntKind.bits] at this
  omega)]
 simp only [oS]
 have hwl := M8 (p := p) l (BP p)
 have hwo := MW (p := p) l (BP p)
 have hw0 := Nc (p := p) l 0 (BP p) [BP p]
 generalize IE p (BP p) l = w at hwl hwo hw0
 generalize O8 p (BP p) l = y at hwo
 obtain ⟨A, a1, a2, a3⟩ := RU 2000 (by omega) (by omega) hv w (by omega) hw0
 have hR := Og hp w 0 (BP p) [BP p] hs (fun x hx => by rw [List.mem_singleton.1 hx]; exact hs) rfl
 obtain ⟨_, _, hRl, hRm⟩ := hR.resolve_left (by simp [hw0])
 have hch : (Gq p 0 (BP p) [BP p] w).1 = Kr p (BP p) w := NC w (BP p) y 0 [] hwo
 rw [hch] at a3 hRm hRl
 have hA : ∀ x, x ∈ A → Cx p x := fun x hx => by
  obtain ⟨m, hm, hab⟩ := (a3 x).1 hx
  exact Uf hp (hRm m hm) hab
 rw [a1]
 simp only [oS, bne_self_eq_false, As]
 have hAl : A.length ≤ 640 := by
  have hnd : A.Nodup := a2.imp fun {a b} h => by
   intro e; subst e; have := PL.self a; omega
  have h1 := Mn A ((Kr p (BP p) w).flatMap GE) hnd (fun x hx => by
   obtain ⟨m, hm, hab⟩ := (a3 x).1 hx
   exact List.mem_flatMap.2 ⟨m, hm, Ir.2 hab⟩)
  have h2 := LP hp _ hRm
  omega
 obtain ⟨rest, r1, r2, r3⟩ := Nu 2000 (by omega) (by omega) hv (fun x => x ∈ A) w y (by omega) l2 true (fun v13 =>
      Bv 2000 (p, true) (A, 0) v13
       (fun v36 =>
        (D1 2000 p v36).bind fun v45 =>
         AT (v45.2.2 == 0) ((Ci 2000 v45.1 v13.1).bind fun v7 => some v7)
          (some false))
       2000 (v13.2, 0)) 2000 0 (BP p) [] (by omega) (Nat.zero_le _) hs (by simpa using hwo) (fun m' hm' x hx => (a3 x).2 ⟨m', by simpa using hm', hx⟩) (by simp)
 refine Eq.trans r1 ?_
 simp only [List.nil_append]
 have c1 := MC 2000 (by omega) (by omega) hv A hA (by omega) (by omega) 0 true y y rest (by omega) r2 (fun v36 =>
        (D1 2000 p v36).bind fun v45 =>
         AT (v45.2.2 == 0) ((Ci 2000 v45.1 y).bind fun v7 => some v7)
          (some false)) 2000 0 (by omega) (Nat.zero_le _)
 refine Eq.trans c1 ?_
 obtain ⟨z, z1, z2, z3, z4⟩ := KF r2 rest.length 0 [BP p] (Nat.le_refl _) rfl rfl
 rw [List.take_length, Nat.zero_add] at z1 z2
 have hzy := z4 rfl
 subst hzy
 rw [Qt 2000 (by omega) (by omega) hv rest (by omega) z1 z2]
 simp only [oS, beq_self_eq_true, AK]
 rw [O9 (by omega) (by omega) hp (hA z z3) (hA z z3), decide_eq_true rfl]; rfl
end Go.Lift
