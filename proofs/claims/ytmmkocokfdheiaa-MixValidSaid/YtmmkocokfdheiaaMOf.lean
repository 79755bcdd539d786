/- Lemmas for MixValidSaid, which YtmmkocokfdheiaaFin7 proves. -/
/- The drafts: what the recipes give is a valid problem and a valid mix. -/
import Derived.Test.YtmmkocokfdheiaaMConf3
namespace Go.Lift

theorem loop_ex {A S R : Type} (L : Nat → S → Option R) (mk : A → Int → S) (len : Nat) (j : A → Option R) (I : Nat → A → Prop)
    (hs : ∀ (n i : Nat) (a : A), i < len → I i a → ∃ a', L (n + 1) (mk a (i : Int)) = L n (mk a' ((i + 1 : Nat) : Int)) ∧ I (i + 1) a')
    (he : ∀ (n : Nat) (a : A), I len a → L (n + 1) (mk a (len : Int)) = j a) :
    ∀ (n i : Nat) (a : A), i ≤ len → len - i < n → I i a → ∃ a', L n (mk a (i : Int)) = j a' ∧ I len a'
  | 0, i, _, _, h, _ => by omega
  | n + 1, i, a, hi, h, ha => by
    by_cases h1 : i < len
    · obtain ⟨a', e1, e2⟩ := hs n i a h1 ha
      rw [e1]
      exact loop_ex L mk len j I hs he n (i + 1) _ (by omega) (by omega) e2
    · have : i = len := by omega
      subst this
      exact ⟨a, he n a ha, ha⟩

theorem getD_app_lt {α : Type} {xs ys : List α} {i : Nat} {d : α} (h : i < xs.length) : (xs ++ ys).getD i d = xs.getD i d := by
  rw [List.getD_eq_getElem?_getD, List.getD_eq_getElem?_getD, List.getElem?_append_left h]
theorem getD_app_eq {α : Type} {xs : List α} {y : α} {i : Nat} {d : α} (h : i = xs.length) : (xs ++ [y]).getD i d = y := by
  subst h; rw [List.getD_eq_getElem?_getD, List.getElem?_append_right (Nat.le_refl _)]; simp
theorem getD_app {α : Type} {P : Nat → α → Prop} {xs : List α} {y : α} {d : α} {n : Nat} (hn : xs.length = n) (h : ∀ k, k < n → P k (xs.getD k d)) (hy : P n y) : ∀ k, k < n + 1 → P k ((xs ++ [y]).getD k d) := by
  intro k hk
  by_cases h1 : k < n
  · rw [getD_app_lt (by omega)]; exact h k h1
  · have : k = n := by omega
    subst this
    rw [getD_app_eq hn.symm]; exact hy

theorem wrap_u8 (x : BitVec 8) : IntKind.wrap .u8 (x.toNat : Int) = (x.toNat : Int) := by
  have := x.isLt
  simp [IntKind.wrap, IntKind.signed, IntKind.bits]
  omega
theorem wrap_u8' {a : Int} (h : 0 ≤ a ∧ a ≤ 255) : IntKind.wrap .u8 a = a := by
  simp [IntKind.wrap, IntKind.signed, IntKind.bits]
  omega
theorem bits_toNat {a : Nat} (h : a < 256) (i : Nat) : (BitVec.ofInt 8 (a : Int)).toNat.testBit i = a.testBit i := by rw [u8_bv h]
theorem orI_bit {a b : Int} (ha : 0 ≤ a ∧ a ≤ 255) (hb : 0 ≤ b ∧ b ≤ 255) : (∀ v, bitB (orI .u8 a b) v = (bitB a v || bitB b v)) ∧ 0 ≤ orI .u8 a b ∧ orI .u8 a b ≤ 255 := by
  obtain ⟨a, rfl⟩ := Int.eq_ofNat_of_zero_le ha.1
  obtain ⟨b, rfl⟩ := Int.eq_ofNat_of_zero_le hb.1
  have e : orI .u8 (a : Int) (b : Int) = ((BitVec.ofInt 8 (a : Int) ||| BitVec.ofInt 8 (b : Int)).toNat : Int) := wrap_u8 _
  have hlt := (BitVec.ofInt 8 (a : Int) ||| BitVec.ofInt 8 (b : Int)).isLt
  rw [e]
  refine ⟨fun v => ?_, by omega, by omega⟩
  unfold bitB
  simp only [Int.toNat_natCast, BitVec.toNat_or, Nat.testBit_or]
  rw [bits_toNat (by omega), bits_toNat (by omega)]
theorem andI_bit {a b : Int} (ha : 0 ≤ a ∧ a ≤ 255) (hb : 0 ≤ b ∧ b ≤ 255) : (∀ v, bitB (andI .u8 a b) v = (bitB a v && bitB b v)) ∧ 0 ≤ andI .u8 a b ∧ andI .u8 a b ≤ 255 := by
  obtain ⟨a, rfl⟩ := Int.eq_ofNat_of_zero_le ha.1
  obtain ⟨b, rfl⟩ := Int.eq_ofNat_of_zero_le hb.1
  have e : andI .u8 (a : Int) (b : Int) = ((BitVec.ofInt 8 (a : Int) &&& BitVec.ofInt 8 (b : Int)).toNat : Int) := wrap_u8 _
  have hlt := (BitVec.ofInt 8 (a : Int) &&& BitVec.ofInt 8 (b : Int)).isLt
  rw [e]
  refine ⟨fun v => ?_, by omega, by omega⟩
  unfold bitB
  simp only [Int.toNat_natCast, BitVec.toNat_and, Nat.testBit_and]
  rw [bits_toNat (by omega), bits_toNat (by omega)]

theorem u8_at {l : List Int} (hw : wSl wU8 l) (i : Nat) : 0 ≤ l.getD i 0 ∧ l.getD i 0 ≤ 255 := by
  by_cases h : i < l.length
  · have : l.getD i 0 ∈ l := by rw [List.getD_eq_getElem?_getD, List.getElem?_eq_getElem h]; exact List.getElem_mem _
    exact u8_range (hw _ this)
  · rw [List.getD_eq_getElem?_getD, List.getElem?_eq_none (by omega)]
    exact ⟨by decide, by decide⟩
theorem code36_eq (N : Nat) {l : List Int} (hw : wSl wU8 l) (i : Nat) : Sh.sheaveref36_code N l (i : Int) = some (l.getD i 0) := by
  unfold Sh.sheaveref36_code
  have h2 := u8_at hw i
  by_cases h : i < l.length
  · rw [cnd_pos (by omega), idx_lt (d := 0) h]
    simp only [Option.bind_some]
    rw [wrap_small (by omega) (by omega)]
  · rw [cnd_neg (by omega), List.getD_eq_getElem?_getD, List.getElem?_eq_none (by omega)]; rfl
theorem code35_eq (N : Nat) {l : List Int} (hw : wSl wU8 l) (i : Nat) : Sh.sheaveref35_code N l (i : Int) = some (l.getD i 0) := by
  unfold Sh.sheaveref35_code
  have h2 := u8_at hw i
  by_cases h : i < l.length
  · rw [cnd_pos (by omega), idx_lt (d := 0) h]
    simp only [Option.bind_some]
    rw [wrap_small (by omega) (by omega)]
  · rw [cnd_neg (by omega), List.getD_eq_getElem?_getD, List.getElem?_eq_none (by omega)]; rfl

def ofB (n b : Int) : Int := Int.tmod b n
def ofN (n b k : Int) : Int := if 0 < Int.tmod k n then Int.tmod (Int.tmod b n + Int.tmod k n) n else -1
theorem tmod_range {a n : Int} (ha : 0 ≤ a) (hn : 0 < n) : 0 ≤ Int.tmod a n ∧ Int.tmod a n < n := ⟨Int.tmod_nonneg n ha, Int.tmod_lt_of_pos a hn⟩
theorem of_range {n b k : Int} (hn : 0 < n) (hb : 0 ≤ b) (hk : 0 ≤ k) : (0 ≤ ofB n b ∧ ofB n b < n) ∧ (-1 ≤ ofN n b k ∧ ofN n b k < n) ∧ ofB n b ≠ ofN n b k := by
  unfold ofB ofN
  have h1 := tmod_range hb hn
  have h2 := tmod_range hk hn
  split
  · rename_i h
    have h3 := tmod_range (a := Int.tmod b n + Int.tmod k n) (by omega) hn
    refine ⟨h1, by omega, fun he => ?_⟩
    generalize Int.tmod b n = x at *
    generalize Int.tmod k n = y at *
    rw [Int.tmod_eq_emod_of_nonneg (by omega)] at he
    by_cases hxy : x + y < n
    · rw [Int.emod_eq_of_lt (by omega) hxy] at he; omega
    · have : (x + y) % n = x + y - n := by
        rw [← Int.emod_eq_of_lt (show 0 ≤ x + y - n by omega) (show x + y - n < n by omega)]
        simp
      omega
  · exact ⟨h1, by omega, by omega⟩

/-- The mix of a draft. -/
structure IsOf (p : ApiProblem) (x : Sheaveref36Draft) (m : ApiMix) : Prop where
  bl : m.fBase.length = p.fVersions.length
  nl : m.fNext.length = p.fVersions.length
  hl : m.fHeld.length = p.fTables.length
  b : ∀ k, k < p.fVersions.length → m.fBase.getD k 0 = ofB (p.fVersions.getD k 0) (x.fBase.getD k 0)
  n : ∀ k, k < p.fVersions.length → m.fNext.getD k 0 = ofN (p.fVersions.getD k 0) (x.fBase.getD k 0) (x.fNext.getD k 0)
  r : ∀ k, k < p.fTables.length → 0 ≤ m.fHeld.getD k 0 ∧ m.fHeld.getD k 0 ≤ 255
  s : ∀ k t, p.fTables[k]? = some t → storedB t = true → ∀ v, bitB (m.fHeld.getD k 0) v = (runB m t.fFrom.toNat v || (bitB (x.fHeld.getD k 0) v && decide ((v : Int) < p.fVersions.getD t.fFrom.toNat 0)))
  z : ∀ k t, p.fTables[k]? = some t → storedB t = false → m.fHeld.getD k 0 = 0

def heldS (p : ApiProblem) (x : Sheaveref36Draft) (bs ns : List Int) (k : Nat) (y : Int) : Prop :=
  ∀ t, p.fTables[k]? = some t → storedB t = true → ∀ v, bitB y v = (runB ⟨bs, ns, []⟩ t.fFrom.toNat v || (bitB (x.fHeld.getD k 0) v && decide ((v : Int) < p.fVersions.getD t.fFrom.toNat 0)))
def heldZ (p : ApiProblem) (k : Nat) (y : Int) : Prop := ∀ t, p.fTables[k]? = some t → storedB t = false → y = 0
theorem of36 (N : Nat) (p : ApiProblem) (x : Sheaveref36Draft) (hN : N ≤ 1000000) (h20 : 20 ≤ N) (hp : ProbOk p) (hw : wSheaveref36Draft x) : ∃ m, Sh.sheaveref36_Of N p x = some m ∧ IsOf p x m ∧ MixOk p m := by
  obtain ⟨w1, w2, w3, _⟩ := hw
  have hnv := hp.nv
  have hnt := hp.nt
  unfold Sh.sheaveref36_Of
  obtain ⟨⟨bs, ns⟩, e, h1, h2, h3, h4⟩ := loop_ex (A := List Int × List Int) (Sh.sheaveref36_Of_L1 N p x fun v2 => Sh.sheaveref36_Of_L14 N p x v2 (fun v15 => some (ApiMix.mk v2.1 v2.2 v15)) N ([], 0)) (fun a k => (a.1, a.2, k)) p.fVersions.length
    (fun v2 => Sh.sheaveref36_Of_L14 N p x v2 (fun v15 => some (ApiMix.mk v2.1 v2.2 v15)) N ([], 0))
    (fun i a => a.1.length = i ∧ a.2.length = i ∧ (∀ k, k < i → a.1.getD k 0 = ofB (p.fVersions.getD k 0) (x.fBase.getD k 0)) ∧ (∀ k, k < i → a.2.getD k 0 = ofN (p.fVersions.getD k 0) (x.fBase.getD k 0) (x.fNext.getD k 0)))
    (fun n i a hi ha => by
      obtain ⟨bs, ns⟩ := a
      obtain ⟨h1, h2, h3, h4⟩ := ha
      simp only at h1 h2 h3 h4
      have hv := ver_at hp hi
      have hb := u8_at w1 i
      have hk := u8_at w2 i
      have m1 := tmod_range (n := p.fVersions.getD i 0) hb.1 (by omega)
      have m2 := tmod_range (n := p.fVersions.getD i 0) hk.1 (by omega)
      refine ⟨(bs ++ [ofB (p.fVersions.getD i 0) (x.fBase.getD i 0)], ns ++ [ofN (p.fVersions.getD i 0) (x.fBase.getD i 0) (x.fNext.getD i 0)]), ?_, ?_⟩
      · rw [Sh.sheaveref36_Of_L1]
        simp only [join_eq]
        rw [cnd_pos (by omega), idx_lt (d := 0) hi, code36_eq N w1, code36_eq N w2]
        simp only [Option.bind_some]
        rw [chk_bind_true (by omega), wrap_succ (by omega), wrap_small (n := _ + _) (by omega) (by omega)]
        simp only [chk_bind_true (show p.fVersions.getD i 0 ≠ 0 by omega)]
        have l1 : bs.length + ([Int.tmod (x.fBase.getD i 0) (p.fVersions.getD i 0)] : List Int).length ≤ lim := by rw [h1]; unfold lim; simp; omega
        have l2 : ∀ y : Int, ns.length + ([y] : List Int).length ≤ lim := by intro y; rw [h2]; unfold lim; simp; omega
        simp only [chk_bind_true l1, chk_bind_true (l2 _)]
        unfold ofB ofN
        by_cases h : 0 < Int.tmod (x.fNext.getD i 0) (p.fVersions.getD i 0)
        · rw [cnd_pos h, if_pos h]
        · rw [cnd_neg h, if_neg h]
      · refine ⟨by simp [h1], by simp [h2], getD_app (P := fun k y => y = _) h1 h3 rfl, getD_app (P := fun k y => y = _) h2 h4 rfl⟩)
    (fun n a _ => by
      rw [Sh.sheaveref36_Of_L1]
      simp only [join_eq]
      rw [cnd_neg (by omega)]) N 0 ([], []) (Nat.zero_le _) (by omega) ⟨rfl, rfl, fun k hk => by omega, fun k hk => by omega⟩
  simp only at h1 h2 h3 h4
  have e' : Sh.sheaveref36_Of_L1 N p x (fun v2 => Sh.sheaveref36_Of_L14 N p x v2 (fun v15 => some (ApiMix.mk v2.1 v2.2 v15)) N ([], 0)) N ([], [], 0) = _ := e
  rw [e']
  have hrng : ∀ k, k < p.fVersions.length → (0 ≤ bs.getD k 0 ∧ bs.getD k 0 < p.fVersions.getD k 0) ∧ (-1 ≤ ns.getD k 0 ∧ ns.getD k 0 < p.fVersions.getD k 0) ∧ bs.getD k 0 ≠ ns.getD k 0 := by
    intro k hk
    rw [h3 k hk, h4 k hk]
    exact of_range (by have := ver_at hp hk; omega) (u8_at w1 k).1 (u8_at w2 k).1
  obtain ⟨hs, e2, g1, g2, g3, g4⟩ := loop_ex (A := List Int) (Sh.sheaveref36_Of_L14 N p x (bs, ns) (fun v15 => some (ApiMix.mk bs ns v15))) (fun a k => (a, k)) p.fTables.length (fun v15 => some (ApiMix.mk bs ns v15))
    (fun i a => a.length = i ∧ (∀ k, k < i → 0 ≤ a.getD k 0 ∧ a.getD k 0 ≤ 255) ∧
      (∀ k, k < i → heldS p x bs ns k (a.getD k 0)) ∧
      (∀ k, k < i → heldZ p k (a.getD k 0)))
    (fun n i a hi ha => by
      obtain ⟨k1, k2, k3, k4⟩ := ha
      have hx : p.fTables[i]? = some p.fTables[i] := by simp [hi]
      generalize p.fTables[i] = t at hx
      have ht := tab_ok (hp.tab t (List.mem_of_getElem? hx))
      have hfr := ht.from0
      have hv := ver_at hp (i := t.fFrom.toNat) (by omega)
      have hr := hrng t.fFrom.toNat (by omega)
      have hrun := runM_bit (m := ⟨bs, ns, a⟩) (s := t.fFrom.toNat) hr.1.1 (show bs.getD _ 0 < 8 by omega) (show ns.getD _ 0 < 8 by omega)
      have hall := all_bit (n := p.fVersions.getD t.fFrom.toNat 0) (by omega) (by omega)
      have hh := u8_at w3 i
      have e1 := andI_bit hh hall.2
      have e2 := orI_bit hrun.2 e1.2
      cases hst : storedB t
      · refine ⟨a ++ [0], ?_, by simp [k1], getD_app (P := fun _ y => 0 ≤ y ∧ y ≤ 255) k1 k2 (by omega), getD_app (P := heldS p x bs ns) k1 k3 (fun t' ht' hs' => by rw [hx] at ht'; cases ht'; rw [hst] at hs'; cases hs'), getD_app (P := heldZ p) k1 k4 (fun _ _ _ => rfl)⟩
        rw [Sh.sheaveref36_Of_L14]
        simp only [join_eq]
        rw [cnd_pos (by omega), idx_nat, hx]
        simp only [Option.bind_some, ref_stored_eq, hst, cnd_false]
        rw [chk_bind_true (by rw [k1]; unfold lim; simp; omega), wrap_succ (by omega)]
      · refine ⟨a ++ [orI .u8 (runM ⟨bs, ns, a⟩ t.fFrom.toNat) (andI .u8 (x.fHeld.getD i 0) (IntKind.wrap .u8 (shlI .u8 1 (p.fVersions.getD t.fFrom.toNat 0) - 1)))], ?_, by simp [k1], getD_app (P := fun _ y => 0 ≤ y ∧ y ≤ 255) k1 k2 e2.2, getD_app (P := heldS p x bs ns) k1 k3 (fun t' ht' _ v => by
            rw [hx] at ht'; cases ht'
            rw [e2.1, e1.1, hall.1, hrun.1]; rfl), getD_app (P := heldZ p) k1 k4 (fun t' ht' hs' => by rw [hx] at ht'; cases ht'; rw [hst] at hs'; cases hs')⟩
        rw [Sh.sheaveref36_Of_L14]
        simp only [join_eq]
        rw [cnd_pos (by omega), idx_nat, hx]
        simp only [Option.bind_some, ref_stored_eq, hst, cnd_true]
        rw [idx_in (d := 0) hfr.1 hfr.2]
        simp only [Option.bind_some]
        rw [chk_bind_true (by omega), ref_run_eq N ⟨bs, ns, a⟩ t.fFrom hfr.1 (show _ < (bs.length : Int) by omega) (show _ < (ns.length : Int) by omega) hr.1.1, code36_eq N w3]
        simp only [Option.bind_some]
        rw [chk_bind_true (by rw [k1]; unfold lim; simp; omega), wrap_succ (by omega), wrap_u8' hh])
    (fun n a _ => by
      rw [Sh.sheaveref36_Of_L14]
      simp only [join_eq]
      rw [cnd_neg (by omega)]) N 0 [] (Nat.zero_le _) (by omega) ⟨rfl, fun k hk => by omega, fun k hk => by omega, fun k hk => by omega⟩
  have e2' : Sh.sheaveref36_Of_L14 N p x (bs, ns) (fun v15 => some (ApiMix.mk bs ns v15)) N ([], 0) = _ := e2
  refine ⟨⟨bs, ns, hs⟩, e2', ⟨h1, h2, g1, h3, h4, g2, fun k t ht hst => g3 k (List.getElem?_eq_some_iff.1 ht).1 t ht hst, fun k t ht hst => g4 k (List.getElem?_eq_some_iff.1 ht).1 t ht hst⟩, ?_⟩
  refine ⟨⟨h1, h2, g1, fun i hi => (hrng i hi).1, fun i hi => (hrng i hi).2.1, fun i hi => (hrng i hi).2.2⟩, g2, ?_, ?_, fun k t ht hst => g4 k (List.getElem?_eq_some_iff.1 ht).1 t ht hst⟩
  · intro k t ht hst v hv
    rw [g3 k (List.getElem?_eq_some_iff.1 ht).1 t ht hst v]
    rw [show runB ⟨bs, ns, []⟩ t.fFrom.toNat v = true from hv]; rfl
  · intro k t ht hst v hv
    have hin := (tab_ok (hp.tab t (List.mem_of_getElem? ht))).from0
    have hr := hrng t.fFrom.toNat (by omega)
    have hv : bitB (hs.getD k 0) v = true := hv
    rw [g3 k (List.getElem?_eq_some_iff.1 ht).1 t ht hst v] at hv
    simp only [Bool.or_eq_true, Bool.and_eq_true, decide_eq_true_eq, runB] at hv
    rcases hv with (h | h) | h
    · omega
    · omega
    · exact h.2
end Go.Lift
