/- Lemmas for MixValidSaid, which YtmmkocokfdheiaaFin7 proves. -/
/- The test of a mix, the whole: both implementations give one answer. -/
import Derived.Test.YtmmkocokfdheiaaPlain9
namespace Go.Lift

structure MixServ (p : ApiProblem) (m : ApiMix) : Prop where
  base : m.fBase.length = p.fVersions.length
  next : m.fNext.length = p.fVersions.length
  held : m.fHeld.length = p.fTables.length
  b0 : ∀ i, i < p.fVersions.length → 0 ≤ m.fBase.getD i 0 ∧ m.fBase.getD i 0 < p.fVersions.getD i 0
  n0 : ∀ i, i < p.fVersions.length → -1 ≤ m.fNext.getD i 0 ∧ m.fNext.getD i 0 < p.fVersions.getD i 0
  ne : ∀ i, i < p.fVersions.length → m.fBase.getD i 0 ≠ m.fNext.getD i 0

theorem serv_of {p : ApiProblem} {m : ApiMix} (h2 : m.fBase.length = p.fVersions.length) (h3 : m.fNext.length = p.fVersions.length) (h4 : m.fHeld.length = p.fTables.length) (h : scan (mixE m) 0 p.fVersions = none) : MixServ p m := by
  have key : ∀ i, i < p.fVersions.length → ¬ (m.fBase.getD i 0 < 0 ∨ p.fVersions.getD i 0 ≤ m.fBase.getD i 0 ∨ m.fNext.getD i 0 < -1 ∨ p.fVersions.getD i 0 ≤ m.fNext.getD i 0) ∧ ¬ m.fBase.getD i 0 = m.fNext.getD i 0 := by
    intro i hi
    have hx : p.fVersions[i]? = some (p.fVersions.getD i 0) := by rw [List.getD_eq_getElem?_getD]; simp [hi]
    have := scan_none h i _ hx
    rw [Nat.zero_add] at this
    unfold mixE at this
    split at this
    · cases this
    · split at this
      · cases this
      · rename_i k1 k2; exact ⟨k1, k2⟩
  exact ⟨h2, h3, h4, fun i hi => by have := (key i hi).1; omega, fun i hi => by have := (key i hi).1; omega, fun i hi => (key i hi).2⟩

theorem wU8_getD {m : ApiMix} (hw : wSl wU8 m.fHeld) {i : Nat} (h : i < m.fHeld.length) : wU8 (m.fHeld.getD i 0) := by
  refine hw _ ?_
  rw [List.getD_eq_getElem?_getD, List.getElem?_eq_getElem h]
  exact List.getElem_mem _

theorem mix_stored_eq (N : Nat) (t : ApiTable) : Sh.mix_stored N t = some (storedB t) := by
  unfold Sh.mix_stored storedB
  simp only [join]
  cases h : t.fKind == 3 <;> simp
theorem ref_stored_eq (N : Nat) (t : ApiTable) : Sh.sheaveref35_Stored N t = some (storedB t) := stored_eq N t

theorem mix_tables (N : Nat) (p : ApiProblem) (m : ApiMix) (hN : N ≤ 1000000) (h1 : p.fTables.length < N) (hp : ProbOk p) (hm : MixServ p m) (hw : wSl wU8 m.fHeld) (j : Option Int) :
    Sh.mix_Valid_L23 N p m (fun _ => j) N 0 = orElse (scan (heldE p m) 0 p.fTables) j := by
  have := loop_scan (Sh.mix_Valid_L23 N p m (fun _ => j)) p.fTables j (heldE p m)
    (fun n i x hx => by
      have hi := (List.getElem?_eq_some_iff.1 hx).1
      have hin := tab_in (hp.tab x (List.mem_of_getElem? hx))
      have hheld := wU8_getD hw (show i < m.fHeld.length from by rw [hm.held]; exact hi)
      have hv := ver_of hp.ver hin.1 hin.2.1
      rw [Sh.mix_Valid_L23, cnd_pos (by omega), idx_nat, hx]
      simp only [Option.bind_some, join, mix_stored_eq]
      rw [mix_run_eq N m x.fFrom hin.1 (by rw [hm.base]; exact hin.2.1) (by rw [hm.next]; exact hin.2.1) (hm.b0 _ (by omega)).1, idx_in (d := 0) hin.1 hin.2.1, idx_lt (d := 0) (show i < m.fHeld.length from by rw [hm.held]; exact hi), wrap_succ (by omega)]
      simp only [Option.bind_some]
      rw [show chk (0 ≤ p.fVersions.getD x.fFrom.toNat 0) = some () from by unfold chk; rw [if_pos (by omega)]]
      simp only [Option.bind_some]
      unfold heldE allM
      rw [andNot0l hheld, andNot0r hheld]
      generalize andNotI .u8 (runM m x.fFrom.toNat) (m.fHeld.getD i 0) = A
      generalize andNotI .u8 (m.fHeld.getD i 0) (IntKind.wrap .u8 (shlI .u8 1 (p.fVersions.getD x.fFrom.toNat 0) - 1)) = B
      generalize m.fHeld.getD i 0 = H
      cases storedB x
      · simp only [cnd_false, bne_self_eq_false]
        by_cases k : H = 0
        · simp [k, orElse]
        · have : (H != 0) = true := bne_iff_ne.2 k
          simp [k, this, orElse]
      · simp only [cnd_true]
        by_cases k : A = 0
        · by_cases k2 : B = 0
          · simp [k, k2, orElse]
          · have : (B != 0) = true := bne_iff_ne.2 k2
            simp [k, k2, this, orElse]
        · have : (A != 0) = true := bne_iff_ne.2 k
          simp [k, this, orElse])
    (fun n => by rw [Sh.mix_Valid_L23, cnd_neg (by omega)]) N 0 (by omega) (by omega)
  simpa using this

theorem ref_tables (N : Nat) (p : ApiProblem) (m : ApiMix) (hN : N ≤ 1000000) (h1 : p.fTables.length < N) (hp : ProbOk p) (hm : MixServ p m) (j : Option Int) :
    Sh.sheaveref36_Valid_L24 N p m (fun _ => j) N 0 = orElse (scan (heldE p m) 0 p.fTables) j := by
  have := loop_scan (Sh.sheaveref36_Valid_L24 N p m (fun _ => j)) p.fTables j (heldE p m)
    (fun n i x hx => by
      have hi := (List.getElem?_eq_some_iff.1 hx).1
      have hin := tab_in (hp.tab x (List.mem_of_getElem? hx))
      have hv := ver_of hp.ver hin.1 hin.2.1
      rw [Sh.sheaveref36_Valid_L24, cnd_pos (by omega), idx_nat, hx]
      simp only [Option.bind_some, join, ref_stored_eq]
      rw [ref_run_eq N m x.fFrom hin.1 (by rw [hm.base]; exact hin.2.1) (by rw [hm.next]; exact hin.2.1) (hm.b0 _ (by omega)).1, idx_in (d := 0) hin.1 hin.2.1, idx_lt (d := 0) (show i < m.fHeld.length from by rw [hm.held]; exact hi), wrap_succ (by omega)]
      simp only [Option.bind_some]
      rw [show chk (0 ≤ p.fVersions.getD x.fFrom.toNat 0) = some () from by unfold chk; rw [if_pos (by omega)]]
      simp only [Option.bind_some]
      unfold heldE allM
      generalize andNotI .u8 (runM m x.fFrom.toNat) (m.fHeld.getD i 0) = A
      generalize andNotI .u8 (m.fHeld.getD i 0) (IntKind.wrap .u8 (shlI .u8 1 (p.fVersions.getD x.fFrom.toNat 0) - 1)) = B
      generalize m.fHeld.getD i 0 = H
      cases storedB x
      · simp only [Bool.not_false, cnd_true, cnd_false]
        by_cases k : H = 0
        · simp [k, orElse]
        · have : (H != 0) = true := bne_iff_ne.2 k
          simp [k, this, orElse]
      · simp only [Bool.not_true, cnd_false, cnd_true]
        by_cases k : A = 0
        · by_cases k2 : B = 0
          · simp [k, k2, orElse]
          · have : (B != 0) = true := bne_iff_ne.2 k2
            simp [k, k2, this, orElse]
        · have : (A != 0) = true := bne_iff_ne.2 k
          by_cases k2 : B = 0
          · simp [k, k2, this, orElse]
          · have h5 : (B != 0) = true := bne_iff_ne.2 k2
            simp [k, h5, orElse])
    (fun n => by rw [Sh.sheaveref36_Valid_L24, cnd_neg (by omega)]) N 0 (by omega) (by omega)
  simpa using this

theorem mix_valid_eq (N : Nat) (p : ApiProblem) (m : ApiMix) (hN : N ≤ 1000000) (h : 20 ≤ N) (hw : wSl wU8 m.fHeld) : Sh.mix_Valid N p m = some (validM p m) := by
  unfold Sh.mix_Valid validM
  rw [fleet_validP N p hN h]
  simp only [Option.bind_some, join]
  by_cases k0 : validP p = 0
  · have hp : ProbOk p := by
      rcases validP_cases p with h | h
      · exact h.2
      · omega
    have hnv := hp.nv
    have hnt := hp.nt
    rw [k0]
    simp only [bne_self_eq_false, cnd_false, ne_eq, not_true_eq_false, if_false]
    by_cases k1 : m.fBase.length = p.fVersions.length
    · by_cases k2 : m.fNext.length = p.fVersions.length
      · by_cases k3 : m.fHeld.length = p.fTables.length
        · rw [k1, k2, k3]
          simp only [bne_self_eq_false, cnd_false, not_true_eq_false, or_self, if_false]
          rw [mix_services N p m hN (by omega) k1 k2]
          cases hs : scan (mixE m) 0 p.fVersions with
          | some r => rfl
          | none =>
            simp only [orElse]
            rw [mix_tables N p m hN (by omega) hp (serv_of k1 k2 k3 hs) hw]
            cases scan (heldE p m) 0 p.fTables <;> rfl
        · have : ((m.fHeld.length : Int) != (p.fTables.length : Int)) = true := bne_iff_ne.2 (by omega)
          rw [this, k1, k2]; simp [k3]
      · have : ((m.fNext.length : Int) != (p.fVersions.length : Int)) = true := bne_iff_ne.2 (by omega)
        rw [this, k1]; simp [k2]
    · have : ((m.fBase.length : Int) != (p.fVersions.length : Int)) = true := bne_iff_ne.2 (by omega)
      rw [this]; simp [k1]
  · rw [bne_iff_ne.2 k0]; simp [k0]
theorem ref_valid_eq (N : Nat) (p : ApiProblem) (m : ApiMix) (hN : N ≤ 1000000) (h : 20 ≤ N) : Sh.sheaveref36_Valid N p m = some (validM p m) := by
  unfold Sh.sheaveref36_Valid validM
  rw [ref_validP N p hN h]
  simp only [Option.bind_some, join]
  by_cases k0 : validP p = 0
  · have hp : ProbOk p := by
      rcases validP_cases p with h | h
      · exact h.2
      · omega
    have hnv := hp.nv
    have hnt := hp.nt
    rw [k0]
    simp only [bne_self_eq_false, cnd_false, ne_eq, not_true_eq_false, if_false]
    by_cases k1 : m.fBase.length = p.fVersions.length
    · by_cases k2 : m.fNext.length = p.fVersions.length
      · by_cases k3 : m.fHeld.length = p.fTables.length
        · rw [k1, k2, k3]
          simp only [bne_self_eq_false, cnd_false, not_true_eq_false, or_self, if_false]
          rw [ref_services N p m hN (by omega) k1 k2]
          cases hs : scan (mixE m) 0 p.fVersions with
          | some r => rfl
          | none =>
            simp only [orElse]
            rw [ref_tables N p m hN (by omega) hp (serv_of k1 k2 k3 hs)]
            cases scan (heldE p m) 0 p.fTables <;> rfl
        · have : ((m.fHeld.length : Int) != (p.fTables.length : Int)) = true := bne_iff_ne.2 (by omega)
          rw [this, k1, k2]; simp [k3]
      · have : ((m.fNext.length : Int) != (p.fVersions.length : Int)) = true := bne_iff_ne.2 (by omega)
        rw [this, k1]; simp [k2]
    · have : ((m.fBase.length : Int) != (p.fVersions.length : Int)) = true := bne_iff_ne.2 (by omega)
      rw [this]; simp [k1]
  · rw [bne_iff_ne.2 k0]; simp [k0]

theorem validM_cases (p : ApiProblem) (m : ApiMix) : validM p m = 0 ∨ validM p m = 1 ∨ validM p m = 3 ∨ validM p m = 4 ∨ validM p m = 6 ∨ validM p m = 7 := by
  unfold validM
  split
  · rename_i h
    rcases validP_cases p with h1 | h1
    · exact (h h1.1).elim
    · exact .inr h1
  split
  · simp
  cases hs : scan (mixE m) 0 p.fVersions with
  | some r =>
    obtain ⟨j, x, _, h⟩ := scan_some hs
    unfold mixE at h
    split at h
    · cases h; simp [orElse]
    · split at h
      · cases h; simp [orElse]
      · cases h
  | none =>
    cases ht : scan (heldE p m) 0 p.fTables with
    | some r =>
      obtain ⟨j, x, _, h⟩ := scan_some ht
      unfold heldE at h
      split at h
      · split at h
        · cases h; simp [orElse]
        · cases h
      · split at h
        · cases h; simp [orElse]
        · cases h
    | none => simp [orElse]
end Go.Lift
