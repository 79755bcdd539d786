/- Lemmas for MixValidSaid, which YtmmkocokfdheiaaFin7 proves. -/
/- The conflicts of a mix: both implementations give one answer. -/
import Derived.Test.YtmmkocokfdheiaaMConf2
namespace Go.Lift

theorem ver_len {p : ApiProblem} {t : ApiTable} (hp : ProbOk p) (ht : TabOk p t) : t.fOK.length ≤ 6 ∧ ∀ row, row ∈ t.fOK → row.length ≤ 6 := by
  have h1 := ver_of hp.ver ht.from0.1 ht.from0.2
  have h2 := ver_of hp.ver ht.to0.1 ht.to0.2
  have h3 := ht.okL
  exact ⟨by omega, fun row hr => by have := ht.okR row hr; omega⟩
theorem gC_len (i u : Nat) (m : ApiMix) (t : ApiTable) (v : Nat) (ok : Bool) : (gC i u m t v ok).length ≤ 1 := by
  unfold gC; split <;> simp
theorem rdConf_len (i : Nat) (m : ApiMix) (t : ApiTable) (u : Nat) (row : List Bool) (h : row.length ≤ 6) : (rdConf i m t u row).length ≤ 7 := by
  unfold rdConf
  rw [List.length_append]
  have := flatI_len (g := gC i u m t) (c := 1) (i := 0) (xs := row) (fun j x _ => gC_len _ _ _ _ _ _)
  split <;> simp <;> omega
theorem wr_len (i : Nat) (m : ApiMix) (t : ApiTable) (u : Nat) (row : List Bool) (h : row.length ≤ 6) : (if wrB m i t u = true then rdConf i m t u row else []).length ≤ 7 := by
  have := rdConf_len i m t u row h
  split <;> simp <;> omega
theorem tabConf_len {p : ApiProblem} {t : ApiTable} (hp : ProbOk p) (ht : TabOk p t) (i : Nat) (m : ApiMix) : (tabConf m i t).length ≤ 42 := by
  have h1 := ver_len hp ht
  have := flatI_len (g := fun u row => if wrB m i t u = true then rdConf i m t u row else []) (c := 7) (i := 0) (xs := t.fOK) (fun j x hx => wr_len i m t _ x (h1.2 x (List.mem_of_getElem? hx)))
  unfold tabConf
  omega

theorem mix_conf_tab (N : Nat) (p : ApiProblem) (m : ApiMix) (t : ApiTable) (i : Nat) (W R : Int) (b1 acc : List ApiConflict) (j : List ApiConflict → Option (List ApiConflict))
    (hN : N ≤ 1000000) (h8 : 8 ≤ N) (hp : ProbOk p) (ht : TabOk p t) (hacc : acc.length + 42 ≤ 10000) (hR0 : 0 ≤ R) (hR1 : R ≤ 255) (hRb : ∀ v, bitB R v = runB m t.fTo.toNat v) (hW0 : 0 ≤ W) (hW1 : W ≤ 255) (hWb : ∀ v, bitB W v = wrB m i t v) :
    Sh.mix_conflicts_L11 N (b1, (i : Int)) t R W j N (acc, 0) = j (acc ++ tabConf m i t) := by
  have hl := ver_len hp ht
  exact loop_flat (Sh.mix_conflicts_L11 N (b1, (i : Int)) t R W j) (fun a k => (a, k)) t.fOK j (fun u row => if wrB m i t u then rdConf i m t u row else []) 7 10000
    (fun u row hx => wr_len i m t u row (hl.2 row (List.mem_of_getElem? hx)))
    (fun n u row a hx ha => by
      have hu := (List.getElem?_eq_some_iff.1 hx).1
      have hrow := hl.2 row (List.mem_of_getElem? hx)
      rw [Sh.mix_conflicts_L11]
      simp only [join_eq]
      rw [cnd_pos (by omega), chk_bind_true (by omega), has_bit0 hW0 hW1 (by omega), hWb, idx_nat, hx]
      simp only [Option.bind_some]
      rw [mix_conf_in N m t i u row R b1 a a _ hN h8 hrow (by unfold lim; omega) hR0 hR1 hRb, wrap_succ (by omega)]
      cases hw : wrB m i t u
      · simp
      · simp only [Bool.not_true, cnd_false, if_true, rdConf]
        have h1 := flatI_len (g := gC i u m t) (c := 1) (i := 0) (xs := row) (fun j x _ => gC_len _ _ _ _ _ _)
        have := cnd_app (R := List ApiConflict) (t.fAware && !anyI (hC m t) 0 row) (a ++ flatI (gC i u m t) 0 row) ⟨(i : Int), (u : Int), -1⟩ (fun l => Sh.mix_conflicts_L11 N (b1, (i : Int)) t R W j n (l, ((u + 1 : Nat) : Int))) (by rw [List.length_append]; unfold lim; rw [hw, if_pos rfl] at ha; omega)
        rw [← List.append_assoc, ← this]
        cases t.fAware <;> cases anyI (hC m t) 0 row <;> rfl)
    (fun n a => by
      rw [Sh.mix_conflicts_L11]
      simp only [join_eq]
      rw [cnd_neg (by omega)]) N acc (by omega) (by omega)

theorem ref_conf_in (N : Nat) (p : ApiProblem) (m : ApiMix) (t : ApiTable) (i u : Nat) (row : List Bool) (b1 b2 acc : List ApiConflict) (j : List ApiConflict × Bool → Option (List ApiConflict))
    (hN : N ≤ 1000000) (h8 : 8 ≤ N) (hp : ProbOk p) (hm : MixServ p m) (ht : TabOk p t) (hu : t.fOK[u]? = some row) (hacc : acc.length + 6 ≤ lim) :
    Sh.sheaveref36_Found_L17 N p m (b1, (i : Int)) t (b2, (u : Int)) j N (acc, false, 0) = j (acc ++ flatI (gC i u m t) 0 row, anyI (hC m t) 0 row) := by
  have hrow := (ver_len hp ht).2 row (List.mem_of_getElem? hu)
  have hR := serv_run hp hm (s := t.fTo.toNat) (by have := ht.to0; omega)
  have hlen := ht.okR row (List.mem_of_getElem? hu)
  have hto := ht.to0
  have := loop_fold (A := List ApiConflict × Bool) (Sh.sheaveref36_Found_L17 N p m (b1, (i : Int)) t (b2, (u : Int)) j) (fun a k => (a.1, a.2, k)) row (fun a => j a) (fun v ok s => (s.1 ++ gC i u m t v ok, s.2 || hC m t v ok))
    (fun v a => v ≤ row.length ∧ a.1.length ≤ acc.length + v)
    (fun n v ok a hx ha => by
      have hv := (List.getElem?_eq_some_iff.1 hx).1
      obtain ⟨c, f⟩ := a
      simp only at ha
      refine ⟨?_, by omega, ?_⟩
      · rw [Sh.sheaveref36_Found_L17]
        simp only [join_eq]
        rw [idx_in (d := 0) hto.1 hto.2, ref_run_eq N m t.fTo hto.1 (by rw [hm.base]; exact hto.2) (by rw [hm.next]; exact hto.2) (hm.b0 _ (by omega)).1, idx_nat, hu]
        simp only [Option.bind_some]
        unfold Sh.sheaveref36_Has
        rw [cnd_pos (by omega), idx_nat, hx, chk_bind_true (by omega), has_bit1 hR.2.1 hR.2.2 (by omega), hR.1]
        simp only [Option.bind_some]
        rw [wrap_succ (by omega), cnd_app _ _ _ (fun l => Sh.sheaveref36_Found_L17 N p m (b1, (i : Int)) t (b2, (u : Int)) j n (l, true, ((v + 1 : Nat) : Int))) (by omega)]
        unfold gC hC
        rw [cnd_app _ _ _ (fun l => Sh.sheaveref36_Found_L17 N p m (b1, (i : Int)) t (b2, (u : Int)) j n (l, ok, ((v + 1 : Nat) : Int))) (by omega)]
        cases runB m t.fTo.toNat v
        · simp
        · cases ok <;> cases f <;> cases t.fAware <;> simp
      · simp only [gC, List.length_append]
        split <;> simp <;> omega)
    (fun n a _ => by
      rw [Sh.sheaveref36_Found_L17]
      simp only [join_eq]
      rw [idx_in (d := 0) hto.1 hto.2]
      simp only [Option.bind_some]
      rw [cnd_neg (by omega)]) N 0 (acc, false) (by omega) (by omega) ⟨by omega, by simp⟩
  have h2 := this.1
  rw [List.drop_zero, foldI_pair, Bool.false_or] at h2
  exact h2

theorem ref_conf_tab (N : Nat) (p : ApiProblem) (m : ApiMix) (t : ApiTable) (i : Nat) (W : Int) (b1 acc : List ApiConflict) (j : List ApiConflict → Option (List ApiConflict))
    (hN : N ≤ 1000000) (h8 : 8 ≤ N) (hp : ProbOk p) (hm : MixServ p m) (ht : TabOk p t) (hacc : acc.length + 42 ≤ 10000) (hW0 : 0 ≤ W) (hW1 : W ≤ 255) (hWb : ∀ v, bitB W v = wrB m i t v) :
    Sh.sheaveref36_Found_L10 N p m (b1, (i : Int)) t W j N (acc, 0) = j (acc ++ tabConf m i t) := by
  have hl := ver_len hp ht
  have hfr := ht.from0
  have hok := ht.okL
  exact loop_flat (Sh.sheaveref36_Found_L10 N p m (b1, (i : Int)) t W j) (fun a k => (a, k)) t.fOK j (fun u row => if wrB m i t u then rdConf i m t u row else []) 7 10000
    (fun u row hx => wr_len i m t u row (hl.2 row (List.mem_of_getElem? hx)))
    (fun n u row a hx ha => by
      have hu := (List.getElem?_eq_some_iff.1 hx).1
      have hrow := hl.2 row (List.mem_of_getElem? hx)
      rw [Sh.sheaveref36_Found_L10]
      simp only [join_eq]
      rw [idx_in (d := 0) hfr.1 hfr.2]
      simp only [Option.bind_some]
      unfold Sh.sheaveref36_Has
      rw [cnd_pos (by omega), chk_bind_true (by omega), has_bit1 hW0 hW1 (by omega), hWb]
      simp only [Option.bind_some]
      rw [ref_conf_in N p m t i u row b1 a a _ hN h8 hp hm ht hx (by unfold lim; omega), wrap_succ (by omega)]
      cases hw : wrB m i t u
      · simp
      · simp only [Bool.not_true, cnd_false, if_true, rdConf]
        have h1 := flatI_len (g := gC i u m t) (c := 1) (i := 0) (xs := row) (fun j x _ => gC_len _ _ _ _ _ _)
        have := cnd_app (R := List ApiConflict) (t.fAware && !anyI (hC m t) 0 row) (a ++ flatI (gC i u m t) 0 row) ⟨(i : Int), (u : Int), -1⟩ (fun l => Sh.sheaveref36_Found_L10 N p m (b1, (i : Int)) t W j n (l, ((u + 1 : Nat) : Int))) (by rw [List.length_append]; unfold lim; rw [hw, if_pos rfl] at ha; omega)
        rw [← List.append_assoc, ← this]
        cases t.fAware <;> cases anyI (hC m t) 0 row <;> rfl)
    (fun n a => by
      rw [Sh.sheaveref36_Found_L10]
      simp only [join_eq]
      rw [idx_in (d := 0) hfr.1 hfr.2]
      simp only [Option.bind_some]
      rw [cnd_neg (by omega)]) N acc (by omega) (by omega)

theorem mix_conflicts_eq (N : Nat) (p : ApiProblem) (m : ApiMix) (hN : N ≤ 1000000) (h20 : 20 ≤ N) (hp : ProbOk p) (hm : MixOk p m) : Sh.mix_conflicts N p m = some (conflictsF p m) := by
  unfold Sh.mix_conflicts
  have hnt := hp.nt
  rw [loop_flat (Sh.mix_conflicts_L1 N p m _) (fun a k => (a, k)) p.fTables some (tabConf m) 42 9000
    (fun i t hx => tabConf_len hp (tab_ok (hp.tab t (List.mem_of_getElem? hx))) i m)
    (fun n i t a hx ha => by
      have hi := (List.getElem?_eq_some_iff.1 hx).1
      have ht := tab_ok (hp.tab t (List.mem_of_getElem? hx))
      have hto := ht.to0
      have hfr := ht.from0
      have hR := serv_run hp hm.toMixServ (s := t.fTo.toNat) (by omega)
      have hF := serv_run hp hm.toMixServ (s := t.fFrom.toNat) (by omega)
      have hH := hm.range i hi
      rw [Sh.mix_conflicts_L1]
      simp only [join_eq]
      rw [cnd_pos (by omega), idx_nat, hx]
      simp only [Option.bind_some, mix_stored_eq]
      rw [mix_run_eq N m t.fFrom hfr.1 (by rw [hm.base]; exact hfr.2) (by rw [hm.next]; exact hfr.2) (hm.b0 _ (by omega)).1, mix_run_eq N m t.fTo hto.1 (by rw [hm.base]; exact hto.2) (by rw [hm.next]; exact hto.2) (hm.b0 _ (by omega)).1, idx_lt (d := 0) (by rw [hm.held]; exact hi), wrap_succ (by omega)]
      simp only [Option.bind_some]
      cases hs : storedB t
      · rw [cnd_false, mix_conf_tab N p m t i _ _ a a _ hN (by omega) hp ht (by omega) hR.2.1 hR.2.2 hR.1 hF.2.1 hF.2.2 (fun v => by unfold wrB; rw [hs, hF.1]; rfl)]
      · rw [cnd_true, mix_conf_tab N p m t i _ _ a a _ hN (by omega) hp ht (by omega) hR.2.1 hR.2.2 hR.1 hH.1 hH.2 (fun v => by unfold wrB; rw [hs]; rfl)])
    (fun n a => by
      rw [Sh.mix_conflicts_L1]
      simp only [join_eq]
      rw [cnd_neg (by omega)]) N [] (by omega) (by simp; omega)]
  rfl
theorem ref_conflicts_eq (N : Nat) (p : ApiProblem) (m : ApiMix) (hN : N ≤ 1000000) (h20 : 20 ≤ N) (hp : ProbOk p) (hm : MixOk p m) : Sh.sheaveref36_Found N p m = some (conflictsF p m) := by
  unfold Sh.sheaveref36_Found
  have hnt := hp.nt
  rw [loop_flat (Sh.sheaveref36_Found_L1 N p m _) (fun a k => (a, k)) p.fTables some (tabConf m) 42 9000
    (fun i t hx => tabConf_len hp (tab_ok (hp.tab t (List.mem_of_getElem? hx))) i m)
    (fun n i t a hx ha => by
      have hi := (List.getElem?_eq_some_iff.1 hx).1
      have ht := tab_ok (hp.tab t (List.mem_of_getElem? hx))
      have hto := ht.to0
      have hfr := ht.from0
      have hF := serv_run hp hm.toMixServ (s := t.fFrom.toNat) (by omega)
      have hH := hm.range i hi
      rw [Sh.sheaveref36_Found_L1]
      simp only [join_eq]
      rw [cnd_pos (by omega), idx_nat, hx]
      simp only [Option.bind_some, ref_stored_eq]
      rw [ref_run_eq N m t.fFrom hfr.1 (by rw [hm.base]; exact hfr.2) (by rw [hm.next]; exact hfr.2) (hm.b0 _ (by omega)).1, idx_lt (d := 0) (by rw [hm.held]; exact hi), wrap_succ (by omega)]
      simp only [Option.bind_some]
      cases hs : storedB t
      · rw [cnd_false, ref_conf_tab N p m t i _ a a _ hN (by omega) hp hm.toMixServ ht (by omega) hF.2.1 hF.2.2 (fun v => by unfold wrB; rw [hs, hF.1]; rfl)]
      · rw [cnd_true, ref_conf_tab N p m t i _ a a _ hN (by omega) hp hm.toMixServ ht (by omega) hH.1 hH.2 (fun v => by unfold wrB; rw [hs]; rfl)])
    (fun n a => by
      rw [Sh.sheaveref36_Found_L1]
      simp only [join_eq]
      rw [cnd_neg (by omega)]) N [] (by omega) (by simp; omega)]
  rfl
end Go.Lift
