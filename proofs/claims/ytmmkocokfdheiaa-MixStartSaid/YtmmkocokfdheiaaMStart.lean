/- Lemmas for MixStartSaid, which YtmmkocokfdheiaaFin10 proves. -/
/- The first mix in plain words, and the law MixStart. -/
import Derived.Test.YtmmkocokfdheiaaMLaw36b
import Derived.KernelRfl
namespace Go.Lift
open Go
def holdS (p : ApiProblem) (t : ApiTable) : Int := if storedB t = true then shlI .u8 1 (p.fNow.getD t.fFrom.toNat 0) else 0
def startM (p : ApiProblem) : ApiMix := ⟨p.fNow, List.replicate p.fNow.length (-1), p.fTables.map (holdS p)⟩
theorem repeat_eq (N : Nat) (h : 100 ≤ N) (n : Nat) (hn : n ≤ 6) : Sh.slices_Repeat_int_int N [(-1)] (n : Int) = some (List.replicate n (-1)) := by
  obtain ⟨k, rfl⟩ : ∃ k, N = k + 100 := ⟨N - 100, by omega⟩
  have : n = 0 ∨ n = 1 ∨ n = 2 ∨ n = 3 ∨ n = 4 ∨ n = 5 ∨ n = 6 := by omega
  rcases this with rfl | rfl | rfl | rfl | rfl | rfl | rfl
  all_goals (show _ = _; kernel_rfl)
theorem set_step (T : List Int) (i : Nat) (hi : i < T.length) : (T.take i ++ List.replicate (T.length - i) 0).set i (T.getD i 0) = T.take (i + 1) ++ List.replicate (T.length - (i + 1)) 0 := by
  have hl : (T.take i).length = i := by simp; omega
  rw [List.set_append_right _ _ (by omega), hl, Nat.sub_self, show T.length - i = (T.length - (i + 1)) + 1 from by omega, List.replicate_succ, List.set_cons_zero, List.take_add_one, List.append_assoc]
  have : T[i]? = some (T.getD i 0) := by rw [List.getD_eq_getElem?_getD]; simp [hi]
  rw [this]; rfl
theorem keep_step (T : List Int) (i : Nat) (hi : i < T.length) (h0 : T.getD i 0 = 0) : T.take i ++ List.replicate (T.length - i) 0 = T.take (i + 1) ++ List.replicate (T.length - (i + 1)) 0 := by
  rw [← set_step T i hi, h0, List.set_append_right _ _ (by rw [List.length_take]; omega)]
  congr 1
  have hl : (T.take i).length = i := by simp; omega
  rw [hl, Nat.sub_self, show T.length - i = (T.length - (i + 1)) + 1 from by omega, List.replicate_succ, List.set_cons_zero]
theorem now_at {p : ApiProblem} (hv : validP p = 0) {t : ApiTable} (ht : t ∈ p.fTables) : 0 ≤ t.fFrom ∧ t.fFrom.toNat < p.fNow.length ∧ 0 ≤ p.fNow.getD t.fFrom.toNat 0 ∧ p.fNow.getD t.fFrom.toNat 0 < 6 ∧ p.fNow.getD t.fFrom.toNat 0 < p.fVersions.getD t.fFrom.toNat 0 ∧ t.fFrom.toNat < p.fVersions.length := by
  obtain ⟨hp, hr⟩ := valid_prob hv
  have h1 := tab_in (hp.tab t ht)
  have h2 := hr t.fFrom.toNat (by omega)
  have h3 := ver_at hp (i := t.fFrom.toNat) (by omega)
  have := hp.now
  refine ⟨h1.1, by omega, h2.1, by omega, h2.2.1, by omega⟩
theorem holdS_at {p : ApiProblem} {i : Nat} {t : ApiTable} (ht : p.fTables[i]? = some t) : (p.fTables.map (holdS p)).getD i 0 = holdS p t := by
  rw [List.getD_eq_getElem?_getD, List.getElem?_map, ht]; rfl
theorem mix_start_eq (N : Nat) (p : ApiProblem) (hN : N ≤ 1000000) (h20 : 100 ≤ N) : Sh.mix_Start N p = some (if validP p = 0 then startM p else ⟨[], [], []⟩, validP p) := by
  unfold Sh.mix_Start
  rw [fleet_validP N p hN (by omega)]
  simp only [Option.bind_some]
  by_cases hv : validP p = 0
  · rw [if_pos hv, hv]
    obtain ⟨hp, _⟩ := valid_prob hv
    have hnv := hp.nv
    have hnt := hp.nt
    have hnow := hp.now
    rw [bne_self_eq_false, cnd_false, clone_int N _ (by simp only [lim]; omega)]
    simp only [Option.bind_some]
    rw [repeat_eq N h20 _ (by omega)]
    simp only [Option.bind_some]
    rw [chk_bind_true (by simp only [lim]; omega)]
    obtain ⟨a', e, ha⟩ := loop_ex (Sh.mix_Start_L6 N p fun v7 => some (ApiMix.mk p.fNow (List.replicate p.fNow.length (-1)) v7, 0)) (fun a i => (a, i)) p.fTables.length (fun v7 => some (ApiMix.mk p.fNow (List.replicate p.fNow.length (-1)) v7, 0))
      (fun i a => a = (p.fTables.map (holdS p)).take i ++ List.replicate ((p.fTables.map (holdS p)).length - i) 0)
      (fun n i a hi ha => by
        have hx : p.fTables[i]? = some p.fTables[i] := by simp [hi]
        have hm : p.fTables[i] ∈ p.fTables := List.getElem_mem hi
        obtain ⟨n1, n2, n3, n4, _⟩ := now_at hv hm
        rw [Sh.mix_Start_L6, cnd_pos (by simp only; omega)]
        simp only [join_eq, idx_nat, hx, Option.bind_some, mix_stored_eq, wrap_succ (show i < 1000000 by omega)]
        have hal : i < (p.fTables.map (holdS p)).length := by simpa using hi
        cases hs : storedB p.fTables[i]
        · rw [cnd_false]
          refine ⟨a, rfl, ?_⟩
          rw [ha]
          exact keep_step _ _ hal (by rw [holdS_at hx]; unfold holdS; rw [hs]; rfl)
        · rw [cnd_true]
          have e1 : idx p.fNow p.fTables[i].fFrom = some (p.fNow.getD p.fTables[i].fFrom.toNat 0) := by
            obtain ⟨q, hq⟩ := Int.eq_ofNat_of_zero_le n1
            rw [hq]; exact idx_lt (by rw [hq] at n2; simpa using n2)
          rw [e1]
          simp only [Option.bind_some]
          rw [chk_bind_true n3]
          have hl : i < a.length := by rw [ha]; simp; omega
          have e2 : a[i]? = some a[i] := by simp [hl]
          rw [e2]
          simp only [Option.bind_some]
          refine ⟨_, rfl, ?_⟩
          rw [← set_step _ _ hal, holdS_at hx, ha]
          unfold holdS; rw [hs]; rfl)
      (fun n a ha => by rw [Sh.mix_Start_L6, cnd_neg (by simp)]) N 0 (List.replicate p.fTables.length 0) (Nat.zero_le _) (by omega) (by simp)
    have e' : Sh.mix_Start_L6 N p (fun v7 => some (ApiMix.mk p.fNow (List.replicate p.fNow.length (-1)) v7, 0)) N (List.replicate ((p.fTables.length : Int)).toNat (0 : Int), 0) = _ := e
    rw [e', ha]
    have e5 : (p.fTables.map (holdS p)).take p.fTables.length = p.fTables.map (holdS p) := List.take_of_length_le (by simp)
    simp [startM, e5]
  · rw [if_neg hv, bne_iff_ne.2 hv, cnd_true]
theorem ref_start_eq (N : Nat) (p : ApiProblem) (hN : N ≤ 1000000) (h20 : 100 ≤ N) : Sh.sheaveref36_Start N p = some (if validP p = 0 then startM p else ⟨[], [], []⟩, validP p) := by
  unfold Sh.sheaveref36_Start
  rw [ref_validP N p hN (by omega)]
  simp only [Option.bind_some]
  by_cases hv : validP p = 0
  · rw [if_pos hv, hv]
    obtain ⟨hp, _⟩ := valid_prob hv
    have hnv := hp.nv
    have hnt := hp.nt
    have hnow := hp.now
    rw [bne_self_eq_false, cnd_false]
    obtain ⟨a', e, ha⟩ := loop_ex (Sh.sheaveref36_Start_L3 N p fun v4 => Sh.sheaveref36_Start_L9 N p (fun v10 => some (ApiMix.mk v4.1 v4.2 v10, 0)) N (([] : List Int), 0)) (fun a i => (a.1, a.2, i)) p.fVersions.length (fun v4 => Sh.sheaveref36_Start_L9 N p (fun v10 => some (ApiMix.mk v4.1 v4.2 v10, 0)) N (([] : List Int), 0))
      (fun i a => a = (p.fNow.take i, List.replicate i (-1)))
      (fun n i a hi ha => by
        subst ha
        rw [Sh.sheaveref36_Start_L3, cnd_pos (by simp only; omega)]
        have hx : p.fNow[i]? = some p.fNow[i] := by simp [show i < p.fNow.length from by omega]
        simp only [idx_nat, hx, Option.bind_some, wrap_succ (show i < 1000000 by omega)]
        rw [chk_bind_true (by simp [lim]; omega), chk_bind_true (by simp [lim]; omega)]
        refine ⟨(p.fNow.take i ++ [p.fNow[i]], List.replicate i (-1) ++ [-1]), rfl, ?_⟩
        rw [List.take_add_one, hx, List.replicate_succ']; rfl)
      (fun n a ha => by rw [Sh.sheaveref36_Start_L3, cnd_neg (by simp)]) N 0 ([], []) (Nat.zero_le _) (by omega) rfl
    have e' : Sh.sheaveref36_Start_L3 N p (fun v4 => Sh.sheaveref36_Start_L9 N p (fun v10 => some (ApiMix.mk v4.1 v4.2 v10, 0)) N (([] : List Int), 0)) N (([] : List Int), ([] : List Int), 0) = _ := e
    rw [e', ha]
    simp only
    obtain ⟨b', e2, hb⟩ := loop_ex (Sh.sheaveref36_Start_L9 N p fun v10 => some (ApiMix.mk (p.fNow.take p.fVersions.length) (List.replicate p.fVersions.length (-1)) v10, 0)) (fun a i => (a, i)) p.fTables.length (fun v10 => some (ApiMix.mk (p.fNow.take p.fVersions.length) (List.replicate p.fVersions.length (-1)) v10, 0))
      (fun i a => a = (p.fTables.map (holdS p)).take i)
      (fun n i a hi ha => by
        subst ha
        have hx : p.fTables[i]? = some p.fTables[i] := by simp [hi]
        have hm : p.fTables[i] ∈ p.fTables := List.getElem_mem hi
        obtain ⟨n1, n2, n3, n4, _⟩ := now_at hv hm
        rw [Sh.sheaveref36_Start_L9, cnd_pos (by simp only; omega)]
        simp only [join_eq, idx_nat, hx, Option.bind_some, ref_stored_eq, wrap_succ (show i < 1000000 by omega)]
        have hT : (p.fTables.map (holdS p))[i]? = some (holdS p p.fTables[i]) := by rw [List.getElem?_map, hx]; rfl
        have hlen : ((p.fTables.map (holdS p)).take i).length + 1 ≤ lim := by simp [lim]; omega
        cases hs : storedB p.fTables[i]
        · rw [cnd_false, chk_bind_true (by simpa using hlen)]
          refine ⟨_, rfl, ?_⟩
          rw [List.take_add_one, hT]
          unfold holdS; rw [hs]; rfl
        · rw [cnd_true]
          have e1 : idx p.fNow p.fTables[i].fFrom = some (p.fNow.getD p.fTables[i].fFrom.toNat 0) := by
            obtain ⟨q, hq⟩ := Int.eq_ofNat_of_zero_le n1
            rw [hq]; exact idx_lt (by rw [hq] at n2; simpa using n2)
          rw [e1]
          simp only [Option.bind_some]
          rw [chk_bind_true n3, chk_bind_true (by simpa using hlen)]
          refine ⟨_, rfl, ?_⟩
          rw [List.take_add_one, hT]
          unfold holdS; rw [hs]; rfl)
      (fun n a ha => by rw [Sh.sheaveref36_Start_L9, cnd_neg (by simp)]) N 0 [] (Nat.zero_le _) (by omega) rfl
    have e3 : Sh.sheaveref36_Start_L9 N p (fun v10 => some (ApiMix.mk (p.fNow.take p.fVersions.length) (List.replicate p.fVersions.length (-1)) v10, 0)) N (([] : List Int), 0) = _ := e2
    rw [e3, hb]
    simp only [startM, ← hnow, List.take_length]
    rw [show p.fTables.length = (p.fTables.map (holdS p)).length from by simp, List.take_length]
  · rw [if_neg hv, bne_iff_ne.2 hv, cnd_true]
theorem start_ok {p : ApiProblem} (hv : validP p = 0) : MixOk p (startM p) := by
  obtain ⟨hp, hr⟩ := valid_prob hv
  have hnow := hp.now
  have hnx : ∀ i, i < p.fVersions.length → (List.replicate p.fNow.length (-1 : Int)).getD i 0 = -1 := fun i hi => by
    rw [List.getD_eq_getElem?_getD, List.getElem?_replicate, if_pos (by omega)]; rfl
  have hone : ∀ (i : Nat) (t : ApiTable), p.fTables[i]? = some t → ∃ b : Nat, b < 6 ∧ p.fNow.getD t.fFrom.toNat 0 = (b : Int) ∧ (b : Int) < p.fVersions.getD t.fFrom.toNat 0 ∧ t.fFrom.toNat < p.fVersions.length := fun i t ht => by
    obtain ⟨n1, n2, n3, n4, n5, n6⟩ := now_at hv (List.mem_of_getElem? ht)
    obtain ⟨b, hb⟩ := Int.eq_ofNat_of_zero_le n3
    exact ⟨b, by omega, hb, by omega, n6⟩
  have hbit : ∀ b : Nat, b < 8 → ∀ v, bitB (shlI .u8 1 (b : Int)) v = decide (b = v) := fun b hb v => by
    by_cases h : v < 8
    · exact (run_one ⟨b, hb⟩ ⟨v, h⟩).1
    · rw [bit_big (run_one ⟨b, hb⟩ ⟨0, by omega⟩).2.2 (by omega)]
      symm; apply decide_eq_false; omega
  refine { base := hnow, next := by simp [startM, hnow], held := by simp [startM], b0 := fun i hi => ⟨(hr i hi).1, (hr i hi).2.1⟩, n0 := fun i hi => ?_, ne := fun i hi => ?_, range := fun i hi => ?_, low := fun i t ht hs v hv' => ?_, high := fun i t ht hs v hb => ?_, none := fun i t ht hs => ?_ }
  · show -1 ≤ (List.replicate p.fNow.length (-1 : Int)).getD i 0 ∧ (List.replicate p.fNow.length (-1 : Int)).getD i 0 < _
    rw [hnx i hi]
    have := ver_at hp hi
    omega
  · show p.fNow.getD i 0 ≠ (List.replicate p.fNow.length (-1 : Int)).getD i 0
    rw [hnx i hi]
    have := hr i hi
    omega
  · have hx : p.fTables[i]? = some p.fTables[i] := by simp [hi]
    show 0 ≤ (p.fTables.map (holdS p)).getD i 0 ∧ (p.fTables.map (holdS p)).getD i 0 ≤ 255
    rw [holdS_at hx]
    unfold holdS
    split
    · obtain ⟨b, h1, h2, _⟩ := hone i _ hx
      rw [h2]
      exact (run_one ⟨b, by omega⟩ ⟨0, by omega⟩).2
    · omega
  · show bitB ((p.fTables.map (holdS p)).getD i 0) v = true
    obtain ⟨b, h1, h2, h3, h4⟩ := hone i t ht
    rw [holdS_at ht]
    unfold holdS
    rw [if_pos hs, h2, hbit b (by omega)]
    unfold runB at hv'
    have h5 : (startM p).fBase.getD t.fFrom.toNat 0 = (b : Int) := h2
    have h6 : (startM p).fNext.getD t.fFrom.toNat 0 = -1 := hnx _ h4
    rw [h5, h6, Bool.or_eq_true, decide_eq_true_iff, decide_eq_true_iff] at hv'
    apply decide_eq_true; omega
  · have hb : bitB ((p.fTables.map (holdS p)).getD i 0) v = true := hb
    obtain ⟨b, h1, h2, h3, h4⟩ := hone i t ht
    rw [holdS_at ht] at hb
    unfold holdS at hb
    rw [if_pos hs, h2, hbit b (by omega), decide_eq_true_iff] at hb
    omega
  · show (p.fTables.map (holdS p)).getD i 0 = 0
    rw [holdS_at ht]; unfold holdS; rw [hs]; rfl
theorem start_valid {p : ApiProblem} (hv : validP p = 0) : validM p (startM p) = 0 := ok_valid hv (start_ok hv)
theorem mixStart_plain (p : ApiProblem) (_ : wApiProblem p) : Sh.sheavelaw36_MixStart 1000 p = some true := by
  unfold Sh.sheavelaw36_MixStart
  simp only [join_eq, awake_true, Option.bind_some, Bool.not_true, cnd_false]
  obtain ⟨b1, e1⟩ := ref35_few 1000 (by omega) (by omega) p
  rw [e1]
  simp only [Option.bind_some]
  cases b1
  · rfl
  simp only [Bool.not_true, cnd_false]
  rw [mix_start_eq 1000 p (by omega) (by omega), ref_start_eq 1000 p (by omega) (by omega)]
  simp only [Option.bind_some, beq_self_eq_true, cnd_true]
  by_cases hv : validP p = 0
  · obtain ⟨hp, _⟩ := valid_prob hv
    rw [if_pos hv, ref_eq_ok (by omega) (by omega) hp (start_ok hv)]
    simp only [Option.bind_some, cnd_true, hv, bne_self_eq_false, cnd_false]
    rw [mix_valid_eq 1000 p _ (by omega) (by omega) (ok_u8 (start_ok hv)), start_valid hv]; rfl
  · rw [if_neg hv, ref_eq_self (by omega) (by simp) (by simp) (by simp) (fun y hy => by simp at hy)]
    simp only [Option.bind_some, cnd_true, bne_iff_ne.2 hv]
end Go.Lift
