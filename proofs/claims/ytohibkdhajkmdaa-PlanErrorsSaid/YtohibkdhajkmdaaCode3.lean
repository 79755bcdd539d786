/- Lemmas for PlanErrorsSaid, which YtohibkdhajkmdaaFinP10 proves. -/
import Derived.Test.YtohibkdhajkmdaaCode2
/- That the code does what the shallow programs do, function by function. Written by a program (gen.py). -/
namespace Go.Lift
open Go.RowKit
open Go.Proofs
set_option maxRecDepth 10000 in
theorem plan_Trim_c (N : Nat) (p0 : ApiProblem) (p1 : List ApiStep) (r : (List ApiStep) × Int) (h : Sh.plan_Trim N p0 p1 = some r) : Contract Try.prog 31 [.e (.agg [.pure (.sl (p0.fVersions.map eI64)), .pure (.sl (p0.fNow.map eI64)), .pure (.sl (p0.fTarget.map eI64)), .pure (.sl (p0.fTables.map eApiTable))]), .e (.one (.pure (.sl (p1.map eApiStep))))] [(3, r.1.map eApiStep)] (.tup [.one (.own 0), .one (.pure (.val (.int .i64 r.2)))]) := by
  unfold Sh.plan_Trim at h
  refine contract_of_W (n := 39) (rs := [.tmp 4, .tmp 5]) Try.func31 rfl rfl rfl (leb rfl) (leb rfl) rfl fun w0 S0 => ?_
  refine W_seq (W_region mixed rfl (r_box (.p rfl) rfl rfl (r_assign (.p rfl) rfl (r_assign (.p rfl) rfl (r_end (W_seq (W_seq (W_region mixed rfl (r_loadN (.p rfl) rfl ag30 sz30 rfl rfl rfl ?_)))))))))
  obtain ⟨v1, a1, h⟩ := bind_some h
  refine r_call (ds0 := [_]) [] (fleet_ValidProblem_c N p0 v1 a1) (.p rfl) gd61 rfl ⟨rfl, trivial⟩ rfl rfl rfl (nodupL_spec rfl) trivial rfl (r_assign (.p rfl) rfl (r_end (W_seq (W_region mixed rfl (r_move (.p rfl) rfl (r_bin (.p rfl) rfl rfl (bin_neq _ _ _ _ _ _) rfl (r_end ?_)))))))
  refine W_cond rfl (fun c2 => ?_) (fun c2 => ?_)
  · have h := cnd_t c2 h
    refine W_seq (W_region mixed rfl (r_move (.p rfl) rfl (r_assign (.p rfl) rfl (r_assign (.p rfl) rfl (r_end ?_)))))
    obtain rfl := Option.some.inj h
    refine W_sees ((sees_adopt 4 2001 3 rfl rfl rfl).trans (sees_mkL (rn [(1000, 2001)]) [(4, .e (.one (.own 1000))), (5, .e (.one (.pure (.val (.int .i64 v1)))))] [(1000, .vec 3 ((([] : List ApiStep)).map eApiStep))] ⟨rfl, rfl, trivial⟩ ⟨rfl, trivial⟩ rfl rfl)) (W_ret ?_)
    exact ⟨⟨[_, _], ⟨.tmp _ _ rfl, ⟨.tmp _ _ rfl, trivial⟩⟩, rfl⟩, ⟨rfl, trivial⟩⟩
  · have h := cnd_f c2 h
    refine W_skip (W_seq (W_seq (W_region mixed rfl (r_loadN (.p rfl) rfl ag30 sz30 rfl rfl rfl (r_move (.p rfl) rfl ?_)))))
    obtain ⟨v3, a3, h⟩ := bind_some h
    refine r_call (ds0 := [_, _]) [] (plan_Check_c N p0 p1 v3 a3) (.p rfl) gd16 rfl ⟨rfl, rfl, trivial⟩ rfl rfl rfl (nodupL_spec rfl) trivial rfl (r_un (.p rfl) rfl (un_not _) rfl (r_end ?_))
    refine W_cond rfl (fun c4 => ?_) (fun c4 => ?_)
    · have h := cnd_t c4 h
      refine W_seq (W_region mixed rfl (r_assign (.p rfl) rfl (r_assign (.p rfl) rfl (r_end ?_))))
      obtain rfl := Option.some.inj h
      refine W_sees ((sees_adopt 4 2002 3 rfl rfl rfl).trans (sees_mkL (rn [(1000, 2002)]) [(4, .e (.one (.own 1000))), (5, .e (.one (.pure (.val (.int .i64 13)))))] [(1000, .vec 3 ((([] : List ApiStep)).map eApiStep))] ⟨rfl, rfl, trivial⟩ ⟨rfl, trivial⟩ rfl rfl)) (W_ret ?_)
      exact ⟨⟨[_, _], ⟨.tmp _ _ rfl, ⟨.tmp _ _ rfl, trivial⟩⟩, rfl⟩, ⟨rfl, trivial⟩⟩
    · have h := cnd_f c4 h
      refine W_skip (W_seq (W_region mixed rfl (r_move (.p rfl) rfl ?_)))
      obtain ⟨v5, a5, h⟩ := bind_some h
      refine r_call (ds0 := [_]) [2003] (slices_Clone_api_Step_api_Step_c N p1 v5 a5) (.p rfl) gd62 rfl ⟨rfl, trivial⟩ rfl rfl rfl (nodupL_spec rfl) ⟨rfl, trivial⟩ rfl (r_assign (.p rfl) rfl (r_end (W_seq (W_seq (W_region mixed rfl (r_move (.p rfl) rfl (r_len (.p rfl) rfl (.own _ _ _) ⟨rfl, trivial⟩ (List.length_map _) slc33 (r_bin (.p rfl) rfl rfl (bin_sub _ _ _ _ _ _) rfl (r_assign (.p rfl) rfl (r_end ?_))))))))))
      refine W_whileE (L := Sh.plan_Trim_L6 N p0) h (fun v6 => mk [(2, .e (.one (.ptr 2 0))), (7, .e (.one (.own 2004))), (8, .e (.one (.pure (.val (.int .i64 v6.2)))))] [(2, .box [.pure (.sl (p0.fVersions.map eI64)), .pure (.sl (p0.fNow.map eI64)), .pure (.sl (p0.fTarget.map eI64)), .pure (.sl (p0.fTables.map eApiTable))]), (2004, .vec 3 (v6.1.map eApiStep))]) (fun v7 => mk [(7, .e (.one (.own 2005)))] [(2005, .vec 3 (v7.map eApiStep))]) (fun _ _ => rfl) (sees_mkL (rn [(2004, 2003)]) _ _ ⟨rfl, rfl, rfl, trivial⟩ ⟨rfl, rfl, trivial⟩ rfl rfl) (fun j6 n6 v6 h => ?_) (fun v7 s h hs => ?_)
      · unfold Sh.plan_Trim_L6 at h
        refine W_seq (W_seq (W_region mixed rfl (r_move (.p rfl) rfl (r_bin (.p rfl) rfl rfl (bin_geq _ _ _ _ _ _) rfl (r_end ?_)))))
        refine W_cond rfl (fun c8 => ?_) (fun c8 => ?_)
        · have h := cnd_t c8 h
          refine W_skip ?_
          refine W_join h (fun v9 => mk [(2, .e (.one (.ptr 2 0))), (7, .e (.one (.own 2006))), (8, .e (.one (.pure (.val (.int .i64 v6.2)))))] [(2, .box [.pure (.sl (p0.fVersions.map eI64)), .pure (.sl (p0.fNow.map eI64)), .pure (.sl (p0.fTarget.map eI64)), .pure (.sl (p0.fTables.map eApiTable))]), (2006, .vec 3 (v9.map eApiStep))]) (fun j9 h => ?_) (fun v9 h => ?_)
          · refine W_block (W_seq (W_region mixed rfl (r_move (.p rfl) rfl ?_)))
            obtain ⟨v10, a10, h⟩ := bind_some h
            refine r_callL (ds0 := [_]) [2007] [(2004, _)] (slices_Clone_api_Step_api_Step_c N v6.1 v10 a10) (.p rfl) gd62 rfl ⟨rfl, trivial⟩ ⟨rfl, trivial⟩ rfl rfl rfl (nodupL_spec rfl) ⟨rfl, trivial⟩ rfl (flatV_cons (fun _ => rfl) flatV_nil) rfl ?_
            refine r_move (.p rfl) rfl (r_move (.p rfl) rfl (r_bin (.p rfl) rfl rfl (bin_add _ _ _ _ _ _) rfl ?_))
            obtain ⟨v11, a11, h⟩ := bind_some h
            obtain ⟨c12, h⟩ := chk_bind h
            have w13 : 0 + v11.1 ≤ v11.2.length := by rw [Nat.zero_add]; exact c12
            refine r_callM (ds0 := [_, _, _]) [2007] [] [true] (slices_Delete_api_Step_api_Step_c N v10 v6.2 ((IntKind.wrap .i64 (v6.2 + 1))) v11 a11) (.p rfl) gd63 rfl ⟨rfl, rfl, rfl, trivial⟩ rfl rfl (by decide) ⟨rfl, trivial⟩ rfl (nodupL_spec rfl) trivial ⟨(fun h => by cases h), trivial⟩ rfl rfl rfl ?_
            refine r_see (ts_cut eApiStep v11.2 33 2007 2008 3 v11.1 rfl rfl rfl rfl rfl c12) (r_assign (.p rfl) rfl (r_end (W_seq (W_region mixed rfl (r_loadN (.p rfl) rfl ag30 sz30 rfl rfl rfl (r_move (.p rfl) rfl ?_))))))
            obtain ⟨v14, a14, h⟩ := bind_some h
            refine r_callL (ds0 := [_, _]) [] [(2008, _)] (plan_Check_c N p0 (v11.2.take v11.1) v14 a14) (.p rfl) gd16 rfl ⟨rfl, rfl, trivial⟩ ⟨rfl, trivial⟩ rfl rfl rfl (nodupL_spec rfl) trivial rfl flatV_nil rfl (r_end ?_)
            refine W_cond rfl (fun c15 => ?_) (fun c15 => ?_)
            · have h := cnd_t c15 h
              refine W_region mixed rfl (r_move (.p rfl) rfl (r_assign (.p rfl) rfl (r_end ?_)))
              exact sink (v11.2.take v11.1) h (sees_mkL (rn [(2006, 2008)]) _ _ ⟨rfl, rfl, rfl, trivial⟩ ⟨rfl, rfl, trivial⟩ rfl rfl)
            · have h := cnd_f c15 h
              refine W_skip ?_
              exact sink v6.1 h (sees_mkL (rn [(2006, 2004)]) _ _ ⟨rfl, rfl, rfl, trivial⟩ ⟨rfl, rfl, trivial⟩ rfl rfl)
          · refine W_region mixed rfl (r_move (.p rfl) rfl (r_bin (.p rfl) rfl rfl (bin_sub _ _ _ _ _ _) rfl (r_assign (.p rfl) rfl (r_end ?_))))
            exact sink (v9, (IntKind.wrap .i64 (v6.2 - 1))) h (sees_mkL (rn [(2004, 2006)]) _ _ ⟨rfl, rfl, rfl, trivial⟩ ⟨rfl, rfl, trivial⟩ rfl rfl)
        · have h := cnd_f c8 h
          refine W_exit ?_
          exact sink v6.1 h (sees_mkL (rn [(2005, 2004)]) _ _ ⟨rfl, trivial⟩ ⟨rfl, trivial⟩ rfl rfl)
      · refine W_sees hs (W_seq (W_region mixed rfl (r_move (.p rfl) rfl (r_assign (.p rfl) rfl (r_assign (.p rfl) rfl (r_end ?_))))))
        obtain rfl := Option.some.inj h
        refine W_sees (sees_mkL (rn [(1000, 2005)]) [(4, .e (.one (.own 1000))), (5, .e (.one (.pure (.val (.int .i64 0)))))] [(1000, .vec 3 (v7.map eApiStep))] ⟨rfl, rfl, trivial⟩ ⟨rfl, trivial⟩ rfl rfl) (W_ret ?_)
        exact ⟨⟨[_, _], ⟨.tmp _ _ rfl, ⟨.tmp _ _ rfl, trivial⟩⟩, rfl⟩, ⟨rfl, trivial⟩⟩
set_option maxRecDepth 10000 in
theorem plan_Reversible_1_c (N : Nat) (p0 : Int) (r : Bool) (h : Sh.plan_Reversible_1 N p0 = some r) : Contract Try.prog 67 [.e (.one (.pure (.val (.int .i64 p0))))] [] (.e (.one (.pure (.val (.bool r))))) := by
  unfold Sh.plan_Reversible_1 at h
  refine contract_of_W (n := 5) (rs := [.tmp 2]) Try.func67 rfl rfl rfl (leb rfl) (leb rfl) rfl fun w0 S0 => ?_
  refine W_seq (W_region mixed rfl (r_assign (.p rfl) rfl (r_end (W_seq (W_region mixed rfl (r_move (.p rfl) rfl (r_bin (.p rfl) rfl rfl (bin_geq _ _ _ _ _ _) rfl (r_assign (.p rfl) rfl (r_end ?_)))))))))
  obtain rfl := Option.some.inj h
  refine W_sees (sees_mkL (rn []) [(2, .e (.one (.pure (.val (.bool ((decide (0 ≤ p0))))))))] [] ⟨rfl, trivial⟩ trivial rfl rfl) (W_ret ?_)
  exact ⟨⟨[_], ⟨.tmp _ _ rfl, trivial⟩, rfl⟩, trivial⟩
set_option maxRecDepth 10000 in
theorem step_Run_c (N : Nat) (p0 : ApiProblem) (p1 : ApiMix) (p2 : List ApiStep) (r : (List ApiMix) × Int × Int) (h : Sh.step_Run N p0 p1 p2 = some r) : Contract Try.prog 69 [.e (.agg [.pure (.sl (p0.fVersions.map eI64)), .pure (.sl (p0.fNow.map eI64)), .pure (.sl (p0.fTarget.map eI64)), .pure (.sl (p0.fTables.map eApiTable))]), .e (.agg [.pure (.sl (p1.fBase.map eI64)), .pure (.sl (p1.fNext.map eI64)), .pure (.sl (p1.fHeld.map eU8))]), .e (.one (.pure (.sl (p2.map eApiStep))))] [(3, r.1.map eApiMix)] (.tup [.one (.own 0), .one (.pure (.val (.int .i64 r.2.1))), .one (.pure (.val (.int .i64 r.2.2)))]) := by
  unfold Sh.step_Run at h
  refine contract_of_W (n := 53) (rs := [.tmp 6, .tmp 7, .tmp 8]) Try.func69 rfl rfl rfl (leb rfl) (leb rfl) rfl fun w0 S0 => ?_
  refine W_seq (W_region mixed rfl (r_box (.p rfl) rfl rfl (r_box (.p rfl) rfl rfl (r_assign (.p rfl) rfl (r_assign (.p rfl) rfl (r_assign (.p rfl) rfl (r_end (W_seq (W_seq (W_region mixed rfl (r_loadN (.p rfl) rfl ag30 sz30 rfl rfl rfl (r_loadN (.p rfl) rfl ag43 sz43 rfl rfl rfl ?_))))))))))))
  obtain ⟨v1, a1, h⟩ := bind_some h
  refine r_call (ds0 := [_, _]) [] (mix_Valid_c N p0 p1 v1 a1) (.p rfl) gd77 rfl ⟨rfl, rfl, trivial⟩ rfl rfl rfl (nodupL_spec rfl) trivial rfl (r_assign (.p rfl) rfl (r_end (W_seq (W_region mixed rfl (r_move (.p rfl) rfl (r_bin (.p rfl) rfl rfl (bin_neq _ _ _ _ _ _) rfl (r_end ?_)))))))
  refine W_cond rfl (fun c2 => ?_) (fun c2 => ?_)
  · have h := cnd_t c2 h
    refine W_seq (W_region mixed rfl (r_move (.p rfl) rfl (r_assign (.p rfl) rfl (r_assign (.p rfl) rfl (r_assign (.p rfl) rfl (r_end ?_))))))
    obtain rfl := Option.some.inj h
    refine W_sees ((sees_adopt 6 2001 3 rfl rfl rfl).trans (sees_mkL (rn [(1000, 2001)]) [(6, .e (.one (.own 1000))), (7, .e (.one (.pure (.val (.int .i64 0))))), (8, .e (.one (.pure (.val (.int .i64 v1)))))] [(1000, .vec 3 ((([] : List ApiMix)).map eApiMix))] ⟨rfl, rfl, rfl, trivial⟩ ⟨rfl, trivial⟩ rfl rfl)) (W_ret ?_)
    exact ⟨⟨[_, _, _], ⟨.tmp _ _ rfl, ⟨.tmp _ _ rfl, ⟨.tmp _ _ rfl, trivial⟩⟩⟩, rfl⟩, ⟨rfl, trivial⟩⟩
  · have h := cnd_f c2 h
    refine W_skip (W_seq (W_region mixed rfl (r_loadN (.p rfl) rfl ag43 sz43 rfl rfl rfl ?_)))
    obtain ⟨v3, a3, h⟩ := bind_some h
    refine r_call (ds0 := [_]) [2002, 2003, 2004] (step_cloned_c N p1 v3 a3) (.p rfl) gd93 rfl ⟨rfl, trivial⟩ rfl rfl rfl (nodupL_spec rfl) ⟨rfl, rfl, rfl, trivial⟩ rfl (r_see (sees_frz 2002 _ _ rfl rfl) (r_see (sees_frz 2003 _ _ rfl rfl) (r_see (sees_frz 2004 _ _ rfl rfl) (r_buildSlice [(0, .tmp 22, _)] (.p rfl) rfl ⟨rfl, trivial⟩ rfl slc89 sz43 zv43 rfl rfl (leb rfl) rfl rfl (r_assign (.p rfl) rfl (r_end (W_seq (W_seq (W_region mixed rfl (r_move (.p rfl) rfl (r_len (.p rfl) rfl (.sl _) trivial (List.length_map _) slc33 (r_move (.p rfl) rfl (r_end ?_)))))))))))))
    refine W_whileE (L := Sh.step_Run_L4 N p0 p2) h (fun v4 => mk [(2, .e (.one (.pure (.sl (p2.map eApiStep))))), (3, .e (.one (.ptr 3 0))), (10, .e (.one (.own 2005))), (24, .e (.one (.pure (.sl (p2.map eApiStep))))), (25, .e (.one (.pure (.val (.int .i64 ((p2.length : Int))))))), (26, .e (.one (.pure (.val (.int .i64 v4.2)))))] [(3, .box [.pure (.sl (p0.fVersions.map eI64)), .pure (.sl (p0.fNow.map eI64)), .pure (.sl (p0.fTarget.map eI64)), .pure (.sl (p0.fTables.map eApiTable))]), (2005, .vec 3 (v4.1.map eApiMix))]) (fun v5 => mk [(2, .e (.one (.pure (.sl (p2.map eApiStep))))), (10, .e (.one (.own 2006)))] [(2006, .vec 3 (v5.map eApiMix))]) (fun _ _ => rfl) (sees_mkL (rn [(2005, 23)]) _ _ ⟨rfl, rfl, rfl, rfl, rfl, rfl, trivial⟩ ⟨rfl, rfl, trivial⟩ rfl rfl) (fun j4 n4 v4 h => ?_) (fun v5 s h hs => ?_)
    · unfold Sh.step_Run_L4 at h
      refine W_seq (W_region mixed rfl (r_bin (.p rfl) rfl rfl (bin_lss _ _ _ _ _ _) rfl (r_end (W_seq ?_))))
      refine W_cond rfl (fun c6 => ?_) (fun c6 => ?_)
      · have h := cnd_t c6 h
        refine W_skip (W_seq (W_block (W_seq (W_region mixed rfl (r_move (.p rfl) rfl ?_)))))
        obtain ⟨v7, a7, b7, h⟩ := idx_bind h
        refine r_index (.p rfl) rfl rfl slc33 sz63 a7 (map_get b7) rfl (r_loadrN (.p rfl) rfl ag63 sz63 rfl rfl (r_alloc (.p rfl) zv63 rfl rfl rfl (r_assign (.p rfl) rfl (r_store rfl rfl rfl rfl sz63 rfl (leb rfl) rfl (r_end (W_seq (W_region mixed rfl (r_loadN (.p rfl) rfl ag30 sz30 rfl rfl rfl (r_move (.p rfl) rfl (r_move (.p rfl) rfl ?_))))))))))
        obtain ⟨v8, a8, b8, h⟩ := idx_bind h
        refine r_indexo (.p rfl) rfl rfl rfl slc89 sz43 a8 (map_get b8) (r_loadeN (.p rfl) rfl ag43 sz43 rfl (map_get b8) (r_loadN (.p rfl) rfl ag63 sz63 rfl rfl rfl ?_))
        obtain ⟨v9, a9, h⟩ := bind_some h
        refine r_call (ds0 := [_, _, _]) [2007, 2008, 2009] (step_apply_c N p0 v8 v7 v9 a9) (.p rfl) gd78 rfl ⟨rfl, rfl, rfl, trivial⟩ rfl rfl rfl (nodupL_spec rfl) ⟨rfl, rfl, rfl, trivial⟩ rfl (r_move (.p rfl) rfl (r_extract (.p rfl) rfl rfl (r_extract (.p rfl) rfl rfl (r_alloc (.p rfl) zv43 rfl rfl rfl (r_store rfl rfl rfl rfl sz43 rfl (leb rfl) rfl (r_assign (.p rfl) rfl ?_))))))
        refine r_endD (by kernel_rfl) ?_
        refine W_seq (W_seq (W_region mixed rfl (r_move (.p rfl) rfl (r_bin (.p rfl) rfl rfl (bin_neq _ _ _ _ _ _) rfl (r_end ?_)))))
        refine W_cond rfl (fun c10 => ?_) (fun c10 => ?_)
        · have h := cnd_t c10 h
          refine W_seq (W_region mixed rfl (r_move (.p rfl) rfl (r_move (.p rfl) rfl (r_assign (.p rfl) rfl (r_assign (.p rfl) rfl (r_assign (.p rfl) rfl (r_end ?_)))))))
          obtain rfl := Option.some.inj h
          refine W_sees ((sees_adopt 6 2010 3 rfl rfl rfl).trans (sees_mkL (rn [(1000, 2010)]) [(6, .e (.one (.own 1000))), (7, .e (.one (.pure (.val (.int .i64 v4.2))))), (8, .e (.one (.pure (.val (.int .i64 v9.2)))))] [(1000, .vec 3 ((([] : List ApiMix)).map eApiMix))] ⟨rfl, rfl, rfl, trivial⟩ ⟨rfl, trivial⟩ rfl rfl)) (W_ret ?_)
          exact ⟨⟨[_, _, _], ⟨.tmp _ _ rfl, ⟨.tmp _ _ rfl, ⟨.tmp _ _ rfl, trivial⟩⟩⟩, rfl⟩, ⟨rfl, trivial⟩⟩
        · have h := cnd_f c10 h
          refine W_skip (W_region mixed rfl (r_move (.p rfl) rfl (r_loadN (.p rfl) rfl ag43 sz43 rfl rfl rfl (r_see (sees_frz 2007 _ _ rfl rfl) (r_see (sees_frz 2008 _ _ rfl rfl) (r_see (sees_frz 2009 _ _ rfl rfl) (r_buildSlice [(0, .tmp 46, _)] (.p rfl) rfl ⟨rfl, trivial⟩ rfl slc89 sz43 zv43 rfl rfl (leb rfl) rfl rfl ?_)))))))
          obtain ⟨c11, h⟩ := chk_bind h
          refine r_append (.p rfl) rfl (.own _ _ _) ⟨rfl, trivial⟩ rfl (.own _ _ _) ⟨rfl, trivial⟩ rfl slc89 slc89 sz43 byt43 (leb rfl) zv43 rfl (len_lim (f := eApiMix) (g := eApiMix) (xs := v4.1) (ys := (([v9.1] : List ApiMix))) c11) (map_app eApiMix v4.1 (([v9.1] : List ApiMix))) rfl (r_assign (.p rfl) rfl (r_end (W_region mixed rfl (r_bin (.p rfl) rfl rfl (bin_add _ _ _ _ _ _) rfl (r_move (.p rfl) rfl (r_end ?_))))))
          exact sink (v4.1 ++ (([v9.1] : List ApiMix)), (IntKind.wrap .i64 (v4.2 + 1))) h (sees_mkL (rn [(2005, 48)]) _ _ ⟨rfl, rfl, rfl, rfl, rfl, rfl, trivial⟩ ⟨rfl, rfl, trivial⟩ rfl rfl)
      · have h := cnd_f c6 h
        refine W_exit ?_
        exact sink v4.1 h (sees_mkL (rn [(2006, 2005)]) _ _ ⟨rfl, rfl, trivial⟩ ⟨rfl, trivial⟩ rfl rfl)
    · refine W_sees hs (W_seq (W_region mixed rfl (r_move (.p rfl) rfl (r_move (.p rfl) rfl (r_len (.p rfl) rfl (.sl _) trivial (List.length_map _) slc33 (r_assign (.p rfl) rfl (r_assign (.p rfl) rfl (r_assign (.p rfl) rfl (r_end ?_)))))))))
      obtain rfl := Option.some.inj h
      refine W_sees (sees_mkL (rn [(1000, 2006)]) [(6, .e (.one (.own 1000))), (7, .e (.one (.pure (.val (.int .i64 ((p2.length : Int))))))), (8, .e (.one (.pure (.val (.int .i64 0)))))] [(1000, .vec 3 (v5.map eApiMix))] ⟨rfl, rfl, rfl, trivial⟩ ⟨rfl, trivial⟩ rfl rfl) (W_ret ?_)
      exact ⟨⟨[_, _, _], ⟨.tmp _ _ rfl, ⟨.tmp _ _ rfl, ⟨.tmp _ _ rfl, trivial⟩⟩⟩, rfl⟩, ⟨rfl, trivial⟩⟩
set_option maxRecDepth 10000 in
theorem cmp_isNaN_int_c (N : Nat) (p0 : Int) (r : Bool) (h : Sh.cmp_isNaN_int N p0 = some r) : Contract Try.prog 117 [.e (.one (.pure (.val (.int .i64 p0))))] [] (.e (.one (.pure (.val (.bool r))))) := by
  unfold Sh.cmp_isNaN_int at h
  refine contract_of_W (n := 6) (rs := [.tmp 2]) Try.func117 rfl rfl rfl (leb rfl) (leb rfl) rfl fun w0 S0 => ?_
  refine W_seq (W_region mixed rfl (r_assign (.p rfl) rfl (r_end (W_seq (W_region mixed rfl (r_move (.p rfl) rfl (r_move (.p rfl) rfl (r_bin (.p rfl) rfl rfl (bin_neq _ _ _ _ _ _) rfl (r_assign (.p rfl) rfl (r_end ?_))))))))))
  obtain rfl := Option.some.inj h
  refine W_sees (sees_mkL (rn []) [(2, .e (.one (.pure (.val (.bool ((p0 != p0)))))))] [] ⟨rfl, trivial⟩ trivial rfl rfl) (W_ret ?_)
  exact ⟨⟨[_], ⟨.tmp _ _ rfl, trivial⟩, rfl⟩, trivial⟩
set_option maxRecDepth 10000 in
theorem cmp_Compare_int_c (N : Nat) (p0 : Int) (p1 : Int) (r : Int) (h : Sh.cmp_Compare_int N p0 p1 = some r) : Contract Try.prog 108 [.e (.one (.pure (.val (.int .i64 p0)))), .e (.one (.pure (.val (.int .i64 p1))))] [] (.e (.one (.pure (.val (.int .i64 r))))) := by
  unfold Sh.cmp_Compare_int at h
  refine contract_of_W (n := 20) (rs := [.tmp 4]) Try.func108 rfl rfl rfl (leb rfl) (leb rfl) rfl fun w0 S0 => ?_
  refine W_seq (W_region mixed rfl (r_assign (.p rfl) rfl (r_end (W_seq (W_region mixed rfl (r_move (.p rfl) rfl ?_))))))
  obtain ⟨v1, a1, h⟩ := bind_some h
  refine r_call (ds0 := [_]) [] (cmp_isNaN_int_c N p0 v1 a1) (.p rfl) gd117 rfl ⟨rfl, trivial⟩ rfl rfl rfl (nodupL_spec rfl) trivial rfl (r_assign (.p rfl) rfl (r_end (W_seq (W_region mixed rfl (r_move (.p rfl) rfl ?_)))))
  obtain ⟨v2, a2, h⟩ := bind_some h
  refine r_call (ds0 := [_]) [] (cmp_isNaN_int_c N p1 v2 a2) (.p rfl) gd117 rfl ⟨rfl, trivial⟩ rfl rfl rfl (nodupL_spec rfl) trivial rfl (r_assign (.p rfl) rfl (r_end (W_seq (W_seq (W_region mixed rfl (r_move (.p rfl) rfl (r_end ?_)))))))
  refine W_cond rfl (fun c3 => ?_) (fun c3 => ?_)
  · have h := cnd_t c3 h
    refine W_seq (W_seq (W_region mixed rfl (r_move (.p rfl) rfl (r_end ?_))))
    refine W_cond rfl (fun c4 => ?_) (fun c4 => ?_)
    · have h := cnd_t c4 h
      refine W_seq (W_region mixed rfl (r_assign (.p rfl) rfl (r_end ?_)))
      obtain rfl := Option.some.inj h
      refine W_sees (sees_mkL (rn []) [(4, .e (.one (.pure (.val (.int .i64 0)))))] [] ⟨rfl, trivial⟩ trivial rfl rfl) (W_ret ?_)
      exact ⟨⟨[_], ⟨.tmp _ _ rfl, trivial⟩, rfl⟩, trivial⟩
    · have h := cnd_f c4 h
      refine W_skip (W_seq (W_region mixed rfl (r_assign (.p rfl) rfl (r_end ?_))))
      obtain rfl := Option.some.inj h
      refine W_sees (sees_mkL (rn []) [(4, .e (.one (.pure (.val (.int .i64 ((-1)))))))] [] ⟨rfl, trivial⟩ trivial rfl rfl) (W_ret ?_)
      exact ⟨⟨[_], ⟨.tmp _ _ rfl, trivial⟩, rfl⟩, trivial⟩
  · have h := cnd_f c3 h
    refine W_skip (W_seq (W_seq (W_region mixed rfl (r_move (.p rfl) rfl (r_end ?_)))))
    refine W_cond rfl (fun c5 => ?_) (fun c5 => ?_)
    · have h := cnd_t c5 h
      refine W_seq (W_region mixed rfl (r_assign (.p rfl) rfl (r_end ?_)))
      obtain rfl := Option.some.inj h
      refine W_sees (sees_mkL (rn []) [(4, .e (.one (.pure (.val (.int .i64 1)))))] [] ⟨rfl, trivial⟩ trivial rfl rfl) (W_ret ?_)
      exact ⟨⟨[_], ⟨.tmp _ _ rfl, trivial⟩, rfl⟩, trivial⟩
    · have h := cnd_f c5 h
      refine W_skip (W_seq (W_seq (W_region mixed rfl (r_move (.p rfl) rfl (r_move (.p rfl) rfl (r_bin (.p rfl) rfl rfl (bin_lss _ _ _ _ _ _) rfl (r_end ?_)))))))
      refine W_cond rfl (fun c6 => ?_) (fun c6 => ?_)
      · have h := cnd_t c6 h
        refine W_seq (W_region mixed rfl (r_assign (.p rfl) rfl (r_end ?_)))
        obtain rfl := Option.some.inj h
        refine W_sees (sees_mkL (rn []) [(4, .e (.one (.pure (.val (.int .i64 ((-1)))))))] [] ⟨rfl, trivial⟩ trivial rfl rfl) (W_ret ?_)
        exact ⟨⟨[_], ⟨.tmp _ _ rfl, trivial⟩, rfl⟩, trivial⟩
      · have h := cnd_f c6 h
        refine W_skip (W_seq (W_seq (W_region mixed rfl (r_move (.p rfl) rfl (r_move (.p rfl) rfl (r_bin (.p rfl) rfl rfl (bin_gtr _ _ _ _ _ _) rfl (r_end ?_)))))))
        refine W_cond rfl (fun c7 => ?_) (fun c7 => ?_)
        · have h := cnd_t c7 h
          refine W_seq (W_region mixed rfl (r_assign (.p rfl) rfl (r_end ?_)))
          obtain rfl := Option.some.inj h
          refine W_sees (sees_mkL (rn []) [(4, .e (.one (.pure (.val (.int .i64 1)))))] [] ⟨rfl, trivial⟩ trivial rfl rfl) (W_ret ?_)
          exact ⟨⟨[_], ⟨.tmp _ _ rfl, trivial⟩, rfl⟩, trivial⟩
        · have h := cnd_f c7 h
          refine W_skip (W_seq (W_region mixed rfl (r_assign (.p rfl) rfl (r_end ?_))))
          obtain rfl := Option.some.inj h
          refine W_sees (sees_mkL (rn []) [(4, .e (.one (.pure (.val (.int .i64 0)))))] [] ⟨rfl, trivial⟩ trivial rfl rfl) (W_ret ?_)
          exact ⟨⟨[_], ⟨.tmp _ _ rfl, trivial⟩, rfl⟩, trivial⟩
set_option maxRecDepth 10000 in
theorem slices_Compare_int_int_c (N : Nat) (p0 : List Int) (p1 : List Int) (r : Int) (h : Sh.slices_Compare_int_int N p0 p1 = some r) : Contract Try.prog 95 [.e (.one (.pure (.sl (p0.map eI64)))), .e (.one (.pure (.sl (p1.map eI64))))] [] (.e (.one (.pure (.val (.int .i64 r))))) := by
  unfold Sh.slices_Compare_int_int at h
  refine contract_of_W (n := 36) (rs := [.tmp 4]) Try.func95 rfl rfl rfl (leb rfl) (leb rfl) rfl fun w0 S0 => ?_
  refine W_seq (W_region mixed rfl (r_assign (.p rfl) rfl (r_end (W_seq (W_seq (W_region mixed rfl (r_move (.p rfl) rfl (r_len (.p rfl) rfl (.sl _) trivial (List.length_map _) slc27 (r_move (.p rfl) rfl (r_end ?_))))))))))
  refine W_whileE (L := Sh.slices_Compare_int_int_L1 N p0 p1) h (fun v1 => mk [(0, .e (.one (.pure (.sl (p0.map eI64))))), (1, .e (.one (.pure (.sl (p1.map eI64))))), (9, .e (.one (.pure (.sl (p0.map eI64))))), (10, .e (.one (.pure (.val (.int .i64 ((p0.length : Int))))))), (11, .e (.one (.pure (.val (.int .i64 v1)))))] []) (fun v2 => mk [(0, .e (.one (.pure (.sl (p0.map eI64))))), (1, .e (.one (.pure (.sl (p1.map eI64)))))] []) (fun _ _ => rfl) (sees_mkL (rn []) _ _ ⟨rfl, rfl, rfl, rfl, rfl, trivial⟩ trivial rfl rfl) (fun j1 n1 v1 h => ?_) (fun v2 s h hs => ?_)
  · unfold Sh.slices_Compare_int_int_L1 at h
    refine W_seq (W_region mixed rfl (r_bin (.p rfl) rfl rfl (bin_lss _ _ _ _ _ _) rfl (r_end (W_seq ?_))))
    refine W_cond rfl (fun c3 => ?_) (fun c3 => ?_)
    · have h := cnd_t c3 h
      refine W_skip (W_seq (W_block (W_seq (W_region mixed rfl (r_move (.p rfl) rfl ?_)))))
      obtain ⟨v4, a4, b4, h⟩ := idx_bind h
      refine r_index (.p rfl) rfl rfl slc27 sz3 a4 (map_get b4) rfl (r_loadr1 (.p rfl) rfl ag3 rfl (r_assign (.p rfl) rfl (r_assign (.p rfl) rfl (r_end (W_seq (W_seq (W_region mixed rfl (r_move (.p rfl) rfl (r_move (.p rfl) rfl (r_len (.p rfl) rfl (.sl _) trivial (List.length_map _) slc27 (r_bin (.p rfl) rfl rfl (bin_geq _ _ _ _ _ _) rfl (r_end ?_))))))))))))
      refine W_cond rfl (fun c5 => ?_) (fun c5 => ?_)
      · have h := cnd_t c5 h
        refine W_seq (W_region mixed rfl (r_assign (.p rfl) rfl (r_end ?_)))
        obtain rfl := Option.some.inj h
        refine W_sees (sees_mkL (rn []) [(4, .e (.one (.pure (.val (.int .i64 1)))))] [] ⟨rfl, trivial⟩ trivial rfl rfl) (W_ret ?_)
        exact ⟨⟨[_], ⟨.tmp _ _ rfl, trivial⟩, rfl⟩, trivial⟩
      · have h := cnd_f c5 h
        refine W_skip (W_seq (W_region mixed rfl (r_move (.p rfl) rfl (r_move (.p rfl) rfl ?_))))
        obtain ⟨v6, a6, b6, h⟩ := idx_bind h
        refine r_index (.p rfl) rfl rfl slc27 sz3 a6 (map_get b6) rfl (r_loadr1 (.p rfl) rfl ag3 rfl (r_assign (.p rfl) rfl (r_end (W_seq (W_region mixed rfl (r_move (.p rfl) rfl (r_move (.p rfl) rfl ?_)))))))
        obtain ⟨v7, a7, h⟩ := bind_some h
        refine r_call (ds0 := [_, _]) [] (cmp_Compare_int_c N v4 v6 v7 a7) (.p rfl) gd108 rfl ⟨rfl, rfl, trivial⟩ rfl rfl rfl (nodupL_spec rfl) trivial rfl (r_assign (.p rfl) rfl (r_end (W_seq (W_region mixed rfl (r_move (.p rfl) rfl (r_bin (.p rfl) rfl rfl (bin_neq _ _ _ _ _ _) rfl (r_end ?_)))))))
        refine W_cond rfl (fun c8 => ?_) (fun c8 => ?_)
        · have h := cnd_t c8 h
          refine W_seq (W_region mixed rfl (r_move (.p rfl) rfl (r_assign (.p rfl) rfl (r_end ?_))))
          obtain rfl := Option.some.inj h
          refine W_sees (sees_mkL (rn []) [(4, .e (.one (.pure (.val (.int .i64 v7)))))] [] ⟨rfl, trivial⟩ trivial rfl rfl) (W_ret ?_)
          exact ⟨⟨[_], ⟨.tmp _ _ rfl, trivial⟩, rfl⟩, trivial⟩
        · have h := cnd_f c8 h
          refine W_skip (W_region mixed rfl (r_bin (.p rfl) rfl rfl (bin_add _ _ _ _ _ _) rfl (r_move (.p rfl) rfl (r_end ?_))))
          exact sink (IntKind.wrap .i64 (v1 + 1)) h (sees_mkL (rn []) _ _ ⟨rfl, rfl, rfl, rfl, rfl, trivial⟩ trivial rfl rfl)
    · have h := cnd_f c3 h
      refine W_exit ?_
      exact sink () h (sees_mkL (rn []) _ _ ⟨rfl, rfl, trivial⟩ trivial rfl rfl)
  · refine W_sees hs (W_seq (W_seq (W_region mixed rfl (r_move (.p rfl) rfl (r_len (.p rfl) rfl (.sl _) trivial (List.length_map _) slc27 (r_move (.p rfl) rfl (r_len (.p rfl) rfl (.sl _) trivial (List.length_map _) slc27 (r_bin (.p rfl) rfl rfl (bin_lss _ _ _ _ _ _) rfl (r_end ?_)))))))))
    refine W_cond rfl (fun c9 => ?_) (fun c9 => ?_)
    · have h := cnd_t c9 h
      refine W_seq (W_region mixed rfl (r_assign (.p rfl) rfl (r_end ?_)))
      obtain rfl := Option.some.inj h
      refine W_sees (sees_mkL (rn []) [(4, .e (.one (.pure (.val (.int .i64 ((-1)))))))] [] ⟨rfl, trivial⟩ trivial rfl rfl) (W_ret ?_)
      exact ⟨⟨[_], ⟨.tmp _ _ rfl, trivial⟩, rfl⟩, trivial⟩
    · have h := cnd_f c9 h
      refine W_skip (W_seq (W_region mixed rfl (r_assign (.p rfl) rfl (r_end ?_))))
      obtain rfl := Option.some.inj h
      refine W_sees (sees_mkL (rn []) [(4, .e (.one (.pure (.val (.int .i64 0)))))] [] ⟨rfl, trivial⟩ trivial rfl rfl) (W_ret ?_)
      exact ⟨⟨[_], ⟨.tmp _ _ rfl, trivial⟩, rfl⟩, trivial⟩
set_option maxRecDepth 10000 in
theorem cmp_isNaN_api_Set_c (N : Nat) (p0 : Int) (r : Bool) (h : Sh.cmp_isNaN_api_Set N p0 = some r) : Contract Try.prog 118 [.e (.one (.pure (.val (.int .u8 p0))))] [] (.e (.one (.pure (.val (.bool r))))) := by
  unfold Sh.cmp_isNaN_api_Set at h
  refine contract_of_W (n := 6) (rs := [.tmp 2]) Try.func118 rfl rfl rfl (leb rfl) (leb rfl) rfl fun w0 S0 => ?_
  refine W_seq (W_region mixed rfl (r_assign (.p rfl) rfl (r_end (W_seq (W_region mixed rfl (r_move (.p rfl) rfl (r_move (.p rfl) rfl (r_bin (.p rfl) rfl rfl (bin_neq _ _ _ _ _ _) rfl (r_assign (.p rfl) rfl (r_end ?_))))))))))
  obtain rfl := Option.some.inj h
  refine W_sees (sees_mkL (rn []) [(2, .e (.one (.pure (.val (.bool ((p0 != p0)))))))] [] ⟨rfl, trivial⟩ trivial rfl rfl) (W_ret ?_)
  exact ⟨⟨[_], ⟨.tmp _ _ rfl, trivial⟩, rfl⟩, trivial⟩
set_option maxRecDepth 10000 in
theorem cmp_Compare_api_Set_c (N : Nat) (p0 : Int) (p1 : Int) (r : Int) (h : Sh.cmp_Compare_api_Set N p0 p1 = some r) : Contract Try.prog 109 [.e (.one (.pure (.val (.int .u8 p0)))), .e (.one (.pure (.val (.int .u8 p1))))] [] (.e (.one (.pure (.val (.int .i64 r))))) := by
  unfold Sh.cmp_Compare_api_Set at h
  refine contract_of_W (n := 20) (rs := [.tmp 4]) Try.func109 rfl rfl rfl (leb rfl) (leb rfl) rfl fun w0 S0 => ?_
  refine W_seq (W_region mixed rfl (r_assign (.p rfl) rfl (r_end (W_seq (W_region mixed rfl (r_move (.p rfl) rfl ?_))))))
  obtain ⟨v1, a1, h⟩ := bind_some h
  refine r_call (ds0 := [_]) [] (cmp_isNaN_api_Set_c N p0 v1 a1) (.p rfl) gd118 rfl ⟨rfl, trivial⟩ rfl rfl rfl (nodupL_spec rfl) trivial rfl (r_assign (.p rfl) rfl (r_end (W_seq (W_region mixed rfl (r_move (.p rfl) rfl ?_)))))
  obtain ⟨v2, a2, h⟩ := bind_some h
  refine r_call (ds0 := [_]) [] (cmp_isNaN_api_Set_c N p1 v2 a2) (.p rfl) gd118 rfl ⟨rfl, trivial⟩ rfl rfl rfl (nodupL_spec rfl) trivial rfl (r_assign (.p rfl) rfl (r_end (W_seq (W_seq (W_region mixed rfl (r_move (.p rfl) rfl (r_end ?_)))))))
  refine W_cond rfl (fun c3 => ?_) (fun c3 => ?_)
  · have h := cnd_t c3 h
    refine W_seq (W_seq (W_region mixed rfl (r_move (.p rfl) rfl (r_end ?_))))
    refine W_cond rfl (fun c4 => ?_) (fun c4 => ?_)
    · have h := cnd_t c4 h
      refine W_seq (W_region mixed rfl (r_assign (.p rfl) rfl (r_end ?_)))
      obtain rfl := Option.some.inj h
      refine W_sees (sees_mkL (rn []) [(4, .e (.one (.pure (.val (.int .i64 0)))))] [] ⟨rfl, trivial⟩ trivial rfl rfl) (W_ret ?_)
      exact ⟨⟨[_], ⟨.tmp _ _ rfl, trivial⟩, rfl⟩, trivial⟩
    · have h := cnd_f c4 h
      refine W_skip (W_seq (W_region mixed rfl (r_assign (.p rfl) rfl (r_end ?_))))
      obtain rfl := Option.some.inj h
      refine W_sees (sees_mkL (rn []) [(4, .e (.one (.pure (.val (.int .i64 ((-1)))))))] [] ⟨rfl, trivial⟩ trivial rfl rfl) (W_ret ?_)
      exact ⟨⟨[_], ⟨.tmp _ _ rfl, trivial⟩, rfl⟩, trivial⟩
  · have h := cnd_f c3 h
    refine W_skip (W_seq (W_seq (W_region mixed rfl (r_move (.p rfl) rfl (r_end ?_)))))
    refine W_cond rfl (fun c5 => ?_) (fun c5 => ?_)
    · have h := cnd_t c5 h
      refine W_seq (W_region mixed rfl (r_assign (.p rfl) rfl (r_end ?_)))
      obtain rfl := Option.some.inj h
      refine W_sees (sees_mkL (rn []) [(4, .e (.one (.pure (.val (.int .i64 1)))))] [] ⟨rfl, trivial⟩ trivial rfl rfl) (W_ret ?_)
      exact ⟨⟨[_], ⟨.tmp _ _ rfl, trivial⟩, rfl⟩, trivial⟩
    · have h := cnd_f c5 h
      refine W_skip (W_seq (W_seq (W_region mixed rfl (r_move (.p rfl) rfl (r_move (.p rfl) rfl (r_bin (.p rfl) rfl rfl (bin_lss _ _ _ _ _ _) rfl (r_end ?_)))))))
      refine W_cond rfl (fun c6 => ?_) (fun c6 => ?_)
      · have h := cnd_t c6 h
        refine W_seq (W_region mixed rfl (r_assign (.p rfl) rfl (r_end ?_)))
        obtain rfl := Option.some.inj h
        refine W_sees (sees_mkL (rn []) [(4, .e (.one (.pure (.val (.int .i64 ((-1)))))))] [] ⟨rfl, trivial⟩ trivial rfl rfl) (W_ret ?_)
        exact ⟨⟨[_], ⟨.tmp _ _ rfl, trivial⟩, rfl⟩, trivial⟩
      · have h := cnd_f c6 h
        refine W_skip (W_seq (W_seq (W_region mixed rfl (r_move (.p rfl) rfl (r_move (.p rfl) rfl (r_bin (.p rfl) rfl rfl (bin_gtr _ _ _ _ _ _) rfl (r_end ?_)))))))
        refine W_cond rfl (fun c7 => ?_) (fun c7 => ?_)
        · have h := cnd_t c7 h
          refine W_seq (W_region mixed rfl (r_assign (.p rfl) rfl (r_end ?_)))
          obtain rfl := Option.some.inj h
          refine W_sees (sees_mkL (rn []) [(4, .e (.one (.pure (.val (.int .i64 1)))))] [] ⟨rfl, trivial⟩ trivial rfl rfl) (W_ret ?_)
          exact ⟨⟨[_], ⟨.tmp _ _ rfl, trivial⟩, rfl⟩, trivial⟩
        · have h := cnd_f c7 h
          refine W_skip (W_seq (W_region mixed rfl (r_assign (.p rfl) rfl (r_end ?_))))
          obtain rfl := Option.some.inj h
          refine W_sees (sees_mkL (rn []) [(4, .e (.one (.pure (.val (.int .i64 0)))))] [] ⟨rfl, trivial⟩ trivial rfl rfl) (W_ret ?_)
          exact ⟨⟨[_], ⟨.tmp _ _ rfl, trivial⟩, rfl⟩, trivial⟩
set_option maxRecDepth 10000 in
theorem slices_Compare_api_Set_api_Set_c (N : Nat) (p0 : List Int) (p1 : List Int) (r : Int) (h : Sh.slices_Compare_api_Set_api_Set N p0 p1 = some r) : Contract Try.prog 96 [.e (.one (.pure (.sl (p0.map eU8)))), .e (.one (.pure (.sl (p1.map eU8))))] [] (.e (.one (.pure (.val (.int .i64 r))))) := by
  unfold Sh.slices_Compare_api_Set_api_Set at h
  refine contract_of_W (n := 36) (rs := [.tmp 4]) Try.func96 rfl rfl rfl (leb rfl) (leb rfl) rfl fun w0 S0 => ?_
  refine W_seq (W_region mixed rfl (r_assign (.p rfl) rfl (r_end (W_seq (W_seq (W_region mixed rfl (r_move (.p rfl) rfl (r_len (.p rfl) rfl (.sl _) trivial (List.length_map _) slc41 (r_move (.p rfl) rfl (r_end ?_))))))))))
  refine W_whileE (L := Sh.slices_Compare_api_Set_api_Set_L1 N p0 p1) h (fun v1 => mk [(0, .e (.one (.pure (.sl (p0.map eU8))))), (1, .e (.one (.pure (.sl (p1.map eU8))))), (9, .e (.one (.pure (.sl (p0.map eU8))))), (10, .e (.one (.pure (.val (.int .i64 ((p0.length : Int))))))), (11, .e (.one (.pure (.val (.int .i64 v1)))))] []) (fun v2 => mk [(0, .e (.one (.pure (.sl (p0.map eU8))))), (1, .e (.one (.pure (.sl (p1.map eU8)))))] []) (fun _ _ => rfl) (sees_mkL (rn []) _ _ ⟨rfl, rfl, rfl, rfl, rfl, trivial⟩ trivial rfl rfl) (fun j1 n1 v1 h => ?_) (fun v2 s h hs => ?_)
  · unfold Sh.slices_Compare_api_Set_api_Set_L1 at h
    refine W_seq (W_region mixed rfl (r_bin (.p rfl) rfl rfl (bin_lss _ _ _ _ _ _) rfl (r_end (W_seq ?_))))
    refine W_cond rfl (fun c3 => ?_) (fun c3 => ?_)
    · have h := cnd_t c3 h
      refine W_skip (W_seq (W_block (W_seq (W_region mixed rfl (r_move (.p rfl) rfl ?_)))))
      obtain ⟨v4, a4, b4, h⟩ := idx_bind h
      refine r_index (.p rfl) rfl rfl slc41 sz87 a4 (map_get b4) rfl (r_loadr1 (.p rfl) rfl ag87 rfl (r_assign (.p rfl) rfl (r_assign (.p rfl) rfl (r_end (W_seq (W_seq (W_region mixed rfl (r_move (.p rfl) rfl (r_move (.p rfl) rfl (r_len (.p rfl) rfl (.sl _) trivial (List.length_map _) slc41 (r_bin (.p rfl) rfl rfl (bin_geq _ _ _ _ _ _) rfl (r_end ?_))))))))))))
      refine W_cond rfl (fun c5 => ?_) (fun c5 => ?_)
      · have h := cnd_t c5 h
        refine W_seq (W_region mixed rfl (r_assign (.p rfl) rfl (r_end ?_)))
        obtain rfl := Option.some.inj h
        refine W_sees (sees_mkL (rn []) [(4, .e (.one (.pure (.val (.int .i64 1)))))] [] ⟨rfl, trivial⟩ trivial rfl rfl) (W_ret ?_)
        exact ⟨⟨[_], ⟨.tmp _ _ rfl, trivial⟩, rfl⟩, trivial⟩
      · have h := cnd_f c5 h
        refine W_skip (W_seq (W_region mixed rfl (r_move (.p rfl) rfl (r_move (.p rfl) rfl ?_))))
        obtain ⟨v6, a6, b6, h⟩ := idx_bind h
        refine r_index (.p rfl) rfl rfl slc41 sz87 a6 (map_get b6) rfl (r_loadr1 (.p rfl) rfl ag87 rfl (r_assign (.p rfl) rfl (r_end (W_seq (W_region mixed rfl (r_move (.p rfl) rfl (r_move (.p rfl) rfl ?_)))))))
        obtain ⟨v7, a7, h⟩ := bind_some h
        refine r_call (ds0 := [_, _]) [] (cmp_Compare_api_Set_c N v4 v6 v7 a7) (.p rfl) gd109 rfl ⟨rfl, rfl, trivial⟩ rfl rfl rfl (nodupL_spec rfl) trivial rfl (r_assign (.p rfl) rfl (r_end (W_seq (W_region mixed rfl (r_move (.p rfl) rfl (r_bin (.p rfl) rfl rfl (bin_neq _ _ _ _ _ _) rfl (r_end ?_)))))))
        refine W_cond rfl (fun c8 => ?_) (fun c8 => ?_)
        · have h := cnd_t c8 h
          refine W_seq (W_region mixed rfl (r_move (.p rfl) rfl (r_assign (.p rfl) rfl (r_end ?_))))
          obtain rfl := Option.some.inj h
          refine W_sees (sees_mkL (rn []) [(4, .e (.one (.pure (.val (.int .i64 v7)))))] [] ⟨rfl, trivial⟩ trivial rfl rfl) (W_ret ?_)
          exact ⟨⟨[_], ⟨.tmp _ _ rfl, trivial⟩, rfl⟩, trivial⟩
        · have h := cnd_f c8 h
          refine W_skip (W_region mixed rfl (r_bin (.p rfl) rfl rfl (bin_add _ _ _ _ _ _) rfl (r_move (.p rfl) rfl (r_end ?_))))
          exact sink (IntKind.wrap .i64 (v1 + 1)) h (sees_mkL (rn []) _ _ ⟨rfl, rfl, rfl, rfl, rfl, trivial⟩ trivial rfl rfl)
    · have h := cnd_f c3 h
      refine W_exit ?_
      exact sink () h (sees_mkL (rn []) _ _ ⟨rfl, rfl, trivial⟩ trivial rfl rfl)
  · refine W_sees hs (W_seq (W_seq (W_region mixed rfl (r_move (.p rfl) rfl (r_len (.p rfl) rfl (.sl _) trivial (List.length_map _) slc41 (r_move (.p rfl) rfl (r_len (.p rfl) rfl (.sl _) trivial (List.length_map _) slc41 (r_bin (.p rfl) rfl rfl (bin_lss _ _ _ _ _ _) rfl (r_end ?_)))))))))
    refine W_cond rfl (fun c9 => ?_) (fun c9 => ?_)
    · have h := cnd_t c9 h
      refine W_seq (W_region mixed rfl (r_assign (.p rfl) rfl (r_end ?_)))
      obtain rfl := Option.some.inj h
      refine W_sees (sees_mkL (rn []) [(4, .e (.one (.pure (.val (.int .i64 ((-1)))))))] [] ⟨rfl, trivial⟩ trivial rfl rfl) (W_ret ?_)
      exact ⟨⟨[_], ⟨.tmp _ _ rfl, trivial⟩, rfl⟩, trivial⟩
    · have h := cnd_f c9 h
      refine W_skip (W_seq (W_region mixed rfl (r_assign (.p rfl) rfl (r_end ?_))))
      obtain rfl := Option.some.inj h
      refine W_sees (sees_mkL (rn []) [(4, .e (.one (.pure (.val (.int .i64 0)))))] [] ⟨rfl, trivial⟩ trivial rfl rfl) (W_ret ?_)
      exact ⟨⟨[_], ⟨.tmp _ _ rfl, trivial⟩, rfl⟩, trivial⟩
set_option maxRecDepth 10000 in
theorem cmp_Or_int_c (N : Nat) (p0 : List Int) (r : Int) (h : Sh.cmp_Or_int N p0 = some r) : Contract Try.prog 94 [.e (.one (.pure (.sl (p0.map eI64))))] [] (.e (.one (.pure (.val (.int .i64 r))))) := by
  unfold Sh.cmp_Or_int at h
  refine contract_of_W (n := 18) (rs := [.tmp 2]) Try.func94 rfl rfl rfl (leb rfl) (leb rfl) rfl fun w0 S0 => ?_
  refine W_seq (W_region mixed rfl (r_assign (.p rfl) rfl (r_end (W_seq (W_region mixed rfl (r_assign (.p rfl) rfl (r_end (W_seq (W_seq (W_region mixed rfl (r_move (.p rfl) rfl (r_len (.p rfl) rfl (.sl _) trivial (List.length_map _) slc27 (r_move (.p rfl) rfl (r_end ?_))))))))))))))
  refine W_whileE (L := Sh.cmp_Or_int_L1 N p0) h (fun v1 => mk [(3, .e (.one (.pure (.val (.int .i64 0))))), (6, .e (.one (.pure (.sl (p0.map eI64))))), (7, .e (.one (.pure (.val (.int .i64 ((p0.length : Int))))))), (8, .e (.one (.pure (.val (.int .i64 v1)))))] []) (fun v2 => mk [(3, .e (.one (.pure (.val (.int .i64 0)))))] []) (fun _ _ => rfl) (sees_mkL (rn []) _ _ ⟨rfl, rfl, rfl, rfl, trivial⟩ trivial rfl rfl) (fun j1 n1 v1 h => ?_) (fun v2 s h hs => ?_)
  · unfold Sh.cmp_Or_int_L1 at h
    refine W_seq (W_region mixed rfl (r_bin (.p rfl) rfl rfl (bin_lss _ _ _ _ _ _) rfl (r_end (W_seq ?_))))
    refine W_cond rfl (fun c3 => ?_) (fun c3 => ?_)
    · have h := cnd_t c3 h
      refine W_skip (W_seq (W_block (W_seq (W_region mixed rfl ?_))))
      obtain ⟨v4, a4, b4, h⟩ := idx_bind h
      refine r_index (.p rfl) rfl rfl slc27 sz3 a4 (map_get b4) rfl (r_loadr1 (.p rfl) rfl ag3 rfl (r_assign (.p rfl) rfl (r_end (W_seq (W_region mixed rfl (r_move (.p rfl) rfl (r_move (.p rfl) rfl (r_bin (.p rfl) rfl rfl (bin_neq _ _ _ _ _ _) rfl (r_end ?_)))))))))
      refine W_cond rfl (fun c5 => ?_) (fun c5 => ?_)
      · have h := cnd_t c5 h
        refine W_seq (W_region mixed rfl (r_move (.p rfl) rfl (r_assign (.p rfl) rfl (r_end ?_))))
        obtain rfl := Option.some.inj h
        refine W_sees (sees_mkL (rn []) [(2, .e (.one (.pure (.val (.int .i64 v4)))))] [] ⟨rfl, trivial⟩ trivial rfl rfl) (W_ret ?_)
        exact ⟨⟨[_], ⟨.tmp _ _ rfl, trivial⟩, rfl⟩, trivial⟩
      · have h := cnd_f c5 h
        refine W_skip (W_region mixed rfl (r_bin (.p rfl) rfl rfl (bin_add _ _ _ _ _ _) rfl (r_move (.p rfl) rfl (r_end ?_))))
        exact sink (IntKind.wrap .i64 (v1 + 1)) h (sees_mkL (rn []) _ _ ⟨rfl, rfl, rfl, rfl, trivial⟩ trivial rfl rfl)
    · have h := cnd_f c3 h
      refine W_exit ?_
      exact sink () h (sees_mkL (rn []) _ _ ⟨rfl, trivial⟩ trivial rfl rfl)
  · refine W_sees hs (W_seq (W_region mixed rfl (r_move (.p rfl) rfl (r_assign (.p rfl) rfl (r_end ?_)))))
    obtain rfl := Option.some.inj h
    refine W_sees (sees_mkL (rn []) [(2, .e (.one (.pure (.val (.int .i64 0)))))] [] ⟨rfl, trivial⟩ trivial rfl rfl) (W_ret ?_)
    exact ⟨⟨[_], ⟨.tmp _ _ rfl, trivial⟩, rfl⟩, trivial⟩
set_option maxRecDepth 10000 in
theorem mix_Compare_c (N : Nat) (p0 : ApiMix) (p1 : ApiMix) (r : Int) (h : Sh.mix_Compare N p0 p1 = some r) : Contract Try.prog 71 [.e (.agg [.pure (.sl (p0.fBase.map eI64)), .pure (.sl (p0.fNext.map eI64)), .pure (.sl (p0.fHeld.map eU8))]), .e (.agg [.pure (.sl (p1.fBase.map eI64)), .pure (.sl (p1.fNext.map eI64)), .pure (.sl (p1.fHeld.map eU8))])] [] (.e (.one (.pure (.val (.int .i64 r))))) := by
  unfold Sh.mix_Compare at h
  refine contract_of_W (n := 22) (rs := [.tmp 4]) Try.func71 rfl rfl rfl (leb rfl) (leb rfl) rfl fun w0 S0 => ?_
  refine W_seq (W_region mixed rfl (r_box (.p rfl) rfl rfl (r_box (.p rfl) rfl rfl (r_assign (.p rfl) rfl (r_end (W_seq (W_region mixed rfl (r_fieldAddr (.p rfl) rfl fld43_0 (r_load1 (.p rfl) rfl ag27 rfl rfl (r_fieldAddr (.p rfl) rfl fld43_0 (r_load1 (.p rfl) rfl ag27 rfl rfl ?_)))))))))))
  obtain ⟨v1, a1, h⟩ := bind_some h
  refine r_call (ds0 := [_, _]) [] (slices_Compare_int_int_c N p0.fBase p1.fBase v1 a1) (.p rfl) gd95 rfl ⟨rfl, rfl, trivial⟩ rfl rfl rfl (nodupL_spec rfl) trivial rfl (r_fieldAddr (.p rfl) rfl fld43_1 (r_load1 (.p rfl) rfl ag27 rfl rfl (r_fieldAddr (.p rfl) rfl fld43_1 (r_load1 (.p rfl) rfl ag27 rfl rfl ?_))))
  obtain ⟨v2, a2, h⟩ := bind_some h
  refine r_call (ds0 := [_, _]) [] (slices_Compare_int_int_c N p0.fNext p1.fNext v2 a2) (.p rfl) gd95 rfl ⟨rfl, rfl, trivial⟩ rfl rfl rfl (nodupL_spec rfl) trivial rfl (r_fieldAddr (.p rfl) rfl fld43_2 (r_load1 (.p rfl) rfl ag41 rfl rfl (r_fieldAddr (.p rfl) rfl fld43_2 (r_load1 (.p rfl) rfl ag41 rfl rfl ?_))))
  obtain ⟨v3, a3, h⟩ := bind_some h
  refine r_call (ds0 := [_, _]) [] (slices_Compare_api_Set_api_Set_c N p0.fHeld p1.fHeld v3 a3) (.p rfl) gd96 rfl ⟨rfl, rfl, trivial⟩ rfl rfl rfl (nodupL_spec rfl) trivial rfl (r_buildSlice [(0, .tmp 9, _), (1, .tmp 14, _), (2, .tmp 19, _)] (.p rfl) rfl ⟨rfl, rfl, rfl, trivial⟩ rfl slc27 sz3 zv3 rfl rfl (leb rfl) rfl rfl ?_)
  obtain ⟨v4, a4, h⟩ := bind_some h
  refine r_callL (ds0 := [_]) [] [(20, _)] (cmp_Or_int_c N (([v1, v2, v3] : List Int)) v4 a4) (.p rfl) gd94 rfl ⟨rfl, trivial⟩ ⟨rfl, trivial⟩ rfl rfl rfl (nodupL_spec rfl) trivial rfl flatV_nil rfl (r_assign (.p rfl) rfl ?_)
  refine r_endD (by kernel_rfl) ?_
  obtain rfl := Option.some.inj h
  refine W_sees (sees_mkL (rn []) [(4, .e (.one (.pure (.val (.int .i64 v4)))))] [] ⟨rfl, trivial⟩ trivial rfl rfl) (W_ret ?_)
  exact ⟨⟨[_], ⟨.tmp _ _ rfl, trivial⟩, rfl⟩, trivial⟩
set_option maxRecDepth 10000 in
theorem plan_Reversible_3_c (N : Nat) (p0 : PlanNode) (p1 : List Int) (p2 : List Int) (p3 : List Int) (r : Bool) (h : Sh.plan_Reversible_3 N p0 p1 p2 p3 = some r) : Contract Try.prog 70 [.e (.agg [.pure (.sl (p0.fM.fBase.map eI64)), .pure (.sl (p0.fM.fNext.map eI64)), .pure (.sl (p0.fM.fHeld.map eU8)), .pure (.val (.int .i64 p0.fFrom)), .pure (.val (.int .i64 p0.fBy.fKind)), .pure (.val (.int .i64 p0.fBy.fIndex)), .pure (.val (.int .i64 p0.fBy.fVersion)), .pure (.sl (p0.fNext.map eI64))]), .e (.one (.rop [.sl (p1.map eI64), .sl (p2.map eI64), .sl (p3.map eU8)]))] [] (.e (.one (.pure (.val (.bool r))))) := by
  unfold Sh.plan_Reversible_3 at h
  refine contract_of_W (n := 9) (rs := [.tmp 3]) Try.func70 rfl rfl rfl (leb rfl) (leb rfl) rfl fun w0 S0 => ?_
  refine W_seq (W_region mixed rfl (r_box (.p rfl) rfl rfl (r_assign (.p rfl) rfl (r_end (W_seq (W_region mixed rfl (r_fieldAddr (.p rfl) rfl fld101_0 (r_loadN (.p rfl) rfl ag43 sz43 rfl rfl rfl (r_loadrN (.p rfl) rfl ag43 sz43 rfl rfl ?_)))))))))
  obtain ⟨v1, a1, h⟩ := bind_some h
  refine r_call (ds0 := [_, _]) [] (mix_Compare_c N ((ApiMix.mk p0.fM.fBase p0.fM.fNext p0.fM.fHeld)) ((ApiMix.mk p1 p2 p3)) v1 a1) (.p rfl) gd71 rfl ⟨rfl, rfl, trivial⟩ rfl rfl rfl (nodupL_spec rfl) trivial rfl (r_bin (.p rfl) rfl rfl (bin_eql _ _ _ _ _ _) rfl (r_assign (.p rfl) rfl (r_end ?_)))
  obtain rfl := Option.some.inj h
  refine W_sees (sees_mkL (rn []) [(3, .e (.one (.pure (.val (.bool ((v1 == 0)))))))] [] ⟨rfl, trivial⟩ trivial rfl rfl) (W_ret ?_)
  exact ⟨⟨[_], ⟨.tmp _ _ rfl, trivial⟩, rfl⟩, trivial⟩
set_option maxRecDepth 10000 in
theorem plan_Reversible_c (N : Nat) (p0 : ApiProblem) (p1 : List ApiStep) (r : Bool × Int) (h : Sh.plan_Reversible N p0 p1 = some r) : Contract Try.prog 34 [.e (.agg [.pure (.sl (p0.fVersions.map eI64)), .pure (.sl (p0.fNow.map eI64)), .pure (.sl (p0.fTarget.map eI64)), .pure (.sl (p0.fTables.map eApiTable))]), .e (.one (.pure (.sl (p1.map eApiStep))))] [] (.tup [.one (.pure (.val (.bool r.1))), .one (.pure (.val (.int .i64 r.2)))]) := by
  unfold Sh.plan_Reversible at h
  refine contract_of_W (n := 121) (rs := [.tmp 4, .tmp 5]) Try.func34 rfl rfl rfl (leb rfl) (leb rfl) rfl fun w0 S0 => ?_
  refine W_seq (W_region mixed rfl (r_box (.p rfl) rfl rfl (r_assign (.p rfl) rfl (r_assign (.p rfl) rfl (r_end (W_seq (W_region mixed rfl (r_loadN (.p rfl) rfl ag30 sz30 rfl rfl rfl ?_))))))))
  obtain ⟨v1, a1, h⟩ := bind_some h
  refine r_call (ds0 := [_]) [2001, 2002, 2003] (mix_Start_c N p0 v1 a1) (.p rfl) gd37 rfl ⟨rfl, trivial⟩ rfl rfl rfl (nodupL_spec rfl) ⟨rfl, rfl, rfl, trivial⟩ rfl (r_move (.p rfl) rfl (r_extract (.p rfl) rfl rfl (r_extract (.p rfl) rfl rfl (r_alloc (.p rfl) zv43 rfl rfl rfl (r_store rfl rfl rfl rfl sz43 rfl (leb rfl) rfl (r_assign (.p rfl) rfl (r_end (W_seq (W_seq (W_region mixed rfl (r_move (.p rfl) rfl (r_bin (.p rfl) rfl rfl (bin_neq _ _ _ _ _ _) rfl (r_end ?_)))))))))))))
  refine W_cond rfl (fun c2 => ?_) (fun c2 => ?_)
  · have h := cnd_t c2 h
    refine W_seq (W_region mixed rfl (r_move (.p rfl) rfl (r_assign (.p rfl) rfl (r_assign (.p rfl) rfl (r_end ?_)))))
    obtain rfl := Option.some.inj h
    refine W_sees (sees_mkL (rn []) [(4, .e (.one (.pure (.val (.bool false))))), (5, .e (.one (.pure (.val (.int .i64 v1.2)))))] [] ⟨rfl, rfl, trivial⟩ trivial rfl rfl) (W_ret ?_)
    exact ⟨⟨[_, _], ⟨.tmp _ _ rfl, ⟨.tmp _ _ rfl, trivial⟩⟩, rfl⟩, trivial⟩
  · have h := cnd_f c2 h
    refine W_skip (W_seq (W_seq (W_region mixed rfl (r_loadN (.p rfl) rfl ag30 sz30 rfl rfl rfl (r_move (.p rfl) rfl ?_)))))
    obtain ⟨v3, a3, h⟩ := bind_some h
    refine r_call (ds0 := [_, _]) [] (plan_Check_c N p0 p1 v3 a3) (.p rfl) gd16 rfl ⟨rfl, rfl, trivial⟩ rfl rfl rfl (nodupL_spec rfl) trivial rfl (r_un (.p rfl) rfl (un_not _) rfl (r_end ?_))
    refine W_cond rfl (fun c4 => ?_) (fun c4 => ?_)
    · have h := cnd_t c4 h
      refine W_seq (W_region mixed rfl (r_assign (.p rfl) rfl (r_assign (.p rfl) rfl (r_end ?_))))
      obtain rfl := Option.some.inj h
      refine W_sees (sees_mkL (rn []) [(4, .e (.one (.pure (.val (.bool false))))), (5, .e (.one (.pure (.val (.int .i64 13)))))] [] ⟨rfl, rfl, trivial⟩ trivial rfl rfl) (W_ret ?_)
      exact ⟨⟨[_, _], ⟨.tmp _ _ rfl, ⟨.tmp _ _ rfl, trivial⟩⟩, rfl⟩, trivial⟩
    · have h := cnd_f c4 h
      refine W_skip (W_seq (W_region mixed rfl (r_loadN (.p rfl) rfl ag30 sz30 rfl rfl rfl (r_loadN (.p rfl) rfl ag43 sz43 rfl rfl rfl (r_see (sees_frz 2001 _ _ rfl rfl) (r_see (sees_frz 2002 _ _ rfl rfl) (r_see (sees_frz 2003 _ _ rfl rfl) ?_)))))))
      obtain ⟨v5, a5, h⟩ := bind_some h
      refine r_call (ds0 := [_, _]) [] (plan_region_c N p0 v1.1 v5 a5) (.p rfl) gd55 rfl ⟨rfl, rfl, trivial⟩ rfl rfl rfl (nodupL_spec rfl) trivial rfl (r_move (.p rfl) rfl (r_extract (.p rfl) rfl rfl (r_extract (.p rfl) rfl rfl (r_assign (.p rfl) rfl (r_assign (.p rfl) rfl (r_end (W_seq (W_seq (W_region mixed rfl (r_move (.p rfl) rfl (r_bin (.p rfl) rfl rfl (bin_neq _ _ _ _ _ _) rfl (r_end ?_))))))))))))
      refine W_cond rfl (fun c6 => ?_) (fun c6 => ?_)
      · have h := cnd_t c6 h
        refine W_seq (W_region mixed rfl (r_move (.p rfl) rfl (r_assign (.p rfl) rfl (r_assign (.p rfl) rfl (r_end ?_)))))
        obtain rfl := Option.some.inj h
        refine W_sees (sees_mkL (rn []) [(4, .e (.one (.pure (.val (.bool false))))), (5, .e (.one (.pure (.val (.int .i64 v5.2)))))] [] ⟨rfl, rfl, trivial⟩ trivial rfl rfl) (W_ret ?_)
        exact ⟨⟨[_, _], ⟨.tmp _ _ rfl, ⟨.tmp _ _ rfl, trivial⟩⟩, rfl⟩, trivial⟩
      · have h := cnd_f c6 h
        refine W_skip (W_seq (W_region mixed rfl (r_move (.p rfl) rfl (r_len (.p rfl) rfl (.sl _) trivial (List.length_map _) slc96 ?_))))
        obtain ⟨c7, h⟩ := chk_bind h
        refine r_makeSlice (.p rfl) rfl rfl rfl slc76 sz4 byt4 (leb rfl) zv4 rfl rfl rfl c7.1 c7.2.1 c7.2.2 (map_rep eB _ false) (r_alloc (.p rfl) zv76 rfl rfl rfl (r_store rfl rfl rfl rfl sz76 rfl (leb rfl) rfl (r_end (W_seq (W_seq (W_region mixed rfl (r_move (.p rfl) rfl (r_len (.p rfl) rfl (.sl _) trivial (List.length_map _) slc96 (r_move (.p rfl) rfl (r_end ?_))))))))))
        refine W_whileE (L := Sh.plan_Reversible_L8 N p0 v5) h (fun v8 => mk [(1, .e (.one (.pure (.sl (p1.map eApiStep))))), (2, .e (.one (.ptr 2 0))), (6, .e (.one (.ptr 6 0))), (8, .e (.one (.pure (.sl (v5.1.map ePlanNode))))), (9, .e (.one (.ptr 9 0))), (44, .e (.one (.pure (.sl (v5.1.map ePlanNode))))), (45, .e (.one (.pure (.val (.int .i64 ((v5.1.length : Int))))))), (46, .e (.one (.pure (.val (.int .i64 v8.2)))))] [(2, .box [.pure (.sl (p0.fVersions.map eI64)), .pure (.sl (p0.fNow.map eI64)), .pure (.sl (p0.fTarget.map eI64)), .pure (.sl (p0.fTables.map eApiTable))]), (6, .box [.pure (.sl (v1.1.fBase.map eI64)), .pure (.sl (v1.1.fNext.map eI64)), .pure (.sl (v1.1.fHeld.map eU8))]), (9, .box [.own 2004]), (2004, .vec 1 (v8.1.map eB))]) (fun v9 => mk [(1, .e (.one (.pure (.sl (p1.map eApiStep))))), (2, .e (.one (.ptr 2 0))), (6, .e (.one (.ptr 6 0))), (8, .e (.one (.pure (.sl (v5.1.map ePlanNode))))), (9, .e (.one (.ptr 9 0)))] [(2, .box [.pure (.sl (p0.fVersions.map eI64)), .pure (.sl (p0.fNow.map eI64)), .pure (.sl (p0.fTarget.map eI64)), .pure (.sl (p0.fTables.map eApiTable))]), (6, .box [.pure (.sl (v1.1.fBase.map eI64)), .pure (.sl (v1.1.fNext.map eI64)), .pure (.sl (v1.1.fHeld.map eU8))]), (9, .box [.own 2005]), (2005, .vec 1 (v9.map eB))]) (fun _ _ => rfl) (sees_mkL (rn [(2004, 43)]) _ _ ⟨rfl, rfl, rfl, rfl, rfl, rfl, rfl, rfl, trivial⟩ ⟨rfl, rfl, rfl, rfl, trivial⟩ rfl rfl) (fun j8 n8 v8 h => ?_) (fun v9 s h hs => ?_)
        · unfold Sh.plan_Reversible_L8 at h
          refine W_seq (W_region mixed rfl (r_bin (.p rfl) rfl rfl (bin_lss _ _ _ _ _ _) rfl (r_end (W_seq ?_))))
          refine W_cond rfl (fun c10 => ?_) (fun c10 => ?_)
          · have h := cnd_t c10 h
            refine W_skip ?_
            refine W_join h (fun v11 => mk [(1, .e (.one (.pure (.sl (p1.map eApiStep))))), (2, .e (.one (.ptr 2 0))), (6, .e (.one (.ptr 6 0))), (8, .e (.one (.pure (.sl (v5.1.map ePlanNode))))), (9, .e (.one (.ptr 9 0))), (44, .e (.one (.pure (.sl (v5.1.map ePlanNode))))), (45, .e (.one (.pure (.val (.int .i64 ((v5.1.length : Int))))))), (46, .e (.one (.pure (.val (.int .i64 v8.2)))))] [(2, .box [.pure (.sl (p0.fVersions.map eI64)), .pure (.sl (p0.fNow.map eI64)), .pure (.sl (p0.fTarget.map eI64)), .pure (.sl (p0.fTables.map eApiTable))]), (6, .box [.pure (.sl (v1.1.fBase.map eI64)), .pure (.sl (v1.1.fNext.map eI64)), .pure (.sl (v1.1.fHeld.map eU8))]), (9, .box [.own 2006]), (2006, .vec 1 (v11.map eB))]) (fun j11 h => ?_) (fun v11 h => ?_)
            · refine W_block (W_seq (W_region mixed rfl (r_move (.p rfl) rfl ?_)))
              obtain ⟨v12, a12, b12, h⟩ := idx_bind h
              refine r_index (.p rfl) rfl rfl slc96 sz101 a12 (map_get b12) rfl (r_loadrN (.p rfl) rfl ag101 sz101 rfl rfl (r_alloc (.p rfl) zv101 rfl rfl rfl (r_assign (.p rfl) rfl (r_store rfl rfl rfl rfl sz101 rfl (leb rfl) rfl (r_end (W_region mixed rfl (r_load1 (.p rfl) rfl ag76 rfl rfl (r_move (.p rfl) rfl (r_fieldAddr (.p rfl) rfl fld101_0 (r_fieldAddr (.p rfl) rfl fld43_0 (r_load1 (.p rfl) rfl ag27 rfl rfl (r_fieldAddr (.p rfl) rfl fld30_1 (r_load1 (.p rfl) rfl ag27 rfl rfl ?_)))))))))))))
              obtain ⟨v13, a13, h⟩ := bind_some h
              refine r_call (ds0 := [_, _]) [] (slices_Equal_int_int_c N v12.fM.fBase p0.fNow v13 a13) (.p rfl) gd65 rfl ⟨rfl, rfl, trivial⟩ rfl rfl rfl (nodupL_spec rfl) trivial rfl (r_move (.p rfl) rfl ?_)
              refine r_split (t := 59) rfl (fun c14 => ?_) (fun c14 => ?_)
              · have h := cnd_t c14 h
                refine r_fieldAddr (.g rfl rfl) rfl fld101_0 (r_fieldAddr (.g rfl rfl) rfl fld43_1 (r_load1 (.g rfl rfl) rfl ag27 rfl rfl ?_))
                obtain ⟨v15, a15, h⟩ := bind_some h
                refine r_call (ds0 := [_, _]) [] (Contract.weak (ds' := [.e (.one (.pure (.sl (v12.fM.fNext.map eI64)))), .e (.one (.fnc 67))]) (slices_ContainsFunc_int_int_c N v12.fM.fNext ((fun (x : Int) => Sh.plan_Reversible_1 N x)) v15 a15) ⟨(fun _ _ _ hh => hh), (fun _ _ _ hh => fnc_clo gd67 (fun ar t ht => by obtain ⟨x, r, rfl, hq, rfl⟩ := cloG_some ht; exact plan_Reversible_1_c N x r hq) hh), trivial⟩) (.g rfl rfl) gd66 rfl ⟨rfl, rfl, trivial⟩ rfl rfl rfl (nodupL_spec rfl) trivial rfl ?_
                refine r_un (.g rfl rfl) rfl (un_not _) rfl (r_pick (.p rfl) rfl rfl rfl ?_)
                obtain ⟨v16, a16, b16, h⟩ := idx_bind h
                refine r_indexo (.p rfl) rfl rfl rfl slc76 sz4 a16 (map_get b16) (r_storee rfl rfl rfl rfl (map_get b16) rfl sz4 rfl (leb rfl) (map_setv eB v8.1 _ ((!v15))) ?_)
                refine r_endD (by kernel_rfl) ?_
                exact sink (v8.1.set (v8.2).toNat ((!v15))) h (sees_mkL (rn [(2006, 2004)]) _ _ ⟨rfl, rfl, rfl, rfl, rfl, rfl, rfl, rfl, trivial⟩ ⟨rfl, rfl, rfl, rfl, trivial⟩ rfl rfl)
              · have h := cnd_f c14 h
                refine r_notB rfl rfl (r_notB rfl rfl (r_notB rfl rfl (r_notB rfl rfl (r_notB rfl rfl (r_pick (.p rfl) rfl rfl rfl ?_)))))
                obtain ⟨v17, a17, b17, h⟩ := idx_bind h
                refine r_indexo (.p rfl) rfl rfl rfl slc76 sz4 a17 (map_get b17) (r_storee rfl rfl rfl rfl (map_get b17) rfl sz4 rfl (leb rfl) (map_setv eB v8.1 _ false) ?_)
                refine r_endD (by kernel_rfl) ?_
                exact sink (v8.1.set (v8.2).toNat false) h (sees_mkL (rn [(2006, 2004)]) _ _ ⟨rfl, rfl, rfl, rfl, rfl, rfl, rfl, rfl, trivial⟩ ⟨rfl, rfl, rfl, rfl, trivial⟩ rfl rfl)
            · refine W_region mixed rfl (r_bin (.p rfl) rfl rfl (bin_add _ _ _ _ _ _) rfl (r_move (.p rfl) rfl (r_end ?_)))
              exact sink (v11, (IntKind.wrap .i64 (v8.2 + 1))) h (sees_mkL (rn [(2004, 2006)]) _ _ ⟨rfl, rfl, rfl, rfl, rfl, rfl, rfl, rfl, trivial⟩ ⟨rfl, rfl, rfl, rfl, trivial⟩ rfl rfl)
          · have h := cnd_f c10 h
            refine W_exit ?_
            exact sink v8.1 h (sees_mkL (rn [(2005, 2004)]) _ _ ⟨rfl, rfl, rfl, rfl, rfl, trivial⟩ ⟨rfl, rfl, rfl, rfl, trivial⟩ rfl rfl)
        · refine W_sees hs (W_seq (W_seq (W_region mixed rfl (r_assign (.p rfl) rfl (r_end ?_)))))
          refine W_whileE (L := Sh.plan_Reversible_L18 N) h (fun v18 => mk [(1, .e (.one (.pure (.sl (p1.map eApiStep))))), (2, .e (.one (.ptr 2 0))), (6, .e (.one (.ptr 6 0))), (8, .e (.one (.pure (.sl (v5.1.map ePlanNode))))), (9, .e (.one (.ptr 9 0))), (12, .e (.one (.pure (.val (.bool true)))))] [(2, .box [.pure (.sl (p0.fVersions.map eI64)), .pure (.sl (p0.fNow.map eI64)), .pure (.sl (p0.fTarget.map eI64)), .pure (.sl (p0.fTables.map eApiTable))]), (6, .box [.pure (.sl (v1.1.fBase.map eI64)), .pure (.sl (v1.1.fNext.map eI64)), .pure (.sl (v1.1.fHeld.map eU8))]), (9, .box [.own 2007]), (2007, .vec 1 (v9.map eB))]) (fun v19 => mk [(1, .e (.one (.pure (.sl (p1.map eApiStep))))), (2, .e (.one (.ptr 2 0))), (6, .e (.one (.ptr 6 0))), (8, .e (.one (.pure (.sl (v5.1.map ePlanNode))))), (9, .e (.one (.ptr 9 0)))] [(2, .box [.pure (.sl (p0.fVersions.map eI64)), .pure (.sl (p0.fNow.map eI64)), .pure (.sl (p0.fTarget.map eI64)), .pure (.sl (p0.fTables.map eApiTable))]), (6, .box [.pure (.sl (v1.1.fBase.map eI64)), .pure (.sl (v1.1.fNext.map eI64)), .pure (.sl (v1.1.fHeld.map eU8))]), (9, .box [.own 2008]), (2008, .vec 1 (v9.map eB))]) (fun _ _ => rfl) (sees_mkL (rn [(2007, 2005)]) _ _ ⟨rfl, rfl, rfl, rfl, rfl, rfl, trivial⟩ ⟨rfl, rfl, rfl, rfl, trivial⟩ rfl rfl) (fun j18 n18 v18 h => ?_) (fun v19 s h hs => ?_)
          · unfold Sh.plan_Reversible_L18 at h
            refine W_seq (W_seq (W_region mixed rfl (r_move (.p rfl) rfl (r_end ?_))))
            refine W_cond rfl (fun c20 => ?_) (fun c20 => ?_)
            · have h := cnd_t c20 h
              refine W_skip (W_block (W_seq (W_region mixed rfl (r_assign (.p rfl) rfl (r_end (W_seq ?_))))))
              cases h
            · have h := cnd_f c20 h
              refine W_exit ?_
              exact sink () h (sees_mkL (rn [(2008, 2007)]) _ _ ⟨rfl, rfl, rfl, rfl, rfl, trivial⟩ ⟨rfl, rfl, rfl, rfl, trivial⟩ rfl rfl)
          · refine W_sees hs (W_seq (W_region mixed rfl (r_loadN (.p rfl) rfl ag30 sz30 rfl rfl rfl (r_loadN (.p rfl) rfl ag43 sz43 rfl rfl rfl (r_move (.p rfl) rfl ?_)))))
            obtain ⟨v87, a87, h⟩ := bind_some h
            refine r_call (ds0 := [_, _, _]) [2015] (step_Run_c N p0 v1.1 p1 v87 a87) (.p rfl) gd69 rfl ⟨rfl, rfl, rfl, trivial⟩ rfl rfl rfl (nodupL_spec rfl) ⟨rfl, trivial⟩ rfl (r_move (.p rfl) rfl (r_extract (.p rfl) rfl rfl (r_extract (.p rfl) rfl rfl (r_extract (.p rfl) rfl rfl (r_assign (.p rfl) rfl (r_assign (.p rfl) rfl (r_assign (.p rfl) rfl (r_end (W_seq (W_seq (W_region mixed rfl (r_move (.p rfl) rfl (r_bin (.p rfl) rfl rfl (bin_neq _ _ _ _ _ _) rfl (r_end ?_))))))))))))))
            refine W_cond rfl (fun c88 => ?_) (fun c88 => ?_)
            · have h := cnd_t c88 h
              refine W_seq (W_region mixed rfl (r_move (.p rfl) rfl (r_assign (.p rfl) rfl (r_assign (.p rfl) rfl (r_end ?_)))))
              obtain rfl := Option.some.inj h
              refine W_sees (sees_mkL (rn []) [(4, .e (.one (.pure (.val (.bool false))))), (5, .e (.one (.pure (.val (.int .i64 v87.2.2)))))] [] ⟨rfl, rfl, trivial⟩ trivial rfl rfl) (W_ret ?_)
              exact ⟨⟨[_, _], ⟨.tmp _ _ rfl, ⟨.tmp _ _ rfl, trivial⟩⟩, rfl⟩, trivial⟩
            · have h := cnd_f c88 h
              refine W_skip (W_seq (W_seq (W_region mixed rfl (r_move (.p rfl) rfl (r_len (.p rfl) rfl (.own _ _ _) ⟨rfl, trivial⟩ (List.length_map _) slc89 (r_move (.p rfl) rfl (r_end ?_)))))))
              refine W_whileE (L := Sh.plan_Reversible_L89 N v5 v9 v87) h (fun v89 => mk [(8, .e (.one (.pure (.sl (v5.1.map ePlanNode))))), (9, .e (.one (.ptr 9 0))), (102, .e (.one (.own 2017))), (103, .e (.one (.pure (.val (.int .i64 ((v87.1.length : Int))))))), (104, .e (.one (.pure (.val (.int .i64 v89)))))] [(9, .box [.own 2016]), (2016, .vec 1 (v9.map eB)), (2017, .vec 3 (v87.1.map eApiMix))]) (fun v90 => mk [] []) (fun _ _ => rfl) (sees_mkL (rn [(2016, 2008), (2017, 2015)]) _ _ ⟨rfl, rfl, rfl, rfl, rfl, trivial⟩ ⟨rfl, rfl, rfl, trivial⟩ rfl rfl) (fun j89 n89 v89 h => ?_) (fun v90 s h hs => ?_)
              · unfold Sh.plan_Reversible_L89 at h
                refine W_seq (W_region mixed rfl (r_bin (.p rfl) rfl rfl (bin_lss _ _ _ _ _ _) rfl (r_end (W_seq ?_))))
                refine W_cond rfl (fun c91 => ?_) (fun c91 => ?_)
                · have h := cnd_t c91 h
                  refine W_skip (W_seq (W_block (W_seq (W_region mixed rfl ?_))))
                  obtain ⟨v92, a92, b92, h⟩ := idx_bind h
                  refine r_indexo (.p rfl) rfl rfl rfl slc89 sz43 a92 (map_get b92) (r_loadeN (.p rfl) rfl ag43 sz43 rfl (map_get b92) (r_alloc (.p rfl) zv43 rfl rfl rfl (r_store rfl rfl rfl rfl sz43 rfl (leb rfl) rfl (r_end (W_seq (W_region mixed rfl (r_move (.p rfl) rfl (r_see (sees_fzb 18 [.sl (v92.fBase.map eI64), .sl (v92.fNext.map eI64), .sl (v92.fHeld.map eU8)] rfl rfl) ?_))))))))
                  refine r_makeFunc (capD := [_]) (cloG (ea1 true ePlanNode) tB ((fun (x : PlanNode) => Sh.plan_Reversible_3 N x v92.fBase v92.fNext v92.fHeld))) (.p rfl) gd70 rfl ⟨rfl, trivial⟩ rfl (fun ar t ht => by obtain ⟨x, r, rfl, hq, rfl⟩ := cloG_some ht; exact plan_Reversible_3_c N x v92.fBase v92.fNext v92.fHeld r hq) ?_
                  obtain ⟨v93, a93, h⟩ := bind_some h
                  refine r_call (ds0 := [_, _]) [] (slices_IndexFunc_plan_node_plan_node_c N v5.1 ((fun (x : PlanNode) => Sh.plan_Reversible_3 N x v92.fBase v92.fNext v92.fHeld)) v93 a93) (.p rfl) gd56 rfl ⟨rfl, rfl, trivial⟩ rfl rfl rfl (nodupL_spec rfl) trivial rfl ?_
                  refine r_assign (.p rfl) rfl (r_end ?_)
                  refine W_join h (fun v94 => mk [(8, .e (.one (.pure (.sl (v5.1.map ePlanNode))))), (9, .e (.one (.ptr 9 0))), (102, .e (.one (.own 2019))), (103, .e (.one (.pure (.val (.int .i64 ((v87.1.length : Int))))))), (104, .e (.one (.pure (.val (.int .i64 v89))))), (119, .e (.one (.pure (.val (.bool v94)))))] [(9, .box [.own 2018]), (2018, .vec 1 (v9.map eB)), (2019, .vec 3 (v87.1.map eApiMix))]) (fun j94 h => ?_) (fun v94 h => ?_)
                  · refine W_region mixed rfl (r_move (.p rfl) rfl (r_bin (.p rfl) rfl rfl (bin_lss _ _ _ _ _ _) rfl (r_move (.p rfl) rfl ?_)))
                    refine r_split (t := 113) rfl (fun c95 => ?_) (fun c95 => ?_)
                    · have h := cnd_t c95 h
                      refine r_notB rfl rfl (r_notB rfl rfl (r_notB rfl rfl (r_notB rfl rfl (r_notB rfl rfl (r_pick (.p rfl) rfl rfl rfl (r_end ?_))))))
                      exact sink true h (sees_mkL (rn [(2018, 2016), (2019, 2017)]) _ _ ⟨rfl, rfl, rfl, rfl, rfl, rfl, trivial⟩ ⟨rfl, rfl, rfl, trivial⟩ rfl rfl)
                    · have h := cnd_f c95 h
                      refine r_load1 (.g rfl rfl) rfl ag76 rfl rfl (r_move (.g rfl rfl) rfl ?_)
                      obtain ⟨v96, a96, b96, h⟩ := idx_bind h
                      refine r_indexo (.g rfl rfl) rfl rfl rfl slc76 sz4 a96 (map_get b96) (r_loade1 (.g rfl rfl) rfl ag4 rfl (map_get b96) rfl (r_un (.g rfl rfl) rfl (un_not _) rfl (r_pick (.p rfl) rfl rfl rfl (r_end ?_))))
                      exact sink (!v96) h (sees_mkL (rn [(2018, 2016), (2019, 2017)]) _ _ ⟨rfl, rfl, rfl, rfl, rfl, rfl, trivial⟩ ⟨rfl, rfl, rfl, trivial⟩ rfl rfl)
                  · refine W_cond rfl (fun c97 => ?_) (fun c97 => ?_)
                    · have h := cnd_t c97 h
                      refine W_seq (W_region mixed rfl (r_assign (.p rfl) rfl (r_assign (.p rfl) rfl (r_end ?_))))
                      obtain rfl := Option.some.inj h
                      refine W_sees (sees_mkL (rn []) [(4, .e (.one (.pure (.val (.bool false))))), (5, .e (.one (.pure (.val (.int .i64 0)))))] [] ⟨rfl, rfl, trivial⟩ trivial rfl rfl) (W_ret ?_)
                      exact ⟨⟨[_, _], ⟨.tmp _ _ rfl, ⟨.tmp _ _ rfl, trivial⟩⟩, rfl⟩, trivial⟩
                    · have h := cnd_f c97 h
                      refine W_skip (W_region mixed rfl (r_bin (.p rfl) rfl rfl (bin_add _ _ _ _ _ _) rfl (r_move (.p rfl) rfl (r_end ?_))))
                      exact sink (IntKind.wrap .i64 (v89 + 1)) h (sees_mkL (rn [(2016, 2018), (2017, 2019)]) _ _ ⟨rfl, rfl, rfl, rfl, rfl, trivial⟩ ⟨rfl, rfl, rfl, trivial⟩ rfl rfl)
                · have h := cnd_f c91 h
                  refine W_exit ?_
                  exact sink () h (sees_mkL (rn []) _ _ trivial trivial rfl rfl)
              · refine W_sees hs (W_seq (W_region mixed rfl (r_assign (.p rfl) rfl (r_assign (.p rfl) rfl (r_end ?_)))))
                obtain rfl := Option.some.inj h
                refine W_sees (sees_mkL (rn []) [(4, .e (.one (.pure (.val (.bool true))))), (5, .e (.one (.pure (.val (.int .i64 0)))))] [] ⟨rfl, rfl, trivial⟩ trivial rfl rfl) (W_ret ?_)
                exact ⟨⟨[_, _], ⟨.tmp _ _ rfl, ⟨.tmp _ _ rfl, trivial⟩⟩, rfl⟩, trivial⟩
set_option maxRecDepth 10000 in
theorem sheavelaw39_PlanErrors_c (N : Nat) (p0 : ApiProblem) (p1 : List ApiStep) (r : Bool) (h : Sh.sheavelaw39_PlanErrors N p0 p1 = some r) : Contract Try.prog 10 [.e (.agg [.pure (.sl (p0.fVersions.map eI64)), .pure (.sl (p0.fNow.map eI64)), .pure (.sl (p0.fTarget.map eI64)), .pure (.sl (p0.fTables.map eApiTable))]), .e (.one (.pure (.sl (p1.map eApiStep))))] [] (.e (.one (.pure (.val (.bool r))))) := by
  unfold Sh.sheavelaw39_PlanErrors at h
  refine contract_of_W (n := 112) (rs := [.tmp 4]) Try.func10 rfl rfl rfl (leb rfl) (leb rfl) rfl fun w0 S0 => ?_
  refine W_seq (W_region mixed rfl (r_box (.p rfl) rfl rfl (r_assign (.p rfl) rfl (r_end (W_seq (W_region mixed rfl (r_loadN (.p rfl) rfl ag30 sz30 rfl rfl rfl ?_)))))))
  obtain ⟨v1, a1, h⟩ := bind_some h
  refine r_call (ds0 := [_]) [] (sheaveref35_ValidProblem_c N p0 v1 a1) (.p rfl) gd33 rfl ⟨rfl, trivial⟩ rfl rfl rfl (nodupL_spec rfl) trivial rfl (r_assign (.p rfl) rfl (r_end (W_seq ?_)))
  refine W_join h (fun v2 => mk [(1, .e (.one (.pure (.sl (p1.map eApiStep))))), (2, .e (.one (.ptr 2 0))), (5, .e (.one (.pure (.val (.int .i64 v1))))), (35, .e (.one (.pure (.val (.bool v2)))))] [(2, .box [.pure (.sl (p0.fVersions.map eI64)), .pure (.sl (p0.fNow.map eI64)), .pure (.sl (p0.fTarget.map eI64)), .pure (.sl (p0.fTables.map eApiTable))])]) (fun j2 h => ?_) (fun v2 h => ?_)
  · refine W_region mixed rfl ?_
    obtain ⟨v3, a3, h⟩ := bind_some h
    refine r_call (ds0 := []) [] (sheavelaw39_awake_c N v3 a3) (.p rfl) gd11 rfl trivial rfl rfl rfl (nodupL_spec rfl) trivial rfl (r_un (.p rfl) rfl (un_not _) rfl (r_move (.p rfl) rfl ?_))
    refine r_split (t := 22) rfl (fun c4 => ?_) (fun c4 => ?_)
    · have h := cnd_t c4 h
      refine r_notB rfl rfl (r_notB rfl rfl (r_notB rfl rfl (r_pick (.p rfl) rfl rfl rfl (r_move (.p rfl) rfl (r_notB rfl rfl (r_notB rfl rfl (r_notB rfl rfl (r_pick (.p rfl) rfl rfl rfl (r_move (.p rfl) rfl (r_notB rfl rfl (r_notB rfl rfl (r_pick (.p rfl) rfl rfl rfl (r_end ?_)))))))))))))
      exact sink true h (sees_mkL (rn []) _ _ ⟨rfl, rfl, rfl, rfl, trivial⟩ ⟨rfl, trivial⟩ rfl rfl)
    · have h := cnd_f c4 h
      refine r_loadN (.g rfl rfl) rfl ag30 sz30 rfl rfl rfl ?_
      obtain ⟨v5, a5, h⟩ := bind_some h
      refine r_call (ds0 := [_]) [] (sheaveref35_Few_c N p0 v5 a5) (.g rfl rfl) gd17 rfl ⟨rfl, trivial⟩ rfl rfl rfl (nodupL_spec rfl) trivial rfl (r_un (.g rfl rfl) rfl (un_not _) rfl (r_pick (.p rfl) rfl rfl rfl (r_move (.p rfl) rfl ?_)))
      refine r_split (t := 27) rfl (fun c6 => ?_) (fun c6 => ?_)
      · have h := cnd_t c6 h
        refine r_notB rfl rfl (r_notB rfl rfl (r_notB rfl rfl (r_pick (.p rfl) rfl rfl rfl (r_move (.p rfl) rfl (r_notB rfl rfl (r_notB rfl rfl (r_pick (.p rfl) rfl rfl rfl (r_end ?_))))))))
        exact sink true h (sees_mkL (rn []) _ _ ⟨rfl, rfl, rfl, rfl, trivial⟩ ⟨rfl, trivial⟩ rfl rfl)
      · have h := cnd_f c6 h
        refine r_move (.g rfl rfl) rfl (r_len (.g rfl rfl) rfl (.sl _) trivial (List.length_map _) slc33 (r_bin (.g rfl rfl) rfl rfl (bin_gtr _ _ _ _ _ _) rfl (r_pick (.p rfl) rfl rfl rfl (r_move (.p rfl) rfl ?_))))
        refine r_split (t := 32) rfl (fun c7 => ?_) (fun c7 => ?_)
        · have h := cnd_t c7 h
          refine r_notB rfl rfl (r_notB rfl rfl (r_pick (.p rfl) rfl rfl rfl (r_end ?_)))
          exact sink true h (sees_mkL (rn []) _ _ ⟨rfl, rfl, rfl, rfl, trivial⟩ ⟨rfl, trivial⟩ rfl rfl)
        · have h := cnd_f c7 h
          refine r_move (.g rfl rfl) rfl (r_bin (.g rfl rfl) rfl rfl (bin_eql _ _ _ _ _ _) rfl (r_pick (.p rfl) rfl rfl rfl (r_end ?_)))
          exact sink (v1 == 0) h (sees_mkL (rn []) _ _ ⟨rfl, rfl, rfl, rfl, trivial⟩ ⟨rfl, trivial⟩ rfl rfl)
  · refine W_cond rfl (fun c8 => ?_) (fun c8 => ?_)
    · have h := cnd_t c8 h
      refine W_seq (W_region mixed rfl ?_)
      obtain ⟨v9, a9, h⟩ := bind_some h
      refine r_call (ds0 := []) [] (sheavelaw39_awake_c N v9 a9) (.p rfl) gd11 rfl trivial rfl rfl rfl (nodupL_spec rfl) trivial rfl (r_assign (.p rfl) rfl (r_end ?_))
      obtain rfl := Option.some.inj h
      refine W_sees (sees_mkL (rn []) [(4, .e (.one (.pure (.val (.bool v9)))))] [] ⟨rfl, trivial⟩ trivial rfl rfl) (W_ret ?_)
      exact ⟨⟨[_], ⟨.tmp _ _ rfl, trivial⟩, rfl⟩, trivial⟩
    · have h := cnd_f c8 h
      refine W_skip (W_seq (W_region mixed rfl (r_loadN (.p rfl) rfl ag30 sz30 rfl rfl rfl ?_)))
      obtain ⟨v10, a10, h⟩ := bind_some h
      refine r_call (ds0 := [_]) [2001] (plan_Find_c N p0 v10 a10) (.p rfl) gd13 rfl ⟨rfl, trivial⟩ rfl rfl rfl (nodupL_spec rfl) ⟨rfl, trivial⟩ rfl (r_move (.p rfl) rfl (r_extract (.p rfl) rfl rfl (r_extract (.p rfl) rfl rfl (r_assign (.p rfl) rfl (r_assign (.p rfl) rfl (r_end (W_seq (W_region mixed rfl (r_loadN (.p rfl) rfl ag30 sz30 rfl rfl rfl (r_move (.p rfl) rfl ?_))))))))))
      obtain ⟨v11, a11, h⟩ := bind_some h
      refine r_call (ds0 := [_, _]) [2002] (plan_Trim_c N p0 p1 v11 a11) (.p rfl) gd31 rfl ⟨rfl, rfl, trivial⟩ rfl rfl rfl (nodupL_spec rfl) ⟨rfl, trivial⟩ rfl (r_move (.p rfl) rfl (r_extract (.p rfl) rfl rfl (r_extract (.p rfl) rfl rfl (r_assign (.p rfl) rfl (r_assign (.p rfl) rfl (r_end (W_seq (W_region mixed rfl (r_loadN (.p rfl) rfl ag30 sz30 rfl rfl rfl (r_build [] (.p rfl) rfl trivial zv43 rfl rfl pl43 rfl ?_))))))))))
      obtain ⟨v12, a12, h⟩ := bind_some h
      refine r_call (ds0 := [_, _]) [2003] (plan_From_c N p0 ((ApiMix.mk (([] : List Int)) (([] : List Int)) (([] : List Int)))) v12 a12) (.p rfl) gd27 rfl ⟨rfl, rfl, trivial⟩ rfl rfl rfl (nodupL_spec rfl) ⟨rfl, trivial⟩ rfl (r_move (.p rfl) rfl (r_extract (.p rfl) rfl rfl (r_extract (.p rfl) rfl rfl (r_assign (.p rfl) rfl (r_assign (.p rfl) rfl (r_end (W_seq (W_region mixed rfl (r_loadN (.p rfl) rfl ag30 sz30 rfl rfl rfl (r_move (.p rfl) rfl ?_))))))))))
      obtain ⟨v13, a13, h⟩ := bind_some h
      refine r_call (ds0 := [_, _]) [] (plan_Reversible_c N p0 p1 v13 a13) (.p rfl) gd34 rfl ⟨rfl, rfl, trivial⟩ rfl rfl rfl (nodupL_spec rfl) trivial rfl (r_move (.p rfl) rfl (r_extract (.p rfl) rfl rfl (r_extract (.p rfl) rfl rfl (r_assign (.p rfl) rfl (r_assign (.p rfl) rfl (r_end (W_seq (W_region mixed rfl (r_loadN (.p rfl) rfl ag30 sz30 rfl rfl rfl (r_move (.p rfl) rfl ?_))))))))))
      obtain ⟨v14, a14, h⟩ := bind_some h
      refine r_call (ds0 := [_, _]) [] (plan_Failure_c N p0 p1 v14 a14) (.p rfl) gd19 rfl ⟨rfl, rfl, trivial⟩ rfl rfl rfl (nodupL_spec rfl) trivial rfl (r_move (.p rfl) rfl (r_extract (.p rfl) rfl rfl (r_extract (.p rfl) rfl rfl (r_extract (.p rfl) rfl rfl (r_extract (.p rfl) rfl rfl (r_alloc (.p rfl) zv43 rfl rfl rfl (r_alloc (.p rfl) zv45 rfl rfl rfl (r_assign (.p rfl) rfl (r_store rfl rfl rfl rfl sz43 rfl (leb rfl) rfl (r_store rfl rfl rfl rfl sz45 rfl (leb rfl) rfl (r_assign (.p rfl) rfl (r_end ?_))))))))))))
      refine W_join h (fun v15 => mk [(4, .e (.one (.pure (.val (.bool v15)))))] []) (fun j15 h => ?_) (fun v15 h => ?_)
      · refine W_region mixed rfl (r_move (.p rfl) rfl (r_move (.p rfl) rfl (r_bin (.p rfl) rfl rfl (bin_eql _ _ _ _ _ _) rfl (r_move (.p rfl) rfl ?_))))
        refine r_split (t := 71) rfl (fun c16 => ?_) (fun c16 => ?_)
        · have h := cnd_t c16 h
          refine r_move (.g rfl rfl) rfl (r_move (.g rfl rfl) rfl (r_bin (.g rfl rfl) rfl rfl (bin_eql _ _ _ _ _ _) rfl (r_pick (.p rfl) rfl rfl rfl (r_move (.p rfl) rfl ?_))))
          refine r_split (t := 76) rfl (fun c17 => ?_) (fun c17 => ?_)
          · have h := cnd_t c17 h
            refine r_move (.g rfl rfl) rfl (r_move (.g rfl rfl) rfl (r_bin (.g rfl rfl) rfl rfl (bin_eql _ _ _ _ _ _) rfl (r_pick (.p rfl) rfl rfl rfl (r_move (.p rfl) rfl ?_))))
            refine r_split (t := 81) rfl (fun c18 => ?_) (fun c18 => ?_)
            · have h := cnd_t c18 h
              refine r_move (.g rfl rfl) rfl (r_move (.g rfl rfl) rfl (r_bin (.g rfl rfl) rfl rfl (bin_eql _ _ _ _ _ _) rfl (r_pick (.p rfl) rfl rfl rfl (r_move (.p rfl) rfl ?_))))
              refine r_split (t := 86) rfl (fun c19 => ?_) (fun c19 => ?_)
              · have h := cnd_t c19 h
                refine r_move (.g rfl rfl) rfl (r_move (.g rfl rfl) rfl (r_bin (.g rfl rfl) rfl rfl (bin_eql _ _ _ _ _ _) rfl (r_pick (.p rfl) rfl rfl rfl (r_move (.p rfl) rfl ?_))))
                refine r_split (t := 91) rfl (fun c20 => ?_) (fun c20 => ?_)
                · have h := cnd_t c20 h
                  refine r_move (.g rfl rfl) rfl (r_un (.g rfl rfl) rfl (un_not _) rfl (r_pick (.p rfl) rfl rfl rfl (r_move (.p rfl) rfl ?_)))
                  refine r_split (t := 95) rfl (fun c21 => ?_) (fun c21 => ?_)
                  · have h := cnd_t c21 h
                    refine r_move (.g rfl rfl) rfl (r_len (.g rfl rfl) rfl (.own _ _ _) ⟨rfl, trivial⟩ (List.length_map _) slc33 (r_move (.g rfl rfl) rfl (r_len (.g rfl rfl) rfl (.own _ _ _) ⟨rfl, trivial⟩ (List.length_map _) slc33 (r_bin (.g rfl rfl) rfl rfl (bin_add _ _ _ _ _ _) rfl (r_move (.g rfl rfl) rfl (r_len (.g rfl rfl) rfl (.own _ _ _) ⟨rfl, trivial⟩ (List.length_map _) slc33 (r_bin (.g rfl rfl) rfl rfl (bin_add _ _ _ _ _ _) rfl (r_bin (.g rfl rfl) rfl rfl (bin_eql _ _ _ _ _ _) rfl (r_pick (.p rfl) rfl rfl rfl (r_move (.p rfl) rfl ?_))))))))))
                    refine r_split (t := 106) rfl (fun c22 => ?_) (fun c22 => ?_)
                    · have h := cnd_t c22 h
                      refine r_loadN (.g rfl rfl) rfl ag30 sz30 rfl rfl rfl (r_move (.g rfl rfl) rfl ?_)
                      obtain ⟨v23, a23, h⟩ := bind_some h
                      refine r_call (ds0 := [_, _]) [] (plan_Check_c N p0 p1 v23 a23) (.g rfl rfl) gd16 rfl ⟨rfl, rfl, trivial⟩ rfl rfl rfl (nodupL_spec rfl) trivial rfl (r_un (.g rfl rfl) rfl (un_not _) rfl (r_pick (.p rfl) rfl rfl rfl (r_assign (.p rfl) rfl (r_end ?_))))
                      exact sink (!v23) h (sees_mkL (rn []) _ _ ⟨rfl, trivial⟩ trivial rfl rfl)
                    · have h := cnd_f c22 h
                      refine r_notB rfl rfl (r_notB rfl rfl (r_notB rfl rfl (r_notB rfl rfl (r_pick (.p rfl) rfl rfl rfl (r_assign (.p rfl) rfl (r_end ?_))))))
                      exact sink false h (sees_mkL (rn []) _ _ ⟨rfl, trivial⟩ trivial rfl rfl)
                  · have h := cnd_f c21 h
                    refine r_notB rfl rfl (r_notB rfl rfl (r_notB rfl rfl (r_notB rfl rfl (r_notB rfl rfl (r_notB rfl rfl (r_notB rfl rfl (r_notB rfl rfl (r_notB rfl rfl (r_pick (.p rfl) rfl rfl rfl (r_move (.p rfl) rfl (r_notB rfl rfl (r_notB rfl rfl (r_notB rfl rfl (r_notB rfl rfl (r_pick (.p rfl) rfl rfl rfl (r_assign (.p rfl) rfl (r_end ?_)))))))))))))))))
                    exact sink false h (sees_mkL (rn []) _ _ ⟨rfl, trivial⟩ trivial rfl rfl)
                · have h := cnd_f c20 h
                  refine r_notB rfl rfl (r_notB rfl rfl (r_pick (.p rfl) rfl rfl rfl (r_move (.p rfl) rfl (r_notB rfl rfl (r_notB rfl rfl (r_notB rfl rfl (r_notB rfl rfl (r_notB rfl rfl (r_notB rfl rfl (r_notB rfl rfl (r_notB rfl rfl (r_notB rfl rfl (r_pick (.p rfl) rfl rfl rfl (r_move (.p rfl) rfl (r_notB rfl rfl (r_notB rfl rfl (r_notB rfl rfl (r_notB rfl rfl (r_pick (.p rfl) rfl rfl rfl (r_assign (.p rfl) rfl (r_end ?_)))))))))))))))))))))
                  exact sink false h (sees_mkL (rn []) _ _ ⟨rfl, trivial⟩ trivial rfl rfl)
              · have h := cnd_f c19 h
                refine r_notB rfl rfl (r_notB rfl rfl (r_notB rfl rfl (r_pick (.p rfl) rfl rfl rfl (r_move (.p rfl) rfl (r_notB rfl rfl (r_notB rfl rfl (r_pick (.p rfl) rfl rfl rfl (r_move (.p rfl) rfl (r_notB rfl rfl (r_notB rfl rfl (r_notB rfl rfl (r_notB rfl rfl (r_notB rfl rfl (r_notB rfl rfl (r_notB rfl rfl (r_notB rfl rfl (r_notB rfl rfl (r_pick (.p rfl) rfl rfl rfl (r_move (.p rfl) rfl (r_notB rfl rfl (r_notB rfl rfl (r_notB rfl rfl (r_notB rfl rfl (r_pick (.p rfl) rfl rfl rfl (r_assign (.p rfl) rfl (r_end ?_))))))))))))))))))))))))))
                exact sink false h (sees_mkL (rn []) _ _ ⟨rfl, trivial⟩ trivial rfl rfl)
            · have h := cnd_f c18 h
              refine r_notB rfl rfl (r_notB rfl rfl (r_notB rfl rfl (r_pick (.p rfl) rfl rfl rfl (r_move (.p rfl) rfl (r_notB rfl rfl (r_notB rfl rfl (r_notB rfl rfl (r_pick (.p rfl) rfl rfl rfl (r_move (.p rfl) rfl (r_notB rfl rfl (r_notB rfl rfl (r_pick (.p rfl) rfl rfl rfl (r_move (.p rfl) rfl (r_notB rfl rfl (r_notB rfl rfl (r_notB rfl rfl (r_notB rfl rfl (r_notB rfl rfl (r_notB rfl rfl (r_notB rfl rfl (r_notB rfl rfl (r_notB rfl rfl (r_pick (.p rfl) rfl rfl rfl (r_move (.p rfl) rfl (r_notB rfl rfl (r_notB rfl rfl (r_notB rfl rfl (r_notB rfl rfl (r_pick (.p rfl) rfl rfl rfl ?_)))))))))))))))))))))))))))))
              refine r_assign (.p rfl) rfl (r_end ?_)
              exact sink false h (sees_mkL (rn []) _ _ ⟨rfl, trivial⟩ trivial rfl rfl)
          · have h := cnd_f c17 h
            refine r_notB rfl rfl (r_notB rfl rfl (r_notB rfl rfl (r_pick (.p rfl) rfl rfl rfl (r_move (.p rfl) rfl (r_notB rfl rfl (r_notB rfl rfl (r_notB rfl rfl (r_pick (.p rfl) rfl rfl rfl (r_move (.p rfl) rfl (r_notB rfl rfl (r_notB rfl rfl (r_notB rfl rfl (r_pick (.p rfl) rfl rfl rfl (r_move (.p rfl) rfl (r_notB rfl rfl (r_notB rfl rfl (r_pick (.p rfl) rfl rfl rfl (r_move (.p rfl) rfl (r_notB rfl rfl (r_notB rfl rfl (r_notB rfl rfl (r_notB rfl rfl (r_notB rfl rfl (r_notB rfl rfl (r_notB rfl rfl (r_notB rfl rfl (r_notB rfl rfl (r_pick (.p rfl) rfl rfl rfl (r_move (.p rfl) rfl ?_)))))))))))))))))))))))))))))
            refine r_notB rfl rfl (r_notB rfl rfl (r_notB rfl rfl (r_notB rfl rfl (r_pick (.p rfl) rfl rfl rfl (r_assign (.p rfl) rfl (r_end ?_))))))
            exact sink false h (sees_mkL (rn []) _ _ ⟨rfl, trivial⟩ trivial rfl rfl)
        · have h := cnd_f c16 h
          refine r_notB rfl rfl (r_notB rfl rfl (r_notB rfl rfl (r_pick (.p rfl) rfl rfl rfl (r_move (.p rfl) rfl (r_notB rfl rfl (r_notB rfl rfl (r_notB rfl rfl (r_pick (.p rfl) rfl rfl rfl (r_move (.p rfl) rfl (r_notB rfl rfl (r_notB rfl rfl (r_notB rfl rfl (r_pick (.p rfl) rfl rfl rfl (r_move (.p rfl) rfl (r_notB rfl rfl (r_notB rfl rfl (r_notB rfl rfl (r_pick (.p rfl) rfl rfl rfl (r_move (.p rfl) rfl (r_notB rfl rfl (r_notB rfl rfl (r_pick (.p rfl) rfl rfl rfl (r_move (.p rfl) rfl (r_notB rfl rfl (r_notB rfl rfl (r_notB rfl rfl (r_notB rfl rfl (r_notB rfl rfl (r_notB rfl rfl ?_)))))))))))))))))))))))))))))
          refine r_notB rfl rfl (r_notB rfl rfl (r_notB rfl rfl (r_pick (.p rfl) rfl rfl rfl (r_move (.p rfl) rfl (r_notB rfl rfl (r_notB rfl rfl (r_notB rfl rfl (r_notB rfl rfl (r_pick (.p rfl) rfl rfl rfl (r_assign (.p rfl) rfl (r_end ?_)))))))))))
          exact sink false h (sees_mkL (rn []) _ _ ⟨rfl, trivial⟩ trivial rfl rfl)
      · obtain rfl := Option.some.inj h
        refine W_sees (sees_mkL (rn []) [(4, .e (.one (.pure (.val (.bool v15)))))] [] ⟨rfl, trivial⟩ trivial rfl rfl) (W_ret ?_)
        exact ⟨⟨[_], ⟨.tmp _ _ rfl, trivial⟩, rfl⟩, trivial⟩
end Go.Lift

