/- Lemmas for PlanFailureSaid, which YtohibkdhajkmdaaFinP5 proves. -/
import Derived.Test.YtohibkdhajkmdaaCode2
/- That the code does what the shallow programs do, function by function. Written by a program (gen.py). -/
namespace Go.Lift
open Go.RowKit
open Go.Proofs
set_option maxRecDepth 10000 in
theorem sheaveref36_Start_c (N : Nat) (p0 : ApiProblem) (r : ApiMix × Int) (h : Sh.sheaveref36_Start N p0 = some r) : Contract Try.prog 29 [.e (.agg [.pure (.sl (p0.fVersions.map eI64)), .pure (.sl (p0.fNow.map eI64)), .pure (.sl (p0.fTarget.map eI64)), .pure (.sl (p0.fTables.map eApiTable))])] [(1, r.1.fBase.map eI64), (1, r.1.fNext.map eI64), (1, r.1.fHeld.map eU8)] (.tup [.agg [.own 0, .own 1, .own 2], .one (.pure (.val (.int .i64 r.2)))]) := by
 unfold Sh.sheaveref36_Start at h
 refine contract_of_W (n := 68) (rs := [.cell 2 43, .tmp 3]) Try.func29 rfl rfl rfl (leb rfl) (leb rfl) rfl fun w0 S0 => ?_
 refine W_seq (W_region mixed rfl (r_box (.p rfl) rfl rfl (r_alloc (.p rfl) zv43 rfl rfl rfl (r_assign (.p rfl) rfl (r_end (W_seq (W_seq (W_region mixed rfl (r_loadN (.p rfl) rfl ag30 sz30 rfl rfl rfl ?_)))))))))
 obtain ⟨v1, a1, h⟩ := bind_some h
 refine r_call (ds0 := [_]) [] (sheaveref35_ValidProblem_c N p0 v1 a1) (.p rfl) gd33 rfl ⟨rfl, trivial⟩ rfl rfl rfl (nodupL_spec rfl) trivial rfl (r_assign (.p rfl) rfl (r_end (W_seq (W_region mixed rfl (r_move (.p rfl) rfl (r_bin (.p rfl) rfl rfl (bin_neq _ _ _ _ _ _) rfl (r_end ?_)))))))
 refine W_cond rfl (fun c2 => ?_) (fun c2 => ?_)
 ·have h := cnd_t c2 h
  refine W_seq (W_region mixed rfl (r_build [] (.p rfl) rfl trivial zv43 rfl rfl pl43 rfl (r_move (.p rfl) rfl (r_store rfl rfl rfl rfl sz43 rfl (leb rfl) rfl (r_assign (.p rfl) rfl (r_end ?_))))))
  obtain rfl := Option.some.inj h
  refine W_sees ((sees_adoptB 2 0 2001 1 _ rfl rfl rfl rfl).trans ((sees_adoptB 2 1 2002 1 _ rfl rfl rfl rfl).trans ((sees_adoptB 2 2 2003 1 _ rfl rfl rfl rfl).trans (sees_mkL (rn [(1000, 2001), (1001, 2002), (1002, 2003)]) [(2, .e (.one (.ptr 2 0))), (3, .e (.one (.pure (.val (.int .i64 v1)))))] [(2, .box [.own 1000, .own 1001, .own 1002]), (1000, .vec 1 ((([] : List Int)).map eI64)), (1001, .vec 1 ((([] : List Int)).map eI64)), (1002, .vec 1 ((([] : List Int)).map eU8))] ⟨rfl, rfl, trivial⟩ ⟨rfl, rfl, rfl, rfl, trivial⟩ rfl rfl)))) (W_ret ?_)
  exact ⟨⟨[_, _], ⟨.cellN _ _ _ _ _ _ _ rfl rfl ag43 sz43 rfl rfl (ltb rfl), ⟨.tmp _ _ rfl, trivial⟩⟩, rfl⟩, ⟨rfl, rfl, rfl, trivial⟩⟩
 ·have h := cnd_f c2 h
  refine W_skip (W_seq (W_region mixed rfl (r_alloc (.p rfl) zv43 rfl rfl rfl (r_end (W_seq (W_seq (W_region mixed rfl (r_assign (.p rfl) rfl (r_end ?_)))))))))
  refine W_whileE (L := Sh.sheaveref36_Start_L3 N p0) h (fun v3 => mk [(1, .e (.one (.ptr 1 0))), (2, .e (.one (.ptr 2 0))), (5, .e (.one (.ptr 5 0))), (6, .e (.one (.pure (.val (.int .i64 v3.2.2)))))] [(1, .box [.pure (.sl (p0.fVersions.map eI64)), .pure (.sl (p0.fNow.map eI64)), .pure (.sl (p0.fTarget.map eI64)), .pure (.sl (p0.fTables.map eApiTable))]), (2, .box [.pure (.nil0), .pure (.nil0), .pure (.nil0)]), (5, .box [.own 2004, .own 2005, .pure (.nil0)]), (2004, .vec 1 (v3.1.map eI64)), (2005, .vec 1 (v3.2.1.map eI64))]) (fun v4 => mk [(1, .e (.one (.ptr 1 0))), (2, .e (.one (.ptr 2 0))), (5, .e (.one (.ptr 5 0)))] [(1, .box [.pure (.sl (p0.fVersions.map eI64)), .pure (.sl (p0.fNow.map eI64)), .pure (.sl (p0.fTarget.map eI64)), .pure (.sl (p0.fTables.map eApiTable))]), (2, .box [.pure (.nil0), .pure (.nil0), .pure (.nil0)]), (5, .box [.own 2006, .own 2007, .pure (.nil0)]), (2006, .vec 1 (v4.1.map eI64)), (2007, .vec 1 (v4.2.map eI64))]) (fun _ _ => rfl) ((sees_adoptB 5 0 2008 1 _ rfl rfl rfl rfl).trans ((sees_adoptB 5 1 2009 1 _ rfl rfl rfl rfl).trans (sees_mkL (rn [(2004, 2008), (2005, 2009)]) _ _ ⟨rfl, rfl, rfl, rfl, trivial⟩ ⟨rfl, rfl, rfl, rfl, rfl, trivial⟩ rfl rfl))) (fun j3 n3 v3 h => ?_) (fun v4 s h hs => ?_)
  ·unfold Sh.sheaveref36_Start_L3 at h
   refine W_seq (W_seq (W_region mixed rfl (r_move (.p rfl) rfl (r_fieldAddr (.p rfl) rfl fld30_0 (r_load1 (.p rfl) rfl ag27 rfl rfl (r_len (.p rfl) rfl (.sl _) trivial (List.length_map _) slc27 (r_bin (.p rfl) rfl rfl (bin_lss _ _ _ _ _ _) rfl (r_end ?_))))))))
   refine W_cond rfl (fun c5 => ?_) (fun c5 => ?_)
   ·have h := cnd_t c5 h
    refine W_skip (W_seq (W_block (W_seq (W_region mixed rfl (r_fieldAddr (.p rfl) rfl fld43_0 (r_load1 (.p rfl) rfl ag27 rfl rfl (r_fieldAddr (.p rfl) rfl fld30_1 (r_load1 (.p rfl) rfl ag27 rfl rfl (r_move (.p rfl) rfl ?_)))))))))
    obtain ⟨v6, a6, b6, h⟩ := idx_bind h
    refine r_index (.p rfl) rfl rfl slc27 sz3 a6 (map_get b6) rfl (r_loadr1 (.p rfl) rfl ag3 rfl (r_buildSlice [(0, .tmp 28, _)] (.p rfl) rfl ⟨rfl, trivial⟩ rfl slc27 sz3 zv3 rfl rfl (leb rfl) rfl rfl ?_))
    obtain ⟨c7, h⟩ := chk_bind h
    refine r_append (.p rfl) rfl (.own _ _ _) ⟨rfl, trivial⟩ rfl (.own _ _ _) ⟨rfl, trivial⟩ rfl slc27 slc27 sz3 byt3 (leb rfl) zv3 rfl (len_lim (f := eI64) (g := eI64) (xs := v3.1) (ys := (([v6] : List Int))) c7) (map_app eI64 v3.1 (([v6] : List Int))) rfl (r_fieldAddr (.p rfl) rfl fld43_0 (r_store rfl rfl rfl rfl sz27 rfl (leb rfl) rfl ?_))
    refine r_endD (by kernel_rfl) ?_
    refine W_region mixed rfl (r_fieldAddr (.p rfl) rfl fld43_1 (r_load1 (.p rfl) rfl ag27 rfl rfl (r_buildSlice [(0, .const (.int .i64 (-1)), _)] (.p rfl) rfl ⟨rfl, trivial⟩ rfl slc27 sz3 zv3 rfl rfl (leb rfl) rfl rfl ?_)))
    obtain ⟨c8, h⟩ := chk_bind h
    refine r_append (.p rfl) rfl (.own _ _ _) ⟨rfl, trivial⟩ rfl (.own _ _ _) ⟨rfl, trivial⟩ rfl slc27 slc27 sz3 byt3 (leb rfl) zv3 rfl (len_lim (f := eI64) (g := eI64) (xs := v3.2.1) (ys := (([(-1)] : List Int))) c8) (map_app eI64 v3.2.1 (([(-1)] : List Int))) rfl (r_fieldAddr (.p rfl) rfl fld43_1 (r_store rfl rfl rfl rfl sz27 rfl (leb rfl) rfl (r_end (W_region mixed rfl (r_move (.p rfl) rfl (r_bin (.p rfl) rfl rfl (bin_add _ _ _ _ _ _) rfl (r_assign (.p rfl) rfl (r_end ?_))))))))
    exact sink (v3.1 ++ (([v6] : List Int)), v3.2.1 ++ (([(-1)] : List Int)), (IntKind.wrap .i64 (v3.2.2 + 1))) h (sees_mkL (rn [(2004, 30), (2005, 35)]) _ _ ⟨rfl, rfl, rfl, rfl, trivial⟩ ⟨rfl, rfl, rfl, rfl, rfl, trivial⟩ rfl rfl)
   ·have h := cnd_f c5 h
    refine W_exit ?_
    exact sink (v3.1, v3.2.1) h (sees_mkL (rn [(2006, 2004), (2007, 2005)]) _ _ ⟨rfl, rfl, rfl, trivial⟩ ⟨rfl, rfl, rfl, rfl, rfl, trivial⟩ rfl rfl)
  ·refine W_sees hs (W_seq (W_seq (W_region mixed rfl (r_assign (.p rfl) rfl (r_end ?_)))))
   refine W_whileE (L := Sh.sheaveref36_Start_L9 N p0) h (fun v9 => mk [(1, .e (.one (.ptr 1 0))), (2, .e (.one (.ptr 2 0))), (5, .e (.one (.ptr 5 0))), (7, .e (.one (.pure (.val (.int .i64 v9.2)))))] [(1, .box [.pure (.sl (p0.fVersions.map eI64)), .pure (.sl (p0.fNow.map eI64)), .pure (.sl (p0.fTarget.map eI64)), .pure (.sl (p0.fTables.map eApiTable))]), (2, .box [.pure (.nil0), .pure (.nil0), .pure (.nil0)]), (5, .box [.own 2010, .own 2011, .own 2012]), (2010, .vec 1 (v4.1.map eI64)), (2011, .vec 1 (v4.2.map eI64)), (2012, .vec 1 (v9.1.map eU8))]) (fun v10 => mk [(2, .e (.one (.ptr 2 0))), (5, .e (.one (.ptr 5 0)))] [(2, .box [.pure (.nil0), .pure (.nil0), .pure (.nil0)]), (5, .box [.own 2013, .own 2014, .own 2015]), (2013, .vec 1 (v4.1.map eI64)), (2014, .vec 1 (v4.2.map eI64)), (2015, .vec 1 (v10.map eU8))]) (fun _ _ => rfl) ((sees_adoptB 5 2 2019 1 _ rfl rfl rfl rfl).trans (sees_mkL (rn [(2010, 2006), (2011, 2007), (2012, 2019)]) _ _ ⟨rfl, rfl, rfl, rfl, trivial⟩ ⟨rfl, rfl, rfl, rfl, rfl, rfl, trivial⟩ rfl rfl)) (fun j9 n9 v9 h => ?_) (fun v10 s h hs => ?_)
   ·unfold Sh.sheaveref36_Start_L9 at h
    refine W_seq (W_seq (W_region mixed rfl (r_move (.p rfl) rfl (r_fieldAddr (.p rfl) rfl fld30_3 (r_load1 (.p rfl) rfl ag28 rfl rfl (r_len (.p rfl) rfl (.sl _) trivial (List.length_map _) slc28 (r_bin (.p rfl) rfl rfl (bin_lss _ _ _ _ _ _) rfl (r_end ?_))))))))
    refine W_cond rfl (fun c11 => ?_) (fun c11 => ?_)
    ·have h := cnd_t c11 h
     refine W_skip (W_seq (W_block (W_seq (W_region mixed rfl (r_assign (.p rfl) rfl (r_end ?_))))))
     refine W_join h (fun v12 => mk [(1, .e (.one (.ptr 1 0))), (2, .e (.one (.ptr 2 0))), (5, .e (.one (.ptr 5 0))), (7, .e (.one (.pure (.val (.int .i64 v9.2))))), (8, .e (.one (.pure (.val (.int .u8 v12)))))] [(1, .box [.pure (.sl (p0.fVersions.map eI64)), .pure (.sl (p0.fNow.map eI64)), .pure (.sl (p0.fTarget.map eI64)), .pure (.sl (p0.fTables.map eApiTable))]), (2, .box [.pure (.nil0), .pure (.nil0), .pure (.nil0)]), (5, .box [.own 2016, .own 2017, .own 2018]), (2016, .vec 1 (v4.1.map eI64)), (2017, .vec 1 (v4.2.map eI64)), (2018, .vec 1 (v9.1.map eU8))]) (fun j12 h => ?_) (fun v12 h => ?_)
     ·refine W_seq (W_region mixed rfl (r_fieldAddr (.p rfl) rfl fld30_3 (r_load1 (.p rfl) rfl ag28 rfl rfl (r_move (.p rfl) rfl ?_))))
      obtain ⟨v13, a13, b13, h⟩ := idx_bind h
      refine r_index (.p rfl) rfl rfl slc28 sz75 a13 (map_get b13) rfl (r_loadrN (.p rfl) rfl ag75 sz75 rfl rfl ?_)
      obtain ⟨v14, a14, h⟩ := bind_some h
      refine r_call (ds0 := [_]) [] (sheaveref35_Stored_c N v13 v14 a14) (.p rfl) gd46 rfl ⟨rfl, trivial⟩ rfl rfl rfl (nodupL_spec rfl) trivial rfl (r_end ?_)
      refine W_cond rfl (fun c15 => ?_) (fun c15 => ?_)
      ·have h := cnd_t c15 h
       refine W_region mixed rfl (r_fieldAddr (.p rfl) rfl fld30_1 (r_load1 (.p rfl) rfl ag27 rfl rfl (r_fieldAddr (.p rfl) rfl fld30_3 (r_load1 (.p rfl) rfl ag28 rfl rfl (r_move (.p rfl) rfl ?_)))))
       obtain ⟨v16, a16, b16, h⟩ := idx_bind h
       refine r_index (.p rfl) rfl rfl slc28 sz75 a16 (map_get b16) rfl (r_fieldAddrr (.p rfl) rfl fld75_1 (leb rfl) rfl (r_loadr1 (.p rfl) rfl ag3 rfl ?_))
       obtain ⟨v17, a17, b17, h⟩ := idx_bind h
       refine r_index (.p rfl) rfl rfl slc27 sz3 a17 (map_get b17) rfl (r_loadr1 (.p rfl) rfl ag3 rfl ?_)
       obtain ⟨c18, h⟩ := chk_bind h
       refine r_bin (.p rfl) rfl rfl (bin_shl _ _ _ _ _ _ _ c18) rfl (r_assign (.p rfl) rfl ?_)
       refine r_endD (by kernel_rfl) ?_
       exact sink (shlI .u8 1 v17) h (sees_mkL (rn [(2016, 2010), (2017, 2011), (2018, 2012)]) _ _ ⟨rfl, rfl, rfl, rfl, rfl, trivial⟩ ⟨rfl, rfl, rfl, rfl, rfl, rfl, trivial⟩ rfl rfl)
      ·have h := cnd_f c15 h
       refine W_skip ?_
       exact sink 0 h (sees_mkL (rn [(2016, 2010), (2017, 2011), (2018, 2012)]) _ _ ⟨rfl, rfl, rfl, rfl, rfl, trivial⟩ ⟨rfl, rfl, rfl, rfl, rfl, rfl, trivial⟩ rfl rfl)
     ·refine W_region mixed rfl (r_fieldAddr (.p rfl) rfl fld43_2 (r_load1 (.p rfl) rfl ag41 rfl rfl (r_move (.p rfl) rfl (r_buildSlice [(0, .tmp 63, _)] (.p rfl) rfl ⟨rfl, trivial⟩ rfl slc41 sz87 zv87 rfl rfl (leb rfl) rfl rfl ?_))))
      obtain ⟨c19, h⟩ := chk_bind h
      refine r_append (.p rfl) rfl (.own _ _ _) ⟨rfl, trivial⟩ rfl (.own _ _ _) ⟨rfl, trivial⟩ rfl slc41 slc41 sz87 byt87 (leb rfl) zv87 rfl (len_lim (f := eU8) (g := eU8) (xs := v9.1) (ys := (([v12] : List Int))) c19) (map_app eU8 v9.1 (([v12] : List Int))) rfl (r_fieldAddr (.p rfl) rfl fld43_2 (r_store rfl rfl rfl rfl sz41 rfl (leb rfl) rfl (r_end (W_region mixed rfl (r_move (.p rfl) rfl (r_bin (.p rfl) rfl rfl (bin_add _ _ _ _ _ _) rfl (r_assign (.p rfl) rfl (r_end ?_))))))))
      exact sink (v9.1 ++ (([v12] : List Int)), (IntKind.wrap .i64 (v9.2 + 1))) h (sees_mkL (rn [(2010, 2016), (2011, 2017), (2012, 65)]) _ _ ⟨rfl, rfl, rfl, rfl, trivial⟩ ⟨rfl, rfl, rfl, rfl, rfl, rfl, trivial⟩ rfl rfl)
    ·have h := cnd_f c11 h
     refine W_exit ?_
     exact sink v9.1 h (sees_mkL (rn [(2013, 2010), (2014, 2011), (2015, 2012)]) _ _ ⟨rfl, rfl, trivial⟩ ⟨rfl, rfl, rfl, rfl, rfl, trivial⟩ rfl rfl)
   ·refine W_sees hs (W_seq (W_region mixed rfl (r_loadN (.p rfl) rfl ag43 sz43 rfl rfl rfl (r_store rfl rfl rfl rfl sz43 rfl (leb rfl) rfl (r_assign (.p rfl) rfl (r_end ?_))))))
    obtain rfl := Option.some.inj h
    refine W_sees (sees_mkL (rn [(1000, 2013), (1001, 2014), (1002, 2015)]) [(2, .e (.one (.ptr 2 0))), (3, .e (.one (.pure (.val (.int .i64 0)))))] [(2, .box [.own 1000, .own 1001, .own 1002]), (1000, .vec 1 (v4.1.map eI64)), (1001, .vec 1 (v4.2.map eI64)), (1002, .vec 1 (v10.map eU8))] ⟨rfl, rfl, trivial⟩ ⟨rfl, rfl, rfl, rfl, trivial⟩ rfl rfl) (W_ret ?_)
    exact ⟨⟨[_, _], ⟨.cellN _ _ _ _ _ _ _ rfl rfl ag43 sz43 rfl rfl (ltb rfl), ⟨.tmp _ _ rfl, trivial⟩⟩, rfl⟩, ⟨rfl, rfl, rfl, trivial⟩⟩
set_option maxRecDepth 10000 in
theorem sheaveref36_Running_c (N : Nat) (p0 : ApiMix) (p1 : Int) (r : Int) (h : Sh.sheaveref36_Running N p0 p1 = some r) : Contract Try.prog 49 [.e (.agg [.pure (.sl (p0.fBase.map eI64)), .pure (.sl (p0.fNext.map eI64)), .pure (.sl (p0.fHeld.map eU8))]), .e (.one (.pure (.val (.int .i64 p1))))] [] (.e (.one (.pure (.val (.int .u8 r))))) := by
 unfold Sh.sheaveref36_Running at h
 refine contract_of_W (n := 27) (rs := [.tmp 4]) Try.func49 rfl rfl rfl (leb rfl) (leb rfl) rfl fun w0 S0 => ?_
 refine W_seq (W_region mixed rfl (r_box (.p rfl) rfl rfl (r_assign (.p rfl) rfl (r_end (W_seq (W_region mixed rfl (r_fieldAddr (.p rfl) rfl fld43_0 (r_load1 (.p rfl) rfl ag27 rfl rfl (r_move (.p rfl) rfl ?_)))))))))
 obtain ⟨v1, a1, b1, h⟩ := idx_bind h
 refine r_index (.p rfl) rfl rfl slc27 sz3 a1 (map_get b1) rfl (r_loadr1 (.p rfl) rfl ag3 rfl ?_)
 obtain ⟨c2, h⟩ := chk_bind h
 refine r_bin (.p rfl) rfl rfl (bin_shl _ _ _ _ _ _ _ c2) rfl (r_assign (.p rfl) rfl (r_end ?_))
 refine W_join h (fun v3 => mk [(5, .e (.one (.pure (.val (.int .u8 v3)))))] []) (fun j3 h => ?_) (fun v3 h => ?_)
 ·refine W_seq (W_region mixed rfl (r_fieldAddr (.p rfl) rfl fld43_1 (r_load1 (.p rfl) rfl ag27 rfl rfl (r_move (.p rfl) rfl ?_))))
  obtain ⟨v4, a4, b4, h⟩ := idx_bind h
  refine r_index (.p rfl) rfl rfl slc27 sz3 a4 (map_get b4) rfl (r_loadr1 (.p rfl) rfl ag3 rfl (r_bin (.p rfl) rfl rfl (bin_geq _ _ _ _ _ _) rfl (r_end ?_)))
  refine W_cond rfl (fun c5 => ?_) (fun c5 => ?_)
  ·have h := cnd_t c5 h
   refine W_region mixed rfl (r_move (.p rfl) rfl (r_fieldAddr (.p rfl) rfl fld43_1 (r_load1 (.p rfl) rfl ag27 rfl rfl (r_move (.p rfl) rfl ?_))))
   obtain ⟨v6, a6, b6, h⟩ := idx_bind h
   refine r_index (.p rfl) rfl rfl slc27 sz3 a6 (map_get b6) rfl (r_loadr1 (.p rfl) rfl ag3 rfl ?_)
   obtain ⟨c7, h⟩ := chk_bind h
   refine r_bin (.p rfl) rfl rfl (bin_shl _ _ _ _ _ _ _ c7) rfl (r_bin (.p rfl) rfl rfl (bin_or _ _ _ _ _ _) rfl (r_assign (.p rfl) rfl (r_end ?_)))
   exact sink (orI .u8 ((shlI .u8 1 v1)) ((shlI .u8 1 v6))) h (sees_mkL (rn []) _ _ ⟨rfl, trivial⟩ trivial rfl rfl)
  ·have h := cnd_f c5 h
   refine W_skip ?_
   exact sink (shlI .u8 1 v1) h (sees_mkL (rn []) _ _ ⟨rfl, trivial⟩ trivial rfl rfl)
 ·refine W_seq (W_region mixed rfl (r_move (.p rfl) rfl (r_assign (.p rfl) rfl (r_end ?_))))
  obtain rfl := Option.some.inj h
  refine W_sees (sees_mkL (rn []) [(4, .e (.one (.pure (.val (.int .u8 v3)))))] [] ⟨rfl, trivial⟩ trivial rfl rfl) (W_ret ?_)
  exact ⟨⟨[_], ⟨.tmp _ _ rfl, trivial⟩, rfl⟩, trivial⟩
set_option maxRecDepth 10000 in
theorem sheaveref36_Valid_c (N : Nat) (p0 : ApiProblem) (p1 : ApiMix) (r : Int) (h : Sh.sheaveref36_Valid N p0 p1 = some r) : Contract Try.prog 24 [.e (.agg [.pure (.sl (p0.fVersions.map eI64)), .pure (.sl (p0.fNow.map eI64)), .pure (.sl (p0.fTarget.map eI64)), .pure (.sl (p0.fTables.map eApiTable))]), .e (.agg [.pure (.sl (p1.fBase.map eI64)), .pure (.sl (p1.fNext.map eI64)), .pure (.sl (p1.fHeld.map eU8))])] [] (.e (.one (.pure (.val (.int .i64 r))))) := by
 unfold Sh.sheaveref36_Valid at h
 refine contract_of_W (n := 154) (rs := [.tmp 4]) Try.func24 rfl rfl rfl (leb rfl) (leb rfl) rfl fun w0 S0 => ?_
 refine W_seq (W_region mixed rfl (r_box (.p rfl) rfl rfl (r_box (.p rfl) rfl rfl (r_assign (.p rfl) rfl (r_end (W_seq (W_seq (W_region mixed rfl (r_loadN (.p rfl) rfl ag30 sz30 rfl rfl rfl ?_)))))))))
 obtain ⟨v1, a1, h⟩ := bind_some h
 refine r_call (ds0 := [_]) [] (sheaveref35_ValidProblem_c N p0 v1 a1) (.p rfl) gd33 rfl ⟨rfl, trivial⟩ rfl rfl rfl (nodupL_spec rfl) trivial rfl (r_assign (.p rfl) rfl (r_end (W_seq (W_region mixed rfl (r_move (.p rfl) rfl (r_bin (.p rfl) rfl rfl (bin_neq _ _ _ _ _ _) rfl (r_end ?_)))))))
 refine W_cond rfl (fun c2 => ?_) (fun c2 => ?_)
 ·have h := cnd_t c2 h
  refine W_seq (W_region mixed rfl (r_move (.p rfl) rfl (r_assign (.p rfl) rfl (r_end ?_))))
  obtain rfl := Option.some.inj h
  refine W_sees (sees_mkL (rn []) [(4, .e (.one (.pure (.val (.int .i64 v1)))))] [] ⟨rfl, trivial⟩ trivial rfl rfl) (W_ret ?_)
  exact ⟨⟨[_], ⟨.tmp _ _ rfl, trivial⟩, rfl⟩, trivial⟩
 ·have h := cnd_f c2 h
  refine W_skip (W_seq (W_region mixed rfl (r_fieldAddr (.p rfl) rfl fld30_0 (r_load1 (.p rfl) rfl ag27 rfl rfl (r_len (.p rfl) rfl (.sl _) trivial (List.length_map _) slc27 (r_assign (.p rfl) rfl (r_end (W_seq ?_))))))))
  refine W_join h (fun v3 => mk [(2, .e (.one (.ptr 2 0))), (3, .e (.one (.ptr 3 0))), (6, .e (.one (.pure (.val (.int .i64 ((p0.fVersions.length : Int))))))), (39, .e (.one (.pure (.val (.bool v3)))))] [(2, .box [.pure (.sl (p0.fVersions.map eI64)), .pure (.sl (p0.fNow.map eI64)), .pure (.sl (p0.fTarget.map eI64)), .pure (.sl (p0.fTables.map eApiTable))]), (3, .box [.pure (.sl (p1.fBase.map eI64)), .pure (.sl (p1.fNext.map eI64)), .pure (.sl (p1.fHeld.map eU8))])]) (fun j3 h => ?_) (fun v3 h => ?_)
  ·refine W_region mixed rfl (r_fieldAddr (.p rfl) rfl fld43_0 (r_load1 (.p rfl) rfl ag27 rfl rfl (r_len (.p rfl) rfl (.sl _) trivial (List.length_map _) slc27 (r_move (.p rfl) rfl (r_bin (.p rfl) rfl rfl (bin_neq _ _ _ _ _ _) rfl (r_move (.p rfl) rfl ?_))))))
   refine r_split (t := 24) rfl (fun c4 => ?_) (fun c4 => ?_)
   ·have h := cnd_t c4 h
    refine r_notB rfl rfl (r_notB rfl rfl (r_notB rfl rfl (r_notB rfl rfl (r_notB rfl rfl (r_pick (.p rfl) rfl rfl rfl (r_move (.p rfl) rfl (r_notB rfl rfl (r_notB rfl rfl (r_notB rfl rfl (r_notB rfl rfl (r_notB rfl rfl (r_notB rfl rfl (r_notB rfl rfl (r_pick (.p rfl) rfl rfl rfl (r_end ?_)))))))))))))))
    exact sink true h (sees_mkL (rn []) _ _ ⟨rfl, rfl, rfl, rfl, trivial⟩ ⟨rfl, rfl, trivial⟩ rfl rfl)
   ·have h := cnd_f c4 h
    refine r_fieldAddr (.g rfl rfl) rfl fld43_1 (r_load1 (.g rfl rfl) rfl ag27 rfl rfl (r_len (.g rfl rfl) rfl (.sl _) trivial (List.length_map _) slc27 (r_move (.g rfl rfl) rfl (r_bin (.g rfl rfl) rfl rfl (bin_neq _ _ _ _ _ _) rfl (r_pick (.p rfl) rfl rfl rfl (r_move (.p rfl) rfl ?_))))))
    refine r_split (t := 31) rfl (fun c5 => ?_) (fun c5 => ?_)
    ·have h := cnd_t c5 h
     refine r_notB rfl rfl (r_notB rfl rfl (r_notB rfl rfl (r_notB rfl rfl (r_notB rfl rfl (r_notB rfl rfl (r_notB rfl rfl (r_pick (.p rfl) rfl rfl rfl (r_end ?_))))))))
     exact sink true h (sees_mkL (rn []) _ _ ⟨rfl, rfl, rfl, rfl, trivial⟩ ⟨rfl, rfl, trivial⟩ rfl rfl)
    ·have h := cnd_f c5 h
     refine r_fieldAddr (.g rfl rfl) rfl fld43_2 (r_load1 (.g rfl rfl) rfl ag41 rfl rfl (r_len (.g rfl rfl) rfl (.sl _) trivial (List.length_map _) slc41 (r_fieldAddr (.g rfl rfl) rfl fld30_3 (r_load1 (.g rfl rfl) rfl ag28 rfl rfl (r_len (.g rfl rfl) rfl (.sl _) trivial (List.length_map _) slc28 (r_bin (.g rfl rfl) rfl rfl (bin_neq _ _ _ _ _ _) rfl (r_pick (.p rfl) rfl rfl rfl (r_end ?_))))))))
     exact sink ((p1.fHeld.length : Int) != (p0.fTables.length : Int)) h (sees_mkL (rn []) _ _ ⟨rfl, rfl, rfl, rfl, trivial⟩ ⟨rfl, rfl, trivial⟩ rfl rfl)
  ·refine W_cond rfl (fun c6 => ?_) (fun c6 => ?_)
   ·have h := cnd_t c6 h
    refine W_seq (W_region mixed rfl (r_assign (.p rfl) rfl (r_end ?_)))
    obtain rfl := Option.some.inj h
    refine W_sees (sees_mkL (rn []) [(4, .e (.one (.pure (.val (.int .i64 6)))))] [] ⟨rfl, trivial⟩ trivial rfl rfl) (W_ret ?_)
    exact ⟨⟨[_], ⟨.tmp _ _ rfl, trivial⟩, rfl⟩, trivial⟩
   ·have h := cnd_f c6 h
    refine W_skip (W_seq (W_seq (W_region mixed rfl (r_assign (.p rfl) rfl (r_end ?_)))))
    refine W_whileE (L := Sh.sheaveref36_Valid_L7 N p0 p1) h (fun v7 => mk [(2, .e (.one (.ptr 2 0))), (3, .e (.one (.ptr 3 0))), (6, .e (.one (.pure (.val (.int .i64 ((p0.fVersions.length : Int))))))), (7, .e (.one (.pure (.val (.int .i64 v7)))))] [(2, .box [.pure (.sl (p0.fVersions.map eI64)), .pure (.sl (p0.fNow.map eI64)), .pure (.sl (p0.fTarget.map eI64)), .pure (.sl (p0.fTables.map eApiTable))]), (3, .box [.pure (.sl (p1.fBase.map eI64)), .pure (.sl (p1.fNext.map eI64)), .pure (.sl (p1.fHeld.map eU8))])]) (fun v8 => mk [(2, .e (.one (.ptr 2 0))), (3, .e (.one (.ptr 3 0)))] [(2, .box [.pure (.sl (p0.fVersions.map eI64)), .pure (.sl (p0.fNow.map eI64)), .pure (.sl (p0.fTarget.map eI64)), .pure (.sl (p0.fTables.map eApiTable))]), (3, .box [.pure (.sl (p1.fBase.map eI64)), .pure (.sl (p1.fNext.map eI64)), .pure (.sl (p1.fHeld.map eU8))])]) (fun _ _ => rfl) (sees_mkL (rn []) _ _ ⟨rfl, rfl, rfl, rfl, trivial⟩ ⟨rfl, rfl, trivial⟩ rfl rfl) (fun j7 n7 v7 h => ?_) (fun v8 s h hs => ?_)
    ·unfold Sh.sheaveref36_Valid_L7 at h
     refine W_seq (W_seq (W_region mixed rfl (r_move (.p rfl) rfl (r_move (.p rfl) rfl (r_bin (.p rfl) rfl rfl (bin_lss _ _ _ _ _ _) rfl (r_end ?_))))))
     refine W_cond rfl (fun c9 => ?_) (fun c9 => ?_)
     ·have h := cnd_t c9 h
      refine W_skip (W_seq (W_block (W_seq ?_)))
      refine W_join h (fun v10 => mk [(2, .e (.one (.ptr 2 0))), (3, .e (.one (.ptr 3 0))), (6, .e (.one (.pure (.val (.int .i64 ((p0.fVersions.length : Int))))))), (7, .e (.one (.pure (.val (.int .i64 v7))))), (84, .e (.one (.pure (.val (.bool v10)))))] [(2, .box [.pure (.sl (p0.fVersions.map eI64)), .pure (.sl (p0.fNow.map eI64)), .pure (.sl (p0.fTarget.map eI64)), .pure (.sl (p0.fTables.map eApiTable))]), (3, .box [.pure (.sl (p1.fBase.map eI64)), .pure (.sl (p1.fNext.map eI64)), .pure (.sl (p1.fHeld.map eU8))])]) (fun j10 h => ?_) (fun v10 h => ?_)
      ·refine W_region mixed rfl (r_fieldAddr (.p rfl) rfl fld43_0 (r_load1 (.p rfl) rfl ag27 rfl rfl (r_move (.p rfl) rfl ?_)))
       obtain ⟨v11, a11, b11, h⟩ := idx_bind h
       refine r_index (.p rfl) rfl rfl slc27 sz3 a11 (map_get b11) rfl (r_loadr1 (.p rfl) rfl ag3 rfl (r_bin (.p rfl) rfl rfl (bin_lss _ _ _ _ _ _) rfl (r_move (.p rfl) rfl ?_)))
       refine r_split (t := 51) rfl (fun c12 => ?_) (fun c12 => ?_)
       ·have h := cnd_t c12 h
        refine r_notB rfl rfl (r_notB rfl rfl (r_notB rfl rfl (r_notB rfl rfl (r_notB rfl rfl (r_notB rfl rfl (r_notB rfl rfl (r_notB rfl rfl (r_notB rfl rfl (r_notB rfl rfl (r_notB rfl rfl (r_pick (.p rfl) rfl rfl rfl (r_move (.p rfl) rfl (r_notB rfl rfl (r_notB rfl rfl (r_notB rfl rfl (r_notB rfl rfl (r_notB rfl rfl (r_notB rfl rfl (r_pick (.p rfl) rfl rfl rfl (r_move (.p rfl) rfl (r_notB rfl rfl (r_notB rfl rfl (r_notB rfl rfl (r_notB rfl rfl (r_notB rfl rfl (r_notB rfl rfl (r_notB rfl rfl (r_notB rfl rfl (r_notB rfl rfl ?_)))))))))))))))))))))))))))))
        refine r_notB rfl rfl (r_notB rfl rfl (r_pick (.p rfl) rfl rfl rfl ?_))
        refine r_endD (by kernel_rfl) ?_
        exact sink true h (sees_mkL (rn []) _ _ ⟨rfl, rfl, rfl, rfl, rfl, trivial⟩ ⟨rfl, rfl, trivial⟩ rfl rfl)
       ·have h := cnd_f c12 h
        refine r_fieldAddr (.g rfl rfl) rfl fld43_0 (r_load1 (.g rfl rfl) rfl ag27 rfl rfl (r_move (.g rfl rfl) rfl ?_))
        obtain ⟨v13, a13, b13, h⟩ := idx_bind h
        refine r_index (.g rfl rfl) rfl rfl slc27 sz3 a13 (map_get b13) rfl (r_loadr1 (.g rfl rfl) rfl ag3 rfl (r_fieldAddr (.g rfl rfl) rfl fld30_0 (r_load1 (.g rfl rfl) rfl ag27 rfl rfl (r_move (.g rfl rfl) rfl ?_))))
        obtain ⟨v14, a14, b14, h⟩ := idx_bind h
        refine r_index (.g rfl rfl) rfl rfl slc27 sz3 a14 (map_get b14) rfl (r_loadr1 (.g rfl rfl) rfl ag3 rfl (r_bin (.g rfl rfl) rfl rfl (bin_geq _ _ _ _ _ _) rfl (r_pick (.p rfl) rfl rfl rfl (r_move (.p rfl) rfl ?_))))
        refine r_split (t := 64) rfl (fun c15 => ?_) (fun c15 => ?_)
        ·have h := cnd_t c15 h
         refine r_notB rfl rfl (r_notB rfl rfl (r_notB rfl rfl (r_notB rfl rfl (r_notB rfl rfl (r_notB rfl rfl (r_pick (.p rfl) rfl rfl rfl (r_move (.p rfl) rfl (r_notB rfl rfl (r_notB rfl rfl (r_notB rfl rfl (r_notB rfl rfl (r_notB rfl rfl (r_notB rfl rfl (r_notB rfl rfl (r_notB rfl rfl (r_notB rfl rfl (r_notB rfl rfl (r_notB rfl rfl (r_pick (.p rfl) rfl rfl rfl ?_)))))))))))))))))))
         refine r_endD (by kernel_rfl) ?_
         exact sink true h (sees_mkL (rn []) _ _ ⟨rfl, rfl, rfl, rfl, rfl, trivial⟩ ⟨rfl, rfl, trivial⟩ rfl rfl)
        ·have h := cnd_f c15 h
         refine r_fieldAddr (.g rfl rfl) rfl fld43_1 (r_load1 (.g rfl rfl) rfl ag27 rfl rfl (r_move (.g rfl rfl) rfl ?_))
         obtain ⟨v16, a16, b16, h⟩ := idx_bind h
         refine r_index (.g rfl rfl) rfl rfl slc27 sz3 a16 (map_get b16) rfl (r_loadr1 (.g rfl rfl) rfl ag3 rfl (r_bin (.g rfl rfl) rfl rfl (bin_lss _ _ _ _ _ _) rfl (r_pick (.p rfl) rfl rfl rfl (r_move (.p rfl) rfl ?_))))
         refine r_split (t := 72) rfl (fun c17 => ?_) (fun c17 => ?_)
         ·have h := cnd_t c17 h
          refine r_notB rfl rfl (r_notB rfl rfl (r_notB rfl rfl (r_notB rfl rfl (r_notB rfl rfl (r_notB rfl rfl (r_notB rfl rfl (r_notB rfl rfl (r_notB rfl rfl (r_notB rfl rfl (r_notB rfl rfl (r_pick (.p rfl) rfl rfl rfl ?_)))))))))))
          refine r_endD (by kernel_rfl) ?_
          exact sink true h (sees_mkL (rn []) _ _ ⟨rfl, rfl, rfl, rfl, rfl, trivial⟩ ⟨rfl, rfl, trivial⟩ rfl rfl)
         ·have h := cnd_f c17 h
          refine r_fieldAddr (.g rfl rfl) rfl fld43_1 (r_load1 (.g rfl rfl) rfl ag27 rfl rfl (r_move (.g rfl rfl) rfl ?_))
          obtain ⟨v18, a18, b18, h⟩ := idx_bind h
          refine r_index (.g rfl rfl) rfl rfl slc27 sz3 a18 (map_get b18) rfl (r_loadr1 (.g rfl rfl) rfl ag3 rfl (r_fieldAddr (.g rfl rfl) rfl fld30_0 (r_load1 (.g rfl rfl) rfl ag27 rfl rfl (r_move (.g rfl rfl) rfl ?_))))
          obtain ⟨v19, a19, b19, h⟩ := idx_bind h
          refine r_index (.g rfl rfl) rfl rfl slc27 sz3 a19 (map_get b19) rfl (r_loadr1 (.g rfl rfl) rfl ag3 rfl (r_bin (.g rfl rfl) rfl rfl (bin_geq _ _ _ _ _ _) rfl (r_pick (.p rfl) rfl rfl rfl ?_)))
          refine r_endD (by kernel_rfl) ?_
          exact sink (decide (v19 ≤ v18)) h (sees_mkL (rn []) _ _ ⟨rfl, rfl, rfl, rfl, rfl, trivial⟩ ⟨rfl, rfl, trivial⟩ rfl rfl)
      ·refine W_cond rfl (fun c20 => ?_) (fun c20 => ?_)
       ·have h := cnd_t c20 h
        refine W_seq (W_region mixed rfl (r_assign (.p rfl) rfl (r_end ?_)))
        obtain rfl := Option.some.inj h
        refine W_sees (sees_mkL (rn []) [(4, .e (.one (.pure (.val (.int .i64 7)))))] [] ⟨rfl, trivial⟩ trivial rfl rfl) (W_ret ?_)
        exact ⟨⟨[_], ⟨.tmp _ _ rfl, trivial⟩, rfl⟩, trivial⟩
       ·have h := cnd_f c20 h
        refine W_skip (W_seq (W_region mixed rfl (r_fieldAddr (.p rfl) rfl fld43_0 (r_load1 (.p rfl) rfl ag27 rfl rfl (r_move (.p rfl) rfl ?_)))))
        obtain ⟨v21, a21, b21, h⟩ := idx_bind h
        refine r_index (.p rfl) rfl rfl slc27 sz3 a21 (map_get b21) rfl (r_loadr1 (.p rfl) rfl ag3 rfl (r_fieldAddr (.p rfl) rfl fld43_1 (r_load1 (.p rfl) rfl ag27 rfl rfl (r_move (.p rfl) rfl ?_))))
        obtain ⟨v22, a22, b22, h⟩ := idx_bind h
        refine r_index (.p rfl) rfl rfl slc27 sz3 a22 (map_get b22) rfl (r_loadr1 (.p rfl) rfl ag3 rfl (r_bin (.p rfl) rfl rfl (bin_eql _ _ _ _ _ _) rfl ?_))
        refine r_endD (by kernel_rfl) ?_
        refine W_cond rfl (fun c23 => ?_) (fun c23 => ?_)
        ·have h := cnd_t c23 h
         refine W_seq (W_region mixed rfl (r_assign (.p rfl) rfl (r_end ?_)))
         obtain rfl := Option.some.inj h
         refine W_sees (sees_mkL (rn []) [(4, .e (.one (.pure (.val (.int .i64 1)))))] [] ⟨rfl, trivial⟩ trivial rfl rfl) (W_ret ?_)
         exact ⟨⟨[_], ⟨.tmp _ _ rfl, trivial⟩, rfl⟩, trivial⟩
        ·have h := cnd_f c23 h
         refine W_skip (W_region mixed rfl (r_move (.p rfl) rfl (r_bin (.p rfl) rfl rfl (bin_add _ _ _ _ _ _) rfl (r_assign (.p rfl) rfl (r_end ?_)))))
         exact sink (IntKind.wrap .i64 (v7 + 1)) h (sees_mkL (rn []) _ _ ⟨rfl, rfl, rfl, rfl, trivial⟩ ⟨rfl, rfl, trivial⟩ rfl rfl)
     ·have h := cnd_f c9 h
      refine W_exit ?_
      exact sink () h (sees_mkL (rn []) _ _ ⟨rfl, rfl, trivial⟩ ⟨rfl, rfl, trivial⟩ rfl rfl)
    ·refine W_sees hs (W_seq (W_seq (W_region mixed rfl (r_assign (.p rfl) rfl (r_end ?_)))))
     refine W_whileE (L := Sh.sheaveref36_Valid_L24 N p0 p1) h (fun v24 => mk [(2, .e (.one (.ptr 2 0))), (3, .e (.one (.ptr 3 0))), (8, .e (.one (.pure (.val (.int .i64 v24)))))] [(2, .box [.pure (.sl (p0.fVersions.map eI64)), .pure (.sl (p0.fNow.map eI64)), .pure (.sl (p0.fTarget.map eI64)), .pure (.sl (p0.fTables.map eApiTable))]), (3, .box [.pure (.sl (p1.fBase.map eI64)), .pure (.sl (p1.fNext.map eI64)), .pure (.sl (p1.fHeld.map eU8))])]) (fun v25 => mk [] []) (fun _ _ => rfl) (sees_mkL (rn []) _ _ ⟨rfl, rfl, rfl, trivial⟩ ⟨rfl, rfl, trivial⟩ rfl rfl) (fun j24 n24 v24 h => ?_) (fun v25 s h hs => ?_)
     ·unfold Sh.sheaveref36_Valid_L24 at h
      refine W_seq (W_seq (W_region mixed rfl (r_move (.p rfl) rfl (r_fieldAddr (.p rfl) rfl fld30_3 (r_load1 (.p rfl) rfl ag28 rfl rfl (r_len (.p rfl) rfl (.sl _) trivial (List.length_map _) slc28 (r_bin (.p rfl) rfl rfl (bin_lss _ _ _ _ _ _) rfl (r_end ?_))))))))
      refine W_cond rfl (fun c26 => ?_) (fun c26 => ?_)
      ·have h := cnd_t c26 h
       refine W_skip (W_seq (W_block (W_seq (W_region mixed rfl (r_fieldAddr (.p rfl) rfl fld30_3 (r_load1 (.p rfl) rfl ag28 rfl rfl (r_move (.p rfl) rfl ?_)))))))
       obtain ⟨v27, a27, b27, h⟩ := idx_bind h
       refine r_index (.p rfl) rfl rfl slc28 sz75 a27 (map_get b27) rfl (r_loadrN (.p rfl) rfl ag75 sz75 rfl rfl (r_alloc (.p rfl) zv75 rfl rfl rfl (r_store rfl rfl rfl rfl sz75 rfl (leb rfl) rfl (r_end (W_seq (W_region mixed rfl (r_fieldAddr (.p rfl) rfl fld30_0 (r_load1 (.p rfl) rfl ag27 rfl rfl (r_fieldAddr (.p rfl) rfl fld75_1 (r_load1 (.p rfl) rfl ag3 rfl rfl ?_))))))))))
       obtain ⟨v28, a28, b28, h⟩ := idx_bind h
       refine r_index (.p rfl) rfl rfl slc27 sz3 a28 (map_get b28) rfl (r_loadr1 (.p rfl) rfl ag3 rfl ?_)
       obtain ⟨c29, h⟩ := chk_bind h
       refine r_bin (.p rfl) rfl rfl (bin_shl _ _ _ _ _ _ _ c29) rfl (r_bin (.p rfl) rfl rfl (bin_sub _ _ _ _ _ _) rfl (r_assign (.p rfl) rfl (r_end ?_)))
       refine W_join h (fun v30 => mk [(2, .e (.one (.ptr 2 0))), (3, .e (.one (.ptr 3 0))), (8, .e (.one (.pure (.val (.int .i64 v24))))), (153, .e (.one (.pure (.val (.bool v30)))))] [(2, .box [.pure (.sl (p0.fVersions.map eI64)), .pure (.sl (p0.fNow.map eI64)), .pure (.sl (p0.fTarget.map eI64)), .pure (.sl (p0.fTables.map eApiTable))]), (3, .box [.pure (.sl (p1.fBase.map eI64)), .pure (.sl (p1.fNext.map eI64)), .pure (.sl (p1.fHeld.map eU8))])]) (fun j30 h => ?_) (fun v30 h => ?_)
       ·refine W_region mixed rfl (r_loadN (.p rfl) rfl ag75 sz75 rfl rfl rfl ?_)
        obtain ⟨v31, a31, h⟩ := bind_some h
        refine r_call (ds0 := [_]) [] (sheaveref35_Stored_c N v27 v31 a31) (.p rfl) gd46 rfl ⟨rfl, trivial⟩ rfl rfl rfl (nodupL_spec rfl) trivial rfl (r_un (.p rfl) rfl (un_not _) rfl (r_move (.p rfl) rfl ?_))
        refine r_split (t := 119) rfl (fun c32 => ?_) (fun c32 => ?_)
        ·have h := cnd_t c32 h
         refine r_fieldAddr (.g rfl rfl) rfl fld43_2 (r_load1 (.g rfl rfl) rfl ag41 rfl rfl (r_move (.g rfl rfl) rfl ?_))
         obtain ⟨v33, a33, b33, h⟩ := idx_bind h
         refine r_index (.g rfl rfl) rfl rfl slc41 sz87 a33 (map_get b33) rfl (r_loadr1 (.g rfl rfl) rfl ag87 rfl (r_bin (.g rfl rfl) rfl rfl (bin_neq _ _ _ _ _ _) rfl (r_pick (.p rfl) rfl rfl rfl (r_move (.p rfl) rfl ?_))))
         refine r_split (t := 127) rfl (fun c34 => ?_) (fun c34 => ?_)
         ·have h := cnd_t c34 h
          refine r_notB rfl rfl (r_notB rfl rfl (r_notB rfl rfl (r_notU rfl rfl (r_notU rfl rfl (r_notU rfl rfl (r_notU rfl rfl (r_notU rfl rfl (r_notU rfl rfl (r_notU rfl rfl (r_notU rfl rfl (r_notU rfl rfl (r_notU rfl rfl (r_notU rfl rfl (r_notU rfl rfl (r_notU rfl rfl (r_notU rfl rfl (r_notU rfl rfl (r_notU rfl rfl (r_notU rfl rfl (r_notU rfl rfl (r_notU rfl rfl (r_notU rfl rfl (r_notU rfl rfl (r_notB rfl rfl (r_pick (.p rfl) rfl rfl rfl ?_)))))))))))))))))))))))))
          refine r_endD (by kernel_rfl) ?_
          exact sink true h (sees_mkL (rn []) _ _ ⟨rfl, rfl, rfl, rfl, trivial⟩ ⟨rfl, rfl, trivial⟩ rfl rfl)
         ·have h := cnd_f c34 h
          refine r_loadN (.g rfl rfl) rfl ag75 sz75 rfl rfl rfl ?_
          obtain ⟨v35, a35, h⟩ := bind_some h
          refine r_call (ds0 := [_]) [] (sheaveref35_Stored_c N v27 v35 a35) (.g rfl rfl) gd46 rfl ⟨rfl, trivial⟩ rfl rfl rfl (nodupL_spec rfl) trivial rfl (r_move (.g rfl rfl) rfl ?_)
          refine r_split (t := 130) rfl (fun c36 => ?_) (fun c36 => ?_)
          ·have h := cnd_t c36 h
           refine r_fieldAddr (.g rfl rfl) rfl fld43_2 (r_load1 (.g rfl rfl) rfl ag41 rfl rfl (r_move (.g rfl rfl) rfl ?_))
           obtain ⟨v37, a37, b37, h⟩ := idx_bind h
           refine r_index (.g rfl rfl) rfl rfl slc41 sz87 a37 (map_get b37) rfl (r_loadr1 (.g rfl rfl) rfl ag87 rfl (r_move (.g rfl rfl) rfl (r_bin (.g rfl rfl) rfl rfl (bin_andNot _ _ _ _ _ _) rfl (r_bin (.g rfl rfl) rfl rfl (bin_neq _ _ _ _ _ _) rfl (r_move (.g rfl rfl) rfl ?_)))))
           refine r_split (t := 139) rfl (fun c38 => ?_) (fun c38 => ?_)
           ·have h := cnd_t c38 h
            refine r_notB rfl rfl (r_notB rfl rfl (r_notB rfl rfl (r_notB rfl rfl (r_notB rfl rfl (r_notB rfl rfl (r_notB rfl rfl (r_notB rfl rfl (r_notB rfl rfl (r_notB rfl rfl (r_notB rfl rfl (r_pick (.g rfl rfl) rfl rfl rfl (r_pick (.g rfl rfl) rfl rfl rfl (r_pick (.p rfl) rfl rfl rfl ?_)))))))))))))
            refine r_endD (by kernel_rfl) ?_
            exact sink true h (sees_mkL (rn []) _ _ ⟨rfl, rfl, rfl, rfl, trivial⟩ ⟨rfl, rfl, trivial⟩ rfl rfl)
           ·have h := cnd_f c38 h
            refine r_loadN (.g rfl rfl) rfl ag43 sz43 rfl rfl rfl (r_fieldAddr (.g rfl rfl) rfl fld75_1 (r_load1 (.g rfl rfl) rfl ag3 rfl rfl ?_))
            obtain ⟨v39, a39, h⟩ := bind_some h
            refine r_call (ds0 := [_, _]) [] (sheaveref36_Running_c N p1 v27.fFrom v39 a39) (.g rfl rfl) gd49 rfl ⟨rfl, rfl, trivial⟩ rfl rfl rfl (nodupL_spec rfl) trivial rfl (r_fieldAddr (.g rfl rfl) rfl fld43_2 (r_load1 (.g rfl rfl) rfl ag41 rfl rfl (r_move (.g rfl rfl) rfl ?_)))
            obtain ⟨v40, a40, b40, h⟩ := idx_bind h
            refine r_index (.g rfl rfl) rfl rfl slc41 sz87 a40 (map_get b40) rfl (r_loadr1 (.g rfl rfl) rfl ag87 rfl (r_bin (.g rfl rfl) rfl rfl (bin_andNot _ _ _ _ _ _) rfl (r_bin (.g rfl rfl) rfl rfl (bin_neq _ _ _ _ _ _) rfl (r_pick (.g rfl rfl) rfl rfl rfl (r_pick (.g rfl rfl) rfl rfl rfl (r_pick (.p rfl) rfl rfl rfl ?_))))))
            refine r_endD (by kernel_rfl) ?_
            exact sink ((andNotI .u8 v39 v40) != 0) h (sees_mkL (rn []) _ _ ⟨rfl, rfl, rfl, rfl, trivial⟩ ⟨rfl, rfl, trivial⟩ rfl rfl)
          ·have h := cnd_f c36 h
           refine r_notB rfl rfl (r_notB rfl rfl (r_notB rfl rfl (r_notB rfl rfl (r_notB rfl rfl (r_notB rfl rfl (r_notB rfl rfl (r_notB rfl rfl (r_notB rfl rfl (r_notU rfl rfl (r_notU rfl rfl (r_notU rfl rfl (r_notU rfl rfl (r_notU rfl rfl (r_notU rfl rfl (r_notU rfl rfl (r_notU rfl rfl (r_notU rfl rfl (r_notU rfl rfl (r_notU rfl rfl (r_notB rfl rfl (r_pick (.g rfl rfl) rfl rfl rfl (r_pick (.p rfl) rfl rfl rfl ?_))))))))))))))))))))))
           refine r_endD (by kernel_rfl) ?_
           exact sink false h (sees_mkL (rn []) _ _ ⟨rfl, rfl, rfl, rfl, trivial⟩ ⟨rfl, rfl, trivial⟩ rfl rfl)
        ·have h := cnd_f c32 h
         refine r_notB rfl rfl (r_notB rfl rfl (r_notB rfl rfl (r_notB rfl rfl (r_notB rfl rfl (r_notB rfl rfl (r_pick (.p rfl) rfl rfl rfl (r_move (.p rfl) rfl (r_loadN (.g rfl rfl) rfl ag75 sz75 rfl rfl rfl ?_))))))))
         obtain ⟨v41, a41, h⟩ := bind_some h
         refine r_call (ds0 := [_]) [] (sheaveref35_Stored_c N v27 v41 a41) (.g rfl rfl) gd46 rfl ⟨rfl, trivial⟩ rfl rfl rfl (nodupL_spec rfl) trivial rfl (r_move (.g rfl rfl) rfl ?_)
         refine r_split (t := 130) rfl (fun c42 => ?_) (fun c42 => ?_)
         ·have h := cnd_t c42 h
          refine r_fieldAddr (.g rfl rfl) rfl fld43_2 (r_load1 (.g rfl rfl) rfl ag41 rfl rfl (r_move (.g rfl rfl) rfl ?_))
          obtain ⟨v43, a43, b43, h⟩ := idx_bind h
          refine r_index (.g rfl rfl) rfl rfl slc41 sz87 a43 (map_get b43) rfl (r_loadr1 (.g rfl rfl) rfl ag87 rfl (r_move (.g rfl rfl) rfl (r_bin (.g rfl rfl) rfl rfl (bin_andNot _ _ _ _ _ _) rfl (r_bin (.g rfl rfl) rfl rfl (bin_neq _ _ _ _ _ _) rfl (r_move (.g rfl rfl) rfl ?_)))))
          refine r_split (t := 139) rfl (fun c44 => ?_) (fun c44 => ?_)
          ·have h := cnd_t c44 h
           refine r_notB rfl rfl (r_notB rfl rfl (r_notB rfl rfl (r_notB rfl rfl (r_notB rfl rfl (r_notB rfl rfl (r_notB rfl rfl (r_notB rfl rfl (r_notB rfl rfl (r_notB rfl rfl (r_notB rfl rfl (r_pick (.g rfl rfl) rfl rfl rfl (r_pick (.g rfl rfl) rfl rfl rfl (r_pick (.p rfl) rfl rfl rfl ?_)))))))))))))
           refine r_endD (by kernel_rfl) ?_
           exact sink true h (sees_mkL (rn []) _ _ ⟨rfl, rfl, rfl, rfl, trivial⟩ ⟨rfl, rfl, trivial⟩ rfl rfl)
          ·have h := cnd_f c44 h
           refine r_loadN (.g rfl rfl) rfl ag43 sz43 rfl rfl rfl (r_fieldAddr (.g rfl rfl) rfl fld75_1 (r_load1 (.g rfl rfl) rfl ag3 rfl rfl ?_))
           obtain ⟨v45, a45, h⟩ := bind_some h
           refine r_call (ds0 := [_, _]) [] (sheaveref36_Running_c N p1 v27.fFrom v45 a45) (.g rfl rfl) gd49 rfl ⟨rfl, rfl, trivial⟩ rfl rfl rfl (nodupL_spec rfl) trivial rfl (r_fieldAddr (.g rfl rfl) rfl fld43_2 (r_load1 (.g rfl rfl) rfl ag41 rfl rfl (r_move (.g rfl rfl) rfl ?_)))
           obtain ⟨v46, a46, b46, h⟩ := idx_bind h
           refine r_index (.g rfl rfl) rfl rfl slc41 sz87 a46 (map_get b46) rfl (r_loadr1 (.g rfl rfl) rfl ag87 rfl (r_bin (.g rfl rfl) rfl rfl (bin_andNot _ _ _ _ _ _) rfl (r_bin (.g rfl rfl) rfl rfl (bin_neq _ _ _ _ _ _) rfl (r_pick (.g rfl rfl) rfl rfl rfl (r_pick (.g rfl rfl) rfl rfl rfl (r_pick (.p rfl) rfl rfl rfl ?_))))))
           refine r_endD (by kernel_rfl) ?_
           exact sink ((andNotI .u8 v45 v46) != 0) h (sees_mkL (rn []) _ _ ⟨rfl, rfl, rfl, rfl, trivial⟩ ⟨rfl, rfl, trivial⟩ rfl rfl)
         ·have h := cnd_f c42 h
          refine r_notB rfl rfl (r_notB rfl rfl (r_notB rfl rfl (r_notB rfl rfl (r_notB rfl rfl (r_notB rfl rfl (r_notB rfl rfl (r_notB rfl rfl (r_notB rfl rfl (r_notU rfl rfl (r_notU rfl rfl (r_notU rfl rfl (r_notU rfl rfl (r_notU rfl rfl (r_notU rfl rfl (r_notU rfl rfl (r_notU rfl rfl (r_notU rfl rfl (r_notU rfl rfl (r_notU rfl rfl (r_notB rfl rfl (r_pick (.g rfl rfl) rfl rfl rfl (r_pick (.p rfl) rfl rfl rfl ?_))))))))))))))))))))))
          refine r_endD (by kernel_rfl) ?_
          exact sink false h (sees_mkL (rn []) _ _ ⟨rfl, rfl, rfl, rfl, trivial⟩ ⟨rfl, rfl, trivial⟩ rfl rfl)
       ·refine W_cond rfl (fun c47 => ?_) (fun c47 => ?_)
        ·have h := cnd_t c47 h
         refine W_seq (W_region mixed rfl (r_assign (.p rfl) rfl (r_end ?_)))
         obtain rfl := Option.some.inj h
         refine W_sees (sees_mkL (rn []) [(4, .e (.one (.pure (.val (.int .i64 1)))))] [] ⟨rfl, trivial⟩ trivial rfl rfl) (W_ret ?_)
         exact ⟨⟨[_], ⟨.tmp _ _ rfl, trivial⟩, rfl⟩, trivial⟩
        ·have h := cnd_f c47 h
         refine W_skip (W_region mixed rfl (r_move (.p rfl) rfl (r_bin (.p rfl) rfl rfl (bin_add _ _ _ _ _ _) rfl (r_assign (.p rfl) rfl (r_end ?_)))))
         exact sink (IntKind.wrap .i64 (v24 + 1)) h (sees_mkL (rn []) _ _ ⟨rfl, rfl, rfl, trivial⟩ ⟨rfl, rfl, trivial⟩ rfl rfl)
      ·have h := cnd_f c26 h
       refine W_exit ?_
       exact sink () h (sees_mkL (rn []) _ _ trivial trivial rfl rfl)
     ·refine W_sees hs (W_seq (W_region mixed rfl (r_assign (.p rfl) rfl (r_end ?_))))
      obtain rfl := Option.some.inj h
      refine W_sees (sees_mkL (rn []) [(4, .e (.one (.pure (.val (.int .i64 0)))))] [] ⟨rfl, trivial⟩ trivial rfl rfl) (W_ret ?_)
      exact ⟨⟨[_], ⟨.tmp _ _ rfl, trivial⟩, rfl⟩, trivial⟩
set_option maxRecDepth 10000 in
theorem sheaveref37_Valid_c (N : Nat) (p0 : ApiStep) (r : Bool) (h : Sh.sheaveref37_Valid N p0 = some r) : Contract Try.prog 80 [.e (.agg [.pure (.val (.int .i64 p0.fKind)), .pure (.val (.int .i64 p0.fIndex)), .pure (.val (.int .i64 p0.fVersion))])] [] (.e (.one (.pure (.val (.bool r))))) := by
 unfold Sh.sheaveref37_Valid at h
 refine contract_of_W (n := 31) (rs := [.tmp 2]) Try.func80 rfl rfl rfl (leb rfl) (leb rfl) rfl fun w0 S0 => ?_
 refine W_seq (W_region mixed rfl (r_box (.p rfl) rfl rfl (r_assign (.p rfl) rfl (r_end ?_))))
 refine W_join h (fun v1 => mk [(2, .e (.one (.pure (.val (.bool v1)))))] []) (fun j1 h => ?_) (fun v1 h => ?_)
 ·refine W_region mixed rfl (r_fieldAddr (.p rfl) rfl fld63_0 (r_load1 (.p rfl) rfl ag3 rfl rfl (r_bin (.p rfl) rfl rfl (bin_geq _ _ _ _ _ _) rfl (r_move (.p rfl) rfl ?_))))
  refine r_split (t := 6) rfl (fun c2 => ?_) (fun c2 => ?_)
  ·have h := cnd_t c2 h
   refine r_fieldAddr (.g rfl rfl) rfl fld63_0 (r_load1 (.g rfl rfl) rfl ag3 rfl rfl (r_bin (.g rfl rfl) rfl rfl (bin_leq _ _ _ _ _ _) rfl (r_pick (.p rfl) rfl rfl rfl (r_move (.p rfl) rfl ?_))))
   refine r_split (t := 11) rfl (fun c3 => ?_) (fun c3 => ?_)
   ·have h := cnd_t c3 h
    refine r_fieldAddr (.g rfl rfl) rfl fld63_1 (r_load1 (.g rfl rfl) rfl ag3 rfl rfl (r_bin (.g rfl rfl) rfl rfl (bin_geq _ _ _ _ _ _) rfl (r_pick (.p rfl) rfl rfl rfl (r_move (.p rfl) rfl ?_))))
    refine r_split (t := 16) rfl (fun c4 => ?_) (fun c4 => ?_)
    ·have h := cnd_t c4 h
     refine r_fieldAddr (.g rfl rfl) rfl fld63_2 (r_load1 (.g rfl rfl) rfl ag3 rfl rfl (r_bin (.g rfl rfl) rfl rfl (bin_geq _ _ _ _ _ _) rfl (r_pick (.p rfl) rfl rfl rfl (r_move (.p rfl) rfl ?_))))
     refine r_split (t := 21) rfl (fun c5 => ?_) (fun c5 => ?_)
     ·have h := cnd_t c5 h
      refine r_fieldAddr (.g rfl rfl) rfl fld63_0 (r_load1 (.g rfl rfl) rfl ag3 rfl rfl (r_bin (.g rfl rfl) rfl rfl (bin_eql _ _ _ _ _ _) rfl (r_move (.g rfl rfl) rfl ?_)))
      refine r_split (t := 25) rfl (fun c6 => ?_) (fun c6 => ?_)
      ·have h := cnd_t c6 h
       refine r_notB rfl rfl (r_notB rfl rfl (r_notB rfl rfl (r_pick (.g rfl rfl) rfl rfl rfl (r_pick (.p rfl) rfl rfl rfl (r_assign (.p rfl) rfl (r_end ?_))))))
       exact sink true h (sees_mkL (rn []) _ _ ⟨rfl, trivial⟩ trivial rfl rfl)
      ·have h := cnd_f c6 h
       refine r_fieldAddr (.g rfl rfl) rfl fld63_2 (r_load1 (.g rfl rfl) rfl ag3 rfl rfl (r_bin (.g rfl rfl) rfl rfl (bin_eql _ _ _ _ _ _) rfl (r_pick (.g rfl rfl) rfl rfl rfl (r_pick (.p rfl) rfl rfl rfl (r_assign (.p rfl) rfl (r_end ?_))))))
       exact sink (p0.fVersion == 0) h (sees_mkL (rn []) _ _ ⟨rfl, trivial⟩ trivial rfl rfl)
     ·have h := cnd_f c5 h
      refine r_notB rfl rfl (r_notB rfl rfl (r_notB rfl rfl (r_notB rfl rfl (r_notU rfl rfl (r_notU rfl rfl (r_notU rfl rfl (r_notB rfl rfl (r_pick (.p rfl) rfl rfl rfl (r_assign (.p rfl) rfl (r_end ?_))))))))))
      exact sink false h (sees_mkL (rn []) _ _ ⟨rfl, trivial⟩ trivial rfl rfl)
    ·have h := cnd_f c4 h
     refine r_notB rfl rfl (r_notB rfl rfl (r_notB rfl rfl (r_pick (.p rfl) rfl rfl rfl (r_move (.p rfl) rfl (r_notB rfl rfl (r_notB rfl rfl (r_notB rfl rfl (r_notB rfl rfl (r_notU rfl rfl (r_notU rfl rfl (r_notU rfl rfl (r_notB rfl rfl (r_pick (.p rfl) rfl rfl rfl (r_assign (.p rfl) rfl (r_end ?_)))))))))))))))
     exact sink false h (sees_mkL (rn []) _ _ ⟨rfl, trivial⟩ trivial rfl rfl)
   ·have h := cnd_f c3 h
    refine r_notB rfl rfl (r_notB rfl rfl (r_notB rfl rfl (r_pick (.p rfl) rfl rfl rfl (r_move (.p rfl) rfl (r_notB rfl rfl (r_notB rfl rfl (r_notB rfl rfl (r_pick (.p rfl) rfl rfl rfl (r_move (.p rfl) rfl (r_notB rfl rfl (r_notB rfl rfl (r_notB rfl rfl (r_notB rfl rfl (r_notU rfl rfl (r_notU rfl rfl (r_notU rfl rfl (r_notB rfl rfl (r_pick (.p rfl) rfl rfl rfl (r_assign (.p rfl) rfl (r_end ?_))))))))))))))))))))
    exact sink false h (sees_mkL (rn []) _ _ ⟨rfl, trivial⟩ trivial rfl rfl)
  ·have h := cnd_f c2 h
   refine r_notB rfl rfl (r_notB rfl rfl (r_notB rfl rfl (r_pick (.p rfl) rfl rfl rfl (r_move (.p rfl) rfl (r_notB rfl rfl (r_notB rfl rfl (r_notB rfl rfl (r_pick (.p rfl) rfl rfl rfl (r_move (.p rfl) rfl (r_notB rfl rfl (r_notB rfl rfl (r_notB rfl rfl (r_pick (.p rfl) rfl rfl rfl (r_move (.p rfl) rfl (r_notB rfl rfl (r_notB rfl rfl (r_notB rfl rfl (r_notB rfl rfl (r_notU rfl rfl (r_notU rfl rfl (r_notU rfl rfl (r_notB rfl rfl (r_pick (.p rfl) rfl rfl rfl (r_assign (.p rfl) rfl (r_end ?_)))))))))))))))))))))))))
   exact sink false h (sees_mkL (rn []) _ _ ⟨rfl, trivial⟩ trivial rfl rfl)
 ·obtain rfl := Option.some.inj h
  refine W_sees (sees_mkL (rn []) [(2, .e (.one (.pure (.val (.bool v1)))))] [] ⟨rfl, trivial⟩ trivial rfl rfl) (W_ret ?_)
  exact ⟨⟨[_], ⟨.tmp _ _ rfl, trivial⟩, rfl⟩, trivial⟩
set_option maxRecDepth 10000 in
theorem sheaveref36_Has_c (N : Nat) (p0 : Int) (p1 : Int) (r : Bool) (h : Sh.sheaveref36_Has N p0 p1 = some r) : Contract Try.prog 60 [.e (.one (.pure (.val (.int .u8 p0)))), .e (.one (.pure (.val (.int .i64 p1))))] [] (.e (.one (.pure (.val (.bool r))))) := by
 unfold Sh.sheaveref36_Has at h
 refine contract_of_W (n := 10) (rs := [.tmp 4]) Try.func60 rfl rfl rfl (leb rfl) (leb rfl) rfl fun w0 S0 => ?_
 refine W_seq (W_region mixed rfl (r_assign (.p rfl) rfl (r_end (W_seq (W_region mixed rfl (r_move (.p rfl) rfl (r_move (.p rfl) rfl ?_)))))))
 obtain ⟨c1, h⟩ := chk_bind h
 refine r_bin (.p rfl) rfl rfl (bin_shr _ _ _ _ _ _ _ c1) rfl (r_bin (.p rfl) rfl rfl (bin_and _ _ _ _ _ _) rfl (r_bin (.p rfl) rfl rfl (bin_eql _ _ _ _ _ _) rfl (r_assign (.p rfl) rfl (r_end ?_))))
 obtain rfl := Option.some.inj h
 refine W_sees (sees_mkL (rn []) [(4, .e (.one (.pure (.val (.bool (((andI .u8 ((shrI .u8 p0 p1)) 1) == 1)))))))] [] ⟨rfl, trivial⟩ trivial rfl rfl) (W_ret ?_)
 exact ⟨⟨[_], ⟨.tmp _ _ rfl, trivial⟩, rfl⟩, trivial⟩
set_option maxRecDepth 10000 in
theorem sheaveref37_After_c (N : Nat) (p0 : ApiProblem) (p1 : ApiMix) (p2 : ApiStep) (r : ApiMix × Bool) (h : Sh.sheaveref37_After N p0 p1 p2 = some r) : Contract Try.prog 30 [.e (.agg [.pure (.sl (p0.fVersions.map eI64)), .pure (.sl (p0.fNow.map eI64)), .pure (.sl (p0.fTarget.map eI64)), .pure (.sl (p0.fTables.map eApiTable))]), .e (.agg [.pure (.sl (p1.fBase.map eI64)), .pure (.sl (p1.fNext.map eI64)), .pure (.sl (p1.fHeld.map eU8))]), .e (.agg [.pure (.val (.int .i64 p2.fKind)), .pure (.val (.int .i64 p2.fIndex)), .pure (.val (.int .i64 p2.fVersion))])] [(1, r.1.fBase.map eI64), (1, r.1.fNext.map eI64), (1, r.1.fHeld.map eU8)] (.tup [.agg [.own 0, .own 1, .own 2], .one (.pure (.val (.bool r.2)))]) := by
 unfold Sh.sheaveref37_After at h
 refine contract_of_W (n := 201) (rs := [.cell 6 43, .tmp 7]) Try.func30 rfl rfl rfl (leb rfl) (leb rfl) rfl fun w0 S0 => ?_
 refine W_seq (W_region mixed rfl (r_box (.p rfl) rfl rfl (r_box (.p rfl) rfl rfl (r_box (.p rfl) rfl rfl (r_alloc (.p rfl) zv43 rfl rfl rfl (r_assign (.p rfl) rfl (r_end (W_seq (W_region mixed rfl (r_buildSlice [] (.p rfl) rfl trivial rfl slc27 sz3 zv3 rfl rfl (leb rfl) rfl rfl (r_fieldAddr (.p rfl) rfl fld43_0 (r_load1 (.p rfl) rfl ag27 rfl rfl ?_))))))))))))
 obtain ⟨c1, h⟩ := chk_bind h
 refine r_append (.p rfl) rfl (.own _ _ _) ⟨rfl, trivial⟩ rfl (.sl _ _ (map_rows (f := eI64) (n := 1) (fun _ => rfl) _)) trivial rfl slc27 slc27 sz3 byt3 (leb rfl) zv3 rfl (len_lim (f := eI64) (g := eI64) (xs := (([] : List Int))) (ys := p1.fBase) c1) (map_app eI64 (([] : List Int)) p1.fBase) rfl ?_
 refine r_buildSlice [] (.p rfl) rfl trivial rfl slc27 sz3 zv3 rfl rfl (leb rfl) rfl rfl (r_fieldAddr (.p rfl) rfl fld43_1 (r_load1 (.p rfl) rfl ag27 rfl rfl ?_))
 obtain ⟨c2, h⟩ := chk_bind h
 refine r_append (.p rfl) rfl (.own _ _ _) ⟨rfl, trivial⟩ rfl (.sl _ _ (map_rows (f := eI64) (n := 1) (fun _ => rfl) _)) trivial rfl slc27 slc27 sz3 byt3 (leb rfl) zv3 rfl (len_lim (f := eI64) (g := eI64) (xs := (([] : List Int))) (ys := p1.fNext) c2) (map_app eI64 (([] : List Int)) p1.fNext) rfl ?_
 refine r_buildSlice [] (.p rfl) rfl trivial rfl slc41 sz87 zv87 rfl rfl (leb rfl) rfl rfl (r_fieldAddr (.p rfl) rfl fld43_2 (r_load1 (.p rfl) rfl ag41 rfl rfl ?_))
 obtain ⟨c3, h⟩ := chk_bind h
 refine r_append (.p rfl) rfl (.own _ _ _) ⟨rfl, trivial⟩ rfl (.sl _ _ (map_rows (f := eU8) (n := 1) (fun _ => rfl) _)) trivial rfl slc41 slc41 sz87 byt87 (leb rfl) zv87 rfl (len_lim (f := eU8) (g := eU8) (xs := (([] : List Int))) (ys := p1.fHeld) c3) (map_app eU8 (([] : List Int)) p1.fHeld) rfl ?_
 refine r_build [(0, .tmp 18, _), (1, .tmp 22, _), (2, .tmp 26, _)] (.p rfl) rfl ⟨rfl, rfl, rfl, trivial⟩ zv43 rfl rfl pl43 rfl (r_alloc (.p rfl) zv43 rfl rfl rfl (r_store rfl rfl rfl rfl sz43 rfl (leb rfl) rfl ?_))
 refine r_endD (by kernel_rfl) ?_
 refine W_seq (W_region mixed rfl (r_fieldAddr (.p rfl) rfl fld63_1 (r_load1 (.p rfl) rfl ag3 rfl rfl (r_assign (.p rfl) rfl (r_end ?_)))))
 refine W_join h (fun v4 => mk [(6, .e (.one (.ptr 6 0))), (8, .e (.one (.ptr 8 0)))] [(6, .box [.pure (.nil0), .pure (.nil0), .pure (.nil0)]), (8, .box [.own 2001, .own 2002, .own 2003]), (2001, .vec 1 (v4.1.map eI64)), (2002, .vec 1 (v4.2.1.map eI64)), (2003, .vec 1 (v4.2.2.map eU8))]) (fun j4 h => ?_) (fun v4 h => ?_)
 ·refine W_seq (W_region mixed rfl (r_fieldAddr (.p rfl) rfl fld63_0 (r_load1 (.p rfl) rfl ag3 rfl rfl (r_end (W_block (W_seq (W_region mixed rfl (r_bin (.p rfl) rfl rfl (bin_eql _ _ _ _ _ _) rfl (r_assign (.p rfl) rfl (r_end ?_))))))))))
  refine W_cond rfl (fun c5 => ?_) (fun c5 => ?_)
  ·have h := cnd_t c5 h
   refine W_seq ?_
   refine W_join h (fun v6 => mk [(3, .e (.one (.ptr 3 0))), (5, .e (.one (.ptr 5 0))), (6, .e (.one (.ptr 6 0))), (8, .e (.one (.ptr 8 0))), (9, .e (.one (.pure (.val (.int .i64 p2.fIndex))))), (60, .e (.one (.pure (.val (.bool v6)))))] [(3, .box [.pure (.sl (p0.fVersions.map eI64)), .pure (.sl (p0.fNow.map eI64)), .pure (.sl (p0.fTarget.map eI64)), .pure (.sl (p0.fTables.map eApiTable))]), (5, .box [.pure (.val (.int .i64 p2.fKind)), .pure (.val (.int .i64 p2.fIndex)), .pure (.val (.int .i64 p2.fVersion))]), (6, .box [.pure (.nil0), .pure (.nil0), .pure (.nil0)]), (8, .box [.own 2004, .own 2005, .own 2006]), (2004, .vec 1 (((([] : List Int)) ++ p1.fBase).map eI64)), (2005, .vec 1 (((([] : List Int)) ++ p1.fNext).map eI64)), (2006, .vec 1 (((([] : List Int)) ++ p1.fHeld).map eU8))]) (fun j6 h => ?_) (fun v6 h => ?_)
   ·refine W_region mixed rfl (r_fieldAddr (.p rfl) rfl fld43_1 (r_load1 (.p rfl) rfl ag27 rfl rfl (r_move (.p rfl) rfl ?_)))
    obtain ⟨v7, a7, b7, h⟩ := idx_bind h
    refine r_index (.p rfl) rfl rfl slc27 sz3 a7 (map_get b7) rfl (r_loadr1 (.p rfl) rfl ag3 rfl (r_bin (.p rfl) rfl rfl (bin_geq _ _ _ _ _ _) rfl (r_move (.p rfl) rfl ?_)))
    refine r_split (t := 51) rfl (fun c8 => ?_) (fun c8 => ?_)
    ·have h := cnd_t c8 h
     refine r_notB rfl rfl (r_notB rfl rfl (r_notB rfl rfl (r_notB rfl rfl (r_notB rfl rfl (r_notB rfl rfl (r_notB rfl rfl (r_notB rfl rfl (r_pick (.p rfl) rfl rfl rfl ?_))))))))
     refine r_endD (by kernel_rfl) ?_
     exact sink true h (sees_mkL (rn [(2004, 18), (2005, 22), (2006, 26)]) _ _ ⟨rfl, rfl, rfl, rfl, rfl, rfl, trivial⟩ ⟨rfl, rfl, rfl, rfl, rfl, rfl, rfl, trivial⟩ rfl rfl)
    ·have h := cnd_f c8 h
     refine r_fieldAddr (.g rfl rfl) rfl fld63_2 (r_load1 (.g rfl rfl) rfl ag3 rfl rfl (r_fieldAddr (.g rfl rfl) rfl fld43_0 (r_load1 (.g rfl rfl) rfl ag27 rfl rfl (r_move (.g rfl rfl) rfl ?_))))
     obtain ⟨v9, a9, b9, h⟩ := idx_bind h
     refine r_index (.g rfl rfl) rfl rfl slc27 sz3 a9 (map_get b9) rfl (r_loadr1 (.g rfl rfl) rfl ag3 rfl (r_bin (.g rfl rfl) rfl rfl (bin_eql _ _ _ _ _ _) rfl (r_pick (.p rfl) rfl rfl rfl ?_)))
     refine r_endD (by kernel_rfl) ?_
     exact sink (p2.fVersion == v9) h (sees_mkL (rn [(2004, 18), (2005, 22), (2006, 26)]) _ _ ⟨rfl, rfl, rfl, rfl, rfl, rfl, trivial⟩ ⟨rfl, rfl, rfl, rfl, rfl, rfl, rfl, trivial⟩ rfl rfl)
   ·refine W_cond rfl (fun c10 => ?_) (fun c10 => ?_)
    ·have h := cnd_t c10 h
     refine W_seq (W_region mixed rfl (r_build [] (.p rfl) rfl trivial zv43 rfl rfl pl43 rfl (r_store rfl rfl rfl rfl sz43 rfl (leb rfl) rfl (r_assign (.p rfl) rfl (r_end ?_)))))
     obtain rfl := Option.some.inj h
     refine W_sees ((sees_adoptB 6 0 2007 1 _ rfl rfl rfl rfl).trans ((sees_adoptB 6 1 2008 1 _ rfl rfl rfl rfl).trans ((sees_adoptB 6 2 2009 1 _ rfl rfl rfl rfl).trans (sees_mkL (rn [(1000, 2007), (1001, 2008), (1002, 2009)]) [(6, .e (.one (.ptr 6 0))), (7, .e (.one (.pure (.val (.bool false)))))] [(6, .box [.own 1000, .own 1001, .own 1002]), (1000, .vec 1 ((([] : List Int)).map eI64)), (1001, .vec 1 ((([] : List Int)).map eI64)), (1002, .vec 1 ((([] : List Int)).map eU8))] ⟨rfl, rfl, trivial⟩ ⟨rfl, rfl, rfl, rfl, trivial⟩ rfl rfl)))) (W_ret ?_)
     exact ⟨⟨[_, _], ⟨.cellN _ _ _ _ _ _ _ rfl rfl ag43 sz43 rfl rfl (ltb rfl), ⟨.tmp _ _ rfl, trivial⟩⟩, rfl⟩, ⟨rfl, rfl, rfl, trivial⟩⟩
    ·have h := cnd_f c10 h
     refine W_skip (W_seq (W_region mixed rfl (r_fieldAddr (.p rfl) rfl fld43_1 (r_load1 (.p rfl) rfl ag27 rfl rfl (r_move (.p rfl) rfl (r_fieldAddr (.p rfl) rfl fld63_2 (r_load1 (.p rfl) rfl ag3 rfl rfl ?_)))))))
     obtain ⟨v11, a11, b11, h⟩ := idx_bind h
     refine r_indexo (.p rfl) rfl rfl rfl slc27 sz3 a11 (map_get b11) (r_storee rfl rfl rfl rfl (map_get b11) rfl sz3 rfl (leb rfl) (map_setv eI64 ((([] : List Int)) ++ p1.fNext) _ p2.fVersion) (r_end (W_seq (W_region mixed rfl (r_assign (.p rfl) rfl (r_end ?_))))))
     refine W_whileE (L := Sh.sheaveref37_After_L12 N p0 p2) h (fun v12 => mk [(3, .e (.one (.ptr 3 0))), (5, .e (.one (.ptr 5 0))), (6, .e (.one (.ptr 6 0))), (8, .e (.one (.ptr 8 0))), (9, .e (.one (.pure (.val (.int .i64 p2.fIndex))))), (10, .e (.one (.pure (.val (.int .i64 v12.2)))))] [(3, .box [.pure (.sl (p0.fVersions.map eI64)), .pure (.sl (p0.fNow.map eI64)), .pure (.sl (p0.fTarget.map eI64)), .pure (.sl (p0.fTables.map eApiTable))]), (5, .box [.pure (.val (.int .i64 p2.fKind)), .pure (.val (.int .i64 p2.fIndex)), .pure (.val (.int .i64 p2.fVersion))]), (6, .box [.pure (.nil0), .pure (.nil0), .pure (.nil0)]), (8, .box [.own 2010, .own 2011, .own 2012]), (2010, .vec 1 (((([] : List Int)) ++ p1.fBase).map eI64)), (2011, .vec 1 ((((([] : List Int)) ++ p1.fNext).set (p2.fIndex).toNat p2.fVersion).map eI64)), (2012, .vec 1 (v12.1.map eU8))]) (fun v13 => mk [(6, .e (.one (.ptr 6 0))), (8, .e (.one (.ptr 8 0)))] [(6, .box [.pure (.nil0), .pure (.nil0), .pure (.nil0)]), (8, .box [.own 2013, .own 2014, .own 2015]), (2013, .vec 1 (((([] : List Int)) ++ p1.fBase).map eI64)), (2014, .vec 1 ((((([] : List Int)) ++ p1.fNext).set (p2.fIndex).toNat p2.fVersion).map eI64)), (2015, .vec 1 (v13.map eU8))]) (fun _ _ => rfl) (sees_mkL (rn [(2010, 2004), (2011, 2005), (2012, 2006)]) _ _ ⟨rfl, rfl, rfl, rfl, rfl, rfl, trivial⟩ ⟨rfl, rfl, rfl, rfl, rfl, rfl, rfl, trivial⟩ rfl rfl) (fun j12 n12 v12 h => ?_) (fun v13 s h hs => ?_)
     ·unfold Sh.sheaveref37_After_L12 at h
      refine W_seq (W_seq (W_region mixed rfl (r_move (.p rfl) rfl (r_fieldAddr (.p rfl) rfl fld30_3 (r_load1 (.p rfl) rfl ag28 rfl rfl (r_len (.p rfl) rfl (.sl _) trivial (List.length_map _) slc28 (r_bin (.p rfl) rfl rfl (bin_lss _ _ _ _ _ _) rfl (r_end ?_))))))))
      refine W_cond rfl (fun c14 => ?_) (fun c14 => ?_)
      ·have h := cnd_t c14 h
       refine W_skip ?_
       refine W_join h (fun v15 => mk [(3, .e (.one (.ptr 3 0))), (5, .e (.one (.ptr 5 0))), (6, .e (.one (.ptr 6 0))), (8, .e (.one (.ptr 8 0))), (9, .e (.one (.pure (.val (.int .i64 p2.fIndex))))), (10, .e (.one (.pure (.val (.int .i64 v12.2)))))] [(3, .box [.pure (.sl (p0.fVersions.map eI64)), .pure (.sl (p0.fNow.map eI64)), .pure (.sl (p0.fTarget.map eI64)), .pure (.sl (p0.fTables.map eApiTable))]), (5, .box [.pure (.val (.int .i64 p2.fKind)), .pure (.val (.int .i64 p2.fIndex)), .pure (.val (.int .i64 p2.fVersion))]), (6, .box [.pure (.nil0), .pure (.nil0), .pure (.nil0)]), (8, .box [.own 2016, .own 2017, .own 2018]), (2016, .vec 1 (((([] : List Int)) ++ p1.fBase).map eI64)), (2017, .vec 1 ((((([] : List Int)) ++ p1.fNext).set (p2.fIndex).toNat p2.fVersion).map eI64)), (2018, .vec 1 (v15.map eU8))]) (fun j15 h => ?_) (fun v15 h => ?_)
       ·refine W_block ?_
        refine W_join h (fun v16 => mk [(3, .e (.one (.ptr 3 0))), (5, .e (.one (.ptr 5 0))), (6, .e (.one (.ptr 6 0))), (8, .e (.one (.ptr 8 0))), (9, .e (.one (.pure (.val (.int .i64 p2.fIndex))))), (10, .e (.one (.pure (.val (.int .i64 v12.2))))), (90, .e (.one (.pure (.val (.bool v16)))))] [(3, .box [.pure (.sl (p0.fVersions.map eI64)), .pure (.sl (p0.fNow.map eI64)), .pure (.sl (p0.fTarget.map eI64)), .pure (.sl (p0.fTables.map eApiTable))]), (5, .box [.pure (.val (.int .i64 p2.fKind)), .pure (.val (.int .i64 p2.fIndex)), .pure (.val (.int .i64 p2.fVersion))]), (6, .box [.pure (.nil0), .pure (.nil0), .pure (.nil0)]), (8, .box [.own 2019, .own 2020, .own 2021]), (2019, .vec 1 (((([] : List Int)) ++ p1.fBase).map eI64)), (2020, .vec 1 ((((([] : List Int)) ++ p1.fNext).set (p2.fIndex).toNat p2.fVersion).map eI64)), (2021, .vec 1 (v12.1.map eU8))]) (fun j16 h => ?_) (fun v16 h => ?_)
        ·refine W_region mixed rfl (r_fieldAddr (.p rfl) rfl fld30_3 (r_load1 (.p rfl) rfl ag28 rfl rfl (r_move (.p rfl) rfl ?_)))
         obtain ⟨v17, a17, b17, h⟩ := idx_bind h
         refine r_index (.p rfl) rfl rfl slc28 sz75 a17 (map_get b17) rfl (r_fieldAddrr (.p rfl) rfl fld75_1 (leb rfl) rfl (r_loadr1 (.p rfl) rfl ag3 rfl (r_move (.p rfl) rfl (r_bin (.p rfl) rfl rfl (bin_eql _ _ _ _ _ _) rfl (r_move (.p rfl) rfl ?_)))))
         refine r_split (t := 83) rfl (fun c18 => ?_) (fun c18 => ?_)
         ·have h := cnd_t c18 h
          refine r_fieldAddr (.g rfl rfl) rfl fld30_3 (r_load1 (.g rfl rfl) rfl ag28 rfl rfl (r_move (.g rfl rfl) rfl ?_))
          obtain ⟨v19, a19, b19, h⟩ := idx_bind h
          refine r_index (.g rfl rfl) rfl rfl slc28 sz75 a19 (map_get b19) rfl (r_loadrN (.g rfl rfl) rfl ag75 sz75 rfl rfl ?_)
          obtain ⟨v20, a20, h⟩ := bind_some h
          refine r_call (ds0 := [_]) [] (sheaveref35_Stored_c N v19 v20 a20) (.g rfl rfl) gd46 rfl ⟨rfl, trivial⟩ rfl rfl rfl (nodupL_spec rfl) trivial rfl (r_pick (.p rfl) rfl rfl rfl (r_end ?_))
          exact sink v20 h (sees_mkL (rn [(2019, 2010), (2020, 2011), (2021, 2012)]) _ _ ⟨rfl, rfl, rfl, rfl, rfl, rfl, rfl, trivial⟩ ⟨rfl, rfl, rfl, rfl, rfl, rfl, rfl, trivial⟩ rfl rfl)
         ·have h := cnd_f c18 h
          refine r_notB rfl rfl (r_notB rfl rfl (r_notB rfl rfl (r_notB rfl rfl (r_notB rfl rfl (r_notB rfl rfl (r_pick (.p rfl) rfl rfl rfl (r_end ?_)))))))
          exact sink false h (sees_mkL (rn [(2019, 2010), (2020, 2011), (2021, 2012)]) _ _ ⟨rfl, rfl, rfl, rfl, rfl, rfl, rfl, trivial⟩ ⟨rfl, rfl, rfl, rfl, rfl, rfl, rfl, trivial⟩ rfl rfl)
        ·refine W_cond rfl (fun c21 => ?_) (fun c21 => ?_)
         ·have h := cnd_t c21 h
          refine W_region mixed rfl (r_fieldAddr (.p rfl) rfl fld43_2 (r_load1 (.p rfl) rfl ag41 rfl rfl (r_move (.p rfl) rfl (r_fieldAddr (.p rfl) rfl fld43_2 (r_load1 (.p rfl) rfl ag41 rfl rfl (r_move (.p rfl) rfl ?_))))))
          obtain ⟨v22, a22, b22, h⟩ := idx_bind h
          refine r_indexo (.p rfl) rfl rfl rfl slc41 sz87 a22 (map_get b22) (r_loade1 (.p rfl) rfl ag87 rfl (map_get b22) rfl (r_fieldAddr (.p rfl) rfl fld63_2 (r_load1 (.p rfl) rfl ag3 rfl rfl ?_)))
          obtain ⟨c23, h⟩ := chk_bind h
          refine r_bin (.p rfl) rfl rfl (bin_shl _ _ _ _ _ _ _ c23) rfl (r_bin (.p rfl) rfl rfl (bin_or _ _ _ _ _ _) rfl ?_)
          obtain ⟨v24, a24, b24, h⟩ := idx_bind h
          refine r_indexo (.p rfl) rfl rfl rfl slc41 sz87 a24 (map_get b24) (r_storee rfl rfl rfl rfl (map_get b24) rfl sz87 rfl (leb rfl) (map_setv eU8 v12.1 _ ((orI .u8 v22 ((shlI .u8 1 p2.fVersion))))) ?_)
          refine r_endD (by kernel_rfl) ?_
          exact sink (v12.1.set (v12.2).toNat ((orI .u8 v22 ((shlI .u8 1 p2.fVersion))))) h (sees_mkL (rn [(2016, 2019), (2017, 2020), (2018, 2021)]) _ _ ⟨rfl, rfl, rfl, rfl, rfl, rfl, trivial⟩ ⟨rfl, rfl, rfl, rfl, rfl, rfl, rfl, trivial⟩ rfl rfl)
         ·have h := cnd_f c21 h
          refine W_skip ?_
          exact sink v12.1 h (sees_mkL (rn [(2016, 2019), (2017, 2020), (2018, 2021)]) _ _ ⟨rfl, rfl, rfl, rfl, rfl, rfl, trivial⟩ ⟨rfl, rfl, rfl, rfl, rfl, rfl, rfl, trivial⟩ rfl rfl)
       ·refine W_region mixed rfl (r_move (.p rfl) rfl (r_bin (.p rfl) rfl rfl (bin_add _ _ _ _ _ _) rfl (r_assign (.p rfl) rfl (r_end ?_))))
        exact sink (v15, (IntKind.wrap .i64 (v12.2 + 1))) h (sees_mkL (rn [(2010, 2016), (2011, 2017), (2012, 2018)]) _ _ ⟨rfl, rfl, rfl, rfl, rfl, rfl, trivial⟩ ⟨rfl, rfl, rfl, rfl, rfl, rfl, rfl, trivial⟩ rfl rfl)
      ·have h := cnd_f c14 h
       refine W_exit ?_
       exact sink v12.1 h (sees_mkL (rn [(2013, 2010), (2014, 2011), (2015, 2012)]) _ _ ⟨rfl, rfl, trivial⟩ ⟨rfl, rfl, rfl, rfl, rfl, trivial⟩ rfl rfl)
     ·exact sink ((([] : List Int)) ++ p1.fBase, ((([] : List Int)) ++ p1.fNext).set (p2.fIndex).toNat p2.fVersion, v13) h (hs.trans (sees_mkL (rn [(2001, 2013), (2002, 2014), (2003, 2015)]) _ _ ⟨rfl, rfl, trivial⟩ ⟨rfl, rfl, rfl, rfl, rfl, trivial⟩ rfl rfl))
  ·have h := cnd_f c5 h
   refine W_seq (W_region mixed rfl (r_bin (.p rfl) rfl rfl (bin_eql _ _ _ _ _ _) rfl (r_assign (.p rfl) rfl (r_end ?_))))
   refine W_cond rfl (fun c25 => ?_) (fun c25 => ?_)
   ·have h := cnd_t c25 h
    refine W_seq (W_seq (W_region mixed rfl (r_fieldAddr (.p rfl) rfl fld43_1 (r_load1 (.p rfl) rfl ag27 rfl rfl (r_move (.p rfl) rfl ?_)))))
    obtain ⟨v26, a26, b26, h⟩ := idx_bind h
    refine r_index (.p rfl) rfl rfl slc27 sz3 a26 (map_get b26) rfl (r_loadr1 (.p rfl) rfl ag3 rfl (r_bin (.p rfl) rfl rfl (bin_lss _ _ _ _ _ _) rfl (r_end ?_)))
    refine W_cond rfl (fun c27 => ?_) (fun c27 => ?_)
    ·have h := cnd_t c27 h
     refine W_seq (W_region mixed rfl (r_build [] (.p rfl) rfl trivial zv43 rfl rfl pl43 rfl (r_store rfl rfl rfl rfl sz43 rfl (leb rfl) rfl (r_assign (.p rfl) rfl (r_end ?_)))))
     obtain rfl := Option.some.inj h
     refine W_sees ((sees_adoptB 6 0 2022 1 _ rfl rfl rfl rfl).trans ((sees_adoptB 6 1 2023 1 _ rfl rfl rfl rfl).trans ((sees_adoptB 6 2 2024 1 _ rfl rfl rfl rfl).trans (sees_mkL (rn [(1000, 2022), (1001, 2023), (1002, 2024)]) [(6, .e (.one (.ptr 6 0))), (7, .e (.one (.pure (.val (.bool false)))))] [(6, .box [.own 1000, .own 1001, .own 1002]), (1000, .vec 1 ((([] : List Int)).map eI64)), (1001, .vec 1 ((([] : List Int)).map eI64)), (1002, .vec 1 ((([] : List Int)).map eU8))] ⟨rfl, rfl, trivial⟩ ⟨rfl, rfl, rfl, rfl, trivial⟩ rfl rfl)))) (W_ret ?_)
     exact ⟨⟨[_, _], ⟨.cellN _ _ _ _ _ _ _ rfl rfl ag43 sz43 rfl rfl (ltb rfl), ⟨.tmp _ _ rfl, trivial⟩⟩, rfl⟩, ⟨rfl, rfl, rfl, trivial⟩⟩
    ·have h := cnd_f c27 h
     refine W_skip (W_region mixed rfl (r_fieldAddr (.p rfl) rfl fld43_0 (r_load1 (.p rfl) rfl ag27 rfl rfl (r_move (.p rfl) rfl (r_fieldAddr (.p rfl) rfl fld43_1 (r_load1 (.p rfl) rfl ag27 rfl rfl (r_move (.p rfl) rfl (r_fieldAddr (.p rfl) rfl fld43_1 (r_load1 (.p rfl) rfl ag27 rfl rfl (r_move (.p rfl) rfl ?_))))))))))
     obtain ⟨v28, a28, b28, h⟩ := idx_bind h
     refine r_index (.p rfl) rfl rfl slc27 sz3 a28 (map_get b28) rfl (r_loadr1 (.p rfl) rfl ag3 rfl ?_)
     obtain ⟨v29, a29, b29, h⟩ := idx_bind h
     refine r_indexo (.p rfl) rfl rfl rfl slc27 sz3 a29 (map_get b29) (r_storee rfl rfl rfl rfl (map_get b29) rfl sz3 rfl (leb rfl) (map_setv eI64 ((([] : List Int)) ++ p1.fBase) _ v28) ?_)
     obtain ⟨v30, a30, b30, h⟩ := idx_bind h
     refine r_indexo (.p rfl) rfl rfl rfl slc27 sz3 a30 (map_get b30) (r_storee rfl rfl rfl rfl (map_get b30) rfl sz3 rfl (leb rfl) (map_setv eI64 ((([] : List Int)) ++ p1.fNext) _ ((-1))) ?_)
     refine r_endD (by kernel_rfl) ?_
     exact sink (((([] : List Int)) ++ p1.fBase).set (p2.fIndex).toNat v28, ((([] : List Int)) ++ p1.fNext).set (p2.fIndex).toNat ((-1)), (([] : List Int)) ++ p1.fHeld) h (sees_mkL (rn [(2001, 18), (2002, 22), (2003, 26)]) _ _ ⟨rfl, rfl, trivial⟩ ⟨rfl, rfl, rfl, rfl, rfl, trivial⟩ rfl rfl)
   ·have h := cnd_f c25 h
    refine W_seq (W_region mixed rfl (r_bin (.p rfl) rfl rfl (bin_eql _ _ _ _ _ _) rfl (r_assign (.p rfl) rfl (r_end ?_))))
    refine W_cond rfl (fun c31 => ?_) (fun c31 => ?_)
    ·have h := cnd_t c31 h
     refine W_seq (W_region mixed rfl (r_fieldAddr (.p rfl) rfl fld30_3 (r_load1 (.p rfl) rfl ag28 rfl rfl (r_move (.p rfl) rfl ?_))))
     obtain ⟨v32, a32, b32, h⟩ := idx_bind h
     refine r_index (.p rfl) rfl rfl slc28 sz75 a32 (map_get b32) rfl (r_loadrN (.p rfl) rfl ag75 sz75 rfl rfl (r_alloc (.p rfl) zv75 rfl rfl rfl (r_store rfl rfl rfl rfl sz75 rfl (leb rfl) rfl (r_end (W_seq (W_seq (W_region mixed rfl (r_loadN (.p rfl) rfl ag75 sz75 rfl rfl rfl ?_))))))))
     obtain ⟨v33, a33, h⟩ := bind_some h
     refine r_call (ds0 := [_]) [] (sheaveref35_Stored_c N v32 v33 a33) (.p rfl) gd46 rfl ⟨rfl, trivial⟩ rfl rfl rfl (nodupL_spec rfl) trivial rfl (r_un (.p rfl) rfl (un_not _) rfl (r_end ?_))
     refine W_cond rfl (fun c34 => ?_) (fun c34 => ?_)
     ·have h := cnd_t c34 h
      refine W_seq (W_region mixed rfl (r_build [] (.p rfl) rfl trivial zv43 rfl rfl pl43 rfl (r_store rfl rfl rfl rfl sz43 rfl (leb rfl) rfl (r_assign (.p rfl) rfl (r_end ?_)))))
      obtain rfl := Option.some.inj h
      refine W_sees ((sees_adoptB 6 0 2025 1 _ rfl rfl rfl rfl).trans ((sees_adoptB 6 1 2026 1 _ rfl rfl rfl rfl).trans ((sees_adoptB 6 2 2027 1 _ rfl rfl rfl rfl).trans (sees_mkL (rn [(1000, 2025), (1001, 2026), (1002, 2027)]) [(6, .e (.one (.ptr 6 0))), (7, .e (.one (.pure (.val (.bool false)))))] [(6, .box [.own 1000, .own 1001, .own 1002]), (1000, .vec 1 ((([] : List Int)).map eI64)), (1001, .vec 1 ((([] : List Int)).map eI64)), (1002, .vec 1 ((([] : List Int)).map eU8))] ⟨rfl, rfl, trivial⟩ ⟨rfl, rfl, rfl, rfl, trivial⟩ rfl rfl)))) (W_ret ?_)
      exact ⟨⟨[_, _], ⟨.cellN _ _ _ _ _ _ _ rfl rfl ag43 sz43 rfl rfl (ltb rfl), ⟨.tmp _ _ rfl, trivial⟩⟩, rfl⟩, ⟨rfl, rfl, rfl, trivial⟩⟩
     ·have h := cnd_f c34 h
      refine W_skip (W_seq (W_region mixed rfl (r_loadN (.p rfl) rfl ag43 sz43 rfl rfl rfl (r_fieldAddr (.p rfl) rfl fld75_1 (r_load1 (.p rfl) rfl ag3 rfl rfl ?_)))))
      obtain ⟨v35, a35, h⟩ := bind_some h
      refine r_call (ds0 := [_, _]) [] (sheaveref36_Running_c N p1 v32.fFrom v35 a35) (.p rfl) gd49 rfl ⟨rfl, rfl, trivial⟩ rfl rfl rfl (nodupL_spec rfl) trivial rfl (r_assign (.p rfl) rfl (r_end (W_seq (W_seq (W_region mixed rfl (r_fieldAddr (.p rfl) rfl fld43_2 (r_load1 (.p rfl) rfl ag41 rfl rfl (r_move (.p rfl) rfl ?_))))))))
      obtain ⟨v36, a36, b36, h⟩ := idx_bind h
      refine r_index (.p rfl) rfl rfl slc41 sz87 a36 (map_get b36) rfl (r_loadr1 (.p rfl) rfl ag87 rfl (r_move (.p rfl) rfl (r_bin (.p rfl) rfl rfl (bin_eql _ _ _ _ _ _) rfl (r_end ?_))))
      refine W_cond rfl (fun c37 => ?_) (fun c37 => ?_)
      ·have h := cnd_t c37 h
       refine W_seq (W_region mixed rfl (r_build [] (.p rfl) rfl trivial zv43 rfl rfl pl43 rfl (r_store rfl rfl rfl rfl sz43 rfl (leb rfl) rfl (r_assign (.p rfl) rfl (r_end ?_)))))
       obtain rfl := Option.some.inj h
       refine W_sees ((sees_adoptB 6 0 2028 1 _ rfl rfl rfl rfl).trans ((sees_adoptB 6 1 2029 1 _ rfl rfl rfl rfl).trans ((sees_adoptB 6 2 2030 1 _ rfl rfl rfl rfl).trans (sees_mkL (rn [(1000, 2028), (1001, 2029), (1002, 2030)]) [(6, .e (.one (.ptr 6 0))), (7, .e (.one (.pure (.val (.bool false)))))] [(6, .box [.own 1000, .own 1001, .own 1002]), (1000, .vec 1 ((([] : List Int)).map eI64)), (1001, .vec 1 ((([] : List Int)).map eI64)), (1002, .vec 1 ((([] : List Int)).map eU8))] ⟨rfl, rfl, trivial⟩ ⟨rfl, rfl, rfl, rfl, trivial⟩ rfl rfl)))) (W_ret ?_)
       exact ⟨⟨[_, _], ⟨.cellN _ _ _ _ _ _ _ rfl rfl ag43 sz43 rfl rfl (ltb rfl), ⟨.tmp _ _ rfl, trivial⟩⟩, rfl⟩, ⟨rfl, rfl, rfl, trivial⟩⟩
      ·have h := cnd_f c37 h
       refine W_skip (W_seq (W_seq (W_region mixed rfl (r_assign (.p rfl) rfl (r_end ?_)))))
       refine W_whileE (L := Sh.sheaveref37_After_L38 N p0 p1 p2 v32 v35) h (fun v38 => mk [(3, .e (.one (.ptr 3 0))), (4, .e (.one (.ptr 4 0))), (6, .e (.one (.ptr 6 0))), (8, .e (.one (.ptr 8 0))), (9, .e (.one (.pure (.val (.int .i64 p2.fIndex))))), (11, .e (.one (.ptr 11 0))), (12, .e (.one (.pure (.val (.int .u8 v35))))), (13, .e (.one (.pure (.val (.int .i64 v38)))))] [(3, .box [.pure (.sl (p0.fVersions.map eI64)), .pure (.sl (p0.fNow.map eI64)), .pure (.sl (p0.fTarget.map eI64)), .pure (.sl (p0.fTables.map eApiTable))]), (4, .box [.pure (.sl (p1.fBase.map eI64)), .pure (.sl (p1.fNext.map eI64)), .pure (.sl (p1.fHeld.map eU8))]), (6, .box [.pure (.nil0), .pure (.nil0), .pure (.nil0)]), (8, .box [.own 2031, .own 2032, .own 2033]), (11, .box [.pure (.val (.int .i64 v32.fKind)), .pure (.val (.int .i64 v32.fFrom)), .pure (.val (.int .i64 v32.fTo)), .pure (.val (.bool v32.fAware)), .pure (.sl (v32.fOK.map (eSl eB))), .pure (.sl (v32.fRewrite.map (eSl eB)))]), (2031, .vec 1 (((([] : List Int)) ++ p1.fBase).map eI64)), (2032, .vec 1 (((([] : List Int)) ++ p1.fNext).map eI64)), (2033, .vec 1 (((([] : List Int)) ++ p1.fHeld).map eU8))]) (fun v39 => mk [(6, .e (.one (.ptr 6 0))), (8, .e (.one (.ptr 8 0))), (9, .e (.one (.pure (.val (.int .i64 p2.fIndex))))), (12, .e (.one (.pure (.val (.int .u8 v35)))))] [(6, .box [.pure (.nil0), .pure (.nil0), .pure (.nil0)]), (8, .box [.own 2034, .own 2035, .own 2036]), (2034, .vec 1 (((([] : List Int)) ++ p1.fBase).map eI64)), (2035, .vec 1 (((([] : List Int)) ++ p1.fNext).map eI64)), (2036, .vec 1 (((([] : List Int)) ++ p1.fHeld).map eU8))]) (fun _ _ => rfl) (sees_mkL (rn [(2031, 18), (2032, 22), (2033, 26)]) _ _ ⟨rfl, rfl, rfl, rfl, rfl, rfl, rfl, rfl, trivial⟩ ⟨rfl, rfl, rfl, rfl, rfl, rfl, rfl, rfl, trivial⟩ rfl rfl) (fun j38 n38 v38 h => ?_) (fun v39 s h hs => ?_)
       ·unfold Sh.sheaveref37_After_L38 at h
        refine W_seq (W_seq (W_region mixed rfl (r_move (.p rfl) rfl (r_fieldAddr (.p rfl) rfl fld30_0 (r_load1 (.p rfl) rfl ag27 rfl rfl (r_fieldAddr (.p rfl) rfl fld75_1 (r_load1 (.p rfl) rfl ag3 rfl rfl ?_)))))))
        obtain ⟨v40, a40, b40, h⟩ := idx_bind h
        refine r_index (.p rfl) rfl rfl slc27 sz3 a40 (map_get b40) rfl (r_loadr1 (.p rfl) rfl ag3 rfl (r_bin (.p rfl) rfl rfl (bin_lss _ _ _ _ _ _) rfl (r_end ?_)))
        refine W_cond rfl (fun c41 => ?_) (fun c41 => ?_)
        ·have h := cnd_t c41 h
         refine W_skip (W_seq (W_block ?_))
         refine W_join h (fun v42 => mk [(3, .e (.one (.ptr 3 0))), (4, .e (.one (.ptr 4 0))), (6, .e (.one (.ptr 6 0))), (8, .e (.one (.ptr 8 0))), (9, .e (.one (.pure (.val (.int .i64 p2.fIndex))))), (11, .e (.one (.ptr 11 0))), (12, .e (.one (.pure (.val (.int .u8 v35))))), (13, .e (.one (.pure (.val (.int .i64 v38))))), (14, .e (.one (.pure (.val (.bool v42)))))] [(3, .box [.pure (.sl (p0.fVersions.map eI64)), .pure (.sl (p0.fNow.map eI64)), .pure (.sl (p0.fTarget.map eI64)), .pure (.sl (p0.fTables.map eApiTable))]), (4, .box [.pure (.sl (p1.fBase.map eI64)), .pure (.sl (p1.fNext.map eI64)), .pure (.sl (p1.fHeld.map eU8))]), (6, .box [.pure (.nil0), .pure (.nil0), .pure (.nil0)]), (8, .box [.own 2037, .own 2038, .own 2039]), (11, .box [.pure (.val (.int .i64 v32.fKind)), .pure (.val (.int .i64 v32.fFrom)), .pure (.val (.int .i64 v32.fTo)), .pure (.val (.bool v32.fAware)), .pure (.sl (v32.fOK.map (eSl eB))), .pure (.sl (v32.fRewrite.map (eSl eB)))]), (2037, .vec 1 (((([] : List Int)) ++ p1.fBase).map eI64)), (2038, .vec 1 (((([] : List Int)) ++ p1.fNext).map eI64)), (2039, .vec 1 (((([] : List Int)) ++ p1.fHeld).map eU8))]) (fun j42 h => ?_) (fun v42 h => ?_)
         ·refine W_region mixed rfl (r_fieldAddr (.p rfl) rfl fld43_2 (r_load1 (.p rfl) rfl ag41 rfl rfl (r_move (.p rfl) rfl ?_)))
          obtain ⟨v43, a43, b43, h⟩ := idx_bind h
          refine r_index (.p rfl) rfl rfl slc41 sz87 a43 (map_get b43) rfl (r_loadr1 (.p rfl) rfl ag87 rfl (r_move (.p rfl) rfl ?_))
          obtain ⟨v44, a44, h⟩ := bind_some h
          refine r_call (ds0 := [_, _]) [] (sheaveref36_Has_c N v43 v38 v44 a44) (.p rfl) gd60 rfl ⟨rfl, rfl, trivial⟩ rfl rfl rfl (nodupL_spec rfl) trivial rfl (r_move (.p rfl) rfl ?_)
          refine r_split (t := 166) rfl (fun c45 => ?_) (fun c45 => ?_)
          ·have h := cnd_t c45 h
           refine r_move (.g rfl rfl) rfl (r_move (.g rfl rfl) rfl ?_)
           obtain ⟨v46, a46, h⟩ := bind_some h
           refine r_call (ds0 := [_, _]) [] (sheaveref36_Has_c N v35 v38 v46 a46) (.g rfl rfl) gd60 rfl ⟨rfl, rfl, trivial⟩ rfl rfl rfl (nodupL_spec rfl) trivial rfl (r_un (.g rfl rfl) rfl (un_not _) rfl (r_pick (.p rfl) rfl rfl rfl (r_assign (.p rfl) rfl (r_end ?_))))
           exact sink (!v46) h (sees_mkL (rn [(2037, 2031), (2038, 2032), (2039, 2033)]) _ _ ⟨rfl, rfl, rfl, rfl, rfl, rfl, rfl, rfl, rfl, trivial⟩ ⟨rfl, rfl, rfl, rfl, rfl, rfl, rfl, rfl, trivial⟩ rfl rfl)
          ·have h := cnd_f c45 h
           refine r_notB rfl rfl (r_notB rfl rfl (r_notB rfl rfl (r_notB rfl rfl (r_pick (.p rfl) rfl rfl rfl (r_assign (.p rfl) rfl (r_end ?_))))))
           exact sink false h (sees_mkL (rn [(2037, 2031), (2038, 2032), (2039, 2033)]) _ _ ⟨rfl, rfl, rfl, rfl, rfl, rfl, rfl, rfl, rfl, trivial⟩ ⟨rfl, rfl, rfl, rfl, rfl, rfl, rfl, rfl, trivial⟩ rfl rfl)
         ·refine W_join h (fun v47 => mk [(3, .e (.one (.ptr 3 0))), (4, .e (.one (.ptr 4 0))), (6, .e (.one (.ptr 6 0))), (8, .e (.one (.ptr 8 0))), (9, .e (.one (.pure (.val (.int .i64 p2.fIndex))))), (11, .e (.one (.ptr 11 0))), (12, .e (.one (.pure (.val (.int .u8 v35))))), (13, .e (.one (.pure (.val (.int .i64 v38))))), (193, .e (.one (.pure (.val (.bool v47)))))] [(3, .box [.pure (.sl (p0.fVersions.map eI64)), .pure (.sl (p0.fNow.map eI64)), .pure (.sl (p0.fTarget.map eI64)), .pure (.sl (p0.fTables.map eApiTable))]), (4, .box [.pure (.sl (p1.fBase.map eI64)), .pure (.sl (p1.fNext.map eI64)), .pure (.sl (p1.fHeld.map eU8))]), (6, .box [.pure (.nil0), .pure (.nil0), .pure (.nil0)]), (8, .box [.own 2040, .own 2041, .own 2042]), (11, .box [.pure (.val (.int .i64 v32.fKind)), .pure (.val (.int .i64 v32.fFrom)), .pure (.val (.int .i64 v32.fTo)), .pure (.val (.bool v32.fAware)), .pure (.sl (v32.fOK.map (eSl eB))), .pure (.sl (v32.fRewrite.map (eSl eB)))]), (2040, .vec 1 (((([] : List Int)) ++ p1.fBase).map eI64)), (2041, .vec 1 (((([] : List Int)) ++ p1.fNext).map eI64)), (2042, .vec 1 (((([] : List Int)) ++ p1.fHeld).map eU8))]) (fun j47 h => ?_) (fun v47 h => ?_)
          ·refine W_region mixed rfl (r_move (.p rfl) rfl (r_move (.p rfl) rfl ?_))
           refine r_split (t := 173) rfl (fun c48 => ?_) (fun c48 => ?_)
           ·have h := cnd_t c48 h
            refine r_fieldAddr (.g rfl rfl) rfl fld75_0 (r_load1 (.g rfl rfl) rfl ag3 rfl rfl (r_bin (.g rfl rfl) rfl rfl (bin_eql _ _ _ _ _ _) rfl (r_pick (.p rfl) rfl rfl rfl (r_move (.p rfl) rfl ?_))))
            refine r_split (t := 178) rfl (fun c49 => ?_) (fun c49 => ?_)
            ·have h := cnd_t c49 h
             refine r_fieldAddr (.g rfl rfl) rfl fld75_5 (r_load1 (.g rfl rfl) rfl ag73 rfl rfl (r_move (.g rfl rfl) rfl ?_))
             obtain ⟨v50, a50, b50, h⟩ := idx_bind h
             refine r_index (.g rfl rfl) rfl rfl slc73 sz76 a50 (map_get b50) rfl (r_loadr1 (.g rfl rfl) rfl ag76 rfl (r_fieldAddr (.g rfl rfl) rfl fld43_0 (r_load1 (.g rfl rfl) rfl ag27 rfl rfl (r_fieldAddr (.g rfl rfl) rfl fld75_1 (r_load1 (.g rfl rfl) rfl ag3 rfl rfl ?_)))))
             obtain ⟨v51, a51, b51, h⟩ := idx_bind h
             refine r_index (.g rfl rfl) rfl rfl slc27 sz3 a51 (map_get b51) rfl (r_loadr1 (.g rfl rfl) rfl ag3 rfl ?_)
             obtain ⟨v52, a52, b52, h⟩ := idx_bind h
             refine r_index (.g rfl rfl) rfl rfl slc76 sz4 a52 (map_get b52) rfl (r_loadr1 (.g rfl rfl) rfl ag4 rfl (r_un (.g rfl rfl) rfl (un_not _) rfl (r_pick (.p rfl) rfl rfl rfl ?_)))
             refine r_endD (by kernel_rfl) ?_
             exact sink (!v52) h (sees_mkL (rn [(2040, 2037), (2041, 2038), (2042, 2039)]) _ _ ⟨rfl, rfl, rfl, rfl, rfl, rfl, rfl, rfl, rfl, trivial⟩ ⟨rfl, rfl, rfl, rfl, rfl, rfl, rfl, rfl, trivial⟩ rfl rfl)
            ·have h := cnd_f c49 h
             refine r_notB rfl rfl (r_notB rfl rfl (r_notB rfl rfl (r_notB rfl rfl (r_notB rfl rfl (r_notB rfl rfl (r_notB rfl rfl (r_notB rfl rfl (r_notB rfl rfl (r_notB rfl rfl (r_notB rfl rfl (r_notB rfl rfl (r_notB rfl rfl (r_notB rfl rfl (r_pick (.p rfl) rfl rfl rfl ?_))))))))))))))
             refine r_endD (by kernel_rfl) ?_
             exact sink false h (sees_mkL (rn [(2040, 2037), (2041, 2038), (2042, 2039)]) _ _ ⟨rfl, rfl, rfl, rfl, rfl, rfl, rfl, rfl, rfl, trivial⟩ ⟨rfl, rfl, rfl, rfl, rfl, rfl, rfl, rfl, trivial⟩ rfl rfl)
           ·have h := cnd_f c48 h
            refine r_notB rfl rfl (r_notB rfl rfl (r_notB rfl rfl (r_pick (.p rfl) rfl rfl rfl (r_move (.p rfl) rfl (r_notB rfl rfl (r_notB rfl rfl (r_notB rfl rfl (r_notB rfl rfl (r_notB rfl rfl (r_notB rfl rfl (r_notB rfl rfl (r_notB rfl rfl (r_notB rfl rfl (r_notB rfl rfl (r_notB rfl rfl (r_notB rfl rfl (r_notB rfl rfl (r_notB rfl rfl (r_pick (.p rfl) rfl rfl rfl ?_)))))))))))))))))))
            refine r_endD (by kernel_rfl) ?_
            exact sink false h (sees_mkL (rn [(2040, 2037), (2041, 2038), (2042, 2039)]) _ _ ⟨rfl, rfl, rfl, rfl, rfl, rfl, rfl, rfl, rfl, trivial⟩ ⟨rfl, rfl, rfl, rfl, rfl, rfl, rfl, rfl, trivial⟩ rfl rfl)
          ·refine W_cond rfl (fun c53 => ?_) (fun c53 => ?_)
           ·have h := cnd_t c53 h
            refine W_seq (W_region mixed rfl (r_build [] (.p rfl) rfl trivial zv43 rfl rfl pl43 rfl (r_store rfl rfl rfl rfl sz43 rfl (leb rfl) rfl (r_assign (.p rfl) rfl (r_end ?_)))))
            obtain rfl := Option.some.inj h
            refine W_sees ((sees_adoptB 6 0 2043 1 _ rfl rfl rfl rfl).trans ((sees_adoptB 6 1 2044 1 _ rfl rfl rfl rfl).trans ((sees_adoptB 6 2 2045 1 _ rfl rfl rfl rfl).trans (sees_mkL (rn [(1000, 2043), (1001, 2044), (1002, 2045)]) [(6, .e (.one (.ptr 6 0))), (7, .e (.one (.pure (.val (.bool false)))))] [(6, .box [.own 1000, .own 1001, .own 1002]), (1000, .vec 1 ((([] : List Int)).map eI64)), (1001, .vec 1 ((([] : List Int)).map eI64)), (1002, .vec 1 ((([] : List Int)).map eU8))] ⟨rfl, rfl, trivial⟩ ⟨rfl, rfl, rfl, rfl, trivial⟩ rfl rfl)))) (W_ret ?_)
            exact ⟨⟨[_, _], ⟨.cellN _ _ _ _ _ _ _ rfl rfl ag43 sz43 rfl rfl (ltb rfl), ⟨.tmp _ _ rfl, trivial⟩⟩, rfl⟩, ⟨rfl, rfl, rfl, trivial⟩⟩
           ·have h := cnd_f c53 h
            refine W_skip (W_region mixed rfl (r_move (.p rfl) rfl (r_bin (.p rfl) rfl rfl (bin_add _ _ _ _ _ _) rfl (r_assign (.p rfl) rfl (r_end ?_)))))
            exact sink (IntKind.wrap .i64 (v38 + 1)) h (sees_mkL (rn [(2031, 2040), (2032, 2041), (2033, 2042)]) _ _ ⟨rfl, rfl, rfl, rfl, rfl, rfl, rfl, rfl, trivial⟩ ⟨rfl, rfl, rfl, rfl, rfl, rfl, rfl, rfl, trivial⟩ rfl rfl)
        ·have h := cnd_f c41 h
         refine W_exit ?_
         exact sink () h (sees_mkL (rn [(2034, 2031), (2035, 2032), (2036, 2033)]) _ _ ⟨rfl, rfl, rfl, rfl, trivial⟩ ⟨rfl, rfl, rfl, rfl, rfl, trivial⟩ rfl rfl)
       ·refine W_sees hs (W_region mixed rfl (r_fieldAddr (.p rfl) rfl fld43_2 (r_load1 (.p rfl) rfl ag41 rfl rfl (r_move (.p rfl) rfl (r_move (.p rfl) rfl ?_)))))
        obtain ⟨v54, a54, b54, h⟩ := idx_bind h
        refine r_indexo (.p rfl) rfl rfl rfl slc41 sz87 a54 (map_get b54) (r_storee rfl rfl rfl rfl (map_get b54) rfl sz87 rfl (leb rfl) (map_setv eU8 ((([] : List Int)) ++ p1.fHeld) _ v35) (r_end ?_))
        exact sink ((([] : List Int)) ++ p1.fBase, (([] : List Int)) ++ p1.fNext, ((([] : List Int)) ++ p1.fHeld).set (p2.fIndex).toNat v35) h (sees_mkL (rn [(2001, 2034), (2002, 2035), (2003, 2036)]) _ _ ⟨rfl, rfl, trivial⟩ ⟨rfl, rfl, rfl, rfl, rfl, trivial⟩ rfl rfl)
    ·have h := cnd_f c31 h
     refine W_seq (W_seq (W_region mixed rfl (r_fieldAddr (.p rfl) rfl fld43_1 (r_load1 (.p rfl) rfl ag27 rfl rfl (r_move (.p rfl) rfl ?_)))))
     obtain ⟨v55, a55, b55, h⟩ := idx_bind h
     refine r_index (.p rfl) rfl rfl slc27 sz3 a55 (map_get b55) rfl (r_loadr1 (.p rfl) rfl ag3 rfl (r_bin (.p rfl) rfl rfl (bin_lss _ _ _ _ _ _) rfl (r_end ?_)))
     refine W_cond rfl (fun c56 => ?_) (fun c56 => ?_)
     ·have h := cnd_t c56 h
      refine W_seq (W_region mixed rfl (r_build [] (.p rfl) rfl trivial zv43 rfl rfl pl43 rfl (r_store rfl rfl rfl rfl sz43 rfl (leb rfl) rfl (r_assign (.p rfl) rfl (r_end ?_)))))
      obtain rfl := Option.some.inj h
      refine W_sees ((sees_adoptB 6 0 2046 1 _ rfl rfl rfl rfl).trans ((sees_adoptB 6 1 2047 1 _ rfl rfl rfl rfl).trans ((sees_adoptB 6 2 2048 1 _ rfl rfl rfl rfl).trans (sees_mkL (rn [(1000, 2046), (1001, 2047), (1002, 2048)]) [(6, .e (.one (.ptr 6 0))), (7, .e (.one (.pure (.val (.bool false)))))] [(6, .box [.own 1000, .own 1001, .own 1002]), (1000, .vec 1 ((([] : List Int)).map eI64)), (1001, .vec 1 ((([] : List Int)).map eI64)), (1002, .vec 1 ((([] : List Int)).map eU8))] ⟨rfl, rfl, trivial⟩ ⟨rfl, rfl, rfl, rfl, trivial⟩ rfl rfl)))) (W_ret ?_)
      exact ⟨⟨[_, _], ⟨.cellN _ _ _ _ _ _ _ rfl rfl ag43 sz43 rfl rfl (ltb rfl), ⟨.tmp _ _ rfl, trivial⟩⟩, rfl⟩, ⟨rfl, rfl, rfl, trivial⟩⟩
     ·have h := cnd_f c56 h
      refine W_skip (W_region mixed rfl (r_fieldAddr (.p rfl) rfl fld43_1 (r_load1 (.p rfl) rfl ag27 rfl rfl (r_move (.p rfl) rfl ?_))))
      obtain ⟨v57, a57, b57, h⟩ := idx_bind h
      refine r_indexo (.p rfl) rfl rfl rfl slc27 sz3 a57 (map_get b57) (r_storee rfl rfl rfl rfl (map_get b57) rfl sz3 rfl (leb rfl) (map_setv eI64 ((([] : List Int)) ++ p1.fNext) _ ((-1))) (r_end ?_))
      exact sink ((([] : List Int)) ++ p1.fBase, ((([] : List Int)) ++ p1.fNext).set (p2.fIndex).toNat ((-1)), (([] : List Int)) ++ p1.fHeld) h (sees_mkL (rn [(2001, 18), (2002, 22), (2003, 26)]) _ _ ⟨rfl, rfl, trivial⟩ ⟨rfl, rfl, rfl, rfl, rfl, trivial⟩ rfl rfl)
 ·refine W_seq (W_region mixed rfl (r_loadN (.p rfl) rfl ag43 sz43 rfl rfl rfl (r_store rfl rfl rfl rfl sz43 rfl (leb rfl) rfl (r_assign (.p rfl) rfl (r_end ?_)))))
  obtain rfl := Option.some.inj h
  refine W_sees (sees_mkL (rn [(1000, 2001), (1001, 2002), (1002, 2003)]) [(6, .e (.one (.ptr 6 0))), (7, .e (.one (.pure (.val (.bool true)))))] [(6, .box [.own 1000, .own 1001, .own 1002]), (1000, .vec 1 (v4.1.map eI64)), (1001, .vec 1 (v4.2.1.map eI64)), (1002, .vec 1 (v4.2.2.map eU8))] ⟨rfl, rfl, trivial⟩ ⟨rfl, rfl, rfl, rfl, trivial⟩ rfl rfl) (W_ret ?_)
  exact ⟨⟨[_, _], ⟨.cellN _ _ _ _ _ _ _ rfl rfl ag43 sz43 rfl rfl (ltb rfl), ⟨.tmp _ _ rfl, trivial⟩⟩, rfl⟩, ⟨rfl, rfl, rfl, trivial⟩⟩
set_option maxRecDepth 10000 in
theorem sheaveref37_Apply_c (N : Nat) (p0 : ApiProblem) (p1 : ApiMix) (p2 : ApiStep) (r : ApiMix × Int) (h : Sh.sheaveref37_Apply N p0 p1 p2 = some r) : Contract Try.prog 41 [.e (.agg [.pure (.sl (p0.fVersions.map eI64)), .pure (.sl (p0.fNow.map eI64)), .pure (.sl (p0.fTarget.map eI64)), .pure (.sl (p0.fTables.map eApiTable))]), .e (.agg [.pure (.sl (p1.fBase.map eI64)), .pure (.sl (p1.fNext.map eI64)), .pure (.sl (p1.fHeld.map eU8))]), .e (.agg [.pure (.val (.int .i64 p2.fKind)), .pure (.val (.int .i64 p2.fIndex)), .pure (.val (.int .i64 p2.fVersion))])] [(1, r.1.fBase.map eI64), (1, r.1.fNext.map eI64), (1, r.1.fHeld.map eU8)] (.tup [.agg [.own 0, .own 1, .own 2], .one (.pure (.val (.int .i64 r.2)))]) := by
 unfold Sh.sheaveref37_Apply at h
 refine contract_of_W (n := 73) (rs := [.cell 6 43, .tmp 7]) Try.func41 rfl rfl rfl (leb rfl) (leb rfl) rfl fun w0 S0 => ?_
 refine W_seq (W_region mixed rfl (r_box (.p rfl) rfl rfl (r_box (.p rfl) rfl rfl (r_box (.p rfl) rfl rfl (r_alloc (.p rfl) zv43 rfl rfl rfl (r_assign (.p rfl) rfl (r_end (W_seq (W_seq (W_region mixed rfl (r_loadN (.p rfl) rfl ag30 sz30 rfl rfl rfl (r_loadN (.p rfl) rfl ag43 sz43 rfl rfl rfl ?_))))))))))))
 obtain ⟨v1, a1, h⟩ := bind_some h
 refine r_call (ds0 := [_, _]) [] (sheaveref36_Valid_c N p0 p1 v1 a1) (.p rfl) gd24 rfl ⟨rfl, rfl, trivial⟩ rfl rfl rfl (nodupL_spec rfl) trivial rfl (r_assign (.p rfl) rfl (r_end (W_seq (W_region mixed rfl (r_move (.p rfl) rfl (r_bin (.p rfl) rfl rfl (bin_neq _ _ _ _ _ _) rfl (r_end ?_)))))))
 refine W_cond rfl (fun c2 => ?_) (fun c2 => ?_)
 ·have h := cnd_t c2 h
  refine W_seq (W_region mixed rfl (r_build [] (.p rfl) rfl trivial zv43 rfl rfl pl43 rfl (r_move (.p rfl) rfl (r_store rfl rfl rfl rfl sz43 rfl (leb rfl) rfl (r_assign (.p rfl) rfl (r_end ?_))))))
  obtain rfl := Option.some.inj h
  refine W_sees ((sees_adoptB 6 0 2001 1 _ rfl rfl rfl rfl).trans ((sees_adoptB 6 1 2002 1 _ rfl rfl rfl rfl).trans ((sees_adoptB 6 2 2003 1 _ rfl rfl rfl rfl).trans (sees_mkL (rn [(1000, 2001), (1001, 2002), (1002, 2003)]) [(6, .e (.one (.ptr 6 0))), (7, .e (.one (.pure (.val (.int .i64 v1)))))] [(6, .box [.own 1000, .own 1001, .own 1002]), (1000, .vec 1 ((([] : List Int)).map eI64)), (1001, .vec 1 ((([] : List Int)).map eI64)), (1002, .vec 1 ((([] : List Int)).map eU8))] ⟨rfl, rfl, trivial⟩ ⟨rfl, rfl, rfl, rfl, trivial⟩ rfl rfl)))) (W_ret ?_)
  exact ⟨⟨[_, _], ⟨.cellN _ _ _ _ _ _ _ rfl rfl ag43 sz43 rfl rfl (ltb rfl), ⟨.tmp _ _ rfl, trivial⟩⟩, rfl⟩, ⟨rfl, rfl, rfl, trivial⟩⟩
 ·have h := cnd_f c2 h
  refine W_skip (W_seq (W_seq (W_region mixed rfl (r_loadN (.p rfl) rfl ag63 sz63 rfl rfl rfl ?_))))
  obtain ⟨v3, a3, h⟩ := bind_some h
  refine r_call (ds0 := [_]) [] (sheaveref37_Valid_c N p2 v3 a3) (.p rfl) gd80 rfl ⟨rfl, trivial⟩ rfl rfl rfl (nodupL_spec rfl) trivial rfl (r_un (.p rfl) rfl (un_not _) rfl (r_end ?_))
  refine W_cond rfl (fun c4 => ?_) (fun c4 => ?_)
  ·have h := cnd_t c4 h
   refine W_seq (W_region mixed rfl (r_build [] (.p rfl) rfl trivial zv43 rfl rfl pl43 rfl (r_store rfl rfl rfl rfl sz43 rfl (leb rfl) rfl (r_assign (.p rfl) rfl (r_end ?_)))))
   obtain rfl := Option.some.inj h
   refine W_sees ((sees_adoptB 6 0 2004 1 _ rfl rfl rfl rfl).trans ((sees_adoptB 6 1 2005 1 _ rfl rfl rfl rfl).trans ((sees_adoptB 6 2 2006 1 _ rfl rfl rfl rfl).trans (sees_mkL (rn [(1000, 2004), (1001, 2005), (1002, 2006)]) [(6, .e (.one (.ptr 6 0))), (7, .e (.one (.pure (.val (.int .i64 1)))))] [(6, .box [.own 1000, .own 1001, .own 1002]), (1000, .vec 1 ((([] : List Int)).map eI64)), (1001, .vec 1 ((([] : List Int)).map eI64)), (1002, .vec 1 ((([] : List Int)).map eU8))] ⟨rfl, rfl, trivial⟩ ⟨rfl, rfl, rfl, rfl, trivial⟩ rfl rfl)))) (W_ret ?_)
   exact ⟨⟨[_, _], ⟨.cellN _ _ _ _ _ _ _ rfl rfl ag43 sz43 rfl rfl (ltb rfl), ⟨.tmp _ _ rfl, trivial⟩⟩, rfl⟩, ⟨rfl, rfl, rfl, trivial⟩⟩
  ·have h := cnd_f c4 h
   refine W_skip (W_seq ?_)
   refine W_join h (fun v5 => mk [(3, .e (.one (.ptr 3 0))), (4, .e (.one (.ptr 4 0))), (5, .e (.one (.ptr 5 0))), (6, .e (.one (.ptr 6 0))), (45, .e (.one (.pure (.val (.bool v5)))))] [(3, .box [.pure (.sl (p0.fVersions.map eI64)), .pure (.sl (p0.fNow.map eI64)), .pure (.sl (p0.fTarget.map eI64)), .pure (.sl (p0.fTables.map eApiTable))]), (4, .box [.pure (.sl (p1.fBase.map eI64)), .pure (.sl (p1.fNext.map eI64)), .pure (.sl (p1.fHeld.map eU8))]), (5, .box [.pure (.val (.int .i64 p2.fKind)), .pure (.val (.int .i64 p2.fIndex)), .pure (.val (.int .i64 p2.fVersion))]), (6, .box [.pure (.nil0), .pure (.nil0), .pure (.nil0)])]) (fun j5 h => ?_) (fun v5 h => ?_)
   ·refine W_region mixed rfl (r_fieldAddr (.p rfl) rfl fld63_0 (r_load1 (.p rfl) rfl ag3 rfl rfl (r_bin (.p rfl) rfl rfl (bin_eql _ _ _ _ _ _) rfl (r_move (.p rfl) rfl ?_))))
    refine r_split (t := 25) rfl (fun c6 => ?_) (fun c6 => ?_)
    ·have h := cnd_t c6 h
     refine r_fieldAddr (.g rfl rfl) rfl fld63_1 (r_load1 (.g rfl rfl) rfl ag3 rfl rfl (r_fieldAddr (.g rfl rfl) rfl fld30_3 (r_load1 (.g rfl rfl) rfl ag28 rfl rfl (r_len (.g rfl rfl) rfl (.sl _) trivial (List.length_map _) slc28 (r_bin (.g rfl rfl) rfl rfl (bin_geq _ _ _ _ _ _) rfl (r_pick (.p rfl) rfl rfl rfl (r_move (.p rfl) rfl ?_)))))))
     refine r_split (t := 33) rfl (fun c7 => ?_) (fun c7 => ?_)
     ·have h := cnd_t c7 h
      refine r_notB rfl rfl (r_notB rfl rfl (r_notB rfl rfl (r_notB rfl rfl (r_notU rfl rfl (r_notU rfl rfl (r_notU rfl rfl (r_notU rfl rfl (r_notU rfl rfl (r_notU rfl rfl (r_notB rfl rfl (r_pick (.p rfl) rfl rfl rfl (r_end ?_))))))))))))
      exact sink true h (sees_mkL (rn []) _ _ ⟨rfl, rfl, rfl, rfl, rfl, trivial⟩ ⟨rfl, rfl, rfl, rfl, trivial⟩ rfl rfl)
     ·have h := cnd_f c7 h
      refine r_fieldAddr (.g rfl rfl) rfl fld63_0 (r_load1 (.g rfl rfl) rfl ag3 rfl rfl (r_bin (.g rfl rfl) rfl rfl (bin_neq _ _ _ _ _ _) rfl (r_move (.g rfl rfl) rfl ?_)))
      refine r_split (t := 37) rfl (fun c8 => ?_) (fun c8 => ?_)
      ·have h := cnd_t c8 h
       refine r_fieldAddr (.g rfl rfl) rfl fld63_1 (r_load1 (.g rfl rfl) rfl ag3 rfl rfl (r_fieldAddr (.g rfl rfl) rfl fld30_0 (r_load1 (.g rfl rfl) rfl ag27 rfl rfl (r_len (.g rfl rfl) rfl (.sl _) trivial (List.length_map _) slc27 (r_bin (.g rfl rfl) rfl rfl (bin_geq _ _ _ _ _ _) rfl (r_pick (.g rfl rfl) rfl rfl rfl (r_pick (.p rfl) rfl rfl rfl (r_end ?_))))))))
       exact sink (decide ((p0.fVersions.length : Int) ≤ p2.fIndex)) h (sees_mkL (rn []) _ _ ⟨rfl, rfl, rfl, rfl, rfl, trivial⟩ ⟨rfl, rfl, rfl, rfl, trivial⟩ rfl rfl)
      ·have h := cnd_f c8 h
       refine r_notB rfl rfl (r_notB rfl rfl (r_notB rfl rfl (r_notB rfl rfl (r_notB rfl rfl (r_notB rfl rfl (r_pick (.g rfl rfl) rfl rfl rfl (r_pick (.p rfl) rfl rfl rfl (r_end ?_))))))))
       exact sink false h (sees_mkL (rn []) _ _ ⟨rfl, rfl, rfl, rfl, rfl, trivial⟩ ⟨rfl, rfl, rfl, rfl, trivial⟩ rfl rfl)
    ·have h := cnd_f c6 h
     refine r_notB rfl rfl (r_notB rfl rfl (r_notB rfl rfl (r_notB rfl rfl (r_notB rfl rfl (r_notB rfl rfl (r_pick (.p rfl) rfl rfl rfl (r_move (.p rfl) rfl (r_fieldAddr (.g rfl rfl) rfl fld63_0 (r_load1 (.g rfl rfl) rfl ag3 rfl rfl (r_bin (.g rfl rfl) rfl rfl (bin_neq _ _ _ _ _ _) rfl (r_move (.g rfl rfl) rfl ?_)))))))))))
     refine r_split (t := 37) rfl (fun c9 => ?_) (fun c9 => ?_)
     ·have h := cnd_t c9 h
      refine r_fieldAddr (.g rfl rfl) rfl fld63_1 (r_load1 (.g rfl rfl) rfl ag3 rfl rfl (r_fieldAddr (.g rfl rfl) rfl fld30_0 (r_load1 (.g rfl rfl) rfl ag27 rfl rfl (r_len (.g rfl rfl) rfl (.sl _) trivial (List.length_map _) slc27 (r_bin (.g rfl rfl) rfl rfl (bin_geq _ _ _ _ _ _) rfl (r_pick (.g rfl rfl) rfl rfl rfl (r_pick (.p rfl) rfl rfl rfl (r_end ?_))))))))
      exact sink (decide ((p0.fVersions.length : Int) ≤ p2.fIndex)) h (sees_mkL (rn []) _ _ ⟨rfl, rfl, rfl, rfl, rfl, trivial⟩ ⟨rfl, rfl, rfl, rfl, trivial⟩ rfl rfl)
     ·have h := cnd_f c9 h
      refine r_notB rfl rfl (r_notB rfl rfl (r_notB rfl rfl (r_notB rfl rfl (r_notB rfl rfl (r_notB rfl rfl (r_pick (.g rfl rfl) rfl rfl rfl (r_pick (.p rfl) rfl rfl rfl (r_end ?_))))))))
      exact sink false h (sees_mkL (rn []) _ _ ⟨rfl, rfl, rfl, rfl, rfl, trivial⟩ ⟨rfl, rfl, rfl, rfl, trivial⟩ rfl rfl)
   ·refine W_cond rfl (fun c10 => ?_) (fun c10 => ?_)
    ·have h := cnd_t c10 h
     refine W_seq (W_region mixed rfl (r_build [] (.p rfl) rfl trivial zv43 rfl rfl pl43 rfl (r_store rfl rfl rfl rfl sz43 rfl (leb rfl) rfl (r_assign (.p rfl) rfl (r_end ?_)))))
     obtain rfl := Option.some.inj h
     refine W_sees ((sees_adoptB 6 0 2007 1 _ rfl rfl rfl rfl).trans ((sees_adoptB 6 1 2008 1 _ rfl rfl rfl rfl).trans ((sees_adoptB 6 2 2009 1 _ rfl rfl rfl rfl).trans (sees_mkL (rn [(1000, 2007), (1001, 2008), (1002, 2009)]) [(6, .e (.one (.ptr 6 0))), (7, .e (.one (.pure (.val (.int .i64 4)))))] [(6, .box [.own 1000, .own 1001, .own 1002]), (1000, .vec 1 ((([] : List Int)).map eI64)), (1001, .vec 1 ((([] : List Int)).map eI64)), (1002, .vec 1 ((([] : List Int)).map eU8))] ⟨rfl, rfl, trivial⟩ ⟨rfl, rfl, rfl, rfl, trivial⟩ rfl rfl)))) (W_ret ?_)
     exact ⟨⟨[_, _], ⟨.cellN _ _ _ _ _ _ _ rfl rfl ag43 sz43 rfl rfl (ltb rfl), ⟨.tmp _ _ rfl, trivial⟩⟩, rfl⟩, ⟨rfl, rfl, rfl, trivial⟩⟩
    ·have h := cnd_f c10 h
     refine W_skip (W_seq ?_)
     refine W_join h (fun v11 => mk [(3, .e (.one (.ptr 3 0))), (4, .e (.one (.ptr 4 0))), (5, .e (.one (.ptr 5 0))), (6, .e (.one (.ptr 6 0))), (60, .e (.one (.pure (.val (.bool v11)))))] [(3, .box [.pure (.sl (p0.fVersions.map eI64)), .pure (.sl (p0.fNow.map eI64)), .pure (.sl (p0.fTarget.map eI64)), .pure (.sl (p0.fTables.map eApiTable))]), (4, .box [.pure (.sl (p1.fBase.map eI64)), .pure (.sl (p1.fNext.map eI64)), .pure (.sl (p1.fHeld.map eU8))]), (5, .box [.pure (.val (.int .i64 p2.fKind)), .pure (.val (.int .i64 p2.fIndex)), .pure (.val (.int .i64 p2.fVersion))]), (6, .box [.pure (.nil0), .pure (.nil0), .pure (.nil0)])]) (fun j11 h => ?_) (fun v11 h => ?_)
     ·refine W_region mixed rfl (r_fieldAddr (.p rfl) rfl fld63_0 (r_load1 (.p rfl) rfl ag3 rfl rfl (r_bin (.p rfl) rfl rfl (bin_eql _ _ _ _ _ _) rfl (r_move (.p rfl) rfl ?_))))
      refine r_split (t := 50) rfl (fun c12 => ?_) (fun c12 => ?_)
      ·have h := cnd_t c12 h
       refine r_fieldAddr (.g rfl rfl) rfl fld63_2 (r_load1 (.g rfl rfl) rfl ag3 rfl rfl (r_fieldAddr (.g rfl rfl) rfl fld30_0 (r_load1 (.g rfl rfl) rfl ag27 rfl rfl (r_fieldAddr (.g rfl rfl) rfl fld63_1 (r_load1 (.g rfl rfl) rfl ag3 rfl rfl ?_)))))
       obtain ⟨v13, a13, b13, h⟩ := idx_bind h
       refine r_index (.g rfl rfl) rfl rfl slc27 sz3 a13 (map_get b13) rfl (r_loadr1 (.g rfl rfl) rfl ag3 rfl (r_bin (.g rfl rfl) rfl rfl (bin_geq _ _ _ _ _ _) rfl (r_pick (.p rfl) rfl rfl rfl ?_)))
       refine r_endD (by kernel_rfl) ?_
       exact sink (decide (v13 ≤ p2.fVersion)) h (sees_mkL (rn []) _ _ ⟨rfl, rfl, rfl, rfl, rfl, trivial⟩ ⟨rfl, rfl, rfl, rfl, trivial⟩ rfl rfl)
      ·have h := cnd_f c12 h
       refine r_notB rfl rfl (r_notB rfl rfl (r_notB rfl rfl (r_notB rfl rfl (r_notB rfl rfl (r_notB rfl rfl (r_notB rfl rfl (r_notB rfl rfl (r_notB rfl rfl (r_pick (.p rfl) rfl rfl rfl ?_)))))))))
       refine r_endD (by kernel_rfl) ?_
       exact sink false h (sees_mkL (rn []) _ _ ⟨rfl, rfl, rfl, rfl, rfl, trivial⟩ ⟨rfl, rfl, rfl, rfl, trivial⟩ rfl rfl)
     ·refine W_cond rfl (fun c14 => ?_) (fun c14 => ?_)
      ·have h := cnd_t c14 h
       refine W_seq (W_region mixed rfl (r_build [] (.p rfl) rfl trivial zv43 rfl rfl pl43 rfl (r_store rfl rfl rfl rfl sz43 rfl (leb rfl) rfl (r_assign (.p rfl) rfl (r_end ?_)))))
       obtain rfl := Option.some.inj h
       refine W_sees ((sees_adoptB 6 0 2010 1 _ rfl rfl rfl rfl).trans ((sees_adoptB 6 1 2011 1 _ rfl rfl rfl rfl).trans ((sees_adoptB 6 2 2012 1 _ rfl rfl rfl rfl).trans (sees_mkL (rn [(1000, 2010), (1001, 2011), (1002, 2012)]) [(6, .e (.one (.ptr 6 0))), (7, .e (.one (.pure (.val (.int .i64 4)))))] [(6, .box [.own 1000, .own 1001, .own 1002]), (1000, .vec 1 ((([] : List Int)).map eI64)), (1001, .vec 1 ((([] : List Int)).map eI64)), (1002, .vec 1 ((([] : List Int)).map eU8))] ⟨rfl, rfl, trivial⟩ ⟨rfl, rfl, rfl, rfl, trivial⟩ rfl rfl)))) (W_ret ?_)
       exact ⟨⟨[_, _], ⟨.cellN _ _ _ _ _ _ _ rfl rfl ag43 sz43 rfl rfl (ltb rfl), ⟨.tmp _ _ rfl, trivial⟩⟩, rfl⟩, ⟨rfl, rfl, rfl, trivial⟩⟩
      ·have h := cnd_f c14 h
       refine W_skip (W_seq (W_region mixed rfl (r_loadN (.p rfl) rfl ag30 sz30 rfl rfl rfl (r_loadN (.p rfl) rfl ag43 sz43 rfl rfl rfl (r_loadN (.p rfl) rfl ag63 sz63 rfl rfl rfl ?_)))))
       obtain ⟨v15, a15, h⟩ := bind_some h
       refine r_call (ds0 := [_, _, _]) [2013, 2014, 2015] (sheaveref37_After_c N p0 p1 p2 v15 a15) (.p rfl) gd30 rfl ⟨rfl, rfl, rfl, trivial⟩ rfl rfl rfl (nodupL_spec rfl) ⟨rfl, rfl, rfl, trivial⟩ rfl (r_move (.p rfl) rfl (r_extract (.p rfl) rfl rfl (r_extract (.p rfl) rfl rfl (r_alloc (.p rfl) zv43 rfl rfl rfl (r_store rfl rfl rfl rfl sz43 rfl (leb rfl) rfl (r_assign (.p rfl) rfl (r_end (W_seq (W_seq (W_region mixed rfl (r_move (.p rfl) rfl (r_un (.p rfl) rfl (un_not _) rfl (r_end ?_)))))))))))))
       refine W_cond rfl (fun c16 => ?_) (fun c16 => ?_)
       ·have h := cnd_t c16 h
        refine W_seq (W_region mixed rfl (r_build [] (.p rfl) rfl trivial zv43 rfl rfl pl43 rfl (r_store rfl rfl rfl rfl sz43 rfl (leb rfl) rfl (r_assign (.p rfl) rfl (r_end ?_)))))
        obtain rfl := Option.some.inj h
        refine W_sees ((sees_adoptB 6 0 2016 1 _ rfl rfl rfl rfl).trans ((sees_adoptB 6 1 2017 1 _ rfl rfl rfl rfl).trans ((sees_adoptB 6 2 2018 1 _ rfl rfl rfl rfl).trans (sees_mkL (rn [(1000, 2016), (1001, 2017), (1002, 2018)]) [(6, .e (.one (.ptr 6 0))), (7, .e (.one (.pure (.val (.int .i64 11)))))] [(6, .box [.own 1000, .own 1001, .own 1002]), (1000, .vec 1 ((([] : List Int)).map eI64)), (1001, .vec 1 ((([] : List Int)).map eI64)), (1002, .vec 1 ((([] : List Int)).map eU8))] ⟨rfl, rfl, trivial⟩ ⟨rfl, rfl, rfl, rfl, trivial⟩ rfl rfl)))) (W_ret ?_)
        exact ⟨⟨[_, _], ⟨.cellN _ _ _ _ _ _ _ rfl rfl ag43 sz43 rfl rfl (ltb rfl), ⟨.tmp _ _ rfl, trivial⟩⟩, rfl⟩, ⟨rfl, rfl, rfl, trivial⟩⟩
       ·have h := cnd_f c16 h
        refine W_skip (W_seq (W_region mixed rfl (r_loadN (.p rfl) rfl ag43 sz43 rfl rfl rfl (r_store rfl rfl rfl rfl sz43 rfl (leb rfl) rfl (r_assign (.p rfl) rfl (r_end ?_))))))
        obtain rfl := Option.some.inj h
        refine W_sees (sees_mkL (rn [(1000, 2013), (1001, 2014), (1002, 2015)]) [(6, .e (.one (.ptr 6 0))), (7, .e (.one (.pure (.val (.int .i64 0)))))] [(6, .box [.own 1000, .own 1001, .own 1002]), (1000, .vec 1 (v15.1.fBase.map eI64)), (1001, .vec 1 (v15.1.fNext.map eI64)), (1002, .vec 1 (v15.1.fHeld.map eU8))] ⟨rfl, rfl, trivial⟩ ⟨rfl, rfl, rfl, rfl, trivial⟩ rfl rfl) (W_ret ?_)
        exact ⟨⟨[_, _], ⟨.cellN _ _ _ _ _ _ _ rfl rfl ag43 sz43 rfl rfl (ltb rfl), ⟨.tmp _ _ rfl, trivial⟩⟩, rfl⟩, ⟨rfl, rfl, rfl, trivial⟩⟩
set_option maxRecDepth 10000 in
theorem sheaveref36_copied_c (N : Nat) (p0 : ApiMix) (r : ApiMix) (h : Sh.sheaveref36_copied N p0 = some r) : Contract Try.prog 85 [.e (.agg [.pure (.sl (p0.fBase.map eI64)), .pure (.sl (p0.fNext.map eI64)), .pure (.sl (p0.fHeld.map eU8))])] [(1, r.fBase.map eI64), (1, r.fNext.map eI64), (1, r.fHeld.map eU8)] (.e (.agg [.own 0, .own 1, .own 2])) := by
 unfold Sh.sheaveref36_copied at h
 refine contract_of_W (n := 16) (rs := [.cell 2 43]) Try.func85 rfl rfl rfl (leb rfl) (leb rfl) rfl fun w0 S0 => ?_
 refine W_seq (W_region mixed rfl (r_box (.p rfl) rfl rfl (r_alloc (.p rfl) zv43 rfl rfl rfl (r_end (W_seq (W_region mixed rfl (r_buildSlice [] (.p rfl) rfl trivial rfl slc27 sz3 zv3 rfl rfl (leb rfl) rfl rfl (r_fieldAddr (.p rfl) rfl fld43_0 (r_load1 (.p rfl) rfl ag27 rfl rfl ?_)))))))))
 obtain ⟨c1, h⟩ := chk_bind h
 refine r_append (.p rfl) rfl (.own _ _ _) ⟨rfl, trivial⟩ rfl (.sl _ _ (map_rows (f := eI64) (n := 1) (fun _ => rfl) _)) trivial rfl slc27 slc27 sz3 byt3 (leb rfl) zv3 rfl (len_lim (f := eI64) (g := eI64) (xs := (([] : List Int))) (ys := p0.fBase) c1) (map_app eI64 (([] : List Int)) p0.fBase) rfl ?_
 refine r_buildSlice [] (.p rfl) rfl trivial rfl slc27 sz3 zv3 rfl rfl (leb rfl) rfl rfl (r_fieldAddr (.p rfl) rfl fld43_1 (r_load1 (.p rfl) rfl ag27 rfl rfl ?_))
 obtain ⟨c2, h⟩ := chk_bind h
 refine r_append (.p rfl) rfl (.own _ _ _) ⟨rfl, trivial⟩ rfl (.sl _ _ (map_rows (f := eI64) (n := 1) (fun _ => rfl) _)) trivial rfl slc27 slc27 sz3 byt3 (leb rfl) zv3 rfl (len_lim (f := eI64) (g := eI64) (xs := (([] : List Int))) (ys := p0.fNext) c2) (map_app eI64 (([] : List Int)) p0.fNext) rfl ?_
 refine r_buildSlice [] (.p rfl) rfl trivial rfl slc41 sz87 zv87 rfl rfl (leb rfl) rfl rfl (r_fieldAddr (.p rfl) rfl fld43_2 (r_load1 (.p rfl) rfl ag41 rfl rfl ?_))
 obtain ⟨c3, h⟩ := chk_bind h
 refine r_append (.p rfl) rfl (.own _ _ _) ⟨rfl, trivial⟩ rfl (.sl _ _ (map_rows (f := eU8) (n := 1) (fun _ => rfl) _)) trivial rfl slc41 slc41 sz87 byt87 (leb rfl) zv87 rfl (len_lim (f := eU8) (g := eU8) (xs := (([] : List Int))) (ys := p0.fHeld) c3) (map_app eU8 (([] : List Int)) p0.fHeld) rfl ?_
 refine r_build [(0, .tmp 6, _), (1, .tmp 10, _), (2, .tmp 14, _)] (.p rfl) rfl ⟨rfl, rfl, rfl, trivial⟩ zv43 rfl rfl pl43 rfl (r_store rfl rfl rfl rfl sz43 rfl (leb rfl) rfl ?_)
 refine r_endD (by kernel_rfl) ?_
 obtain rfl := Option.some.inj h
 refine W_sees (sees_mkL (rn [(1000, 6), (1001, 10), (1002, 14)]) [(2, .e (.one (.ptr 2 0)))] [(2, .box [.own 1000, .own 1001, .own 1002]), (1000, .vec 1 (((([] : List Int)) ++ p0.fBase).map eI64)), (1001, .vec 1 (((([] : List Int)) ++ p0.fNext).map eI64)), (1002, .vec 1 (((([] : List Int)) ++ p0.fHeld).map eU8))] ⟨rfl, trivial⟩ ⟨rfl, rfl, rfl, rfl, trivial⟩ rfl rfl) (W_ret ?_)
 exact ⟨⟨[_], ⟨.cellN _ _ _ _ _ _ _ rfl rfl ag43 sz43 rfl rfl (ltb rfl), trivial⟩, rfl⟩, ⟨rfl, rfl, rfl, trivial⟩⟩
set_option maxRecDepth 10000 in
theorem sheaveref36_All_c (N : Nat) (p0 : ApiMix) (r : (List ApiMix)) (h : Sh.sheaveref36_All N p0 = some r) : Contract Try.prog 50 [.e (.agg [.pure (.sl (p0.fBase.map eI64)), .pure (.sl (p0.fNext.map eI64)), .pure (.sl (p0.fHeld.map eU8))])] [(3, r.map eApiMix)] (.e (.one (.own 0))) := by
 unfold Sh.sheaveref36_All at h
 refine contract_of_W (n := 62) (rs := [.tmp 2]) Try.func50 rfl rfl rfl (leb rfl) (leb rfl) rfl fun w0 S0 => ?_
 refine W_seq (W_region mixed rfl (r_box (.p rfl) rfl rfl (r_assign (.p rfl) rfl (r_end (W_seq (W_region mixed rfl (r_assign (.p rfl) rfl (r_end (W_seq (W_seq (W_region mixed rfl (r_assign (.p rfl) rfl (r_end ?_)))))))))))))
 refine W_whileE (L := Sh.sheaveref36_All_L1 N p0) h (fun v1 => mk [(1, .e (.one (.ptr 1 0))), (3, .e (.one (.pure (.val (.int .i64 v1.1))))), (4, .e (.one (.pure (.val (.int .i64 v1.2)))))] [(1, .box [.pure (.sl (p0.fBase.map eI64)), .pure (.sl (p0.fNext.map eI64)), .pure (.sl (p0.fHeld.map eU8))])]) (fun v2 => mk [(1, .e (.one (.ptr 1 0))), (3, .e (.one (.pure (.val (.int .i64 v2)))))] [(1, .box [.pure (.sl (p0.fBase.map eI64)), .pure (.sl (p0.fNext.map eI64)), .pure (.sl (p0.fHeld.map eU8))])]) (fun _ _ => rfl) (sees_mkL (rn []) _ _ ⟨rfl, rfl, rfl, trivial⟩ ⟨rfl, trivial⟩ rfl rfl) (fun j1 n1 v1 h => ?_) (fun v2 s h hs => ?_)
 ·unfold Sh.sheaveref36_All_L1 at h
  refine W_seq (W_seq (W_region mixed rfl (r_move (.p rfl) rfl (r_fieldAddr (.p rfl) rfl fld43_1 (r_load1 (.p rfl) rfl ag27 rfl rfl (r_len (.p rfl) rfl (.sl _) trivial (List.length_map _) slc27 (r_bin (.p rfl) rfl rfl (bin_lss _ _ _ _ _ _) rfl (r_end ?_))))))))
  refine W_cond rfl (fun c3 => ?_) (fun c3 => ?_)
  ·have h := cnd_t c3 h
   refine W_skip ?_
   refine W_join h (fun v4 => mk [(1, .e (.one (.ptr 1 0))), (3, .e (.one (.pure (.val (.int .i64 v4))))), (4, .e (.one (.pure (.val (.int .i64 v1.2)))))] [(1, .box [.pure (.sl (p0.fBase.map eI64)), .pure (.sl (p0.fNext.map eI64)), .pure (.sl (p0.fHeld.map eU8))])]) (fun j4 h => ?_) (fun v4 h => ?_)
   ·refine W_block (W_seq (W_region mixed rfl (r_fieldAddr (.p rfl) rfl fld43_1 (r_load1 (.p rfl) rfl ag27 rfl rfl (r_move (.p rfl) rfl ?_)))))
    obtain ⟨v5, a5, b5, h⟩ := idx_bind h
    refine r_index (.p rfl) rfl rfl slc27 sz3 a5 (map_get b5) rfl (r_loadr1 (.p rfl) rfl ag3 rfl (r_bin (.p rfl) rfl rfl (bin_geq _ _ _ _ _ _) rfl (r_end ?_)))
    refine W_cond rfl (fun c6 => ?_) (fun c6 => ?_)
    ·have h := cnd_t c6 h
     refine W_region mixed rfl (r_move (.p rfl) rfl (r_bin (.p rfl) rfl rfl (bin_add _ _ _ _ _ _) rfl (r_assign (.p rfl) rfl (r_end ?_))))
     exact sink (IntKind.wrap .i64 (v1.1 + 1)) h (sees_mkL (rn []) _ _ ⟨rfl, rfl, rfl, trivial⟩ ⟨rfl, trivial⟩ rfl rfl)
    ·have h := cnd_f c6 h
     refine W_skip ?_
     exact sink v1.1 h (sees_mkL (rn []) _ _ ⟨rfl, rfl, rfl, trivial⟩ ⟨rfl, trivial⟩ rfl rfl)
   ·refine W_region mixed rfl (r_move (.p rfl) rfl (r_bin (.p rfl) rfl rfl (bin_add _ _ _ _ _ _) rfl (r_assign (.p rfl) rfl (r_end ?_))))
    exact sink (v4, (IntKind.wrap .i64 (v1.2 + 1))) h (sees_mkL (rn []) _ _ ⟨rfl, rfl, rfl, trivial⟩ ⟨rfl, trivial⟩ rfl rfl)
  ·have h := cnd_f c3 h
   refine W_exit ?_
   exact sink v1.1 h (sees_mkL (rn []) _ _ ⟨rfl, rfl, trivial⟩ ⟨rfl, trivial⟩ rfl rfl)
 ·refine W_sees hs (W_seq (W_region mixed rfl (r_assign (.p rfl) rfl (r_end (W_seq (W_seq (W_region mixed rfl (r_assign (.p rfl) rfl (r_end ?_)))))))))
  refine W_whileE (L := Sh.sheaveref36_All_L7 N p0 v2) h (fun v7 => mk [(1, .e (.one (.ptr 1 0))), (3, .e (.one (.pure (.val (.int .i64 v2))))), (5, .e (.one (.own 2001))), (6, .e (.one (.pure (.val (.int .i64 v7.2)))))] [(1, .box [.pure (.sl (p0.fBase.map eI64)), .pure (.sl (p0.fNext.map eI64)), .pure (.sl (p0.fHeld.map eU8))]), (2001, .vec 3 (v7.1.map eApiMix))]) (fun v8 => mk [(5, .e (.one (.own 2002)))] [(2002, .vec 3 (v8.map eApiMix))]) (fun _ _ => rfl) ((sees_adopt 5 2022 3 rfl rfl rfl).trans (sees_mkL (rn [(2001, 2022)]) _ _ ⟨rfl, rfl, rfl, rfl, trivial⟩ ⟨rfl, rfl, trivial⟩ rfl rfl)) (fun j7 n7 v7 h => ?_) (fun v8 s h hs => ?_)
  ·unfold Sh.sheaveref36_All_L7 at h
   refine W_seq (W_seq (W_region mixed rfl (r_move (.p rfl) rfl (r_move (.p rfl) rfl ?_))))
   obtain ⟨c9, h⟩ := chk_bind h
   refine r_bin (.p rfl) rfl rfl (bin_shl _ _ _ _ _ _ _ c9) rfl (r_bin (.p rfl) rfl rfl (bin_lss _ _ _ _ _ _) rfl (r_end ?_))
   refine W_cond rfl (fun c10 => ?_) (fun c10 => ?_)
   ·have h := cnd_t c10 h
    refine W_skip (W_seq (W_block (W_seq (W_region mixed rfl (r_loadN (.p rfl) rfl ag43 sz43 rfl rfl rfl ?_)))))
    obtain ⟨v11, a11, h⟩ := bind_some h
    refine r_call (ds0 := [_]) [2003, 2004, 2005] (sheaveref36_copied_c N p0 v11 a11) (.p rfl) gd85 rfl ⟨rfl, trivial⟩ rfl rfl rfl (nodupL_spec rfl) ⟨rfl, rfl, rfl, trivial⟩ rfl (r_alloc (.p rfl) zv43 rfl rfl rfl (r_store rfl rfl rfl rfl sz43 rfl (leb rfl) rfl (r_end (W_seq (W_region mixed rfl (r_assign (.p rfl) rfl (r_end (W_seq (W_seq (W_region mixed rfl (r_assign (.p rfl) rfl (r_end ?_))))))))))))
    refine W_whileE (L := Sh.sheaveref36_All_L12 N p0 v7) h (fun v12 => mk [(1, .e (.one (.ptr 1 0))), (3, .e (.one (.pure (.val (.int .i64 v2))))), (5, .e (.one (.own 2009))), (6, .e (.one (.pure (.val (.int .i64 v7.2))))), (7, .e (.one (.ptr 7 0))), (8, .e (.one (.pure (.val (.int .i64 v12.2.1))))), (9, .e (.one (.pure (.val (.int .i64 v12.2.2)))))] [(1, .box [.pure (.sl (p0.fBase.map eI64)), .pure (.sl (p0.fNext.map eI64)), .pure (.sl (p0.fHeld.map eU8))]), (7, .box [.own 2006, .own 2007, .own 2008]), (2006, .vec 1 (v11.fBase.map eI64)), (2007, .vec 1 (v12.1.map eI64)), (2008, .vec 1 (v11.fHeld.map eU8)), (2009, .vec 3 (v7.1.map eApiMix))]) (fun v13 => mk [(1, .e (.one (.ptr 1 0))), (3, .e (.one (.pure (.val (.int .i64 v2))))), (5, .e (.one (.own 2013))), (6, .e (.one (.pure (.val (.int .i64 v7.2))))), (7, .e (.one (.ptr 7 0)))] [(1, .box [.pure (.sl (p0.fBase.map eI64)), .pure (.sl (p0.fNext.map eI64)), .pure (.sl (p0.fHeld.map eU8))]), (7, .box [.own 2010, .own 2011, .own 2012]), (2010, .vec 1 (v11.fBase.map eI64)), (2011, .vec 1 (v13.map eI64)), (2012, .vec 1 (v11.fHeld.map eU8)), (2013, .vec 3 (v7.1.map eApiMix))]) (fun _ _ => rfl) (sees_mkL (rn [(2006, 2003), (2007, 2004), (2008, 2005), (2009, 2001)]) _ _ ⟨rfl, rfl, rfl, rfl, rfl, rfl, rfl, trivial⟩ ⟨rfl, rfl, rfl, rfl, rfl, rfl, trivial⟩ rfl rfl) (fun j12 n12 v12 h => ?_) (fun v13 s h hs => ?_)
    ·unfold Sh.sheaveref36_All_L12 at h
     refine W_seq (W_seq (W_region mixed rfl (r_move (.p rfl) rfl (r_fieldAddr (.p rfl) rfl fld43_1 (r_load1 (.p rfl) rfl ag27 rfl rfl (r_len (.p rfl) rfl (.sl _) trivial (List.length_map _) slc27 (r_bin (.p rfl) rfl rfl (bin_lss _ _ _ _ _ _) rfl (r_end ?_))))))))
     refine W_cond rfl (fun c14 => ?_) (fun c14 => ?_)
     ·have h := cnd_t c14 h
      refine W_skip ?_
      refine W_join h (fun v15 => mk [(1, .e (.one (.ptr 1 0))), (3, .e (.one (.pure (.val (.int .i64 v2))))), (5, .e (.one (.own 2017))), (6, .e (.one (.pure (.val (.int .i64 v7.2))))), (7, .e (.one (.ptr 7 0))), (8, .e (.one (.pure (.val (.int .i64 v15.2))))), (9, .e (.one (.pure (.val (.int .i64 v12.2.2)))))] [(1, .box [.pure (.sl (p0.fBase.map eI64)), .pure (.sl (p0.fNext.map eI64)), .pure (.sl (p0.fHeld.map eU8))]), (7, .box [.own 2014, .own 2015, .own 2016]), (2014, .vec 1 (v11.fBase.map eI64)), (2015, .vec 1 (v15.1.map eI64)), (2016, .vec 1 (v11.fHeld.map eU8)), (2017, .vec 3 (v7.1.map eApiMix))]) (fun j15 h => ?_) (fun v15 h => ?_)
      ·refine W_block (W_seq (W_seq (W_region mixed rfl (r_fieldAddr (.p rfl) rfl fld43_1 (r_load1 (.p rfl) rfl ag27 rfl rfl (r_move (.p rfl) rfl ?_))))))
       obtain ⟨v16, a16, b16, h⟩ := idx_bind h
       refine r_index (.p rfl) rfl rfl slc27 sz3 a16 (map_get b16) rfl (r_loadr1 (.p rfl) rfl ag3 rfl (r_bin (.p rfl) rfl rfl (bin_lss _ _ _ _ _ _) rfl (r_end ?_)))
       refine W_cond rfl (fun c17 => ?_) (fun c17 => ?_)
       ·have h := cnd_t c17 h
        refine W_exit ?_
        exact sink (v12.1, v12.2.1) h (sees_mkL (rn [(2014, 2006), (2015, 2007), (2016, 2008), (2017, 2009)]) _ _ ⟨rfl, rfl, rfl, rfl, rfl, rfl, rfl, trivial⟩ ⟨rfl, rfl, rfl, rfl, rfl, rfl, trivial⟩ rfl rfl)
       ·have h := cnd_f c17 h
        refine W_skip ?_
        refine W_join h (fun v18 => mk [(1, .e (.one (.ptr 1 0))), (3, .e (.one (.pure (.val (.int .i64 v2))))), (5, .e (.one (.own 2021))), (6, .e (.one (.pure (.val (.int .i64 v7.2))))), (7, .e (.one (.ptr 7 0))), (8, .e (.one (.pure (.val (.int .i64 v12.2.1))))), (9, .e (.one (.pure (.val (.int .i64 v12.2.2)))))] [(1, .box [.pure (.sl (p0.fBase.map eI64)), .pure (.sl (p0.fNext.map eI64)), .pure (.sl (p0.fHeld.map eU8))]), (7, .box [.own 2018, .own 2019, .own 2020]), (2018, .vec 1 (v11.fBase.map eI64)), (2019, .vec 1 (v18.map eI64)), (2020, .vec 1 (v11.fHeld.map eU8)), (2021, .vec 3 (v7.1.map eApiMix))]) (fun j18 h => ?_) (fun v18 h => ?_)
        ·refine W_seq (W_region mixed rfl (r_move (.p rfl) rfl (r_move (.p rfl) rfl ?_)))
         obtain ⟨c19, h⟩ := chk_bind h
         refine r_bin (.p rfl) rfl rfl (bin_shr _ _ _ _ _ _ _ c19) rfl ?_
         refine r_bin (.p rfl) rfl rfl (bin_rem _ _ _ _ _ _ (by decide)) rfl ?_
         refine r_bin (.p rfl) rfl rfl (bin_eql _ _ _ _ _ _) rfl (r_end ?_)
         refine W_cond rfl (fun c20 => ?_) (fun c20 => ?_)
         ·have h := cnd_t c20 h
          refine W_region mixed rfl (r_fieldAddr (.p rfl) rfl fld43_1 (r_load1 (.p rfl) rfl ag27 rfl rfl (r_move (.p rfl) rfl ?_)))
          obtain ⟨v21, a21, b21, h⟩ := idx_bind h
          refine r_indexo (.p rfl) rfl rfl rfl slc27 sz3 a21 (map_get b21) (r_storee rfl rfl rfl rfl (map_get b21) rfl sz3 rfl (leb rfl) (map_setv eI64 v12.1 _ ((-1))) (r_end ?_))
          exact sink (v12.1.set (v12.2.2).toNat ((-1))) h (sees_mkL (rn [(2018, 2006), (2019, 2007), (2020, 2008), (2021, 2009)]) _ _ ⟨rfl, rfl, rfl, rfl, rfl, rfl, rfl, trivial⟩ ⟨rfl, rfl, rfl, rfl, rfl, rfl, trivial⟩ rfl rfl)
         ·have h := cnd_f c20 h
          refine W_skip ?_
          exact sink v12.1 h (sees_mkL (rn [(2018, 2006), (2019, 2007), (2020, 2008), (2021, 2009)]) _ _ ⟨rfl, rfl, rfl, rfl, rfl, rfl, rfl, trivial⟩ ⟨rfl, rfl, rfl, rfl, rfl, rfl, trivial⟩ rfl rfl)
        ·refine W_region mixed rfl (r_move (.p rfl) rfl (r_bin (.p rfl) rfl rfl (bin_add _ _ _ _ _ _) rfl (r_assign (.p rfl) rfl (r_end ?_))))
         exact sink (v18, (IntKind.wrap .i64 (v12.2.1 + 1))) h (sees_mkL (rn [(2014, 2018), (2015, 2019), (2016, 2020), (2017, 2021)]) _ _ ⟨rfl, rfl, rfl, rfl, rfl, rfl, rfl, trivial⟩ ⟨rfl, rfl, rfl, rfl, rfl, rfl, trivial⟩ rfl rfl)
      ·refine W_region mixed rfl (r_move (.p rfl) rfl (r_bin (.p rfl) rfl rfl (bin_add _ _ _ _ _ _) rfl (r_assign (.p rfl) rfl (r_end ?_))))
       exact sink (v15.1, v15.2, (IntKind.wrap .i64 (v12.2.2 + 1))) h (sees_mkL (rn [(2006, 2014), (2007, 2015), (2008, 2016), (2009, 2017)]) _ _ ⟨rfl, rfl, rfl, rfl, rfl, rfl, rfl, trivial⟩ ⟨rfl, rfl, rfl, rfl, rfl, rfl, trivial⟩ rfl rfl)
     ·have h := cnd_f c14 h
      refine W_exit ?_
      exact sink v12.1 h (sees_mkL (rn [(2010, 2006), (2011, 2007), (2012, 2008), (2013, 2009)]) _ _ ⟨rfl, rfl, rfl, rfl, rfl, trivial⟩ ⟨rfl, rfl, rfl, rfl, rfl, rfl, trivial⟩ rfl rfl)
    ·refine W_sees hs (W_region mixed rfl (r_move (.p rfl) rfl (r_loadN (.p rfl) rfl ag43 sz43 rfl rfl rfl (r_see (sees_frz 2010 _ _ rfl rfl) (r_see (sees_frz 2011 _ _ rfl rfl) (r_see (sees_frz 2012 _ _ rfl rfl) (r_buildSlice [(0, .tmp 58, _)] (.p rfl) rfl ⟨rfl, trivial⟩ rfl slc89 sz43 zv43 rfl rfl (leb rfl) rfl rfl ?_)))))))
     obtain ⟨c22, h⟩ := chk_bind h
     refine r_append (.p rfl) rfl (.own _ _ _) ⟨rfl, trivial⟩ rfl (.own _ _ _) ⟨rfl, trivial⟩ rfl slc89 slc89 sz43 byt43 (leb rfl) zv43 rfl (len_lim (f := eApiMix) (g := eApiMix) (xs := v7.1) (ys := (([(ApiMix.mk v11.fBase v13 v11.fHeld)] : List ApiMix))) c22) (map_app eApiMix v7.1 (([(ApiMix.mk v11.fBase v13 v11.fHeld)] : List ApiMix))) rfl (r_assign (.p rfl) rfl (r_end (W_region mixed rfl (r_move (.p rfl) rfl (r_bin (.p rfl) rfl rfl (bin_add _ _ _ _ _ _) rfl (r_assign (.p rfl) rfl (r_end ?_)))))))
     exact sink (v7.1 ++ (([(ApiMix.mk v11.fBase v13 v11.fHeld)] : List ApiMix)), (IntKind.wrap .i64 (v7.2 + 1))) h (sees_mkL (rn [(2001, 60)]) _ _ ⟨rfl, rfl, rfl, rfl, trivial⟩ ⟨rfl, rfl, trivial⟩ rfl rfl)
   ·have h := cnd_f c10 h
    refine W_exit ?_
    exact sink v7.1 h (sees_mkL (rn [(2002, 2001)]) _ _ ⟨rfl, trivial⟩ ⟨rfl, trivial⟩ rfl rfl)
  ·refine W_sees hs (W_seq (W_region mixed rfl (r_move (.p rfl) rfl (r_assign (.p rfl) rfl (r_end ?_)))))
   obtain rfl := Option.some.inj h
   refine W_sees (sees_mkL (rn [(1000, 2002)]) [(2, .e (.one (.own 1000)))] [(1000, .vec 3 (v8.map eApiMix))] ⟨rfl, trivial⟩ ⟨rfl, trivial⟩ rfl rfl) (W_ret ?_)
   exact ⟨⟨[_], ⟨.tmp _ _ rfl, trivial⟩, rfl⟩, ⟨rfl, trivial⟩⟩
set_option maxRecDepth 10000 in
theorem sheaveref36_Aborts_c (N : Nat) (p0 : ApiProblem) (p1 : ApiMix) (r : (List ApiMix) × Int) (h : Sh.sheaveref36_Aborts N p0 p1 = some r) : Contract Try.prog 81 [.e (.agg [.pure (.sl (p0.fVersions.map eI64)), .pure (.sl (p0.fNow.map eI64)), .pure (.sl (p0.fTarget.map eI64)), .pure (.sl (p0.fTables.map eApiTable))]), .e (.agg [.pure (.sl (p1.fBase.map eI64)), .pure (.sl (p1.fNext.map eI64)), .pure (.sl (p1.fHeld.map eU8))])] [(3, r.1.map eApiMix)] (.tup [.one (.own 0), .one (.pure (.val (.int .i64 r.2)))]) := by
 unfold Sh.sheaveref36_Aborts at h
 refine contract_of_W (n := 15) (rs := [.tmp 4, .tmp 5]) Try.func81 rfl rfl rfl (leb rfl) (leb rfl) rfl fun w0 S0 => ?_
 refine W_seq (W_region mixed rfl (r_box (.p rfl) rfl rfl (r_box (.p rfl) rfl rfl (r_assign (.p rfl) rfl (r_assign (.p rfl) rfl (r_end (W_seq (W_seq (W_region mixed rfl (r_loadN (.p rfl) rfl ag30 sz30 rfl rfl rfl (r_loadN (.p rfl) rfl ag43 sz43 rfl rfl rfl ?_)))))))))))
 obtain ⟨v1, a1, h⟩ := bind_some h
 refine r_call (ds0 := [_, _]) [] (sheaveref36_Valid_c N p0 p1 v1 a1) (.p rfl) gd24 rfl ⟨rfl, rfl, trivial⟩ rfl rfl rfl (nodupL_spec rfl) trivial rfl (r_assign (.p rfl) rfl (r_end (W_seq (W_region mixed rfl (r_move (.p rfl) rfl (r_bin (.p rfl) rfl rfl (bin_neq _ _ _ _ _ _) rfl (r_end ?_)))))))
 refine W_cond rfl (fun c2 => ?_) (fun c2 => ?_)
 ·have h := cnd_t c2 h
  refine W_seq (W_region mixed rfl (r_move (.p rfl) rfl (r_assign (.p rfl) rfl (r_assign (.p rfl) rfl (r_end ?_)))))
  obtain rfl := Option.some.inj h
  refine W_sees ((sees_adopt 4 2001 3 rfl rfl rfl).trans (sees_mkL (rn [(1000, 2001)]) [(4, .e (.one (.own 1000))), (5, .e (.one (.pure (.val (.int .i64 v1)))))] [(1000, .vec 3 ((([] : List ApiMix)).map eApiMix))] ⟨rfl, rfl, trivial⟩ ⟨rfl, trivial⟩ rfl rfl)) (W_ret ?_)
  exact ⟨⟨[_, _], ⟨.tmp _ _ rfl, ⟨.tmp _ _ rfl, trivial⟩⟩, rfl⟩, ⟨rfl, trivial⟩⟩
 ·have h := cnd_f c2 h
  refine W_skip (W_seq (W_region mixed rfl (r_loadN (.p rfl) rfl ag43 sz43 rfl rfl rfl ?_)))
  obtain ⟨v3, a3, h⟩ := bind_some h
  refine r_call (ds0 := [_]) [2002] (sheaveref36_All_c N p1 v3 a3) (.p rfl) gd50 rfl ⟨rfl, trivial⟩ rfl rfl rfl (nodupL_spec rfl) ⟨rfl, trivial⟩ rfl (r_assign (.p rfl) rfl (r_assign (.p rfl) rfl (r_end ?_)))
  obtain rfl := Option.some.inj h
  refine W_sees (sees_mkL (rn [(1000, 2002)]) [(4, .e (.one (.own 1000))), (5, .e (.one (.pure (.val (.int .i64 0)))))] [(1000, .vec 3 (v3.map eApiMix))] ⟨rfl, rfl, trivial⟩ ⟨rfl, trivial⟩ rfl rfl) (W_ret ?_)
  exact ⟨⟨[_, _], ⟨.tmp _ _ rfl, ⟨.tmp _ _ rfl, trivial⟩⟩, rfl⟩, ⟨rfl, trivial⟩⟩
set_option maxRecDepth 10000 in
theorem sheaveref36_Found_c (N : Nat) (p0 : ApiProblem) (p1 : ApiMix) (r : (List ApiConflict)) (h : Sh.sheaveref36_Found N p0 p1 = some r) : Contract Try.prog 82 [.e (.agg [.pure (.sl (p0.fVersions.map eI64)), .pure (.sl (p0.fNow.map eI64)), .pure (.sl (p0.fTarget.map eI64)), .pure (.sl (p0.fTables.map eApiTable))]), .e (.agg [.pure (.sl (p1.fBase.map eI64)), .pure (.sl (p1.fNext.map eI64)), .pure (.sl (p1.fHeld.map eU8))])] [(3, r.map eApiConflict)] (.e (.one (.own 0))) := by
 unfold Sh.sheaveref36_Found at h
 refine contract_of_W (n := 111) (rs := [.tmp 4]) Try.func82 rfl rfl rfl (leb rfl) (leb rfl) rfl fun w0 S0 => ?_
 refine W_seq (W_region mixed rfl (r_box (.p rfl) rfl rfl (r_box (.p rfl) rfl rfl (r_assign (.p rfl) rfl (r_end (W_seq (W_region mixed rfl (r_assign (.p rfl) rfl (r_end (W_seq (W_seq (W_region mixed rfl (r_assign (.p rfl) rfl (r_end ?_))))))))))))))
 refine W_whileE (L := Sh.sheaveref36_Found_L1 N p0 p1) h (fun v1 => mk [(2, .e (.one (.ptr 2 0))), (3, .e (.one (.ptr 3 0))), (5, .e (.one (.own 2001))), (6, .e (.one (.pure (.val (.int .i64 v1.2)))))] [(2, .box [.pure (.sl (p0.fVersions.map eI64)), .pure (.sl (p0.fNow.map eI64)), .pure (.sl (p0.fTarget.map eI64)), .pure (.sl (p0.fTables.map eApiTable))]), (3, .box [.pure (.sl (p1.fBase.map eI64)), .pure (.sl (p1.fNext.map eI64)), .pure (.sl (p1.fHeld.map eU8))]), (2001, .vec 3 (v1.1.map eApiConflict))]) (fun v2 => mk [(5, .e (.one (.own 2002)))] [(2002, .vec 3 (v2.map eApiConflict))]) (fun _ _ => rfl) ((sees_adopt 5 2013 3 rfl rfl rfl).trans (sees_mkL (rn [(2001, 2013)]) _ _ ⟨rfl, rfl, rfl, rfl, trivial⟩ ⟨rfl, rfl, rfl, trivial⟩ rfl rfl)) (fun j1 n1 v1 h => ?_) (fun v2 s h hs => ?_)
 ·unfold Sh.sheaveref36_Found_L1 at h
  refine W_seq (W_seq (W_region mixed rfl (r_move (.p rfl) rfl (r_fieldAddr (.p rfl) rfl fld30_3 (r_load1 (.p rfl) rfl ag28 rfl rfl (r_len (.p rfl) rfl (.sl _) trivial (List.length_map _) slc28 (r_bin (.p rfl) rfl rfl (bin_lss _ _ _ _ _ _) rfl (r_end ?_))))))))
  refine W_cond rfl (fun c3 => ?_) (fun c3 => ?_)
  ·have h := cnd_t c3 h
   refine W_skip (W_seq (W_block (W_seq (W_region mixed rfl (r_fieldAddr (.p rfl) rfl fld30_3 (r_load1 (.p rfl) rfl ag28 rfl rfl (r_move (.p rfl) rfl ?_)))))))
   obtain ⟨v4, a4, b4, h⟩ := idx_bind h
   refine r_index (.p rfl) rfl rfl slc28 sz75 a4 (map_get b4) rfl (r_loadrN (.p rfl) rfl ag75 sz75 rfl rfl (r_alloc (.p rfl) zv75 rfl rfl rfl (r_store rfl rfl rfl rfl sz75 rfl (leb rfl) rfl (r_end (W_seq (W_region mixed rfl (r_loadN (.p rfl) rfl ag43 sz43 rfl rfl rfl (r_fieldAddr (.p rfl) rfl fld75_1 (r_load1 (.p rfl) rfl ag3 rfl rfl ?_)))))))))
   obtain ⟨v5, a5, h⟩ := bind_some h
   refine r_call (ds0 := [_, _]) [] (sheaveref36_Running_c N p1 v4.fFrom v5 a5) (.p rfl) gd49 rfl ⟨rfl, rfl, trivial⟩ rfl rfl rfl (nodupL_spec rfl) trivial rfl (r_assign (.p rfl) rfl (r_end ?_))
   refine W_join h (fun v6 => mk [(2, .e (.one (.ptr 2 0))), (3, .e (.one (.ptr 3 0))), (5, .e (.one (.own 2003))), (6, .e (.one (.pure (.val (.int .i64 v1.2))))), (7, .e (.one (.ptr 7 0))), (8, .e (.one (.pure (.val (.int .u8 v6)))))] [(2, .box [.pure (.sl (p0.fVersions.map eI64)), .pure (.sl (p0.fNow.map eI64)), .pure (.sl (p0.fTarget.map eI64)), .pure (.sl (p0.fTables.map eApiTable))]), (3, .box [.pure (.sl (p1.fBase.map eI64)), .pure (.sl (p1.fNext.map eI64)), .pure (.sl (p1.fHeld.map eU8))]), (7, .box [.pure (.val (.int .i64 v4.fKind)), .pure (.val (.int .i64 v4.fFrom)), .pure (.val (.int .i64 v4.fTo)), .pure (.val (.bool v4.fAware)), .pure (.sl (v4.fOK.map (eSl eB))), .pure (.sl (v4.fRewrite.map (eSl eB)))]), (2003, .vec 3 (v1.1.map eApiConflict))]) (fun j6 h => ?_) (fun v6 h => ?_)
   ·refine W_seq (W_region mixed rfl (r_loadN (.p rfl) rfl ag75 sz75 rfl rfl rfl ?_))
    obtain ⟨v7, a7, h⟩ := bind_some h
    refine r_call (ds0 := [_]) [] (sheaveref35_Stored_c N v4 v7 a7) (.p rfl) gd46 rfl ⟨rfl, trivial⟩ rfl rfl rfl (nodupL_spec rfl) trivial rfl (r_end ?_)
    refine W_cond rfl (fun c8 => ?_) (fun c8 => ?_)
    ·have h := cnd_t c8 h
     refine W_region mixed rfl (r_fieldAddr (.p rfl) rfl fld43_2 (r_load1 (.p rfl) rfl ag41 rfl rfl (r_move (.p rfl) rfl ?_)))
     obtain ⟨v9, a9, b9, h⟩ := idx_bind h
     refine r_index (.p rfl) rfl rfl slc41 sz87 a9 (map_get b9) rfl (r_loadr1 (.p rfl) rfl ag87 rfl (r_assign (.p rfl) rfl (r_end ?_)))
     exact sink v9 h (sees_mkL (rn [(2003, 2001)]) _ _ ⟨rfl, rfl, rfl, rfl, rfl, rfl, trivial⟩ ⟨rfl, rfl, rfl, rfl, trivial⟩ rfl rfl)
    ·have h := cnd_f c8 h
     refine W_skip ?_
     exact sink v5 h (sees_mkL (rn [(2003, 2001)]) _ _ ⟨rfl, rfl, rfl, rfl, rfl, rfl, trivial⟩ ⟨rfl, rfl, rfl, rfl, trivial⟩ rfl rfl)
   ·refine W_seq (W_region mixed rfl (r_assign (.p rfl) rfl (r_end ?_)))
    refine W_whileE (L := Sh.sheaveref36_Found_L10 N p0 p1 v1 v4 v6) h (fun v10 => mk [(2, .e (.one (.ptr 2 0))), (3, .e (.one (.ptr 3 0))), (5, .e (.one (.own 2004))), (6, .e (.one (.pure (.val (.int .i64 v1.2))))), (7, .e (.one (.ptr 7 0))), (8, .e (.one (.pure (.val (.int .u8 v6))))), (9, .e (.one (.pure (.val (.int .i64 v10.2)))))] [(2, .box [.pure (.sl (p0.fVersions.map eI64)), .pure (.sl (p0.fNow.map eI64)), .pure (.sl (p0.fTarget.map eI64)), .pure (.sl (p0.fTables.map eApiTable))]), (3, .box [.pure (.sl (p1.fBase.map eI64)), .pure (.sl (p1.fNext.map eI64)), .pure (.sl (p1.fHeld.map eU8))]), (7, .box [.pure (.val (.int .i64 v4.fKind)), .pure (.val (.int .i64 v4.fFrom)), .pure (.val (.int .i64 v4.fTo)), .pure (.val (.bool v4.fAware)), .pure (.sl (v4.fOK.map (eSl eB))), .pure (.sl (v4.fRewrite.map (eSl eB)))]), (2004, .vec 3 (v10.1.map eApiConflict))]) (fun v11 => mk [(2, .e (.one (.ptr 2 0))), (3, .e (.one (.ptr 3 0))), (5, .e (.one (.own 2005))), (6, .e (.one (.pure (.val (.int .i64 v1.2)))))] [(2, .box [.pure (.sl (p0.fVersions.map eI64)), .pure (.sl (p0.fNow.map eI64)), .pure (.sl (p0.fTarget.map eI64)), .pure (.sl (p0.fTables.map eApiTable))]), (3, .box [.pure (.sl (p1.fBase.map eI64)), .pure (.sl (p1.fNext.map eI64)), .pure (.sl (p1.fHeld.map eU8))]), (2005, .vec 3 (v11.map eApiConflict))]) (fun _ _ => rfl) (sees_mkL (rn [(2004, 2003)]) _ _ ⟨rfl, rfl, rfl, rfl, rfl, rfl, rfl, trivial⟩ ⟨rfl, rfl, rfl, rfl, trivial⟩ rfl rfl) (fun j10 n10 v10 h => ?_) (fun v11 s h hs => ?_)
    ·unfold Sh.sheaveref36_Found_L10 at h
     refine W_seq (W_seq (W_region mixed rfl (r_move (.p rfl) rfl (r_fieldAddr (.p rfl) rfl fld30_0 (r_load1 (.p rfl) rfl ag27 rfl rfl (r_fieldAddr (.p rfl) rfl fld75_1 (r_load1 (.p rfl) rfl ag3 rfl rfl ?_)))))))
     obtain ⟨v12, a12, b12, h⟩ := idx_bind h
     refine r_index (.p rfl) rfl rfl slc27 sz3 a12 (map_get b12) rfl (r_loadr1 (.p rfl) rfl ag3 rfl (r_bin (.p rfl) rfl rfl (bin_lss _ _ _ _ _ _) rfl (r_end ?_)))
     refine W_cond rfl (fun c13 => ?_) (fun c13 => ?_)
     ·have h := cnd_t c13 h
      refine W_skip ?_
      refine W_join h (fun v14 => mk [(2, .e (.one (.ptr 2 0))), (3, .e (.one (.ptr 3 0))), (5, .e (.one (.own 2006))), (6, .e (.one (.pure (.val (.int .i64 v1.2))))), (7, .e (.one (.ptr 7 0))), (8, .e (.one (.pure (.val (.int .u8 v6))))), (9, .e (.one (.pure (.val (.int .i64 v10.2)))))] [(2, .box [.pure (.sl (p0.fVersions.map eI64)), .pure (.sl (p0.fNow.map eI64)), .pure (.sl (p0.fTarget.map eI64)), .pure (.sl (p0.fTables.map eApiTable))]), (3, .box [.pure (.sl (p1.fBase.map eI64)), .pure (.sl (p1.fNext.map eI64)), .pure (.sl (p1.fHeld.map eU8))]), (7, .box [.pure (.val (.int .i64 v4.fKind)), .pure (.val (.int .i64 v4.fFrom)), .pure (.val (.int .i64 v4.fTo)), .pure (.val (.bool v4.fAware)), .pure (.sl (v4.fOK.map (eSl eB))), .pure (.sl (v4.fRewrite.map (eSl eB)))]), (2006, .vec 3 (v14.map eApiConflict))]) (fun j14 h => ?_) (fun v14 h => ?_)
      ·refine W_block (W_seq (W_seq (W_region mixed rfl (r_move (.p rfl) rfl (r_move (.p rfl) rfl ?_)))))
       obtain ⟨v15, a15, h⟩ := bind_some h
       refine r_call (ds0 := [_, _]) [] (sheaveref36_Has_c N v6 v10.2 v15 a15) (.p rfl) gd60 rfl ⟨rfl, rfl, trivial⟩ rfl rfl rfl (nodupL_spec rfl) trivial rfl (r_un (.p rfl) rfl (un_not _) rfl (r_end ?_))
       refine W_cond rfl (fun c16 => ?_) (fun c16 => ?_)
       ·have h := cnd_t c16 h
        refine W_exit ?_
        exact sink v10.1 h (sees_mkL (rn [(2006, 2004)]) _ _ ⟨rfl, rfl, rfl, rfl, rfl, rfl, rfl, trivial⟩ ⟨rfl, rfl, rfl, rfl, trivial⟩ rfl rfl)
       ·have h := cnd_f c16 h
        refine W_skip (W_seq (W_region mixed rfl (r_assign (.p rfl) rfl (r_end (W_seq (W_seq (W_region mixed rfl (r_assign (.p rfl) rfl (r_end ?_)))))))))
        refine W_whileE (L := Sh.sheaveref36_Found_L17 N p0 p1 v1 v4 v10) h (fun v17 => mk [(2, .e (.one (.ptr 2 0))), (3, .e (.one (.ptr 3 0))), (5, .e (.one (.own 2007))), (6, .e (.one (.pure (.val (.int .i64 v1.2))))), (7, .e (.one (.ptr 7 0))), (8, .e (.one (.pure (.val (.int .u8 v6))))), (9, .e (.one (.pure (.val (.int .i64 v10.2))))), (10, .e (.one (.pure (.val (.bool v17.2.1))))), (11, .e (.one (.pure (.val (.int .i64 v17.2.2)))))] [(2, .box [.pure (.sl (p0.fVersions.map eI64)), .pure (.sl (p0.fNow.map eI64)), .pure (.sl (p0.fTarget.map eI64)), .pure (.sl (p0.fTables.map eApiTable))]), (3, .box [.pure (.sl (p1.fBase.map eI64)), .pure (.sl (p1.fNext.map eI64)), .pure (.sl (p1.fHeld.map eU8))]), (7, .box [.pure (.val (.int .i64 v4.fKind)), .pure (.val (.int .i64 v4.fFrom)), .pure (.val (.int .i64 v4.fTo)), .pure (.val (.bool v4.fAware)), .pure (.sl (v4.fOK.map (eSl eB))), .pure (.sl (v4.fRewrite.map (eSl eB)))]), (2007, .vec 3 (v17.1.map eApiConflict))]) (fun v18 => mk [(2, .e (.one (.ptr 2 0))), (3, .e (.one (.ptr 3 0))), (5, .e (.one (.own 2008))), (6, .e (.one (.pure (.val (.int .i64 v1.2))))), (7, .e (.one (.ptr 7 0))), (8, .e (.one (.pure (.val (.int .u8 v6))))), (9, .e (.one (.pure (.val (.int .i64 v10.2))))), (10, .e (.one (.pure (.val (.bool v18.2)))))] [(2, .box [.pure (.sl (p0.fVersions.map eI64)), .pure (.sl (p0.fNow.map eI64)), .pure (.sl (p0.fTarget.map eI64)), .pure (.sl (p0.fTables.map eApiTable))]), (3, .box [.pure (.sl (p1.fBase.map eI64)), .pure (.sl (p1.fNext.map eI64)), .pure (.sl (p1.fHeld.map eU8))]), (7, .box [.pure (.val (.int .i64 v4.fKind)), .pure (.val (.int .i64 v4.fFrom)), .pure (.val (.int .i64 v4.fTo)), .pure (.val (.bool v4.fAware)), .pure (.sl (v4.fOK.map (eSl eB))), .pure (.sl (v4.fRewrite.map (eSl eB)))]), (2008, .vec 3 (v18.1.map eApiConflict))]) (fun _ _ => rfl) (sees_mkL (rn [(2007, 2004)]) _ _ ⟨rfl, rfl, rfl, rfl, rfl, rfl, rfl, rfl, rfl, trivial⟩ ⟨rfl, rfl, rfl, rfl, trivial⟩ rfl rfl) (fun j17 n17 v17 h => ?_) (fun v18 s h hs => ?_)
        ·unfold Sh.sheaveref36_Found_L17 at h
         refine W_seq (W_seq (W_region mixed rfl (r_move (.p rfl) rfl (r_fieldAddr (.p rfl) rfl fld30_0 (r_load1 (.p rfl) rfl ag27 rfl rfl (r_fieldAddr (.p rfl) rfl fld75_2 (r_load1 (.p rfl) rfl ag3 rfl rfl ?_)))))))
         obtain ⟨v19, a19, b19, h⟩ := idx_bind h
         refine r_index (.p rfl) rfl rfl slc27 sz3 a19 (map_get b19) rfl (r_loadr1 (.p rfl) rfl ag3 rfl (r_bin (.p rfl) rfl rfl (bin_lss _ _ _ _ _ _) rfl (r_end ?_)))
         refine W_cond rfl (fun c20 => ?_) (fun c20 => ?_)
         ·have h := cnd_t c20 h
          refine W_skip ?_
          refine W_join h (fun v21 => mk [(2, .e (.one (.ptr 2 0))), (3, .e (.one (.ptr 3 0))), (5, .e (.one (.own 2009))), (6, .e (.one (.pure (.val (.int .i64 v1.2))))), (7, .e (.one (.ptr 7 0))), (8, .e (.one (.pure (.val (.int .u8 v6))))), (9, .e (.one (.pure (.val (.int .i64 v10.2))))), (10, .e (.one (.pure (.val (.bool v21.2))))), (11, .e (.one (.pure (.val (.int .i64 v17.2.2)))))] [(2, .box [.pure (.sl (p0.fVersions.map eI64)), .pure (.sl (p0.fNow.map eI64)), .pure (.sl (p0.fTarget.map eI64)), .pure (.sl (p0.fTables.map eApiTable))]), (3, .box [.pure (.sl (p1.fBase.map eI64)), .pure (.sl (p1.fNext.map eI64)), .pure (.sl (p1.fHeld.map eU8))]), (7, .box [.pure (.val (.int .i64 v4.fKind)), .pure (.val (.int .i64 v4.fFrom)), .pure (.val (.int .i64 v4.fTo)), .pure (.val (.bool v4.fAware)), .pure (.sl (v4.fOK.map (eSl eB))), .pure (.sl (v4.fRewrite.map (eSl eB)))]), (2009, .vec 3 (v21.1.map eApiConflict))]) (fun j21 h => ?_) (fun v21 h => ?_)
          ·refine W_block (W_seq (W_seq (W_region mixed rfl (r_loadN (.p rfl) rfl ag43 sz43 rfl rfl rfl (r_fieldAddr (.p rfl) rfl fld75_2 (r_load1 (.p rfl) rfl ag3 rfl rfl ?_))))))
           obtain ⟨v22, a22, h⟩ := bind_some h
           refine r_call (ds0 := [_, _]) [] (sheaveref36_Running_c N p1 v4.fTo v22 a22) (.p rfl) gd49 rfl ⟨rfl, rfl, trivial⟩ rfl rfl rfl (nodupL_spec rfl) trivial rfl (r_move (.p rfl) rfl ?_)
           obtain ⟨v23, a23, h⟩ := bind_some h
           refine r_call (ds0 := [_, _]) [] (sheaveref36_Has_c N v22 v17.2.2 v23 a23) (.p rfl) gd60 rfl ⟨rfl, rfl, trivial⟩ rfl rfl rfl (nodupL_spec rfl) trivial rfl (r_un (.p rfl) rfl (un_not _) rfl (r_end ?_))
           refine W_cond rfl (fun c24 => ?_) (fun c24 => ?_)
           ·have h := cnd_t c24 h
            refine W_exit ?_
            exact sink (v17.1, v17.2.1) h (sees_mkL (rn [(2009, 2007)]) _ _ ⟨rfl, rfl, rfl, rfl, rfl, rfl, rfl, rfl, rfl, trivial⟩ ⟨rfl, rfl, rfl, rfl, trivial⟩ rfl rfl)
           ·have h := cnd_f c24 h
            refine W_skip ?_
            refine W_join h (fun v25 => mk [(2, .e (.one (.ptr 2 0))), (3, .e (.one (.ptr 3 0))), (5, .e (.one (.own 2010))), (6, .e (.one (.pure (.val (.int .i64 v1.2))))), (7, .e (.one (.ptr 7 0))), (8, .e (.one (.pure (.val (.int .u8 v6))))), (9, .e (.one (.pure (.val (.int .i64 v10.2))))), (10, .e (.one (.pure (.val (.bool v25))))), (11, .e (.one (.pure (.val (.int .i64 v17.2.2)))))] [(2, .box [.pure (.sl (p0.fVersions.map eI64)), .pure (.sl (p0.fNow.map eI64)), .pure (.sl (p0.fTarget.map eI64)), .pure (.sl (p0.fTables.map eApiTable))]), (3, .box [.pure (.sl (p1.fBase.map eI64)), .pure (.sl (p1.fNext.map eI64)), .pure (.sl (p1.fHeld.map eU8))]), (7, .box [.pure (.val (.int .i64 v4.fKind)), .pure (.val (.int .i64 v4.fFrom)), .pure (.val (.int .i64 v4.fTo)), .pure (.val (.bool v4.fAware)), .pure (.sl (v4.fOK.map (eSl eB))), .pure (.sl (v4.fRewrite.map (eSl eB)))]), (2010, .vec 3 (v17.1.map eApiConflict))]) (fun j25 h => ?_) (fun v25 h => ?_)
            ·refine W_region mixed rfl (r_move (.p rfl) rfl (r_move (.p rfl) rfl ?_))
             refine r_split (t := 67) rfl (fun c26 => ?_) (fun c26 => ?_)
             ·have h := cnd_t c26 h
              refine r_notB rfl rfl (r_notB rfl rfl (r_notB rfl rfl (r_notB rfl rfl (r_notB rfl rfl (r_notB rfl rfl (r_notB rfl rfl (r_notB rfl rfl (r_pick (.p rfl) rfl rfl rfl (r_assign (.p rfl) rfl (r_end ?_))))))))))
              exact sink true h (sees_mkL (rn [(2010, 2007)]) _ _ ⟨rfl, rfl, rfl, rfl, rfl, rfl, rfl, rfl, rfl, trivial⟩ ⟨rfl, rfl, rfl, rfl, trivial⟩ rfl rfl)
             ·have h := cnd_f c26 h
              refine r_fieldAddr (.g rfl rfl) rfl fld75_4 (r_load1 (.g rfl rfl) rfl ag73 rfl rfl (r_move (.g rfl rfl) rfl ?_))
              obtain ⟨v27, a27, b27, h⟩ := idx_bind h
              refine r_index (.g rfl rfl) rfl rfl slc73 sz76 a27 (map_get b27) rfl (r_loadr1 (.g rfl rfl) rfl ag76 rfl (r_move (.g rfl rfl) rfl ?_))
              obtain ⟨v28, a28, b28, h⟩ := idx_bind h
              refine r_index (.g rfl rfl) rfl rfl slc76 sz4 a28 (map_get b28) rfl (r_loadr1 (.g rfl rfl) rfl ag4 rfl (r_pick (.p rfl) rfl rfl rfl (r_assign (.p rfl) rfl (r_end ?_))))
              exact sink v28 h (sees_mkL (rn [(2010, 2007)]) _ _ ⟨rfl, rfl, rfl, rfl, rfl, rfl, rfl, rfl, rfl, trivial⟩ ⟨rfl, rfl, rfl, rfl, trivial⟩ rfl rfl)
            ·refine W_join h (fun v29 => mk [(2, .e (.one (.ptr 2 0))), (3, .e (.one (.ptr 3 0))), (5, .e (.one (.own 2011))), (6, .e (.one (.pure (.val (.int .i64 v1.2))))), (7, .e (.one (.ptr 7 0))), (8, .e (.one (.pure (.val (.int .u8 v6))))), (9, .e (.one (.pure (.val (.int .i64 v10.2))))), (10, .e (.one (.pure (.val (.bool v25))))), (11, .e (.one (.pure (.val (.int .i64 v17.2.2))))), (90, .e (.one (.pure (.val (.bool v29)))))] [(2, .box [.pure (.sl (p0.fVersions.map eI64)), .pure (.sl (p0.fNow.map eI64)), .pure (.sl (p0.fTarget.map eI64)), .pure (.sl (p0.fTables.map eApiTable))]), (3, .box [.pure (.sl (p1.fBase.map eI64)), .pure (.sl (p1.fNext.map eI64)), .pure (.sl (p1.fHeld.map eU8))]), (7, .box [.pure (.val (.int .i64 v4.fKind)), .pure (.val (.int .i64 v4.fFrom)), .pure (.val (.int .i64 v4.fTo)), .pure (.val (.bool v4.fAware)), .pure (.sl (v4.fOK.map (eSl eB))), .pure (.sl (v4.fRewrite.map (eSl eB)))]), (2011, .vec 3 (v17.1.map eApiConflict))]) (fun j29 h => ?_) (fun v29 h => ?_)
             ·refine W_region mixed rfl (r_fieldAddr (.p rfl) rfl fld75_3 (r_load1 (.p rfl) rfl ag4 rfl rfl (r_un (.p rfl) rfl (un_not _) rfl (r_move (.p rfl) rfl ?_))))
              refine r_split (t := 80) rfl (fun c30 => ?_) (fun c30 => ?_)
              ·have h := cnd_t c30 h
               refine r_fieldAddr (.g rfl rfl) rfl fld75_4 (r_load1 (.g rfl rfl) rfl ag73 rfl rfl (r_move (.g rfl rfl) rfl ?_))
               obtain ⟨v31, a31, b31, h⟩ := idx_bind h
               refine r_index (.g rfl rfl) rfl rfl slc73 sz76 a31 (map_get b31) rfl (r_loadr1 (.g rfl rfl) rfl ag76 rfl (r_move (.g rfl rfl) rfl ?_))
               obtain ⟨v32, a32, b32, h⟩ := idx_bind h
               refine r_index (.g rfl rfl) rfl rfl slc76 sz4 a32 (map_get b32) rfl (r_loadr1 (.g rfl rfl) rfl ag4 rfl (r_un (.g rfl rfl) rfl (un_not _) rfl (r_pick (.p rfl) rfl rfl rfl (r_end ?_))))
               exact sink (!v32) h (sees_mkL (rn [(2011, 2010)]) _ _ ⟨rfl, rfl, rfl, rfl, rfl, rfl, rfl, rfl, rfl, rfl, trivial⟩ ⟨rfl, rfl, rfl, rfl, trivial⟩ rfl rfl)
              ·have h := cnd_f c30 h
               refine r_notB rfl rfl (r_notB rfl rfl (r_notB rfl rfl (r_notB rfl rfl (r_notB rfl rfl (r_notB rfl rfl (r_notB rfl rfl (r_notB rfl rfl (r_notB rfl rfl (r_pick (.p rfl) rfl rfl rfl (r_end ?_))))))))))
               exact sink false h (sees_mkL (rn [(2011, 2010)]) _ _ ⟨rfl, rfl, rfl, rfl, rfl, rfl, rfl, rfl, rfl, rfl, trivial⟩ ⟨rfl, rfl, rfl, rfl, trivial⟩ rfl rfl)
             ·refine W_cond rfl (fun c33 => ?_) (fun c33 => ?_)
              ·have h := cnd_t c33 h
               refine W_region mixed rfl (r_move (.p rfl) rfl (r_move (.p rfl) rfl (r_move (.p rfl) rfl (r_move (.p rfl) rfl (r_build [(0, .tmp 92, _), (1, .tmp 93, _), (2, .tmp 94, _)] (.p rfl) rfl ⟨rfl, rfl, rfl, trivial⟩ zv45 rfl rfl pl45 rfl (r_buildSlice [(0, .tmp 95, _)] (.p rfl) rfl ⟨rfl, trivial⟩ rfl slc118 sz45 zv45 rfl rfl (leb rfl) rfl rfl ?_))))))
               obtain ⟨c34, h⟩ := chk_bind h
               refine r_append (.p rfl) rfl (.own _ _ _) ⟨rfl, trivial⟩ rfl (.own _ _ _) ⟨rfl, trivial⟩ rfl slc118 slc118 sz45 byt45 (leb rfl) zv45 rfl (len_lim (f := eApiConflict) (g := eApiConflict) (xs := v17.1) (ys := (([(ApiConflict.mk v1.2 v10.2 v17.2.2)] : List ApiConflict))) c34) (map_app eApiConflict v17.1 (([(ApiConflict.mk v1.2 v10.2 v17.2.2)] : List ApiConflict))) rfl (r_assign (.p rfl) rfl (r_end ?_))
               exact sink (v17.1 ++ (([(ApiConflict.mk v1.2 v10.2 v17.2.2)] : List ApiConflict)), v25) h (sees_mkL (rn [(2009, 97)]) _ _ ⟨rfl, rfl, rfl, rfl, rfl, rfl, rfl, rfl, rfl, trivial⟩ ⟨rfl, rfl, rfl, rfl, trivial⟩ rfl rfl)
              ·have h := cnd_f c33 h
               refine W_skip ?_
               exact sink (v17.1, v25) h (sees_mkL (rn [(2009, 2011)]) _ _ ⟨rfl, rfl, rfl, rfl, rfl, rfl, rfl, rfl, rfl, trivial⟩ ⟨rfl, rfl, rfl, rfl, trivial⟩ rfl rfl)
          ·refine W_region mixed rfl (r_move (.p rfl) rfl (r_bin (.p rfl) rfl rfl (bin_add _ _ _ _ _ _) rfl (r_assign (.p rfl) rfl (r_end ?_))))
           exact sink (v21.1, v21.2, (IntKind.wrap .i64 (v17.2.2 + 1))) h (sees_mkL (rn [(2007, 2009)]) _ _ ⟨rfl, rfl, rfl, rfl, rfl, rfl, rfl, rfl, rfl, trivial⟩ ⟨rfl, rfl, rfl, rfl, trivial⟩ rfl rfl)
         ·have h := cnd_f c20 h
          refine W_exit ?_
          exact sink (v17.1, v17.2.1) h (sees_mkL (rn [(2008, 2007)]) _ _ ⟨rfl, rfl, rfl, rfl, rfl, rfl, rfl, rfl, trivial⟩ ⟨rfl, rfl, rfl, rfl, trivial⟩ rfl rfl)
        ·refine W_sees hs ?_
         refine W_join h (fun v35 => mk [(2, .e (.one (.ptr 2 0))), (3, .e (.one (.ptr 3 0))), (5, .e (.one (.own 2012))), (6, .e (.one (.pure (.val (.int .i64 v1.2))))), (7, .e (.one (.ptr 7 0))), (8, .e (.one (.pure (.val (.int .u8 v6))))), (9, .e (.one (.pure (.val (.int .i64 v10.2))))), (103, .e (.one (.pure (.val (.bool v35)))))] [(2, .box [.pure (.sl (p0.fVersions.map eI64)), .pure (.sl (p0.fNow.map eI64)), .pure (.sl (p0.fTarget.map eI64)), .pure (.sl (p0.fTables.map eApiTable))]), (3, .box [.pure (.sl (p1.fBase.map eI64)), .pure (.sl (p1.fNext.map eI64)), .pure (.sl (p1.fHeld.map eU8))]), (7, .box [.pure (.val (.int .i64 v4.fKind)), .pure (.val (.int .i64 v4.fFrom)), .pure (.val (.int .i64 v4.fTo)), .pure (.val (.bool v4.fAware)), .pure (.sl (v4.fOK.map (eSl eB))), .pure (.sl (v4.fRewrite.map (eSl eB)))]), (2012, .vec 3 (v18.1.map eApiConflict))]) (fun j35 h => ?_) (fun v35 h => ?_)
         ·refine W_region mixed rfl (r_fieldAddr (.p rfl) rfl fld75_3 (r_load1 (.p rfl) rfl ag4 rfl rfl (r_move (.p rfl) rfl ?_)))
          refine r_split (t := 100) rfl (fun c36 => ?_) (fun c36 => ?_)
          ·have h := cnd_t c36 h
           refine r_move (.g rfl rfl) rfl (r_un (.g rfl rfl) rfl (un_not _) rfl (r_pick (.p rfl) rfl rfl rfl (r_end ?_)))
           exact sink (!v18.2) h (sees_mkL (rn [(2012, 2008)]) _ _ ⟨rfl, rfl, rfl, rfl, rfl, rfl, rfl, rfl, trivial⟩ ⟨rfl, rfl, rfl, rfl, trivial⟩ rfl rfl)
          ·have h := cnd_f c36 h
           refine r_notB rfl rfl (r_notB rfl rfl (r_pick (.p rfl) rfl rfl rfl (r_end ?_)))
           exact sink false h (sees_mkL (rn [(2012, 2008)]) _ _ ⟨rfl, rfl, rfl, rfl, rfl, rfl, rfl, rfl, trivial⟩ ⟨rfl, rfl, rfl, rfl, trivial⟩ rfl rfl)
         ·refine W_cond rfl (fun c37 => ?_) (fun c37 => ?_)
          ·have h := cnd_t c37 h
           refine W_region mixed rfl (r_move (.p rfl) rfl (r_move (.p rfl) rfl (r_move (.p rfl) rfl (r_build [(0, .tmp 105, _), (1, .tmp 106, _), (2, .const (.int .i64 (-1)), _)] (.p rfl) rfl ⟨rfl, rfl, rfl, trivial⟩ zv45 rfl rfl pl45 rfl (r_buildSlice [(0, .tmp 107, _)] (.p rfl) rfl ⟨rfl, trivial⟩ rfl slc118 sz45 zv45 rfl rfl (leb rfl) rfl rfl ?_)))))
           obtain ⟨c38, h⟩ := chk_bind h
           refine r_append (.p rfl) rfl (.own _ _ _) ⟨rfl, trivial⟩ rfl (.own _ _ _) ⟨rfl, trivial⟩ rfl slc118 slc118 sz45 byt45 (leb rfl) zv45 rfl (len_lim (f := eApiConflict) (g := eApiConflict) (xs := v18.1) (ys := (([(ApiConflict.mk v1.2 v10.2 ((-1)))] : List ApiConflict))) c38) (map_app eApiConflict v18.1 (([(ApiConflict.mk v1.2 v10.2 ((-1)))] : List ApiConflict))) rfl (r_assign (.p rfl) rfl (r_end ?_))
           exact sink (v18.1 ++ (([(ApiConflict.mk v1.2 v10.2 ((-1)))] : List ApiConflict))) h (sees_mkL (rn [(2006, 109)]) _ _ ⟨rfl, rfl, rfl, rfl, rfl, rfl, rfl, trivial⟩ ⟨rfl, rfl, rfl, rfl, trivial⟩ rfl rfl)
          ·have h := cnd_f c37 h
           refine W_skip ?_
           exact sink v18.1 h (sees_mkL (rn [(2006, 2012)]) _ _ ⟨rfl, rfl, rfl, rfl, rfl, rfl, rfl, trivial⟩ ⟨rfl, rfl, rfl, rfl, trivial⟩ rfl rfl)
      ·refine W_region mixed rfl (r_move (.p rfl) rfl (r_bin (.p rfl) rfl rfl (bin_add _ _ _ _ _ _) rfl (r_assign (.p rfl) rfl (r_end ?_))))
       exact sink (v14, (IntKind.wrap .i64 (v10.2 + 1))) h (sees_mkL (rn [(2004, 2006)]) _ _ ⟨rfl, rfl, rfl, rfl, rfl, rfl, rfl, trivial⟩ ⟨rfl, rfl, rfl, rfl, trivial⟩ rfl rfl)
     ·have h := cnd_f c13 h
      refine W_exit ?_
      exact sink v10.1 h (sees_mkL (rn [(2005, 2004)]) _ _ ⟨rfl, rfl, rfl, rfl, trivial⟩ ⟨rfl, rfl, rfl, trivial⟩ rfl rfl)
    ·refine W_sees hs (W_region mixed rfl (r_move (.p rfl) rfl (r_bin (.p rfl) rfl rfl (bin_add _ _ _ _ _ _) rfl (r_assign (.p rfl) rfl (r_end ?_)))))
     exact sink (v11, (IntKind.wrap .i64 (v1.2 + 1))) h (sees_mkL (rn [(2001, 2005)]) _ _ ⟨rfl, rfl, rfl, rfl, trivial⟩ ⟨rfl, rfl, rfl, trivial⟩ rfl rfl)
  ·have h := cnd_f c3 h
   refine W_exit ?_
   exact sink v1.1 h (sees_mkL (rn [(2002, 2001)]) _ _ ⟨rfl, trivial⟩ ⟨rfl, trivial⟩ rfl rfl)
 ·refine W_sees hs (W_seq (W_region mixed rfl (r_move (.p rfl) rfl (r_assign (.p rfl) rfl (r_end ?_)))))
  obtain rfl := Option.some.inj h
  refine W_sees (sees_mkL (rn [(1000, 2002)]) [(4, .e (.one (.own 1000)))] [(1000, .vec 3 (v2.map eApiConflict))] ⟨rfl, trivial⟩ ⟨rfl, trivial⟩ rfl rfl) (W_ret ?_)
  exact ⟨⟨[_], ⟨.tmp _ _ rfl, trivial⟩, rfl⟩, ⟨rfl, trivial⟩⟩
set_option maxRecDepth 10000 in
theorem sheaveref36_Blame_c (N : Nat) (p0 : ApiProblem) (p1 : ApiMix) (r : ApiMix × ApiConflict × Int) (h : Sh.sheaveref36_Blame N p0 p1 = some r) : Contract Try.prog 42 [.e (.agg [.pure (.sl (p0.fVersions.map eI64)), .pure (.sl (p0.fNow.map eI64)), .pure (.sl (p0.fTarget.map eI64)), .pure (.sl (p0.fTables.map eApiTable))]), .e (.agg [.pure (.sl (p1.fBase.map eI64)), .pure (.sl (p1.fNext.map eI64)), .pure (.sl (p1.fHeld.map eU8))])] [] (.tup [.agg [.pure (.sl (r.1.fBase.map eI64)), .pure (.sl (r.1.fNext.map eI64)), .pure (.sl (r.1.fHeld.map eU8))], .agg [.pure (.val (.int .i64 r.2.1.fTable)), .pure (.val (.int .i64 r.2.1.fWriter)), .pure (.val (.int .i64 r.2.1.fReader))], .one (.pure (.val (.int .i64 r.2.2)))]) := by
 unfold Sh.sheaveref36_Blame at h
 refine contract_of_W (n := 46) (rs := [.cell 4 43, .cell 5 45, .tmp 6]) Try.func42 rfl rfl rfl (leb rfl) (leb rfl) rfl fun w0 S0 => ?_
 refine W_seq (W_region mixed rfl (r_box (.p rfl) rfl rfl (r_box (.p rfl) rfl rfl (r_alloc (.p rfl) zv43 rfl rfl rfl (r_alloc (.p rfl) zv45 rfl rfl rfl (r_assign (.p rfl) rfl (r_end (W_seq (W_region mixed rfl (r_loadN (.p rfl) rfl ag30 sz30 rfl rfl rfl (r_loadN (.p rfl) rfl ag43 sz43 rfl rfl rfl ?_)))))))))))
 obtain ⟨v1, a1, h⟩ := bind_some h
 refine r_call (ds0 := [_, _]) [2001] (sheaveref36_Aborts_c N p0 p1 v1 a1) (.p rfl) gd81 rfl ⟨rfl, rfl, trivial⟩ rfl rfl rfl (nodupL_spec rfl) ⟨rfl, trivial⟩ rfl (r_move (.p rfl) rfl (r_extract (.p rfl) rfl rfl (r_extract (.p rfl) rfl rfl (r_assign (.p rfl) rfl (r_assign (.p rfl) rfl (r_end (W_seq (W_seq (W_region mixed rfl (r_move (.p rfl) rfl (r_bin (.p rfl) rfl rfl (bin_neq _ _ _ _ _ _) rfl (r_end ?_))))))))))))
 refine W_cond rfl (fun c2 => ?_) (fun c2 => ?_)
 ·have h := cnd_t c2 h
  refine W_seq (W_region mixed rfl (r_build [] (.p rfl) rfl trivial zv43 rfl rfl pl43 rfl (r_build [] (.p rfl) rfl trivial zv45 rfl rfl pl45 rfl (r_move (.p rfl) rfl (r_store rfl rfl rfl rfl sz43 rfl (leb rfl) rfl (r_store rfl rfl rfl rfl sz45 rfl (leb rfl) rfl (r_assign (.p rfl) rfl (r_end ?_))))))))
  obtain rfl := Option.some.inj h
  refine W_sees ((sees_nrmB 4 _ rfl).trans (sees_mkL (rn []) [(4, .e (.one (.ptr 4 0))), (5, .e (.one (.ptr 5 0))), (6, .e (.one (.pure (.val (.int .i64 v1.2)))))] [(4, .box [.pure (.sl ((([] : List Int)).map eI64)), .pure (.sl ((([] : List Int)).map eI64)), .pure (.sl ((([] : List Int)).map eU8))]), (5, .box [.pure (.val (.int .i64 0)), .pure (.val (.int .i64 0)), .pure (.val (.int .i64 0))])] ⟨rfl, rfl, rfl, trivial⟩ ⟨rfl, rfl, trivial⟩ rfl rfl)) (W_ret ?_)
  exact ⟨⟨[_, _, _], ⟨.cellN _ _ _ _ _ _ _ rfl rfl ag43 sz43 rfl rfl (ltb rfl), ⟨.cellN _ _ _ _ _ _ _ rfl rfl ag45 sz45 rfl rfl (ltb rfl), ⟨.tmp _ _ rfl, trivial⟩⟩⟩, rfl⟩, trivial⟩
 ·have h := cnd_f c2 h
  refine W_skip (W_seq (W_seq (W_region mixed rfl (r_assign (.p rfl) rfl (r_end ?_)))))
  refine W_whileE (L := Sh.sheaveref36_Blame_L3 N p0 v1) h (fun v3 => mk [(2, .e (.one (.ptr 2 0))), (4, .e (.one (.ptr 4 0))), (5, .e (.one (.ptr 5 0))), (7, .e (.one (.own 2002))), (9, .e (.one (.pure (.val (.int .i64 v3)))))] [(2, .box [.pure (.sl (p0.fVersions.map eI64)), .pure (.sl (p0.fNow.map eI64)), .pure (.sl (p0.fTarget.map eI64)), .pure (.sl (p0.fTables.map eApiTable))]), (4, .box [.pure (.nil0), .pure (.nil0), .pure (.nil0)]), (5, .box [.pure (.val (.int .i64 0)), .pure (.val (.int .i64 0)), .pure (.val (.int .i64 0))]), (2002, .vec 3 (v1.1.map eApiMix))]) (fun v4 => mk [(4, .e (.one (.ptr 4 0))), (5, .e (.one (.ptr 5 0)))] [(4, .box [.pure (.nil0), .pure (.nil0), .pure (.nil0)]), (5, .box [.pure (.val (.int .i64 0)), .pure (.val (.int .i64 0)), .pure (.val (.int .i64 0))])]) (fun _ _ => rfl) (sees_mkL (rn [(2002, 2001)]) _ _ ⟨rfl, rfl, rfl, rfl, rfl, trivial⟩ ⟨rfl, rfl, rfl, rfl, trivial⟩ rfl rfl) (fun j3 n3 v3 h => ?_) (fun v4 s h hs => ?_)
  ·unfold Sh.sheaveref36_Blame_L3 at h
   refine W_seq (W_seq (W_region mixed rfl (r_move (.p rfl) rfl (r_move (.p rfl) rfl (r_len (.p rfl) rfl (.own _ _ _) ⟨rfl, trivial⟩ (List.length_map _) slc89 (r_bin (.p rfl) rfl rfl (bin_lss _ _ _ _ _ _) rfl (r_end ?_)))))))
   refine W_cond rfl (fun c5 => ?_) (fun c5 => ?_)
   ·have h := cnd_t c5 h
    refine W_skip (W_seq (W_block (W_seq (W_region mixed rfl (r_loadN (.p rfl) rfl ag30 sz30 rfl rfl rfl (r_move (.p rfl) rfl (r_move (.p rfl) rfl ?_)))))))
    obtain ⟨v6, a6, b6, h⟩ := idx_bind h
    refine r_indexo (.p rfl) rfl rfl rfl slc89 sz43 a6 (map_get b6) (r_loadeN (.p rfl) rfl ag43 sz43 rfl (map_get b6) ?_)
    obtain ⟨v7, a7, h⟩ := bind_some h
    refine r_call (ds0 := [_, _]) [2003] (sheaveref36_Found_c N p0 v6 v7 a7) (.p rfl) gd82 rfl ⟨rfl, rfl, trivial⟩ rfl rfl rfl (nodupL_spec rfl) ⟨rfl, trivial⟩ rfl (r_assign (.p rfl) rfl ?_)
    refine r_endD (by kernel_rfl) ?_
    refine W_seq (W_region mixed rfl (r_move (.p rfl) rfl (r_len (.p rfl) rfl (.own _ _ _) ⟨rfl, trivial⟩ (List.length_map _) slc118 (r_bin (.p rfl) rfl rfl (bin_gtr _ _ _ _ _ _) rfl (r_end ?_)))))
    refine W_cond rfl (fun c8 => ?_) (fun c8 => ?_)
    ·have h := cnd_t c8 h
     refine W_seq (W_region mixed rfl (r_move (.p rfl) rfl (r_move (.p rfl) rfl ?_)))
     obtain ⟨v9, a9, b9, h⟩ := idx_bind h
     refine r_indexo (.p rfl) rfl rfl rfl slc89 sz43 a9 (map_get b9) (r_loadeN (.p rfl) rfl ag43 sz43 rfl (map_get b9) (r_move (.p rfl) rfl ?_))
     obtain ⟨v10, a10, b10, h⟩ := idx_bind h
     refine r_indexo (.p rfl) rfl rfl rfl slc118 sz45 a10 (map_get b10) (r_loadeN (.p rfl) rfl ag45 sz45 rfl (map_get b10) (r_store rfl rfl rfl rfl sz43 rfl (leb rfl) rfl (r_store rfl rfl rfl rfl sz45 rfl (leb rfl) rfl (r_assign (.p rfl) rfl ?_))))
     refine r_endD (by kernel_rfl) ?_
     obtain rfl := Option.some.inj h
     refine W_sees (sees_mkL (rn []) [(4, .e (.one (.ptr 4 0))), (5, .e (.one (.ptr 5 0))), (6, .e (.one (.pure (.val (.int .i64 0)))))] [(4, .box [.pure (.sl (v9.fBase.map eI64)), .pure (.sl (v9.fNext.map eI64)), .pure (.sl (v9.fHeld.map eU8))]), (5, .box [.pure (.val (.int .i64 v10.fTable)), .pure (.val (.int .i64 v10.fWriter)), .pure (.val (.int .i64 v10.fReader))])] ⟨rfl, rfl, rfl, trivial⟩ ⟨rfl, rfl, trivial⟩ rfl rfl) (W_ret ?_)
     exact ⟨⟨[_, _, _], ⟨.cellN _ _ _ _ _ _ _ rfl rfl ag43 sz43 rfl rfl (ltb rfl), ⟨.cellN _ _ _ _ _ _ _ rfl rfl ag45 sz45 rfl rfl (ltb rfl), ⟨.tmp _ _ rfl, trivial⟩⟩⟩, rfl⟩, trivial⟩
    ·have h := cnd_f c8 h
     refine W_skip (W_region mixed rfl (r_move (.p rfl) rfl (r_bin (.p rfl) rfl rfl (bin_add _ _ _ _ _ _) rfl (r_assign (.p rfl) rfl (r_end ?_)))))
     exact sink (IntKind.wrap .i64 (v3 + 1)) h (sees_mkL (rn []) _ _ ⟨rfl, rfl, rfl, rfl, rfl, trivial⟩ ⟨rfl, rfl, rfl, rfl, trivial⟩ rfl rfl)
   ·have h := cnd_f c5 h
    refine W_exit ?_
    exact sink () h (sees_mkL (rn []) _ _ ⟨rfl, rfl, trivial⟩ ⟨rfl, rfl, trivial⟩ rfl rfl)
  ·refine W_sees hs (W_seq (W_region mixed rfl (r_build [] (.p rfl) rfl trivial zv43 rfl rfl pl43 rfl (r_build [] (.p rfl) rfl trivial zv45 rfl rfl pl45 rfl (r_store rfl rfl rfl rfl sz43 rfl (leb rfl) rfl (r_store rfl rfl rfl rfl sz45 rfl (leb rfl) rfl (r_assign (.p rfl) rfl (r_end ?_))))))))
   obtain rfl := Option.some.inj h
   refine W_sees ((sees_nrmB 4 _ rfl).trans (sees_mkL (rn []) [(4, .e (.one (.ptr 4 0))), (5, .e (.one (.ptr 5 0))), (6, .e (.one (.pure (.val (.int .i64 15)))))] [(4, .box [.pure (.sl ((([] : List Int)).map eI64)), .pure (.sl ((([] : List Int)).map eI64)), .pure (.sl ((([] : List Int)).map eU8))]), (5, .box [.pure (.val (.int .i64 0)), .pure (.val (.int .i64 0)), .pure (.val (.int .i64 0))])] ⟨rfl, rfl, rfl, trivial⟩ ⟨rfl, rfl, trivial⟩ rfl rfl)) (W_ret ?_)
   exact ⟨⟨[_, _, _], ⟨.cellN _ _ _ _ _ _ _ rfl rfl ag43 sz43 rfl rfl (ltb rfl), ⟨.cellN _ _ _ _ _ _ _ rfl rfl ag45 sz45 rfl rfl (ltb rfl), ⟨.tmp _ _ rfl, trivial⟩⟩⟩, rfl⟩, trivial⟩
set_option maxRecDepth 10000 in
theorem sheaveref36_Goal_c (N : Nat) (p0 : ApiProblem) (p1 : ApiMix) (r : Bool) (h : Sh.sheaveref36_Goal N p0 p1 = some r) : Contract Try.prog 43 [.e (.agg [.pure (.sl (p0.fVersions.map eI64)), .pure (.sl (p0.fNow.map eI64)), .pure (.sl (p0.fTarget.map eI64)), .pure (.sl (p0.fTables.map eApiTable))]), .e (.agg [.pure (.sl (p1.fBase.map eI64)), .pure (.sl (p1.fNext.map eI64)), .pure (.sl (p1.fHeld.map eU8))])] [] (.e (.one (.pure (.val (.bool r))))) := by
 unfold Sh.sheaveref36_Goal at h
 refine contract_of_W (n := 36) (rs := [.tmp 4]) Try.func43 rfl rfl rfl (leb rfl) (leb rfl) rfl fun w0 S0 => ?_
 refine W_seq (W_region mixed rfl (r_box (.p rfl) rfl rfl (r_box (.p rfl) rfl rfl (r_assign (.p rfl) rfl (r_end (W_seq (W_seq (W_region mixed rfl (r_loadN (.p rfl) rfl ag30 sz30 rfl rfl rfl (r_loadN (.p rfl) rfl ag43 sz43 rfl rfl rfl ?_))))))))))
 obtain ⟨v1, a1, h⟩ := bind_some h
 refine r_call (ds0 := [_, _]) [] (sheaveref36_Valid_c N p0 p1 v1 a1) (.p rfl) gd24 rfl ⟨rfl, rfl, trivial⟩ rfl rfl rfl (nodupL_spec rfl) trivial rfl (r_bin (.p rfl) rfl rfl (bin_neq _ _ _ _ _ _) rfl (r_end ?_))
 refine W_cond rfl (fun c2 => ?_) (fun c2 => ?_)
 ·have h := cnd_t c2 h
  refine W_seq (W_region mixed rfl (r_assign (.p rfl) rfl (r_end ?_)))
  obtain rfl := Option.some.inj h
  refine W_sees (sees_mkL (rn []) [(4, .e (.one (.pure (.val (.bool false)))))] [] ⟨rfl, trivial⟩ trivial rfl rfl) (W_ret ?_)
  exact ⟨⟨[_], ⟨.tmp _ _ rfl, trivial⟩, rfl⟩, trivial⟩
 ·have h := cnd_f c2 h
  refine W_skip (W_seq (W_seq (W_region mixed rfl (r_assign (.p rfl) rfl (r_end ?_)))))
  refine W_whileE (L := Sh.sheaveref36_Goal_L3 N p0 p1) h (fun v3 => mk [(2, .e (.one (.ptr 2 0))), (3, .e (.one (.ptr 3 0))), (5, .e (.one (.pure (.val (.int .i64 v3)))))] [(2, .box [.pure (.sl (p0.fVersions.map eI64)), .pure (.sl (p0.fNow.map eI64)), .pure (.sl (p0.fTarget.map eI64)), .pure (.sl (p0.fTables.map eApiTable))]), (3, .box [.pure (.sl (p1.fBase.map eI64)), .pure (.sl (p1.fNext.map eI64)), .pure (.sl (p1.fHeld.map eU8))])]) (fun v4 => mk [] []) (fun _ _ => rfl) (sees_mkL (rn []) _ _ ⟨rfl, rfl, rfl, trivial⟩ ⟨rfl, rfl, trivial⟩ rfl rfl) (fun j3 n3 v3 h => ?_) (fun v4 s h hs => ?_)
  ·unfold Sh.sheaveref36_Goal_L3 at h
   refine W_seq (W_seq (W_region mixed rfl (r_move (.p rfl) rfl (r_fieldAddr (.p rfl) rfl fld43_0 (r_load1 (.p rfl) rfl ag27 rfl rfl (r_len (.p rfl) rfl (.sl _) trivial (List.length_map _) slc27 (r_bin (.p rfl) rfl rfl (bin_lss _ _ _ _ _ _) rfl (r_end ?_))))))))
   refine W_cond rfl (fun c5 => ?_) (fun c5 => ?_)
   ·have h := cnd_t c5 h
    refine W_skip (W_seq (W_block ?_))
    refine W_join h (fun v6 => mk [(2, .e (.one (.ptr 2 0))), (3, .e (.one (.ptr 3 0))), (5, .e (.one (.pure (.val (.int .i64 v3))))), (35, .e (.one (.pure (.val (.bool v6)))))] [(2, .box [.pure (.sl (p0.fVersions.map eI64)), .pure (.sl (p0.fNow.map eI64)), .pure (.sl (p0.fTarget.map eI64)), .pure (.sl (p0.fTables.map eApiTable))]), (3, .box [.pure (.sl (p1.fBase.map eI64)), .pure (.sl (p1.fNext.map eI64)), .pure (.sl (p1.fHeld.map eU8))])]) (fun j6 h => ?_) (fun v6 h => ?_)
    ·refine W_region mixed rfl (r_fieldAddr (.p rfl) rfl fld43_1 (r_load1 (.p rfl) rfl ag27 rfl rfl (r_move (.p rfl) rfl ?_)))
     obtain ⟨v7, a7, b7, h⟩ := idx_bind h
     refine r_index (.p rfl) rfl rfl slc27 sz3 a7 (map_get b7) rfl (r_loadr1 (.p rfl) rfl ag3 rfl (r_bin (.p rfl) rfl rfl (bin_geq _ _ _ _ _ _) rfl (r_move (.p rfl) rfl ?_)))
     refine r_split (t := 23) rfl (fun c8 => ?_) (fun c8 => ?_)
     ·have h := cnd_t c8 h
      refine r_notB rfl rfl (r_notB rfl rfl (r_notB rfl rfl (r_notB rfl rfl (r_notB rfl rfl (r_notB rfl rfl (r_notB rfl rfl (r_notB rfl rfl (r_notB rfl rfl (r_notB rfl rfl (r_notB rfl rfl (r_pick (.p rfl) rfl rfl rfl ?_)))))))))))
      refine r_endD (by kernel_rfl) ?_
      exact sink true h (sees_mkL (rn []) _ _ ⟨rfl, rfl, rfl, rfl, trivial⟩ ⟨rfl, rfl, trivial⟩ rfl rfl)
     ·have h := cnd_f c8 h
      refine r_fieldAddr (.g rfl rfl) rfl fld43_0 (r_load1 (.g rfl rfl) rfl ag27 rfl rfl (r_move (.g rfl rfl) rfl ?_))
      obtain ⟨v9, a9, b9, h⟩ := idx_bind h
      refine r_index (.g rfl rfl) rfl rfl slc27 sz3 a9 (map_get b9) rfl (r_loadr1 (.g rfl rfl) rfl ag3 rfl (r_fieldAddr (.g rfl rfl) rfl fld30_2 (r_load1 (.g rfl rfl) rfl ag27 rfl rfl (r_move (.g rfl rfl) rfl ?_))))
      obtain ⟨v10, a10, b10, h⟩ := idx_bind h
      refine r_index (.g rfl rfl) rfl rfl slc27 sz3 a10 (map_get b10) rfl (r_loadr1 (.g rfl rfl) rfl ag3 rfl (r_bin (.g rfl rfl) rfl rfl (bin_neq _ _ _ _ _ _) rfl (r_pick (.p rfl) rfl rfl rfl ?_)))
      refine r_endD (by kernel_rfl) ?_
      exact sink (v9 != v10) h (sees_mkL (rn []) _ _ ⟨rfl, rfl, rfl, rfl, trivial⟩ ⟨rfl, rfl, trivial⟩ rfl rfl)
    ·refine W_cond rfl (fun c11 => ?_) (fun c11 => ?_)
     ·have h := cnd_t c11 h
      refine W_seq (W_region mixed rfl (r_assign (.p rfl) rfl (r_end ?_)))
      obtain rfl := Option.some.inj h
      refine W_sees (sees_mkL (rn []) [(4, .e (.one (.pure (.val (.bool false)))))] [] ⟨rfl, trivial⟩ trivial rfl rfl) (W_ret ?_)
      exact ⟨⟨[_], ⟨.tmp _ _ rfl, trivial⟩, rfl⟩, trivial⟩
     ·have h := cnd_f c11 h
      refine W_skip (W_region mixed rfl (r_move (.p rfl) rfl (r_bin (.p rfl) rfl rfl (bin_add _ _ _ _ _ _) rfl (r_assign (.p rfl) rfl (r_end ?_)))))
      exact sink (IntKind.wrap .i64 (v3 + 1)) h (sees_mkL (rn []) _ _ ⟨rfl, rfl, rfl, trivial⟩ ⟨rfl, rfl, trivial⟩ rfl rfl)
   ·have h := cnd_f c5 h
    refine W_exit ?_
    exact sink () h (sees_mkL (rn []) _ _ trivial trivial rfl rfl)
  ·refine W_sees hs (W_seq (W_region mixed rfl (r_assign (.p rfl) rfl (r_end ?_))))
   obtain rfl := Option.some.inj h
   refine W_sees (sees_mkL (rn []) [(4, .e (.one (.pure (.val (.bool true)))))] [] ⟨rfl, trivial⟩ trivial rfl rfl) (W_ret ?_)
   exact ⟨⟨[_], ⟨.tmp _ _ rfl, trivial⟩, rfl⟩, trivial⟩
set_option maxRecDepth 10000 in
theorem sheaveref39_Failure_c (N : Nat) (p0 : ApiProblem) (p1 : List ApiStep) (r : Int × ApiMix × ApiConflict × Int) (h : Sh.sheaveref39_Failure N p0 p1 = some r) : Contract Try.prog 20 [.e (.agg [.pure (.sl (p0.fVersions.map eI64)), .pure (.sl (p0.fNow.map eI64)), .pure (.sl (p0.fTarget.map eI64)), .pure (.sl (p0.fTables.map eApiTable))]), .e (.one (.pure (.sl (p1.map eApiStep))))] [] (.tup [.one (.pure (.val (.int .i64 r.1))), .agg [.pure (.sl (r.2.1.fBase.map eI64)), .pure (.sl (r.2.1.fNext.map eI64)), .pure (.sl (r.2.1.fHeld.map eU8))], .agg [.pure (.val (.int .i64 r.2.2.1.fTable)), .pure (.val (.int .i64 r.2.2.1.fWriter)), .pure (.val (.int .i64 r.2.2.1.fReader))], .one (.pure (.val (.int .i64 r.2.2.2)))]) := by
 unfold Sh.sheaveref39_Failure at h
 refine contract_of_W (n := 80) (rs := [.tmp 4, .cell 5 43, .cell 6 45, .tmp 7]) Try.func20 rfl rfl rfl (leb rfl) (leb rfl) rfl fun w0 S0 => ?_
 refine W_seq (W_region mixed rfl (r_box (.p rfl) rfl rfl (r_assign (.p rfl) rfl (r_alloc (.p rfl) zv43 rfl rfl rfl (r_alloc (.p rfl) zv45 rfl rfl rfl (r_assign (.p rfl) rfl (r_end (W_seq (W_region mixed rfl (r_loadN (.p rfl) rfl ag30 sz30 rfl rfl rfl ?_))))))))))
 obtain ⟨v1, a1, h⟩ := bind_some h
 refine r_call (ds0 := [_]) [2001, 2002, 2003] (sheaveref36_Start_c N p0 v1 a1) (.p rfl) gd29 rfl ⟨rfl, trivial⟩ rfl rfl rfl (nodupL_spec rfl) ⟨rfl, rfl, rfl, trivial⟩ rfl (r_move (.p rfl) rfl (r_extract (.p rfl) rfl rfl (r_extract (.p rfl) rfl rfl (r_alloc (.p rfl) zv43 rfl rfl rfl (r_store rfl rfl rfl rfl sz43 rfl (leb rfl) rfl (r_assign (.p rfl) rfl (r_end (W_seq (W_seq (W_region mixed rfl (r_move (.p rfl) rfl (r_bin (.p rfl) rfl rfl (bin_neq _ _ _ _ _ _) rfl (r_end ?_)))))))))))))
 refine W_cond rfl (fun c2 => ?_) (fun c2 => ?_)
 ·have h := cnd_t c2 h
  refine W_seq (W_region mixed rfl (r_build [] (.p rfl) rfl trivial zv43 rfl rfl pl43 rfl (r_build [] (.p rfl) rfl trivial zv45 rfl rfl pl45 rfl (r_move (.p rfl) rfl (r_assign (.p rfl) rfl (r_store rfl rfl rfl rfl sz43 rfl (leb rfl) rfl (r_store rfl rfl rfl rfl sz45 rfl (leb rfl) rfl (r_assign (.p rfl) rfl (r_end ?_)))))))))
  obtain rfl := Option.some.inj h
  refine W_sees ((sees_nrmB 5 _ rfl).trans (sees_mkL (rn []) [(4, .e (.one (.pure (.val (.int .i64 0))))), (5, .e (.one (.ptr 5 0))), (6, .e (.one (.ptr 6 0))), (7, .e (.one (.pure (.val (.int .i64 v1.2)))))] [(5, .box [.pure (.sl ((([] : List Int)).map eI64)), .pure (.sl ((([] : List Int)).map eI64)), .pure (.sl ((([] : List Int)).map eU8))]), (6, .box [.pure (.val (.int .i64 0)), .pure (.val (.int .i64 0)), .pure (.val (.int .i64 0))])] ⟨rfl, rfl, rfl, rfl, trivial⟩ ⟨rfl, rfl, trivial⟩ rfl rfl)) (W_ret ?_)
  exact ⟨⟨[_, _, _, _], ⟨.tmp _ _ rfl, ⟨.cellN _ _ _ _ _ _ _ rfl rfl ag43 sz43 rfl rfl (ltb rfl), ⟨.cellN _ _ _ _ _ _ _ rfl rfl ag45 sz45 rfl rfl (ltb rfl), ⟨.tmp _ _ rfl, trivial⟩⟩⟩⟩, rfl⟩, trivial⟩
 ·have h := cnd_f c2 h
  refine W_skip (W_seq (W_seq (W_region mixed rfl (r_assign (.p rfl) rfl (r_end ?_)))))
  refine W_whileE (L := Sh.sheaveref39_Failure_L3 N p0 p1) h (fun v3 => mk [(1, .e (.one (.pure (.sl (p1.map eApiStep))))), (2, .e (.one (.ptr 2 0))), (5, .e (.one (.ptr 5 0))), (6, .e (.one (.ptr 6 0))), (8, .e (.one (.ptr 8 0))), (10, .e (.one (.pure (.val (.int .i64 v3.2.2.2)))))] [(2, .box [.pure (.sl (p0.fVersions.map eI64)), .pure (.sl (p0.fNow.map eI64)), .pure (.sl (p0.fTarget.map eI64)), .pure (.sl (p0.fTables.map eApiTable))]), (5, .box [.pure (.nil0), .pure (.nil0), .pure (.nil0)]), (6, .box [.pure (.val (.int .i64 0)), .pure (.val (.int .i64 0)), .pure (.val (.int .i64 0))]), (8, .box [.pure (.sl (v3.1.map eI64)), .pure (.sl (v3.2.1.map eI64)), .pure (.sl (v3.2.2.1.map eU8))])]) (fun v4 => mk [(1, .e (.one (.pure (.sl (p1.map eApiStep))))), (2, .e (.one (.ptr 2 0))), (5, .e (.one (.ptr 5 0))), (6, .e (.one (.ptr 6 0))), (8, .e (.one (.ptr 8 0)))] [(2, .box [.pure (.sl (p0.fVersions.map eI64)), .pure (.sl (p0.fNow.map eI64)), .pure (.sl (p0.fTarget.map eI64)), .pure (.sl (p0.fTables.map eApiTable))]), (5, .box [.pure (.nil0), .pure (.nil0), .pure (.nil0)]), (6, .box [.pure (.val (.int .i64 0)), .pure (.val (.int .i64 0)), .pure (.val (.int .i64 0))]), (8, .box [.pure (.sl (v4.fBase.map eI64)), .pure (.sl (v4.fNext.map eI64)), .pure (.sl (v4.fHeld.map eU8))])]) (fun _ _ => rfl) ((sees_frz 2001 _ _ rfl rfl).trans ((sees_frz 2002 _ _ rfl rfl).trans ((sees_frz 2003 _ _ rfl rfl).trans (sees_mkL (rn []) _ _ ⟨rfl, rfl, rfl, rfl, rfl, rfl, trivial⟩ ⟨rfl, rfl, rfl, rfl, trivial⟩ rfl rfl)))) (fun j3 n3 v3 h => ?_) (fun v4 s h hs => ?_)
  ·unfold Sh.sheaveref39_Failure_L3 at h
   refine W_seq (W_seq (W_region mixed rfl (r_move (.p rfl) rfl (r_move (.p rfl) rfl (r_len (.p rfl) rfl (.sl _) trivial (List.length_map _) slc33 (r_bin (.p rfl) rfl rfl (bin_lss _ _ _ _ _ _) rfl (r_end ?_)))))))
   refine W_cond rfl (fun c5 => ?_) (fun c5 => ?_)
   ·have h := cnd_t c5 h
    refine W_skip (W_seq (W_block ?_))
    refine W_join h (fun v6 => mk [(1, .e (.one (.pure (.sl (p1.map eApiStep))))), (2, .e (.one (.ptr 2 0))), (5, .e (.one (.ptr 5 0))), (6, .e (.one (.ptr 6 0))), (8, .e (.one (.ptr 8 0))), (10, .e (.one (.pure (.val (.int .i64 v3.2.2.2)))))] [(2, .box [.pure (.sl (p0.fVersions.map eI64)), .pure (.sl (p0.fNow.map eI64)), .pure (.sl (p0.fTarget.map eI64)), .pure (.sl (p0.fTables.map eApiTable))]), (5, .box [.pure (.nil0), .pure (.nil0), .pure (.nil0)]), (6, .box [.pure (.val (.int .i64 0)), .pure (.val (.int .i64 0)), .pure (.val (.int .i64 0))]), (8, .box [.pure (.sl (v6.1.map eI64)), .pure (.sl (v6.2.1.map eI64)), .pure (.sl (v6.2.2.map eU8))])]) (fun j6 h => ?_) (fun v6 h => ?_)
    ·refine W_seq (W_region mixed rfl (r_move (.p rfl) rfl (r_bin (.p rfl) rfl rfl (bin_geq _ _ _ _ _ _) rfl (r_end ?_))))
     refine W_cond rfl (fun c7 => ?_) (fun c7 => ?_)
     ·have h := cnd_t c7 h
      refine W_seq (W_region mixed rfl (r_loadN (.p rfl) rfl ag30 sz30 rfl rfl rfl (r_loadN (.p rfl) rfl ag43 sz43 rfl rfl rfl (r_move (.p rfl) rfl (r_move (.p rfl) rfl ?_)))))
      obtain ⟨v8, a8, b8, h⟩ := idx_bind h
      refine r_index (.p rfl) rfl rfl slc33 sz63 a8 (map_get b8) rfl (r_loadrN (.p rfl) rfl ag63 sz63 rfl rfl ?_)
      obtain ⟨v9, a9, h⟩ := bind_some h
      refine r_call (ds0 := [_, _, _]) [2004, 2005, 2006] (sheaveref37_Apply_c N p0 ((ApiMix.mk v3.1 v3.2.1 v3.2.2.1)) v8 v9 a9) (.p rfl) gd41 rfl ⟨rfl, rfl, rfl, trivial⟩ rfl rfl rfl (nodupL_spec rfl) ⟨rfl, rfl, rfl, trivial⟩ rfl (r_move (.p rfl) rfl (r_extract (.p rfl) rfl rfl (r_extract (.p rfl) rfl rfl (r_alloc (.p rfl) zv43 rfl rfl rfl (r_store rfl rfl rfl rfl sz43 rfl (leb rfl) rfl (r_assign (.p rfl) rfl ?_))))))
      refine r_endD (by kernel_rfl) ?_
      refine W_seq ?_
      refine W_join h (fun v10 => mk [(1, .e (.one (.pure (.sl (p1.map eApiStep))))), (2, .e (.one (.ptr 2 0))), (5, .e (.one (.ptr 5 0))), (6, .e (.one (.ptr 6 0))), (8, .e (.one (.ptr 8 0))), (10, .e (.one (.pure (.val (.int .i64 v3.2.2.2))))), (11, .e (.one (.ptr 11 0))), (53, .e (.one (.pure (.val (.bool v10)))))] [(2, .box [.pure (.sl (p0.fVersions.map eI64)), .pure (.sl (p0.fNow.map eI64)), .pure (.sl (p0.fTarget.map eI64)), .pure (.sl (p0.fTables.map eApiTable))]), (5, .box [.pure (.nil0), .pure (.nil0), .pure (.nil0)]), (6, .box [.pure (.val (.int .i64 0)), .pure (.val (.int .i64 0)), .pure (.val (.int .i64 0))]), (8, .box [.pure (.sl (v3.1.map eI64)), .pure (.sl (v3.2.1.map eI64)), .pure (.sl (v3.2.2.1.map eU8))]), (11, .box [.own 2007, .own 2008, .own 2009]), (2007, .vec 1 (v9.1.fBase.map eI64)), (2008, .vec 1 (v9.1.fNext.map eI64)), (2009, .vec 1 (v9.1.fHeld.map eU8))]) (fun j10 h => ?_) (fun v10 h => ?_)
      ·refine W_region mixed rfl (r_move (.p rfl) rfl (r_bin (.p rfl) rfl rfl (bin_neq _ _ _ _ _ _) rfl (r_move (.p rfl) rfl ?_)))
       refine r_split (t := 46) rfl (fun c11 => ?_) (fun c11 => ?_)
       ·have h := cnd_t c11 h
        refine r_notB rfl rfl (r_notB rfl rfl (r_notB rfl rfl (r_notB rfl rfl (r_notB rfl rfl (r_notB rfl rfl (r_pick (.p rfl) rfl rfl rfl (r_end ?_)))))))
        exact sink true h (sees_mkL (rn [(2007, 2004), (2008, 2005), (2009, 2006)]) _ _ ⟨rfl, rfl, rfl, rfl, rfl, rfl, rfl, rfl, trivial⟩ ⟨rfl, rfl, rfl, rfl, rfl, rfl, rfl, rfl, trivial⟩ rfl rfl)
       ·have h := cnd_f c11 h
        refine r_move (.g rfl rfl) rfl (r_move (.g rfl rfl) rfl ?_)
        obtain ⟨v12, a12, b12, h⟩ := idx_bind h
        refine r_index (.g rfl rfl) rfl rfl slc33 sz63 a12 (map_get b12) rfl (r_fieldAddrr (.g rfl rfl) rfl fld63_0 (leb rfl) rfl (r_loadr1 (.g rfl rfl) rfl ag3 rfl (r_bin (.g rfl rfl) rfl rfl (bin_eql _ _ _ _ _ _) rfl (r_pick (.p rfl) rfl rfl rfl (r_end ?_)))))
        exact sink (v12.fKind == 4) h (sees_mkL (rn [(2007, 2004), (2008, 2005), (2009, 2006)]) _ _ ⟨rfl, rfl, rfl, rfl, rfl, rfl, rfl, rfl, trivial⟩ ⟨rfl, rfl, rfl, rfl, rfl, rfl, rfl, rfl, trivial⟩ rfl rfl)
      ·refine W_cond rfl (fun c13 => ?_) (fun c13 => ?_)
       ·have h := cnd_t c13 h
        refine W_seq (W_region mixed rfl (r_move (.p rfl) rfl (r_build [] (.p rfl) rfl trivial zv43 rfl rfl pl43 rfl (r_build [] (.p rfl) rfl trivial zv45 rfl rfl pl45 rfl (r_assign (.p rfl) rfl (r_store rfl rfl rfl rfl sz43 rfl (leb rfl) rfl (r_store rfl rfl rfl rfl sz45 rfl (leb rfl) rfl (r_assign (.p rfl) rfl (r_end ?_)))))))))
        obtain rfl := Option.some.inj h
        refine W_sees ((sees_nrmB 5 _ rfl).trans (sees_mkL (rn []) [(4, .e (.one (.pure (.val (.int .i64 v3.2.2.2))))), (5, .e (.one (.ptr 5 0))), (6, .e (.one (.ptr 6 0))), (7, .e (.one (.pure (.val (.int .i64 0)))))] [(5, .box [.pure (.sl ((([] : List Int)).map eI64)), .pure (.sl ((([] : List Int)).map eI64)), .pure (.sl ((([] : List Int)).map eU8))]), (6, .box [.pure (.val (.int .i64 0)), .pure (.val (.int .i64 0)), .pure (.val (.int .i64 0))])] ⟨rfl, rfl, rfl, rfl, trivial⟩ ⟨rfl, rfl, trivial⟩ rfl rfl)) (W_ret ?_)
        exact ⟨⟨[_, _, _, _], ⟨.tmp _ _ rfl, ⟨.cellN _ _ _ _ _ _ _ rfl rfl ag43 sz43 rfl rfl (ltb rfl), ⟨.cellN _ _ _ _ _ _ _ rfl rfl ag45 sz45 rfl rfl (ltb rfl), ⟨.tmp _ _ rfl, trivial⟩⟩⟩⟩, rfl⟩, trivial⟩
       ·have h := cnd_f c13 h
        refine W_skip (W_region mixed rfl (r_loadN (.p rfl) rfl ag43 sz43 rfl rfl rfl (r_store rfl rfl rfl rfl sz43 rfl (leb rfl) rfl (r_end ?_))))
        exact sink (v9.1.fBase, v9.1.fNext, v9.1.fHeld) h ((sees_frz 2007 _ _ rfl rfl).trans ((sees_frz 2008 _ _ rfl rfl).trans ((sees_frz 2009 _ _ rfl rfl).trans (sees_mkL (rn []) _ _ ⟨rfl, rfl, rfl, rfl, rfl, rfl, trivial⟩ ⟨rfl, rfl, rfl, rfl, trivial⟩ rfl rfl))))
     ·have h := cnd_f c7 h
      refine W_skip ?_
      exact sink (v3.1, v3.2.1, v3.2.2.1) h (sees_mkL (rn []) _ _ ⟨rfl, rfl, rfl, rfl, rfl, rfl, trivial⟩ ⟨rfl, rfl, rfl, rfl, trivial⟩ rfl rfl)
    ·refine W_seq (W_region mixed rfl (r_loadN (.p rfl) rfl ag30 sz30 rfl rfl rfl (r_loadN (.p rfl) rfl ag43 sz43 rfl rfl rfl ?_)))
     obtain ⟨v14, a14, h⟩ := bind_some h
     refine r_call (ds0 := [_, _]) [] (sheaveref36_Blame_c N p0 ((ApiMix.mk v6.1 v6.2.1 v6.2.2)) v14 a14) (.p rfl) gd42 rfl ⟨rfl, rfl, trivial⟩ rfl rfl rfl (nodupL_spec rfl) trivial rfl (r_move (.p rfl) rfl (r_extract (.p rfl) rfl rfl (r_extract (.p rfl) rfl rfl (r_extract (.p rfl) rfl rfl (r_alloc (.p rfl) zv43 rfl rfl rfl (r_alloc (.p rfl) zv45 rfl rfl rfl (r_store rfl rfl rfl rfl sz43 rfl (leb rfl) rfl (r_store rfl rfl rfl rfl sz45 rfl (leb rfl) rfl (r_assign (.p rfl) rfl (r_end (W_seq (W_region mixed rfl (r_move (.p rfl) rfl (r_bin (.p rfl) rfl rfl (bin_eql _ _ _ _ _ _) rfl (r_end ?_)))))))))))))))
     refine W_cond rfl (fun c15 => ?_) (fun c15 => ?_)
     ·have h := cnd_t c15 h
      refine W_seq (W_region mixed rfl (r_move (.p rfl) rfl (r_loadN (.p rfl) rfl ag43 sz43 rfl rfl rfl (r_loadN (.p rfl) rfl ag45 sz45 rfl rfl rfl (r_assign (.p rfl) rfl (r_store rfl rfl rfl rfl sz43 rfl (leb rfl) rfl (r_store rfl rfl rfl rfl sz45 rfl (leb rfl) rfl (r_assign (.p rfl) rfl ?_))))))))
      refine r_endD (by kernel_rfl) ?_
      obtain rfl := Option.some.inj h
      refine W_sees (sees_mkL (rn []) [(4, .e (.one (.pure (.val (.int .i64 v3.2.2.2))))), (5, .e (.one (.ptr 5 0))), (6, .e (.one (.ptr 6 0))), (7, .e (.one (.pure (.val (.int .i64 0)))))] [(5, .box [.pure (.sl (v14.1.fBase.map eI64)), .pure (.sl (v14.1.fNext.map eI64)), .pure (.sl (v14.1.fHeld.map eU8))]), (6, .box [.pure (.val (.int .i64 v14.2.1.fTable)), .pure (.val (.int .i64 v14.2.1.fWriter)), .pure (.val (.int .i64 v14.2.1.fReader))])] ⟨rfl, rfl, rfl, rfl, trivial⟩ ⟨rfl, rfl, trivial⟩ rfl rfl) (W_ret ?_)
      exact ⟨⟨[_, _, _, _], ⟨.tmp _ _ rfl, ⟨.cellN _ _ _ _ _ _ _ rfl rfl ag43 sz43 rfl rfl (ltb rfl), ⟨.cellN _ _ _ _ _ _ _ rfl rfl ag45 sz45 rfl rfl (ltb rfl), ⟨.tmp _ _ rfl, trivial⟩⟩⟩⟩, rfl⟩, trivial⟩
     ·have h := cnd_f c15 h
      refine W_skip (W_region mixed rfl (r_move (.p rfl) rfl (r_bin (.p rfl) rfl rfl (bin_add _ _ _ _ _ _) rfl (r_assign (.p rfl) rfl (r_end ?_)))))
      exact sink (v6.1, v6.2.1, v6.2.2, (IntKind.wrap .i64 (v3.2.2.2 + 1))) h (sees_mkL (rn []) _ _ ⟨rfl, rfl, rfl, rfl, rfl, rfl, trivial⟩ ⟨rfl, rfl, rfl, rfl, trivial⟩ rfl rfl)
   ·have h := cnd_f c5 h
    refine W_exit ?_
    exact sink (ApiMix.mk v3.1 v3.2.1 v3.2.2.1) h (sees_mkL (rn []) _ _ ⟨rfl, rfl, rfl, rfl, rfl, trivial⟩ ⟨rfl, rfl, rfl, rfl, trivial⟩ rfl rfl)
  ·refine W_sees hs (W_seq (W_seq (W_region mixed rfl (r_loadN (.p rfl) rfl ag30 sz30 rfl rfl rfl (r_loadN (.p rfl) rfl ag43 sz43 rfl rfl rfl ?_)))))
   obtain ⟨v16, a16, h⟩ := bind_some h
   refine r_call (ds0 := [_, _]) [] (sheaveref36_Goal_c N p0 v4 v16 a16) (.p rfl) gd43 rfl ⟨rfl, rfl, trivial⟩ rfl rfl rfl (nodupL_spec rfl) trivial rfl (r_un (.p rfl) rfl (un_not _) rfl (r_end ?_))
   refine W_cond rfl (fun c17 => ?_) (fun c17 => ?_)
   ·have h := cnd_t c17 h
    refine W_seq (W_region mixed rfl (r_move (.p rfl) rfl (r_len (.p rfl) rfl (.sl _) trivial (List.length_map _) slc33 (r_build [] (.p rfl) rfl trivial zv43 rfl rfl pl43 rfl (r_build [] (.p rfl) rfl trivial zv45 rfl rfl pl45 rfl (r_assign (.p rfl) rfl (r_store rfl rfl rfl rfl sz43 rfl (leb rfl) rfl (r_store rfl rfl rfl rfl sz45 rfl (leb rfl) rfl (r_assign (.p rfl) rfl (r_end ?_))))))))))
    obtain rfl := Option.some.inj h
    refine W_sees ((sees_nrmB 5 _ rfl).trans (sees_mkL (rn []) [(4, .e (.one (.pure (.val (.int .i64 ((p1.length : Int))))))), (5, .e (.one (.ptr 5 0))), (6, .e (.one (.ptr 6 0))), (7, .e (.one (.pure (.val (.int .i64 14)))))] [(5, .box [.pure (.sl ((([] : List Int)).map eI64)), .pure (.sl ((([] : List Int)).map eI64)), .pure (.sl ((([] : List Int)).map eU8))]), (6, .box [.pure (.val (.int .i64 0)), .pure (.val (.int .i64 0)), .pure (.val (.int .i64 0))])] ⟨rfl, rfl, rfl, rfl, trivial⟩ ⟨rfl, rfl, trivial⟩ rfl rfl)) (W_ret ?_)
    exact ⟨⟨[_, _, _, _], ⟨.tmp _ _ rfl, ⟨.cellN _ _ _ _ _ _ _ rfl rfl ag43 sz43 rfl rfl (ltb rfl), ⟨.cellN _ _ _ _ _ _ _ rfl rfl ag45 sz45 rfl rfl (ltb rfl), ⟨.tmp _ _ rfl, trivial⟩⟩⟩⟩, rfl⟩, trivial⟩
   ·have h := cnd_f c17 h
    refine W_skip (W_seq (W_region mixed rfl (r_build [] (.p rfl) rfl trivial zv43 rfl rfl pl43 rfl (r_build [] (.p rfl) rfl trivial zv45 rfl rfl pl45 rfl (r_assign (.p rfl) rfl (r_store rfl rfl rfl rfl sz43 rfl (leb rfl) rfl (r_store rfl rfl rfl rfl sz45 rfl (leb rfl) rfl (r_assign (.p rfl) rfl (r_end ?_)))))))))
    obtain rfl := Option.some.inj h
    refine W_sees ((sees_nrmB 5 _ rfl).trans (sees_mkL (rn []) [(4, .e (.one (.pure (.val (.int .i64 0))))), (5, .e (.one (.ptr 5 0))), (6, .e (.one (.ptr 6 0))), (7, .e (.one (.pure (.val (.int .i64 15)))))] [(5, .box [.pure (.sl ((([] : List Int)).map eI64)), .pure (.sl ((([] : List Int)).map eI64)), .pure (.sl ((([] : List Int)).map eU8))]), (6, .box [.pure (.val (.int .i64 0)), .pure (.val (.int .i64 0)), .pure (.val (.int .i64 0))])] ⟨rfl, rfl, rfl, rfl, trivial⟩ ⟨rfl, rfl, trivial⟩ rfl rfl)) (W_ret ?_)
    exact ⟨⟨[_, _, _, _], ⟨.tmp _ _ rfl, ⟨.cellN _ _ _ _ _ _ _ rfl rfl ag43 sz43 rfl rfl (ltb rfl), ⟨.cellN _ _ _ _ _ _ _ rfl rfl ag45 sz45 rfl rfl (ltb rfl), ⟨.tmp _ _ rfl, trivial⟩⟩⟩⟩, rfl⟩, trivial⟩
set_option maxRecDepth 10000 in
theorem sheaveref36_ints_c (N : Nat) (p0 : List Int) (p1 : List Int) (r : Int) (h : Sh.sheaveref36_ints N p0 p1 = some r) : Contract Try.prog 83 [.e (.one (.pure (.sl (p0.map eI64)))), .e (.one (.pure (.sl (p1.map eI64))))] [] (.e (.one (.pure (.val (.int .i64 r))))) := by
 unfold Sh.sheaveref36_ints at h
 refine contract_of_W (n := 46) (rs := [.tmp 4]) Try.func83 rfl rfl rfl (leb rfl) (leb rfl) rfl fun w0 S0 => ?_
 refine W_seq (W_region mixed rfl (r_assign (.p rfl) rfl (r_end (W_seq (W_seq (W_region mixed rfl (r_assign (.p rfl) rfl (r_end ?_))))))))
 refine W_whileE (L := Sh.sheaveref36_ints_L1 N p0 p1) h (fun v1 => mk [(0, .e (.one (.pure (.sl (p0.map eI64))))), (1, .e (.one (.pure (.sl (p1.map eI64))))), (5, .e (.one (.pure (.val (.int .i64 v1)))))] []) (fun v2 => mk [(0, .e (.one (.pure (.sl (p0.map eI64))))), (1, .e (.one (.pure (.sl (p1.map eI64)))))] []) (fun _ _ => rfl) (sees_mkL (rn []) _ _ ⟨rfl, rfl, rfl, trivial⟩ trivial rfl rfl) (fun j1 n1 v1 h => ?_) (fun v2 s h hs => ?_)
 ·unfold Sh.sheaveref36_ints_L1 at h
  refine W_seq ?_
  refine W_join h (fun v3 => mk [(0, .e (.one (.pure (.sl (p0.map eI64))))), (1, .e (.one (.pure (.sl (p1.map eI64))))), (5, .e (.one (.pure (.val (.int .i64 v1))))), (15, .e (.one (.pure (.val (.bool v3)))))] []) (fun j3 h => ?_) (fun v3 h => ?_)
  ·refine W_region mixed rfl (r_move (.p rfl) rfl (r_move (.p rfl) rfl (r_len (.p rfl) rfl (.sl _) trivial (List.length_map _) slc27 (r_bin (.p rfl) rfl rfl (bin_lss _ _ _ _ _ _) rfl (r_move (.p rfl) rfl ?_)))))
   refine r_split (t := 10) rfl (fun c4 => ?_) (fun c4 => ?_)
   ·have h := cnd_t c4 h
    refine r_move (.g rfl rfl) rfl (r_move (.g rfl rfl) rfl (r_len (.g rfl rfl) rfl (.sl _) trivial (List.length_map _) slc27 (r_bin (.g rfl rfl) rfl rfl (bin_lss _ _ _ _ _ _) rfl (r_pick (.p rfl) rfl rfl rfl (r_end ?_)))))
    exact sink (decide (v1 < (p1.length : Int))) h (sees_mkL (rn []) _ _ ⟨rfl, rfl, rfl, rfl, trivial⟩ trivial rfl rfl)
   ·have h := cnd_f c4 h
    refine r_notB rfl rfl (r_notB rfl rfl (r_notB rfl rfl (r_notB rfl rfl (r_pick (.p rfl) rfl rfl rfl (r_end ?_)))))
    exact sink false h (sees_mkL (rn []) _ _ ⟨rfl, rfl, rfl, rfl, trivial⟩ trivial rfl rfl)
  ·refine W_cond rfl (fun c5 => ?_) (fun c5 => ?_)
   ·have h := cnd_t c5 h
    refine W_skip (W_seq (W_block (W_seq (W_seq (W_region mixed rfl (r_move (.p rfl) rfl (r_move (.p rfl) rfl ?_)))))))
    obtain ⟨v6, a6, b6, h⟩ := idx_bind h
    refine r_index (.p rfl) rfl rfl slc27 sz3 a6 (map_get b6) rfl (r_loadr1 (.p rfl) rfl ag3 rfl (r_move (.p rfl) rfl (r_move (.p rfl) rfl ?_)))
    obtain ⟨v7, a7, b7, h⟩ := idx_bind h
    refine r_index (.p rfl) rfl rfl slc27 sz3 a7 (map_get b7) rfl (r_loadr1 (.p rfl) rfl ag3 rfl (r_bin (.p rfl) rfl rfl (bin_lss _ _ _ _ _ _) rfl ?_))
    refine r_endD (by kernel_rfl) ?_
    refine W_cond rfl (fun c8 => ?_) (fun c8 => ?_)
    ·have h := cnd_t c8 h
     refine W_seq (W_region mixed rfl (r_assign (.p rfl) rfl (r_end ?_)))
     obtain rfl := Option.some.inj h
     refine W_sees (sees_mkL (rn []) [(4, .e (.one (.pure (.val (.int .i64 ((-1)))))))] [] ⟨rfl, trivial⟩ trivial rfl rfl) (W_ret ?_)
     exact ⟨⟨[_], ⟨.tmp _ _ rfl, trivial⟩, rfl⟩, trivial⟩
    ·have h := cnd_f c8 h
     refine W_skip (W_seq (W_region mixed rfl (r_move (.p rfl) rfl (r_move (.p rfl) rfl ?_))))
     obtain ⟨v9, a9, b9, h⟩ := idx_bind h
     refine r_index (.p rfl) rfl rfl slc27 sz3 a9 (map_get b9) rfl (r_loadr1 (.p rfl) rfl ag3 rfl (r_move (.p rfl) rfl (r_move (.p rfl) rfl ?_)))
     obtain ⟨v10, a10, b10, h⟩ := idx_bind h
     refine r_index (.p rfl) rfl rfl slc27 sz3 a10 (map_get b10) rfl (r_loadr1 (.p rfl) rfl ag3 rfl (r_bin (.p rfl) rfl rfl (bin_gtr _ _ _ _ _ _) rfl ?_))
     refine r_endD (by kernel_rfl) ?_
     refine W_cond rfl (fun c11 => ?_) (fun c11 => ?_)
     ·have h := cnd_t c11 h
      refine W_seq (W_region mixed rfl (r_assign (.p rfl) rfl (r_end ?_)))
      obtain rfl := Option.some.inj h
      refine W_sees (sees_mkL (rn []) [(4, .e (.one (.pure (.val (.int .i64 1)))))] [] ⟨rfl, trivial⟩ trivial rfl rfl) (W_ret ?_)
      exact ⟨⟨[_], ⟨.tmp _ _ rfl, trivial⟩, rfl⟩, trivial⟩
     ·have h := cnd_f c11 h
      refine W_skip (W_region mixed rfl (r_move (.p rfl) rfl (r_bin (.p rfl) rfl rfl (bin_add _ _ _ _ _ _) rfl (r_assign (.p rfl) rfl (r_end ?_)))))
      exact sink (IntKind.wrap .i64 (v1 + 1)) h (sees_mkL (rn []) _ _ ⟨rfl, rfl, rfl, trivial⟩ trivial rfl rfl)
   ·have h := cnd_f c5 h
    refine W_exit ?_
    exact sink () h (sees_mkL (rn []) _ _ ⟨rfl, rfl, trivial⟩ trivial rfl rfl)
 ·refine W_sees hs (W_seq (W_seq (W_region mixed rfl (r_move (.p rfl) rfl (r_len (.p rfl) rfl (.sl _) trivial (List.length_map _) slc27 (r_move (.p rfl) rfl (r_len (.p rfl) rfl (.sl _) trivial (List.length_map _) slc27 (r_bin (.p rfl) rfl rfl (bin_lss _ _ _ _ _ _) rfl (r_end ?_)))))))))
  refine W_cond rfl (fun c12 => ?_) (fun c12 => ?_)
  ·have h := cnd_t c12 h
   refine W_seq (W_region mixed rfl (r_assign (.p rfl) rfl (r_end ?_)))
   obtain rfl := Option.some.inj h
   refine W_sees (sees_mkL (rn []) [(4, .e (.one (.pure (.val (.int .i64 ((-1)))))))] [] ⟨rfl, trivial⟩ trivial rfl rfl) (W_ret ?_)
   exact ⟨⟨[_], ⟨.tmp _ _ rfl, trivial⟩, rfl⟩, trivial⟩
  ·have h := cnd_f c12 h
   refine W_skip (W_seq (W_seq (W_region mixed rfl (r_move (.p rfl) rfl (r_len (.p rfl) rfl (.sl _) trivial (List.length_map _) slc27 (r_move (.p rfl) rfl (r_len (.p rfl) rfl (.sl _) trivial (List.length_map _) slc27 (r_bin (.p rfl) rfl rfl (bin_gtr _ _ _ _ _ _) rfl (r_end ?_)))))))))
   refine W_cond rfl (fun c13 => ?_) (fun c13 => ?_)
   ·have h := cnd_t c13 h
    refine W_seq (W_region mixed rfl (r_assign (.p rfl) rfl (r_end ?_)))
    obtain rfl := Option.some.inj h
    refine W_sees (sees_mkL (rn []) [(4, .e (.one (.pure (.val (.int .i64 1)))))] [] ⟨rfl, trivial⟩ trivial rfl rfl) (W_ret ?_)
    exact ⟨⟨[_], ⟨.tmp _ _ rfl, trivial⟩, rfl⟩, trivial⟩
   ·have h := cnd_f c13 h
    refine W_skip (W_seq (W_region mixed rfl (r_assign (.p rfl) rfl (r_end ?_))))
    obtain rfl := Option.some.inj h
    refine W_sees (sees_mkL (rn []) [(4, .e (.one (.pure (.val (.int .i64 0)))))] [] ⟨rfl, trivial⟩ trivial rfl rfl) (W_ret ?_)
    exact ⟨⟨[_], ⟨.tmp _ _ rfl, trivial⟩, rfl⟩, trivial⟩
set_option maxRecDepth 10000 in
theorem sheaveref36_numbers_c (N : Nat) (p0 : List Int) (r : (List Int)) (h : Sh.sheaveref36_numbers N p0 = some r) : Contract Try.prog 84 [.e (.one (.pure (.sl (p0.map eU8))))] [(1, r.map eI64)] (.e (.one (.own 0))) := by
 unfold Sh.sheaveref36_numbers at h
 refine contract_of_W (n := 20) (rs := [.tmp 2]) Try.func84 rfl rfl rfl (leb rfl) (leb rfl) rfl fun w0 S0 => ?_
 refine W_seq (W_region mixed rfl (r_assign (.p rfl) rfl (r_end (W_seq (W_region mixed rfl (r_assign (.p rfl) rfl (r_end (W_seq (W_seq (W_region mixed rfl (r_assign (.p rfl) rfl (r_end ?_))))))))))))
 refine W_whileE (L := Sh.sheaveref36_numbers_L1 N p0) h (fun v1 => mk [(0, .e (.one (.pure (.sl (p0.map eU8))))), (3, .e (.one (.own 2001))), (4, .e (.one (.pure (.val (.int .i64 v1.2)))))] [(2001, .vec 1 (v1.1.map eI64))]) (fun v2 => mk [(3, .e (.one (.own 2002)))] [(2002, .vec 1 (v2.map eI64))]) (fun _ _ => rfl) ((sees_adopt 3 2003 1 rfl rfl rfl).trans (sees_mkL (rn [(2001, 2003)]) _ _ ⟨rfl, rfl, rfl, trivial⟩ ⟨rfl, trivial⟩ rfl rfl)) (fun j1 n1 v1 h => ?_) (fun v2 s h hs => ?_)
 ·unfold Sh.sheaveref36_numbers_L1 at h
  refine W_seq (W_seq (W_region mixed rfl (r_move (.p rfl) rfl (r_move (.p rfl) rfl (r_len (.p rfl) rfl (.sl _) trivial (List.length_map _) slc41 (r_bin (.p rfl) rfl rfl (bin_lss _ _ _ _ _ _) rfl (r_end ?_)))))))
  refine W_cond rfl (fun c3 => ?_) (fun c3 => ?_)
  ·have h := cnd_t c3 h
   refine W_skip (W_seq (W_block (W_region mixed rfl (r_move (.p rfl) rfl (r_move (.p rfl) rfl (r_move (.p rfl) rfl ?_))))))
   obtain ⟨v4, a4, b4, h⟩ := idx_bind h
   refine r_index (.p rfl) rfl rfl slc41 sz87 a4 (map_get b4) rfl (r_loadr1 (.p rfl) rfl ag87 rfl (r_conv (.p rfl) rfl (conv_int so87 in3 _ _) rfl (r_buildSlice [(0, .tmp 16, _)] (.p rfl) rfl ⟨rfl, trivial⟩ rfl slc27 sz3 zv3 rfl rfl (leb rfl) rfl rfl ?_)))
   obtain ⟨c5, h⟩ := chk_bind h
   refine r_append (.p rfl) rfl (.own _ _ _) ⟨rfl, trivial⟩ rfl (.own _ _ _) ⟨rfl, trivial⟩ rfl slc27 slc27 sz3 byt3 (leb rfl) zv3 rfl (len_lim (f := eI64) (g := eI64) (xs := v1.1) (ys := (([(IntKind.wrap .i64 v4)] : List Int))) c5) (map_app eI64 v1.1 (([(IntKind.wrap .i64 v4)] : List Int))) rfl (r_assign (.p rfl) rfl (r_end (W_region mixed rfl (r_move (.p rfl) rfl (r_bin (.p rfl) rfl rfl (bin_add _ _ _ _ _ _) rfl (r_assign (.p rfl) rfl (r_end ?_)))))))
   exact sink (v1.1 ++ (([(IntKind.wrap .i64 v4)] : List Int)), (IntKind.wrap .i64 (v1.2 + 1))) h (sees_mkL (rn [(2001, 18)]) _ _ ⟨rfl, rfl, rfl, trivial⟩ ⟨rfl, trivial⟩ rfl rfl)
  ·have h := cnd_f c3 h
   refine W_exit ?_
   exact sink v1.1 h (sees_mkL (rn [(2002, 2001)]) _ _ ⟨rfl, trivial⟩ ⟨rfl, trivial⟩ rfl rfl)
 ·refine W_sees hs (W_seq (W_region mixed rfl (r_move (.p rfl) rfl (r_assign (.p rfl) rfl (r_end ?_)))))
  obtain rfl := Option.some.inj h
  refine W_sees (sees_mkL (rn [(1000, 2002)]) [(2, .e (.one (.own 1000)))] [(1000, .vec 1 (v2.map eI64))] ⟨rfl, trivial⟩ ⟨rfl, trivial⟩ rfl rfl) (W_ret ?_)
  exact ⟨⟨[_], ⟨.tmp _ _ rfl, trivial⟩, rfl⟩, ⟨rfl, trivial⟩⟩
set_option maxRecDepth 10000 in
theorem sheaveref36_Compare_c (N : Nat) (p0 : ApiMix) (p1 : ApiMix) (r : Int) (h : Sh.sheaveref36_Compare N p0 p1 = some r) : Contract Try.prog 44 [.e (.agg [.pure (.sl (p0.fBase.map eI64)), .pure (.sl (p0.fNext.map eI64)), .pure (.sl (p0.fHeld.map eU8))]), .e (.agg [.pure (.sl (p1.fBase.map eI64)), .pure (.sl (p1.fNext.map eI64)), .pure (.sl (p1.fHeld.map eU8))])] [] (.e (.one (.pure (.val (.int .i64 r))))) := by
 unfold Sh.sheaveref36_Compare at h
 refine contract_of_W (n := 30) (rs := [.tmp 4]) Try.func44 rfl rfl rfl (leb rfl) (leb rfl) rfl fun w0 S0 => ?_
 refine W_seq (W_region mixed rfl (r_box (.p rfl) rfl rfl (r_box (.p rfl) rfl rfl (r_assign (.p rfl) rfl (r_end (W_seq (W_seq (W_region mixed rfl (r_fieldAddr (.p rfl) rfl fld43_0 (r_load1 (.p rfl) rfl ag27 rfl rfl (r_fieldAddr (.p rfl) rfl fld43_0 (r_load1 (.p rfl) rfl ag27 rfl rfl ?_))))))))))))
 obtain ⟨v1, a1, h⟩ := bind_some h
 refine r_call (ds0 := [_, _]) [] (sheaveref36_ints_c N p0.fBase p1.fBase v1 a1) (.p rfl) gd83 rfl ⟨rfl, rfl, trivial⟩ rfl rfl rfl (nodupL_spec rfl) trivial rfl (r_assign (.p rfl) rfl (r_end (W_seq (W_region mixed rfl (r_move (.p rfl) rfl (r_bin (.p rfl) rfl rfl (bin_neq _ _ _ _ _ _) rfl (r_end ?_)))))))
 refine W_cond rfl (fun c2 => ?_) (fun c2 => ?_)
 ·have h := cnd_t c2 h
  refine W_seq (W_region mixed rfl (r_move (.p rfl) rfl (r_assign (.p rfl) rfl (r_end ?_))))
  obtain rfl := Option.some.inj h
  refine W_sees (sees_mkL (rn []) [(4, .e (.one (.pure (.val (.int .i64 v1)))))] [] ⟨rfl, trivial⟩ trivial rfl rfl) (W_ret ?_)
  exact ⟨⟨[_], ⟨.tmp _ _ rfl, trivial⟩, rfl⟩, trivial⟩
 ·have h := cnd_f c2 h
  refine W_skip (W_seq (W_seq (W_region mixed rfl (r_fieldAddr (.p rfl) rfl fld43_1 (r_load1 (.p rfl) rfl ag27 rfl rfl (r_fieldAddr (.p rfl) rfl fld43_1 (r_load1 (.p rfl) rfl ag27 rfl rfl ?_)))))))
  obtain ⟨v3, a3, h⟩ := bind_some h
  refine r_call (ds0 := [_, _]) [] (sheaveref36_ints_c N p0.fNext p1.fNext v3 a3) (.p rfl) gd83 rfl ⟨rfl, rfl, trivial⟩ rfl rfl rfl (nodupL_spec rfl) trivial rfl (r_assign (.p rfl) rfl (r_end (W_seq (W_region mixed rfl (r_move (.p rfl) rfl (r_bin (.p rfl) rfl rfl (bin_neq _ _ _ _ _ _) rfl (r_end ?_)))))))
  refine W_cond rfl (fun c4 => ?_) (fun c4 => ?_)
  ·have h := cnd_t c4 h
   refine W_seq (W_region mixed rfl (r_move (.p rfl) rfl (r_assign (.p rfl) rfl (r_end ?_))))
   obtain rfl := Option.some.inj h
   refine W_sees (sees_mkL (rn []) [(4, .e (.one (.pure (.val (.int .i64 v3)))))] [] ⟨rfl, trivial⟩ trivial rfl rfl) (W_ret ?_)
   exact ⟨⟨[_], ⟨.tmp _ _ rfl, trivial⟩, rfl⟩, trivial⟩
  ·have h := cnd_f c4 h
   refine W_skip (W_seq (W_region mixed rfl (r_fieldAddr (.p rfl) rfl fld43_2 (r_load1 (.p rfl) rfl ag41 rfl rfl ?_))))
   obtain ⟨v5, a5, h⟩ := bind_some h
   refine r_call (ds0 := [_]) [2001] (sheaveref36_numbers_c N p0.fHeld v5 a5) (.p rfl) gd84 rfl ⟨rfl, trivial⟩ rfl rfl rfl (nodupL_spec rfl) ⟨rfl, trivial⟩ rfl (r_fieldAddr (.p rfl) rfl fld43_2 (r_load1 (.p rfl) rfl ag41 rfl rfl ?_))
   obtain ⟨v6, a6, h⟩ := bind_some h
   refine r_call (ds0 := [_]) [2002] (sheaveref36_numbers_c N p1.fHeld v6 a6) (.p rfl) gd84 rfl ⟨rfl, trivial⟩ rfl rfl rfl (nodupL_spec rfl) ⟨rfl, trivial⟩ rfl ?_
   obtain ⟨v7, a7, h⟩ := bind_some h
   refine r_callL (ds0 := [_, _]) [] [(2001, _), (2002, _)] (sheaveref36_ints_c N v5 v6 v7 a7) (.p rfl) gd83 rfl ⟨rfl, rfl, trivial⟩ ⟨rfl, rfl, trivial⟩ rfl rfl rfl (nodupL_spec rfl) trivial rfl flatV_nil rfl (r_assign (.p rfl) rfl ?_)
   refine r_endD (by kernel_rfl) ?_
   obtain rfl := Option.some.inj h
   refine W_sees (sees_mkL (rn []) [(4, .e (.one (.pure (.val (.int .i64 v7)))))] [] ⟨rfl, trivial⟩ trivial rfl rfl) (W_ret ?_)
   exact ⟨⟨[_], ⟨.tmp _ _ rfl, trivial⟩, rfl⟩, trivial⟩
set_option maxRecDepth 10000 in
theorem sheaveref36_Equal_c (N : Nat) (p0 : ApiMix) (p1 : ApiMix) (r : Bool) (h : Sh.sheaveref36_Equal N p0 p1 = some r) : Contract Try.prog 21 [.e (.agg [.pure (.sl (p0.fBase.map eI64)), .pure (.sl (p0.fNext.map eI64)), .pure (.sl (p0.fHeld.map eU8))]), .e (.agg [.pure (.sl (p1.fBase.map eI64)), .pure (.sl (p1.fNext.map eI64)), .pure (.sl (p1.fHeld.map eU8))])] [] (.e (.one (.pure (.val (.bool r))))) := by
 unfold Sh.sheaveref36_Equal at h
 refine contract_of_W (n := 9) (rs := [.tmp 4]) Try.func21 rfl rfl rfl (leb rfl) (leb rfl) rfl fun w0 S0 => ?_
 refine W_seq (W_region mixed rfl (r_box (.p rfl) rfl rfl (r_box (.p rfl) rfl rfl (r_assign (.p rfl) rfl (r_end (W_seq (W_region mixed rfl (r_loadN (.p rfl) rfl ag43 sz43 rfl rfl rfl (r_loadN (.p rfl) rfl ag43 sz43 rfl rfl rfl ?_)))))))))
 obtain ⟨v1, a1, h⟩ := bind_some h
 refine r_call (ds0 := [_, _]) [] (sheaveref36_Compare_c N p0 p1 v1 a1) (.p rfl) gd44 rfl ⟨rfl, rfl, trivial⟩ rfl rfl rfl (nodupL_spec rfl) trivial rfl (r_bin (.p rfl) rfl rfl (bin_eql _ _ _ _ _ _) rfl (r_assign (.p rfl) rfl (r_end ?_)))
 obtain rfl := Option.some.inj h
 refine W_sees (sees_mkL (rn []) [(4, .e (.one (.pure (.val (.bool ((v1 == 0)))))))] [] ⟨rfl, trivial⟩ trivial rfl rfl) (W_ret ?_)
 exact ⟨⟨[_], ⟨.tmp _ _ rfl, trivial⟩, rfl⟩, trivial⟩
end Go.Lift

/- That the code does what the shallow programs do, function by function. Written by a program (gen.py). -/
namespace Go.Lift
open Go.RowKit
open Go.Proofs
set_option maxRecDepth 10000 in
theorem sheavelaw39_PlanFailure_c (N : Nat) (p0 : ApiProblem) (p1 : List ApiStep) (r : Bool) (h : Sh.sheavelaw39_PlanFailure N p0 p1 = some r) : Contract Try.prog 5 [.e (.agg [.pure (.sl (p0.fVersions.map eI64)), .pure (.sl (p0.fNow.map eI64)), .pure (.sl (p0.fTarget.map eI64)), .pure (.sl (p0.fTables.map eApiTable))]), .e (.one (.pure (.sl (p1.map eApiStep))))] [] (.e (.one (.pure (.val (.bool r))))) := by
 unfold Sh.sheavelaw39_PlanFailure at h
 refine contract_of_W (n := 68) (rs := [.tmp 4]) Try.func5 rfl rfl rfl (leb rfl) (leb rfl) rfl fun w0 S0 => ?_
 refine W_seq (W_region mixed rfl (r_box (.p rfl) rfl rfl (r_assign (.p rfl) rfl (r_end (W_seq ?_)))))
 refine W_join h (fun v1 => mk [(1, .e (.one (.pure (.sl (p1.map eApiStep))))), (2, .e (.one (.ptr 2 0))), (24, .e (.one (.pure (.val (.bool v1)))))] [(2, .box [.pure (.sl (p0.fVersions.map eI64)), .pure (.sl (p0.fNow.map eI64)), .pure (.sl (p0.fTarget.map eI64)), .pure (.sl (p0.fTables.map eApiTable))])]) (fun j1 h => ?_) (fun v1 h => ?_)
 ·refine W_region mixed rfl ?_
  obtain ⟨v2, a2, h⟩ := bind_some h
  refine r_call (ds0 := []) [] (sheavelaw39_awake_c N v2 a2) (.p rfl) gd11 rfl trivial rfl rfl rfl (nodupL_spec rfl) trivial rfl (r_un (.p rfl) rfl (un_not _) rfl (r_move (.p rfl) rfl ?_))
  refine r_split (t := 15) rfl (fun c3 => ?_) (fun c3 => ?_)
  ·have h := cnd_t c3 h
   refine r_notB rfl rfl (r_notB rfl rfl (r_notB rfl rfl (r_pick (.p rfl) rfl rfl rfl (r_move (.p rfl) rfl (r_notB rfl rfl (r_notB rfl rfl (r_notB rfl rfl (r_pick (.p rfl) rfl rfl rfl (r_end ?_)))))))))
   exact sink true h (sees_mkL (rn []) _ _ ⟨rfl, rfl, rfl, trivial⟩ ⟨rfl, trivial⟩ rfl rfl)
  ·have h := cnd_f c3 h
   refine r_loadN (.g rfl rfl) rfl ag30 sz30 rfl rfl rfl ?_
   obtain ⟨v4, a4, h⟩ := bind_some h
   refine r_call (ds0 := [_]) [] (sheaveref35_Few_c N p0 v4 a4) (.g rfl rfl) gd17 rfl ⟨rfl, trivial⟩ rfl rfl rfl (nodupL_spec rfl) trivial rfl (r_un (.g rfl rfl) rfl (un_not _) rfl (r_pick (.p rfl) rfl rfl rfl (r_move (.p rfl) rfl ?_)))
   refine r_split (t := 20) rfl (fun c5 => ?_) (fun c5 => ?_)
   ·have h := cnd_t c5 h
    refine r_notB rfl rfl (r_notB rfl rfl (r_notB rfl rfl (r_pick (.p rfl) rfl rfl rfl (r_end ?_))))
    exact sink true h (sees_mkL (rn []) _ _ ⟨rfl, rfl, rfl, trivial⟩ ⟨rfl, trivial⟩ rfl rfl)
   ·have h := cnd_f c5 h
    refine r_move (.g rfl rfl) rfl (r_len (.g rfl rfl) rfl (.sl _) trivial (List.length_map _) slc33 (r_bin (.g rfl rfl) rfl rfl (bin_gtr _ _ _ _ _ _) rfl (r_pick (.p rfl) rfl rfl rfl (r_end ?_))))
    exact sink (decide (30 < (p1.length : Int))) h (sees_mkL (rn []) _ _ ⟨rfl, rfl, rfl, trivial⟩ ⟨rfl, trivial⟩ rfl rfl)
 ·refine W_cond rfl (fun c6 => ?_) (fun c6 => ?_)
  ·have h := cnd_t c6 h
   refine W_seq (W_region mixed rfl ?_)
   obtain ⟨v7, a7, h⟩ := bind_some h
   refine r_call (ds0 := []) [] (sheavelaw39_awake_c N v7 a7) (.p rfl) gd11 rfl trivial rfl rfl rfl (nodupL_spec rfl) trivial rfl (r_assign (.p rfl) rfl (r_end ?_))
   obtain rfl := Option.some.inj h
   refine W_sees (sees_mkL (rn []) [(4, .e (.one (.pure (.val (.bool v7)))))] [] ⟨rfl, trivial⟩ trivial rfl rfl) (W_ret ?_)
   exact ⟨⟨[_], ⟨.tmp _ _ rfl, trivial⟩, rfl⟩, trivial⟩
  ·have h := cnd_f c6 h
   refine W_skip (W_seq (W_region mixed rfl (r_loadN (.p rfl) rfl ag30 sz30 rfl rfl rfl (r_move (.p rfl) rfl ?_))))
   obtain ⟨v8, a8, h⟩ := bind_some h
   refine r_call (ds0 := [_, _]) [] (plan_Failure_c N p0 p1 v8 a8) (.p rfl) gd19 rfl ⟨rfl, rfl, trivial⟩ rfl rfl rfl (nodupL_spec rfl) trivial rfl (r_move (.p rfl) rfl (r_extract (.p rfl) rfl rfl (r_extract (.p rfl) rfl rfl (r_extract (.p rfl) rfl rfl (r_extract (.p rfl) rfl rfl (r_alloc (.p rfl) zv43 rfl rfl rfl (r_alloc (.p rfl) zv45 rfl rfl rfl (r_assign (.p rfl) rfl (r_store rfl rfl rfl rfl sz43 rfl (leb rfl) rfl (r_store rfl rfl rfl rfl sz45 rfl (leb rfl) rfl (r_assign (.p rfl) rfl (r_end (W_seq (W_region mixed rfl (r_loadN (.p rfl) rfl ag30 sz30 rfl rfl rfl (r_move (.p rfl) rfl ?_))))))))))))))))
   obtain ⟨v9, a9, h⟩ := bind_some h
   refine r_call (ds0 := [_, _]) [] (sheaveref39_Failure_c N p0 p1 v9 a9) (.p rfl) gd20 rfl ⟨rfl, rfl, trivial⟩ rfl rfl rfl (nodupL_spec rfl) trivial rfl (r_move (.p rfl) rfl (r_extract (.p rfl) rfl rfl (r_extract (.p rfl) rfl rfl (r_extract (.p rfl) rfl rfl (r_extract (.p rfl) rfl rfl (r_alloc (.p rfl) zv43 rfl rfl rfl (r_alloc (.p rfl) zv45 rfl rfl rfl (r_assign (.p rfl) rfl (r_store rfl rfl rfl rfl sz43 rfl (leb rfl) rfl (r_store rfl rfl rfl rfl sz45 rfl (leb rfl) rfl (r_assign (.p rfl) rfl (r_end ?_))))))))))))
   refine W_join h (fun v10 => mk [(4, .e (.one (.pure (.val (.bool v10)))))] []) (fun j10 h => ?_) (fun v10 h => ?_)
   ·refine W_region mixed rfl (r_move (.p rfl) rfl (r_move (.p rfl) rfl (r_bin (.p rfl) rfl rfl (bin_eql _ _ _ _ _ _) rfl (r_move (.p rfl) rfl ?_))))
    refine r_split (t := 45) rfl (fun c11 => ?_) (fun c11 => ?_)
    ·have h := cnd_t c11 h
     refine r_loadN (.g rfl rfl) rfl ag43 sz43 rfl rfl rfl (r_loadN (.g rfl rfl) rfl ag43 sz43 rfl rfl rfl ?_)
     obtain ⟨v12, a12, h⟩ := bind_some h
     refine r_call (ds0 := [_, _]) [] (sheaveref36_Equal_c N v8.2.1 v9.2.1 v12 a12) (.g rfl rfl) gd21 rfl ⟨rfl, rfl, trivial⟩ rfl rfl rfl (nodupL_spec rfl) trivial rfl (r_pick (.p rfl) rfl rfl rfl (r_move (.p rfl) rfl ?_))
     refine r_split (t := 50) rfl (fun c13 => ?_) (fun c13 => ?_)
     ·have h := cnd_t c13 h
      refine r_loadN (.g rfl rfl) rfl ag45 sz45 rfl rfl rfl (r_loadN (.g rfl rfl) rfl ag45 sz45 rfl rfl rfl (r_eqA [.int .i64 v8.2.2.1.fTable, .int .i64 v8.2.2.1.fWriter, .int .i64 v8.2.2.1.fReader] [.int .i64 v9.2.2.1.fTable, .int .i64 v9.2.2.1.fWriter, .int .i64 v9.2.2.1.fReader] (.g rfl rfl) rfl rfl seq45 rfl (r_pick (.p rfl) rfl rfl rfl (r_move (.p rfl) rfl ?_))))
      refine r_split (t := 55) rfl (fun c14 => ?_) (fun c14 => ?_)
      ·have h := cnd_t c14 h
       refine r_move (.g rfl rfl) rfl (r_move (.g rfl rfl) rfl (r_bin (.g rfl rfl) rfl rfl (bin_eql _ _ _ _ _ _) rfl (r_pick (.p rfl) rfl rfl rfl (r_move (.p rfl) rfl ?_))))
       refine r_split (t := 60) rfl (fun c15 => ?_) (fun c15 => ?_)
       ·have h := cnd_t c15 h
        refine r_move (.g rfl rfl) rfl (r_bin (.g rfl rfl) rfl rfl (bin_eql _ _ _ _ _ _) rfl (r_loadN (.g rfl rfl) rfl ag30 sz30 rfl rfl rfl (r_move (.g rfl rfl) rfl ?_)))
        obtain ⟨v16, a16, h⟩ := bind_some h
        refine r_call (ds0 := [_, _]) [] (plan_Check_c N p0 p1 v16 a16) (.g rfl rfl) gd16 rfl ⟨rfl, rfl, trivial⟩ rfl rfl rfl (nodupL_spec rfl) trivial rfl (r_bin (.g rfl rfl) rfl rfl (bin_eqlB _ _ _ _ bo4) rfl (r_pick (.p rfl) rfl rfl rfl (r_assign (.p rfl) rfl (r_end ?_))))
        exact sink ((v8.2.2.2 == 15) == v16) h (sees_mkL (rn []) _ _ ⟨rfl, trivial⟩ trivial rfl rfl)
       ·have h := cnd_f c15 h
        refine r_notB rfl rfl (r_notB rfl rfl (r_notB rfl rfl (r_notB rfl rfl (r_notB rfl rfl (r_notB rfl rfl (r_pick (.p rfl) rfl rfl rfl (r_assign (.p rfl) rfl (r_end ?_))))))))
        exact sink false h (sees_mkL (rn []) _ _ ⟨rfl, trivial⟩ trivial rfl rfl)
      ·have h := cnd_f c14 h
       refine r_notB rfl rfl (r_notB rfl rfl (r_notB rfl rfl (r_pick (.p rfl) rfl rfl rfl (r_move (.p rfl) rfl (r_notB rfl rfl (r_notB rfl rfl (r_notB rfl rfl (r_notB rfl rfl (r_notB rfl rfl (r_notB rfl rfl (r_pick (.p rfl) rfl rfl rfl (r_assign (.p rfl) rfl (r_end ?_)))))))))))))
       exact sink false h (sees_mkL (rn []) _ _ ⟨rfl, trivial⟩ trivial rfl rfl)
     ·have h := cnd_f c13 h
      refine r_notB rfl rfl (r_notB rfl rfl (r_notB rfl rfl (r_pick (.p rfl) rfl rfl rfl (r_move (.p rfl) rfl (r_notB rfl rfl (r_notB rfl rfl (r_notB rfl rfl (r_pick (.p rfl) rfl rfl rfl (r_move (.p rfl) rfl (r_notB rfl rfl (r_notB rfl rfl (r_notB rfl rfl (r_notB rfl rfl (r_notB rfl rfl (r_notB rfl rfl (r_pick (.p rfl) rfl rfl rfl (r_assign (.p rfl) rfl (r_end ?_))))))))))))))))))
      exact sink false h (sees_mkL (rn []) _ _ ⟨rfl, trivial⟩ trivial rfl rfl)
    ·have h := cnd_f c11 h
     refine r_notB rfl rfl (r_notB rfl rfl (r_notB rfl rfl (r_pick (.p rfl) rfl rfl rfl (r_move (.p rfl) rfl (r_notB rfl rfl (r_notB rfl rfl (r_notB rfl rfl (r_pick (.p rfl) rfl rfl rfl (r_move (.p rfl) rfl (r_notB rfl rfl (r_notB rfl rfl (r_notB rfl rfl (r_pick (.p rfl) rfl rfl rfl (r_move (.p rfl) rfl (r_notB rfl rfl (r_notB rfl rfl (r_notB rfl rfl (r_notB rfl rfl (r_notB rfl rfl (r_notB rfl rfl (r_pick (.p rfl) rfl rfl rfl (r_assign (.p rfl) rfl (r_end ?_)))))))))))))))))))))))
     exact sink false h (sees_mkL (rn []) _ _ ⟨rfl, trivial⟩ trivial rfl rfl)
   ·obtain rfl := Option.some.inj h
    refine W_sees (sees_mkL (rn []) [(4, .e (.one (.pure (.val (.bool v10)))))] [] ⟨rfl, trivial⟩ trivial rfl rfl) (W_ret ?_)
    exact ⟨⟨[_], ⟨.tmp _ _ rfl, trivial⟩, rfl⟩, trivial⟩
end Go.Lift

