/- Lemmas for PlanFailureSaid, which YtohibkdhajkmdaaFinP5 proves. -/
import Derived.Test.YtohibkdhajkmdaaCode1
/- That the code does what the shallow programs do, function by function. Written by a program (gen.py). -/
namespace Go.Lift
open Go.RowKit
open Go.Proofs
set_option maxRecDepth 10000 in
theorem step_after_c (N : Nat) (p0 : ApiProblem) (p1 : ApiMix) (p2 : ApiStep) (r : ApiMix × Bool) (h : Sh.step_after N p0 p1 p2 = some r) : Contract Try.prog 102 [.e (.agg [.pure (.sl (p0.fVersions.map eI64)), .pure (.sl (p0.fNow.map eI64)), .pure (.sl (p0.fTarget.map eI64)), .pure (.sl (p0.fTables.map eApiTable))]), .e (.agg [.pure (.sl (p1.fBase.map eI64)), .pure (.sl (p1.fNext.map eI64)), .pure (.sl (p1.fHeld.map eU8))]), .e (.agg [.pure (.val (.int .i64 p2.fKind)), .pure (.val (.int .i64 p2.fIndex)), .pure (.val (.int .i64 p2.fVersion))])] [(1, r.1.fBase.map eI64), (1, r.1.fNext.map eI64), (1, r.1.fHeld.map eU8)] (.tup [.agg [.own 0, .own 1, .own 2], .one (.pure (.val (.bool r.2)))]) := by
 unfold Sh.step_after at h
 refine contract_of_W (n := 51) (rs := [.cell 6 43, .tmp 7]) Try.func102 rfl rfl rfl (leb rfl) (leb rfl) rfl fun w0 S0 => ?_
 refine W_seq (W_region mixed rfl (r_box (.p rfl) rfl rfl (r_box (.p rfl) rfl rfl (r_box (.p rfl) rfl rfl (r_alloc (.p rfl) zv43 rfl rfl rfl (r_assign (.p rfl) rfl (r_end (W_seq (W_region mixed rfl (r_loadN (.p rfl) rfl ag43 sz43 rfl rfl rfl ?_))))))))))
 obtain ⟨v1, a1, h⟩ := bind_some h
 refine r_call (ds0 := [_]) [2001, 2002, 2003] (step_cloned_c N p1 v1 a1) (.p rfl) gd93 rfl ⟨rfl, trivial⟩ rfl rfl rfl (nodupL_spec rfl) ⟨rfl, rfl, rfl, trivial⟩ rfl (r_alloc (.p rfl) zv43 rfl rfl rfl (r_store rfl rfl rfl rfl sz43 rfl (leb rfl) rfl (r_end (W_seq (W_seq (W_region mixed rfl (r_fieldAddr (.p rfl) rfl fld63_0 (r_load1 (.p rfl) rfl ag3 rfl rfl (r_end (W_block (W_seq (W_region mixed rfl (r_bin (.p rfl) rfl rfl (bin_eql _ _ _ _ _ _) rfl (r_assign (.p rfl) rfl (r_end ?_)))))))))))))))
 refine W_cond rfl (fun c2 => ?_) (fun c2 => ?_)
 ·have h := cnd_t c2 h
  refine W_seq (W_region mixed rfl (r_loadN (.p rfl) rfl ag43 sz43 rfl rfl rfl (r_loadN (.p rfl) rfl ag30 sz30 rfl rfl rfl (r_loadN (.p rfl) rfl ag63 sz63 rfl rfl rfl ?_))))
  obtain ⟨v3, a3, h⟩ := bind_some h
  refine r_callM (ds0 := [_, _, _]) [8, 2001, 2002, 2003] [] [false, false, true, true] (step_start_c N p0 v1 p2 v3 a3) (.p rfl) gd112 rfl ⟨rfl, rfl, rfl, trivial⟩ rfl rfl (by decide) ⟨rfl, rfl, rfl, rfl, trivial⟩ rfl (nodupL_spec rfl) trivial ⟨(fun _ => rfl), (fun _ => rfl), (fun h => by cases h), (fun h => by cases h), trivial⟩ rfl rfl rfl ?_
  refine r_store rfl rfl rfl rfl sz43 rfl (leb rfl) rfl (r_assign (.p rfl) rfl ?_)
  refine r_endD (by kernel_rfl) ?_
  obtain rfl := Option.some.inj h
  refine W_sees (sees_mkL (rn [(1000, 2001), (1001, 2002), (1002, 2003)]) [(6, .e (.one (.ptr 6 0))), (7, .e (.one (.pure (.val (.bool v3.1)))))] [(6, .box [.own 1000, .own 1001, .own 1002]), (1000, .vec 1 (v1.fBase.map eI64)), (1001, .vec 1 (v3.2.1.map eI64)), (1002, .vec 1 (v3.2.2.map eU8))] ⟨rfl, rfl, trivial⟩ ⟨rfl, rfl, rfl, rfl, trivial⟩ rfl rfl) (W_ret ?_)
  exact ⟨⟨[_, _], ⟨.cellN _ _ _ _ _ _ _ rfl rfl ag43 sz43 rfl rfl (ltb rfl), ⟨.tmp _ _ rfl, trivial⟩⟩, rfl⟩, ⟨rfl, rfl, rfl, trivial⟩⟩
 ·have h := cnd_f c2 h
  refine W_seq (W_region mixed rfl (r_bin (.p rfl) rfl rfl (bin_eql _ _ _ _ _ _) rfl (r_assign (.p rfl) rfl (r_end ?_))))
  refine W_cond rfl (fun c4 => ?_) (fun c4 => ?_)
  ·have h := cnd_t c4 h
   refine W_seq (W_region mixed rfl (r_loadN (.p rfl) rfl ag43 sz43 rfl rfl rfl (r_loadN (.p rfl) rfl ag30 sz30 rfl rfl rfl (r_fieldAddr (.p rfl) rfl fld63_1 (r_load1 (.p rfl) rfl ag3 rfl rfl ?_)))))
   obtain ⟨v5, a5, h⟩ := bind_some h
   refine r_callM (ds0 := [_, _, _]) [8, 2001, 2002, 2003] [] [false, false, false, true] (step_clear_c N p0 v1 p2.fIndex v5 a5) (.p rfl) gd113 rfl ⟨rfl, rfl, rfl, trivial⟩ rfl rfl (by decide) ⟨rfl, rfl, rfl, rfl, trivial⟩ rfl (nodupL_spec rfl) trivial ⟨(fun _ => rfl), (fun _ => rfl), (fun _ => rfl), (fun h => by cases h), trivial⟩ rfl rfl rfl ?_
   refine r_store rfl rfl rfl rfl sz43 rfl (leb rfl) rfl (r_assign (.p rfl) rfl ?_)
   refine r_endD (by kernel_rfl) ?_
   obtain rfl := Option.some.inj h
   refine W_sees (sees_mkL (rn [(1000, 2001), (1001, 2002), (1002, 2003)]) [(6, .e (.one (.ptr 6 0))), (7, .e (.one (.pure (.val (.bool v5.1)))))] [(6, .box [.own 1000, .own 1001, .own 1002]), (1000, .vec 1 (v1.fBase.map eI64)), (1001, .vec 1 (v1.fNext.map eI64)), (1002, .vec 1 (v5.2.map eU8))] ⟨rfl, rfl, trivial⟩ ⟨rfl, rfl, rfl, rfl, trivial⟩ rfl rfl) (W_ret ?_)
   exact ⟨⟨[_, _], ⟨.cellN _ _ _ _ _ _ _ rfl rfl ag43 sz43 rfl rfl (ltb rfl), ⟨.tmp _ _ rfl, trivial⟩⟩, rfl⟩, ⟨rfl, rfl, rfl, trivial⟩⟩
  ·have h := cnd_f c4 h
   refine W_skip (W_seq (W_region mixed rfl (r_fieldAddr (.p rfl) rfl fld43_1 (r_load1 (.p rfl) rfl ag27 rfl rfl (r_fieldAddr (.p rfl) rfl fld63_1 (r_load1 (.p rfl) rfl ag3 rfl rfl ?_))))))
   obtain ⟨v6, a6, b6, h⟩ := idx_bind h
   refine r_indexo (.p rfl) rfl rfl rfl slc27 sz3 a6 (map_get b6) (r_loade1 (.p rfl) rfl ag3 rfl (map_get b6) rfl (r_assign (.p rfl) rfl (r_end (W_seq (W_seq (W_region mixed rfl (r_move (.p rfl) rfl (r_bin (.p rfl) rfl rfl (bin_lss _ _ _ _ _ _) rfl (r_end ?_)))))))))
   refine W_cond rfl (fun c7 => ?_) (fun c7 => ?_)
   ·have h := cnd_t c7 h
    refine W_seq (W_region mixed rfl (r_loadN (.p rfl) rfl ag43 sz43 rfl rfl rfl (r_store rfl rfl rfl rfl sz43 rfl (leb rfl) rfl (r_assign (.p rfl) rfl (r_end ?_)))))
    obtain rfl := Option.some.inj h
    refine W_sees (sees_mkL (rn [(1000, 2001), (1001, 2002), (1002, 2003)]) [(6, .e (.one (.ptr 6 0))), (7, .e (.one (.pure (.val (.bool false)))))] [(6, .box [.own 1000, .own 1001, .own 1002]), (1000, .vec 1 (v1.fBase.map eI64)), (1001, .vec 1 (v1.fNext.map eI64)), (1002, .vec 1 (v1.fHeld.map eU8))] ⟨rfl, rfl, trivial⟩ ⟨rfl, rfl, rfl, rfl, trivial⟩ rfl rfl) (W_ret ?_)
    exact ⟨⟨[_, _], ⟨.cellN _ _ _ _ _ _ _ rfl rfl ag43 sz43 rfl rfl (ltb rfl), ⟨.tmp _ _ rfl, trivial⟩⟩, rfl⟩, ⟨rfl, rfl, rfl, trivial⟩⟩
   ·have h := cnd_f c7 h
    refine W_skip (W_seq (W_region mixed rfl (r_fieldAddr (.p rfl) rfl fld43_1 (r_load1 (.p rfl) rfl ag27 rfl rfl (r_fieldAddr (.p rfl) rfl fld63_1 (r_load1 (.p rfl) rfl ag3 rfl rfl ?_))))))
    obtain ⟨v8, a8, b8, h⟩ := idx_bind h
    refine r_indexo (.p rfl) rfl rfl rfl slc27 sz3 a8 (map_get b8) (r_storee rfl rfl rfl rfl (map_get b8) rfl sz3 rfl (leb rfl) (map_setv eI64 v1.fNext _ ((-1))) (r_end ?_))
    refine W_join h (fun v9 => mk [(6, .e (.one (.ptr 6 0))), (8, .e (.one (.ptr 8 0)))] [(6, .box [.pure (.nil0), .pure (.nil0), .pure (.nil0)]), (8, .box [.own 2004, .own 2005, .own 2006]), (2004, .vec 1 (v9.map eI64)), (2005, .vec 1 ((v1.fNext.set (p2.fIndex).toNat ((-1))).map eI64)), (2006, .vec 1 (v1.fHeld.map eU8))]) (fun j9 h => ?_) (fun v9 h => ?_)
    ·refine W_seq (W_region mixed rfl (r_fieldAddr (.p rfl) rfl fld63_0 (r_load1 (.p rfl) rfl ag3 rfl rfl (r_bin (.p rfl) rfl rfl (bin_eql _ _ _ _ _ _) rfl (r_end ?_)))))
     refine W_cond rfl (fun c10 => ?_) (fun c10 => ?_)
     ·have h := cnd_t c10 h
      refine W_region mixed rfl (r_fieldAddr (.p rfl) rfl fld43_0 (r_load1 (.p rfl) rfl ag27 rfl rfl (r_fieldAddr (.p rfl) rfl fld63_1 (r_load1 (.p rfl) rfl ag3 rfl rfl (r_move (.p rfl) rfl ?_)))))
      obtain ⟨v11, a11, b11, h⟩ := idx_bind h
      refine r_indexo (.p rfl) rfl rfl rfl slc27 sz3 a11 (map_get b11) (r_storee rfl rfl rfl rfl (map_get b11) rfl sz3 rfl (leb rfl) (map_setv eI64 v1.fBase _ v6) (r_end ?_))
      exact sink (v1.fBase.set (p2.fIndex).toNat v6) h (sees_mkL (rn [(2004, 2001), (2005, 2002), (2006, 2003)]) _ _ ⟨rfl, rfl, trivial⟩ ⟨rfl, rfl, rfl, rfl, rfl, trivial⟩ rfl rfl)
     ·have h := cnd_f c10 h
      refine W_skip ?_
      exact sink v1.fBase h (sees_mkL (rn [(2004, 2001), (2005, 2002), (2006, 2003)]) _ _ ⟨rfl, rfl, trivial⟩ ⟨rfl, rfl, rfl, rfl, rfl, trivial⟩ rfl rfl)
    ·refine W_seq (W_region mixed rfl (r_loadN (.p rfl) rfl ag43 sz43 rfl rfl rfl (r_store rfl rfl rfl rfl sz43 rfl (leb rfl) rfl (r_assign (.p rfl) rfl (r_end ?_)))))
     obtain rfl := Option.some.inj h
     refine W_sees (sees_mkL (rn [(1000, 2004), (1001, 2005), (1002, 2006)]) [(6, .e (.one (.ptr 6 0))), (7, .e (.one (.pure (.val (.bool true)))))] [(6, .box [.own 1000, .own 1001, .own 1002]), (1000, .vec 1 (v9.map eI64)), (1001, .vec 1 ((v1.fNext.set (p2.fIndex).toNat ((-1))).map eI64)), (1002, .vec 1 (v1.fHeld.map eU8))] ⟨rfl, rfl, trivial⟩ ⟨rfl, rfl, rfl, rfl, trivial⟩ rfl rfl) (W_ret ?_)
     exact ⟨⟨[_, _], ⟨.cellN _ _ _ _ _ _ _ rfl rfl ag43 sz43 rfl rfl (ltb rfl), ⟨.tmp _ _ rfl, trivial⟩⟩, rfl⟩, ⟨rfl, rfl, rfl, trivial⟩⟩
set_option maxRecDepth 10000 in
theorem step_Enabled_1_c (N : Nat) (p0 : ApiStep) (p1 : List Int) (p2 : List Int) (p3 : List Int) (p4 : List ApiTable) (p5 : List Int) (p6 : List Int) (p7 : List Int) (r : Bool) (h : Sh.step_Enabled_1 N p0 p1 p2 p3 p4 p5 p6 p7 = some r) : Contract Try.prog 105 [.e (.agg [.pure (.val (.int .i64 p0.fKind)), .pure (.val (.int .i64 p0.fIndex)), .pure (.val (.int .i64 p0.fVersion))]), .e (.one (.rop [.sl (p1.map eI64), .sl (p2.map eI64), .sl (p3.map eI64), .sl (p4.map eApiTable)])), .e (.one (.rop [.sl (p5.map eI64), .sl (p6.map eI64), .sl (p7.map eU8)]))] [] (.e (.one (.pure (.val (.bool r))))) := by
 unfold Sh.step_Enabled_1 at h
 refine contract_of_W (n := 16) (rs := [.tmp 4]) Try.func105 rfl rfl rfl (leb rfl) (leb rfl) rfl fun w0 S0 => ?_
 refine W_seq (W_region mixed rfl (r_box (.p rfl) rfl rfl (r_assign (.p rfl) rfl (r_end (W_seq (W_region mixed rfl (r_loadrN (.p rfl) rfl ag30 sz30 rfl rfl (r_loadrN (.p rfl) rfl ag43 sz43 rfl rfl (r_loadN (.p rfl) rfl ag63 sz63 rfl rfl rfl ?_)))))))))
 obtain ⟨v1, a1, h⟩ := bind_some h
 refine r_call (ds0 := [_, _, _]) [2001, 2002, 2003] (step_after_c N ((ApiProblem.mk p1 p2 p3 p4)) ((ApiMix.mk p5 p6 p7)) p0 v1 a1) (.p rfl) gd102 rfl ⟨rfl, rfl, rfl, trivial⟩ rfl rfl rfl (nodupL_spec rfl) ⟨rfl, rfl, rfl, trivial⟩ rfl (r_move (.p rfl) rfl (r_extract (.p rfl) rfl rfl (r_extract (.p rfl) rfl rfl (r_alloc (.p rfl) zv43 rfl rfl rfl (r_store rfl rfl rfl rfl sz43 rfl (leb rfl) rfl (r_assign (.p rfl) rfl (r_end (W_seq (W_region mixed rfl (r_move (.p rfl) rfl (r_un (.p rfl) rfl (un_not _) rfl (r_assign (.p rfl) rfl (r_end ?_)))))))))))))
 obtain rfl := Option.some.inj h
 refine W_sees (sees_mkL (rn []) [(4, .e (.one (.pure (.val (.bool ((!v1.2)))))))] [] ⟨rfl, trivial⟩ trivial rfl rfl) (W_ret ?_)
 exact ⟨⟨[_], ⟨.tmp _ _ rfl, trivial⟩, rfl⟩, trivial⟩
set_option maxRecDepth 10000 in
theorem slices_IndexFunc_api_Step_api_Step_c (N : Nat) (p0 : List ApiStep) (p1 : ApiStep → Option Bool) (r : Int) (h : Sh.slices_IndexFunc_api_Step_api_Step N p0 p1 = some r) : Contract Try.prog 114 [.e (.one (.pure (.sl (p0.map eApiStep)))), .e (.one (.clo (cloG (ea1 true eApiStep) tB p1)))] [] (.e (.one (.pure (.val (.int .i64 r))))) := by
 unfold Sh.slices_IndexFunc_api_Step_api_Step at h
 refine contract_of_W (n := 19) (rs := [.tmp 4]) Try.func114 rfl rfl rfl (leb rfl) (leb rfl) rfl fun w0 S0 => ?_
 refine W_seq (W_region mixed rfl (r_assign (.p rfl) rfl (r_end (W_seq (W_seq (W_region mixed rfl (r_move (.p rfl) rfl (r_len (.p rfl) rfl (.sl _) trivial (List.length_map _) slc33 (r_move (.p rfl) rfl (r_end ?_))))))))))
 refine W_whileE (L := Sh.slices_IndexFunc_api_Step_api_Step_L1 N p0 p1) h (fun v1 => mk [(0, .e (.one (.pure (.sl (p0.map eApiStep))))), (1, .e (.one (.clo (cloG (ea1 true eApiStep) tB p1)))), (7, .e (.one (.pure (.val (.int .i64 ((p0.length : Int))))))), (8, .e (.one (.pure (.val (.int .i64 v1)))))] []) (fun v2 => mk [] []) (fun _ _ => rfl) (sees_mkL (rn []) _ _ ⟨rfl, rfl, rfl, rfl, trivial⟩ trivial rfl rfl) (fun j1 n1 v1 h => ?_) (fun v2 s h hs => ?_)
 ·unfold Sh.slices_IndexFunc_api_Step_api_Step_L1 at h
  refine W_seq (W_region mixed rfl (r_bin (.p rfl) rfl rfl (bin_lss _ _ _ _ _ _) rfl (r_end (W_seq ?_))))
  refine W_cond rfl (fun c3 => ?_) (fun c3 => ?_)
  ·have h := cnd_t c3 h
   refine W_skip (W_seq (W_block (W_seq (W_region mixed rfl (r_move (.p rfl) rfl (r_assign (.p rfl) rfl (r_end (W_seq (W_region mixed rfl (r_move (.p rfl) rfl (r_move (.p rfl) rfl (r_move (.p rfl) rfl ?_))))))))))))
   obtain ⟨v4, a4, b4, h⟩ := idx_bind h
   refine r_index (.p rfl) rfl rfl slc33 sz63 a4 (map_get b4) rfl (r_loadrN (.p rfl) rfl ag63 sz63 rfl rfl ?_)
   obtain ⟨v5, a5, h⟩ := bind_some h
   refine r_callv (ds0 := [_]) (ar := (ea1 true eApiStep) v4) (.p rfl) rfl rfl ⟨rfl, trivial⟩ rfl rfl rfl (cloG_at (inj_ea1 _ _ injApiStep) a5) ?_
   refine r_end ?_
   refine W_cond rfl (fun c6 => ?_) (fun c6 => ?_)
   ·have h := cnd_t c6 h
    refine W_seq (W_region mixed rfl (r_move (.p rfl) rfl (r_assign (.p rfl) rfl (r_end ?_))))
    obtain rfl := Option.some.inj h
    refine W_sees (sees_mkL (rn []) [(4, .e (.one (.pure (.val (.int .i64 v1)))))] [] ⟨rfl, trivial⟩ trivial rfl rfl) (W_ret ?_)
    exact ⟨⟨[_], ⟨.tmp _ _ rfl, trivial⟩, rfl⟩, trivial⟩
   ·have h := cnd_f c6 h
    refine W_skip (W_region mixed rfl (r_bin (.p rfl) rfl rfl (bin_add _ _ _ _ _ _) rfl (r_move (.p rfl) rfl (r_end ?_))))
    exact sink (IntKind.wrap .i64 (v1 + 1)) h (sees_mkL (rn []) _ _ ⟨rfl, rfl, rfl, rfl, trivial⟩ trivial rfl rfl)
  ·have h := cnd_f c3 h
   refine W_exit ?_
   exact sink () h (sees_mkL (rn []) _ _ trivial trivial rfl rfl)
 ·refine W_sees hs (W_seq (W_region mixed rfl (r_assign (.p rfl) rfl (r_end ?_))))
  obtain rfl := Option.some.inj h
  refine W_sees (sees_mkL (rn []) [(4, .e (.one (.pure (.val (.int .i64 ((-1)))))))] [] ⟨rfl, trivial⟩ trivial rfl rfl) (W_ret ?_)
  exact ⟨⟨[_], ⟨.tmp _ _ rfl, trivial⟩, rfl⟩, trivial⟩
set_option maxRecDepth 10000 in
theorem slices_DeleteFunc_api_Step_api_Step_c (N : Nat) (p0 : List ApiStep) (p1 : ApiStep → Option Bool) (r : Nat × (List ApiStep)) (h : Sh.slices_DeleteFunc_api_Step_api_Step N p0 p1 = some r) : ContractM Try.prog 103 [.e (.one (.own 90000)), .e (.one (.clo (cloG (ea1 true eApiStep) tB p1)))] [(.vec 3 (p0.map eApiStep), .vec 3 (r.2.map eApiStep))] [] (.e (.one (.view 90000 3 0 r.1))) := by
 unfold Sh.slices_DeleteFunc_api_Step_api_Step at h
 refine contractM_of_W (n := 42) (rs := [.tmp 4]) Try.func103 rfl rfl rfl (leb rfl) (leb rfl) rfl rfl (leb rfl) rfl (leb rfl) fun w0 S0 GL => ?_
 refine W_sees (sees_mkL (rn []) [(0, .e (.one (.own 90000))), (1, .e (.one (.clo (cloG (ea1 true eApiStep) tB p1))))] [(90000, .vec 3 (p0.map eApiStep))] ⟨rfl, rfl, trivial⟩ ⟨rfl, trivial⟩ rfl rfl) (W_seq (W_region mixed rfl (r_assign (.p rfl) rfl (r_end (W_seq (W_region mixed rfl (r_move (.p rfl) rfl (r_move (.p rfl) rfl ?_))))))))
 obtain ⟨v1, a1, h⟩ := bind_some h
 refine r_callL (ds0 := [_, _]) [] [(90000, _)] (slices_IndexFunc_api_Step_api_Step_c N p0 p1 v1 a1) (.p rfl) gd114 rfl ⟨rfl, rfl, trivial⟩ ⟨rfl, trivial⟩ rfl rfl rfl (nodupL_spec rfl) trivial rfl flatV_nil rfl (r_assign (.p rfl) rfl (r_end (W_seq (W_seq (W_region mixed rfl (r_move (.p rfl) rfl (r_bin (.p rfl) rfl rfl (bin_eql _ _ _ _ _ _) rfl (r_end ?_))))))))
 refine W_cond rfl (fun c2 => ?_) (fun c2 => ?_)
 ·have h := cnd_t c2 h
  refine W_seq (W_region mixed rfl (r_move (.p rfl) rfl (r_assign (.p rfl) rfl (r_end ?_))))
  obtain rfl := Option.some.inj h
  refine W_sees ((ts_view eApiStep p0 4 90000 3 rfl rfl).trans (sees_mkL (rn []) [(4, .e (.one (.view 90000 3 0 p0.length)))] [(90000, .vec 3 (p0.map eApiStep))] ⟨rfl, trivial⟩ ⟨rfl, trivial⟩ rfl rfl)) (W_ret ?_)
  exact ⟨⟨[_], ⟨.tmp _ _ rfl, trivial⟩, rfl⟩, ⟨rfl, trivial⟩, trivial⟩
 ·have h := cnd_f c2 h
  refine W_skip (W_seq (W_seq (W_region mixed rfl (r_move (.p rfl) rfl (r_bin (.p rfl) rfl rfl (bin_add _ _ _ _ _ _) rfl (r_assign (.p rfl) rfl (r_end ?_)))))))
  refine W_whileE (L := Sh.slices_DeleteFunc_api_Step_api_Step_L3 N p1) h (fun v3 => mk [(0, .e (.one (.own 90000))), (1, .e (.one (.clo (cloG (ea1 true eApiStep) tB p1)))), (5, .e (.one (.pure (.val (.int .i64 v3.2.1))))), (6, .e (.one (.pure (.val (.int .i64 v3.2.2)))))] [(90000, .vec 3 (v3.1.map eApiStep))]) (fun v4 => mk [(0, .e (.one (.own 90000))), (5, .e (.one (.pure (.val (.int .i64 v4.2)))))] [(90000, .vec 3 (v4.1.map eApiStep))]) (fun _ _ => rfl) (sees_mkL (rn []) _ _ ⟨rfl, rfl, rfl, rfl, trivial⟩ ⟨rfl, trivial⟩ rfl rfl) (fun j3 n3 v3 h => ?_) (fun v4 s h hs => ?_)
  ·unfold Sh.slices_DeleteFunc_api_Step_api_Step_L3 at h
   refine W_seq (W_seq (W_region mixed rfl (r_move (.p rfl) rfl (r_move (.p rfl) rfl (r_len (.p rfl) rfl (.own _ _ _) ⟨rfl, trivial⟩ (List.length_map _) slc33 (r_bin (.p rfl) rfl rfl (bin_lss _ _ _ _ _ _) rfl (r_end ?_)))))))
   refine W_cond rfl (fun c5 => ?_) (fun c5 => ?_)
   ·have h := cnd_t c5 h
    refine W_skip ?_
    refine W_join h (fun v6 => mk [(0, .e (.one (.own 90000))), (1, .e (.one (.clo (cloG (ea1 true eApiStep) tB p1)))), (5, .e (.one (.pure (.val (.int .i64 v6.2))))), (6, .e (.one (.pure (.val (.int .i64 v3.2.2)))))] [(90000, .vec 3 (v6.1.map eApiStep))]) (fun j6 h => ?_) (fun v6 h => ?_)
    ·refine W_block (W_seq (W_region mixed rfl (r_move (.p rfl) rfl (r_move (.p rfl) rfl ?_))))
     obtain ⟨v7, a7, b7, h⟩ := idx_bind h
     refine r_indexo (.p rfl) rfl rfl rfl slc33 sz63 a7 (map_get b7) (r_loadeN (.p rfl) rfl ag63 sz63 rfl (map_get b7) (r_alloc (.p rfl) zv63 rfl rfl rfl (r_store rfl rfl rfl rfl sz63 rfl (leb rfl) rfl (r_end (W_seq (W_region mixed rfl (r_move (.p rfl) rfl (r_loadN (.p rfl) rfl ag63 sz63 rfl rfl rfl ?_))))))))
     obtain ⟨v8, a8, h⟩ := bind_some h
     refine r_callv (ds0 := [_]) (ar := (ea1 true eApiStep) v7) (.p rfl) rfl rfl ⟨rfl, trivial⟩ rfl rfl rfl (cloG_at (inj_ea1 _ _ injApiStep) a8) ?_
     refine r_un (.p rfl) rfl (un_not _) rfl (r_end ?_)
     refine W_cond rfl (fun c9 => ?_) (fun c9 => ?_)
     ·have h := cnd_t c9 h
      refine W_seq (W_region mixed rfl (r_move (.p rfl) rfl (r_move (.p rfl) rfl (r_loadN (.p rfl) rfl ag63 sz63 rfl rfl rfl ?_))))
      obtain ⟨v10, a10, b10, h⟩ := idx_bind h
      refine r_indexo (.p rfl) rfl rfl rfl slc33 sz63 a10 (map_get b10) (r_storee rfl rfl rfl rfl (map_get b10) rfl sz63 rfl (leb rfl) (map_setv eApiStep v3.1 _ v7) (r_end (W_region mixed rfl (r_move (.p rfl) rfl (r_bin (.p rfl) rfl rfl (bin_add _ _ _ _ _ _) rfl (r_assign (.p rfl) rfl (r_end ?_)))))))
      exact sink (v3.1.set (v3.2.1).toNat v7, (IntKind.wrap .i64 (v3.2.1 + 1))) h (sees_mkL (rn []) _ _ ⟨rfl, rfl, rfl, rfl, trivial⟩ ⟨rfl, trivial⟩ rfl rfl)
     ·have h := cnd_f c9 h
      refine W_skip ?_
      exact sink (v3.1, v3.2.1) h (sees_mkL (rn []) _ _ ⟨rfl, rfl, rfl, rfl, trivial⟩ ⟨rfl, trivial⟩ rfl rfl)
    ·refine W_region mixed rfl (r_move (.p rfl) rfl (r_bin (.p rfl) rfl rfl (bin_add _ _ _ _ _ _) rfl (r_assign (.p rfl) rfl (r_end ?_))))
     exact sink (v6.1, v6.2, (IntKind.wrap .i64 (v3.2.2 + 1))) h (sees_mkL (rn []) _ _ ⟨rfl, rfl, rfl, rfl, trivial⟩ ⟨rfl, trivial⟩ rfl rfl)
   ·have h := cnd_f c5 h
    refine W_exit ?_
    exact sink (v3.1, v3.2.1) h (sees_mkL (rn []) _ _ ⟨rfl, rfl, trivial⟩ ⟨rfl, trivial⟩ rfl rfl)
  ·refine W_sees hs (W_seq (W_region mixed rfl (r_move (.p rfl) rfl (r_move (.p rfl) rfl ?_))))
   obtain ⟨c11, h⟩ := chk_bind h
   have w12 : ((v4.2).toNat) + ((v4.1.length - (v4.2).toNat)) ≤ v4.1.length := by have := c11.2.1; have := c11.2.2; omega
   refine rt_slice eApiStep v4.1 (.p rfl) rfl (dstV_own eApiStep _ _ v4.1) rfl slc33 sz63 (.some _ _ _ _ c11.1) (.none _) ⟨rfl, trivial⟩ trivial c11.2.1 (by rw [Nat.zero_add]; exact c11.2.2) (Nat.zero_add _) rfl ?_
   have w13 : (spl v4.1 ((v4.2).toNat) (List.replicate ((v4.1.length - (v4.2).toNat)) ((ApiStep.mk 0 0 0)))).length = v4.1.length := spl_length (by rw [List.length_replicate]; exact w12)
   refine rt_clear eApiStep v4.1 ((ApiStep.mk 0 0 0)) rfl rfl (dstV_view eApiStep _ _ ((v4.2).toNat) ((v4.1.length - (v4.2).toNat)) v4.1 w12) rfl slc33 zv63 rfl rfl rfl rfl ?_
   refine r_end (W_seq (W_region mixed rfl (r_move (.p rfl) rfl (r_move (.p rfl) rfl ?_))))
   obtain ⟨c14, h⟩ := chk_bind h
   have w15 : 0 + ((v4.2).toNat) ≤ (spl v4.1 ((v4.2).toNat) (List.replicate ((v4.1.length - (v4.2).toNat)) ((ApiStep.mk 0 0 0)))).length := by have := c14.2.1; have := c14.2.2; omega
   refine rt_slice eApiStep (spl v4.1 ((v4.2).toNat) (List.replicate ((v4.1.length - (v4.2).toNat)) ((ApiStep.mk 0 0 0)))) (.p rfl) rfl (dstV_own eApiStep _ _ (spl v4.1 ((v4.2).toNat) (List.replicate ((v4.1.length - (v4.2).toNat)) ((ApiStep.mk 0 0 0))))) rfl slc33 sz63 (.none _) (.some _ _ _ _ c14.1) trivial ⟨rfl, trivial⟩ c14.2.1 (by rw [Nat.zero_add]; exact c14.2.2) (Nat.zero_add _) rfl ?_
   refine r_assign (.p rfl) rfl (r_end ?_)
   obtain rfl := Option.some.inj h
   refine W_sees (sees_mkL (rn []) [(4, .e (.one (.view 90000 3 0 ((v4.2).toNat))))] [(90000, .vec 3 ((spl v4.1 ((v4.2).toNat) (List.replicate ((v4.1.length - (v4.2).toNat)) ((ApiStep.mk 0 0 0)))).map eApiStep))] ⟨rfl, trivial⟩ ⟨rfl, trivial⟩ rfl rfl) (W_ret ?_)
   exact ⟨⟨[_], ⟨.tmp _ _ rfl, trivial⟩, rfl⟩, ⟨rfl, trivial⟩, trivial⟩
set_option maxRecDepth 10000 in
theorem step_Enabled_c (N : Nat) (p0 : ApiProblem) (p1 : ApiMix) (r : (List ApiStep) × Int) (h : Sh.step_Enabled N p0 p1 = some r) : Contract Try.prog 87 [.e (.agg [.pure (.sl (p0.fVersions.map eI64)), .pure (.sl (p0.fNow.map eI64)), .pure (.sl (p0.fTarget.map eI64)), .pure (.sl (p0.fTables.map eApiTable))]), .e (.agg [.pure (.sl (p1.fBase.map eI64)), .pure (.sl (p1.fNext.map eI64)), .pure (.sl (p1.fHeld.map eU8))])] [(3, r.1.map eApiStep)] (.tup [.one (.own 0), .one (.pure (.val (.int .i64 r.2)))]) := by
 unfold Sh.step_Enabled at h
 refine contract_of_W (n := 17) (rs := [.tmp 4, .tmp 5]) Try.func87 rfl rfl rfl (leb rfl) (leb rfl) rfl fun w0 S0 => ?_
 refine W_seq (W_region mixed rfl (r_box (.p rfl) rfl rfl (r_box (.p rfl) rfl rfl (r_assign (.p rfl) rfl (r_assign (.p rfl) rfl (r_end (W_seq (W_seq (W_region mixed rfl (r_loadN (.p rfl) rfl ag30 sz30 rfl rfl rfl (r_loadN (.p rfl) rfl ag43 sz43 rfl rfl rfl ?_)))))))))))
 obtain ⟨v1, a1, h⟩ := bind_some h
 refine r_call (ds0 := [_, _]) [] (mix_Valid_c N p0 p1 v1 a1) (.p rfl) gd77 rfl ⟨rfl, rfl, trivial⟩ rfl rfl rfl (nodupL_spec rfl) trivial rfl (r_assign (.p rfl) rfl (r_end (W_seq (W_region mixed rfl (r_move (.p rfl) rfl (r_bin (.p rfl) rfl rfl (bin_neq _ _ _ _ _ _) rfl (r_end ?_)))))))
 refine W_cond rfl (fun c2 => ?_) (fun c2 => ?_)
 ·have h := cnd_t c2 h
  refine W_seq (W_region mixed rfl (r_move (.p rfl) rfl (r_assign (.p rfl) rfl (r_assign (.p rfl) rfl (r_end ?_)))))
  obtain rfl := Option.some.inj h
  refine W_sees ((sees_adopt 4 2001 3 rfl rfl rfl).trans (sees_mkL (rn [(1000, 2001)]) [(4, .e (.one (.own 1000))), (5, .e (.one (.pure (.val (.int .i64 v1)))))] [(1000, .vec 3 ((([] : List ApiStep)).map eApiStep))] ⟨rfl, rfl, trivial⟩ ⟨rfl, trivial⟩ rfl rfl)) (W_ret ?_)
  exact ⟨⟨[_, _], ⟨.tmp _ _ rfl, ⟨.tmp _ _ rfl, trivial⟩⟩, rfl⟩, ⟨rfl, trivial⟩⟩
 ·have h := cnd_f c2 h
  refine W_skip (W_seq (W_region mixed rfl (r_loadN (.p rfl) rfl ag30 sz30 rfl rfl rfl ?_)))
  obtain ⟨v3, a3, h⟩ := bind_some h
  refine r_call (ds0 := [_]) [2002] (step_all_c N p0 v3 a3) (.p rfl) gd104 rfl ⟨rfl, trivial⟩ rfl rfl rfl (nodupL_spec rfl) ⟨rfl, trivial⟩ rfl (r_see (sees_fzb 2 [.sl (p0.fVersions.map eI64), .sl (p0.fNow.map eI64), .sl (p0.fTarget.map eI64), .sl (p0.fTables.map eApiTable)] rfl rfl) (r_see (sees_fzb 3 [.sl (p1.fBase.map eI64), .sl (p1.fNext.map eI64), .sl (p1.fHeld.map eU8)] rfl rfl) ?_))
  refine r_makeFunc (capD := [_, _]) (cloG (ea1 true eApiStep) tB ((fun (x : ApiStep) => Sh.step_Enabled_1 N x p0.fVersions p0.fNow p0.fTarget p0.fTables p1.fBase p1.fNext p1.fHeld))) (.p rfl) gd105 rfl ⟨rfl, rfl, trivial⟩ rfl (fun ar t ht => by obtain ⟨x, r, rfl, hq, rfl⟩ := cloG_some ht; exact step_Enabled_1_c N x p0.fVersions p0.fNow p0.fTarget p0.fTables p1.fBase p1.fNext p1.fHeld r hq) ?_
  obtain ⟨v4, a4, h⟩ := bind_some h
  obtain ⟨c5, h⟩ := chk_bind h
  have w6 : 0 + v4.1 ≤ v4.2.length := by rw [Nat.zero_add]; exact c5
  refine r_callM (ds0 := [_, _]) [2002] [] [true] (slices_DeleteFunc_api_Step_api_Step_c N v3 ((fun (x : ApiStep) => Sh.step_Enabled_1 N x p0.fVersions p0.fNow p0.fTarget p0.fTables p1.fBase p1.fNext p1.fHeld)) v4 a4) (.p rfl) gd103 rfl ⟨rfl, rfl, trivial⟩ rfl rfl (by decide) ⟨rfl, trivial⟩ rfl (nodupL_spec rfl) trivial ⟨(fun h => by cases h), trivial⟩ rfl rfl rfl ?_
  refine r_see (ts_cut eApiStep v4.2 16 2002 2003 3 v4.1 rfl rfl rfl rfl rfl c5) (r_assign (.p rfl) rfl (r_assign (.p rfl) rfl (r_end ?_)))
  obtain rfl := Option.some.inj h
  refine W_sees (sees_mkL (rn [(1000, 2003)]) [(4, .e (.one (.own 1000))), (5, .e (.one (.pure (.val (.int .i64 0)))))] [(1000, .vec 3 ((v4.2.take v4.1).map eApiStep))] ⟨rfl, rfl, trivial⟩ ⟨rfl, trivial⟩ rfl rfl) (W_ret ?_)
  exact ⟨⟨[_, _], ⟨.tmp _ _ rfl, ⟨.tmp _ _ rfl, trivial⟩⟩, rfl⟩, ⟨rfl, trivial⟩⟩
set_option maxRecDepth 10000 in
theorem step_valid_c (N : Nat) (p0 : ApiStep) (r : Bool) (h : Sh.step_valid N p0 = some r) : Contract Try.prog 100 [.e (.agg [.pure (.val (.int .i64 p0.fKind)), .pure (.val (.int .i64 p0.fIndex)), .pure (.val (.int .i64 p0.fVersion))])] [] (.e (.one (.pure (.val (.bool r))))) := by
 unfold Sh.step_valid at h
 refine contract_of_W (n := 27) (rs := [.tmp 2]) Try.func100 rfl rfl rfl (leb rfl) (leb rfl) rfl fun w0 S0 => ?_
 refine W_seq (W_region mixed rfl (r_box (.p rfl) rfl rfl (r_assign (.p rfl) rfl (r_end (W_seq ?_)))))
 refine W_join h (fun v1 => mk [(1, .e (.one (.ptr 1 0))), (18, .e (.one (.pure (.val (.bool v1)))))] [(1, .box [.pure (.val (.int .i64 p0.fKind)), .pure (.val (.int .i64 p0.fIndex)), .pure (.val (.int .i64 p0.fVersion))])]) (fun j1 h => ?_) (fun v1 h => ?_)
 ·refine W_region mixed rfl (r_fieldAddr (.p rfl) rfl fld63_1 (r_load1 (.p rfl) rfl ag3 rfl rfl (r_fieldAddr (.p rfl) rfl fld63_2 (r_load1 (.p rfl) rfl ag3 rfl rfl ?_))))
  refine r_min (.p rfl) rfl rfl ?_
  refine r_bin (.p rfl) rfl rfl (bin_lss _ _ _ _ _ _) rfl (r_move (.p rfl) rfl ?_)
  refine r_split (t := 9) rfl (fun c2 => ?_) (fun c2 => ?_)
  ·have h := cnd_t c2 h
   refine r_notB rfl rfl (r_notB rfl rfl (r_notB rfl rfl (r_pick (.p rfl) rfl rfl rfl (r_move (.p rfl) rfl (r_notB rfl rfl (r_notB rfl rfl (r_notB rfl rfl (r_pick (.p rfl) rfl rfl rfl (r_end ?_)))))))))
   exact sink true h (sees_mkL (rn []) _ _ ⟨rfl, rfl, trivial⟩ ⟨rfl, trivial⟩ rfl rfl)
  ·have h := cnd_f c2 h
   refine r_fieldAddr (.g rfl rfl) rfl fld63_0 (r_load1 (.g rfl rfl) rfl ag3 rfl rfl (r_bin (.g rfl rfl) rfl rfl (bin_lss _ _ _ _ _ _) rfl (r_pick (.p rfl) rfl rfl rfl (r_move (.p rfl) rfl ?_))))
   refine r_split (t := 14) rfl (fun c3 => ?_) (fun c3 => ?_)
   ·have h := cnd_t c3 h
    refine r_notB rfl rfl (r_notB rfl rfl (r_notB rfl rfl (r_pick (.p rfl) rfl rfl rfl (r_end ?_))))
    exact sink true h (sees_mkL (rn []) _ _ ⟨rfl, rfl, trivial⟩ ⟨rfl, trivial⟩ rfl rfl)
   ·have h := cnd_f c3 h
    refine r_fieldAddr (.g rfl rfl) rfl fld63_0 (r_load1 (.g rfl rfl) rfl ag3 rfl rfl (r_bin (.g rfl rfl) rfl rfl (bin_gtr _ _ _ _ _ _) rfl (r_pick (.p rfl) rfl rfl rfl (r_end ?_))))
    exact sink (decide (4 < p0.fKind)) h (sees_mkL (rn []) _ _ ⟨rfl, rfl, trivial⟩ ⟨rfl, trivial⟩ rfl rfl)
 ·refine W_cond rfl (fun c4 => ?_) (fun c4 => ?_)
  ·have h := cnd_t c4 h
   refine W_seq (W_region mixed rfl (r_assign (.p rfl) rfl (r_end ?_)))
   obtain rfl := Option.some.inj h
   refine W_sees (sees_mkL (rn []) [(2, .e (.one (.pure (.val (.bool false)))))] [] ⟨rfl, trivial⟩ trivial rfl rfl) (W_ret ?_)
   exact ⟨⟨[_], ⟨.tmp _ _ rfl, trivial⟩, rfl⟩, trivial⟩
  ·have h := cnd_f c4 h
   refine W_skip ?_
   refine W_join h (fun v5 => mk [(2, .e (.one (.pure (.val (.bool v5)))))] []) (fun j5 h => ?_) (fun v5 h => ?_)
   ·refine W_region mixed rfl (r_fieldAddr (.p rfl) rfl fld63_0 (r_load1 (.p rfl) rfl ag3 rfl rfl (r_bin (.p rfl) rfl rfl (bin_eql _ _ _ _ _ _) rfl (r_move (.p rfl) rfl ?_))))
    refine r_split (t := 22) rfl (fun c6 => ?_) (fun c6 => ?_)
    ·have h := cnd_t c6 h
     refine r_notB rfl rfl (r_notB rfl rfl (r_notB rfl rfl (r_pick (.p rfl) rfl rfl rfl (r_assign (.p rfl) rfl (r_end ?_)))))
     exact sink true h (sees_mkL (rn []) _ _ ⟨rfl, trivial⟩ trivial rfl rfl)
    ·have h := cnd_f c6 h
     refine r_fieldAddr (.g rfl rfl) rfl fld63_2 (r_load1 (.g rfl rfl) rfl ag3 rfl rfl (r_bin (.g rfl rfl) rfl rfl (bin_eql _ _ _ _ _ _) rfl (r_pick (.p rfl) rfl rfl rfl (r_assign (.p rfl) rfl (r_end ?_)))))
     exact sink (p0.fVersion == 0) h (sees_mkL (rn []) _ _ ⟨rfl, trivial⟩ trivial rfl rfl)
   ·obtain rfl := Option.some.inj h
    refine W_sees (sees_mkL (rn []) [(2, .e (.one (.pure (.val (.bool v5)))))] [] ⟨rfl, trivial⟩ trivial rfl rfl) (W_ret ?_)
    exact ⟨⟨[_], ⟨.tmp _ _ rfl, trivial⟩, rfl⟩, trivial⟩
set_option maxRecDepth 10000 in
theorem step_exists_c (N : Nat) (p0 : ApiProblem) (p1 : ApiStep) (r : Bool) (h : Sh.step_exists N p0 p1 = some r) : Contract Try.prog 101 [.e (.agg [.pure (.sl (p0.fVersions.map eI64)), .pure (.sl (p0.fNow.map eI64)), .pure (.sl (p0.fTarget.map eI64)), .pure (.sl (p0.fTables.map eApiTable))]), .e (.agg [.pure (.val (.int .i64 p1.fKind)), .pure (.val (.int .i64 p1.fIndex)), .pure (.val (.int .i64 p1.fVersion))])] [] (.e (.one (.pure (.val (.bool r))))) := by
 unfold Sh.step_exists at h
 refine contract_of_W (n := 36) (rs := [.tmp 4]) Try.func101 rfl rfl rfl (leb rfl) (leb rfl) rfl fun w0 S0 => ?_
 refine W_seq (W_region mixed rfl (r_box (.p rfl) rfl rfl (r_box (.p rfl) rfl rfl (r_assign (.p rfl) rfl (r_end (W_seq (W_seq (W_region mixed rfl (r_fieldAddr (.p rfl) rfl fld63_0 (r_load1 (.p rfl) rfl ag3 rfl rfl (r_bin (.p rfl) rfl rfl (bin_eql _ _ _ _ _ _) rfl (r_end ?_))))))))))))
 refine W_cond rfl (fun c1 => ?_) (fun c1 => ?_)
 ·have h := cnd_t c1 h
  refine W_seq (W_region mixed rfl (r_fieldAddr (.p rfl) rfl fld63_1 (r_load1 (.p rfl) rfl ag3 rfl rfl (r_fieldAddr (.p rfl) rfl fld30_3 (r_load1 (.p rfl) rfl ag28 rfl rfl (r_len (.p rfl) rfl (.sl _) trivial (List.length_map _) slc28 (r_bin (.p rfl) rfl rfl (bin_lss _ _ _ _ _ _) rfl (r_assign (.p rfl) rfl (r_end ?_)))))))))
  obtain rfl := Option.some.inj h
  refine W_sees (sees_mkL (rn []) [(4, .e (.one (.pure (.val (.bool ((decide (p1.fIndex < (p0.fTables.length : Int)))))))))] [] ⟨rfl, trivial⟩ trivial rfl rfl) (W_ret ?_)
  exact ⟨⟨[_], ⟨.tmp _ _ rfl, trivial⟩, rfl⟩, trivial⟩
 ·have h := cnd_f c1 h
  refine W_skip ?_
  refine W_join h (fun v2 => mk [(4, .e (.one (.pure (.val (.bool v2)))))] []) (fun j2 h => ?_) (fun v2 h => ?_)
  ·refine W_region mixed rfl (r_fieldAddr (.p rfl) rfl fld63_1 (r_load1 (.p rfl) rfl ag3 rfl rfl (r_fieldAddr (.p rfl) rfl fld30_0 (r_load1 (.p rfl) rfl ag27 rfl rfl (r_len (.p rfl) rfl (.sl _) trivial (List.length_map _) slc27 (r_bin (.p rfl) rfl rfl (bin_lss _ _ _ _ _ _) rfl (r_move (.p rfl) rfl ?_)))))))
   refine r_split (t := 20) rfl (fun c3 => ?_) (fun c3 => ?_)
   ·have h := cnd_t c3 h
    refine r_fieldAddr (.g rfl rfl) rfl fld63_0 (r_load1 (.g rfl rfl) rfl ag3 rfl rfl (r_bin (.g rfl rfl) rfl rfl (bin_neq _ _ _ _ _ _) rfl (r_move (.g rfl rfl) rfl ?_)))
    refine r_split (t := 24) rfl (fun c4 => ?_) (fun c4 => ?_)
    ·have h := cnd_t c4 h
     refine r_notB rfl rfl (r_notB rfl rfl (r_notB rfl rfl (r_notB rfl rfl (r_notB rfl rfl (r_notB rfl rfl (r_notB rfl rfl (r_notB rfl rfl (r_notB rfl rfl (r_pick (.g rfl rfl) rfl rfl rfl (r_pick (.p rfl) rfl rfl rfl (r_assign (.p rfl) rfl ?_)))))))))))
     refine r_endD (by kernel_rfl) ?_
     exact sink true h (sees_mkL (rn []) _ _ ⟨rfl, trivial⟩ trivial rfl rfl)
    ·have h := cnd_f c4 h
     refine r_fieldAddr (.g rfl rfl) rfl fld63_2 (r_load1 (.g rfl rfl) rfl ag3 rfl rfl (r_fieldAddr (.g rfl rfl) rfl fld30_0 (r_load1 (.g rfl rfl) rfl ag27 rfl rfl (r_fieldAddr (.g rfl rfl) rfl fld63_1 (r_load1 (.g rfl rfl) rfl ag3 rfl rfl ?_)))))
     obtain ⟨v5, a5, b5, h⟩ := idx_bind h
     refine r_index (.g rfl rfl) rfl rfl slc27 sz3 a5 (map_get b5) rfl (r_loadr1 (.g rfl rfl) rfl ag3 rfl (r_bin (.g rfl rfl) rfl rfl (bin_lss _ _ _ _ _ _) rfl (r_pick (.g rfl rfl) rfl rfl rfl (r_pick (.p rfl) rfl rfl rfl (r_assign (.p rfl) rfl ?_)))))
     refine r_endD (by kernel_rfl) ?_
     exact sink (decide (p1.fVersion < v5)) h (sees_mkL (rn []) _ _ ⟨rfl, trivial⟩ trivial rfl rfl)
   ·have h := cnd_f c3 h
    refine r_notB rfl rfl (r_notB rfl rfl (r_notB rfl rfl (r_notB rfl rfl (r_notU rfl rfl (r_notU rfl rfl (r_notU rfl rfl (r_notU rfl rfl (r_notU rfl rfl (r_notU rfl rfl (r_notU rfl rfl (r_notU rfl rfl (r_notU rfl rfl (r_notB rfl rfl (r_pick (.p rfl) rfl rfl rfl (r_assign (.p rfl) rfl ?_)))))))))))))))
    refine r_endD (by kernel_rfl) ?_
    exact sink false h (sees_mkL (rn []) _ _ ⟨rfl, trivial⟩ trivial rfl rfl)
  ·obtain rfl := Option.some.inj h
   refine W_sees (sees_mkL (rn []) [(4, .e (.one (.pure (.val (.bool v2)))))] [] ⟨rfl, trivial⟩ trivial rfl rfl) (W_ret ?_)
   exact ⟨⟨[_], ⟨.tmp _ _ rfl, trivial⟩, rfl⟩, trivial⟩
set_option maxRecDepth 10000 in
theorem step_apply_c (N : Nat) (p0 : ApiProblem) (p1 : ApiMix) (p2 : ApiStep) (r : ApiMix × Int) (h : Sh.step_apply N p0 p1 p2 = some r) : Contract Try.prog 78 [.e (.agg [.pure (.sl (p0.fVersions.map eI64)), .pure (.sl (p0.fNow.map eI64)), .pure (.sl (p0.fTarget.map eI64)), .pure (.sl (p0.fTables.map eApiTable))]), .e (.agg [.pure (.sl (p1.fBase.map eI64)), .pure (.sl (p1.fNext.map eI64)), .pure (.sl (p1.fHeld.map eU8))]), .e (.agg [.pure (.val (.int .i64 p2.fKind)), .pure (.val (.int .i64 p2.fIndex)), .pure (.val (.int .i64 p2.fVersion))])] [(1, r.1.fBase.map eI64), (1, r.1.fNext.map eI64), (1, r.1.fHeld.map eU8)] (.tup [.agg [.own 0, .own 1, .own 2], .one (.pure (.val (.int .i64 r.2)))]) := by
 unfold Sh.step_apply at h
 refine contract_of_W (n := 32) (rs := [.cell 6 43, .tmp 7]) Try.func78 rfl rfl rfl (leb rfl) (leb rfl) rfl fun w0 S0 => ?_
 refine W_seq (W_region mixed rfl (r_box (.p rfl) rfl rfl (r_box (.p rfl) rfl rfl (r_box (.p rfl) rfl rfl (r_alloc (.p rfl) zv43 rfl rfl rfl (r_assign (.p rfl) rfl (r_end (W_seq (W_block (W_seq (W_region mixed rfl (r_loadN (.p rfl) rfl ag63 sz63 rfl rfl rfl ?_))))))))))))
 obtain ⟨v1, a1, h⟩ := bind_some h
 refine r_call (ds0 := [_]) [] (step_valid_c N p2 v1 a1) (.p rfl) gd100 rfl ⟨rfl, trivial⟩ rfl rfl rfl (nodupL_spec rfl) trivial rfl (r_un (.p rfl) rfl (un_not _) rfl (r_assign (.p rfl) rfl (r_end ?_)))
 refine W_cond rfl (fun c2 => ?_) (fun c2 => ?_)
 ·have h := cnd_t c2 h
  refine W_seq (W_region mixed rfl (r_build [] (.p rfl) rfl trivial zv43 rfl rfl pl43 rfl (r_store rfl rfl rfl rfl sz43 rfl (leb rfl) rfl (r_assign (.p rfl) rfl (r_end ?_)))))
  obtain rfl := Option.some.inj h
  refine W_sees ((sees_adoptB 6 0 2001 1 _ rfl rfl rfl rfl).trans ((sees_adoptB 6 1 2002 1 _ rfl rfl rfl rfl).trans ((sees_adoptB 6 2 2003 1 _ rfl rfl rfl rfl).trans (sees_mkL (rn [(1000, 2001), (1001, 2002), (1002, 2003)]) [(6, .e (.one (.ptr 6 0))), (7, .e (.one (.pure (.val (.int .i64 1)))))] [(6, .box [.own 1000, .own 1001, .own 1002]), (1000, .vec 1 ((([] : List Int)).map eI64)), (1001, .vec 1 ((([] : List Int)).map eI64)), (1002, .vec 1 ((([] : List Int)).map eU8))] ⟨rfl, rfl, trivial⟩ ⟨rfl, rfl, rfl, rfl, trivial⟩ rfl rfl)))) (W_ret ?_)
  exact ⟨⟨[_, _], ⟨.cellN _ _ _ _ _ _ _ rfl rfl ag43 sz43 rfl rfl (ltb rfl), ⟨.tmp _ _ rfl, trivial⟩⟩, rfl⟩, ⟨rfl, rfl, rfl, trivial⟩⟩
 ·have h := cnd_f c2 h
  refine W_seq (W_region mixed rfl (r_loadN (.p rfl) rfl ag30 sz30 rfl rfl rfl (r_loadN (.p rfl) rfl ag63 sz63 rfl rfl rfl ?_)))
  obtain ⟨v3, a3, h⟩ := bind_some h
  refine r_call (ds0 := [_, _]) [] (step_exists_c N p0 p2 v3 a3) (.p rfl) gd101 rfl ⟨rfl, rfl, trivial⟩ rfl rfl rfl (nodupL_spec rfl) trivial rfl (r_un (.p rfl) rfl (un_not _) rfl (r_assign (.p rfl) rfl (r_end ?_)))
  refine W_cond rfl (fun c4 => ?_) (fun c4 => ?_)
  ·have h := cnd_t c4 h
   refine W_seq (W_region mixed rfl (r_build [] (.p rfl) rfl trivial zv43 rfl rfl pl43 rfl (r_store rfl rfl rfl rfl sz43 rfl (leb rfl) rfl (r_assign (.p rfl) rfl (r_end ?_)))))
   obtain rfl := Option.some.inj h
   refine W_sees ((sees_adoptB 6 0 2004 1 _ rfl rfl rfl rfl).trans ((sees_adoptB 6 1 2005 1 _ rfl rfl rfl rfl).trans ((sees_adoptB 6 2 2006 1 _ rfl rfl rfl rfl).trans (sees_mkL (rn [(1000, 2004), (1001, 2005), (1002, 2006)]) [(6, .e (.one (.ptr 6 0))), (7, .e (.one (.pure (.val (.int .i64 4)))))] [(6, .box [.own 1000, .own 1001, .own 1002]), (1000, .vec 1 ((([] : List Int)).map eI64)), (1001, .vec 1 ((([] : List Int)).map eI64)), (1002, .vec 1 ((([] : List Int)).map eU8))] ⟨rfl, rfl, trivial⟩ ⟨rfl, rfl, rfl, rfl, trivial⟩ rfl rfl)))) (W_ret ?_)
   exact ⟨⟨[_, _], ⟨.cellN _ _ _ _ _ _ _ rfl rfl ag43 sz43 rfl rfl (ltb rfl), ⟨.tmp _ _ rfl, trivial⟩⟩, rfl⟩, ⟨rfl, rfl, rfl, trivial⟩⟩
  ·have h := cnd_f c4 h
   refine W_skip (W_seq (W_region mixed rfl (r_loadN (.p rfl) rfl ag30 sz30 rfl rfl rfl (r_loadN (.p rfl) rfl ag43 sz43 rfl rfl rfl (r_loadN (.p rfl) rfl ag63 sz63 rfl rfl rfl ?_)))))
   obtain ⟨v5, a5, h⟩ := bind_some h
   refine r_call (ds0 := [_, _, _]) [2007, 2008, 2009] (step_after_c N p0 p1 p2 v5 a5) (.p rfl) gd102 rfl ⟨rfl, rfl, rfl, trivial⟩ rfl rfl rfl (nodupL_spec rfl) ⟨rfl, rfl, rfl, trivial⟩ rfl (r_move (.p rfl) rfl (r_extract (.p rfl) rfl rfl (r_extract (.p rfl) rfl rfl (r_alloc (.p rfl) zv43 rfl rfl rfl (r_store rfl rfl rfl rfl sz43 rfl (leb rfl) rfl (r_assign (.p rfl) rfl (r_end (W_seq (W_seq (W_region mixed rfl (r_move (.p rfl) rfl (r_un (.p rfl) rfl (un_not _) rfl (r_end ?_)))))))))))))
   refine W_cond rfl (fun c6 => ?_) (fun c6 => ?_)
   ·have h := cnd_t c6 h
    refine W_seq (W_region mixed rfl (r_build [] (.p rfl) rfl trivial zv43 rfl rfl pl43 rfl (r_store rfl rfl rfl rfl sz43 rfl (leb rfl) rfl (r_assign (.p rfl) rfl (r_end ?_)))))
    obtain rfl := Option.some.inj h
    refine W_sees ((sees_adoptB 6 0 2010 1 _ rfl rfl rfl rfl).trans ((sees_adoptB 6 1 2011 1 _ rfl rfl rfl rfl).trans ((sees_adoptB 6 2 2012 1 _ rfl rfl rfl rfl).trans (sees_mkL (rn [(1000, 2010), (1001, 2011), (1002, 2012)]) [(6, .e (.one (.ptr 6 0))), (7, .e (.one (.pure (.val (.int .i64 11)))))] [(6, .box [.own 1000, .own 1001, .own 1002]), (1000, .vec 1 ((([] : List Int)).map eI64)), (1001, .vec 1 ((([] : List Int)).map eI64)), (1002, .vec 1 ((([] : List Int)).map eU8))] ⟨rfl, rfl, trivial⟩ ⟨rfl, rfl, rfl, rfl, trivial⟩ rfl rfl)))) (W_ret ?_)
    exact ⟨⟨[_, _], ⟨.cellN _ _ _ _ _ _ _ rfl rfl ag43 sz43 rfl rfl (ltb rfl), ⟨.tmp _ _ rfl, trivial⟩⟩, rfl⟩, ⟨rfl, rfl, rfl, trivial⟩⟩
   ·have h := cnd_f c6 h
    refine W_skip (W_seq (W_region mixed rfl (r_loadN (.p rfl) rfl ag43 sz43 rfl rfl rfl (r_store rfl rfl rfl rfl sz43 rfl (leb rfl) rfl (r_assign (.p rfl) rfl (r_end ?_))))))
    obtain rfl := Option.some.inj h
    refine W_sees (sees_mkL (rn [(1000, 2007), (1001, 2008), (1002, 2009)]) [(6, .e (.one (.ptr 6 0))), (7, .e (.one (.pure (.val (.int .i64 0)))))] [(6, .box [.own 1000, .own 1001, .own 1002]), (1000, .vec 1 (v5.1.fBase.map eI64)), (1001, .vec 1 (v5.1.fNext.map eI64)), (1002, .vec 1 (v5.1.fHeld.map eU8))] ⟨rfl, rfl, trivial⟩ ⟨rfl, rfl, rfl, rfl, trivial⟩ rfl rfl) (W_ret ?_)
    exact ⟨⟨[_, _], ⟨.cellN _ _ _ _ _ _ _ rfl rfl ag43 sz43 rfl rfl (ltb rfl), ⟨.tmp _ _ rfl, trivial⟩⟩, rfl⟩, ⟨rfl, rfl, rfl, trivial⟩⟩
set_option maxRecDepth 10000 in
theorem step_Apply_c (N : Nat) (p0 : ApiProblem) (p1 : ApiMix) (p2 : ApiStep) (r : ApiMix × Int) (h : Sh.step_Apply N p0 p1 p2 = some r) : Contract Try.prog 39 [.e (.agg [.pure (.sl (p0.fVersions.map eI64)), .pure (.sl (p0.fNow.map eI64)), .pure (.sl (p0.fTarget.map eI64)), .pure (.sl (p0.fTables.map eApiTable))]), .e (.agg [.pure (.sl (p1.fBase.map eI64)), .pure (.sl (p1.fNext.map eI64)), .pure (.sl (p1.fHeld.map eU8))]), .e (.agg [.pure (.val (.int .i64 p2.fKind)), .pure (.val (.int .i64 p2.fIndex)), .pure (.val (.int .i64 p2.fVersion))])] [(1, r.1.fBase.map eI64), (1, r.1.fNext.map eI64), (1, r.1.fHeld.map eU8)] (.tup [.agg [.own 0, .own 1, .own 2], .one (.pure (.val (.int .i64 r.2)))]) := by
 unfold Sh.step_Apply at h
 refine contract_of_W (n := 22) (rs := [.cell 6 43, .tmp 7]) Try.func39 rfl rfl rfl (leb rfl) (leb rfl) rfl fun w0 S0 => ?_
 refine W_seq (W_region mixed rfl (r_box (.p rfl) rfl rfl (r_box (.p rfl) rfl rfl (r_box (.p rfl) rfl rfl (r_alloc (.p rfl) zv43 rfl rfl rfl (r_assign (.p rfl) rfl (r_end (W_seq (W_seq (W_region mixed rfl (r_loadN (.p rfl) rfl ag30 sz30 rfl rfl rfl (r_loadN (.p rfl) rfl ag43 sz43 rfl rfl rfl ?_))))))))))))
 obtain ⟨v1, a1, h⟩ := bind_some h
 refine r_call (ds0 := [_, _]) [] (mix_Valid_c N p0 p1 v1 a1) (.p rfl) gd77 rfl ⟨rfl, rfl, trivial⟩ rfl rfl rfl (nodupL_spec rfl) trivial rfl (r_assign (.p rfl) rfl (r_end (W_seq (W_region mixed rfl (r_move (.p rfl) rfl (r_bin (.p rfl) rfl rfl (bin_neq _ _ _ _ _ _) rfl (r_end ?_)))))))
 refine W_cond rfl (fun c2 => ?_) (fun c2 => ?_)
 ·have h := cnd_t c2 h
  refine W_seq (W_region mixed rfl (r_build [] (.p rfl) rfl trivial zv43 rfl rfl pl43 rfl (r_move (.p rfl) rfl (r_store rfl rfl rfl rfl sz43 rfl (leb rfl) rfl (r_assign (.p rfl) rfl (r_end ?_))))))
  obtain rfl := Option.some.inj h
  refine W_sees ((sees_adoptB 6 0 2001 1 _ rfl rfl rfl rfl).trans ((sees_adoptB 6 1 2002 1 _ rfl rfl rfl rfl).trans ((sees_adoptB 6 2 2003 1 _ rfl rfl rfl rfl).trans (sees_mkL (rn [(1000, 2001), (1001, 2002), (1002, 2003)]) [(6, .e (.one (.ptr 6 0))), (7, .e (.one (.pure (.val (.int .i64 v1)))))] [(6, .box [.own 1000, .own 1001, .own 1002]), (1000, .vec 1 ((([] : List Int)).map eI64)), (1001, .vec 1 ((([] : List Int)).map eI64)), (1002, .vec 1 ((([] : List Int)).map eU8))] ⟨rfl, rfl, trivial⟩ ⟨rfl, rfl, rfl, rfl, trivial⟩ rfl rfl)))) (W_ret ?_)
  exact ⟨⟨[_, _], ⟨.cellN _ _ _ _ _ _ _ rfl rfl ag43 sz43 rfl rfl (ltb rfl), ⟨.tmp _ _ rfl, trivial⟩⟩, rfl⟩, ⟨rfl, rfl, rfl, trivial⟩⟩
 ·have h := cnd_f c2 h
  refine W_skip (W_seq (W_region mixed rfl (r_loadN (.p rfl) rfl ag30 sz30 rfl rfl rfl (r_loadN (.p rfl) rfl ag43 sz43 rfl rfl rfl (r_loadN (.p rfl) rfl ag63 sz63 rfl rfl rfl ?_)))))
  obtain ⟨v3, a3, h⟩ := bind_some h
  refine r_call (ds0 := [_, _, _]) [2004, 2005, 2006] (step_apply_c N p0 p1 p2 v3 a3) (.p rfl) gd78 rfl ⟨rfl, rfl, rfl, trivial⟩ rfl rfl rfl (nodupL_spec rfl) ⟨rfl, rfl, rfl, trivial⟩ rfl (r_extract (.p rfl) rfl rfl (r_extract (.p rfl) rfl rfl (r_store rfl rfl rfl rfl sz43 rfl (leb rfl) rfl (r_assign (.p rfl) rfl (r_end ?_)))))
  obtain rfl := Option.some.inj h
  refine W_sees (sees_mkL (rn [(1000, 2004), (1001, 2005), (1002, 2006)]) [(6, .e (.one (.ptr 6 0))), (7, .e (.one (.pure (.val (.int .i64 v3.2)))))] [(6, .box [.own 1000, .own 1001, .own 1002]), (1000, .vec 1 (v3.1.fBase.map eI64)), (1001, .vec 1 (v3.1.fNext.map eI64)), (1002, .vec 1 (v3.1.fHeld.map eU8))] ⟨rfl, rfl, trivial⟩ ⟨rfl, rfl, rfl, rfl, trivial⟩ rfl rfl) (W_ret ?_)
  exact ⟨⟨[_, _], ⟨.cellN _ _ _ _ _ _ _ rfl rfl ag43 sz43 rfl rfl (ltb rfl), ⟨.tmp _ _ rfl, trivial⟩⟩, rfl⟩, ⟨rfl, rfl, rfl, trivial⟩⟩
set_option maxRecDepth 10000 in
theorem plan_region_c (N : Nat) (p0 : ApiProblem) (p1 : ApiMix) (r : (List PlanNode) × Int) (h : Sh.plan_region N p0 p1 = some r) : Contract Try.prog 55 [.e (.agg [.pure (.sl (p0.fVersions.map eI64)), .pure (.sl (p0.fNow.map eI64)), .pure (.sl (p0.fTarget.map eI64)), .pure (.sl (p0.fTables.map eApiTable))]), .e (.agg [.pure (.sl (p1.fBase.map eI64)), .pure (.sl (p1.fNext.map eI64)), .pure (.sl (p1.fHeld.map eU8))])] [] (.tup [.one (.pure (.sl (r.1.map ePlanNode))), .one (.pure (.val (.int .i64 r.2)))]) := by
 unfold Sh.plan_region at h
 refine contract_of_W (n := 119) (rs := [.tmp 4, .tmp 5]) Try.func55 rfl rfl rfl (leb rfl) (leb rfl) rfl fun w0 S0 => ?_
 refine W_seq (W_region mixed rfl (r_box (.p rfl) rfl rfl (r_box (.p rfl) rfl rfl (r_assign (.p rfl) rfl (r_assign (.p rfl) rfl (r_end (W_seq (W_region mixed rfl (r_loadN (.p rfl) rfl ag43 sz43 rfl rfl rfl (r_build [(0, .tmp 20, _), (1, .const (.int .i64 (-1)), _)] (.p rfl) rfl ⟨rfl, rfl, trivial⟩ zv101 rfl rfl pl101 rfl ?_))))))))))
 refine r_buildSlice0 [(0, .tmp 21, _)] (.p rfl) rfl ⟨rfl, trivial⟩ rfl slc96 sz101 zv101 rfl rfl (leb rfl) rfl rfl ?_
 refine r_see (sees_nest 22 8 [.s, .s, .s, .s, .s, .s, .s, .x 1 []] _ ((([(PlanNode.mk p1 ((-1)) ((ApiStep.mk 0 0 0)) (([] : List Int)))] : List PlanNode)).map ePlanNode) rfl rfl) (r_assign (.p rfl) rfl (r_end (W_seq (W_region mixed rfl ?_))))
 refine r_makeMap (.p rfl) rfl ?_
 refine r_loadN (.p rfl) rfl ag43 sz43 rfl rfl rfl ?_
 obtain ⟨v1, a1, h⟩ := bind_some h
 refine r_call (ds0 := [_]) [] (plan_key_c N p1 v1 a1) (.p rfl) gd86 rfl ⟨rfl, trivial⟩ rfl rfl rfl (nodupL_spec rfl) trivial rfl ?_
 refine r_mapSet (kv := Value.string) (vt := tI64) (m := ([] : List (ByteArray × Int))) (k := v1) (v := 0) rfl (.inr rfl) rfl rfl rfl rfl (keyOk_str mpt125 kst9) rfl ?_
 refine r_move (.p rfl) rfl (r_assign (.p rfl) rfl (r_end (W_seq (W_seq (W_region mixed rfl (r_assign (.p rfl) rfl (r_end ?_)))))))
 refine W_whileE (L := Sh.plan_region_L2 N p0) h (fun v2 => mk [(2, .e (.one (.ptr 2 0))), (6, .e (.one (.own 2001))), (7, .e (.one (.mref 2002))), (8, .e (.one (.pure (.val (.int .i64 v2.2.2)))))] [(2, .box [.pure (.sl (p0.fVersions.map eI64)), .pure (.sl (p0.fNow.map eI64)), .pure (.sl (p0.fTarget.map eI64)), .pure (.sl (p0.fTables.map eApiTable))]), (2001, .dvec 8 [.s, .s, .s, .s, .s, .s, .s, .x 1 []] (v2.1.map ePlanNode)), (2002, .mp (encM Value.string tI64 v2.2.1))]) (fun v3 => mk [(6, .e (.one (.own 2003)))] [(2003, .dvec 8 [.s, .s, .s, .s, .s, .s, .s, .x 1 []] (v3.map ePlanNode))]) (fun _ _ => rfl) (sees_mkL (rn [(2001, 22), (2002, 23)]) _ _ ⟨rfl, rfl, rfl, rfl, trivial⟩ ⟨rfl, rfl, rfl, trivial⟩ rfl rfl) (fun j2 n2 v2 h => ?_) (fun v3 s h hs => ?_)
 ·unfold Sh.plan_region_L2 at h
  refine W_seq (W_seq (W_region mixed rfl (r_move (.p rfl) rfl (r_move (.p rfl) rfl ?_))))
  refine r_lenG (.p rfl) rfl rfl (vl_dvec ePlanNode v2.1 _ _) slc96 ?_
  refine r_bin (.p rfl) rfl rfl (bin_lss _ _ _ _ _ _) rfl (r_end ?_)
  refine W_cond rfl (fun c4 => ?_) (fun c4 => ?_)
  ·have h := cnd_t c4 h
   refine W_skip (W_seq (W_block (W_seq (W_region mixed rfl (r_loadN (.p rfl) rfl ag30 sz30 rfl rfl rfl (r_move (.p rfl) rfl (r_move (.p rfl) rfl ?_)))))))
   obtain ⟨v5, a5, b5, h⟩ := idx_bind h
   refine r_indexG (.p rfl) rfl rfl rfl (vl_dvec ePlanNode v2.1 _ _) slc96 sz101 a5 (lt_of_get b5) ?_
   refine r_fieldAddre (.p rfl) rfl fld101_0 ?_
   refine r_loadDP (.p rfl) rfl ag43 sz43 rfl (map_get b5) rfl rfl (by decide) rfl ?_
   obtain ⟨v6, a6, h⟩ := bind_some h
   refine r_call (ds0 := [_, _]) [2004] (step_Enabled_c N p0 ((ApiMix.mk v5.fM.fBase v5.fM.fNext v5.fM.fHeld)) v6 a6) (.p rfl) gd87 rfl ⟨rfl, rfl, trivial⟩ rfl rfl rfl (nodupL_spec rfl) ⟨rfl, trivial⟩ rfl (r_move (.p rfl) rfl (r_extract (.p rfl) rfl rfl (r_extract (.p rfl) rfl rfl (r_assign (.p rfl) rfl (r_assign (.p rfl) rfl ?_)))))
   refine r_endD (by kernel_rfl) ?_
   refine W_seq (W_seq (W_region mixed rfl (r_move (.p rfl) rfl (r_bin (.p rfl) rfl rfl (bin_neq _ _ _ _ _ _) rfl (r_end ?_)))))
   refine W_cond rfl (fun c7 => ?_) (fun c7 => ?_)
   ·have h := cnd_t c7 h
    refine W_seq (W_region mixed rfl (r_move (.p rfl) rfl (r_assign (.p rfl) rfl (r_assign (.p rfl) rfl (r_end ?_)))))
    obtain rfl := Option.some.inj h
    refine W_sees ((sees_nrm 4 _ rfl).trans (sees_mkL (rn []) [(4, .e (.one (.pure (.sl ((([] : List PlanNode)).map ePlanNode))))), (5, .e (.one (.pure (.val (.int .i64 v6.2)))))] [] ⟨rfl, rfl, trivial⟩ trivial rfl rfl)) (W_ret ?_)
    exact ⟨⟨[_, _], ⟨.tmp _ _ rfl, ⟨.tmp _ _ rfl, trivial⟩⟩, rfl⟩, trivial⟩
   ·have h := cnd_f c7 h
    refine W_skip (W_seq (W_region mixed rfl (r_move (.p rfl) rfl (r_len (.p rfl) rfl (.own _ _ _) ⟨rfl, trivial⟩ (List.length_map _) slc33 (r_move (.p rfl) rfl (r_end ?_))))))
    refine W_whileE (L := Sh.plan_region_L8 N p0 v2 v6) h (fun v8 => mk [(2, .e (.one (.ptr 2 0))), (6, .e (.one (.own 2005))), (7, .e (.one (.mref 2006))), (8, .e (.one (.pure (.val (.int .i64 v2.2.2))))), (46, .e (.one (.own 2007))), (47, .e (.one (.pure (.val (.int .i64 ((v6.1.length : Int))))))), (48, .e (.one (.pure (.val (.int .i64 v8.2.2)))))] [(2, .box [.pure (.sl (p0.fVersions.map eI64)), .pure (.sl (p0.fNow.map eI64)), .pure (.sl (p0.fTarget.map eI64)), .pure (.sl (p0.fTables.map eApiTable))]), (2005, .dvec 8 [.s, .s, .s, .s, .s, .s, .s, .x 1 []] (v8.1.map ePlanNode)), (2006, .mp (encM Value.string tI64 v8.2.1)), (2007, .vec 3 (v6.1.map eApiStep))]) (fun v9 => mk [(2, .e (.one (.ptr 2 0))), (6, .e (.one (.own 2008))), (7, .e (.one (.mref 2009))), (8, .e (.one (.pure (.val (.int .i64 v2.2.2)))))] [(2, .box [.pure (.sl (p0.fVersions.map eI64)), .pure (.sl (p0.fNow.map eI64)), .pure (.sl (p0.fTarget.map eI64)), .pure (.sl (p0.fTables.map eApiTable))]), (2008, .dvec 8 [.s, .s, .s, .s, .s, .s, .s, .x 1 []] (v9.1.map ePlanNode)), (2009, .mp (encM Value.string tI64 v9.2))]) (fun _ _ => rfl) (sees_mkL (rn [(2005, 2001), (2006, 2002), (2007, 2004)]) _ _ ⟨rfl, rfl, rfl, rfl, rfl, rfl, rfl, trivial⟩ ⟨rfl, rfl, rfl, rfl, trivial⟩ rfl rfl) (fun j8 n8 v8 h => ?_) (fun v9 s h hs => ?_)
    ·unfold Sh.plan_region_L8 at h
     refine W_seq (W_region mixed rfl (r_bin (.p rfl) rfl rfl (bin_lss _ _ _ _ _ _) rfl (r_end (W_seq ?_))))
     refine W_cond rfl (fun c10 => ?_) (fun c10 => ?_)
     ·have h := cnd_t c10 h
      refine W_skip (W_seq (W_block (W_seq (W_region mixed rfl ?_))))
      obtain ⟨v11, a11, b11, h⟩ := idx_bind h
      refine r_indexo (.p rfl) rfl rfl rfl slc33 sz63 a11 (map_get b11) (r_loadeN (.p rfl) rfl ag63 sz63 rfl (map_get b11) (r_alloc (.p rfl) zv63 rfl rfl rfl (r_store rfl rfl rfl rfl sz63 rfl (leb rfl) rfl (r_end (W_seq (W_region mixed rfl (r_loadN (.p rfl) rfl ag30 sz30 rfl rfl rfl (r_move (.p rfl) rfl (r_move (.p rfl) rfl ?_)))))))))
      obtain ⟨v12, a12, b12, h⟩ := idx_bind h
      refine r_indexG (.p rfl) rfl rfl rfl (vl_dvec ePlanNode v8.1 _ _) slc96 sz101 a12 (lt_of_get b12) ?_
      refine r_fieldAddre (.p rfl) rfl fld101_0 ?_
      refine r_loadDP (.p rfl) rfl ag43 sz43 rfl (map_get b12) rfl rfl (by decide) rfl ?_
      refine r_loadN (.p rfl) rfl ag63 sz63 rfl rfl rfl ?_
      obtain ⟨v13, a13, h⟩ := bind_some h
      refine r_call (ds0 := [_, _, _]) [2010, 2011, 2012] (step_Apply_c N p0 ((ApiMix.mk v12.fM.fBase v12.fM.fNext v12.fM.fHeld)) v11 v13 a13) (.p rfl) gd39 rfl ⟨rfl, rfl, rfl, trivial⟩ rfl rfl rfl (nodupL_spec rfl) ⟨rfl, rfl, rfl, trivial⟩ rfl (r_move (.p rfl) rfl (r_extract (.p rfl) rfl rfl (r_extract (.p rfl) rfl rfl (r_alloc (.p rfl) zv43 rfl rfl rfl (r_store rfl rfl rfl rfl sz43 rfl (leb rfl) rfl (r_assign (.p rfl) rfl ?_))))))
      refine r_endD (by kernel_rfl) ?_
      refine W_seq (W_seq (W_region mixed rfl (r_move (.p rfl) rfl (r_bin (.p rfl) rfl rfl (bin_neq _ _ _ _ _ _) rfl (r_end ?_)))))
      refine W_cond rfl (fun c14 => ?_) (fun c14 => ?_)
      ·have h := cnd_t c14 h
       refine W_seq (W_region mixed rfl (r_move (.p rfl) rfl (r_assign (.p rfl) rfl (r_assign (.p rfl) rfl (r_end ?_)))))
       obtain rfl := Option.some.inj h
       refine W_sees ((sees_nrm 4 _ rfl).trans (sees_mkL (rn []) [(4, .e (.one (.pure (.sl ((([] : List PlanNode)).map ePlanNode))))), (5, .e (.one (.pure (.val (.int .i64 v13.2)))))] [] ⟨rfl, rfl, trivial⟩ trivial rfl rfl)) (W_ret ?_)
       exact ⟨⟨[_, _], ⟨.tmp _ _ rfl, ⟨.tmp _ _ rfl, trivial⟩⟩, rfl⟩, trivial⟩
      ·have h := cnd_f c14 h
       refine W_skip (W_seq (W_region mixed rfl (r_loadN (.p rfl) rfl ag43 sz43 rfl rfl rfl ?_)))
       obtain ⟨v15, a15, h⟩ := bind_some h
       refine r_callL (ds0 := [_]) [] [(2010, _), (2011, _), (2012, _)] (plan_key_c N v13.1 v15 a15) (.p rfl) gd86 rfl ⟨rfl, trivial⟩ ⟨rfl, rfl, rfl, trivial⟩ rfl rfl rfl (nodupL_spec rfl) trivial rfl flatV_nil rfl (r_assign (.p rfl) rfl (r_end (W_seq (W_region mixed rfl (r_move (.p rfl) rfl (r_move (.p rfl) rfl ?_))))))
       refine r_mapGet (kv := Value.string) (vt := tI64) (m := v8.2.1) (dv := 0) (.p rfl) rfl rfl rfl (keyOk_str mpt125 kst9) (by rw [mpt125]; rfl) zv3 rfl rfl rfl ?_
       refine r_move (.p rfl) rfl (r_extract (.p rfl) rfl rfl (r_extract (.p rfl) rfl rfl (r_assign (.p rfl) rfl (r_assign (.p rfl) rfl (r_end ?_)))))
       refine W_join h (fun v16 => mk [(2, .e (.one (.ptr 2 0))), (6, .e (.one (.own 2013))), (7, .e (.one (.mref 2014))), (8, .e (.one (.pure (.val (.int .i64 v2.2.2))))), (16, .e (.one (.pure (.val (.int .i64 v16.2.2))))), (46, .e (.one (.own 2015))), (47, .e (.one (.pure (.val (.int .i64 ((v6.1.length : Int))))))), (48, .e (.one (.pure (.val (.int .i64 v8.2.2)))))] [(2, .box [.pure (.sl (p0.fVersions.map eI64)), .pure (.sl (p0.fNow.map eI64)), .pure (.sl (p0.fTarget.map eI64)), .pure (.sl (p0.fTables.map eApiTable))]), (2013, .dvec 8 [.s, .s, .s, .s, .s, .s, .s, .x 1 []] (v16.1.map ePlanNode)), (2014, .mp (encM Value.string tI64 v16.2.1)), (2015, .vec 3 (v6.1.map eApiStep))]) (fun j16 h => ?_) (fun v16 h => ?_)
       ·refine W_seq (W_region mixed rfl (r_move (.p rfl) rfl (r_un (.p rfl) rfl (un_not _) rfl (r_end ?_))))
        refine W_cond rfl (fun c17 => ?_) (fun c17 => ?_)
        ·have h := cnd_t c17 h
         refine W_join h (fun v18 => mk [(2, .e (.one (.ptr 2 0))), (6, .e (.one (.own 2016))), (7, .e (.one (.mref 2017))), (8, .e (.one (.pure (.val (.int .i64 v2.2.2))))), (15, .e (.one (.pure (.val (.string v15))))), (16, .e (.one (.pure (.val (.int .i64 v18.2))))), (46, .e (.one (.own 2018))), (47, .e (.one (.pure (.val (.int .i64 ((v6.1.length : Int))))))), (48, .e (.one (.pure (.val (.int .i64 v8.2.2)))))] [(2, .box [.pure (.sl (p0.fVersions.map eI64)), .pure (.sl (p0.fNow.map eI64)), .pure (.sl (p0.fTarget.map eI64)), .pure (.sl (p0.fTables.map eApiTable))]), (2016, .dvec 8 [.s, .s, .s, .s, .s, .s, .s, .x 1 []] (v18.1.map ePlanNode)), (2017, .mp (encM Value.string tI64 v8.2.1)), (2018, .vec 3 (v6.1.map eApiStep))]) (fun j18 h => ?_) (fun v18 h => ?_)
         ·refine W_seq (W_region mixed rfl (r_loadN (.p rfl) rfl ag30 sz30 rfl rfl rfl (r_loadN (.p rfl) rfl ag43 sz43 rfl rfl rfl ?_)))
          obtain ⟨v19, a19, h⟩ := bind_some h
          refine r_callL (ds0 := [_, _]) [] [(2010, _), (2011, _), (2012, _)] (mix_Robust_c N p0 v13.1 v19 a19) (.p rfl) gd54 rfl ⟨rfl, rfl, trivial⟩ ⟨rfl, rfl, rfl, trivial⟩ rfl rfl rfl (nodupL_spec rfl) trivial rfl flatV_nil rfl (r_move (.p rfl) rfl (r_extract (.p rfl) rfl rfl (r_extract (.p rfl) rfl rfl (r_assign (.p rfl) rfl (r_assign (.p rfl) rfl (r_end ?_))))))
          refine W_join h (fun v20 => mk [(2, .e (.one (.ptr 2 0))), (6, .e (.one (.own 2022))), (7, .e (.one (.mref 2023))), (8, .e (.one (.pure (.val (.int .i64 v2.2.2))))), (12, .e (.one (.ptr 12 0))), (13, .e (.one (.ptr 13 0))), (15, .e (.one (.pure (.val (.string v15))))), (46, .e (.one (.own 2024))), (47, .e (.one (.pure (.val (.int .i64 ((v6.1.length : Int))))))), (48, .e (.one (.pure (.val (.int .i64 v8.2.2))))), (87, .e (.one (.pure (.val (.bool v20)))))] [(2, .box [.pure (.sl (p0.fVersions.map eI64)), .pure (.sl (p0.fNow.map eI64)), .pure (.sl (p0.fTarget.map eI64)), .pure (.sl (p0.fTables.map eApiTable))]), (12, .box [.pure (.val (.int .i64 v11.fKind)), .pure (.val (.int .i64 v11.fIndex)), .pure (.val (.int .i64 v11.fVersion))]), (13, .box [.own 2019, .own 2020, .own 2021]), (2019, .vec 1 (v13.1.fBase.map eI64)), (2020, .vec 1 (v13.1.fNext.map eI64)), (2021, .vec 1 (v13.1.fHeld.map eU8)), (2022, .dvec 8 [.s, .s, .s, .s, .s, .s, .s, .x 1 []] (v8.1.map ePlanNode)), (2023, .mp (encM Value.string tI64 v8.2.1)), (2024, .vec 3 (v6.1.map eApiStep))]) (fun j20 h => ?_) (fun v20 h => ?_)
          ·refine W_region mixed rfl (r_move (.p rfl) rfl (r_bin (.p rfl) rfl rfl (bin_neq _ _ _ _ _ _) rfl (r_move (.p rfl) rfl ?_)))
           refine r_split (t := 84) rfl (fun c21 => ?_) (fun c21 => ?_)
           ·have h := cnd_t c21 h
            refine r_notB rfl rfl (r_notB rfl rfl (r_pick (.p rfl) rfl rfl rfl (r_end ?_)))
            exact sink true h (sees_mkL (rn [(2019, 2010), (2020, 2011), (2021, 2012), (2022, 2005), (2023, 2006), (2024, 2007)]) _ _ ⟨rfl, rfl, rfl, rfl, rfl, rfl, rfl, rfl, rfl, rfl, rfl, trivial⟩ ⟨rfl, rfl, rfl, rfl, rfl, rfl, rfl, rfl, rfl, trivial⟩ rfl rfl)
           ·have h := cnd_f c21 h
            refine r_move (.g rfl rfl) rfl (r_un (.g rfl rfl) rfl (un_not _) rfl (r_pick (.p rfl) rfl rfl rfl (r_end ?_)))
            exact sink (!v19.1) h (sees_mkL (rn [(2019, 2010), (2020, 2011), (2021, 2012), (2022, 2005), (2023, 2006), (2024, 2007)]) _ _ ⟨rfl, rfl, rfl, rfl, rfl, rfl, rfl, rfl, rfl, rfl, rfl, trivial⟩ ⟨rfl, rfl, rfl, rfl, rfl, rfl, rfl, rfl, rfl, trivial⟩ rfl rfl)
          ·refine W_cond rfl (fun c22 => ?_) (fun c22 => ?_)
           ·have h := cnd_t c22 h
            refine W_region mixed rfl (r_assign (.p rfl) rfl (r_end ?_))
            exact sink (v8.1, (-1)) h (sees_mkL (rn [(2016, 2022), (2017, 2023), (2018, 2024)]) _ _ ⟨rfl, rfl, rfl, rfl, rfl, rfl, rfl, rfl, rfl, trivial⟩ ⟨rfl, rfl, rfl, rfl, trivial⟩ rfl rfl)
           ·have h := cnd_f c22 h
            refine W_seq (W_region mixed rfl (r_move (.p rfl) rfl ?_))
            refine r_lenG (.p rfl) rfl rfl (vl_dvec ePlanNode v8.1 _ _) slc96 ?_
            refine r_assign (.p rfl) rfl (r_end (W_region mixed rfl (r_move (.p rfl) rfl (r_loadN (.p rfl) rfl ag43 sz43 rfl rfl rfl (r_move (.p rfl) rfl (r_loadN (.p rfl) rfl ag63 sz63 rfl rfl rfl (r_build [(0, .tmp 91, _), (1, .tmp 92, _), (2, .tmp 93, _)] (.p rfl) rfl ⟨rfl, rfl, rfl, trivial⟩ zv101 rfl rfl pl101 rfl (r_see (sees_frz 2019 _ _ rfl rfl) (r_see (sees_frz 2020 _ _ rfl rfl) (r_see (sees_frz 2021 _ _ rfl rfl) ?_))))))))))
            refine r_buildSlice0 [(0, .tmp 94, _)] (.p rfl) rfl ⟨rfl, trivial⟩ rfl slc96 sz101 zv101 rfl rfl (leb rfl) rfl rfl ?_
            refine r_see (sees_nest 95 8 [.s, .s, .s, .s, .s, .s, .s, .x 1 []] _ ((([(PlanNode.mk v13.1 v2.2.2 v11 (([] : List Int)))] : List PlanNode)).map ePlanNode) rfl rfl) ?_
            obtain ⟨c23, h⟩ := chk_bind h
            refine r_appendD (.p rfl) rfl rfl rfl rfl rfl (by decide) slc96 slc96 sz101 byt101 (leb rfl) zv101 rfl (len_lim (f := ePlanNode) (g := ePlanNode) (xs := v8.1) (ys := (([(PlanNode.mk v13.1 v2.2.2 v11 (([] : List Int)))] : List PlanNode))) c23) (map_app ePlanNode v8.1 (([(PlanNode.mk v13.1 v2.2.2 v11 (([] : List Int)))] : List PlanNode))) rfl rfl ?_
            refine r_assign (.p rfl) rfl (r_end ?_)
            exact sink (v8.1 ++ (([(PlanNode.mk v13.1 v2.2.2 v11 (([] : List Int)))] : List PlanNode)), (v8.1.length : Int)) h (sees_mkL (rn [(2016, 96), (2017, 2023), (2018, 2024)]) _ _ ⟨rfl, rfl, rfl, rfl, rfl, rfl, rfl, rfl, rfl, trivial⟩ ⟨rfl, rfl, rfl, rfl, trivial⟩ rfl rfl)
         ·refine W_region mixed rfl (r_move (.p rfl) rfl (r_move (.p rfl) rfl (r_move (.p rfl) rfl ?_)))
          refine r_mapSet (kv := Value.string) (vt := tI64) (m := v8.2.1) (k := v15) (v := v18.2) rfl (.inl rfl) rfl rfl rfl rfl (keyOk_str mpt125 kst9) rfl ?_
          refine r_end ?_
          exact sink (v18.1, mset v15 v18.2 v8.2.1, v18.2) h (sees_mkL (rn [(2013, 2016), (2014, 2017), (2015, 2018)]) _ _ ⟨rfl, rfl, rfl, rfl, rfl, rfl, rfl, rfl, trivial⟩ ⟨rfl, rfl, rfl, rfl, trivial⟩ rfl rfl)
        ·have h := cnd_f c17 h
         refine W_skip ?_
         exact sink (v8.1, v8.2.1, ((mget v15 v8.2.1).getD 0)) h (sees_mkL (rn [(2013, 2005), (2014, 2006), (2015, 2007)]) _ _ ⟨rfl, rfl, rfl, rfl, rfl, rfl, rfl, rfl, trivial⟩ ⟨rfl, rfl, rfl, rfl, trivial⟩ rfl rfl)
       ·refine W_join h (fun v24 => mk [(2, .e (.one (.ptr 2 0))), (6, .e (.one (.own 2025))), (7, .e (.one (.mref 2026))), (8, .e (.one (.pure (.val (.int .i64 v2.2.2))))), (46, .e (.one (.own 2027))), (47, .e (.one (.pure (.val (.int .i64 ((v6.1.length : Int))))))), (48, .e (.one (.pure (.val (.int .i64 v8.2.2)))))] [(2, .box [.pure (.sl (p0.fVersions.map eI64)), .pure (.sl (p0.fNow.map eI64)), .pure (.sl (p0.fTarget.map eI64)), .pure (.sl (p0.fTables.map eApiTable))]), (2025, .dvec 8 [.s, .s, .s, .s, .s, .s, .s, .x 1 []] (v24.map ePlanNode)), (2026, .mp (encM Value.string tI64 v16.2.1)), (2027, .vec 3 (v6.1.map eApiStep))]) (fun j24 h => ?_) (fun v24 h => ?_)
        ·refine W_seq (W_region mixed rfl (r_move (.p rfl) rfl (r_bin (.p rfl) rfl rfl (bin_geq _ _ _ _ _ _) rfl (r_end ?_))))
         refine W_cond rfl (fun c25 => ?_) (fun c25 => ?_)
         ·have h := cnd_t c25 h
          refine W_region mixed rfl (r_move (.p rfl) rfl (r_move (.p rfl) rfl (r_move (.p rfl) rfl (r_move (.p rfl) rfl ?_))))
          obtain ⟨v26, a26, b26, h⟩ := idx_bind h
          refine r_indexG (.p rfl) rfl rfl rfl (vl_dvec ePlanNode v16.1 _ _) slc96 sz101 a26 (lt_of_get b26) ?_
          refine r_fieldAddre (.p rfl) rfl fld101_3 ?_
          refine r_take (.p rfl) rfl ag27 rfl (map_get b26) rfl rfl rfl rfl ?_
          refine r_move (.p rfl) rfl (r_buildSlice [(0, .tmp 109, _)] (.p rfl) rfl ⟨rfl, trivial⟩ rfl slc27 sz3 zv3 rfl rfl (leb rfl) rfl rfl ?_)
          obtain ⟨c27, h⟩ := chk_bind h
          refine r_append (.p rfl) rfl (.own _ _ _) ⟨rfl, trivial⟩ rfl (.own _ _ _) ⟨rfl, trivial⟩ rfl slc27 slc27 sz3 byt3 (leb rfl) zv3 rfl (len_lim (f := eI64) (g := eI64) (xs := v26.fNext) (ys := (([v16.2.2] : List Int))) c27) (map_app eI64 v26.fNext (([v16.2.2] : List Int))) rfl ?_
          obtain ⟨v28, a28, b28, h⟩ := idx_bind h
          refine r_indexG (.p rfl) rfl rfl rfl (vl_hol ePlanNode v16.1 _ _ _ _ _) slc96 sz101 a28 (lt_of_get b28) ?_
          refine r_fieldAddre (.p rfl) rfl fld101_3 ?_
          refine r_storeH rfl rfl rfl rfl (rows2 := (v26.fNext ++ (([v16.2.2] : List Int))).map eI64) (cols2 := []) rfl rfl (map_get b28) (by decide) sz27 rfl rfl (map_setv ePlanNode v16.1 _ ((PlanNode.mk ((ApiMix.mk v28.fM.fBase v28.fM.fNext v28.fM.fHeld)) v28.fFrom ((ApiStep.mk v28.fBy.fKind v28.fBy.fIndex v28.fBy.fVersion)) (v26.fNext ++ (([v16.2.2] : List Int)))))) ?_
          refine r_end ?_
          exact sink (v16.1.set ((v2.2.2).toNat) ((PlanNode.mk ((ApiMix.mk v28.fM.fBase v28.fM.fNext v28.fM.fHeld)) v28.fFrom ((ApiStep.mk v28.fBy.fKind v28.fBy.fIndex v28.fBy.fVersion)) (v26.fNext ++ (([v16.2.2] : List Int)))))) h (sees_mkL (rn [(2025, 2013), (2026, 2014), (2027, 2015)]) _ _ ⟨rfl, rfl, rfl, rfl, rfl, rfl, rfl, trivial⟩ ⟨rfl, rfl, rfl, rfl, trivial⟩ rfl rfl)
         ·have h := cnd_f c25 h
          refine W_skip ?_
          exact sink v16.1 h (sees_mkL (rn [(2025, 2013), (2026, 2014), (2027, 2015)]) _ _ ⟨rfl, rfl, rfl, rfl, rfl, rfl, rfl, trivial⟩ ⟨rfl, rfl, rfl, rfl, trivial⟩ rfl rfl)
        ·refine W_seq (W_region mixed rfl (r_move (.p rfl) rfl ?_))
         refine r_lenG (.p rfl) rfl rfl (vl_dvec ePlanNode v24 _ _) slc96 ?_
         refine r_bin (.p rfl) rfl rfl (bin_gtr _ _ _ _ _ _) rfl (r_end ?_)
         refine W_cond rfl (fun c29 => ?_) (fun c29 => ?_)
         ·have h := cnd_t c29 h
          refine W_seq (W_region mixed rfl (r_assign (.p rfl) rfl (r_assign (.p rfl) rfl (r_end ?_))))
          obtain rfl := Option.some.inj h
          refine W_sees ((sees_nrm 4 _ rfl).trans (sees_mkL (rn []) [(4, .e (.one (.pure (.sl ((([] : List PlanNode)).map ePlanNode))))), (5, .e (.one (.pure (.val (.int .i64 3)))))] [] ⟨rfl, rfl, trivial⟩ trivial rfl rfl)) (W_ret ?_)
          exact ⟨⟨[_, _], ⟨.tmp _ _ rfl, ⟨.tmp _ _ rfl, trivial⟩⟩, rfl⟩, trivial⟩
         ·have h := cnd_f c29 h
          refine W_skip (W_region mixed rfl (r_bin (.p rfl) rfl rfl (bin_add _ _ _ _ _ _) rfl (r_move (.p rfl) rfl (r_end ?_))))
          exact sink (v24, v16.2.1, (IntKind.wrap .i64 (v8.2.2 + 1))) h (sees_mkL (rn [(2005, 2025), (2006, 2026), (2007, 2027)]) _ _ ⟨rfl, rfl, rfl, rfl, rfl, rfl, rfl, trivial⟩ ⟨rfl, rfl, rfl, rfl, trivial⟩ rfl rfl)
     ·have h := cnd_f c10 h
      refine W_exit ?_
      exact sink (v8.1, v8.2.1) h (sees_mkL (rn [(2008, 2005), (2009, 2006)]) _ _ ⟨rfl, rfl, rfl, rfl, trivial⟩ ⟨rfl, rfl, rfl, trivial⟩ rfl rfl)
    ·refine W_sees hs (W_region mixed rfl (r_move (.p rfl) rfl (r_bin (.p rfl) rfl rfl (bin_add _ _ _ _ _ _) rfl (r_assign (.p rfl) rfl (r_end ?_)))))
     exact sink (v9.1, v9.2, (IntKind.wrap .i64 (v2.2.2 + 1))) h (sees_mkL (rn [(2001, 2008), (2002, 2009)]) _ _ ⟨rfl, rfl, rfl, rfl, trivial⟩ ⟨rfl, rfl, rfl, trivial⟩ rfl rfl)
  ·have h := cnd_f c4 h
   refine W_exit ?_
   exact sink v2.1 h (sees_mkL (rn [(2003, 2001)]) _ _ ⟨rfl, trivial⟩ ⟨rfl, trivial⟩ rfl rfl)
 ·refine W_sees hs (W_seq (W_region mixed rfl (r_move (.p rfl) rfl (r_assign (.p rfl) rfl (r_assign (.p rfl) rfl (r_end ?_))))))
  obtain rfl := Option.some.inj h
  refine W_sees ((sees_frzD 2003 _ _ _ rfl rfl).trans (sees_mkL (rn []) [(4, .e (.one (.pure (.sl (v3.map ePlanNode))))), (5, .e (.one (.pure (.val (.int .i64 0)))))] [] ⟨rfl, rfl, trivial⟩ trivial rfl rfl)) (W_ret ?_)
  exact ⟨⟨[_, _], ⟨.tmp _ _ rfl, ⟨.tmp _ _ rfl, trivial⟩⟩, rfl⟩, trivial⟩
set_option maxRecDepth 10000 in
theorem slices_Equal_int_int_c (N : Nat) (p0 : List Int) (p1 : List Int) (r : Bool) (h : Sh.slices_Equal_int_int N p0 p1 = some r) : Contract Try.prog 65 [.e (.one (.pure (.sl (p0.map eI64)))), .e (.one (.pure (.sl (p1.map eI64))))] [] (.e (.one (.pure (.val (.bool r))))) := by
 unfold Sh.slices_Equal_int_int at h
 refine contract_of_W (n := 26) (rs := [.tmp 4]) Try.func65 rfl rfl rfl (leb rfl) (leb rfl) rfl fun w0 S0 => ?_
 refine W_seq (W_region mixed rfl (r_assign (.p rfl) rfl (r_end (W_seq (W_seq (W_region mixed rfl (r_move (.p rfl) rfl (r_len (.p rfl) rfl (.sl _) trivial (List.length_map _) slc27 (r_move (.p rfl) rfl (r_len (.p rfl) rfl (.sl _) trivial (List.length_map _) slc27 (r_bin (.p rfl) rfl rfl (bin_neq _ _ _ _ _ _) rfl (r_end ?_))))))))))))
 refine W_cond rfl (fun c1 => ?_) (fun c1 => ?_)
 ·have h := cnd_t c1 h
  refine W_seq (W_region mixed rfl (r_assign (.p rfl) rfl (r_end ?_)))
  obtain rfl := Option.some.inj h
  refine W_sees (sees_mkL (rn []) [(4, .e (.one (.pure (.val (.bool false)))))] [] ⟨rfl, trivial⟩ trivial rfl rfl) (W_ret ?_)
  exact ⟨⟨[_], ⟨.tmp _ _ rfl, trivial⟩, rfl⟩, trivial⟩
 ·have h := cnd_f c1 h
  refine W_skip (W_seq (W_seq (W_region mixed rfl (r_move (.p rfl) rfl (r_len (.p rfl) rfl (.sl _) trivial (List.length_map _) slc27 (r_move (.p rfl) rfl (r_end ?_)))))))
  refine W_whileE (L := Sh.slices_Equal_int_int_L2 N p0 p1) h (fun v2 => mk [(0, .e (.one (.pure (.sl (p0.map eI64))))), (1, .e (.one (.pure (.sl (p1.map eI64))))), (12, .e (.one (.pure (.val (.int .i64 ((p0.length : Int))))))), (13, .e (.one (.pure (.val (.int .i64 v2)))))] []) (fun v3 => mk [] []) (fun _ _ => rfl) (sees_mkL (rn []) _ _ ⟨rfl, rfl, rfl, rfl, trivial⟩ trivial rfl rfl) (fun j2 n2 v2 h => ?_) (fun v3 s h hs => ?_)
  ·unfold Sh.slices_Equal_int_int_L2 at h
   refine W_seq (W_region mixed rfl (r_bin (.p rfl) rfl rfl (bin_lss _ _ _ _ _ _) rfl (r_end (W_seq ?_))))
   refine W_cond rfl (fun c4 => ?_) (fun c4 => ?_)
   ·have h := cnd_t c4 h
    refine W_skip (W_seq (W_block (W_seq (W_region mixed rfl (r_move (.p rfl) rfl (r_assign (.p rfl) rfl (r_end (W_seq (W_region mixed rfl (r_move (.p rfl) rfl (r_move (.p rfl) rfl ?_)))))))))))
    obtain ⟨v5, a5, b5, h⟩ := idx_bind h
    refine r_index (.p rfl) rfl rfl slc27 sz3 a5 (map_get b5) rfl (r_loadr1 (.p rfl) rfl ag3 rfl (r_move (.p rfl) rfl (r_move (.p rfl) rfl ?_)))
    obtain ⟨v6, a6, b6, h⟩ := idx_bind h
    refine r_index (.p rfl) rfl rfl slc27 sz3 a6 (map_get b6) rfl (r_loadr1 (.p rfl) rfl ag3 rfl (r_bin (.p rfl) rfl rfl (bin_neq _ _ _ _ _ _) rfl ?_))
    refine r_endD (by kernel_rfl) ?_
    refine W_cond rfl (fun c7 => ?_) (fun c7 => ?_)
    ·have h := cnd_t c7 h
     refine W_seq (W_region mixed rfl (r_assign (.p rfl) rfl (r_end ?_)))
     obtain rfl := Option.some.inj h
     refine W_sees (sees_mkL (rn []) [(4, .e (.one (.pure (.val (.bool false)))))] [] ⟨rfl, trivial⟩ trivial rfl rfl) (W_ret ?_)
     exact ⟨⟨[_], ⟨.tmp _ _ rfl, trivial⟩, rfl⟩, trivial⟩
    ·have h := cnd_f c7 h
     refine W_skip (W_region mixed rfl (r_bin (.p rfl) rfl rfl (bin_add _ _ _ _ _ _) rfl (r_move (.p rfl) rfl (r_end ?_))))
     exact sink (IntKind.wrap .i64 (v2 + 1)) h (sees_mkL (rn []) _ _ ⟨rfl, rfl, rfl, rfl, trivial⟩ trivial rfl rfl)
   ·have h := cnd_f c4 h
    refine W_exit ?_
    exact sink () h (sees_mkL (rn []) _ _ trivial trivial rfl rfl)
  ·refine W_sees hs (W_seq (W_region mixed rfl (r_assign (.p rfl) rfl (r_end ?_))))
   obtain rfl := Option.some.inj h
   refine W_sees (sees_mkL (rn []) [(4, .e (.one (.pure (.val (.bool true)))))] [] ⟨rfl, trivial⟩ trivial rfl rfl) (W_ret ?_)
   exact ⟨⟨[_], ⟨.tmp _ _ rfl, trivial⟩, rfl⟩, trivial⟩
set_option maxRecDepth 10000 in
theorem slices_IndexFunc_int_int_c (N : Nat) (p0 : List Int) (p1 : Int → Option Bool) (r : Int) (h : Sh.slices_IndexFunc_int_int N p0 p1 = some r) : Contract Try.prog 92 [.e (.one (.pure (.sl (p0.map eI64)))), .e (.one (.clo (cloG (ea1 false eI64) tB p1)))] [] (.e (.one (.pure (.val (.int .i64 r))))) := by
 unfold Sh.slices_IndexFunc_int_int at h
 refine contract_of_W (n := 19) (rs := [.tmp 4]) Try.func92 rfl rfl rfl (leb rfl) (leb rfl) rfl fun w0 S0 => ?_
 refine W_seq (W_region mixed rfl (r_assign (.p rfl) rfl (r_end (W_seq (W_seq (W_region mixed rfl (r_move (.p rfl) rfl (r_len (.p rfl) rfl (.sl _) trivial (List.length_map _) slc27 (r_move (.p rfl) rfl (r_end ?_))))))))))
 refine W_whileE (L := Sh.slices_IndexFunc_int_int_L1 N p0 p1) h (fun v1 => mk [(0, .e (.one (.pure (.sl (p0.map eI64))))), (1, .e (.one (.clo (cloG (ea1 false eI64) tB p1)))), (7, .e (.one (.pure (.val (.int .i64 ((p0.length : Int))))))), (8, .e (.one (.pure (.val (.int .i64 v1)))))] []) (fun v2 => mk [] []) (fun _ _ => rfl) (sees_mkL (rn []) _ _ ⟨rfl, rfl, rfl, rfl, trivial⟩ trivial rfl rfl) (fun j1 n1 v1 h => ?_) (fun v2 s h hs => ?_)
 ·unfold Sh.slices_IndexFunc_int_int_L1 at h
  refine W_seq (W_region mixed rfl (r_bin (.p rfl) rfl rfl (bin_lss _ _ _ _ _ _) rfl (r_end (W_seq ?_))))
  refine W_cond rfl (fun c3 => ?_) (fun c3 => ?_)
  ·have h := cnd_t c3 h
   refine W_skip (W_seq (W_block (W_seq (W_region mixed rfl (r_move (.p rfl) rfl (r_assign (.p rfl) rfl (r_end (W_seq (W_region mixed rfl (r_move (.p rfl) rfl (r_move (.p rfl) rfl (r_move (.p rfl) rfl ?_))))))))))))
   obtain ⟨v4, a4, b4, h⟩ := idx_bind h
   refine r_index (.p rfl) rfl rfl slc27 sz3 a4 (map_get b4) rfl (r_loadr1 (.p rfl) rfl ag3 rfl ?_)
   obtain ⟨v5, a5, h⟩ := bind_some h
   refine r_callv (ds0 := [_]) (ar := (ea1 false eI64) v4) (.p rfl) rfl rfl ⟨rfl, trivial⟩ rfl rfl rfl (cloG_at (inj_ea1 _ _ injI64) a5) ?_
   refine r_end ?_
   refine W_cond rfl (fun c6 => ?_) (fun c6 => ?_)
   ·have h := cnd_t c6 h
    refine W_seq (W_region mixed rfl (r_move (.p rfl) rfl (r_assign (.p rfl) rfl (r_end ?_))))
    obtain rfl := Option.some.inj h
    refine W_sees (sees_mkL (rn []) [(4, .e (.one (.pure (.val (.int .i64 v1)))))] [] ⟨rfl, trivial⟩ trivial rfl rfl) (W_ret ?_)
    exact ⟨⟨[_], ⟨.tmp _ _ rfl, trivial⟩, rfl⟩, trivial⟩
   ·have h := cnd_f c6 h
    refine W_skip (W_region mixed rfl (r_bin (.p rfl) rfl rfl (bin_add _ _ _ _ _ _) rfl (r_move (.p rfl) rfl (r_end ?_))))
    exact sink (IntKind.wrap .i64 (v1 + 1)) h (sees_mkL (rn []) _ _ ⟨rfl, rfl, rfl, rfl, trivial⟩ trivial rfl rfl)
  ·have h := cnd_f c3 h
   refine W_exit ?_
   exact sink () h (sees_mkL (rn []) _ _ trivial trivial rfl rfl)
 ·refine W_sees hs (W_seq (W_region mixed rfl (r_assign (.p rfl) rfl (r_end ?_))))
  obtain rfl := Option.some.inj h
  refine W_sees (sees_mkL (rn []) [(4, .e (.one (.pure (.val (.int .i64 ((-1)))))))] [] ⟨rfl, trivial⟩ trivial rfl rfl) (W_ret ?_)
  exact ⟨⟨[_], ⟨.tmp _ _ rfl, trivial⟩, rfl⟩, trivial⟩
set_option maxRecDepth 10000 in
theorem slices_ContainsFunc_int_int_c (N : Nat) (p0 : List Int) (p1 : Int → Option Bool) (r : Bool) (h : Sh.slices_ContainsFunc_int_int N p0 p1 = some r) : Contract Try.prog 66 [.e (.one (.pure (.sl (p0.map eI64)))), .e (.one (.clo (cloG (ea1 false eI64) tB p1)))] [] (.e (.one (.pure (.val (.bool r))))) := by
 unfold Sh.slices_ContainsFunc_int_int at h
 refine contract_of_W (n := 9) (rs := [.tmp 4]) Try.func66 rfl rfl rfl (leb rfl) (leb rfl) rfl fun w0 S0 => ?_
 refine W_seq (W_region mixed rfl (r_assign (.p rfl) rfl (r_end (W_seq (W_region mixed rfl (r_move (.p rfl) rfl (r_move (.p rfl) rfl ?_)))))))
 obtain ⟨v1, a1, h⟩ := bind_some h
 refine r_call (ds0 := [_, _]) [] (slices_IndexFunc_int_int_c N p0 p1 v1 a1) (.p rfl) gd92 rfl ⟨rfl, rfl, trivial⟩ rfl rfl rfl (nodupL_spec rfl) trivial rfl (r_bin (.p rfl) rfl rfl (bin_geq _ _ _ _ _ _) rfl (r_assign (.p rfl) rfl (r_end ?_)))
 obtain rfl := Option.some.inj h
 refine W_sees (sees_mkL (rn []) [(4, .e (.one (.pure (.val (.bool ((decide (0 ≤ v1))))))))] [] ⟨rfl, trivial⟩ trivial rfl rfl) (W_ret ?_)
 exact ⟨⟨[_], ⟨.tmp _ _ rfl, trivial⟩, rfl⟩, trivial⟩
set_option maxRecDepth 10000 in
theorem mix_Goal_1_c (N : Nat) (p0 : Int) (r : Bool) (h : Sh.mix_Goal_1 N p0 = some r) : Contract Try.prog 79 [.e (.one (.pure (.val (.int .i64 p0))))] [] (.e (.one (.pure (.val (.bool r))))) := by
 unfold Sh.mix_Goal_1 at h
 refine contract_of_W (n := 5) (rs := [.tmp 2]) Try.func79 rfl rfl rfl (leb rfl) (leb rfl) rfl fun w0 S0 => ?_
 refine W_seq (W_region mixed rfl (r_assign (.p rfl) rfl (r_end (W_seq (W_region mixed rfl (r_move (.p rfl) rfl (r_bin (.p rfl) rfl rfl (bin_geq _ _ _ _ _ _) rfl (r_assign (.p rfl) rfl (r_end ?_)))))))))
 obtain rfl := Option.some.inj h
 refine W_sees (sees_mkL (rn []) [(2, .e (.one (.pure (.val (.bool ((decide (0 ≤ p0))))))))] [] ⟨rfl, trivial⟩ trivial rfl rfl) (W_ret ?_)
 exact ⟨⟨[_], ⟨.tmp _ _ rfl, trivial⟩, rfl⟩, trivial⟩
set_option maxRecDepth 10000 in
theorem mix_Goal_c (N : Nat) (p0 : ApiProblem) (p1 : ApiMix) (r : Bool) (h : Sh.mix_Goal N p0 p1 = some r) : Contract Try.prog 40 [.e (.agg [.pure (.sl (p0.fVersions.map eI64)), .pure (.sl (p0.fNow.map eI64)), .pure (.sl (p0.fTarget.map eI64)), .pure (.sl (p0.fTables.map eApiTable))]), .e (.agg [.pure (.sl (p1.fBase.map eI64)), .pure (.sl (p1.fNext.map eI64)), .pure (.sl (p1.fHeld.map eU8))])] [] (.e (.one (.pure (.val (.bool r))))) := by
 unfold Sh.mix_Goal at h
 refine contract_of_W (n := 22) (rs := [.tmp 4]) Try.func40 rfl rfl rfl (leb rfl) (leb rfl) rfl fun w0 S0 => ?_
 refine W_seq (W_region mixed rfl (r_box (.p rfl) rfl rfl (r_box (.p rfl) rfl rfl (r_assign (.p rfl) rfl (r_end ?_)))))
 refine W_join h (fun v1 => mk [(4, .e (.one (.pure (.val (.bool v1)))))] []) (fun j1 h => ?_) (fun v1 h => ?_)
 ·refine W_region mixed rfl (r_loadN (.p rfl) rfl ag30 sz30 rfl rfl rfl (r_loadN (.p rfl) rfl ag43 sz43 rfl rfl rfl ?_))
  obtain ⟨v2, a2, h⟩ := bind_some h
  refine r_call (ds0 := [_, _]) [] (mix_Valid_c N p0 p1 v2 a2) (.p rfl) gd77 rfl ⟨rfl, rfl, trivial⟩ rfl rfl rfl (nodupL_spec rfl) trivial rfl (r_bin (.p rfl) rfl rfl (bin_eql _ _ _ _ _ _) rfl (r_move (.p rfl) rfl ?_))
  refine r_split (t := 9) rfl (fun c3 => ?_) (fun c3 => ?_)
  ·have h := cnd_t c3 h
   refine r_fieldAddr (.g rfl rfl) rfl fld43_0 (r_load1 (.g rfl rfl) rfl ag27 rfl rfl (r_fieldAddr (.g rfl rfl) rfl fld30_2 (r_load1 (.g rfl rfl) rfl ag27 rfl rfl ?_)))
   obtain ⟨v4, a4, h⟩ := bind_some h
   refine r_call (ds0 := [_, _]) [] (slices_Equal_int_int_c N p1.fBase p0.fTarget v4 a4) (.g rfl rfl) gd65 rfl ⟨rfl, rfl, trivial⟩ rfl rfl rfl (nodupL_spec rfl) trivial rfl (r_pick (.p rfl) rfl rfl rfl (r_move (.p rfl) rfl ?_))
   refine r_split (t := 16) rfl (fun c5 => ?_) (fun c5 => ?_)
   ·have h := cnd_t c5 h
    refine r_fieldAddr (.g rfl rfl) rfl fld43_1 (r_load1 (.g rfl rfl) rfl ag27 rfl rfl ?_)
    obtain ⟨v6, a6, h⟩ := bind_some h
    refine r_call (ds0 := [_, _]) [] (Contract.weak (ds' := [.e (.one (.pure (.sl (p1.fNext.map eI64)))), .e (.one (.fnc 79))]) (slices_ContainsFunc_int_int_c N p1.fNext ((fun (x : Int) => Sh.mix_Goal_1 N x)) v6 a6) ⟨(fun _ _ _ hh => hh), (fun _ _ _ hh => fnc_clo gd79 (fun ar t ht => by obtain ⟨x, r, rfl, hq, rfl⟩ := cloG_some ht; exact mix_Goal_1_c N x r hq) hh), trivial⟩) (.g rfl rfl) gd66 rfl ⟨rfl, rfl, trivial⟩ rfl rfl rfl (nodupL_spec rfl) trivial rfl ?_
    refine r_un (.g rfl rfl) rfl (un_not _) rfl (r_pick (.p rfl) rfl rfl rfl (r_assign (.p rfl) rfl (r_end ?_)))
    exact sink (!v6) h (sees_mkL (rn []) _ _ ⟨rfl, trivial⟩ trivial rfl rfl)
   ·have h := cnd_f c5 h
    refine r_notB rfl rfl (r_notB rfl rfl (r_notB rfl rfl (r_notB rfl rfl (r_pick (.p rfl) rfl rfl rfl (r_assign (.p rfl) rfl (r_end ?_))))))
    exact sink false h (sees_mkL (rn []) _ _ ⟨rfl, trivial⟩ trivial rfl rfl)
  ·have h := cnd_f c3 h
   refine r_notB rfl rfl (r_notB rfl rfl (r_notB rfl rfl (r_notB rfl rfl (r_notB rfl rfl (r_pick (.p rfl) rfl rfl rfl (r_move (.p rfl) rfl (r_notB rfl rfl (r_notB rfl rfl (r_notB rfl rfl (r_notB rfl rfl (r_pick (.p rfl) rfl rfl rfl (r_assign (.p rfl) rfl (r_end ?_)))))))))))))
   exact sink false h (sees_mkL (rn []) _ _ ⟨rfl, trivial⟩ trivial rfl rfl)
 ·obtain rfl := Option.some.inj h
  refine W_sees (sees_mkL (rn []) [(4, .e (.one (.pure (.val (.bool v1)))))] [] ⟨rfl, trivial⟩ trivial rfl rfl) (W_ret ?_)
  exact ⟨⟨[_], ⟨.tmp _ _ rfl, trivial⟩, rfl⟩, trivial⟩
set_option maxRecDepth 10000 in
theorem plan_From_1_c (N : Nat) (p0 : PlanNode) (p1 : List Int) (p2 : List Int) (p3 : List Int) (p4 : List ApiTable) (r : Bool) (h : Sh.plan_From_1 N p0 p1 p2 p3 p4 = some r) : Contract Try.prog 57 [.e (.agg [.pure (.sl (p0.fM.fBase.map eI64)), .pure (.sl (p0.fM.fNext.map eI64)), .pure (.sl (p0.fM.fHeld.map eU8)), .pure (.val (.int .i64 p0.fFrom)), .pure (.val (.int .i64 p0.fBy.fKind)), .pure (.val (.int .i64 p0.fBy.fIndex)), .pure (.val (.int .i64 p0.fBy.fVersion)), .pure (.sl (p0.fNext.map eI64))]), .e (.one (.rop [.sl (p1.map eI64), .sl (p2.map eI64), .sl (p3.map eI64), .sl (p4.map eApiTable)]))] [] (.e (.one (.pure (.val (.bool r))))) := by
 unfold Sh.plan_From_1 at h
 refine contract_of_W (n := 8) (rs := [.tmp 3]) Try.func57 rfl rfl rfl (leb rfl) (leb rfl) rfl fun w0 S0 => ?_
 refine W_seq (W_region mixed rfl (r_box (.p rfl) rfl rfl (r_assign (.p rfl) rfl (r_end (W_seq (W_region mixed rfl (r_loadrN (.p rfl) rfl ag30 sz30 rfl rfl (r_fieldAddr (.p rfl) rfl fld101_0 (r_loadN (.p rfl) rfl ag43 sz43 rfl rfl rfl ?_)))))))))
 obtain ⟨v1, a1, h⟩ := bind_some h
 refine r_call (ds0 := [_, _]) [] (mix_Goal_c N ((ApiProblem.mk p1 p2 p3 p4)) ((ApiMix.mk p0.fM.fBase p0.fM.fNext p0.fM.fHeld)) v1 a1) (.p rfl) gd40 rfl ⟨rfl, rfl, trivial⟩ rfl rfl rfl (nodupL_spec rfl) trivial rfl (r_assign (.p rfl) rfl (r_end ?_))
 obtain rfl := Option.some.inj h
 refine W_sees (sees_mkL (rn []) [(3, .e (.one (.pure (.val (.bool v1)))))] [] ⟨rfl, trivial⟩ trivial rfl rfl) (W_ret ?_)
 exact ⟨⟨[_], ⟨.tmp _ _ rfl, trivial⟩, rfl⟩, trivial⟩
set_option maxRecDepth 10000 in
theorem slices_IndexFunc_plan_node_plan_node_c (N : Nat) (p0 : List PlanNode) (p1 : PlanNode → Option Bool) (r : Int) (h : Sh.slices_IndexFunc_plan_node_plan_node N p0 p1 = some r) : Contract Try.prog 56 [.e (.one (.pure (.sl (p0.map ePlanNode)))), .e (.one (.clo (cloG (ea1 true ePlanNode) tB p1)))] [] (.e (.one (.pure (.val (.int .i64 r))))) := by
 unfold Sh.slices_IndexFunc_plan_node_plan_node at h
 refine contract_of_W (n := 19) (rs := [.tmp 4]) Try.func56 rfl rfl rfl (leb rfl) (leb rfl) rfl fun w0 S0 => ?_
 refine W_seq (W_region mixed rfl (r_assign (.p rfl) rfl (r_end (W_seq (W_seq (W_region mixed rfl (r_move (.p rfl) rfl (r_len (.p rfl) rfl (.sl _) trivial (List.length_map _) slc96 (r_move (.p rfl) rfl (r_end ?_))))))))))
 refine W_whileE (L := Sh.slices_IndexFunc_plan_node_plan_node_L1 N p0 p1) h (fun v1 => mk [(0, .e (.one (.pure (.sl (p0.map ePlanNode))))), (1, .e (.one (.clo (cloG (ea1 true ePlanNode) tB p1)))), (7, .e (.one (.pure (.val (.int .i64 ((p0.length : Int))))))), (8, .e (.one (.pure (.val (.int .i64 v1)))))] []) (fun v2 => mk [] []) (fun _ _ => rfl) (sees_mkL (rn []) _ _ ⟨rfl, rfl, rfl, rfl, trivial⟩ trivial rfl rfl) (fun j1 n1 v1 h => ?_) (fun v2 s h hs => ?_)
 ·unfold Sh.slices_IndexFunc_plan_node_plan_node_L1 at h
  refine W_seq (W_region mixed rfl (r_bin (.p rfl) rfl rfl (bin_lss _ _ _ _ _ _) rfl (r_end (W_seq ?_))))
  refine W_cond rfl (fun c3 => ?_) (fun c3 => ?_)
  ·have h := cnd_t c3 h
   refine W_skip (W_seq (W_block (W_seq (W_region mixed rfl (r_move (.p rfl) rfl (r_assign (.p rfl) rfl (r_end (W_seq (W_region mixed rfl (r_move (.p rfl) rfl (r_move (.p rfl) rfl (r_move (.p rfl) rfl ?_))))))))))))
   obtain ⟨v4, a4, b4, h⟩ := idx_bind h
   refine r_index (.p rfl) rfl rfl slc96 sz101 a4 (map_get b4) rfl (r_loadrN (.p rfl) rfl ag101 sz101 rfl rfl ?_)
   obtain ⟨v5, a5, h⟩ := bind_some h
   refine r_callv (ds0 := [_]) (ar := (ea1 true ePlanNode) ((PlanNode.mk ((ApiMix.mk v4.fM.fBase v4.fM.fNext v4.fM.fHeld)) v4.fFrom ((ApiStep.mk v4.fBy.fKind v4.fBy.fIndex v4.fBy.fVersion)) v4.fNext))) (.p rfl) rfl rfl ⟨rfl, trivial⟩ rfl rfl rfl (cloG_at (inj_ea1 _ _ injPlanNode) a5) ?_
   refine r_end ?_
   refine W_cond rfl (fun c6 => ?_) (fun c6 => ?_)
   ·have h := cnd_t c6 h
    refine W_seq (W_region mixed rfl (r_move (.p rfl) rfl (r_assign (.p rfl) rfl (r_end ?_))))
    obtain rfl := Option.some.inj h
    refine W_sees (sees_mkL (rn []) [(4, .e (.one (.pure (.val (.int .i64 v1)))))] [] ⟨rfl, trivial⟩ trivial rfl rfl) (W_ret ?_)
    exact ⟨⟨[_], ⟨.tmp _ _ rfl, trivial⟩, rfl⟩, trivial⟩
   ·have h := cnd_f c6 h
    refine W_skip (W_region mixed rfl (r_bin (.p rfl) rfl rfl (bin_add _ _ _ _ _ _) rfl (r_move (.p rfl) rfl (r_end ?_))))
    exact sink (IntKind.wrap .i64 (v1 + 1)) h (sees_mkL (rn []) _ _ ⟨rfl, rfl, rfl, rfl, trivial⟩ trivial rfl rfl)
  ·have h := cnd_f c3 h
   refine W_exit ?_
   exact sink () h (sees_mkL (rn []) _ _ trivial trivial rfl rfl)
 ·refine W_sees hs (W_seq (W_region mixed rfl (r_assign (.p rfl) rfl (r_end ?_))))
  obtain rfl := Option.some.inj h
  refine W_sees (sees_mkL (rn []) [(4, .e (.one (.pure (.val (.int .i64 ((-1)))))))] [] ⟨rfl, trivial⟩ trivial rfl rfl) (W_ret ?_)
  exact ⟨⟨[_], ⟨.tmp _ _ rfl, trivial⟩, rfl⟩, trivial⟩
set_option maxRecDepth 10000 in
theorem slices_Reverse_api_Step_api_Step_c (N : Nat) (p0 : List ApiStep) (r : (List ApiStep)) (h : Sh.slices_Reverse_api_Step_api_Step N p0 = some r) : ContractM Try.prog 88 [.e (.one (.own 90000))] [(.vec 3 (p0.map eApiStep), .vec 3 (r.map eApiStep))] [] (.tup []) := by
 unfold Sh.slices_Reverse_api_Step_api_Step at h
 refine contractM_of_W (n := 28) (rs := []) Try.func88 rfl rfl rfl (leb rfl) (leb rfl) rfl rfl (leb rfl) rfl (leb rfl) fun w0 S0 GL => W_fin ?_
 refine W_sees (sees_mkL (rn []) [(0, .e (.one (.own 90000)))] [(90000, .vec 3 (p0.map eApiStep))] ⟨rfl, trivial⟩ ⟨rfl, trivial⟩ rfl rfl) (W_seq (W_region mixed rfl (r_move (.p rfl) rfl (r_len (.p rfl) rfl (.own _ _ _) ⟨rfl, trivial⟩ (List.length_map _) slc33 (r_bin (.p rfl) rfl rfl (bin_sub _ _ _ _ _ _) rfl (r_assign (.p rfl) rfl (r_assign (.p rfl) rfl (r_end ?_))))))))
 refine W_whileE (L := Sh.slices_Reverse_api_Step_api_Step_L1 N) h (fun v1 => mk [(0, .e (.one (.own 90000))), (2, .e (.one (.pure (.val (.int .i64 v1.2.1))))), (3, .e (.one (.pure (.val (.int .i64 v1.2.2)))))] [(90000, .vec 3 (v1.1.map eApiStep))]) (fun v2 => mk [] [(90000, .vec 3 (v2.map eApiStep))]) (fun _ _ => rfl) (sees_mkL (rn []) _ _ ⟨rfl, rfl, rfl, trivial⟩ ⟨rfl, trivial⟩ rfl rfl) (fun j1 n1 v1 h => ?_) (fun v2 s h hs => ?_)
 ·unfold Sh.slices_Reverse_api_Step_api_Step_L1 at h
  refine W_seq (W_seq (W_region mixed rfl (r_move (.p rfl) rfl (r_move (.p rfl) rfl (r_bin (.p rfl) rfl rfl (bin_lss _ _ _ _ _ _) rfl (r_end ?_))))))
  refine W_cond rfl (fun c3 => ?_) (fun c3 => ?_)
  ·have h := cnd_t c3 h
   refine W_skip (W_seq (W_block (W_region mixed rfl (r_move (.p rfl) rfl (r_move (.p rfl) rfl (r_move (.p rfl) rfl (r_move (.p rfl) rfl (r_move (.p rfl) rfl (r_move (.p rfl) rfl ?_)))))))))
   obtain ⟨v4, a4, b4, h⟩ := idx_bind h
   refine r_indexo (.p rfl) rfl rfl rfl slc33 sz63 a4 (map_get b4) (r_loadeN (.p rfl) rfl ag63 sz63 rfl (map_get b4) (r_move (.p rfl) rfl (r_move (.p rfl) rfl ?_)))
   obtain ⟨v5, a5, b5, h⟩ := idx_bind h
   refine r_indexo (.p rfl) rfl rfl rfl slc33 sz63 a5 (map_get b5) (r_loadeN (.p rfl) rfl ag63 sz63 rfl (map_get b5) ?_)
   obtain ⟨v6, a6, b6, h⟩ := idx_bind h
   refine r_indexo (.p rfl) rfl rfl rfl slc33 sz63 a6 (map_get b6) (r_storee rfl rfl rfl rfl (map_get b6) rfl sz63 rfl (leb rfl) (map_setv eApiStep v1.1 _ v4) ?_)
   obtain ⟨v7, a7, b7, h⟩ := idx_bind h
   refine r_indexo (.p rfl) rfl rfl rfl slc33 sz63 a7 (map_get b7) (r_storee rfl rfl rfl rfl (map_get b7) rfl sz63 rfl (leb rfl) (map_setv eApiStep (v1.1.set (v1.2.1).toNat v4) _ v5) ?_)
   refine r_endD (by kernel_rfl) ?_
   refine W_region mixed rfl (r_move (.p rfl) rfl (r_bin (.p rfl) rfl rfl (bin_add _ _ _ _ _ _) rfl (r_move (.p rfl) rfl (r_bin (.p rfl) rfl rfl (bin_sub _ _ _ _ _ _) rfl (r_assign (.p rfl) rfl (r_assign (.p rfl) rfl (r_end ?_)))))))
   exact sink ((v1.1.set (v1.2.1).toNat v4).set (v1.2.2).toNat v5, (IntKind.wrap .i64 (v1.2.1 + 1)), (IntKind.wrap .i64 (v1.2.2 - 1))) h (sees_mkL (rn []) _ _ ⟨rfl, rfl, rfl, trivial⟩ ⟨rfl, trivial⟩ rfl rfl)
  ·have h := cnd_f c3 h
   refine W_exit ?_
   exact sink v1.1 h (sees_mkL (rn []) _ _ trivial ⟨rfl, trivial⟩ rfl rfl)
 ·obtain rfl := Option.some.inj h
  refine ⟨_, hs.trans (sees_mkL (rn []) [] [(90000, .vec 3 (v2.map eApiStep))] trivial ⟨rfl, trivial⟩ rfl rfl), ?_⟩
  exact ⟨⟨[], trivial, rfl⟩, ⟨rfl, trivial⟩, trivial⟩
set_option maxRecDepth 10000 in
theorem plan_way_c (N : Nat) (p0 : List PlanNode) (p1 : Int) (r : (List ApiStep)) (h : Sh.plan_way N p0 p1 = some r) : Contract Try.prog 58 [.e (.one (.pure (.sl (p0.map ePlanNode)))), .e (.one (.pure (.val (.int .i64 p1))))] [(3, r.map eApiStep)] (.e (.one (.own 0))) := by
 unfold Sh.plan_way at h
 refine contract_of_W (n := 28) (rs := [.tmp 4]) Try.func58 rfl rfl rfl (leb rfl) (leb rfl) rfl fun w0 S0 => ?_
 refine W_seq (W_region mixed rfl (r_assign (.p rfl) rfl (r_end (W_seq (W_region mixed rfl (r_assign (.p rfl) rfl (r_end (W_seq ?_))))))))
 refine W_whileE (L := Sh.plan_way_L1 N p0) h (fun v1 => mk [(0, .e (.one (.pure (.sl (p0.map ePlanNode))))), (1, .e (.one (.pure (.val (.int .i64 v1.1))))), (5, .e (.one (.own 2001)))] [(2001, .vec 3 (v1.2.map eApiStep))]) (fun v2 => mk [(5, .e (.one (.own 2002)))] [(2002, .vec 3 (v2.map eApiStep))]) (fun _ _ => rfl) ((sees_adopt 5 2003 3 rfl rfl rfl).trans (sees_mkL (rn [(2001, 2003)]) _ _ ⟨rfl, rfl, rfl, trivial⟩ ⟨rfl, trivial⟩ rfl rfl)) (fun j1 n1 v1 h => ?_) (fun v2 s h hs => ?_)
 ·unfold Sh.plan_way_L1 at h
  refine W_seq (W_seq (W_region mixed rfl (r_move (.p rfl) rfl (r_move (.p rfl) rfl ?_))))
  obtain ⟨v3, a3, b3, h⟩ := idx_bind h
  refine r_index (.p rfl) rfl rfl slc96 sz101 a3 (map_get b3) rfl (r_fieldAddrr (.p rfl) rfl fld101_1 (leb rfl) rfl (r_loadr1 (.p rfl) rfl ag3 rfl (r_bin (.p rfl) rfl rfl (bin_geq _ _ _ _ _ _) rfl (r_end ?_))))
  refine W_cond rfl (fun c4 => ?_) (fun c4 => ?_)
  ·have h := cnd_t c4 h
   refine W_skip (W_seq (W_block (W_region mixed rfl (r_move (.p rfl) rfl (r_move (.p rfl) rfl (r_move (.p rfl) rfl ?_))))))
   obtain ⟨v5, a5, b5, h⟩ := idx_bind h
   refine r_index (.p rfl) rfl rfl slc96 sz101 a5 (map_get b5) rfl (r_fieldAddrr (.p rfl) rfl fld101_2 (leb rfl) rfl (r_loadrN (.p rfl) rfl ag63 sz63 rfl rfl (r_buildSlice [(0, .tmp 22, _)] (.p rfl) rfl ⟨rfl, trivial⟩ rfl slc33 sz63 zv63 rfl rfl (leb rfl) rfl rfl ?_)))
   obtain ⟨c6, h⟩ := chk_bind h
   refine r_append (.p rfl) rfl (.own _ _ _) ⟨rfl, trivial⟩ rfl (.own _ _ _) ⟨rfl, trivial⟩ rfl slc33 slc33 sz63 byt63 (leb rfl) zv63 rfl (len_lim (f := eApiStep) (g := eApiStep) (xs := v1.2) (ys := (([(ApiStep.mk v5.fBy.fKind v5.fBy.fIndex v5.fBy.fVersion)] : List ApiStep))) c6) (map_app eApiStep v1.2 (([(ApiStep.mk v5.fBy.fKind v5.fBy.fIndex v5.fBy.fVersion)] : List ApiStep))) rfl (r_assign (.p rfl) rfl (r_end (W_region mixed rfl (r_move (.p rfl) rfl (r_move (.p rfl) rfl ?_)))))
   obtain ⟨v7, a7, b7, h⟩ := idx_bind h
   refine r_index (.p rfl) rfl rfl slc96 sz101 a7 (map_get b7) rfl (r_fieldAddrr (.p rfl) rfl fld101_1 (leb rfl) rfl (r_loadr1 (.p rfl) rfl ag3 rfl (r_assign (.p rfl) rfl (r_end ?_))))
   exact sink (v7.fFrom, v1.2 ++ (([(ApiStep.mk v5.fBy.fKind v5.fBy.fIndex v5.fBy.fVersion)] : List ApiStep))) h (sees_mkL (rn [(2001, 24)]) _ _ ⟨rfl, rfl, rfl, trivial⟩ ⟨rfl, trivial⟩ rfl rfl)
  ·have h := cnd_f c4 h
   refine W_exit ?_
   exact sink v1.2 h (sees_mkL (rn [(2002, 2001)]) _ _ ⟨rfl, trivial⟩ ⟨rfl, trivial⟩ rfl rfl)
 ·refine W_sees hs (W_seq (W_region mixed rfl (r_move (.p rfl) rfl ?_)))
  obtain ⟨v8, a8, h⟩ := bind_some h
  refine r_callM (ds0 := [_]) [2002] [] [true] (slices_Reverse_api_Step_api_Step_c N v2 v8 a8) (.p rfl) gd88 rfl ⟨rfl, trivial⟩ rfl rfl (by decide) ⟨rfl, trivial⟩ rfl (nodupL_spec rfl) trivial ⟨(fun h => by cases h), trivial⟩ rfl rfl rfl ?_
  refine r_end (W_seq (W_region mixed rfl (r_move (.p rfl) rfl (r_assign (.p rfl) rfl (r_end ?_)))))
  obtain rfl := Option.some.inj h
  refine W_sees (sees_mkL (rn [(1000, 2002)]) [(4, .e (.one (.own 1000)))] [(1000, .vec 3 (v8.map eApiStep))] ⟨rfl, trivial⟩ ⟨rfl, trivial⟩ rfl rfl) (W_ret ?_)
  exact ⟨⟨[_], ⟨.tmp _ _ rfl, trivial⟩, rfl⟩, ⟨rfl, trivial⟩⟩
set_option maxRecDepth 10000 in
theorem plan_From_c (N : Nat) (p0 : ApiProblem) (p1 : ApiMix) (r : (List ApiStep) × Int) (h : Sh.plan_From N p0 p1 = some r) : Contract Try.prog 27 [.e (.agg [.pure (.sl (p0.fVersions.map eI64)), .pure (.sl (p0.fNow.map eI64)), .pure (.sl (p0.fTarget.map eI64)), .pure (.sl (p0.fTables.map eApiTable))]), .e (.agg [.pure (.sl (p1.fBase.map eI64)), .pure (.sl (p1.fNext.map eI64)), .pure (.sl (p1.fHeld.map eU8))])] [(3, r.1.map eApiStep)] (.tup [.one (.own 0), .one (.pure (.val (.int .i64 r.2)))]) := by
 unfold Sh.plan_From at h
 refine contract_of_W (n := 38) (rs := [.tmp 4, .tmp 5]) Try.func27 rfl rfl rfl (leb rfl) (leb rfl) rfl fun w0 S0 => ?_
 refine W_seq (W_region mixed rfl (r_box (.p rfl) rfl rfl (r_box (.p rfl) rfl rfl (r_assign (.p rfl) rfl (r_assign (.p rfl) rfl (r_end (W_seq (W_region mixed rfl (r_loadN (.p rfl) rfl ag30 sz30 rfl rfl rfl (r_loadN (.p rfl) rfl ag43 sz43 rfl rfl rfl ?_))))))))))
 obtain ⟨v1, a1, h⟩ := bind_some h
 refine r_call (ds0 := [_, _]) [] (mix_Robust_c N p0 p1 v1 a1) (.p rfl) gd54 rfl ⟨rfl, rfl, trivial⟩ rfl rfl rfl (nodupL_spec rfl) trivial rfl (r_move (.p rfl) rfl (r_extract (.p rfl) rfl rfl (r_extract (.p rfl) rfl rfl (r_assign (.p rfl) rfl (r_assign (.p rfl) rfl (r_end (W_seq (W_seq (W_region mixed rfl (r_move (.p rfl) rfl (r_bin (.p rfl) rfl rfl (bin_neq _ _ _ _ _ _) rfl (r_end ?_))))))))))))
 refine W_cond rfl (fun c2 => ?_) (fun c2 => ?_)
 ·have h := cnd_t c2 h
  refine W_seq (W_region mixed rfl (r_move (.p rfl) rfl (r_assign (.p rfl) rfl (r_assign (.p rfl) rfl (r_end ?_)))))
  obtain rfl := Option.some.inj h
  refine W_sees ((sees_adopt 4 2001 3 rfl rfl rfl).trans (sees_mkL (rn [(1000, 2001)]) [(4, .e (.one (.own 1000))), (5, .e (.one (.pure (.val (.int .i64 v1.2)))))] [(1000, .vec 3 ((([] : List ApiStep)).map eApiStep))] ⟨rfl, rfl, trivial⟩ ⟨rfl, trivial⟩ rfl rfl)) (W_ret ?_)
  exact ⟨⟨[_, _], ⟨.tmp _ _ rfl, ⟨.tmp _ _ rfl, trivial⟩⟩, rfl⟩, ⟨rfl, trivial⟩⟩
 ·have h := cnd_f c2 h
  refine W_skip (W_seq (W_seq (W_region mixed rfl (r_move (.p rfl) rfl (r_un (.p rfl) rfl (un_not _) rfl (r_end ?_))))))
  refine W_cond rfl (fun c3 => ?_) (fun c3 => ?_)
  ·have h := cnd_t c3 h
   refine W_seq (W_region mixed rfl (r_assign (.p rfl) rfl (r_assign (.p rfl) rfl (r_end ?_))))
   obtain rfl := Option.some.inj h
   refine W_sees ((sees_adopt 4 2002 3 rfl rfl rfl).trans (sees_mkL (rn [(1000, 2002)]) [(4, .e (.one (.own 1000))), (5, .e (.one (.pure (.val (.int .i64 13)))))] [(1000, .vec 3 ((([] : List ApiStep)).map eApiStep))] ⟨rfl, rfl, trivial⟩ ⟨rfl, trivial⟩ rfl rfl)) (W_ret ?_)
   exact ⟨⟨[_, _], ⟨.tmp _ _ rfl, ⟨.tmp _ _ rfl, trivial⟩⟩, rfl⟩, ⟨rfl, trivial⟩⟩
  ·have h := cnd_f c3 h
   refine W_skip (W_seq (W_region mixed rfl (r_loadN (.p rfl) rfl ag30 sz30 rfl rfl rfl (r_loadN (.p rfl) rfl ag43 sz43 rfl rfl rfl ?_))))
   obtain ⟨v4, a4, h⟩ := bind_some h
   refine r_call (ds0 := [_, _]) [] (plan_region_c N p0 p1 v4 a4) (.p rfl) gd55 rfl ⟨rfl, rfl, trivial⟩ rfl rfl rfl (nodupL_spec rfl) trivial rfl (r_move (.p rfl) rfl (r_extract (.p rfl) rfl rfl (r_extract (.p rfl) rfl rfl (r_assign (.p rfl) rfl (r_assign (.p rfl) rfl (r_end (W_seq (W_seq (W_region mixed rfl (r_move (.p rfl) rfl (r_bin (.p rfl) rfl rfl (bin_neq _ _ _ _ _ _) rfl (r_end ?_))))))))))))
   refine W_cond rfl (fun c5 => ?_) (fun c5 => ?_)
   ·have h := cnd_t c5 h
    refine W_seq (W_region mixed rfl (r_move (.p rfl) rfl (r_assign (.p rfl) rfl (r_assign (.p rfl) rfl (r_end ?_)))))
    obtain rfl := Option.some.inj h
    refine W_sees ((sees_adopt 4 2003 3 rfl rfl rfl).trans (sees_mkL (rn [(1000, 2003)]) [(4, .e (.one (.own 1000))), (5, .e (.one (.pure (.val (.int .i64 v4.2)))))] [(1000, .vec 3 ((([] : List ApiStep)).map eApiStep))] ⟨rfl, rfl, trivial⟩ ⟨rfl, trivial⟩ rfl rfl)) (W_ret ?_)
    exact ⟨⟨[_, _], ⟨.tmp _ _ rfl, ⟨.tmp _ _ rfl, trivial⟩⟩, rfl⟩, ⟨rfl, trivial⟩⟩
   ·have h := cnd_f c5 h
    refine W_skip (W_seq (W_region mixed rfl (r_move (.p rfl) rfl (r_see (sees_fzb 2 [.sl (p0.fVersions.map eI64), .sl (p0.fNow.map eI64), .sl (p0.fTarget.map eI64), .sl (p0.fTables.map eApiTable)] rfl rfl) ?_))))
    refine r_makeFunc (capD := [_]) (cloG (ea1 true ePlanNode) tB ((fun (x : PlanNode) => Sh.plan_From_1 N x p0.fVersions p0.fNow p0.fTarget p0.fTables))) (.p rfl) gd57 rfl ⟨rfl, trivial⟩ rfl (fun ar t ht => by obtain ⟨x, r, rfl, hq, rfl⟩ := cloG_some ht; exact plan_From_1_c N x p0.fVersions p0.fNow p0.fTarget p0.fTables r hq) ?_
    obtain ⟨v6, a6, h⟩ := bind_some h
    refine r_call (ds0 := [_, _]) [] (slices_IndexFunc_plan_node_plan_node_c N v4.1 ((fun (x : PlanNode) => Sh.plan_From_1 N x p0.fVersions p0.fNow p0.fTarget p0.fTables)) v6 a6) (.p rfl) gd56 rfl ⟨rfl, rfl, trivial⟩ rfl rfl rfl (nodupL_spec rfl) trivial rfl ?_
    refine r_assign (.p rfl) rfl (r_end (W_seq (W_seq (W_region mixed rfl (r_move (.p rfl) rfl (r_bin (.p rfl) rfl rfl (bin_lss _ _ _ _ _ _) rfl (r_end ?_)))))))
    refine W_cond rfl (fun c7 => ?_) (fun c7 => ?_)
    ·have h := cnd_t c7 h
     refine W_seq (W_region mixed rfl (r_assign (.p rfl) rfl (r_assign (.p rfl) rfl (r_end ?_))))
     obtain rfl := Option.some.inj h
     refine W_sees ((sees_adopt 4 2004 3 rfl rfl rfl).trans (sees_mkL (rn [(1000, 2004)]) [(4, .e (.one (.own 1000))), (5, .e (.one (.pure (.val (.int .i64 14)))))] [(1000, .vec 3 ((([] : List ApiStep)).map eApiStep))] ⟨rfl, rfl, trivial⟩ ⟨rfl, trivial⟩ rfl rfl)) (W_ret ?_)
     exact ⟨⟨[_, _], ⟨.tmp _ _ rfl, ⟨.tmp _ _ rfl, trivial⟩⟩, rfl⟩, ⟨rfl, trivial⟩⟩
    ·have h := cnd_f c7 h
     refine W_skip (W_seq (W_region mixed rfl (r_move (.p rfl) rfl (r_move (.p rfl) rfl ?_))))
     obtain ⟨v8, a8, h⟩ := bind_some h
     refine r_call (ds0 := [_, _]) [2005] (plan_way_c N v4.1 v6 v8 a8) (.p rfl) gd58 rfl ⟨rfl, rfl, trivial⟩ rfl rfl rfl (nodupL_spec rfl) ⟨rfl, trivial⟩ rfl (r_assign (.p rfl) rfl (r_assign (.p rfl) rfl (r_end ?_)))
     obtain rfl := Option.some.inj h
     refine W_sees (sees_mkL (rn [(1000, 2005)]) [(4, .e (.one (.own 1000))), (5, .e (.one (.pure (.val (.int .i64 0)))))] [(1000, .vec 3 (v8.map eApiStep))] ⟨rfl, rfl, trivial⟩ ⟨rfl, trivial⟩ rfl rfl) (W_ret ?_)
     exact ⟨⟨[_, _], ⟨.tmp _ _ rfl, ⟨.tmp _ _ rfl, trivial⟩⟩, rfl⟩, ⟨rfl, trivial⟩⟩
set_option maxRecDepth 10000 in
theorem plan_Find_c (N : Nat) (p0 : ApiProblem) (r : (List ApiStep) × Int) (h : Sh.plan_Find N p0 = some r) : Contract Try.prog 13 [.e (.agg [.pure (.sl (p0.fVersions.map eI64)), .pure (.sl (p0.fNow.map eI64)), .pure (.sl (p0.fTarget.map eI64)), .pure (.sl (p0.fTables.map eApiTable))])] [(3, r.1.map eApiStep)] (.tup [.one (.own 0), .one (.pure (.val (.int .i64 r.2)))]) := by
 unfold Sh.plan_Find at h
 refine contract_of_W (n := 19) (rs := [.tmp 2, .tmp 3]) Try.func13 rfl rfl rfl (leb rfl) (leb rfl) rfl fun w0 S0 => ?_
 refine W_seq (W_region mixed rfl (r_box (.p rfl) rfl rfl (r_assign (.p rfl) rfl (r_assign (.p rfl) rfl (r_end (W_seq (W_region mixed rfl (r_loadN (.p rfl) rfl ag30 sz30 rfl rfl rfl ?_))))))))
 obtain ⟨v1, a1, h⟩ := bind_some h
 refine r_call (ds0 := [_]) [2001, 2002, 2003] (mix_Start_c N p0 v1 a1) (.p rfl) gd37 rfl ⟨rfl, trivial⟩ rfl rfl rfl (nodupL_spec rfl) ⟨rfl, rfl, rfl, trivial⟩ rfl (r_move (.p rfl) rfl (r_extract (.p rfl) rfl rfl (r_extract (.p rfl) rfl rfl (r_alloc (.p rfl) zv43 rfl rfl rfl (r_store rfl rfl rfl rfl sz43 rfl (leb rfl) rfl (r_assign (.p rfl) rfl (r_end (W_seq (W_seq (W_region mixed rfl (r_move (.p rfl) rfl (r_bin (.p rfl) rfl rfl (bin_neq _ _ _ _ _ _) rfl (r_end ?_)))))))))))))
 refine W_cond rfl (fun c2 => ?_) (fun c2 => ?_)
 ·have h := cnd_t c2 h
  refine W_seq (W_region mixed rfl (r_move (.p rfl) rfl (r_assign (.p rfl) rfl (r_assign (.p rfl) rfl (r_end ?_)))))
  obtain rfl := Option.some.inj h
  refine W_sees ((sees_adopt 2 2004 3 rfl rfl rfl).trans (sees_mkL (rn [(1000, 2004)]) [(2, .e (.one (.own 1000))), (3, .e (.one (.pure (.val (.int .i64 v1.2)))))] [(1000, .vec 3 ((([] : List ApiStep)).map eApiStep))] ⟨rfl, rfl, trivial⟩ ⟨rfl, trivial⟩ rfl rfl)) (W_ret ?_)
  exact ⟨⟨[_, _], ⟨.tmp _ _ rfl, ⟨.tmp _ _ rfl, trivial⟩⟩, rfl⟩, ⟨rfl, trivial⟩⟩
 ·have h := cnd_f c2 h
  refine W_skip (W_seq (W_region mixed rfl (r_loadN (.p rfl) rfl ag30 sz30 rfl rfl rfl (r_loadN (.p rfl) rfl ag43 sz43 rfl rfl rfl ?_))))
  obtain ⟨v3, a3, h⟩ := bind_some h
  refine r_callL (ds0 := [_, _]) [2005] [(2001, _), (2002, _), (2003, _)] (plan_From_c N p0 v1.1 v3 a3) (.p rfl) gd27 rfl ⟨rfl, rfl, trivial⟩ ⟨rfl, rfl, rfl, trivial⟩ rfl rfl rfl (nodupL_spec rfl) ⟨rfl, trivial⟩ rfl (flatV_cons (fun _ => rfl) flatV_nil) rfl ?_
  refine r_extract (.p rfl) rfl rfl (r_extract (.p rfl) rfl rfl (r_assign (.p rfl) rfl (r_assign (.p rfl) rfl (r_end ?_))))
  obtain rfl := Option.some.inj h
  refine W_sees (sees_mkL (rn [(1000, 2005)]) [(2, .e (.one (.own 1000))), (3, .e (.one (.pure (.val (.int .i64 v3.2)))))] [(1000, .vec 3 (v3.1.map eApiStep))] ⟨rfl, rfl, trivial⟩ ⟨rfl, trivial⟩ rfl rfl) (W_ret ?_)
  exact ⟨⟨[_, _], ⟨.tmp _ _ rfl, ⟨.tmp _ _ rfl, trivial⟩⟩, rfl⟩, ⟨rfl, trivial⟩⟩
set_option maxRecDepth 10000 in
theorem plan_Failure_c (N : Nat) (p0 : ApiProblem) (p1 : List ApiStep) (r : Int × ApiMix × ApiConflict × Int) (h : Sh.plan_Failure N p0 p1 = some r) : Contract Try.prog 19 [.e (.agg [.pure (.sl (p0.fVersions.map eI64)), .pure (.sl (p0.fNow.map eI64)), .pure (.sl (p0.fTarget.map eI64)), .pure (.sl (p0.fTables.map eApiTable))]), .e (.one (.pure (.sl (p1.map eApiStep))))] [] (.tup [.one (.pure (.val (.int .i64 r.1))), .agg [.pure (.sl (r.2.1.fBase.map eI64)), .pure (.sl (r.2.1.fNext.map eI64)), .pure (.sl (r.2.1.fHeld.map eU8))], .agg [.pure (.val (.int .i64 r.2.2.1.fTable)), .pure (.val (.int .i64 r.2.2.1.fWriter)), .pure (.val (.int .i64 r.2.2.1.fReader))], .one (.pure (.val (.int .i64 r.2.2.2)))]) := by
 unfold Sh.plan_Failure at h
 refine contract_of_W (n := 89) (rs := [.tmp 4, .cell 5 43, .cell 6 45, .tmp 7]) Try.func19 rfl rfl rfl (leb rfl) (leb rfl) rfl fun w0 S0 => ?_
 refine W_seq (W_region mixed rfl (r_box (.p rfl) rfl rfl (r_assign (.p rfl) rfl (r_alloc (.p rfl) zv43 rfl rfl rfl (r_alloc (.p rfl) zv45 rfl rfl rfl (r_assign (.p rfl) rfl (r_end (W_seq (W_region mixed rfl (r_loadN (.p rfl) rfl ag30 sz30 rfl rfl rfl ?_))))))))))
 obtain ⟨v1, a1, h⟩ := bind_some h
 refine r_call (ds0 := [_]) [2001, 2002, 2003] (mix_Start_c N p0 v1 a1) (.p rfl) gd37 rfl ⟨rfl, trivial⟩ rfl rfl rfl (nodupL_spec rfl) ⟨rfl, rfl, rfl, trivial⟩ rfl (r_move (.p rfl) rfl (r_extract (.p rfl) rfl rfl (r_extract (.p rfl) rfl rfl (r_alloc (.p rfl) zv43 rfl rfl rfl (r_store rfl rfl rfl rfl sz43 rfl (leb rfl) rfl (r_assign (.p rfl) rfl (r_end (W_seq (W_seq (W_region mixed rfl (r_move (.p rfl) rfl (r_bin (.p rfl) rfl rfl (bin_neq _ _ _ _ _ _) rfl (r_end ?_)))))))))))))
 refine W_cond rfl (fun c2 => ?_) (fun c2 => ?_)
 ·have h := cnd_t c2 h
  refine W_seq (W_region mixed rfl (r_build [] (.p rfl) rfl trivial zv43 rfl rfl pl43 rfl (r_build [] (.p rfl) rfl trivial zv45 rfl rfl pl45 rfl (r_move (.p rfl) rfl (r_assign (.p rfl) rfl (r_store rfl rfl rfl rfl sz43 rfl (leb rfl) rfl (r_store rfl rfl rfl rfl sz45 rfl (leb rfl) rfl (r_assign (.p rfl) rfl (r_end ?_)))))))))
  obtain rfl := Option.some.inj h
  refine W_sees ((sees_nrmB 5 _ rfl).trans (sees_mkL (rn []) [(4, .e (.one (.pure (.val (.int .i64 0))))), (5, .e (.one (.ptr 5 0))), (6, .e (.one (.ptr 6 0))), (7, .e (.one (.pure (.val (.int .i64 v1.2)))))] [(5, .box [.pure (.sl ((([] : List Int)).map eI64)), .pure (.sl ((([] : List Int)).map eI64)), .pure (.sl ((([] : List Int)).map eU8))]), (6, .box [.pure (.val (.int .i64 0)), .pure (.val (.int .i64 0)), .pure (.val (.int .i64 0))])] ⟨rfl, rfl, rfl, rfl, trivial⟩ ⟨rfl, rfl, trivial⟩ rfl rfl)) (W_ret ?_)
  exact ⟨⟨[_, _, _, _], ⟨.tmp _ _ rfl, ⟨.cellN _ _ _ _ _ _ _ rfl rfl ag43 sz43 rfl rfl (ltb rfl), ⟨.cellN _ _ _ _ _ _ _ rfl rfl ag45 sz45 rfl rfl (ltb rfl), ⟨.tmp _ _ rfl, trivial⟩⟩⟩⟩, rfl⟩, trivial⟩
 ·have h := cnd_f c2 h
  refine W_skip (W_seq (W_seq (W_region mixed rfl (r_loadN (.p rfl) rfl ag30 sz30 rfl rfl rfl (r_loadN (.p rfl) rfl ag43 sz43 rfl rfl rfl (r_see (sees_frz 2001 _ _ rfl rfl) (r_see (sees_frz 2002 _ _ rfl rfl) (r_see (sees_frz 2003 _ _ rfl rfl) ?_))))))))
  obtain ⟨v3, a3, h⟩ := bind_some h
  refine r_call (ds0 := [_, _]) [] (mix_Blame_c N p0 v1.1 v3 a3) (.p rfl) gd38 rfl ⟨rfl, rfl, trivial⟩ rfl rfl rfl (nodupL_spec rfl) trivial rfl (r_move (.p rfl) rfl (r_extract (.p rfl) rfl rfl (r_extract (.p rfl) rfl rfl (r_extract (.p rfl) rfl rfl (r_alloc (.p rfl) zv43 rfl rfl rfl (r_alloc (.p rfl) zv45 rfl rfl rfl (r_store rfl rfl rfl rfl sz43 rfl (leb rfl) rfl (r_store rfl rfl rfl rfl sz45 rfl (leb rfl) rfl (r_assign (.p rfl) rfl (r_end (W_seq (W_region mixed rfl (r_move (.p rfl) rfl (r_bin (.p rfl) rfl rfl (bin_eql _ _ _ _ _ _) rfl (r_end ?_)))))))))))))))
  refine W_cond rfl (fun c4 => ?_) (fun c4 => ?_)
  ·have h := cnd_t c4 h
   refine W_seq (W_region mixed rfl (r_loadN (.p rfl) rfl ag43 sz43 rfl rfl rfl (r_loadN (.p rfl) rfl ag45 sz45 rfl rfl rfl (r_assign (.p rfl) rfl (r_store rfl rfl rfl rfl sz43 rfl (leb rfl) rfl (r_store rfl rfl rfl rfl sz45 rfl (leb rfl) rfl (r_assign (.p rfl) rfl ?_)))))))
   refine r_endD (by kernel_rfl) ?_
   obtain rfl := Option.some.inj h
   refine W_sees (sees_mkL (rn []) [(4, .e (.one (.pure (.val (.int .i64 ((-1))))))), (5, .e (.one (.ptr 5 0))), (6, .e (.one (.ptr 6 0))), (7, .e (.one (.pure (.val (.int .i64 0)))))] [(5, .box [.pure (.sl (v3.1.fBase.map eI64)), .pure (.sl (v3.1.fNext.map eI64)), .pure (.sl (v3.1.fHeld.map eU8))]), (6, .box [.pure (.val (.int .i64 v3.2.1.fTable)), .pure (.val (.int .i64 v3.2.1.fWriter)), .pure (.val (.int .i64 v3.2.1.fReader))])] ⟨rfl, rfl, rfl, rfl, trivial⟩ ⟨rfl, rfl, trivial⟩ rfl rfl) (W_ret ?_)
   exact ⟨⟨[_, _, _, _], ⟨.tmp _ _ rfl, ⟨.cellN _ _ _ _ _ _ _ rfl rfl ag43 sz43 rfl rfl (ltb rfl), ⟨.cellN _ _ _ _ _ _ _ rfl rfl ag45 sz45 rfl rfl (ltb rfl), ⟨.tmp _ _ rfl, trivial⟩⟩⟩⟩, rfl⟩, trivial⟩
  ·have h := cnd_f c4 h
   refine W_skip (W_seq (W_seq (W_region mixed rfl (r_move (.p rfl) rfl (r_len (.p rfl) rfl (.sl _) trivial (List.length_map _) slc33 (r_move (.p rfl) rfl (r_end ?_)))))))
   refine W_whileE (L := Sh.plan_Failure_L5 N p0 p1) h (fun v5 => mk [(1, .e (.one (.pure (.sl (p1.map eApiStep))))), (2, .e (.one (.ptr 2 0))), (5, .e (.one (.ptr 5 0))), (6, .e (.one (.ptr 6 0))), (8, .e (.one (.ptr 8 0))), (41, .e (.one (.pure (.sl (p1.map eApiStep))))), (42, .e (.one (.pure (.val (.int .i64 ((p1.length : Int))))))), (43, .e (.one (.pure (.val (.int .i64 v5.2)))))] [(2, .box [.pure (.sl (p0.fVersions.map eI64)), .pure (.sl (p0.fNow.map eI64)), .pure (.sl (p0.fTarget.map eI64)), .pure (.sl (p0.fTables.map eApiTable))]), (5, .box [.pure (.nil0), .pure (.nil0), .pure (.nil0)]), (6, .box [.pure (.val (.int .i64 0)), .pure (.val (.int .i64 0)), .pure (.val (.int .i64 0))]), (8, .box [.pure (.sl (v5.1.fBase.map eI64)), .pure (.sl (v5.1.fNext.map eI64)), .pure (.sl (v5.1.fHeld.map eU8))])]) (fun v6 => mk [(1, .e (.one (.pure (.sl (p1.map eApiStep))))), (2, .e (.one (.ptr 2 0))), (5, .e (.one (.ptr 5 0))), (6, .e (.one (.ptr 6 0))), (8, .e (.one (.ptr 8 0)))] [(2, .box [.pure (.sl (p0.fVersions.map eI64)), .pure (.sl (p0.fNow.map eI64)), .pure (.sl (p0.fTarget.map eI64)), .pure (.sl (p0.fTables.map eApiTable))]), (5, .box [.pure (.nil0), .pure (.nil0), .pure (.nil0)]), (6, .box [.pure (.val (.int .i64 0)), .pure (.val (.int .i64 0)), .pure (.val (.int .i64 0))]), (8, .box [.pure (.sl (v6.fBase.map eI64)), .pure (.sl (v6.fNext.map eI64)), .pure (.sl (v6.fHeld.map eU8))])]) (fun _ _ => rfl) (sees_mkL (rn []) _ _ ⟨rfl, rfl, rfl, rfl, rfl, rfl, rfl, rfl, trivial⟩ ⟨rfl, rfl, rfl, rfl, trivial⟩ rfl rfl) (fun j5 n5 v5 h => ?_) (fun v6 s h hs => ?_)
   ·unfold Sh.plan_Failure_L5 at h
    refine W_seq (W_region mixed rfl (r_bin (.p rfl) rfl rfl (bin_lss _ _ _ _ _ _) rfl (r_end (W_seq ?_))))
    refine W_cond rfl (fun c7 => ?_) (fun c7 => ?_)
    ·have h := cnd_t c7 h
     refine W_skip (W_seq (W_block (W_seq (W_region mixed rfl (r_move (.p rfl) rfl ?_)))))
     obtain ⟨v8, a8, b8, h⟩ := idx_bind h
     refine r_index (.p rfl) rfl rfl slc33 sz63 a8 (map_get b8) rfl (r_loadrN (.p rfl) rfl ag63 sz63 rfl rfl (r_alloc (.p rfl) zv63 rfl rfl rfl (r_assign (.p rfl) rfl (r_store rfl rfl rfl rfl sz63 rfl (leb rfl) rfl (r_end (W_seq (W_region mixed rfl (r_loadN (.p rfl) rfl ag30 sz30 rfl rfl rfl (r_loadN (.p rfl) rfl ag43 sz43 rfl rfl rfl (r_loadN (.p rfl) rfl ag63 sz63 rfl rfl rfl ?_))))))))))
     obtain ⟨v9, a9, h⟩ := bind_some h
     refine r_call (ds0 := [_, _, _]) [2004, 2005, 2006] (step_Apply_c N p0 v5.1 v8 v9 a9) (.p rfl) gd39 rfl ⟨rfl, rfl, rfl, trivial⟩ rfl rfl rfl (nodupL_spec rfl) ⟨rfl, rfl, rfl, trivial⟩ rfl (r_move (.p rfl) rfl (r_extract (.p rfl) rfl rfl (r_extract (.p rfl) rfl rfl (r_alloc (.p rfl) zv43 rfl rfl rfl (r_store rfl rfl rfl rfl sz43 rfl (leb rfl) rfl (r_assign (.p rfl) rfl (r_end (W_seq ?_))))))))
     refine W_join h (fun v10 => mk [(1, .e (.one (.pure (.sl (p1.map eApiStep))))), (2, .e (.one (.ptr 2 0))), (5, .e (.one (.ptr 5 0))), (6, .e (.one (.ptr 6 0))), (8, .e (.one (.ptr 8 0))), (13, .e (.one (.pure (.val (.int .i64 v5.2))))), (15, .e (.one (.ptr 15 0))), (41, .e (.one (.pure (.sl (p1.map eApiStep))))), (42, .e (.one (.pure (.val (.int .i64 ((p1.length : Int))))))), (43, .e (.one (.pure (.val (.int .i64 v5.2))))), (61, .e (.one (.pure (.val (.bool v10)))))] [(2, .box [.pure (.sl (p0.fVersions.map eI64)), .pure (.sl (p0.fNow.map eI64)), .pure (.sl (p0.fTarget.map eI64)), .pure (.sl (p0.fTables.map eApiTable))]), (5, .box [.pure (.nil0), .pure (.nil0), .pure (.nil0)]), (6, .box [.pure (.val (.int .i64 0)), .pure (.val (.int .i64 0)), .pure (.val (.int .i64 0))]), (8, .box [.pure (.sl (v5.1.fBase.map eI64)), .pure (.sl (v5.1.fNext.map eI64)), .pure (.sl (v5.1.fHeld.map eU8))]), (15, .box [.own 2007, .own 2008, .own 2009]), (2007, .vec 1 (v9.1.fBase.map eI64)), (2008, .vec 1 (v9.1.fNext.map eI64)), (2009, .vec 1 (v9.1.fHeld.map eU8))]) (fun j10 h => ?_) (fun v10 h => ?_)
     ·refine W_region mixed rfl (r_move (.p rfl) rfl (r_bin (.p rfl) rfl rfl (bin_neq _ _ _ _ _ _) rfl (r_move (.p rfl) rfl ?_)))
      refine r_split (t := 57) rfl (fun c11 => ?_) (fun c11 => ?_)
      ·have h := cnd_t c11 h
       refine r_notB rfl rfl (r_notB rfl rfl (r_notB rfl rfl (r_pick (.p rfl) rfl rfl rfl (r_end ?_))))
       exact sink true h (sees_mkL (rn [(2007, 2004), (2008, 2005), (2009, 2006)]) _ _ ⟨rfl, rfl, rfl, rfl, rfl, rfl, rfl, rfl, rfl, rfl, rfl, trivial⟩ ⟨rfl, rfl, rfl, rfl, rfl, rfl, rfl, rfl, trivial⟩ rfl rfl)
      ·have h := cnd_f c11 h
       refine r_fieldAddr (.g rfl rfl) rfl fld63_0 (r_load1 (.g rfl rfl) rfl ag3 rfl rfl (r_bin (.g rfl rfl) rfl rfl (bin_eql _ _ _ _ _ _) rfl (r_pick (.p rfl) rfl rfl rfl (r_end ?_))))
       exact sink (v8.fKind == 4) h (sees_mkL (rn [(2007, 2004), (2008, 2005), (2009, 2006)]) _ _ ⟨rfl, rfl, rfl, rfl, rfl, rfl, rfl, rfl, rfl, rfl, rfl, trivial⟩ ⟨rfl, rfl, rfl, rfl, rfl, rfl, rfl, rfl, trivial⟩ rfl rfl)
     ·refine W_cond rfl (fun c12 => ?_) (fun c12 => ?_)
      ·have h := cnd_t c12 h
       refine W_seq (W_region mixed rfl (r_move (.p rfl) rfl (r_build [] (.p rfl) rfl trivial zv43 rfl rfl pl43 rfl (r_build [] (.p rfl) rfl trivial zv45 rfl rfl pl45 rfl (r_assign (.p rfl) rfl (r_store rfl rfl rfl rfl sz43 rfl (leb rfl) rfl (r_store rfl rfl rfl rfl sz45 rfl (leb rfl) rfl (r_assign (.p rfl) rfl (r_end ?_)))))))))
       obtain rfl := Option.some.inj h
       refine W_sees ((sees_nrmB 5 _ rfl).trans (sees_mkL (rn []) [(4, .e (.one (.pure (.val (.int .i64 v5.2))))), (5, .e (.one (.ptr 5 0))), (6, .e (.one (.ptr 6 0))), (7, .e (.one (.pure (.val (.int .i64 0)))))] [(5, .box [.pure (.sl ((([] : List Int)).map eI64)), .pure (.sl ((([] : List Int)).map eI64)), .pure (.sl ((([] : List Int)).map eU8))]), (6, .box [.pure (.val (.int .i64 0)), .pure (.val (.int .i64 0)), .pure (.val (.int .i64 0))])] ⟨rfl, rfl, rfl, rfl, trivial⟩ ⟨rfl, rfl, trivial⟩ rfl rfl)) (W_ret ?_)
       exact ⟨⟨[_, _, _, _], ⟨.tmp _ _ rfl, ⟨.cellN _ _ _ _ _ _ _ rfl rfl ag43 sz43 rfl rfl (ltb rfl), ⟨.cellN _ _ _ _ _ _ _ rfl rfl ag45 sz45 rfl rfl (ltb rfl), ⟨.tmp _ _ rfl, trivial⟩⟩⟩⟩, rfl⟩, trivial⟩
      ·have h := cnd_f c12 h
       refine W_skip (W_seq (W_seq (W_region mixed rfl (r_loadN (.p rfl) rfl ag30 sz30 rfl rfl rfl (r_loadN (.p rfl) rfl ag43 sz43 rfl rfl rfl (r_see (sees_frz 2007 _ _ rfl rfl) (r_see (sees_frz 2008 _ _ rfl rfl) (r_see (sees_frz 2009 _ _ rfl rfl) ?_))))))))
       obtain ⟨v13, a13, h⟩ := bind_some h
       refine r_call (ds0 := [_, _]) [] (mix_Blame_c N p0 v9.1 v13 a13) (.p rfl) gd38 rfl ⟨rfl, rfl, trivial⟩ rfl rfl rfl (nodupL_spec rfl) trivial rfl (r_move (.p rfl) rfl (r_extract (.p rfl) rfl rfl (r_extract (.p rfl) rfl rfl (r_extract (.p rfl) rfl rfl (r_alloc (.p rfl) zv43 rfl rfl rfl (r_alloc (.p rfl) zv45 rfl rfl rfl (r_store rfl rfl rfl rfl sz43 rfl (leb rfl) rfl (r_store rfl rfl rfl rfl sz45 rfl (leb rfl) rfl (r_assign (.p rfl) rfl (r_end (W_seq (W_region mixed rfl (r_move (.p rfl) rfl (r_bin (.p rfl) rfl rfl (bin_eql _ _ _ _ _ _) rfl (r_end ?_)))))))))))))))
       refine W_cond rfl (fun c14 => ?_) (fun c14 => ?_)
       ·have h := cnd_t c14 h
        refine W_seq (W_region mixed rfl (r_move (.p rfl) rfl (r_loadN (.p rfl) rfl ag43 sz43 rfl rfl rfl (r_loadN (.p rfl) rfl ag45 sz45 rfl rfl rfl (r_assign (.p rfl) rfl (r_store rfl rfl rfl rfl sz43 rfl (leb rfl) rfl (r_store rfl rfl rfl rfl sz45 rfl (leb rfl) rfl (r_assign (.p rfl) rfl ?_))))))))
        refine r_endD (by kernel_rfl) ?_
        obtain rfl := Option.some.inj h
        refine W_sees (sees_mkL (rn []) [(4, .e (.one (.pure (.val (.int .i64 v5.2))))), (5, .e (.one (.ptr 5 0))), (6, .e (.one (.ptr 6 0))), (7, .e (.one (.pure (.val (.int .i64 0)))))] [(5, .box [.pure (.sl (v13.1.fBase.map eI64)), .pure (.sl (v13.1.fNext.map eI64)), .pure (.sl (v13.1.fHeld.map eU8))]), (6, .box [.pure (.val (.int .i64 v13.2.1.fTable)), .pure (.val (.int .i64 v13.2.1.fWriter)), .pure (.val (.int .i64 v13.2.1.fReader))])] ⟨rfl, rfl, rfl, rfl, trivial⟩ ⟨rfl, rfl, trivial⟩ rfl rfl) (W_ret ?_)
        exact ⟨⟨[_, _, _, _], ⟨.tmp _ _ rfl, ⟨.cellN _ _ _ _ _ _ _ rfl rfl ag43 sz43 rfl rfl (ltb rfl), ⟨.cellN _ _ _ _ _ _ _ rfl rfl ag45 sz45 rfl rfl (ltb rfl), ⟨.tmp _ _ rfl, trivial⟩⟩⟩⟩, rfl⟩, trivial⟩
       ·have h := cnd_f c14 h
        refine W_skip (W_region mixed rfl (r_loadN (.p rfl) rfl ag43 sz43 rfl rfl rfl (r_store rfl rfl rfl rfl sz43 rfl (leb rfl) rfl (r_end (W_region mixed rfl (r_bin (.p rfl) rfl rfl (bin_add _ _ _ _ _ _) rfl (r_move (.p rfl) rfl (r_end ?_))))))))
        exact sink (v9.1, (IntKind.wrap .i64 (v5.2 + 1))) h (sees_mkL (rn []) _ _ ⟨rfl, rfl, rfl, rfl, rfl, rfl, rfl, rfl, trivial⟩ ⟨rfl, rfl, rfl, rfl, trivial⟩ rfl rfl)
    ·have h := cnd_f c7 h
     refine W_exit ?_
     exact sink v5.1 h (sees_mkL (rn []) _ _ ⟨rfl, rfl, rfl, rfl, rfl, trivial⟩ ⟨rfl, rfl, rfl, rfl, trivial⟩ rfl rfl)
   ·refine W_sees hs (W_seq (W_seq (W_region mixed rfl (r_loadN (.p rfl) rfl ag30 sz30 rfl rfl rfl (r_loadN (.p rfl) rfl ag43 sz43 rfl rfl rfl ?_)))))
    obtain ⟨v15, a15, h⟩ := bind_some h
    refine r_call (ds0 := [_, _]) [] (mix_Goal_c N p0 v6 v15 a15) (.p rfl) gd40 rfl ⟨rfl, rfl, trivial⟩ rfl rfl rfl (nodupL_spec rfl) trivial rfl (r_un (.p rfl) rfl (un_not _) rfl (r_end ?_))
    refine W_cond rfl (fun c16 => ?_) (fun c16 => ?_)
    ·have h := cnd_t c16 h
     refine W_seq (W_region mixed rfl (r_move (.p rfl) rfl (r_len (.p rfl) rfl (.sl _) trivial (List.length_map _) slc33 (r_build [] (.p rfl) rfl trivial zv43 rfl rfl pl43 rfl (r_build [] (.p rfl) rfl trivial zv45 rfl rfl pl45 rfl (r_assign (.p rfl) rfl (r_store rfl rfl rfl rfl sz43 rfl (leb rfl) rfl (r_store rfl rfl rfl rfl sz45 rfl (leb rfl) rfl (r_assign (.p rfl) rfl (r_end ?_))))))))))
     obtain rfl := Option.some.inj h
     refine W_sees ((sees_nrmB 5 _ rfl).trans (sees_mkL (rn []) [(4, .e (.one (.pure (.val (.int .i64 ((p1.length : Int))))))), (5, .e (.one (.ptr 5 0))), (6, .e (.one (.ptr 6 0))), (7, .e (.one (.pure (.val (.int .i64 14)))))] [(5, .box [.pure (.sl ((([] : List Int)).map eI64)), .pure (.sl ((([] : List Int)).map eI64)), .pure (.sl ((([] : List Int)).map eU8))]), (6, .box [.pure (.val (.int .i64 0)), .pure (.val (.int .i64 0)), .pure (.val (.int .i64 0))])] ⟨rfl, rfl, rfl, rfl, trivial⟩ ⟨rfl, rfl, trivial⟩ rfl rfl)) (W_ret ?_)
     exact ⟨⟨[_, _, _, _], ⟨.tmp _ _ rfl, ⟨.cellN _ _ _ _ _ _ _ rfl rfl ag43 sz43 rfl rfl (ltb rfl), ⟨.cellN _ _ _ _ _ _ _ rfl rfl ag45 sz45 rfl rfl (ltb rfl), ⟨.tmp _ _ rfl, trivial⟩⟩⟩⟩, rfl⟩, trivial⟩
    ·have h := cnd_f c16 h
     refine W_skip (W_seq (W_region mixed rfl (r_build [] (.p rfl) rfl trivial zv43 rfl rfl pl43 rfl (r_build [] (.p rfl) rfl trivial zv45 rfl rfl pl45 rfl (r_assign (.p rfl) rfl (r_store rfl rfl rfl rfl sz43 rfl (leb rfl) rfl (r_store rfl rfl rfl rfl sz45 rfl (leb rfl) rfl (r_assign (.p rfl) rfl (r_end ?_)))))))))
     obtain rfl := Option.some.inj h
     refine W_sees ((sees_nrmB 5 _ rfl).trans (sees_mkL (rn []) [(4, .e (.one (.pure (.val (.int .i64 0))))), (5, .e (.one (.ptr 5 0))), (6, .e (.one (.ptr 6 0))), (7, .e (.one (.pure (.val (.int .i64 15)))))] [(5, .box [.pure (.sl ((([] : List Int)).map eI64)), .pure (.sl ((([] : List Int)).map eI64)), .pure (.sl ((([] : List Int)).map eU8))]), (6, .box [.pure (.val (.int .i64 0)), .pure (.val (.int .i64 0)), .pure (.val (.int .i64 0))])] ⟨rfl, rfl, rfl, rfl, trivial⟩ ⟨rfl, rfl, trivial⟩ rfl rfl)) (W_ret ?_)
     exact ⟨⟨[_, _, _, _], ⟨.tmp _ _ rfl, ⟨.cellN _ _ _ _ _ _ _ rfl rfl ag43 sz43 rfl rfl (ltb rfl), ⟨.cellN _ _ _ _ _ _ _ rfl rfl ag45 sz45 rfl rfl (ltb rfl), ⟨.tmp _ _ rfl, trivial⟩⟩⟩⟩, rfl⟩, trivial⟩
set_option maxRecDepth 10000 in
theorem sheaveref37_Same_c (N : Nat) (p0 : List ApiStep) (p1 : List ApiStep) (r : Bool) (h : Sh.sheaveref37_Same N p0 p1 = some r) : Contract Try.prog 15 [.e (.one (.pure (.sl (p0.map eApiStep)))), .e (.one (.pure (.sl (p1.map eApiStep))))] [] (.e (.one (.pure (.val (.bool r))))) := by
 unfold Sh.sheaveref37_Same at h
 refine contract_of_W (n := 26) (rs := [.tmp 4]) Try.func15 rfl rfl rfl (leb rfl) (leb rfl) rfl fun w0 S0 => ?_
 refine W_seq (W_region mixed rfl (r_assign (.p rfl) rfl (r_end (W_seq (W_seq (W_region mixed rfl (r_move (.p rfl) rfl (r_len (.p rfl) rfl (.sl _) trivial (List.length_map _) slc33 (r_move (.p rfl) rfl (r_len (.p rfl) rfl (.sl _) trivial (List.length_map _) slc33 (r_bin (.p rfl) rfl rfl (bin_neq _ _ _ _ _ _) rfl (r_end ?_))))))))))))
 refine W_cond rfl (fun c1 => ?_) (fun c1 => ?_)
 ·have h := cnd_t c1 h
  refine W_seq (W_region mixed rfl (r_assign (.p rfl) rfl (r_end ?_)))
  obtain rfl := Option.some.inj h
  refine W_sees (sees_mkL (rn []) [(4, .e (.one (.pure (.val (.bool false)))))] [] ⟨rfl, trivial⟩ trivial rfl rfl) (W_ret ?_)
  exact ⟨⟨[_], ⟨.tmp _ _ rfl, trivial⟩, rfl⟩, trivial⟩
 ·have h := cnd_f c1 h
  refine W_skip (W_seq (W_seq (W_region mixed rfl (r_assign (.p rfl) rfl (r_end ?_)))))
  refine W_whileE (L := Sh.sheaveref37_Same_L2 N p0 p1) h (fun v2 => mk [(0, .e (.one (.pure (.sl (p0.map eApiStep))))), (1, .e (.one (.pure (.sl (p1.map eApiStep))))), (5, .e (.one (.pure (.val (.int .i64 v2)))))] []) (fun v3 => mk [] []) (fun _ _ => rfl) (sees_mkL (rn []) _ _ ⟨rfl, rfl, rfl, trivial⟩ trivial rfl rfl) (fun j2 n2 v2 h => ?_) (fun v3 s h hs => ?_)
  ·unfold Sh.sheaveref37_Same_L2 at h
   refine W_seq (W_seq (W_region mixed rfl (r_move (.p rfl) rfl (r_move (.p rfl) rfl (r_len (.p rfl) rfl (.sl _) trivial (List.length_map _) slc33 (r_bin (.p rfl) rfl rfl (bin_lss _ _ _ _ _ _) rfl (r_end ?_)))))))
   refine W_cond rfl (fun c4 => ?_) (fun c4 => ?_)
   ·have h := cnd_t c4 h
    refine W_skip (W_seq (W_block (W_seq (W_region mixed rfl (r_move (.p rfl) rfl (r_move (.p rfl) rfl ?_))))))
    obtain ⟨v5, a5, b5, h⟩ := idx_bind h
    refine r_index (.p rfl) rfl rfl slc33 sz63 a5 (map_get b5) rfl (r_loadrN (.p rfl) rfl ag63 sz63 rfl rfl (r_move (.p rfl) rfl (r_move (.p rfl) rfl ?_)))
    obtain ⟨v6, a6, b6, h⟩ := idx_bind h
    refine r_index (.p rfl) rfl rfl slc33 sz63 a6 (map_get b6) rfl (r_loadrN (.p rfl) rfl ag63 sz63 rfl rfl (r_neA [.int .i64 v5.fKind, .int .i64 v5.fIndex, .int .i64 v5.fVersion] [.int .i64 v6.fKind, .int .i64 v6.fIndex, .int .i64 v6.fVersion] (.p rfl) rfl rfl seq63 rfl ?_))
    refine r_endD (by kernel_rfl) ?_
    refine W_cond rfl (fun c7 => ?_) (fun c7 => ?_)
    ·have h := cnd_t c7 h
     refine W_seq (W_region mixed rfl (r_assign (.p rfl) rfl (r_end ?_)))
     obtain rfl := Option.some.inj h
     refine W_sees (sees_mkL (rn []) [(4, .e (.one (.pure (.val (.bool false)))))] [] ⟨rfl, trivial⟩ trivial rfl rfl) (W_ret ?_)
     exact ⟨⟨[_], ⟨.tmp _ _ rfl, trivial⟩, rfl⟩, trivial⟩
    ·have h := cnd_f c7 h
     refine W_skip (W_region mixed rfl (r_move (.p rfl) rfl (r_bin (.p rfl) rfl rfl (bin_add _ _ _ _ _ _) rfl (r_assign (.p rfl) rfl (r_end ?_)))))
     exact sink (IntKind.wrap .i64 (v2 + 1)) h (sees_mkL (rn []) _ _ ⟨rfl, rfl, rfl, trivial⟩ trivial rfl rfl)
   ·have h := cnd_f c4 h
    refine W_exit ?_
    exact sink () h (sees_mkL (rn []) _ _ trivial trivial rfl rfl)
  ·refine W_sees hs (W_seq (W_region mixed rfl (r_assign (.p rfl) rfl (r_end ?_))))
   obtain rfl := Option.some.inj h
   refine W_sees (sees_mkL (rn []) [(4, .e (.one (.pure (.val (.bool true)))))] [] ⟨rfl, trivial⟩ trivial rfl rfl) (W_ret ?_)
   exact ⟨⟨[_], ⟨.tmp _ _ rfl, trivial⟩, rfl⟩, trivial⟩
set_option maxRecDepth 10000 in
theorem plan_Check_c (N : Nat) (p0 : ApiProblem) (p1 : List ApiStep) (r : Bool) (h : Sh.plan_Check N p0 p1 = some r) : Contract Try.prog 16 [.e (.agg [.pure (.sl (p0.fVersions.map eI64)), .pure (.sl (p0.fNow.map eI64)), .pure (.sl (p0.fTarget.map eI64)), .pure (.sl (p0.fTables.map eApiTable))]), .e (.one (.pure (.sl (p1.map eApiStep))))] [] (.e (.one (.pure (.val (.bool r))))) := by
 unfold Sh.plan_Check at h
 refine contract_of_W (n := 19) (rs := [.tmp 4]) Try.func16 rfl rfl rfl (leb rfl) (leb rfl) rfl fun w0 S0 => ?_
 refine W_seq (W_region mixed rfl (r_box (.p rfl) rfl rfl (r_assign (.p rfl) rfl (r_end (W_seq (W_region mixed rfl (r_loadN (.p rfl) rfl ag30 sz30 rfl rfl rfl (r_move (.p rfl) rfl ?_))))))))
 obtain ⟨v1, a1, h⟩ := bind_some h
 refine r_call (ds0 := [_, _]) [] (plan_Failure_c N p0 p1 v1 a1) (.p rfl) gd19 rfl ⟨rfl, rfl, trivial⟩ rfl rfl rfl (nodupL_spec rfl) trivial rfl (r_move (.p rfl) rfl (r_extract (.p rfl) rfl rfl (r_extract (.p rfl) rfl rfl (r_extract (.p rfl) rfl rfl (r_extract (.p rfl) rfl rfl (r_alloc (.p rfl) zv43 rfl rfl rfl (r_alloc (.p rfl) zv45 rfl rfl rfl (r_assign (.p rfl) rfl (r_store rfl rfl rfl rfl sz43 rfl (leb rfl) rfl (r_store rfl rfl rfl rfl sz45 rfl (leb rfl) rfl (r_assign (.p rfl) rfl (r_end (W_seq (W_region mixed rfl (r_move (.p rfl) rfl (r_bin (.p rfl) rfl rfl (bin_eql _ _ _ _ _ _) rfl (r_assign (.p rfl) rfl (r_end ?_))))))))))))))))))
 obtain rfl := Option.some.inj h
 refine W_sees (sees_mkL (rn []) [(4, .e (.one (.pure (.val (.bool ((v1.2.2.2 == 15)))))))] [] ⟨rfl, trivial⟩ trivial rfl rfl) (W_ret ?_)
 exact ⟨⟨[_], ⟨.tmp _ _ rfl, trivial⟩, rfl⟩, trivial⟩
set_option maxRecDepth 10000 in
theorem sheavelaw39_awake_c (N : Nat) (r : Bool) (h : Sh.sheavelaw39_awake N = some r) : Contract Try.prog 11 [] [] (.e (.one (.pure (.val (.bool r))))) := by
 unfold Sh.sheavelaw39_awake at h
 refine contract_of_W (n := 74) (rs := [.tmp 0]) Try.func11 rfl rfl rfl (leb rfl) (leb rfl) rfl fun w0 S0 => ?_
 refine W_seq (W_region mixed rfl (r_assign (.p rfl) rfl (r_end (W_seq (W_region mixed rfl ?_)))))
 obtain ⟨v1, a1, h⟩ := bind_some h
 refine r_call (ds0 := [_, _]) [2001, 2002, 2003, 2004] (sheavelaw39_example_c N false false v1 a1) (.p rfl) gd35 rfl ⟨rfl, rfl, trivial⟩ rfl rfl rfl (nodupL_spec rfl) ⟨rfl, rfl, rfl, rfl, trivial⟩ rfl ?_
 obtain ⟨v2, a2, h⟩ := bind_some h
 refine r_callL (ds0 := [_]) [2005] [(2001, _), (2002, _), (2003, _), (2004, _)] (plan_Find_c N v1 v2 a2) (.p rfl) gd13 rfl ⟨rfl, trivial⟩ ⟨rfl, rfl, rfl, rfl, trivial⟩ rfl rfl rfl (nodupL_spec rfl) ⟨rfl, trivial⟩ rfl (flatV_cons (fun _ => rfl) flatV_nil) rfl ?_
 refine r_move (.p rfl) rfl (r_extract (.p rfl) rfl rfl (r_extract (.p rfl) rfl rfl (r_assign (.p rfl) rfl (r_assign (.p rfl) rfl (r_end (W_seq (W_region mixed rfl ?_)))))))
 obtain ⟨v3, a3, h⟩ := bind_some h
 refine r_call (ds0 := [_, _]) [2006, 2007, 2008, 2009] (sheavelaw39_example_c N true false v3 a3) (.p rfl) gd35 rfl ⟨rfl, rfl, trivial⟩ rfl rfl rfl (nodupL_spec rfl) ⟨rfl, rfl, rfl, rfl, trivial⟩ rfl ?_
 obtain ⟨v4, a4, h⟩ := bind_some h
 refine r_callL (ds0 := [_]) [2010] [(2006, _), (2007, _), (2008, _), (2009, _)] (plan_Find_c N v3 v4 a4) (.p rfl) gd13 rfl ⟨rfl, trivial⟩ ⟨rfl, rfl, rfl, rfl, trivial⟩ rfl rfl rfl (nodupL_spec rfl) ⟨rfl, trivial⟩ rfl (flatV_cons (fun _ => rfl) flatV_nil) rfl ?_
 refine r_move (.p rfl) rfl (r_extract (.p rfl) rfl rfl (r_extract (.p rfl) rfl rfl (r_assign (.p rfl) rfl (r_assign (.p rfl) rfl (r_end (W_seq (W_region mixed rfl ?_)))))))
 obtain ⟨v5, a5, h⟩ := bind_some h
 refine r_call (ds0 := [_, _]) [2011, 2012, 2013, 2014] (sheavelaw39_example_c N true true v5 a5) (.p rfl) gd35 rfl ⟨rfl, rfl, trivial⟩ rfl rfl rfl (nodupL_spec rfl) ⟨rfl, rfl, rfl, rfl, trivial⟩ rfl ?_
 obtain ⟨v6, a6, h⟩ := bind_some h
 refine r_callL (ds0 := [_]) [2015] [(2011, _), (2012, _), (2013, _), (2014, _)] (plan_Find_c N v5 v6 a6) (.p rfl) gd13 rfl ⟨rfl, trivial⟩ ⟨rfl, rfl, rfl, rfl, trivial⟩ rfl rfl rfl (nodupL_spec rfl) ⟨rfl, trivial⟩ rfl (flatV_cons (fun _ => rfl) flatV_nil) rfl ?_
 refine r_move (.p rfl) rfl (r_extract (.p rfl) rfl rfl (r_extract (.p rfl) rfl rfl (r_assign (.p rfl) rfl (r_assign (.p rfl) rfl (r_end (W_seq (W_region mixed rfl ?_)))))))
 obtain ⟨v7, a7, h⟩ := bind_some h
 refine r_call (ds0 := [_, _]) [2016, 2017, 2018, 2019] (sheavelaw39_example_c N false false v7 a7) (.p rfl) gd35 rfl ⟨rfl, rfl, trivial⟩ rfl rfl rfl (nodupL_spec rfl) ⟨rfl, rfl, rfl, rfl, trivial⟩ rfl (r_build [(0, .const (.int .i64 1), _), (1, .const (.int .i64 0), _), (2, .const (.int .i64 1), _)] (.p rfl) rfl ⟨rfl, rfl, rfl, trivial⟩ zv63 rfl rfl pl63 rfl (r_buildSlice [(0, .tmp 29, _)] (.p rfl) rfl ⟨rfl, trivial⟩ rfl slc33 sz63 zv63 rfl rfl (leb rfl) rfl rfl (r_see (sees_frz 2016 _ _ rfl rfl) (r_see (sees_frz 2017 _ _ rfl rfl) (r_see (sees_frz 2018 _ _ rfl rfl) (r_see (sees_frz 2019 _ _ rfl rfl) (r_see (sees_frz 30 _ _ rfl rfl) ?_)))))))
 obtain ⟨v8, a8, h⟩ := bind_some h
 refine r_call (ds0 := [_, _]) [] (plan_Failure_c N v7 (([(ApiStep.mk 1 0 1)] : List ApiStep)) v8 a8) (.p rfl) gd19 rfl ⟨rfl, rfl, trivial⟩ rfl rfl rfl (nodupL_spec rfl) trivial rfl (r_move (.p rfl) rfl (r_extract (.p rfl) rfl rfl (r_extract (.p rfl) rfl rfl (r_extract (.p rfl) rfl rfl (r_extract (.p rfl) rfl rfl (r_alloc (.p rfl) zv43 rfl rfl rfl (r_alloc (.p rfl) zv45 rfl rfl rfl (r_assign (.p rfl) rfl (r_store rfl rfl rfl rfl sz43 rfl (leb rfl) rfl (r_store rfl rfl rfl rfl sz45 rfl (leb rfl) rfl (r_assign (.p rfl) rfl (r_end (W_seq (W_region mixed rfl (r_build [(0, .const (.int .i64 1), _), (1, .const (.int .i64 1), _), (2, .const (.int .i64 1), _)] (.p rfl) rfl ⟨rfl, rfl, rfl, trivial⟩ zv63 rfl rfl pl63 rfl (r_build [(0, .const (.int .i64 2), _), (1, .const (.int .i64 1), _)] (.p rfl) rfl ⟨rfl, rfl, trivial⟩ zv63 rfl rfl pl63 rfl (r_build [(0, .const (.int .i64 1), _), (1, .const (.int .i64 0), _), (2, .const (.int .i64 1), _)] (.p rfl) rfl ⟨rfl, rfl, rfl, trivial⟩ zv63 rfl rfl pl63 rfl (r_build [(0, .const (.int .i64 2), _), (1, .const (.int .i64 0), _)] (.p rfl) rfl ⟨rfl, rfl, trivial⟩ zv63 rfl rfl pl63 rfl (r_buildSlice [(0, .tmp 36, _), (1, .tmp 37, _), (2, .tmp 38, _), (3, .tmp 39, _)] (.p rfl) rfl ⟨rfl, rfl, rfl, rfl, trivial⟩ rfl slc33 sz63 zv63 rfl rfl (leb rfl) rfl rfl (r_assign (.p rfl) rfl (r_end ?_)))))))))))))))))))))
 refine W_join h (fun v9 => mk [(0, .e (.one (.pure (.val (.bool v9)))))] []) (fun j9 h => ?_) (fun v9 h => ?_)
 ·refine W_region mixed rfl (r_move (.p rfl) rfl (r_bin (.p rfl) rfl rfl (bin_eql _ _ _ _ _ _) rfl (r_move (.p rfl) rfl ?_)))
  refine r_split (t := 43) rfl (fun c10 => ?_) (fun c10 => ?_)
  ·have h := cnd_t c10 h
   refine r_move (.g rfl rfl) rfl (r_move (.g rfl rfl) rfl ?_)
   obtain ⟨v11, a11, h⟩ := bind_some h
   refine r_callL (ds0 := [_, _]) [] [(2005, _), (40, _)] (sheaveref37_Same_c N v2.1 (([(ApiStep.mk 1 1 1), (ApiStep.mk 2 1 0), (ApiStep.mk 1 0 1), (ApiStep.mk 2 0 0)] : List ApiStep)) v11 a11) (.g rfl rfl) gd15 rfl ⟨rfl, rfl, trivial⟩ ⟨rfl, rfl, trivial⟩ rfl rfl rfl (nodupL_spec rfl) trivial rfl flatV_nil rfl (r_pick (.p rfl) rfl rfl rfl (r_move (.p rfl) rfl ?_))
   refine r_split (t := 48) rfl (fun c12 => ?_) (fun c12 => ?_)
   ·have h := cnd_t c12 h
    refine r_move (.g rfl rfl) rfl (r_bin (.g rfl rfl) rfl rfl (bin_eql _ _ _ _ _ _) rfl (r_pick (.p rfl) rfl rfl rfl (r_move (.p rfl) rfl ?_)))
    refine r_split (t := 52) rfl (fun c13 => ?_) (fun c13 => ?_)
    ·have h := cnd_t c13 h
     refine r_move (.g rfl rfl) rfl (r_bin (.g rfl rfl) rfl rfl (bin_eql _ _ _ _ _ _) rfl (r_pick (.p rfl) rfl rfl rfl (r_move (.p rfl) rfl ?_)))
     refine r_split (t := 56) rfl (fun c14 => ?_) (fun c14 => ?_)
     ·have h := cnd_t c14 h
      refine r_move (.g rfl rfl) rfl (r_bin (.g rfl rfl) rfl rfl (bin_eql _ _ _ _ _ _) rfl (r_pick (.p rfl) rfl rfl rfl (r_move (.p rfl) rfl ?_)))
      refine r_split (t := 60) rfl (fun c15 => ?_) (fun c15 => ?_)
      ·have h := cnd_t c15 h
       refine r_move (.g rfl rfl) rfl (r_bin (.g rfl rfl) rfl rfl (bin_eql _ _ _ _ _ _) rfl (r_pick (.p rfl) rfl rfl rfl (r_move (.p rfl) rfl ?_)))
       refine r_split (t := 64) rfl (fun c16 => ?_) (fun c16 => ?_)
       ·have h := cnd_t c16 h
        refine r_loadN (.g rfl rfl) rfl ag45 sz45 rfl rfl rfl (r_build [(0, .const (.int .i64 0), _), (1, .const (.int .i64 1), _), (2, .const (.int .i64 0), _)] (.g rfl rfl) rfl ⟨rfl, rfl, rfl, trivial⟩ zv45 rfl rfl pl45 rfl (r_eqA [.int .i64 v8.2.2.1.fTable, .int .i64 v8.2.2.1.fWriter, .int .i64 v8.2.2.1.fReader] [.int .i64 0, .int .i64 1, .int .i64 0] (.g rfl rfl) rfl rfl seq45 rfl (r_pick (.p rfl) rfl rfl rfl (r_move (.p rfl) rfl ?_))))
        refine r_split (t := 69) rfl (fun c17 => ?_) (fun c17 => ?_)
        ·have h := cnd_t c17 h
         obtain ⟨v18, a18, h⟩ := bind_some h
         refine r_call (ds0 := [_, _]) [2020, 2021, 2022, 2023] (sheavelaw39_example_c N false false v18 a18) (.g rfl rfl) gd35 rfl ⟨rfl, rfl, trivial⟩ rfl rfl rfl (nodupL_spec rfl) ⟨rfl, rfl, rfl, rfl, trivial⟩ rfl (r_move (.g rfl rfl) rfl ?_)
         obtain ⟨v19, a19, h⟩ := bind_some h
         refine r_callL (ds0 := [_, _]) [] [(2020, _), (2021, _), (2022, _), (2023, _), (40, _)] (plan_Check_c N v18 (([(ApiStep.mk 1 1 1), (ApiStep.mk 2 1 0), (ApiStep.mk 1 0 1), (ApiStep.mk 2 0 0)] : List ApiStep)) v19 a19) (.g rfl rfl) gd16 rfl ⟨rfl, rfl, trivial⟩ ⟨rfl, rfl, rfl, rfl, rfl, trivial⟩ rfl rfl rfl (nodupL_spec rfl) trivial rfl flatV_nil rfl (r_pick (.p rfl) rfl rfl rfl (r_assign (.p rfl) rfl (r_end ?_)))
         exact sink v19 h (sees_mkL (rn []) _ _ ⟨rfl, trivial⟩ trivial rfl rfl)
        ·have h := cnd_f c17 h
         refine r_notB rfl rfl (r_notB rfl rfl (r_notB rfl rfl (r_pick (.p rfl) rfl rfl rfl (r_assign (.p rfl) rfl (r_end ?_)))))
         exact sink false h (sees_mkL (rn []) _ _ ⟨rfl, trivial⟩ trivial rfl rfl)
       ·have h := cnd_f c16 h
        refine r_notB rfl rfl (r_notB rfl rfl (r_notB rfl rfl (r_pick (.p rfl) rfl rfl rfl (r_move (.p rfl) rfl (r_notB rfl rfl (r_notB rfl rfl (r_notB rfl rfl (r_pick (.p rfl) rfl rfl rfl (r_assign (.p rfl) rfl (r_end ?_))))))))))
        exact sink false h (sees_mkL (rn []) _ _ ⟨rfl, trivial⟩ trivial rfl rfl)
      ·have h := cnd_f c15 h
       refine r_notB rfl rfl (r_notB rfl rfl (r_pick (.p rfl) rfl rfl rfl (r_move (.p rfl) rfl (r_notB rfl rfl (r_notB rfl rfl (r_notB rfl rfl (r_pick (.p rfl) rfl rfl rfl (r_move (.p rfl) rfl (r_notB rfl rfl (r_notB rfl rfl (r_notB rfl rfl (r_pick (.p rfl) rfl rfl rfl (r_assign (.p rfl) rfl (r_end ?_))))))))))))))
       exact sink false h (sees_mkL (rn []) _ _ ⟨rfl, trivial⟩ trivial rfl rfl)
     ·have h := cnd_f c14 h
      refine r_notB rfl rfl (r_notB rfl rfl (r_pick (.p rfl) rfl rfl rfl (r_move (.p rfl) rfl (r_notB rfl rfl (r_notB rfl rfl (r_pick (.p rfl) rfl rfl rfl (r_move (.p rfl) rfl (r_notB rfl rfl (r_notB rfl rfl (r_notB rfl rfl (r_pick (.p rfl) rfl rfl rfl (r_move (.p rfl) rfl (r_notB rfl rfl (r_notB rfl rfl (r_notB rfl rfl (r_pick (.p rfl) rfl rfl rfl (r_assign (.p rfl) rfl (r_end ?_))))))))))))))))))
      exact sink false h (sees_mkL (rn []) _ _ ⟨rfl, trivial⟩ trivial rfl rfl)
    ·have h := cnd_f c13 h
     refine r_notB rfl rfl (r_notB rfl rfl (r_pick (.p rfl) rfl rfl rfl (r_move (.p rfl) rfl (r_notB rfl rfl (r_notB rfl rfl (r_pick (.p rfl) rfl rfl rfl (r_move (.p rfl) rfl (r_notB rfl rfl (r_notB rfl rfl (r_pick (.p rfl) rfl rfl rfl (r_move (.p rfl) rfl (r_notB rfl rfl (r_notB rfl rfl (r_notB rfl rfl (r_pick (.p rfl) rfl rfl rfl (r_move (.p rfl) rfl (r_notB rfl rfl (r_notB rfl rfl (r_notB rfl rfl (r_pick (.p rfl) rfl rfl rfl (r_assign (.p rfl) rfl (r_end ?_))))))))))))))))))))))
     exact sink false h (sees_mkL (rn []) _ _ ⟨rfl, trivial⟩ trivial rfl rfl)
   ·have h := cnd_f c12 h
    refine r_notB rfl rfl (r_notB rfl rfl (r_pick (.p rfl) rfl rfl rfl (r_move (.p rfl) rfl (r_notB rfl rfl (r_notB rfl rfl (r_pick (.p rfl) rfl rfl rfl (r_move (.p rfl) rfl (r_notB rfl rfl (r_notB rfl rfl (r_pick (.p rfl) rfl rfl rfl (r_move (.p rfl) rfl (r_notB rfl rfl (r_notB rfl rfl (r_pick (.p rfl) rfl rfl rfl (r_move (.p rfl) rfl (r_notB rfl rfl (r_notB rfl rfl (r_notB rfl rfl (r_pick (.p rfl) rfl rfl rfl (r_move (.p rfl) rfl (r_notB rfl rfl (r_notB rfl rfl (r_notB rfl rfl (r_pick (.p rfl) rfl rfl rfl (r_assign (.p rfl) rfl (r_end ?_))))))))))))))))))))))))))
    exact sink false h (sees_mkL (rn []) _ _ ⟨rfl, trivial⟩ trivial rfl rfl)
  ·have h := cnd_f c10 h
   refine r_notB rfl rfl (r_notB rfl rfl (r_notB rfl rfl (r_pick (.p rfl) rfl rfl rfl (r_move (.p rfl) rfl (r_notB rfl rfl (r_notB rfl rfl (r_pick (.p rfl) rfl rfl rfl (r_move (.p rfl) rfl (r_notB rfl rfl (r_notB rfl rfl (r_pick (.p rfl) rfl rfl rfl (r_move (.p rfl) rfl (r_notB rfl rfl (r_notB rfl rfl (r_pick (.p rfl) rfl rfl rfl (r_move (.p rfl) rfl (r_notB rfl rfl (r_notB rfl rfl (r_pick (.p rfl) rfl rfl rfl (r_move (.p rfl) rfl (r_notB rfl rfl (r_notB rfl rfl (r_notB rfl rfl (r_pick (.p rfl) rfl rfl rfl (r_move (.p rfl) rfl (r_notB rfl rfl (r_notB rfl rfl (r_notB rfl rfl (r_pick (.p rfl) rfl rfl rfl ?_)))))))))))))))))))))))))))))
   refine r_assign (.p rfl) rfl (r_end ?_)
   exact sink false h (sees_mkL (rn []) _ _ ⟨rfl, trivial⟩ trivial rfl rfl)
 ·obtain rfl := Option.some.inj h
  refine W_sees (sees_mkL (rn []) [(0, .e (.one (.pure (.val (.bool v9)))))] [] ⟨rfl, trivial⟩ trivial rfl rfl) (W_ret ?_)
  exact ⟨⟨[_], ⟨.tmp _ _ rfl, trivial⟩, rfl⟩, trivial⟩
set_option maxRecDepth 10000 in
theorem sheaveref35_Few_c (N : Nat) (p0 : ApiProblem) (r : Bool) (h : Sh.sheaveref35_Few N p0 = some r) : Contract Try.prog 17 [.e (.agg [.pure (.sl (p0.fVersions.map eI64)), .pure (.sl (p0.fNow.map eI64)), .pure (.sl (p0.fTarget.map eI64)), .pure (.sl (p0.fTables.map eApiTable))])] [] (.e (.one (.pure (.val (.bool r))))) := by
 unfold Sh.sheaveref35_Few at h
 refine contract_of_W (n := 97) (rs := [.tmp 2]) Try.func17 rfl rfl rfl (leb rfl) (leb rfl) rfl fun w0 S0 => ?_
 refine W_seq (W_region mixed rfl (r_box (.p rfl) rfl rfl (r_assign (.p rfl) rfl (r_end (W_seq ?_)))))
 refine W_join h (fun v1 => mk [(1, .e (.one (.ptr 1 0))), (27, .e (.one (.pure (.val (.bool v1)))))] [(1, .box [.pure (.sl (p0.fVersions.map eI64)), .pure (.sl (p0.fNow.map eI64)), .pure (.sl (p0.fTarget.map eI64)), .pure (.sl (p0.fTables.map eApiTable))])]) (fun j1 h => ?_) (fun v1 h => ?_)
 ·refine W_region mixed rfl (r_fieldAddr (.p rfl) rfl fld30_0 (r_load1 (.p rfl) rfl ag27 rfl rfl (r_len (.p rfl) rfl (.sl _) trivial (List.length_map _) slc27 (r_bin (.p rfl) rfl rfl (bin_gtr _ _ _ _ _ _) rfl (r_move (.p rfl) rfl ?_)))))
  refine r_split (t := 10) rfl (fun c2 => ?_) (fun c2 => ?_)
  ·have h := cnd_t c2 h
   refine r_notB rfl rfl (r_notB rfl rfl (r_notB rfl rfl (r_notB rfl rfl (r_pick (.p rfl) rfl rfl rfl (r_move (.p rfl) rfl (r_notB rfl rfl (r_notB rfl rfl (r_notB rfl rfl (r_notB rfl rfl (r_pick (.p rfl) rfl rfl rfl (r_move (.p rfl) rfl (r_notB rfl rfl (r_notB rfl rfl (r_notB rfl rfl (r_notB rfl rfl (r_pick (.p rfl) rfl rfl rfl (r_end ?_)))))))))))))))))
   exact sink true h (sees_mkL (rn []) _ _ ⟨rfl, rfl, trivial⟩ ⟨rfl, trivial⟩ rfl rfl)
  ·have h := cnd_f c2 h
   refine r_fieldAddr (.g rfl rfl) rfl fld30_1 (r_load1 (.g rfl rfl) rfl ag27 rfl rfl (r_len (.g rfl rfl) rfl (.sl _) trivial (List.length_map _) slc27 (r_bin (.g rfl rfl) rfl rfl (bin_gtr _ _ _ _ _ _) rfl (r_pick (.p rfl) rfl rfl rfl (r_move (.p rfl) rfl ?_)))))
   refine r_split (t := 16) rfl (fun c3 => ?_) (fun c3 => ?_)
   ·have h := cnd_t c3 h
    refine r_notB rfl rfl (r_notB rfl rfl (r_notB rfl rfl (r_notB rfl rfl (r_pick (.p rfl) rfl rfl rfl (r_move (.p rfl) rfl (r_notB rfl rfl (r_notB rfl rfl (r_notB rfl rfl (r_notB rfl rfl (r_pick (.p rfl) rfl rfl rfl (r_end ?_)))))))))))
    exact sink true h (sees_mkL (rn []) _ _ ⟨rfl, rfl, trivial⟩ ⟨rfl, trivial⟩ rfl rfl)
   ·have h := cnd_f c3 h
    refine r_fieldAddr (.g rfl rfl) rfl fld30_2 (r_load1 (.g rfl rfl) rfl ag27 rfl rfl (r_len (.g rfl rfl) rfl (.sl _) trivial (List.length_map _) slc27 (r_bin (.g rfl rfl) rfl rfl (bin_gtr _ _ _ _ _ _) rfl (r_pick (.p rfl) rfl rfl rfl (r_move (.p rfl) rfl ?_)))))
    refine r_split (t := 22) rfl (fun c4 => ?_) (fun c4 => ?_)
    ·have h := cnd_t c4 h
     refine r_notB rfl rfl (r_notB rfl rfl (r_notB rfl rfl (r_notB rfl rfl (r_pick (.p rfl) rfl rfl rfl (r_end ?_)))))
     exact sink true h (sees_mkL (rn []) _ _ ⟨rfl, rfl, trivial⟩ ⟨rfl, trivial⟩ rfl rfl)
    ·have h := cnd_f c4 h
     refine r_fieldAddr (.g rfl rfl) rfl fld30_3 (r_load1 (.g rfl rfl) rfl ag28 rfl rfl (r_len (.g rfl rfl) rfl (.sl _) trivial (List.length_map _) slc28 (r_bin (.g rfl rfl) rfl rfl (bin_gtr _ _ _ _ _ _) rfl (r_pick (.p rfl) rfl rfl rfl (r_end ?_)))))
     exact sink (decide (14 < (p0.fTables.length : Int))) h (sees_mkL (rn []) _ _ ⟨rfl, rfl, trivial⟩ ⟨rfl, trivial⟩ rfl rfl)
 ·refine W_cond rfl (fun c5 => ?_) (fun c5 => ?_)
  ·have h := cnd_t c5 h
   refine W_seq (W_region mixed rfl (r_assign (.p rfl) rfl (r_end ?_)))
   obtain rfl := Option.some.inj h
   refine W_sees (sees_mkL (rn []) [(2, .e (.one (.pure (.val (.bool false)))))] [] ⟨rfl, trivial⟩ trivial rfl rfl) (W_ret ?_)
   exact ⟨⟨[_], ⟨.tmp _ _ rfl, trivial⟩, rfl⟩, trivial⟩
  ·have h := cnd_f c5 h
   refine W_skip (W_seq (W_seq (W_region mixed rfl (r_assign (.p rfl) rfl (r_end ?_)))))
   refine W_whileE (L := Sh.sheaveref35_Few_L6 N p0) h (fun v6 => mk [(1, .e (.one (.ptr 1 0))), (3, .e (.one (.pure (.val (.int .i64 v6)))))] [(1, .box [.pure (.sl (p0.fVersions.map eI64)), .pure (.sl (p0.fNow.map eI64)), .pure (.sl (p0.fTarget.map eI64)), .pure (.sl (p0.fTables.map eApiTable))])]) (fun v7 => mk [] []) (fun _ _ => rfl) (sees_mkL (rn []) _ _ ⟨rfl, rfl, trivial⟩ ⟨rfl, trivial⟩ rfl rfl) (fun j6 n6 v6 h => ?_) (fun v7 s h hs => ?_)
   ·unfold Sh.sheaveref35_Few_L6 at h
    refine W_seq (W_seq (W_region mixed rfl (r_move (.p rfl) rfl (r_fieldAddr (.p rfl) rfl fld30_3 (r_load1 (.p rfl) rfl ag28 rfl rfl (r_len (.p rfl) rfl (.sl _) trivial (List.length_map _) slc28 (r_bin (.p rfl) rfl rfl (bin_lss _ _ _ _ _ _) rfl (r_end ?_))))))))
    refine W_cond rfl (fun c8 => ?_) (fun c8 => ?_)
    ·have h := cnd_t c8 h
     refine W_skip (W_seq (W_block (W_seq ?_)))
     refine W_join h (fun v9 => mk [(1, .e (.one (.ptr 1 0))), (3, .e (.one (.pure (.val (.int .i64 v6))))), (52, .e (.one (.pure (.val (.bool v9)))))] [(1, .box [.pure (.sl (p0.fVersions.map eI64)), .pure (.sl (p0.fNow.map eI64)), .pure (.sl (p0.fTarget.map eI64)), .pure (.sl (p0.fTables.map eApiTable))])]) (fun j9 h => ?_) (fun v9 h => ?_)
     ·refine W_region mixed rfl (r_fieldAddr (.p rfl) rfl fld30_3 (r_load1 (.p rfl) rfl ag28 rfl rfl (r_move (.p rfl) rfl ?_)))
      obtain ⟨v10, a10, b10, h⟩ := idx_bind h
      refine r_index (.p rfl) rfl rfl slc28 sz75 a10 (map_get b10) rfl (r_fieldAddrr (.p rfl) rfl fld75_4 (leb rfl) rfl (r_loadr1 (.p rfl) rfl ag73 rfl (r_len (.p rfl) rfl (.sl _) trivial (List.length_map _) slc73 (r_bin (.p rfl) rfl rfl (bin_gtr _ _ _ _ _ _) rfl (r_move (.p rfl) rfl ?_)))))
      refine r_split (t := 43) rfl (fun c11 => ?_) (fun c11 => ?_)
      ·have h := cnd_t c11 h
       refine r_notB rfl rfl (r_notB rfl rfl (r_notB rfl rfl (r_notB rfl rfl (r_notB rfl rfl (r_notB rfl rfl (r_notB rfl rfl (r_notB rfl rfl (r_pick (.p rfl) rfl rfl rfl (r_end ?_)))))))))
       exact sink true h (sees_mkL (rn []) _ _ ⟨rfl, rfl, rfl, trivial⟩ ⟨rfl, trivial⟩ rfl rfl)
      ·have h := cnd_f c11 h
       refine r_fieldAddr (.g rfl rfl) rfl fld30_3 (r_load1 (.g rfl rfl) rfl ag28 rfl rfl (r_move (.g rfl rfl) rfl ?_))
       obtain ⟨v12, a12, b12, h⟩ := idx_bind h
       refine r_index (.g rfl rfl) rfl rfl slc28 sz75 a12 (map_get b12) rfl (r_fieldAddrr (.g rfl rfl) rfl fld75_5 (leb rfl) rfl (r_loadr1 (.g rfl rfl) rfl ag73 rfl (r_len (.g rfl rfl) rfl (.sl _) trivial (List.length_map _) slc73 (r_bin (.g rfl rfl) rfl rfl (bin_gtr _ _ _ _ _ _) rfl (r_pick (.p rfl) rfl rfl rfl (r_end ?_))))))
       exact sink (decide (8 < (v12.fRewrite.length : Int))) h (sees_mkL (rn []) _ _ ⟨rfl, rfl, rfl, trivial⟩ ⟨rfl, trivial⟩ rfl rfl)
     ·refine W_cond rfl (fun c13 => ?_) (fun c13 => ?_)
      ·have h := cnd_t c13 h
       refine W_seq (W_region mixed rfl (r_assign (.p rfl) rfl (r_end ?_)))
       obtain rfl := Option.some.inj h
       refine W_sees (sees_mkL (rn []) [(2, .e (.one (.pure (.val (.bool false)))))] [] ⟨rfl, trivial⟩ trivial rfl rfl) (W_ret ?_)
       exact ⟨⟨[_], ⟨.tmp _ _ rfl, trivial⟩, rfl⟩, trivial⟩
      ·have h := cnd_f c13 h
       refine W_skip (W_seq (W_seq (W_region mixed rfl (r_assign (.p rfl) rfl (r_end ?_)))))
       refine W_whileE (L := Sh.sheaveref35_Few_L14 N p0 v6) h (fun v14 => mk [(1, .e (.one (.ptr 1 0))), (3, .e (.one (.pure (.val (.int .i64 v6))))), (4, .e (.one (.pure (.val (.int .i64 v14)))))] [(1, .box [.pure (.sl (p0.fVersions.map eI64)), .pure (.sl (p0.fNow.map eI64)), .pure (.sl (p0.fTarget.map eI64)), .pure (.sl (p0.fTables.map eApiTable))])]) (fun v15 => mk [(1, .e (.one (.ptr 1 0))), (3, .e (.one (.pure (.val (.int .i64 v6)))))] [(1, .box [.pure (.sl (p0.fVersions.map eI64)), .pure (.sl (p0.fNow.map eI64)), .pure (.sl (p0.fTarget.map eI64)), .pure (.sl (p0.fTables.map eApiTable))])]) (fun _ _ => rfl) (sees_mkL (rn []) _ _ ⟨rfl, rfl, rfl, trivial⟩ ⟨rfl, trivial⟩ rfl rfl) (fun j14 n14 v14 h => ?_) (fun v15 s h hs => ?_)
       ·unfold Sh.sheaveref35_Few_L14 at h
        refine W_seq (W_seq (W_region mixed rfl (r_move (.p rfl) rfl (r_fieldAddr (.p rfl) rfl fld30_3 (r_load1 (.p rfl) rfl ag28 rfl rfl (r_move (.p rfl) rfl ?_))))))
        obtain ⟨v16, a16, b16, h⟩ := idx_bind h
        refine r_index (.p rfl) rfl rfl slc28 sz75 a16 (map_get b16) rfl (r_fieldAddrr (.p rfl) rfl fld75_4 (leb rfl) rfl (r_loadr1 (.p rfl) rfl ag73 rfl (r_len (.p rfl) rfl (.sl _) trivial (List.length_map _) slc73 (r_bin (.p rfl) rfl rfl (bin_lss _ _ _ _ _ _) rfl (r_end ?_)))))
        refine W_cond rfl (fun c17 => ?_) (fun c17 => ?_)
        ·have h := cnd_t c17 h
         refine W_skip (W_seq (W_block (W_seq (W_region mixed rfl (r_fieldAddr (.p rfl) rfl fld30_3 (r_load1 (.p rfl) rfl ag28 rfl rfl (r_move (.p rfl) rfl ?_)))))))
         obtain ⟨v18, a18, b18, h⟩ := idx_bind h
         refine r_index (.p rfl) rfl rfl slc28 sz75 a18 (map_get b18) rfl (r_fieldAddrr (.p rfl) rfl fld75_4 (leb rfl) rfl (r_loadr1 (.p rfl) rfl ag73 rfl (r_move (.p rfl) rfl ?_)))
         obtain ⟨v19, a19, b19, h⟩ := idx_bind h
         refine r_index (.p rfl) rfl rfl slc73 sz76 a19 (map_get b19) rfl (r_loadr1 (.p rfl) rfl ag76 rfl (r_len (.p rfl) rfl (.sl _) trivial (List.length_map _) slc76 (r_bin (.p rfl) rfl rfl (bin_gtr _ _ _ _ _ _) rfl (r_end ?_))))
         refine W_cond rfl (fun c20 => ?_) (fun c20 => ?_)
         ·have h := cnd_t c20 h
          refine W_seq (W_region mixed rfl (r_assign (.p rfl) rfl (r_end ?_)))
          obtain rfl := Option.some.inj h
          refine W_sees (sees_mkL (rn []) [(2, .e (.one (.pure (.val (.bool false)))))] [] ⟨rfl, trivial⟩ trivial rfl rfl) (W_ret ?_)
          exact ⟨⟨[_], ⟨.tmp _ _ rfl, trivial⟩, rfl⟩, trivial⟩
         ·have h := cnd_f c20 h
          refine W_skip (W_region mixed rfl (r_move (.p rfl) rfl (r_bin (.p rfl) rfl rfl (bin_add _ _ _ _ _ _) rfl (r_assign (.p rfl) rfl (r_end ?_)))))
          exact sink (IntKind.wrap .i64 (v14 + 1)) h (sees_mkL (rn []) _ _ ⟨rfl, rfl, rfl, trivial⟩ ⟨rfl, trivial⟩ rfl rfl)
        ·have h := cnd_f c17 h
         refine W_exit ?_
         exact sink () h (sees_mkL (rn []) _ _ ⟨rfl, rfl, trivial⟩ ⟨rfl, trivial⟩ rfl rfl)
       ·refine W_sees hs (W_seq (W_region mixed rfl (r_assign (.p rfl) rfl (r_end ?_))))
        refine W_whileE (L := Sh.sheaveref35_Few_L21 N p0 v6) h (fun v21 => mk [(1, .e (.one (.ptr 1 0))), (3, .e (.one (.pure (.val (.int .i64 v6))))), (5, .e (.one (.pure (.val (.int .i64 v21)))))] [(1, .box [.pure (.sl (p0.fVersions.map eI64)), .pure (.sl (p0.fNow.map eI64)), .pure (.sl (p0.fTarget.map eI64)), .pure (.sl (p0.fTables.map eApiTable))])]) (fun v22 => mk [(1, .e (.one (.ptr 1 0))), (3, .e (.one (.pure (.val (.int .i64 v6)))))] [(1, .box [.pure (.sl (p0.fVersions.map eI64)), .pure (.sl (p0.fNow.map eI64)), .pure (.sl (p0.fTarget.map eI64)), .pure (.sl (p0.fTables.map eApiTable))])]) (fun _ _ => rfl) (sees_mkL (rn []) _ _ ⟨rfl, rfl, rfl, trivial⟩ ⟨rfl, trivial⟩ rfl rfl) (fun j21 n21 v21 h => ?_) (fun v22 s h hs => ?_)
        ·unfold Sh.sheaveref35_Few_L21 at h
         refine W_seq (W_seq (W_region mixed rfl (r_move (.p rfl) rfl (r_fieldAddr (.p rfl) rfl fld30_3 (r_load1 (.p rfl) rfl ag28 rfl rfl (r_move (.p rfl) rfl ?_))))))
         obtain ⟨v23, a23, b23, h⟩ := idx_bind h
         refine r_index (.p rfl) rfl rfl slc28 sz75 a23 (map_get b23) rfl (r_fieldAddrr (.p rfl) rfl fld75_5 (leb rfl) rfl (r_loadr1 (.p rfl) rfl ag73 rfl (r_len (.p rfl) rfl (.sl _) trivial (List.length_map _) slc73 (r_bin (.p rfl) rfl rfl (bin_lss _ _ _ _ _ _) rfl (r_end ?_)))))
         refine W_cond rfl (fun c24 => ?_) (fun c24 => ?_)
         ·have h := cnd_t c24 h
          refine W_skip (W_seq (W_block (W_seq (W_region mixed rfl (r_fieldAddr (.p rfl) rfl fld30_3 (r_load1 (.p rfl) rfl ag28 rfl rfl (r_move (.p rfl) rfl ?_)))))))
          obtain ⟨v25, a25, b25, h⟩ := idx_bind h
          refine r_index (.p rfl) rfl rfl slc28 sz75 a25 (map_get b25) rfl (r_fieldAddrr (.p rfl) rfl fld75_5 (leb rfl) rfl (r_loadr1 (.p rfl) rfl ag73 rfl (r_move (.p rfl) rfl ?_)))
          obtain ⟨v26, a26, b26, h⟩ := idx_bind h
          refine r_index (.p rfl) rfl rfl slc73 sz76 a26 (map_get b26) rfl (r_loadr1 (.p rfl) rfl ag76 rfl (r_len (.p rfl) rfl (.sl _) trivial (List.length_map _) slc76 (r_bin (.p rfl) rfl rfl (bin_gtr _ _ _ _ _ _) rfl (r_end ?_))))
          refine W_cond rfl (fun c27 => ?_) (fun c27 => ?_)
          ·have h := cnd_t c27 h
           refine W_seq (W_region mixed rfl (r_assign (.p rfl) rfl (r_end ?_)))
           obtain rfl := Option.some.inj h
           refine W_sees (sees_mkL (rn []) [(2, .e (.one (.pure (.val (.bool false)))))] [] ⟨rfl, trivial⟩ trivial rfl rfl) (W_ret ?_)
           exact ⟨⟨[_], ⟨.tmp _ _ rfl, trivial⟩, rfl⟩, trivial⟩
          ·have h := cnd_f c27 h
           refine W_skip (W_region mixed rfl (r_move (.p rfl) rfl (r_bin (.p rfl) rfl rfl (bin_add _ _ _ _ _ _) rfl (r_assign (.p rfl) rfl (r_end ?_)))))
           exact sink (IntKind.wrap .i64 (v21 + 1)) h (sees_mkL (rn []) _ _ ⟨rfl, rfl, rfl, trivial⟩ ⟨rfl, trivial⟩ rfl rfl)
         ·have h := cnd_f c24 h
          refine W_exit ?_
          exact sink () h (sees_mkL (rn []) _ _ ⟨rfl, rfl, trivial⟩ ⟨rfl, trivial⟩ rfl rfl)
        ·refine W_sees hs (W_region mixed rfl (r_move (.p rfl) rfl (r_bin (.p rfl) rfl rfl (bin_add _ _ _ _ _ _) rfl (r_assign (.p rfl) rfl (r_end ?_)))))
         exact sink (IntKind.wrap .i64 (v6 + 1)) h (sees_mkL (rn []) _ _ ⟨rfl, rfl, trivial⟩ ⟨rfl, trivial⟩ rfl rfl)
    ·have h := cnd_f c8 h
     refine W_exit ?_
     exact sink () h (sees_mkL (rn []) _ _ trivial trivial rfl rfl)
   ·refine W_sees hs (W_seq (W_region mixed rfl (r_assign (.p rfl) rfl (r_end ?_))))
    obtain rfl := Option.some.inj h
    refine W_sees (sees_mkL (rn []) [(2, .e (.one (.pure (.val (.bool true)))))] [] ⟨rfl, trivial⟩ trivial rfl rfl) (W_ret ?_)
    exact ⟨⟨[_], ⟨.tmp _ _ rfl, trivial⟩, rfl⟩, trivial⟩
set_option maxRecDepth 10000 in
theorem sheaveref35_Stored_c (N : Nat) (p0 : ApiTable) (r : Bool) (h : Sh.sheaveref35_Stored N p0 = some r) : Contract Try.prog 46 [.e (.agg [.pure (.val (.int .i64 p0.fKind)), .pure (.val (.int .i64 p0.fFrom)), .pure (.val (.int .i64 p0.fTo)), .pure (.val (.bool p0.fAware)), .pure (.sl (p0.fOK.map (eSl eB))), .pure (.sl (p0.fRewrite.map (eSl eB)))])] [] (.e (.one (.pure (.val (.bool r))))) := by
 unfold Sh.sheaveref35_Stored at h
 refine contract_of_W (n := 11) (rs := [.tmp 2]) Try.func46 rfl rfl rfl (leb rfl) (leb rfl) rfl fun w0 S0 => ?_
 refine W_seq (W_region mixed rfl (r_box (.p rfl) rfl rfl (r_assign (.p rfl) rfl (r_end ?_))))
 refine W_join h (fun v1 => mk [(2, .e (.one (.pure (.val (.bool v1)))))] []) (fun j1 h => ?_) (fun v1 h => ?_)
 ·refine W_region mixed rfl (r_fieldAddr (.p rfl) rfl fld75_0 (r_load1 (.p rfl) rfl ag3 rfl rfl (r_bin (.p rfl) rfl rfl (bin_eql _ _ _ _ _ _) rfl (r_move (.p rfl) rfl ?_))))
  refine r_split (t := 6) rfl (fun c2 => ?_) (fun c2 => ?_)
  ·have h := cnd_t c2 h
   refine r_notB rfl rfl (r_notB rfl rfl (r_notB rfl rfl (r_pick (.p rfl) rfl rfl rfl (r_assign (.p rfl) rfl (r_end ?_)))))
   exact sink true h (sees_mkL (rn []) _ _ ⟨rfl, trivial⟩ trivial rfl rfl)
  ·have h := cnd_f c2 h
   refine r_fieldAddr (.g rfl rfl) rfl fld75_0 (r_load1 (.g rfl rfl) rfl ag3 rfl rfl (r_bin (.g rfl rfl) rfl rfl (bin_eql _ _ _ _ _ _) rfl (r_pick (.p rfl) rfl rfl rfl (r_assign (.p rfl) rfl (r_end ?_)))))
   exact sink (p0.fKind == 4) h (sees_mkL (rn []) _ _ ⟨rfl, trivial⟩ trivial rfl rfl)
 ·obtain rfl := Option.some.inj h
  refine W_sees (sees_mkL (rn []) [(2, .e (.one (.pure (.val (.bool v1)))))] [] ⟨rfl, trivial⟩ trivial rfl rfl) (W_ret ?_)
  exact ⟨⟨[_], ⟨.tmp _ _ rfl, trivial⟩, rfl⟩, trivial⟩
set_option maxRecDepth 10000 in
theorem sheaveref35_square_c (N : Nat) (p0 : List (List Bool)) (p1 : Int) (p2 : Int) (r : Bool) (h : Sh.sheaveref35_square N p0 p1 p2 = some r) : Contract Try.prog 91 [.e (.one (.pure (.sl (p0.map (eSl eB))))), .e (.one (.pure (.val (.int .i64 p1)))), .e (.one (.pure (.val (.int .i64 p2))))] [] (.e (.one (.pure (.val (.bool r))))) := by
 unfold Sh.sheaveref35_square at h
 refine contract_of_W (n := 24) (rs := [.tmp 6]) Try.func91 rfl rfl rfl (leb rfl) (leb rfl) rfl fun w0 S0 => ?_
 refine W_seq (W_region mixed rfl (r_assign (.p rfl) rfl (r_end (W_seq (W_seq (W_region mixed rfl (r_move (.p rfl) rfl (r_len (.p rfl) rfl (.sl _) trivial (List.length_map _) slc73 (r_move (.p rfl) rfl (r_bin (.p rfl) rfl rfl (bin_neq _ _ _ _ _ _) rfl (r_end ?_)))))))))))
 refine W_cond rfl (fun c1 => ?_) (fun c1 => ?_)
 ·have h := cnd_t c1 h
  refine W_seq (W_region mixed rfl (r_assign (.p rfl) rfl (r_end ?_)))
  obtain rfl := Option.some.inj h
  refine W_sees (sees_mkL (rn []) [(6, .e (.one (.pure (.val (.bool false)))))] [] ⟨rfl, trivial⟩ trivial rfl rfl) (W_ret ?_)
  exact ⟨⟨[_], ⟨.tmp _ _ rfl, trivial⟩, rfl⟩, trivial⟩
 ·have h := cnd_f c1 h
  refine W_skip (W_seq (W_seq (W_region mixed rfl (r_assign (.p rfl) rfl (r_end ?_)))))
  refine W_whileE (L := Sh.sheaveref35_square_L2 N p0 p1 p2) h (fun v2 => mk [(0, .e (.one (.pure (.sl (p0.map (eSl eB)))))), (1, .e (.one (.pure (.val (.int .i64 p1))))), (2, .e (.one (.pure (.val (.int .i64 p2))))), (7, .e (.one (.pure (.val (.int .i64 v2)))))] []) (fun v3 => mk [] []) (fun _ _ => rfl) (sees_mkL (rn []) _ _ ⟨rfl, rfl, rfl, rfl, trivial⟩ trivial rfl rfl) (fun j2 n2 v2 h => ?_) (fun v3 s h hs => ?_)
  ·unfold Sh.sheaveref35_square_L2 at h
   refine W_seq (W_seq (W_region mixed rfl (r_move (.p rfl) rfl (r_move (.p rfl) rfl (r_bin (.p rfl) rfl rfl (bin_lss _ _ _ _ _ _) rfl (r_end ?_))))))
   refine W_cond rfl (fun c4 => ?_) (fun c4 => ?_)
   ·have h := cnd_t c4 h
    refine W_skip (W_seq (W_block (W_seq (W_region mixed rfl (r_move (.p rfl) rfl (r_move (.p rfl) rfl ?_))))))
    obtain ⟨v5, a5, b5, h⟩ := idx_bind h
    refine r_index (.p rfl) rfl rfl slc73 sz76 a5 (map_get b5) rfl (r_loadr1 (.p rfl) rfl ag76 rfl (r_len (.p rfl) rfl (.sl _) trivial (List.length_map _) slc76 (r_move (.p rfl) rfl (r_bin (.p rfl) rfl rfl (bin_neq _ _ _ _ _ _) rfl (r_end ?_)))))
    refine W_cond rfl (fun c6 => ?_) (fun c6 => ?_)
    ·have h := cnd_t c6 h
     refine W_seq (W_region mixed rfl (r_assign (.p rfl) rfl (r_end ?_)))
     obtain rfl := Option.some.inj h
     refine W_sees (sees_mkL (rn []) [(6, .e (.one (.pure (.val (.bool false)))))] [] ⟨rfl, trivial⟩ trivial rfl rfl) (W_ret ?_)
     exact ⟨⟨[_], ⟨.tmp _ _ rfl, trivial⟩, rfl⟩, trivial⟩
    ·have h := cnd_f c6 h
     refine W_skip (W_region mixed rfl (r_move (.p rfl) rfl (r_bin (.p rfl) rfl rfl (bin_add _ _ _ _ _ _) rfl (r_assign (.p rfl) rfl (r_end ?_)))))
     exact sink (IntKind.wrap .i64 (v2 + 1)) h (sees_mkL (rn []) _ _ ⟨rfl, rfl, rfl, rfl, trivial⟩ trivial rfl rfl)
   ·have h := cnd_f c4 h
    refine W_exit ?_
    exact sink () h (sees_mkL (rn []) _ _ trivial trivial rfl rfl)
  ·refine W_sees hs (W_seq (W_region mixed rfl (r_assign (.p rfl) rfl (r_end ?_))))
   obtain rfl := Option.some.inj h
   refine W_sees (sees_mkL (rn []) [(6, .e (.one (.pure (.val (.bool true)))))] [] ⟨rfl, trivial⟩ trivial rfl rfl) (W_ret ?_)
   exact ⟨⟨[_], ⟨.tmp _ _ rfl, trivial⟩, rfl⟩, trivial⟩
set_option maxRecDepth 10000 in
theorem sheaveref35_table_c (N : Nat) (p0 : ApiProblem) (p1 : ApiTable) (r : Int) (h : Sh.sheaveref35_table N p0 p1 = some r) : Contract Try.prog 64 [.e (.agg [.pure (.sl (p0.fVersions.map eI64)), .pure (.sl (p0.fNow.map eI64)), .pure (.sl (p0.fTarget.map eI64)), .pure (.sl (p0.fTables.map eApiTable))]), .e (.agg [.pure (.val (.int .i64 p1.fKind)), .pure (.val (.int .i64 p1.fFrom)), .pure (.val (.int .i64 p1.fTo)), .pure (.val (.bool p1.fAware)), .pure (.sl (p1.fOK.map (eSl eB))), .pure (.sl (p1.fRewrite.map (eSl eB)))])] [] (.e (.one (.pure (.val (.int .i64 r))))) := by
 unfold Sh.sheaveref35_table at h
 refine contract_of_W (n := 101) (rs := [.tmp 4]) Try.func64 rfl rfl rfl (leb rfl) (leb rfl) rfl fun w0 S0 => ?_
 refine W_seq (W_region mixed rfl (r_box (.p rfl) rfl rfl (r_box (.p rfl) rfl rfl (r_assign (.p rfl) rfl (r_end (W_seq ?_))))))
 refine W_join h (fun v1 => mk [(2, .e (.one (.ptr 2 0))), (3, .e (.one (.ptr 3 0))), (22, .e (.one (.pure (.val (.bool v1)))))] [(2, .box [.pure (.sl (p0.fVersions.map eI64)), .pure (.sl (p0.fNow.map eI64)), .pure (.sl (p0.fTarget.map eI64)), .pure (.sl (p0.fTables.map eApiTable))]), (3, .box [.pure (.val (.int .i64 p1.fKind)), .pure (.val (.int .i64 p1.fFrom)), .pure (.val (.int .i64 p1.fTo)), .pure (.val (.bool p1.fAware)), .pure (.sl (p1.fOK.map (eSl eB))), .pure (.sl (p1.fRewrite.map (eSl eB)))])]) (fun j1 h => ?_) (fun v1 h => ?_)
 ·refine W_region mixed rfl (r_fieldAddr (.p rfl) rfl fld75_0 (r_load1 (.p rfl) rfl ag3 rfl rfl (r_bin (.p rfl) rfl rfl (bin_lss _ _ _ _ _ _) rfl (r_move (.p rfl) rfl ?_))))
  refine r_split (t := 10) rfl (fun c2 => ?_) (fun c2 => ?_)
  ·have h := cnd_t c2 h
   refine r_notB rfl rfl (r_notB rfl rfl (r_notB rfl rfl (r_pick (.p rfl) rfl rfl rfl (r_move (.p rfl) rfl (r_notB rfl rfl (r_notB rfl rfl (r_notB rfl rfl (r_notU rfl rfl (r_notU rfl rfl (r_notB rfl rfl (r_pick (.p rfl) rfl rfl rfl (r_end ?_))))))))))))
   exact sink true h (sees_mkL (rn []) _ _ ⟨rfl, rfl, rfl, trivial⟩ ⟨rfl, rfl, trivial⟩ rfl rfl)
  ·have h := cnd_f c2 h
   refine r_fieldAddr (.g rfl rfl) rfl fld75_0 (r_load1 (.g rfl rfl) rfl ag3 rfl rfl (r_bin (.g rfl rfl) rfl rfl (bin_gtr _ _ _ _ _ _) rfl (r_pick (.p rfl) rfl rfl rfl (r_move (.p rfl) rfl ?_))))
   refine r_split (t := 15) rfl (fun c3 => ?_) (fun c3 => ?_)
   ·have h := cnd_t c3 h
    refine r_notB rfl rfl (r_notB rfl rfl (r_notB rfl rfl (r_notU rfl rfl (r_notU rfl rfl (r_notB rfl rfl (r_pick (.p rfl) rfl rfl rfl (r_end ?_)))))))
    exact sink true h (sees_mkL (rn []) _ _ ⟨rfl, rfl, rfl, trivial⟩ ⟨rfl, rfl, trivial⟩ rfl rfl)
   ·have h := cnd_f c3 h
    refine r_fieldAddr (.g rfl rfl) rfl fld75_3 (r_load1 (.g rfl rfl) rfl ag4 rfl rfl (r_move (.g rfl rfl) rfl ?_))
    refine r_split (t := 18) rfl (fun c4 => ?_) (fun c4 => ?_)
    ·have h := cnd_t c4 h
     refine r_loadN (.g rfl rfl) rfl ag75 sz75 rfl rfl rfl ?_
     obtain ⟨v5, a5, h⟩ := bind_some h
     refine r_call (ds0 := [_]) [] (sheaveref35_Stored_c N p1 v5 a5) (.g rfl rfl) gd46 rfl ⟨rfl, trivial⟩ rfl rfl rfl (nodupL_spec rfl) trivial rfl (r_pick (.g rfl rfl) rfl rfl rfl (r_pick (.p rfl) rfl rfl rfl (r_end ?_)))
     exact sink v5 h (sees_mkL (rn []) _ _ ⟨rfl, rfl, rfl, trivial⟩ ⟨rfl, rfl, trivial⟩ rfl rfl)
    ·have h := cnd_f c4 h
     refine r_notB rfl rfl (r_notB rfl rfl (r_pick (.g rfl rfl) rfl rfl rfl (r_pick (.p rfl) rfl rfl rfl (r_end ?_))))
     exact sink false h (sees_mkL (rn []) _ _ ⟨rfl, rfl, rfl, trivial⟩ ⟨rfl, rfl, trivial⟩ rfl rfl)
 ·refine W_cond rfl (fun c6 => ?_) (fun c6 => ?_)
  ·have h := cnd_t c6 h
   refine W_seq (W_region mixed rfl (r_assign (.p rfl) rfl (r_end ?_)))
   obtain rfl := Option.some.inj h
   refine W_sees (sees_mkL (rn []) [(4, .e (.one (.pure (.val (.int .i64 1)))))] [] ⟨rfl, trivial⟩ trivial rfl rfl) (W_ret ?_)
   exact ⟨⟨[_], ⟨.tmp _ _ rfl, trivial⟩, rfl⟩, trivial⟩
  ·have h := cnd_f c6 h
   refine W_skip (W_seq (W_region mixed rfl (r_fieldAddr (.p rfl) rfl fld30_0 (r_load1 (.p rfl) rfl ag27 rfl rfl (r_len (.p rfl) rfl (.sl _) trivial (List.length_map _) slc27 (r_assign (.p rfl) rfl (r_end (W_seq ?_))))))))
   refine W_join h (fun v7 => mk [(2, .e (.one (.ptr 2 0))), (3, .e (.one (.ptr 3 0))), (45, .e (.one (.pure (.val (.bool v7)))))] [(2, .box [.pure (.sl (p0.fVersions.map eI64)), .pure (.sl (p0.fNow.map eI64)), .pure (.sl (p0.fTarget.map eI64)), .pure (.sl (p0.fTables.map eApiTable))]), (3, .box [.pure (.val (.int .i64 p1.fKind)), .pure (.val (.int .i64 p1.fFrom)), .pure (.val (.int .i64 p1.fTo)), .pure (.val (.bool p1.fAware)), .pure (.sl (p1.fOK.map (eSl eB))), .pure (.sl (p1.fRewrite.map (eSl eB)))])]) (fun j7 h => ?_) (fun v7 h => ?_)
   ·refine W_region mixed rfl (r_fieldAddr (.p rfl) rfl fld75_1 (r_load1 (.p rfl) rfl ag3 rfl rfl (r_bin (.p rfl) rfl rfl (bin_lss _ _ _ _ _ _) rfl (r_move (.p rfl) rfl ?_))))
    refine r_split (t := 29) rfl (fun c8 => ?_) (fun c8 => ?_)
    ·have h := cnd_t c8 h
     refine r_notB rfl rfl (r_notB rfl rfl (r_notB rfl rfl (r_notB rfl rfl (r_pick (.p rfl) rfl rfl rfl (r_move (.p rfl) rfl (r_notB rfl rfl (r_notB rfl rfl (r_notB rfl rfl (r_pick (.p rfl) rfl rfl rfl (r_move (.p rfl) rfl (r_notB rfl rfl (r_notB rfl rfl (r_notB rfl rfl (r_notB rfl rfl (r_pick (.p rfl) rfl rfl rfl (r_end ?_))))))))))))))))
     exact sink true h (sees_mkL (rn []) _ _ ⟨rfl, rfl, rfl, trivial⟩ ⟨rfl, rfl, trivial⟩ rfl rfl)
    ·have h := cnd_f c8 h
     refine r_fieldAddr (.g rfl rfl) rfl fld75_1 (r_load1 (.g rfl rfl) rfl ag3 rfl rfl (r_move (.g rfl rfl) rfl (r_bin (.g rfl rfl) rfl rfl (bin_geq _ _ _ _ _ _) rfl (r_pick (.p rfl) rfl rfl rfl (r_move (.p rfl) rfl ?_)))))
     refine r_split (t := 35) rfl (fun c9 => ?_) (fun c9 => ?_)
     ·have h := cnd_t c9 h
      refine r_notB rfl rfl (r_notB rfl rfl (r_notB rfl rfl (r_pick (.p rfl) rfl rfl rfl (r_move (.p rfl) rfl (r_notB rfl rfl (r_notB rfl rfl (r_notB rfl rfl (r_notB rfl rfl (r_pick (.p rfl) rfl rfl rfl (r_end ?_))))))))))
      exact sink true h (sees_mkL (rn []) _ _ ⟨rfl, rfl, rfl, trivial⟩ ⟨rfl, rfl, trivial⟩ rfl rfl)
     ·have h := cnd_f c9 h
      refine r_fieldAddr (.g rfl rfl) rfl fld75_2 (r_load1 (.g rfl rfl) rfl ag3 rfl rfl (r_bin (.g rfl rfl) rfl rfl (bin_lss _ _ _ _ _ _) rfl (r_pick (.p rfl) rfl rfl rfl (r_move (.p rfl) rfl ?_))))
      refine r_split (t := 40) rfl (fun c10 => ?_) (fun c10 => ?_)
      ·have h := cnd_t c10 h
       refine r_notB rfl rfl (r_notB rfl rfl (r_notB rfl rfl (r_notB rfl rfl (r_pick (.p rfl) rfl rfl rfl (r_end ?_)))))
       exact sink true h (sees_mkL (rn []) _ _ ⟨rfl, rfl, rfl, trivial⟩ ⟨rfl, rfl, trivial⟩ rfl rfl)
      ·have h := cnd_f c10 h
       refine r_fieldAddr (.g rfl rfl) rfl fld75_2 (r_load1 (.g rfl rfl) rfl ag3 rfl rfl (r_move (.g rfl rfl) rfl (r_bin (.g rfl rfl) rfl rfl (bin_geq _ _ _ _ _ _) rfl (r_pick (.p rfl) rfl rfl rfl (r_end ?_)))))
       exact sink (decide ((p0.fVersions.length : Int) ≤ p1.fTo)) h (sees_mkL (rn []) _ _ ⟨rfl, rfl, rfl, trivial⟩ ⟨rfl, rfl, trivial⟩ rfl rfl)
   ·refine W_cond rfl (fun c11 => ?_) (fun c11 => ?_)
    ·have h := cnd_t c11 h
     refine W_seq (W_region mixed rfl (r_assign (.p rfl) rfl (r_end ?_)))
     obtain rfl := Option.some.inj h
     refine W_sees (sees_mkL (rn []) [(4, .e (.one (.pure (.val (.int .i64 4)))))] [] ⟨rfl, trivial⟩ trivial rfl rfl) (W_ret ?_)
     exact ⟨⟨[_], ⟨.tmp _ _ rfl, trivial⟩, rfl⟩, trivial⟩
    ·have h := cnd_f c11 h
     refine W_skip (W_seq (W_seq (W_region mixed rfl (r_fieldAddr (.p rfl) rfl fld75_4 (r_load1 (.p rfl) rfl ag73 rfl rfl (r_fieldAddr (.p rfl) rfl fld30_0 (r_load1 (.p rfl) rfl ag27 rfl rfl (r_fieldAddr (.p rfl) rfl fld75_1 (r_load1 (.p rfl) rfl ag3 rfl rfl ?_)))))))))
     obtain ⟨v12, a12, b12, h⟩ := idx_bind h
     refine r_index (.p rfl) rfl rfl slc27 sz3 a12 (map_get b12) rfl (r_loadr1 (.p rfl) rfl ag3 rfl (r_fieldAddr (.p rfl) rfl fld30_0 (r_load1 (.p rfl) rfl ag27 rfl rfl (r_fieldAddr (.p rfl) rfl fld75_2 (r_load1 (.p rfl) rfl ag3 rfl rfl ?_)))))
     obtain ⟨v13, a13, b13, h⟩ := idx_bind h
     refine r_index (.p rfl) rfl rfl slc27 sz3 a13 (map_get b13) rfl (r_loadr1 (.p rfl) rfl ag3 rfl ?_)
     obtain ⟨v14, a14, h⟩ := bind_some h
     refine r_call (ds0 := [_, _, _]) [] (sheaveref35_square_c N p1.fOK v12 v13 v14 a14) (.p rfl) gd91 rfl ⟨rfl, rfl, rfl, trivial⟩ rfl rfl rfl (nodupL_spec rfl) trivial rfl (r_un (.p rfl) rfl (un_not _) rfl ?_)
     refine r_endD (by kernel_rfl) ?_
     refine W_cond rfl (fun c15 => ?_) (fun c15 => ?_)
     ·have h := cnd_t c15 h
      refine W_seq (W_region mixed rfl (r_assign (.p rfl) rfl (r_end ?_)))
      obtain rfl := Option.some.inj h
      refine W_sees (sees_mkL (rn []) [(4, .e (.one (.pure (.val (.int .i64 6)))))] [] ⟨rfl, trivial⟩ trivial rfl rfl) (W_ret ?_)
      exact ⟨⟨[_], ⟨.tmp _ _ rfl, trivial⟩, rfl⟩, trivial⟩
     ·have h := cnd_f c15 h
      refine W_skip (W_seq (W_seq (W_region mixed rfl (r_fieldAddr (.p rfl) rfl fld75_0 (r_load1 (.p rfl) rfl ag3 rfl rfl (r_bin (.p rfl) rfl rfl (bin_neq _ _ _ _ _ _) rfl (r_end ?_)))))))
      refine W_cond rfl (fun c16 => ?_) (fun c16 => ?_)
      ·have h := cnd_t c16 h
       refine W_seq (W_seq (W_region mixed rfl (r_fieldAddr (.p rfl) rfl fld75_5 (r_load1 (.p rfl) rfl ag73 rfl rfl (r_len (.p rfl) rfl (.sl _) trivial (List.length_map _) slc73 (r_bin (.p rfl) rfl rfl (bin_neq _ _ _ _ _ _) rfl (r_end ?_)))))))
       refine W_cond rfl (fun c17 => ?_) (fun c17 => ?_)
       ·have h := cnd_t c17 h
        refine W_seq (W_region mixed rfl (r_assign (.p rfl) rfl (r_end ?_)))
        obtain rfl := Option.some.inj h
        refine W_sees (sees_mkL (rn []) [(4, .e (.one (.pure (.val (.int .i64 6)))))] [] ⟨rfl, trivial⟩ trivial rfl rfl) (W_ret ?_)
        exact ⟨⟨[_], ⟨.tmp _ _ rfl, trivial⟩, rfl⟩, trivial⟩
       ·have h := cnd_f c17 h
        refine W_skip (W_seq (W_region mixed rfl (r_assign (.p rfl) rfl (r_end ?_))))
        obtain rfl := Option.some.inj h
        refine W_sees (sees_mkL (rn []) [(4, .e (.one (.pure (.val (.int .i64 0)))))] [] ⟨rfl, trivial⟩ trivial rfl rfl) (W_ret ?_)
        exact ⟨⟨[_], ⟨.tmp _ _ rfl, trivial⟩, rfl⟩, trivial⟩
      ·have h := cnd_f c16 h
       refine W_skip (W_seq (W_seq (W_region mixed rfl (r_fieldAddr (.p rfl) rfl fld75_5 (r_load1 (.p rfl) rfl ag73 rfl rfl (r_fieldAddr (.p rfl) rfl fld30_0 (r_load1 (.p rfl) rfl ag27 rfl rfl (r_fieldAddr (.p rfl) rfl fld75_1 (r_load1 (.p rfl) rfl ag3 rfl rfl ?_)))))))))
       obtain ⟨v18, a18, b18, h⟩ := idx_bind h
       refine r_index (.p rfl) rfl rfl slc27 sz3 a18 (map_get b18) rfl (r_loadr1 (.p rfl) rfl ag3 rfl (r_fieldAddr (.p rfl) rfl fld30_0 (r_load1 (.p rfl) rfl ag27 rfl rfl (r_fieldAddr (.p rfl) rfl fld75_1 (r_load1 (.p rfl) rfl ag3 rfl rfl ?_)))))
       obtain ⟨v19, a19, b19, h⟩ := idx_bind h
       refine r_index (.p rfl) rfl rfl slc27 sz3 a19 (map_get b19) rfl (r_loadr1 (.p rfl) rfl ag3 rfl ?_)
       obtain ⟨v20, a20, h⟩ := bind_some h
       refine r_call (ds0 := [_, _, _]) [] (sheaveref35_square_c N p1.fRewrite v18 v19 v20 a20) (.p rfl) gd91 rfl ⟨rfl, rfl, rfl, trivial⟩ rfl rfl rfl (nodupL_spec rfl) trivial rfl (r_un (.p rfl) rfl (un_not _) rfl ?_)
       refine r_endD (by kernel_rfl) ?_
       refine W_cond rfl (fun c21 => ?_) (fun c21 => ?_)
       ·have h := cnd_t c21 h
        refine W_seq (W_region mixed rfl (r_assign (.p rfl) rfl (r_end ?_)))
        obtain rfl := Option.some.inj h
        refine W_sees (sees_mkL (rn []) [(4, .e (.one (.pure (.val (.int .i64 6)))))] [] ⟨rfl, trivial⟩ trivial rfl rfl) (W_ret ?_)
        exact ⟨⟨[_], ⟨.tmp _ _ rfl, trivial⟩, rfl⟩, trivial⟩
       ·have h := cnd_f c21 h
        refine W_skip (W_seq (W_seq (W_region mixed rfl (r_assign (.p rfl) rfl (r_end ?_)))))
        refine W_whileE (L := Sh.sheaveref35_table_L22 N p1) h (fun v22 => mk [(3, .e (.one (.ptr 3 0))), (6, .e (.one (.pure (.val (.int .i64 v22)))))] [(3, .box [.pure (.val (.int .i64 p1.fKind)), .pure (.val (.int .i64 p1.fFrom)), .pure (.val (.int .i64 p1.fTo)), .pure (.val (.bool p1.fAware)), .pure (.sl (p1.fOK.map (eSl eB))), .pure (.sl (p1.fRewrite.map (eSl eB)))])]) (fun v23 => mk [] []) (fun _ _ => rfl) (sees_mkL (rn []) _ _ ⟨rfl, rfl, trivial⟩ ⟨rfl, trivial⟩ rfl rfl) (fun j22 n22 v22 h => ?_) (fun v23 s h hs => ?_)
        ·unfold Sh.sheaveref35_table_L22 at h
         refine W_seq (W_seq (W_region mixed rfl (r_move (.p rfl) rfl (r_fieldAddr (.p rfl) rfl fld75_5 (r_load1 (.p rfl) rfl ag73 rfl rfl (r_len (.p rfl) rfl (.sl _) trivial (List.length_map _) slc73 (r_bin (.p rfl) rfl rfl (bin_lss _ _ _ _ _ _) rfl (r_end ?_))))))))
         refine W_cond rfl (fun c24 => ?_) (fun c24 => ?_)
         ·have h := cnd_t c24 h
          refine W_skip (W_seq (W_block (W_seq (W_region mixed rfl (r_fieldAddr (.p rfl) rfl fld75_5 (r_load1 (.p rfl) rfl ag73 rfl rfl (r_move (.p rfl) rfl ?_)))))))
          obtain ⟨v25, a25, b25, h⟩ := idx_bind h
          refine r_index (.p rfl) rfl rfl slc73 sz76 a25 (map_get b25) rfl (r_loadr1 (.p rfl) rfl ag76 rfl (r_move (.p rfl) rfl ?_))
          obtain ⟨v26, a26, b26, h⟩ := idx_bind h
          refine r_index (.p rfl) rfl rfl slc76 sz4 a26 (map_get b26) rfl (r_loadr1 (.p rfl) rfl ag4 rfl (r_un (.p rfl) rfl (un_not _) rfl (r_end ?_)))
          refine W_cond rfl (fun c27 => ?_) (fun c27 => ?_)
          ·have h := cnd_t c27 h
           refine W_seq (W_region mixed rfl (r_assign (.p rfl) rfl (r_end ?_)))
           obtain rfl := Option.some.inj h
           refine W_sees (sees_mkL (rn []) [(4, .e (.one (.pure (.val (.int .i64 1)))))] [] ⟨rfl, trivial⟩ trivial rfl rfl) (W_ret ?_)
           exact ⟨⟨[_], ⟨.tmp _ _ rfl, trivial⟩, rfl⟩, trivial⟩
          ·have h := cnd_f c27 h
           refine W_skip (W_region mixed rfl (r_move (.p rfl) rfl (r_bin (.p rfl) rfl rfl (bin_add _ _ _ _ _ _) rfl (r_assign (.p rfl) rfl (r_end ?_)))))
           exact sink (IntKind.wrap .i64 (v22 + 1)) h (sees_mkL (rn []) _ _ ⟨rfl, rfl, trivial⟩ ⟨rfl, trivial⟩ rfl rfl)
         ·have h := cnd_f c24 h
          refine W_exit ?_
          exact sink () h (sees_mkL (rn []) _ _ trivial trivial rfl rfl)
        ·refine W_sees hs (W_seq (W_region mixed rfl (r_assign (.p rfl) rfl (r_end ?_))))
         obtain rfl := Option.some.inj h
         refine W_sees (sees_mkL (rn []) [(4, .e (.one (.pure (.val (.int .i64 0)))))] [] ⟨rfl, trivial⟩ trivial rfl rfl) (W_ret ?_)
         exact ⟨⟨[_], ⟨.tmp _ _ rfl, trivial⟩, rfl⟩, trivial⟩
set_option maxRecDepth 10000 in
theorem sheaveref35_ValidProblem_c (N : Nat) (p0 : ApiProblem) (r : Int) (h : Sh.sheaveref35_ValidProblem N p0 = some r) : Contract Try.prog 33 [.e (.agg [.pure (.sl (p0.fVersions.map eI64)), .pure (.sl (p0.fNow.map eI64)), .pure (.sl (p0.fTarget.map eI64)), .pure (.sl (p0.fTables.map eApiTable))])] [] (.e (.one (.pure (.val (.int .i64 r))))) := by
 unfold Sh.sheaveref35_ValidProblem at h
 refine contract_of_W (n := 102) (rs := [.tmp 2]) Try.func33 rfl rfl rfl (leb rfl) (leb rfl) rfl fun w0 S0 => ?_
 refine W_seq (W_region mixed rfl (r_box (.p rfl) rfl rfl (r_assign (.p rfl) rfl (r_end (W_seq ?_)))))
 refine W_join h (fun v1 => mk [(1, .e (.one (.ptr 1 0))), (16, .e (.one (.pure (.val (.bool v1)))))] [(1, .box [.pure (.sl (p0.fVersions.map eI64)), .pure (.sl (p0.fNow.map eI64)), .pure (.sl (p0.fTarget.map eI64)), .pure (.sl (p0.fTables.map eApiTable))])]) (fun j1 h => ?_) (fun v1 h => ?_)
 ·refine W_region mixed rfl (r_fieldAddr (.p rfl) rfl fld30_0 (r_load1 (.p rfl) rfl ag27 rfl rfl (r_len (.p rfl) rfl (.sl _) trivial (List.length_map _) slc27 (r_bin (.p rfl) rfl rfl (bin_gtr _ _ _ _ _ _) rfl (r_move (.p rfl) rfl ?_)))))
  refine r_split (t := 11) rfl (fun c2 => ?_) (fun c2 => ?_)
  ·have h := cnd_t c2 h
   refine r_notB rfl rfl (r_notB rfl rfl (r_notB rfl rfl (r_notB rfl rfl (r_pick (.p rfl) rfl rfl rfl (r_end ?_)))))
   exact sink true h (sees_mkL (rn []) _ _ ⟨rfl, rfl, trivial⟩ ⟨rfl, trivial⟩ rfl rfl)
  ·have h := cnd_f c2 h
   refine r_fieldAddr (.g rfl rfl) rfl fld30_3 (r_load1 (.g rfl rfl) rfl ag28 rfl rfl (r_len (.g rfl rfl) rfl (.sl _) trivial (List.length_map _) slc28 (r_bin (.g rfl rfl) rfl rfl (bin_gtr _ _ _ _ _ _) rfl (r_pick (.p rfl) rfl rfl rfl (r_end ?_)))))
   exact sink (decide (12 < (p0.fTables.length : Int))) h (sees_mkL (rn []) _ _ ⟨rfl, rfl, trivial⟩ ⟨rfl, trivial⟩ rfl rfl)
 ·refine W_cond rfl (fun c3 => ?_) (fun c3 => ?_)
  ·have h := cnd_t c3 h
   refine W_seq (W_region mixed rfl (r_assign (.p rfl) rfl (r_end ?_)))
   obtain rfl := Option.some.inj h
   refine W_sees (sees_mkL (rn []) [(2, .e (.one (.pure (.val (.int .i64 3)))))] [] ⟨rfl, trivial⟩ trivial rfl rfl) (W_ret ?_)
   exact ⟨⟨[_], ⟨.tmp _ _ rfl, trivial⟩, rfl⟩, trivial⟩
  ·have h := cnd_f c3 h
   refine W_skip (W_seq ?_)
   refine W_join h (fun v4 => mk [(1, .e (.one (.ptr 1 0))), (32, .e (.one (.pure (.val (.bool v4)))))] [(1, .box [.pure (.sl (p0.fVersions.map eI64)), .pure (.sl (p0.fNow.map eI64)), .pure (.sl (p0.fTarget.map eI64)), .pure (.sl (p0.fTables.map eApiTable))])]) (fun j4 h => ?_) (fun v4 h => ?_)
   ·refine W_region mixed rfl (r_fieldAddr (.p rfl) rfl fld30_1 (r_load1 (.p rfl) rfl ag27 rfl rfl (r_len (.p rfl) rfl (.sl _) trivial (List.length_map _) slc27 (r_fieldAddr (.p rfl) rfl fld30_0 (r_load1 (.p rfl) rfl ag27 rfl rfl (r_len (.p rfl) rfl (.sl _) trivial (List.length_map _) slc27 (r_bin (.p rfl) rfl rfl (bin_neq _ _ _ _ _ _) rfl (r_move (.p rfl) rfl ?_))))))))
    refine r_split (t := 24) rfl (fun c5 => ?_) (fun c5 => ?_)
    ·have h := cnd_t c5 h
     refine r_notB rfl rfl (r_notB rfl rfl (r_notB rfl rfl (r_notB rfl rfl (r_notB rfl rfl (r_notB rfl rfl (r_notB rfl rfl (r_pick (.p rfl) rfl rfl rfl (r_end ?_))))))))
     exact sink true h (sees_mkL (rn []) _ _ ⟨rfl, rfl, trivial⟩ ⟨rfl, trivial⟩ rfl rfl)
    ·have h := cnd_f c5 h
     refine r_fieldAddr (.g rfl rfl) rfl fld30_2 (r_load1 (.g rfl rfl) rfl ag27 rfl rfl (r_len (.g rfl rfl) rfl (.sl _) trivial (List.length_map _) slc27 (r_fieldAddr (.g rfl rfl) rfl fld30_0 (r_load1 (.g rfl rfl) rfl ag27 rfl rfl (r_len (.g rfl rfl) rfl (.sl _) trivial (List.length_map _) slc27 (r_bin (.g rfl rfl) rfl rfl (bin_neq _ _ _ _ _ _) rfl (r_pick (.p rfl) rfl rfl rfl (r_end ?_))))))))
     exact sink ((p0.fTarget.length : Int) != (p0.fVersions.length : Int)) h (sees_mkL (rn []) _ _ ⟨rfl, rfl, trivial⟩ ⟨rfl, trivial⟩ rfl rfl)
   ·refine W_cond rfl (fun c6 => ?_) (fun c6 => ?_)
    ·have h := cnd_t c6 h
     refine W_seq (W_region mixed rfl (r_assign (.p rfl) rfl (r_end ?_)))
     obtain rfl := Option.some.inj h
     refine W_sees (sees_mkL (rn []) [(2, .e (.one (.pure (.val (.int .i64 6)))))] [] ⟨rfl, trivial⟩ trivial rfl rfl) (W_ret ?_)
     exact ⟨⟨[_], ⟨.tmp _ _ rfl, trivial⟩, rfl⟩, trivial⟩
    ·have h := cnd_f c6 h
     refine W_skip (W_seq (W_seq (W_region mixed rfl (r_assign (.p rfl) rfl (r_end ?_)))))
     refine W_whileE (L := Sh.sheaveref35_ValidProblem_L7 N p0) h (fun v7 => mk [(1, .e (.one (.ptr 1 0))), (3, .e (.one (.pure (.val (.int .i64 v7)))))] [(1, .box [.pure (.sl (p0.fVersions.map eI64)), .pure (.sl (p0.fNow.map eI64)), .pure (.sl (p0.fTarget.map eI64)), .pure (.sl (p0.fTables.map eApiTable))])]) (fun v8 => mk [(1, .e (.one (.ptr 1 0)))] [(1, .box [.pure (.sl (p0.fVersions.map eI64)), .pure (.sl (p0.fNow.map eI64)), .pure (.sl (p0.fTarget.map eI64)), .pure (.sl (p0.fTables.map eApiTable))])]) (fun _ _ => rfl) (sees_mkL (rn []) _ _ ⟨rfl, rfl, trivial⟩ ⟨rfl, trivial⟩ rfl rfl) (fun j7 n7 v7 h => ?_) (fun v8 s h hs => ?_)
     ·unfold Sh.sheaveref35_ValidProblem_L7 at h
      refine W_seq (W_seq (W_region mixed rfl (r_move (.p rfl) rfl (r_fieldAddr (.p rfl) rfl fld30_0 (r_load1 (.p rfl) rfl ag27 rfl rfl (r_len (.p rfl) rfl (.sl _) trivial (List.length_map _) slc27 (r_bin (.p rfl) rfl rfl (bin_lss _ _ _ _ _ _) rfl (r_end ?_))))))))
      refine W_cond rfl (fun c9 => ?_) (fun c9 => ?_)
      ·have h := cnd_t c9 h
       refine W_skip (W_seq (W_block (W_seq (W_region mixed rfl (r_fieldAddr (.p rfl) rfl fld30_0 (r_load1 (.p rfl) rfl ag27 rfl rfl (r_move (.p rfl) rfl ?_)))))))
       obtain ⟨v10, a10, b10, h⟩ := idx_bind h
       refine r_index (.p rfl) rfl rfl slc27 sz3 a10 (map_get b10) rfl (r_loadr1 (.p rfl) rfl ag3 rfl (r_assign (.p rfl) rfl (r_end ?_)))
       refine W_join h (fun v11 => mk [(1, .e (.one (.ptr 1 0))), (3, .e (.one (.pure (.val (.int .i64 v7))))), (84, .e (.one (.pure (.val (.bool v11)))))] [(1, .box [.pure (.sl (p0.fVersions.map eI64)), .pure (.sl (p0.fNow.map eI64)), .pure (.sl (p0.fTarget.map eI64)), .pure (.sl (p0.fTables.map eApiTable))])]) (fun j11 h => ?_) (fun v11 h => ?_)
       ·refine W_region mixed rfl (r_move (.p rfl) rfl (r_bin (.p rfl) rfl rfl (bin_lss _ _ _ _ _ _) rfl (r_move (.p rfl) rfl ?_)))
        refine r_split (t := 47) rfl (fun c12 => ?_) (fun c12 => ?_)
        ·have h := cnd_t c12 h
         refine r_notB rfl rfl (r_notB rfl rfl (r_pick (.p rfl) rfl rfl rfl (r_move (.p rfl) rfl (r_notB rfl rfl (r_notB rfl rfl (r_notB rfl rfl (r_notB rfl rfl (r_notB rfl rfl (r_notB rfl rfl (r_pick (.p rfl) rfl rfl rfl (r_move (.p rfl) rfl (r_notB rfl rfl (r_notB rfl rfl (r_notB rfl rfl (r_notB rfl rfl (r_notB rfl rfl (r_notB rfl rfl (r_notB rfl rfl (r_pick (.p rfl) rfl rfl rfl (r_move (.p rfl) rfl (r_notB rfl rfl (r_notB rfl rfl (r_notB rfl rfl (r_notB rfl rfl (r_notB rfl rfl (r_notB rfl rfl (r_pick (.p rfl) rfl rfl rfl (r_move (.p rfl) rfl (r_notB rfl rfl ?_)))))))))))))))))))))))))))))
         refine r_notB rfl rfl (r_notB rfl rfl (r_notB rfl rfl (r_notB rfl rfl (r_notB rfl rfl (r_notB rfl rfl (r_pick (.p rfl) rfl rfl rfl (r_end ?_)))))))
         exact sink true h (sees_mkL (rn []) _ _ ⟨rfl, rfl, rfl, trivial⟩ ⟨rfl, trivial⟩ rfl rfl)
        ·have h := cnd_f c12 h
         refine r_move (.g rfl rfl) rfl (r_bin (.g rfl rfl) rfl rfl (bin_gtr _ _ _ _ _ _) rfl (r_pick (.p rfl) rfl rfl rfl (r_move (.p rfl) rfl ?_)))
         refine r_split (t := 51) rfl (fun c13 => ?_) (fun c13 => ?_)
         ·have h := cnd_t c13 h
          refine r_notB rfl rfl (r_notB rfl rfl (r_notB rfl rfl (r_notB rfl rfl (r_notB rfl rfl (r_notB rfl rfl (r_pick (.p rfl) rfl rfl rfl (r_move (.p rfl) rfl (r_notB rfl rfl (r_notB rfl rfl (r_notB rfl rfl (r_notB rfl rfl (r_notB rfl rfl (r_notB rfl rfl (r_notB rfl rfl (r_pick (.p rfl) rfl rfl rfl (r_move (.p rfl) rfl (r_notB rfl rfl (r_notB rfl rfl (r_notB rfl rfl (r_notB rfl rfl (r_notB rfl rfl (r_notB rfl rfl (r_pick (.p rfl) rfl rfl rfl (r_move (.p rfl) rfl (r_notB rfl rfl (r_notB rfl rfl (r_notB rfl rfl (r_notB rfl rfl (r_notB rfl rfl ?_)))))))))))))))))))))))))))))
          refine r_notB rfl rfl (r_notB rfl rfl (r_pick (.p rfl) rfl rfl rfl (r_end ?_)))
          exact sink true h (sees_mkL (rn []) _ _ ⟨rfl, rfl, rfl, trivial⟩ ⟨rfl, trivial⟩ rfl rfl)
         ·have h := cnd_f c13 h
          refine r_fieldAddr (.g rfl rfl) rfl fld30_1 (r_load1 (.g rfl rfl) rfl ag27 rfl rfl (r_move (.g rfl rfl) rfl ?_))
          obtain ⟨v14, a14, b14, h⟩ := idx_bind h
          refine r_index (.g rfl rfl) rfl rfl slc27 sz3 a14 (map_get b14) rfl (r_loadr1 (.g rfl rfl) rfl ag3 rfl (r_bin (.g rfl rfl) rfl rfl (bin_lss _ _ _ _ _ _) rfl (r_pick (.p rfl) rfl rfl rfl (r_move (.p rfl) rfl ?_))))
          refine r_split (t := 59) rfl (fun c15 => ?_) (fun c15 => ?_)
          ·have h := cnd_t c15 h
           refine r_notB rfl rfl (r_notB rfl rfl (r_notB rfl rfl (r_notB rfl rfl (r_notB rfl rfl (r_notB rfl rfl (r_notB rfl rfl (r_pick (.p rfl) rfl rfl rfl (r_move (.p rfl) rfl (r_notB rfl rfl (r_notB rfl rfl (r_notB rfl rfl (r_notB rfl rfl (r_notB rfl rfl (r_notB rfl rfl (r_pick (.p rfl) rfl rfl rfl (r_move (.p rfl) rfl (r_notB rfl rfl (r_notB rfl rfl (r_notB rfl rfl (r_notB rfl rfl (r_notB rfl rfl (r_notB rfl rfl (r_notB rfl rfl (r_pick (.p rfl) rfl rfl rfl (r_end ?_)))))))))))))))))))))))))
           exact sink true h (sees_mkL (rn []) _ _ ⟨rfl, rfl, rfl, trivial⟩ ⟨rfl, trivial⟩ rfl rfl)
          ·have h := cnd_f c15 h
           refine r_fieldAddr (.g rfl rfl) rfl fld30_1 (r_load1 (.g rfl rfl) rfl ag27 rfl rfl (r_move (.g rfl rfl) rfl ?_))
           obtain ⟨v16, a16, b16, h⟩ := idx_bind h
           refine r_index (.g rfl rfl) rfl rfl slc27 sz3 a16 (map_get b16) rfl (r_loadr1 (.g rfl rfl) rfl ag3 rfl (r_move (.g rfl rfl) rfl (r_bin (.g rfl rfl) rfl rfl (bin_geq _ _ _ _ _ _) rfl (r_pick (.p rfl) rfl rfl rfl (r_move (.p rfl) rfl ?_)))))
           refine r_split (t := 68) rfl (fun c17 => ?_) (fun c17 => ?_)
           ·have h := cnd_t c17 h
            refine r_notB rfl rfl (r_notB rfl rfl (r_notB rfl rfl (r_notB rfl rfl (r_notB rfl rfl (r_notB rfl rfl (r_pick (.p rfl) rfl rfl rfl (r_move (.p rfl) rfl (r_notB rfl rfl (r_notB rfl rfl (r_notB rfl rfl (r_notB rfl rfl (r_notB rfl rfl (r_notB rfl rfl (r_notB rfl rfl (r_pick (.p rfl) rfl rfl rfl (r_end ?_))))))))))))))))
            exact sink true h (sees_mkL (rn []) _ _ ⟨rfl, rfl, rfl, trivial⟩ ⟨rfl, trivial⟩ rfl rfl)
           ·have h := cnd_f c17 h
            refine r_fieldAddr (.g rfl rfl) rfl fld30_2 (r_load1 (.g rfl rfl) rfl ag27 rfl rfl (r_move (.g rfl rfl) rfl ?_))
            obtain ⟨v18, a18, b18, h⟩ := idx_bind h
            refine r_index (.g rfl rfl) rfl rfl slc27 sz3 a18 (map_get b18) rfl (r_loadr1 (.g rfl rfl) rfl ag3 rfl (r_bin (.g rfl rfl) rfl rfl (bin_lss _ _ _ _ _ _) rfl (r_pick (.p rfl) rfl rfl rfl (r_move (.p rfl) rfl ?_))))
            refine r_split (t := 76) rfl (fun c19 => ?_) (fun c19 => ?_)
            ·have h := cnd_t c19 h
             refine r_notB rfl rfl (r_notB rfl rfl (r_notB rfl rfl (r_notB rfl rfl (r_notB rfl rfl (r_notB rfl rfl (r_notB rfl rfl (r_pick (.p rfl) rfl rfl rfl (r_end ?_))))))))
             exact sink true h (sees_mkL (rn []) _ _ ⟨rfl, rfl, rfl, trivial⟩ ⟨rfl, trivial⟩ rfl rfl)
            ·have h := cnd_f c19 h
             refine r_fieldAddr (.g rfl rfl) rfl fld30_2 (r_load1 (.g rfl rfl) rfl ag27 rfl rfl (r_move (.g rfl rfl) rfl ?_))
             obtain ⟨v20, a20, b20, h⟩ := idx_bind h
             refine r_index (.g rfl rfl) rfl rfl slc27 sz3 a20 (map_get b20) rfl (r_loadr1 (.g rfl rfl) rfl ag3 rfl (r_move (.g rfl rfl) rfl (r_bin (.g rfl rfl) rfl rfl (bin_geq _ _ _ _ _ _) rfl (r_pick (.p rfl) rfl rfl rfl (r_end ?_)))))
             exact sink (decide (v10 ≤ v20)) h (sees_mkL (rn []) _ _ ⟨rfl, rfl, rfl, trivial⟩ ⟨rfl, trivial⟩ rfl rfl)
       ·refine W_cond rfl (fun c21 => ?_) (fun c21 => ?_)
        ·have h := cnd_t c21 h
         refine W_seq (W_region mixed rfl (r_assign (.p rfl) rfl (r_end ?_)))
         obtain rfl := Option.some.inj h
         refine W_sees (sees_mkL (rn []) [(2, .e (.one (.pure (.val (.int .i64 7)))))] [] ⟨rfl, trivial⟩ trivial rfl rfl) (W_ret ?_)
         exact ⟨⟨[_], ⟨.tmp _ _ rfl, trivial⟩, rfl⟩, trivial⟩
        ·have h := cnd_f c21 h
         refine W_skip (W_region mixed rfl (r_move (.p rfl) rfl (r_bin (.p rfl) rfl rfl (bin_add _ _ _ _ _ _) rfl (r_assign (.p rfl) rfl (r_end ?_)))))
         exact sink (IntKind.wrap .i64 (v7 + 1)) h (sees_mkL (rn []) _ _ ⟨rfl, rfl, trivial⟩ ⟨rfl, trivial⟩ rfl rfl)
      ·have h := cnd_f c9 h
       refine W_exit ?_
       exact sink () h (sees_mkL (rn []) _ _ ⟨rfl, trivial⟩ ⟨rfl, trivial⟩ rfl rfl)
     ·refine W_sees hs (W_seq (W_seq (W_region mixed rfl (r_assign (.p rfl) rfl (r_end ?_)))))
      refine W_whileE (L := Sh.sheaveref35_ValidProblem_L22 N p0) h (fun v22 => mk [(1, .e (.one (.ptr 1 0))), (5, .e (.one (.pure (.val (.int .i64 v22)))))] [(1, .box [.pure (.sl (p0.fVersions.map eI64)), .pure (.sl (p0.fNow.map eI64)), .pure (.sl (p0.fTarget.map eI64)), .pure (.sl (p0.fTables.map eApiTable))])]) (fun v23 => mk [] []) (fun _ _ => rfl) (sees_mkL (rn []) _ _ ⟨rfl, rfl, trivial⟩ ⟨rfl, trivial⟩ rfl rfl) (fun j22 n22 v22 h => ?_) (fun v23 s h hs => ?_)
      ·unfold Sh.sheaveref35_ValidProblem_L22 at h
       refine W_seq (W_seq (W_region mixed rfl (r_move (.p rfl) rfl (r_fieldAddr (.p rfl) rfl fld30_3 (r_load1 (.p rfl) rfl ag28 rfl rfl (r_len (.p rfl) rfl (.sl _) trivial (List.length_map _) slc28 (r_bin (.p rfl) rfl rfl (bin_lss _ _ _ _ _ _) rfl (r_end ?_))))))))
       refine W_cond rfl (fun c24 => ?_) (fun c24 => ?_)
       ·have h := cnd_t c24 h
        refine W_skip (W_seq (W_block (W_seq (W_region mixed rfl (r_loadN (.p rfl) rfl ag30 sz30 rfl rfl rfl (r_fieldAddr (.p rfl) rfl fld30_3 (r_load1 (.p rfl) rfl ag28 rfl rfl (r_move (.p rfl) rfl ?_))))))))
        obtain ⟨v25, a25, b25, h⟩ := idx_bind h
        refine r_index (.p rfl) rfl rfl slc28 sz75 a25 (map_get b25) rfl (r_loadrN (.p rfl) rfl ag75 sz75 rfl rfl ?_)
        obtain ⟨v26, a26, h⟩ := bind_some h
        refine r_call (ds0 := [_, _]) [] (sheaveref35_table_c N p0 v25 v26 a26) (.p rfl) gd64 rfl ⟨rfl, rfl, trivial⟩ rfl rfl rfl (nodupL_spec rfl) trivial rfl (r_assign (.p rfl) rfl ?_)
        refine r_endD (by kernel_rfl) ?_
        refine W_seq (W_region mixed rfl (r_move (.p rfl) rfl (r_bin (.p rfl) rfl rfl (bin_neq _ _ _ _ _ _) rfl (r_end ?_))))
        refine W_cond rfl (fun c27 => ?_) (fun c27 => ?_)
        ·have h := cnd_t c27 h
         refine W_seq (W_region mixed rfl (r_move (.p rfl) rfl (r_assign (.p rfl) rfl (r_end ?_))))
         obtain rfl := Option.some.inj h
         refine W_sees (sees_mkL (rn []) [(2, .e (.one (.pure (.val (.int .i64 v26)))))] [] ⟨rfl, trivial⟩ trivial rfl rfl) (W_ret ?_)
         exact ⟨⟨[_], ⟨.tmp _ _ rfl, trivial⟩, rfl⟩, trivial⟩
        ·have h := cnd_f c27 h
         refine W_skip (W_region mixed rfl (r_move (.p rfl) rfl (r_bin (.p rfl) rfl rfl (bin_add _ _ _ _ _ _) rfl (r_assign (.p rfl) rfl (r_end ?_)))))
         exact sink (IntKind.wrap .i64 (v22 + 1)) h (sees_mkL (rn []) _ _ ⟨rfl, rfl, trivial⟩ ⟨rfl, trivial⟩ rfl rfl)
       ·have h := cnd_f c24 h
        refine W_exit ?_
        exact sink () h (sees_mkL (rn []) _ _ trivial trivial rfl rfl)
      ·refine W_sees hs (W_seq (W_region mixed rfl (r_assign (.p rfl) rfl (r_end ?_))))
       obtain rfl := Option.some.inj h
       refine W_sees (sees_mkL (rn []) [(2, .e (.one (.pure (.val (.int .i64 0)))))] [] ⟨rfl, trivial⟩ trivial rfl rfl) (W_ret ?_)
       exact ⟨⟨[_], ⟨.tmp _ _ rfl, trivial⟩, rfl⟩, trivial⟩
end Go.Lift

