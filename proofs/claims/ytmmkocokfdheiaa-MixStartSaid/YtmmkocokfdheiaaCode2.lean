/- Lemmas for MixStartSaid, which YtmmkocokfdheiaaFin10 proves. -/
/- That the code does what the shallow programs do, function by function. Written by a program (gen.py). -/
import Derived.Test.YtmmkocokfdheiaaCode1
namespace Go.Lift
open Go.RowKit
open Go.Proofs
set_option maxRecDepth 10000 in
theorem slices_Repeat_int_int_c (N : Nat) (p0 : List Int) (p1 : Int) (r : (List Int)) (h : Sh.slices_Repeat_int_int N p0 p1 = some r) : Contract Try.prog 63 [.e (.one (.pure (.sl (p0.map eI64)))), .e (.one (.pure (.val (.int .i64 p1))))] [(1, r.map eI64)] (.e (.one (.own 0))) := by
  unfold Sh.slices_Repeat_int_int at h
  refine contract_of_W (n := 48) (rs := [.tmp 4]) Try.func63 rfl rfl rfl (leb rfl) (leb rfl) rfl fun w0 S0 => ?_
  refine W_seq ?_
  refine W_region mixed rfl ?_
  refine r_assign (.p rfl) rfl ?_
  refine r_end ?_
  refine W_join h (fun v1 => mk [(0, .e (.one (.pure (.sl (p0.map eI64))))), (1, .e (.one (.pure (.val (.int .i64 p1)))))] []) (fun j1 h => ?_) (fun v1 h => ?_)
  · refine W_seq ?_
    refine W_region mixed rfl ?_
    refine r_move (.p rfl) rfl ?_
    refine r_bin (.p rfl) rfl rfl (bin_lss _ _ _ _ _ _) rfl ?_
    refine r_end ?_
    refine W_cond rfl (fun c2 => ?_) (fun c2 => ?_)
    · have h := cnd_t c2 h
      refine W_region mixed rfl ?_
      cases h
    · have h := cnd_f c2 h
      refine W_skip ?_
      exact sink () h (sees_mkL (rn []) _ _ ⟨rfl, rfl, trivial⟩ trivial rfl rfl)
  · refine W_seq ?_
    refine W_region mixed rfl ?_
    refine r_move (.p rfl) rfl ?_
    refine r_len (.p rfl) rfl (.sl _) trivial (List.length_map _) slc28 ?_
    refine r_conv (.p rfl) rfl (conv_int so3 in103 _ _) rfl ?_
    refine r_move (.p rfl) rfl ?_
    refine r_conv (.p rfl) rfl (conv_int so3 in103 _ _) rfl ?_
    obtain ⟨v3, a3, h⟩ := bind_some h
    refine r_call (ds0 := [_, _]) [] (math_bits_Mul_c N ((IntKind.wrap .u64 ((p0.length : Int)))) ((IntKind.wrap .u64 p1)) v3 a3) (.p rfl) gd71 rfl ⟨rfl, rfl, trivial⟩ rfl rfl rfl (nodupL_spec rfl) trivial rfl ?_
    refine r_move (.p rfl) rfl ?_
    refine r_extract (.p rfl) rfl rfl ?_
    refine r_extract (.p rfl) rfl rfl ?_
    refine r_assign (.p rfl) rfl ?_
    refine r_assign (.p rfl) rfl ?_
    refine r_end ?_
    refine W_join h (fun v4 => mk [(0, .e (.one (.pure (.sl (p0.map eI64))))), (6, .e (.one (.pure (.val (.int .u64 v3.2)))))] []) (fun j4 h => ?_) (fun v4 h => ?_)
    · refine W_join h (fun v5 => mk [(0, .e (.one (.pure (.sl (p0.map eI64))))), (6, .e (.one (.pure (.val (.int .u64 v3.2))))), (26, .e (.one (.pure (.val (.bool v5)))))] []) (fun j5 h => ?_) (fun v5 h => ?_)
      · refine W_region mixed rfl ?_
        refine r_move (.p rfl) rfl ?_
        refine r_bin (.p rfl) rfl rfl (bin_gtr _ _ _ _ _ _) rfl ?_
        refine r_move (.p rfl) rfl ?_
        refine r_split (t := 23) rfl (fun c6 => ?_) (fun c6 => ?_)
        · have h := cnd_t c6 h
          refine r_notB rfl rfl ?_
          refine r_notB rfl rfl ?_
          refine r_pick (.p rfl) rfl rfl rfl ?_
          refine r_end ?_
          exact sink true h (sees_mkL (rn []) _ _ ⟨rfl, rfl, rfl, trivial⟩ trivial rfl rfl)
        · have h := cnd_f c6 h
          refine r_move (.g rfl rfl) rfl ?_
          refine r_bin (.g rfl rfl) rfl rfl (bin_gtr _ _ _ _ _ _) rfl ?_
          refine r_pick (.p rfl) rfl rfl rfl ?_
          refine r_end ?_
          exact sink (decide (9223372036854775807 < v3.2)) h (sees_mkL (rn []) _ _ ⟨rfl, rfl, rfl, trivial⟩ trivial rfl rfl)
      · refine W_cond rfl (fun c7 => ?_) (fun c7 => ?_)
        · have h := cnd_t c7 h
          refine W_region mixed rfl ?_
          cases h
        · have h := cnd_f c7 h
          refine W_skip ?_
          exact sink () h (sees_mkL (rn []) _ _ ⟨rfl, rfl, trivial⟩ trivial rfl rfl)
    · refine W_seq ?_
      refine W_region mixed rfl ?_
      refine r_move (.p rfl) rfl ?_
      refine r_conv (.p rfl) rfl (conv_int so103 in3 _ _) rfl ?_
      obtain ⟨c8, h⟩ := chk_bind h
      refine r_makeSlice (.p rfl) rfl rfl rfl slc28 sz3 byt3 (leb rfl) zv3 rfl rfl rfl c8.1 c8.2.1 c8.2.2 (map_rep eI64 _ ((0 : Int))) ?_
      refine r_assign (.p rfl) rfl ?_
      refine r_end ?_
      refine W_seq ?_
      refine W_region mixed rfl ?_
      refine r_move (.p rfl) rfl ?_
      refine r_move (.p rfl) rfl ?_
      refine rt_copy eI64 (List.replicate ((IntKind.wrap .i64 v3.2)).toNat ((0 : Int))) p0 (.p rfl) rfl (dstV_own eI64 _ _ (List.replicate ((IntKind.wrap .i64 v3.2)).toNat ((0 : Int)))) rfl rfl (srcW_sl eI64 _ _ (fun _ => rfl)) trivial slc28 sz3 ?_
      refine r_assign (.p rfl) rfl ?_
      refine r_end ?_
      refine W_seq ?_
      refine W_whileE (L := Sh.slices_Repeat_int_int_L9 N) h (fun v9 => mk [(7, .e (.one (.own 2001))), (8, .e (.one (.pure (.val (.int .i64 v9.2)))))] [(2001, .vec 1 (v9.1.map eI64))]) (fun v10 => mk [(7, .e (.one (.own 2002)))] [(2002, .vec 1 (v10.map eI64))]) (fun _ _ => rfl) (sees_mkL (rn [(2001, 30)]) _ _ ⟨rfl, rfl, trivial⟩ ⟨rfl, trivial⟩ rfl rfl) (fun j9 n9 v9 h => ?_) (fun v10 s h hs => ?_)
      · unfold Sh.slices_Repeat_int_int_L9 at h
        refine W_seq ?_
        refine W_seq ?_
        refine W_region mixed rfl ?_
        refine r_move (.p rfl) rfl ?_
        refine r_move (.p rfl) rfl ?_
        refine r_len (.p rfl) rfl (.own _ _ _) ⟨rfl, trivial⟩ (List.length_map _) slc28 ?_
        refine r_bin (.p rfl) rfl rfl (bin_lss _ _ _ _ _ _) rfl ?_
        refine r_end ?_
        refine W_cond rfl (fun c11 => ?_) (fun c11 => ?_)
        · have h := cnd_t c11 h
          refine W_skip ?_
          refine W_block ?_
          refine W_region mixed rfl ?_
          refine r_move (.p rfl) rfl ?_
          refine r_move (.p rfl) rfl ?_
          refine r_move (.p rfl) rfl ?_
          obtain ⟨c12, h⟩ := chk_bind h
          have w13 : ((v9.2).toNat) + ((v9.1.length - (v9.2).toNat)) ≤ v9.1.length := by have := c12.2.1; have := c12.2.2; omega
          refine rt_slice eI64 v9.1 (.p rfl) rfl (dstV_own eI64 _ _ v9.1) rfl slc28 sz3 (.some _ _ _ _ c12.1) (.none _) ⟨rfl, trivial⟩ trivial c12.2.1 (by rw [Nat.zero_add]; exact c12.2.2) (Nat.zero_add _) rfl ?_
          refine r_move (.p rfl) rfl ?_
          refine r_move (.p rfl) rfl ?_
          obtain ⟨c14, h⟩ := chk_bind h
          have w15 : 0 + ((v9.2).toNat) ≤ v9.1.length := by have := c14.2.1; have := c14.2.2; omega
          refine rt_slice eI64 v9.1 (.p rfl) rfl (dstV_own eI64 _ _ v9.1) rfl slc28 sz3 (.none _) (.some _ _ _ _ c14.1) trivial ⟨rfl, trivial⟩ c14.2.1 (by rw [Nat.zero_add]; exact c14.2.2) (Nat.zero_add _) rfl ?_
          refine rt_copy eI64 v9.1 (((v9.1.drop 0).take ((v9.2).toNat))) (.p rfl) rfl (dstV_view eI64 _ _ ((v9.2).toNat) ((v9.1.length - (v9.2).toNat)) v9.1 w13) rfl rfl (srcW_view eI64 _ _ 0 ((v9.2).toNat) v9.1 w15) ⟨rfl, trivial⟩ slc28 sz3 ?_
          refine r_bin (.p rfl) rfl rfl (bin_add _ _ _ _ _ _) rfl ?_
          refine r_assign (.p rfl) rfl ?_
          refine r_endD (by kernel_rfl) ?_
          exact sink (spl v9.1 ((v9.2).toNat) ((((v9.1.drop 0).take ((v9.2).toNat))).take (Nat.min (((v9.1.drop 0).take ((v9.2).toNat))).length ((v9.1.length - (v9.2).toNat)))), (IntKind.wrap .i64 (v9.2 + (((Nat.min (((v9.1.drop 0).take ((v9.2).toNat))).length ((v9.1.length - (v9.2).toNat))) : Nat) : Int)))) h (sees_mkL (rn []) _ _ ⟨rfl, rfl, trivial⟩ ⟨rfl, trivial⟩ rfl rfl)
        · have h := cnd_f c11 h
          refine W_exit ?_
          exact sink v9.1 h (sees_mkL (rn [(2002, 2001)]) _ _ ⟨rfl, trivial⟩ ⟨rfl, trivial⟩ rfl rfl)
      · refine W_sees hs ?_
        refine W_seq ?_
        refine W_region mixed rfl ?_
        refine r_move (.p rfl) rfl ?_
        refine r_assign (.p rfl) rfl ?_
        refine r_end ?_
        obtain rfl := Option.some.inj h
        refine W_sees (sees_mkL (rn [(1000, 2002)]) [(4, .e (.one (.own 1000)))] [(1000, .vec 1 (v10.map eI64))] ⟨rfl, trivial⟩ ⟨rfl, trivial⟩ rfl rfl) (W_ret ?_)
        exact ⟨⟨[_], ⟨.tmp _ _ rfl, trivial⟩, rfl⟩, ⟨rfl, trivial⟩⟩
set_option maxRecDepth 10000 in
theorem mix_Start_c (N : Nat) (p0 : ApiProblem) (r : ApiMix × Int) (h : Sh.mix_Start N p0 = some r) : Contract Try.prog 35 [.e (.agg [.pure (.sl (p0.fVersions.map eI64)), .pure (.sl (p0.fNow.map eI64)), .pure (.sl (p0.fTarget.map eI64)), .pure (.sl (p0.fTables.map eApiTable))])] [(1, r.1.fBase.map eI64), (1, r.1.fNext.map eI64), (1, r.1.fHeld.map eU8)] (.tup [.agg [.own 0, .own 1, .own 2], .one (.pure (.val (.int .i64 r.2)))]) := by
  unfold Sh.mix_Start at h
  refine contract_of_W (n := 50) (rs := [.cell 2 37, .tmp 3]) Try.func35 rfl rfl rfl (leb rfl) (leb rfl) rfl fun w0 S0 => ?_
  refine W_seq ?_
  refine W_region mixed rfl ?_
  refine r_box (.p rfl) rfl rfl ?_
  refine r_alloc (.p rfl) zv37 rfl rfl rfl ?_
  refine r_assign (.p rfl) rfl ?_
  refine r_end ?_
  refine W_seq ?_
  refine W_seq ?_
  refine W_region mixed rfl ?_
  refine r_loadN (.p rfl) rfl ag31 sz31 rfl rfl rfl ?_
  obtain ⟨v1, a1, h⟩ := bind_some h
  refine r_call (ds0 := [_]) [] (fleet_ValidProblem_c N p0 v1 a1) (.p rfl) gd52 rfl ⟨rfl, trivial⟩ rfl rfl rfl (nodupL_spec rfl) trivial rfl ?_
  refine r_assign (.p rfl) rfl ?_
  refine r_end ?_
  refine W_seq ?_
  refine W_region mixed rfl ?_
  refine r_move (.p rfl) rfl ?_
  refine r_bin (.p rfl) rfl rfl (bin_neq _ _ _ _ _ _) rfl ?_
  refine r_end ?_
  refine W_cond rfl (fun c2 => ?_) (fun c2 => ?_)
  · have h := cnd_t c2 h
    refine W_seq ?_
    refine W_region mixed rfl ?_
    refine r_build [] (.p rfl) rfl trivial zv37 rfl rfl pl37 rfl ?_
    refine r_move (.p rfl) rfl ?_
    refine r_store rfl rfl rfl rfl sz37 rfl (leb rfl) rfl ?_
    refine r_assign (.p rfl) rfl ?_
    refine r_end ?_
    obtain rfl := Option.some.inj h
    refine W_sees ((sees_adoptB 2 0 2001 1 _ rfl rfl rfl rfl).trans ((sees_adoptB 2 1 2002 1 _ rfl rfl rfl rfl).trans ((sees_adoptB 2 2 2003 1 _ rfl rfl rfl rfl).trans (sees_mkL (rn [(1000, 2001), (1001, 2002), (1002, 2003)]) [(2, .e (.one (.ptr 2 0))), (3, .e (.one (.pure (.val (.int .i64 v1)))))] [(2, .box [.own 1000, .own 1001, .own 1002]), (1000, .vec 1 ((([] : List Int)).map eI64)), (1001, .vec 1 ((([] : List Int)).map eI64)), (1002, .vec 1 ((([] : List Int)).map eU8))] ⟨rfl, rfl, trivial⟩ ⟨rfl, rfl, rfl, rfl, trivial⟩ rfl rfl)))) (W_ret ?_)
    exact ⟨⟨[_, _], ⟨.cellN _ _ _ _ _ _ _ rfl rfl ag37 sz37 rfl rfl (ltb rfl), ⟨.tmp _ _ rfl, trivial⟩⟩, rfl⟩, ⟨rfl, rfl, rfl, trivial⟩⟩
  · have h := cnd_f c2 h
    refine W_skip ?_
    refine W_seq ?_
    refine W_region mixed rfl ?_
    refine r_fieldAddr (.p rfl) rfl fld31_1 ?_
    refine r_load1 (.p rfl) rfl ag28 rfl rfl ?_
    obtain ⟨v3, a3, h⟩ := bind_some h
    refine r_call (ds0 := [_]) [2004] (slices_Clone_int_int_c N p0.fNow v3 a3) (.p rfl) gd45 rfl ⟨rfl, trivial⟩ rfl rfl rfl (nodupL_spec rfl) ⟨rfl, trivial⟩ rfl ?_
    refine r_buildSlice [(0, .const (.int .i64 (-1)), _)] (.p rfl) rfl ⟨rfl, trivial⟩ rfl slc28 sz3 zv3 rfl rfl (leb rfl) rfl rfl ?_
    refine r_fieldAddr (.p rfl) rfl fld31_1 ?_
    refine r_load1 (.p rfl) rfl ag28 rfl rfl ?_
    refine r_len (.p rfl) rfl (.sl _) trivial (List.length_map _) slc28 ?_
    obtain ⟨v4, a4, h⟩ := bind_some h
    refine r_callL (ds0 := [_, _]) [2005] [(17, _)] (slices_Repeat_int_int_c N (([(-1)] : List Int)) ((p0.fNow.length : Int)) v4 a4) (.p rfl) gd63 rfl ⟨rfl, rfl, trivial⟩ ⟨rfl, trivial⟩ rfl rfl rfl (nodupL_spec rfl) ⟨rfl, trivial⟩ rfl (flatV_cons (fun _ => rfl) flatV_nil) rfl ?_
    refine r_fieldAddr (.p rfl) rfl fld31_3 ?_
    refine r_load1 (.p rfl) rfl ag29 rfl rfl ?_
    refine r_len (.p rfl) rfl (.sl _) trivial (List.length_map _) slc29 ?_
    obtain ⟨c5, h⟩ := chk_bind h
    refine r_makeSlice (.p rfl) rfl rfl rfl slc35 sz80 byt80 (leb rfl) zv80 rfl rfl rfl c5.1 c5.2.1 c5.2.2 (map_rep eU8 _ ((0 : Int))) ?_
    refine r_build [(0, .tmp 16, _), (1, .tmp 21, _), (2, .tmp 25, _)] (.p rfl) rfl ⟨rfl, rfl, rfl, trivial⟩ zv37 rfl rfl pl37 rfl ?_
    refine r_alloc (.p rfl) zv37 rfl rfl rfl ?_
    refine r_store rfl rfl rfl rfl sz37 rfl (leb rfl) rfl ?_
    refine r_endD (by kernel_rfl) ?_
    refine W_seq ?_
    refine W_seq ?_
    refine W_region mixed rfl ?_
    refine r_fieldAddr (.p rfl) rfl fld31_3 ?_
    refine r_load1 (.p rfl) rfl ag29 rfl rfl ?_
    refine r_len (.p rfl) rfl (.sl _) trivial (List.length_map _) slc29 ?_
    refine r_move (.p rfl) rfl ?_
    refine r_end ?_
    refine W_whileE (L := Sh.mix_Start_L6 N p0) h (fun v6 => mk [(1, .e (.one (.ptr 1 0))), (2, .e (.one (.ptr 2 0))), (5, .e (.one (.ptr 5 0))), (28, .e (.one (.pure (.sl (p0.fTables.map eApiTable))))), (29, .e (.one (.pure (.val (.int .i64 ((p0.fTables.length : Int))))))), (30, .e (.one (.pure (.val (.int .i64 v6.2)))))] [(1, .box [.pure (.sl (p0.fVersions.map eI64)), .pure (.sl (p0.fNow.map eI64)), .pure (.sl (p0.fTarget.map eI64)), .pure (.sl (p0.fTables.map eApiTable))]), (2, .box [.pure (.nil0), .pure (.nil0), .pure (.nil0)]), (5, .box [.own 2006, .own 2007, .own 2008]), (2006, .vec 1 (v3.map eI64)), (2007, .vec 1 (v4.map eI64)), (2008, .vec 1 (v6.1.map eU8))]) (fun v7 => mk [(2, .e (.one (.ptr 2 0))), (5, .e (.one (.ptr 5 0)))] [(2, .box [.pure (.nil0), .pure (.nil0), .pure (.nil0)]), (5, .box [.own 2009, .own 2010, .own 2011]), (2009, .vec 1 (v3.map eI64)), (2010, .vec 1 (v4.map eI64)), (2011, .vec 1 (v7.map eU8))]) (fun _ _ => rfl) (sees_mkL (rn [(2006, 2004), (2007, 2005), (2008, 25)]) _ _ ⟨rfl, rfl, rfl, rfl, rfl, rfl, trivial⟩ ⟨rfl, rfl, rfl, rfl, rfl, rfl, trivial⟩ rfl rfl) (fun j6 n6 v6 h => ?_) (fun v7 s h hs => ?_)
    · unfold Sh.mix_Start_L6 at h
      refine W_seq ?_
      refine W_region mixed rfl ?_
      refine r_bin (.p rfl) rfl rfl (bin_lss _ _ _ _ _ _) rfl ?_
      refine r_end ?_
      refine W_seq ?_
      refine W_cond rfl (fun c8 => ?_) (fun c8 => ?_)
      · have h := cnd_t c8 h
        refine W_skip ?_
        refine W_join h (fun v9 => mk [(1, .e (.one (.ptr 1 0))), (2, .e (.one (.ptr 2 0))), (5, .e (.one (.ptr 5 0))), (28, .e (.one (.pure (.sl (p0.fTables.map eApiTable))))), (29, .e (.one (.pure (.val (.int .i64 ((p0.fTables.length : Int))))))), (30, .e (.one (.pure (.val (.int .i64 v6.2)))))] [(1, .box [.pure (.sl (p0.fVersions.map eI64)), .pure (.sl (p0.fNow.map eI64)), .pure (.sl (p0.fTarget.map eI64)), .pure (.sl (p0.fTables.map eApiTable))]), (2, .box [.pure (.nil0), .pure (.nil0), .pure (.nil0)]), (5, .box [.own 2012, .own 2013, .own 2014]), (2012, .vec 1 (v3.map eI64)), (2013, .vec 1 (v4.map eI64)), (2014, .vec 1 (v9.map eU8))]) (fun j9 h => ?_) (fun v9 h => ?_)
        · refine W_block ?_
          refine W_seq ?_
          refine W_region mixed rfl ?_
          refine r_move (.p rfl) rfl ?_
          obtain ⟨v10, a10, b10, h⟩ := idx_bind h
          refine r_index (.p rfl) rfl rfl slc29 sz61 a10 (map_get b10) rfl ?_
          refine r_loadrN (.p rfl) rfl ag61 sz61 rfl rfl ?_
          refine r_alloc (.p rfl) zv61 rfl rfl rfl ?_
          refine r_assign (.p rfl) rfl ?_
          refine r_store rfl rfl rfl rfl sz61 rfl (leb rfl) rfl ?_
          refine r_end ?_
          refine W_seq ?_
          refine W_region mixed rfl ?_
          refine r_loadN (.p rfl) rfl ag61 sz61 rfl rfl rfl ?_
          obtain ⟨v11, a11, h⟩ := bind_some h
          refine r_call (ds0 := [_]) [] (mix_stored_c N v10 v11 a11) (.p rfl) gd53 rfl ⟨rfl, trivial⟩ rfl rfl rfl (nodupL_spec rfl) trivial rfl ?_
          refine r_end ?_
          refine W_cond rfl (fun c12 => ?_) (fun c12 => ?_)
          · have h := cnd_t c12 h
            refine W_region mixed rfl ?_
            refine r_fieldAddr (.p rfl) rfl fld37_2 ?_
            refine r_load1 (.p rfl) rfl ag35 rfl rfl ?_
            refine r_move (.p rfl) rfl ?_
            refine r_fieldAddr (.p rfl) rfl fld31_1 ?_
            refine r_load1 (.p rfl) rfl ag28 rfl rfl ?_
            refine r_fieldAddr (.p rfl) rfl fld61_1 ?_
            refine r_load1 (.p rfl) rfl ag3 rfl rfl ?_
            obtain ⟨v13, a13, b13, h⟩ := idx_bind h
            refine r_index (.p rfl) rfl rfl slc28 sz3 a13 (map_get b13) rfl ?_
            refine r_loadr1 (.p rfl) rfl ag3 rfl ?_
            obtain ⟨c14, h⟩ := chk_bind h
            refine r_bin (.p rfl) rfl rfl (bin_shl _ _ _ _ _ _ _ c14) rfl ?_
            obtain ⟨v15, a15, b15, h⟩ := idx_bind h
            refine r_indexo (.p rfl) rfl rfl rfl slc35 sz80 a15 (map_get b15) ?_
            refine r_storee rfl rfl rfl rfl (map_get b15) rfl sz80 rfl (leb rfl) (map_setv eU8 v6.1 _ ((shlI .u8 1 v13))) ?_
            refine r_endD (by kernel_rfl) ?_
            exact sink (v6.1.set (v6.2).toNat ((shlI .u8 1 v13))) h (sees_mkL (rn [(2012, 2006), (2013, 2007), (2014, 2008)]) _ _ ⟨rfl, rfl, rfl, rfl, rfl, rfl, trivial⟩ ⟨rfl, rfl, rfl, rfl, rfl, rfl, trivial⟩ rfl rfl)
          · have h := cnd_f c12 h
            refine W_skip ?_
            exact sink v6.1 h (sees_mkL (rn [(2012, 2006), (2013, 2007), (2014, 2008)]) _ _ ⟨rfl, rfl, rfl, rfl, rfl, rfl, trivial⟩ ⟨rfl, rfl, rfl, rfl, rfl, rfl, trivial⟩ rfl rfl)
        · refine W_region mixed rfl ?_
          refine r_bin (.p rfl) rfl rfl (bin_add _ _ _ _ _ _) rfl ?_
          refine r_move (.p rfl) rfl ?_
          refine r_end ?_
          exact sink (v9, (IntKind.wrap .i64 (v6.2 + 1))) h (sees_mkL (rn [(2006, 2012), (2007, 2013), (2008, 2014)]) _ _ ⟨rfl, rfl, rfl, rfl, rfl, rfl, trivial⟩ ⟨rfl, rfl, rfl, rfl, rfl, rfl, trivial⟩ rfl rfl)
      · have h := cnd_f c8 h
        refine W_exit ?_
        exact sink v6.1 h (sees_mkL (rn [(2009, 2006), (2010, 2007), (2011, 2008)]) _ _ ⟨rfl, rfl, trivial⟩ ⟨rfl, rfl, rfl, rfl, rfl, trivial⟩ rfl rfl)
    · refine W_sees hs ?_
      refine W_seq ?_
      refine W_region mixed rfl ?_
      refine r_loadN (.p rfl) rfl ag37 sz37 rfl rfl rfl ?_
      refine r_store rfl rfl rfl rfl sz37 rfl (leb rfl) rfl ?_
      refine r_assign (.p rfl) rfl ?_
      refine r_end ?_
      obtain rfl := Option.some.inj h
      refine W_sees (sees_mkL (rn [(1000, 2009), (1001, 2010), (1002, 2011)]) [(2, .e (.one (.ptr 2 0))), (3, .e (.one (.pure (.val (.int .i64 0)))))] [(2, .box [.own 1000, .own 1001, .own 1002]), (1000, .vec 1 (v3.map eI64)), (1001, .vec 1 (v4.map eI64)), (1002, .vec 1 (v7.map eU8))] ⟨rfl, rfl, trivial⟩ ⟨rfl, rfl, rfl, rfl, trivial⟩ rfl rfl) (W_ret ?_)
      exact ⟨⟨[_, _], ⟨.cellN _ _ _ _ _ _ _ rfl rfl ag37 sz37 rfl rfl (ltb rfl), ⟨.tmp _ _ rfl, trivial⟩⟩, rfl⟩, ⟨rfl, rfl, rfl, trivial⟩⟩
set_option maxRecDepth 10000 in
theorem sheaveref35_Stored_c (N : Nat) (p0 : ApiTable) (r : Bool) (h : Sh.sheaveref35_Stored N p0 = some r) : Contract Try.prog 38 [.e (.agg [.pure (.val (.int .i64 p0.fKind)), .pure (.val (.int .i64 p0.fFrom)), .pure (.val (.int .i64 p0.fTo)), .pure (.val (.bool p0.fAware)), .pure (.sl (p0.fOK.map (eSl eB))), .pure (.sl (p0.fRewrite.map (eSl eB)))])] [] (.e (.one (.pure (.val (.bool r))))) := by
  unfold Sh.sheaveref35_Stored at h
  refine contract_of_W (n := 11) (rs := [.tmp 2]) Try.func38 rfl rfl rfl (leb rfl) (leb rfl) rfl fun w0 S0 => ?_
  refine W_seq ?_
  refine W_region mixed rfl ?_
  refine r_box (.p rfl) rfl rfl ?_
  refine r_assign (.p rfl) rfl ?_
  refine r_end ?_
  refine W_join h (fun v1 => mk [(2, .e (.one (.pure (.val (.bool v1)))))] []) (fun j1 h => ?_) (fun v1 h => ?_)
  · refine W_region mixed rfl ?_
    refine r_fieldAddr (.p rfl) rfl fld61_0 ?_
    refine r_load1 (.p rfl) rfl ag3 rfl rfl ?_
    refine r_bin (.p rfl) rfl rfl (bin_eql _ _ _ _ _ _) rfl ?_
    refine r_move (.p rfl) rfl ?_
    refine r_split (t := 6) rfl (fun c2 => ?_) (fun c2 => ?_)
    · have h := cnd_t c2 h
      refine r_notB rfl rfl ?_
      refine r_notB rfl rfl ?_
      refine r_notB rfl rfl ?_
      refine r_pick (.p rfl) rfl rfl rfl ?_
      refine r_assign (.p rfl) rfl ?_
      refine r_end ?_
      exact sink true h (sees_mkL (rn []) _ _ ⟨rfl, trivial⟩ trivial rfl rfl)
    · have h := cnd_f c2 h
      refine r_fieldAddr (.g rfl rfl) rfl fld61_0 ?_
      refine r_load1 (.g rfl rfl) rfl ag3 rfl rfl ?_
      refine r_bin (.g rfl rfl) rfl rfl (bin_eql _ _ _ _ _ _) rfl ?_
      refine r_pick (.p rfl) rfl rfl rfl ?_
      refine r_assign (.p rfl) rfl ?_
      refine r_end ?_
      exact sink (p0.fKind == 4) h (sees_mkL (rn []) _ _ ⟨rfl, trivial⟩ trivial rfl rfl)
  · obtain rfl := Option.some.inj h
    refine W_sees (sees_mkL (rn []) [(2, .e (.one (.pure (.val (.bool v1)))))] [] ⟨rfl, trivial⟩ trivial rfl rfl) (W_ret ?_)
    exact ⟨⟨[_], ⟨.tmp _ _ rfl, trivial⟩, rfl⟩, trivial⟩
set_option maxRecDepth 10000 in
theorem sheaveref35_square_c (N : Nat) (p0 : List (List Bool)) (p1 : Int) (p2 : Int) (r : Bool) (h : Sh.sheaveref35_square N p0 p1 p2 = some r) : Contract Try.prog 72 [.e (.one (.pure (.sl (p0.map (eSl eB))))), .e (.one (.pure (.val (.int .i64 p1)))), .e (.one (.pure (.val (.int .i64 p2))))] [] (.e (.one (.pure (.val (.bool r))))) := by
  unfold Sh.sheaveref35_square at h
  refine contract_of_W (n := 24) (rs := [.tmp 6]) Try.func72 rfl rfl rfl (leb rfl) (leb rfl) rfl fun w0 S0 => ?_
  refine W_seq ?_
  refine W_region mixed rfl ?_
  refine r_assign (.p rfl) rfl ?_
  refine r_end ?_
  refine W_seq ?_
  refine W_seq ?_
  refine W_region mixed rfl ?_
  refine r_move (.p rfl) rfl ?_
  refine r_len (.p rfl) rfl (.sl _) trivial (List.length_map _) slc59 ?_
  refine r_move (.p rfl) rfl ?_
  refine r_bin (.p rfl) rfl rfl (bin_neq _ _ _ _ _ _) rfl ?_
  refine r_end ?_
  refine W_cond rfl (fun c1 => ?_) (fun c1 => ?_)
  · have h := cnd_t c1 h
    refine W_seq ?_
    refine W_region mixed rfl ?_
    refine r_assign (.p rfl) rfl ?_
    refine r_end ?_
    obtain rfl := Option.some.inj h
    refine W_sees (sees_mkL (rn []) [(6, .e (.one (.pure (.val (.bool false)))))] [] ⟨rfl, trivial⟩ trivial rfl rfl) (W_ret ?_)
    exact ⟨⟨[_], ⟨.tmp _ _ rfl, trivial⟩, rfl⟩, trivial⟩
  · have h := cnd_f c1 h
    refine W_skip ?_
    refine W_seq ?_
    refine W_seq ?_
    refine W_region mixed rfl ?_
    refine r_assign (.p rfl) rfl ?_
    refine r_end ?_
    refine W_whileE (L := Sh.sheaveref35_square_L2 N p0 p1 p2) h (fun v2 => mk [(0, .e (.one (.pure (.sl (p0.map (eSl eB)))))), (1, .e (.one (.pure (.val (.int .i64 p1))))), (2, .e (.one (.pure (.val (.int .i64 p2))))), (7, .e (.one (.pure (.val (.int .i64 v2)))))] []) (fun v3 => mk [] []) (fun _ _ => rfl) (sees_mkL (rn []) _ _ ⟨rfl, rfl, rfl, rfl, trivial⟩ trivial rfl rfl) (fun j2 n2 v2 h => ?_) (fun v3 s h hs => ?_)
    · unfold Sh.sheaveref35_square_L2 at h
      refine W_seq ?_
      refine W_seq ?_
      refine W_region mixed rfl ?_
      refine r_move (.p rfl) rfl ?_
      refine r_move (.p rfl) rfl ?_
      refine r_bin (.p rfl) rfl rfl (bin_lss _ _ _ _ _ _) rfl ?_
      refine r_end ?_
      refine W_cond rfl (fun c4 => ?_) (fun c4 => ?_)
      · have h := cnd_t c4 h
        refine W_skip ?_
        refine W_seq ?_
        refine W_block ?_
        refine W_seq ?_
        refine W_region mixed rfl ?_
        refine r_move (.p rfl) rfl ?_
        refine r_move (.p rfl) rfl ?_
        obtain ⟨v5, a5, b5, h⟩ := idx_bind h
        refine r_index (.p rfl) rfl rfl slc59 sz65 a5 (map_get b5) rfl ?_
        refine r_loadr1 (.p rfl) rfl ag65 rfl ?_
        refine r_len (.p rfl) rfl (.sl _) trivial (List.length_map _) slc65 ?_
        refine r_move (.p rfl) rfl ?_
        refine r_bin (.p rfl) rfl rfl (bin_neq _ _ _ _ _ _) rfl ?_
        refine r_end ?_
        refine W_cond rfl (fun c6 => ?_) (fun c6 => ?_)
        · have h := cnd_t c6 h
          refine W_seq ?_
          refine W_region mixed rfl ?_
          refine r_assign (.p rfl) rfl ?_
          refine r_end ?_
          obtain rfl := Option.some.inj h
          refine W_sees (sees_mkL (rn []) [(6, .e (.one (.pure (.val (.bool false)))))] [] ⟨rfl, trivial⟩ trivial rfl rfl) (W_ret ?_)
          exact ⟨⟨[_], ⟨.tmp _ _ rfl, trivial⟩, rfl⟩, trivial⟩
        · have h := cnd_f c6 h
          refine W_skip ?_
          refine W_region mixed rfl ?_
          refine r_move (.p rfl) rfl ?_
          refine r_bin (.p rfl) rfl rfl (bin_add _ _ _ _ _ _) rfl ?_
          refine r_assign (.p rfl) rfl ?_
          refine r_end ?_
          exact sink (IntKind.wrap .i64 (v2 + 1)) h (sees_mkL (rn []) _ _ ⟨rfl, rfl, rfl, rfl, trivial⟩ trivial rfl rfl)
      · have h := cnd_f c4 h
        refine W_exit ?_
        exact sink () h (sees_mkL (rn []) _ _ trivial trivial rfl rfl)
    · refine W_sees hs ?_
      refine W_seq ?_
      refine W_region mixed rfl ?_
      refine r_assign (.p rfl) rfl ?_
      refine r_end ?_
      obtain rfl := Option.some.inj h
      refine W_sees (sees_mkL (rn []) [(6, .e (.one (.pure (.val (.bool true)))))] [] ⟨rfl, trivial⟩ trivial rfl rfl) (W_ret ?_)
      exact ⟨⟨[_], ⟨.tmp _ _ rfl, trivial⟩, rfl⟩, trivial⟩
set_option maxRecDepth 10000 in
theorem sheaveref35_table_c (N : Nat) (p0 : ApiProblem) (p1 : ApiTable) (r : Int) (h : Sh.sheaveref35_table N p0 p1 = some r) : Contract Try.prog 64 [.e (.agg [.pure (.sl (p0.fVersions.map eI64)), .pure (.sl (p0.fNow.map eI64)), .pure (.sl (p0.fTarget.map eI64)), .pure (.sl (p0.fTables.map eApiTable))]), .e (.agg [.pure (.val (.int .i64 p1.fKind)), .pure (.val (.int .i64 p1.fFrom)), .pure (.val (.int .i64 p1.fTo)), .pure (.val (.bool p1.fAware)), .pure (.sl (p1.fOK.map (eSl eB))), .pure (.sl (p1.fRewrite.map (eSl eB)))])] [] (.e (.one (.pure (.val (.int .i64 r))))) := by
  unfold Sh.sheaveref35_table at h
  refine contract_of_W (n := 101) (rs := [.tmp 4]) Try.func64 rfl rfl rfl (leb rfl) (leb rfl) rfl fun w0 S0 => ?_
  refine W_seq ?_
  refine W_region mixed rfl ?_
  refine r_box (.p rfl) rfl rfl ?_
  refine r_box (.p rfl) rfl rfl ?_
  refine r_assign (.p rfl) rfl ?_
  refine r_end ?_
  refine W_seq ?_
  refine W_join h (fun v1 => mk [(2, .e (.one (.ptr 2 0))), (3, .e (.one (.ptr 3 0))), (22, .e (.one (.pure (.val (.bool v1)))))] [(2, .box [.pure (.sl (p0.fVersions.map eI64)), .pure (.sl (p0.fNow.map eI64)), .pure (.sl (p0.fTarget.map eI64)), .pure (.sl (p0.fTables.map eApiTable))]), (3, .box [.pure (.val (.int .i64 p1.fKind)), .pure (.val (.int .i64 p1.fFrom)), .pure (.val (.int .i64 p1.fTo)), .pure (.val (.bool p1.fAware)), .pure (.sl (p1.fOK.map (eSl eB))), .pure (.sl (p1.fRewrite.map (eSl eB)))])]) (fun j1 h => ?_) (fun v1 h => ?_)
  · refine W_region mixed rfl ?_
    refine r_fieldAddr (.p rfl) rfl fld61_0 ?_
    refine r_load1 (.p rfl) rfl ag3 rfl rfl ?_
    refine r_bin (.p rfl) rfl rfl (bin_lss _ _ _ _ _ _) rfl ?_
    refine r_move (.p rfl) rfl ?_
    refine r_split (t := 10) rfl (fun c2 => ?_) (fun c2 => ?_)
    · have h := cnd_t c2 h
      refine r_notB rfl rfl ?_
      refine r_notB rfl rfl ?_
      refine r_notB rfl rfl ?_
      refine r_pick (.p rfl) rfl rfl rfl ?_
      refine r_move (.p rfl) rfl ?_
      refine r_notB rfl rfl ?_
      refine r_notB rfl rfl ?_
      refine r_notB rfl rfl ?_
      refine r_notU rfl rfl ?_
      refine r_notU rfl rfl ?_
      refine r_notB rfl rfl ?_
      refine r_pick (.p rfl) rfl rfl rfl ?_
      refine r_end ?_
      exact sink true h (sees_mkL (rn []) _ _ ⟨rfl, rfl, rfl, trivial⟩ ⟨rfl, rfl, trivial⟩ rfl rfl)
    · have h := cnd_f c2 h
      refine r_fieldAddr (.g rfl rfl) rfl fld61_0 ?_
      refine r_load1 (.g rfl rfl) rfl ag3 rfl rfl ?_
      refine r_bin (.g rfl rfl) rfl rfl (bin_gtr _ _ _ _ _ _) rfl ?_
      refine r_pick (.p rfl) rfl rfl rfl ?_
      refine r_move (.p rfl) rfl ?_
      refine r_split (t := 15) rfl (fun c3 => ?_) (fun c3 => ?_)
      · have h := cnd_t c3 h
        refine r_notB rfl rfl ?_
        refine r_notB rfl rfl ?_
        refine r_notB rfl rfl ?_
        refine r_notU rfl rfl ?_
        refine r_notU rfl rfl ?_
        refine r_notB rfl rfl ?_
        refine r_pick (.p rfl) rfl rfl rfl ?_
        refine r_end ?_
        exact sink true h (sees_mkL (rn []) _ _ ⟨rfl, rfl, rfl, trivial⟩ ⟨rfl, rfl, trivial⟩ rfl rfl)
      · have h := cnd_f c3 h
        refine r_fieldAddr (.g rfl rfl) rfl fld61_3 ?_
        refine r_load1 (.g rfl rfl) rfl ag4 rfl rfl ?_
        refine r_move (.g rfl rfl) rfl ?_
        refine r_split (t := 18) rfl (fun c4 => ?_) (fun c4 => ?_)
        · have h := cnd_t c4 h
          refine r_loadN (.g rfl rfl) rfl ag61 sz61 rfl rfl rfl ?_
          obtain ⟨v5, a5, h⟩ := bind_some h
          refine r_call (ds0 := [_]) [] (sheaveref35_Stored_c N p1 v5 a5) (.g rfl rfl) gd38 rfl ⟨rfl, trivial⟩ rfl rfl rfl (nodupL_spec rfl) trivial rfl ?_
          refine r_pick (.g rfl rfl) rfl rfl rfl ?_
          refine r_pick (.p rfl) rfl rfl rfl ?_
          refine r_end ?_
          exact sink v5 h (sees_mkL (rn []) _ _ ⟨rfl, rfl, rfl, trivial⟩ ⟨rfl, rfl, trivial⟩ rfl rfl)
        · have h := cnd_f c4 h
          refine r_notB rfl rfl ?_
          refine r_notB rfl rfl ?_
          refine r_pick (.g rfl rfl) rfl rfl rfl ?_
          refine r_pick (.p rfl) rfl rfl rfl ?_
          refine r_end ?_
          exact sink false h (sees_mkL (rn []) _ _ ⟨rfl, rfl, rfl, trivial⟩ ⟨rfl, rfl, trivial⟩ rfl rfl)
  · refine W_cond rfl (fun c6 => ?_) (fun c6 => ?_)
    · have h := cnd_t c6 h
      refine W_seq ?_
      refine W_region mixed rfl ?_
      refine r_assign (.p rfl) rfl ?_
      refine r_end ?_
      obtain rfl := Option.some.inj h
      refine W_sees (sees_mkL (rn []) [(4, .e (.one (.pure (.val (.int .i64 1)))))] [] ⟨rfl, trivial⟩ trivial rfl rfl) (W_ret ?_)
      exact ⟨⟨[_], ⟨.tmp _ _ rfl, trivial⟩, rfl⟩, trivial⟩
    · have h := cnd_f c6 h
      refine W_skip ?_
      refine W_seq ?_
      refine W_region mixed rfl ?_
      refine r_fieldAddr (.p rfl) rfl fld31_0 ?_
      refine r_load1 (.p rfl) rfl ag28 rfl rfl ?_
      refine r_len (.p rfl) rfl (.sl _) trivial (List.length_map _) slc28 ?_
      refine r_assign (.p rfl) rfl ?_
      refine r_end ?_
      refine W_seq ?_
      refine W_join h (fun v7 => mk [(2, .e (.one (.ptr 2 0))), (3, .e (.one (.ptr 3 0))), (45, .e (.one (.pure (.val (.bool v7)))))] [(2, .box [.pure (.sl (p0.fVersions.map eI64)), .pure (.sl (p0.fNow.map eI64)), .pure (.sl (p0.fTarget.map eI64)), .pure (.sl (p0.fTables.map eApiTable))]), (3, .box [.pure (.val (.int .i64 p1.fKind)), .pure (.val (.int .i64 p1.fFrom)), .pure (.val (.int .i64 p1.fTo)), .pure (.val (.bool p1.fAware)), .pure (.sl (p1.fOK.map (eSl eB))), .pure (.sl (p1.fRewrite.map (eSl eB)))])]) (fun j7 h => ?_) (fun v7 h => ?_)
      · refine W_region mixed rfl ?_
        refine r_fieldAddr (.p rfl) rfl fld61_1 ?_
        refine r_load1 (.p rfl) rfl ag3 rfl rfl ?_
        refine r_bin (.p rfl) rfl rfl (bin_lss _ _ _ _ _ _) rfl ?_
        refine r_move (.p rfl) rfl ?_
        refine r_split (t := 29) rfl (fun c8 => ?_) (fun c8 => ?_)
        · have h := cnd_t c8 h
          refine r_notB rfl rfl ?_
          refine r_notB rfl rfl ?_
          refine r_notB rfl rfl ?_
          refine r_notB rfl rfl ?_
          refine r_pick (.p rfl) rfl rfl rfl ?_
          refine r_move (.p rfl) rfl ?_
          refine r_notB rfl rfl ?_
          refine r_notB rfl rfl ?_
          refine r_notB rfl rfl ?_
          refine r_pick (.p rfl) rfl rfl rfl ?_
          refine r_move (.p rfl) rfl ?_
          refine r_notB rfl rfl ?_
          refine r_notB rfl rfl ?_
          refine r_notB rfl rfl ?_
          refine r_notB rfl rfl ?_
          refine r_pick (.p rfl) rfl rfl rfl ?_
          refine r_end ?_
          exact sink true h (sees_mkL (rn []) _ _ ⟨rfl, rfl, rfl, trivial⟩ ⟨rfl, rfl, trivial⟩ rfl rfl)
        · have h := cnd_f c8 h
          refine r_fieldAddr (.g rfl rfl) rfl fld61_1 ?_
          refine r_load1 (.g rfl rfl) rfl ag3 rfl rfl ?_
          refine r_move (.g rfl rfl) rfl ?_
          refine r_bin (.g rfl rfl) rfl rfl (bin_geq _ _ _ _ _ _) rfl ?_
          refine r_pick (.p rfl) rfl rfl rfl ?_
          refine r_move (.p rfl) rfl ?_
          refine r_split (t := 35) rfl (fun c9 => ?_) (fun c9 => ?_)
          · have h := cnd_t c9 h
            refine r_notB rfl rfl ?_
            refine r_notB rfl rfl ?_
            refine r_notB rfl rfl ?_
            refine r_pick (.p rfl) rfl rfl rfl ?_
            refine r_move (.p rfl) rfl ?_
            refine r_notB rfl rfl ?_
            refine r_notB rfl rfl ?_
            refine r_notB rfl rfl ?_
            refine r_notB rfl rfl ?_
            refine r_pick (.p rfl) rfl rfl rfl ?_
            refine r_end ?_
            exact sink true h (sees_mkL (rn []) _ _ ⟨rfl, rfl, rfl, trivial⟩ ⟨rfl, rfl, trivial⟩ rfl rfl)
          · have h := cnd_f c9 h
            refine r_fieldAddr (.g rfl rfl) rfl fld61_2 ?_
            refine r_load1 (.g rfl rfl) rfl ag3 rfl rfl ?_
            refine r_bin (.g rfl rfl) rfl rfl (bin_lss _ _ _ _ _ _) rfl ?_
            refine r_pick (.p rfl) rfl rfl rfl ?_
            refine r_move (.p rfl) rfl ?_
            refine r_split (t := 40) rfl (fun c10 => ?_) (fun c10 => ?_)
            · have h := cnd_t c10 h
              refine r_notB rfl rfl ?_
              refine r_notB rfl rfl ?_
              refine r_notB rfl rfl ?_
              refine r_notB rfl rfl ?_
              refine r_pick (.p rfl) rfl rfl rfl ?_
              refine r_end ?_
              exact sink true h (sees_mkL (rn []) _ _ ⟨rfl, rfl, rfl, trivial⟩ ⟨rfl, rfl, trivial⟩ rfl rfl)
            · have h := cnd_f c10 h
              refine r_fieldAddr (.g rfl rfl) rfl fld61_2 ?_
              refine r_load1 (.g rfl rfl) rfl ag3 rfl rfl ?_
              refine r_move (.g rfl rfl) rfl ?_
              refine r_bin (.g rfl rfl) rfl rfl (bin_geq _ _ _ _ _ _) rfl ?_
              refine r_pick (.p rfl) rfl rfl rfl ?_
              refine r_end ?_
              exact sink (decide ((p0.fVersions.length : Int) ≤ p1.fTo)) h (sees_mkL (rn []) _ _ ⟨rfl, rfl, rfl, trivial⟩ ⟨rfl, rfl, trivial⟩ rfl rfl)
      · refine W_cond rfl (fun c11 => ?_) (fun c11 => ?_)
        · have h := cnd_t c11 h
          refine W_seq ?_
          refine W_region mixed rfl ?_
          refine r_assign (.p rfl) rfl ?_
          refine r_end ?_
          obtain rfl := Option.some.inj h
          refine W_sees (sees_mkL (rn []) [(4, .e (.one (.pure (.val (.int .i64 4)))))] [] ⟨rfl, trivial⟩ trivial rfl rfl) (W_ret ?_)
          exact ⟨⟨[_], ⟨.tmp _ _ rfl, trivial⟩, rfl⟩, trivial⟩
        · have h := cnd_f c11 h
          refine W_skip ?_
          refine W_seq ?_
          refine W_seq ?_
          refine W_region mixed rfl ?_
          refine r_fieldAddr (.p rfl) rfl fld61_4 ?_
          refine r_load1 (.p rfl) rfl ag59 rfl rfl ?_
          refine r_fieldAddr (.p rfl) rfl fld31_0 ?_
          refine r_load1 (.p rfl) rfl ag28 rfl rfl ?_
          refine r_fieldAddr (.p rfl) rfl fld61_1 ?_
          refine r_load1 (.p rfl) rfl ag3 rfl rfl ?_
          obtain ⟨v12, a12, b12, h⟩ := idx_bind h
          refine r_index (.p rfl) rfl rfl slc28 sz3 a12 (map_get b12) rfl ?_
          refine r_loadr1 (.p rfl) rfl ag3 rfl ?_
          refine r_fieldAddr (.p rfl) rfl fld31_0 ?_
          refine r_load1 (.p rfl) rfl ag28 rfl rfl ?_
          refine r_fieldAddr (.p rfl) rfl fld61_2 ?_
          refine r_load1 (.p rfl) rfl ag3 rfl rfl ?_
          obtain ⟨v13, a13, b13, h⟩ := idx_bind h
          refine r_index (.p rfl) rfl rfl slc28 sz3 a13 (map_get b13) rfl ?_
          refine r_loadr1 (.p rfl) rfl ag3 rfl ?_
          obtain ⟨v14, a14, h⟩ := bind_some h
          refine r_call (ds0 := [_, _, _]) [] (sheaveref35_square_c N p1.fOK v12 v13 v14 a14) (.p rfl) gd72 rfl ⟨rfl, rfl, rfl, trivial⟩ rfl rfl rfl (nodupL_spec rfl) trivial rfl ?_
          refine r_un (.p rfl) rfl (un_not _) rfl ?_
          refine r_endD (by kernel_rfl) ?_
          refine W_cond rfl (fun c15 => ?_) (fun c15 => ?_)
          · have h := cnd_t c15 h
            refine W_seq ?_
            refine W_region mixed rfl ?_
            refine r_assign (.p rfl) rfl ?_
            refine r_end ?_
            obtain rfl := Option.some.inj h
            refine W_sees (sees_mkL (rn []) [(4, .e (.one (.pure (.val (.int .i64 6)))))] [] ⟨rfl, trivial⟩ trivial rfl rfl) (W_ret ?_)
            exact ⟨⟨[_], ⟨.tmp _ _ rfl, trivial⟩, rfl⟩, trivial⟩
          · have h := cnd_f c15 h
            refine W_skip ?_
            refine W_seq ?_
            refine W_seq ?_
            refine W_region mixed rfl ?_
            refine r_fieldAddr (.p rfl) rfl fld61_0 ?_
            refine r_load1 (.p rfl) rfl ag3 rfl rfl ?_
            refine r_bin (.p rfl) rfl rfl (bin_neq _ _ _ _ _ _) rfl ?_
            refine r_end ?_
            refine W_cond rfl (fun c16 => ?_) (fun c16 => ?_)
            · have h := cnd_t c16 h
              refine W_seq ?_
              refine W_seq ?_
              refine W_region mixed rfl ?_
              refine r_fieldAddr (.p rfl) rfl fld61_5 ?_
              refine r_load1 (.p rfl) rfl ag59 rfl rfl ?_
              refine r_len (.p rfl) rfl (.sl _) trivial (List.length_map _) slc59 ?_
              refine r_bin (.p rfl) rfl rfl (bin_neq _ _ _ _ _ _) rfl ?_
              refine r_end ?_
              refine W_cond rfl (fun c17 => ?_) (fun c17 => ?_)
              · have h := cnd_t c17 h
                refine W_seq ?_
                refine W_region mixed rfl ?_
                refine r_assign (.p rfl) rfl ?_
                refine r_end ?_
                obtain rfl := Option.some.inj h
                refine W_sees (sees_mkL (rn []) [(4, .e (.one (.pure (.val (.int .i64 6)))))] [] ⟨rfl, trivial⟩ trivial rfl rfl) (W_ret ?_)
                exact ⟨⟨[_], ⟨.tmp _ _ rfl, trivial⟩, rfl⟩, trivial⟩
              · have h := cnd_f c17 h
                refine W_skip ?_
                refine W_seq ?_
                refine W_region mixed rfl ?_
                refine r_assign (.p rfl) rfl ?_
                refine r_end ?_
                obtain rfl := Option.some.inj h
                refine W_sees (sees_mkL (rn []) [(4, .e (.one (.pure (.val (.int .i64 0)))))] [] ⟨rfl, trivial⟩ trivial rfl rfl) (W_ret ?_)
                exact ⟨⟨[_], ⟨.tmp _ _ rfl, trivial⟩, rfl⟩, trivial⟩
            · have h := cnd_f c16 h
              refine W_skip ?_
              refine W_seq ?_
              refine W_seq ?_
              refine W_region mixed rfl ?_
              refine r_fieldAddr (.p rfl) rfl fld61_5 ?_
              refine r_load1 (.p rfl) rfl ag59 rfl rfl ?_
              refine r_fieldAddr (.p rfl) rfl fld31_0 ?_
              refine r_load1 (.p rfl) rfl ag28 rfl rfl ?_
              refine r_fieldAddr (.p rfl) rfl fld61_1 ?_
              refine r_load1 (.p rfl) rfl ag3 rfl rfl ?_
              obtain ⟨v18, a18, b18, h⟩ := idx_bind h
              refine r_index (.p rfl) rfl rfl slc28 sz3 a18 (map_get b18) rfl ?_
              refine r_loadr1 (.p rfl) rfl ag3 rfl ?_
              refine r_fieldAddr (.p rfl) rfl fld31_0 ?_
              refine r_load1 (.p rfl) rfl ag28 rfl rfl ?_
              refine r_fieldAddr (.p rfl) rfl fld61_1 ?_
              refine r_load1 (.p rfl) rfl ag3 rfl rfl ?_
              obtain ⟨v19, a19, b19, h⟩ := idx_bind h
              refine r_index (.p rfl) rfl rfl slc28 sz3 a19 (map_get b19) rfl ?_
              refine r_loadr1 (.p rfl) rfl ag3 rfl ?_
              obtain ⟨v20, a20, h⟩ := bind_some h
              refine r_call (ds0 := [_, _, _]) [] (sheaveref35_square_c N p1.fRewrite v18 v19 v20 a20) (.p rfl) gd72 rfl ⟨rfl, rfl, rfl, trivial⟩ rfl rfl rfl (nodupL_spec rfl) trivial rfl ?_
              refine r_un (.p rfl) rfl (un_not _) rfl ?_
              refine r_endD (by kernel_rfl) ?_
              refine W_cond rfl (fun c21 => ?_) (fun c21 => ?_)
              · have h := cnd_t c21 h
                refine W_seq ?_
                refine W_region mixed rfl ?_
                refine r_assign (.p rfl) rfl ?_
                refine r_end ?_
                obtain rfl := Option.some.inj h
                refine W_sees (sees_mkL (rn []) [(4, .e (.one (.pure (.val (.int .i64 6)))))] [] ⟨rfl, trivial⟩ trivial rfl rfl) (W_ret ?_)
                exact ⟨⟨[_], ⟨.tmp _ _ rfl, trivial⟩, rfl⟩, trivial⟩
              · have h := cnd_f c21 h
                refine W_skip ?_
                refine W_seq ?_
                refine W_seq ?_
                refine W_region mixed rfl ?_
                refine r_assign (.p rfl) rfl ?_
                refine r_end ?_
                refine W_whileE (L := Sh.sheaveref35_table_L22 N p1) h (fun v22 => mk [(3, .e (.one (.ptr 3 0))), (6, .e (.one (.pure (.val (.int .i64 v22)))))] [(3, .box [.pure (.val (.int .i64 p1.fKind)), .pure (.val (.int .i64 p1.fFrom)), .pure (.val (.int .i64 p1.fTo)), .pure (.val (.bool p1.fAware)), .pure (.sl (p1.fOK.map (eSl eB))), .pure (.sl (p1.fRewrite.map (eSl eB)))])]) (fun v23 => mk [] []) (fun _ _ => rfl) (sees_mkL (rn []) _ _ ⟨rfl, rfl, trivial⟩ ⟨rfl, trivial⟩ rfl rfl) (fun j22 n22 v22 h => ?_) (fun v23 s h hs => ?_)
                · unfold Sh.sheaveref35_table_L22 at h
                  refine W_seq ?_
                  refine W_seq ?_
                  refine W_region mixed rfl ?_
                  refine r_move (.p rfl) rfl ?_
                  refine r_fieldAddr (.p rfl) rfl fld61_5 ?_
                  refine r_load1 (.p rfl) rfl ag59 rfl rfl ?_
                  refine r_len (.p rfl) rfl (.sl _) trivial (List.length_map _) slc59 ?_
                  refine r_bin (.p rfl) rfl rfl (bin_lss _ _ _ _ _ _) rfl ?_
                  refine r_end ?_
                  refine W_cond rfl (fun c24 => ?_) (fun c24 => ?_)
                  · have h := cnd_t c24 h
                    refine W_skip ?_
                    refine W_seq ?_
                    refine W_block ?_
                    refine W_seq ?_
                    refine W_region mixed rfl ?_
                    refine r_fieldAddr (.p rfl) rfl fld61_5 ?_
                    refine r_load1 (.p rfl) rfl ag59 rfl rfl ?_
                    refine r_move (.p rfl) rfl ?_
                    obtain ⟨v25, a25, b25, h⟩ := idx_bind h
                    refine r_index (.p rfl) rfl rfl slc59 sz65 a25 (map_get b25) rfl ?_
                    refine r_loadr1 (.p rfl) rfl ag65 rfl ?_
                    refine r_move (.p rfl) rfl ?_
                    obtain ⟨v26, a26, b26, h⟩ := idx_bind h
                    refine r_index (.p rfl) rfl rfl slc65 sz4 a26 (map_get b26) rfl ?_
                    refine r_loadr1 (.p rfl) rfl ag4 rfl ?_
                    refine r_un (.p rfl) rfl (un_not _) rfl ?_
                    refine r_end ?_
                    refine W_cond rfl (fun c27 => ?_) (fun c27 => ?_)
                    · have h := cnd_t c27 h
                      refine W_seq ?_
                      refine W_region mixed rfl ?_
                      refine r_assign (.p rfl) rfl ?_
                      refine r_end ?_
                      obtain rfl := Option.some.inj h
                      refine W_sees (sees_mkL (rn []) [(4, .e (.one (.pure (.val (.int .i64 1)))))] [] ⟨rfl, trivial⟩ trivial rfl rfl) (W_ret ?_)
                      exact ⟨⟨[_], ⟨.tmp _ _ rfl, trivial⟩, rfl⟩, trivial⟩
                    · have h := cnd_f c27 h
                      refine W_skip ?_
                      refine W_region mixed rfl ?_
                      refine r_move (.p rfl) rfl ?_
                      refine r_bin (.p rfl) rfl rfl (bin_add _ _ _ _ _ _) rfl ?_
                      refine r_assign (.p rfl) rfl ?_
                      refine r_end ?_
                      exact sink (IntKind.wrap .i64 (v22 + 1)) h (sees_mkL (rn []) _ _ ⟨rfl, rfl, trivial⟩ ⟨rfl, trivial⟩ rfl rfl)
                  · have h := cnd_f c24 h
                    refine W_exit ?_
                    exact sink () h (sees_mkL (rn []) _ _ trivial trivial rfl rfl)
                · refine W_sees hs ?_
                  refine W_seq ?_
                  refine W_region mixed rfl ?_
                  refine r_assign (.p rfl) rfl ?_
                  refine r_end ?_
                  obtain rfl := Option.some.inj h
                  refine W_sees (sees_mkL (rn []) [(4, .e (.one (.pure (.val (.int .i64 0)))))] [] ⟨rfl, trivial⟩ trivial rfl rfl) (W_ret ?_)
                  exact ⟨⟨[_], ⟨.tmp _ _ rfl, trivial⟩, rfl⟩, trivial⟩
set_option maxRecDepth 10000 in
theorem sheaveref35_ValidProblem_c (N : Nat) (p0 : ApiProblem) (r : Int) (h : Sh.sheaveref35_ValidProblem N p0 = some r) : Contract Try.prog 50 [.e (.agg [.pure (.sl (p0.fVersions.map eI64)), .pure (.sl (p0.fNow.map eI64)), .pure (.sl (p0.fTarget.map eI64)), .pure (.sl (p0.fTables.map eApiTable))])] [] (.e (.one (.pure (.val (.int .i64 r))))) := by
  unfold Sh.sheaveref35_ValidProblem at h
  refine contract_of_W (n := 102) (rs := [.tmp 2]) Try.func50 rfl rfl rfl (leb rfl) (leb rfl) rfl fun w0 S0 => ?_
  refine W_seq ?_
  refine W_region mixed rfl ?_
  refine r_box (.p rfl) rfl rfl ?_
  refine r_assign (.p rfl) rfl ?_
  refine r_end ?_
  refine W_seq ?_
  refine W_join h (fun v1 => mk [(1, .e (.one (.ptr 1 0))), (16, .e (.one (.pure (.val (.bool v1)))))] [(1, .box [.pure (.sl (p0.fVersions.map eI64)), .pure (.sl (p0.fNow.map eI64)), .pure (.sl (p0.fTarget.map eI64)), .pure (.sl (p0.fTables.map eApiTable))])]) (fun j1 h => ?_) (fun v1 h => ?_)
  · refine W_region mixed rfl ?_
    refine r_fieldAddr (.p rfl) rfl fld31_0 ?_
    refine r_load1 (.p rfl) rfl ag28 rfl rfl ?_
    refine r_len (.p rfl) rfl (.sl _) trivial (List.length_map _) slc28 ?_
    refine r_bin (.p rfl) rfl rfl (bin_gtr _ _ _ _ _ _) rfl ?_
    refine r_move (.p rfl) rfl ?_
    refine r_split (t := 11) rfl (fun c2 => ?_) (fun c2 => ?_)
    · have h := cnd_t c2 h
      refine r_notB rfl rfl ?_
      refine r_notB rfl rfl ?_
      refine r_notB rfl rfl ?_
      refine r_notB rfl rfl ?_
      refine r_pick (.p rfl) rfl rfl rfl ?_
      refine r_end ?_
      exact sink true h (sees_mkL (rn []) _ _ ⟨rfl, rfl, trivial⟩ ⟨rfl, trivial⟩ rfl rfl)
    · have h := cnd_f c2 h
      refine r_fieldAddr (.g rfl rfl) rfl fld31_3 ?_
      refine r_load1 (.g rfl rfl) rfl ag29 rfl rfl ?_
      refine r_len (.g rfl rfl) rfl (.sl _) trivial (List.length_map _) slc29 ?_
      refine r_bin (.g rfl rfl) rfl rfl (bin_gtr _ _ _ _ _ _) rfl ?_
      refine r_pick (.p rfl) rfl rfl rfl ?_
      refine r_end ?_
      exact sink (decide (12 < (p0.fTables.length : Int))) h (sees_mkL (rn []) _ _ ⟨rfl, rfl, trivial⟩ ⟨rfl, trivial⟩ rfl rfl)
  · refine W_cond rfl (fun c3 => ?_) (fun c3 => ?_)
    · have h := cnd_t c3 h
      refine W_seq ?_
      refine W_region mixed rfl ?_
      refine r_assign (.p rfl) rfl ?_
      refine r_end ?_
      obtain rfl := Option.some.inj h
      refine W_sees (sees_mkL (rn []) [(2, .e (.one (.pure (.val (.int .i64 3)))))] [] ⟨rfl, trivial⟩ trivial rfl rfl) (W_ret ?_)
      exact ⟨⟨[_], ⟨.tmp _ _ rfl, trivial⟩, rfl⟩, trivial⟩
    · have h := cnd_f c3 h
      refine W_skip ?_
      refine W_seq ?_
      refine W_join h (fun v4 => mk [(1, .e (.one (.ptr 1 0))), (32, .e (.one (.pure (.val (.bool v4)))))] [(1, .box [.pure (.sl (p0.fVersions.map eI64)), .pure (.sl (p0.fNow.map eI64)), .pure (.sl (p0.fTarget.map eI64)), .pure (.sl (p0.fTables.map eApiTable))])]) (fun j4 h => ?_) (fun v4 h => ?_)
      · refine W_region mixed rfl ?_
        refine r_fieldAddr (.p rfl) rfl fld31_1 ?_
        refine r_load1 (.p rfl) rfl ag28 rfl rfl ?_
        refine r_len (.p rfl) rfl (.sl _) trivial (List.length_map _) slc28 ?_
        refine r_fieldAddr (.p rfl) rfl fld31_0 ?_
        refine r_load1 (.p rfl) rfl ag28 rfl rfl ?_
        refine r_len (.p rfl) rfl (.sl _) trivial (List.length_map _) slc28 ?_
        refine r_bin (.p rfl) rfl rfl (bin_neq _ _ _ _ _ _) rfl ?_
        refine r_move (.p rfl) rfl ?_
        refine r_split (t := 24) rfl (fun c5 => ?_) (fun c5 => ?_)
        · have h := cnd_t c5 h
          refine r_notB rfl rfl ?_
          refine r_notB rfl rfl ?_
          refine r_notB rfl rfl ?_
          refine r_notB rfl rfl ?_
          refine r_notB rfl rfl ?_
          refine r_notB rfl rfl ?_
          refine r_notB rfl rfl ?_
          refine r_pick (.p rfl) rfl rfl rfl ?_
          refine r_end ?_
          exact sink true h (sees_mkL (rn []) _ _ ⟨rfl, rfl, trivial⟩ ⟨rfl, trivial⟩ rfl rfl)
        · have h := cnd_f c5 h
          refine r_fieldAddr (.g rfl rfl) rfl fld31_2 ?_
          refine r_load1 (.g rfl rfl) rfl ag28 rfl rfl ?_
          refine r_len (.g rfl rfl) rfl (.sl _) trivial (List.length_map _) slc28 ?_
          refine r_fieldAddr (.g rfl rfl) rfl fld31_0 ?_
          refine r_load1 (.g rfl rfl) rfl ag28 rfl rfl ?_
          refine r_len (.g rfl rfl) rfl (.sl _) trivial (List.length_map _) slc28 ?_
          refine r_bin (.g rfl rfl) rfl rfl (bin_neq _ _ _ _ _ _) rfl ?_
          refine r_pick (.p rfl) rfl rfl rfl ?_
          refine r_end ?_
          exact sink ((p0.fTarget.length : Int) != (p0.fVersions.length : Int)) h (sees_mkL (rn []) _ _ ⟨rfl, rfl, trivial⟩ ⟨rfl, trivial⟩ rfl rfl)
      · refine W_cond rfl (fun c6 => ?_) (fun c6 => ?_)
        · have h := cnd_t c6 h
          refine W_seq ?_
          refine W_region mixed rfl ?_
          refine r_assign (.p rfl) rfl ?_
          refine r_end ?_
          obtain rfl := Option.some.inj h
          refine W_sees (sees_mkL (rn []) [(2, .e (.one (.pure (.val (.int .i64 6)))))] [] ⟨rfl, trivial⟩ trivial rfl rfl) (W_ret ?_)
          exact ⟨⟨[_], ⟨.tmp _ _ rfl, trivial⟩, rfl⟩, trivial⟩
        · have h := cnd_f c6 h
          refine W_skip ?_
          refine W_seq ?_
          refine W_seq ?_
          refine W_region mixed rfl ?_
          refine r_assign (.p rfl) rfl ?_
          refine r_end ?_
          refine W_whileE (L := Sh.sheaveref35_ValidProblem_L7 N p0) h (fun v7 => mk [(1, .e (.one (.ptr 1 0))), (3, .e (.one (.pure (.val (.int .i64 v7)))))] [(1, .box [.pure (.sl (p0.fVersions.map eI64)), .pure (.sl (p0.fNow.map eI64)), .pure (.sl (p0.fTarget.map eI64)), .pure (.sl (p0.fTables.map eApiTable))])]) (fun v8 => mk [(1, .e (.one (.ptr 1 0)))] [(1, .box [.pure (.sl (p0.fVersions.map eI64)), .pure (.sl (p0.fNow.map eI64)), .pure (.sl (p0.fTarget.map eI64)), .pure (.sl (p0.fTables.map eApiTable))])]) (fun _ _ => rfl) (sees_mkL (rn []) _ _ ⟨rfl, rfl, trivial⟩ ⟨rfl, trivial⟩ rfl rfl) (fun j7 n7 v7 h => ?_) (fun v8 s h hs => ?_)
          · unfold Sh.sheaveref35_ValidProblem_L7 at h
            refine W_seq ?_
            refine W_seq ?_
            refine W_region mixed rfl ?_
            refine r_move (.p rfl) rfl ?_
            refine r_fieldAddr (.p rfl) rfl fld31_0 ?_
            refine r_load1 (.p rfl) rfl ag28 rfl rfl ?_
            refine r_len (.p rfl) rfl (.sl _) trivial (List.length_map _) slc28 ?_
            refine r_bin (.p rfl) rfl rfl (bin_lss _ _ _ _ _ _) rfl ?_
            refine r_end ?_
            refine W_cond rfl (fun c9 => ?_) (fun c9 => ?_)
            · have h := cnd_t c9 h
              refine W_skip ?_
              refine W_seq ?_
              refine W_block ?_
              refine W_seq ?_
              refine W_region mixed rfl ?_
              refine r_fieldAddr (.p rfl) rfl fld31_0 ?_
              refine r_load1 (.p rfl) rfl ag28 rfl rfl ?_
              refine r_move (.p rfl) rfl ?_
              obtain ⟨v10, a10, b10, h⟩ := idx_bind h
              refine r_index (.p rfl) rfl rfl slc28 sz3 a10 (map_get b10) rfl ?_
              refine r_loadr1 (.p rfl) rfl ag3 rfl ?_
              refine r_assign (.p rfl) rfl ?_
              refine r_end ?_
              refine W_join h (fun v11 => mk [(1, .e (.one (.ptr 1 0))), (3, .e (.one (.pure (.val (.int .i64 v7))))), (84, .e (.one (.pure (.val (.bool v11)))))] [(1, .box [.pure (.sl (p0.fVersions.map eI64)), .pure (.sl (p0.fNow.map eI64)), .pure (.sl (p0.fTarget.map eI64)), .pure (.sl (p0.fTables.map eApiTable))])]) (fun j11 h => ?_) (fun v11 h => ?_)
              · refine W_region mixed rfl ?_
                refine r_move (.p rfl) rfl ?_
                refine r_bin (.p rfl) rfl rfl (bin_lss _ _ _ _ _ _) rfl ?_
                refine r_move (.p rfl) rfl ?_
                refine r_split (t := 47) rfl (fun c12 => ?_) (fun c12 => ?_)
                · have h := cnd_t c12 h
                  refine r_notB rfl rfl ?_
                  refine r_notB rfl rfl ?_
                  refine r_pick (.p rfl) rfl rfl rfl ?_
                  refine r_move (.p rfl) rfl ?_
                  refine r_notB rfl rfl ?_
                  refine r_notB rfl rfl ?_
                  refine r_notB rfl rfl ?_
                  refine r_notB rfl rfl ?_
                  refine r_notB rfl rfl ?_
                  refine r_notB rfl rfl ?_
                  refine r_pick (.p rfl) rfl rfl rfl ?_
                  refine r_move (.p rfl) rfl ?_
                  refine r_notB rfl rfl ?_
                  refine r_notB rfl rfl ?_
                  refine r_notB rfl rfl ?_
                  refine r_notB rfl rfl ?_
                  refine r_notB rfl rfl ?_
                  refine r_notB rfl rfl ?_
                  refine r_notB rfl rfl ?_
                  refine r_pick (.p rfl) rfl rfl rfl ?_
                  refine r_move (.p rfl) rfl ?_
                  refine r_notB rfl rfl ?_
                  refine r_notB rfl rfl ?_
                  refine r_notB rfl rfl ?_
                  refine r_notB rfl rfl ?_
                  refine r_notB rfl rfl ?_
                  refine r_notB rfl rfl ?_
                  refine r_pick (.p rfl) rfl rfl rfl ?_
                  refine r_move (.p rfl) rfl ?_
                  refine r_notB rfl rfl ?_
                  refine r_notB rfl rfl ?_
                  refine r_notB rfl rfl ?_
                  refine r_notB rfl rfl ?_
                  refine r_notB rfl rfl ?_
                  refine r_notB rfl rfl ?_
                  refine r_notB rfl rfl ?_
                  refine r_pick (.p rfl) rfl rfl rfl ?_
                  refine r_end ?_
                  exact sink true h (sees_mkL (rn []) _ _ ⟨rfl, rfl, rfl, trivial⟩ ⟨rfl, trivial⟩ rfl rfl)
                · have h := cnd_f c12 h
                  refine r_move (.g rfl rfl) rfl ?_
                  refine r_bin (.g rfl rfl) rfl rfl (bin_gtr _ _ _ _ _ _) rfl ?_
                  refine r_pick (.p rfl) rfl rfl rfl ?_
                  refine r_move (.p rfl) rfl ?_
                  refine r_split (t := 51) rfl (fun c13 => ?_) (fun c13 => ?_)
                  · have h := cnd_t c13 h
                    refine r_notB rfl rfl ?_
                    refine r_notB rfl rfl ?_
                    refine r_notB rfl rfl ?_
                    refine r_notB rfl rfl ?_
                    refine r_notB rfl rfl ?_
                    refine r_notB rfl rfl ?_
                    refine r_pick (.p rfl) rfl rfl rfl ?_
                    refine r_move (.p rfl) rfl ?_
                    refine r_notB rfl rfl ?_
                    refine r_notB rfl rfl ?_
                    refine r_notB rfl rfl ?_
                    refine r_notB rfl rfl ?_
                    refine r_notB rfl rfl ?_
                    refine r_notB rfl rfl ?_
                    refine r_notB rfl rfl ?_
                    refine r_pick (.p rfl) rfl rfl rfl ?_
                    refine r_move (.p rfl) rfl ?_
                    refine r_notB rfl rfl ?_
                    refine r_notB rfl rfl ?_
                    refine r_notB rfl rfl ?_
                    refine r_notB rfl rfl ?_
                    refine r_notB rfl rfl ?_
                    refine r_notB rfl rfl ?_
                    refine r_pick (.p rfl) rfl rfl rfl ?_
                    refine r_move (.p rfl) rfl ?_
                    refine r_notB rfl rfl ?_
                    refine r_notB rfl rfl ?_
                    refine r_notB rfl rfl ?_
                    refine r_notB rfl rfl ?_
                    refine r_notB rfl rfl ?_
                    refine r_notB rfl rfl ?_
                    refine r_notB rfl rfl ?_
                    refine r_pick (.p rfl) rfl rfl rfl ?_
                    refine r_end ?_
                    exact sink true h (sees_mkL (rn []) _ _ ⟨rfl, rfl, rfl, trivial⟩ ⟨rfl, trivial⟩ rfl rfl)
                  · have h := cnd_f c13 h
                    refine r_fieldAddr (.g rfl rfl) rfl fld31_1 ?_
                    refine r_load1 (.g rfl rfl) rfl ag28 rfl rfl ?_
                    refine r_move (.g rfl rfl) rfl ?_
                    obtain ⟨v14, a14, b14, h⟩ := idx_bind h
                    refine r_index (.g rfl rfl) rfl rfl slc28 sz3 a14 (map_get b14) rfl ?_
                    refine r_loadr1 (.g rfl rfl) rfl ag3 rfl ?_
                    refine r_bin (.g rfl rfl) rfl rfl (bin_lss _ _ _ _ _ _) rfl ?_
                    refine r_pick (.p rfl) rfl rfl rfl ?_
                    refine r_move (.p rfl) rfl ?_
                    refine r_split (t := 59) rfl (fun c15 => ?_) (fun c15 => ?_)
                    · have h := cnd_t c15 h
                      refine r_notB rfl rfl ?_
                      refine r_notB rfl rfl ?_
                      refine r_notB rfl rfl ?_
                      refine r_notB rfl rfl ?_
                      refine r_notB rfl rfl ?_
                      refine r_notB rfl rfl ?_
                      refine r_notB rfl rfl ?_
                      refine r_pick (.p rfl) rfl rfl rfl ?_
                      refine r_move (.p rfl) rfl ?_
                      refine r_notB rfl rfl ?_
                      refine r_notB rfl rfl ?_
                      refine r_notB rfl rfl ?_
                      refine r_notB rfl rfl ?_
                      refine r_notB rfl rfl ?_
                      refine r_notB rfl rfl ?_
                      refine r_pick (.p rfl) rfl rfl rfl ?_
                      refine r_move (.p rfl) rfl ?_
                      refine r_notB rfl rfl ?_
                      refine r_notB rfl rfl ?_
                      refine r_notB rfl rfl ?_
                      refine r_notB rfl rfl ?_
                      refine r_notB rfl rfl ?_
                      refine r_notB rfl rfl ?_
                      refine r_notB rfl rfl ?_
                      refine r_pick (.p rfl) rfl rfl rfl ?_
                      refine r_end ?_
                      exact sink true h (sees_mkL (rn []) _ _ ⟨rfl, rfl, rfl, trivial⟩ ⟨rfl, trivial⟩ rfl rfl)
                    · have h := cnd_f c15 h
                      refine r_fieldAddr (.g rfl rfl) rfl fld31_1 ?_
                      refine r_load1 (.g rfl rfl) rfl ag28 rfl rfl ?_
                      refine r_move (.g rfl rfl) rfl ?_
                      obtain ⟨v16, a16, b16, h⟩ := idx_bind h
                      refine r_index (.g rfl rfl) rfl rfl slc28 sz3 a16 (map_get b16) rfl ?_
                      refine r_loadr1 (.g rfl rfl) rfl ag3 rfl ?_
                      refine r_move (.g rfl rfl) rfl ?_
                      refine r_bin (.g rfl rfl) rfl rfl (bin_geq _ _ _ _ _ _) rfl ?_
                      refine r_pick (.p rfl) rfl rfl rfl ?_
                      refine r_move (.p rfl) rfl ?_
                      refine r_split (t := 68) rfl (fun c17 => ?_) (fun c17 => ?_)
                      · have h := cnd_t c17 h
                        refine r_notB rfl rfl ?_
                        refine r_notB rfl rfl ?_
                        refine r_notB rfl rfl ?_
                        refine r_notB rfl rfl ?_
                        refine r_notB rfl rfl ?_
                        refine r_notB rfl rfl ?_
                        refine r_pick (.p rfl) rfl rfl rfl ?_
                        refine r_move (.p rfl) rfl ?_
                        refine r_notB rfl rfl ?_
                        refine r_notB rfl rfl ?_
                        refine r_notB rfl rfl ?_
                        refine r_notB rfl rfl ?_
                        refine r_notB rfl rfl ?_
                        refine r_notB rfl rfl ?_
                        refine r_notB rfl rfl ?_
                        refine r_pick (.p rfl) rfl rfl rfl ?_
                        refine r_end ?_
                        exact sink true h (sees_mkL (rn []) _ _ ⟨rfl, rfl, rfl, trivial⟩ ⟨rfl, trivial⟩ rfl rfl)
                      · have h := cnd_f c17 h
                        refine r_fieldAddr (.g rfl rfl) rfl fld31_2 ?_
                        refine r_load1 (.g rfl rfl) rfl ag28 rfl rfl ?_
                        refine r_move (.g rfl rfl) rfl ?_
                        obtain ⟨v18, a18, b18, h⟩ := idx_bind h
                        refine r_index (.g rfl rfl) rfl rfl slc28 sz3 a18 (map_get b18) rfl ?_
                        refine r_loadr1 (.g rfl rfl) rfl ag3 rfl ?_
                        refine r_bin (.g rfl rfl) rfl rfl (bin_lss _ _ _ _ _ _) rfl ?_
                        refine r_pick (.p rfl) rfl rfl rfl ?_
                        refine r_move (.p rfl) rfl ?_
                        refine r_split (t := 76) rfl (fun c19 => ?_) (fun c19 => ?_)
                        · have h := cnd_t c19 h
                          refine r_notB rfl rfl ?_
                          refine r_notB rfl rfl ?_
                          refine r_notB rfl rfl ?_
                          refine r_notB rfl rfl ?_
                          refine r_notB rfl rfl ?_
                          refine r_notB rfl rfl ?_
                          refine r_notB rfl rfl ?_
                          refine r_pick (.p rfl) rfl rfl rfl ?_
                          refine r_end ?_
                          exact sink true h (sees_mkL (rn []) _ _ ⟨rfl, rfl, rfl, trivial⟩ ⟨rfl, trivial⟩ rfl rfl)
                        · have h := cnd_f c19 h
                          refine r_fieldAddr (.g rfl rfl) rfl fld31_2 ?_
                          refine r_load1 (.g rfl rfl) rfl ag28 rfl rfl ?_
                          refine r_move (.g rfl rfl) rfl ?_
                          obtain ⟨v20, a20, b20, h⟩ := idx_bind h
                          refine r_index (.g rfl rfl) rfl rfl slc28 sz3 a20 (map_get b20) rfl ?_
                          refine r_loadr1 (.g rfl rfl) rfl ag3 rfl ?_
                          refine r_move (.g rfl rfl) rfl ?_
                          refine r_bin (.g rfl rfl) rfl rfl (bin_geq _ _ _ _ _ _) rfl ?_
                          refine r_pick (.p rfl) rfl rfl rfl ?_
                          refine r_end ?_
                          exact sink (decide (v10 ≤ v20)) h (sees_mkL (rn []) _ _ ⟨rfl, rfl, rfl, trivial⟩ ⟨rfl, trivial⟩ rfl rfl)
              · refine W_cond rfl (fun c21 => ?_) (fun c21 => ?_)
                · have h := cnd_t c21 h
                  refine W_seq ?_
                  refine W_region mixed rfl ?_
                  refine r_assign (.p rfl) rfl ?_
                  refine r_end ?_
                  obtain rfl := Option.some.inj h
                  refine W_sees (sees_mkL (rn []) [(2, .e (.one (.pure (.val (.int .i64 7)))))] [] ⟨rfl, trivial⟩ trivial rfl rfl) (W_ret ?_)
                  exact ⟨⟨[_], ⟨.tmp _ _ rfl, trivial⟩, rfl⟩, trivial⟩
                · have h := cnd_f c21 h
                  refine W_skip ?_
                  refine W_region mixed rfl ?_
                  refine r_move (.p rfl) rfl ?_
                  refine r_bin (.p rfl) rfl rfl (bin_add _ _ _ _ _ _) rfl ?_
                  refine r_assign (.p rfl) rfl ?_
                  refine r_end ?_
                  exact sink (IntKind.wrap .i64 (v7 + 1)) h (sees_mkL (rn []) _ _ ⟨rfl, rfl, trivial⟩ ⟨rfl, trivial⟩ rfl rfl)
            · have h := cnd_f c9 h
              refine W_exit ?_
              exact sink () h (sees_mkL (rn []) _ _ ⟨rfl, trivial⟩ ⟨rfl, trivial⟩ rfl rfl)
          · refine W_sees hs ?_
            refine W_seq ?_
            refine W_seq ?_
            refine W_region mixed rfl ?_
            refine r_assign (.p rfl) rfl ?_
            refine r_end ?_
            refine W_whileE (L := Sh.sheaveref35_ValidProblem_L22 N p0) h (fun v22 => mk [(1, .e (.one (.ptr 1 0))), (5, .e (.one (.pure (.val (.int .i64 v22)))))] [(1, .box [.pure (.sl (p0.fVersions.map eI64)), .pure (.sl (p0.fNow.map eI64)), .pure (.sl (p0.fTarget.map eI64)), .pure (.sl (p0.fTables.map eApiTable))])]) (fun v23 => mk [] []) (fun _ _ => rfl) (sees_mkL (rn []) _ _ ⟨rfl, rfl, trivial⟩ ⟨rfl, trivial⟩ rfl rfl) (fun j22 n22 v22 h => ?_) (fun v23 s h hs => ?_)
            · unfold Sh.sheaveref35_ValidProblem_L22 at h
              refine W_seq ?_
              refine W_seq ?_
              refine W_region mixed rfl ?_
              refine r_move (.p rfl) rfl ?_
              refine r_fieldAddr (.p rfl) rfl fld31_3 ?_
              refine r_load1 (.p rfl) rfl ag29 rfl rfl ?_
              refine r_len (.p rfl) rfl (.sl _) trivial (List.length_map _) slc29 ?_
              refine r_bin (.p rfl) rfl rfl (bin_lss _ _ _ _ _ _) rfl ?_
              refine r_end ?_
              refine W_cond rfl (fun c24 => ?_) (fun c24 => ?_)
              · have h := cnd_t c24 h
                refine W_skip ?_
                refine W_seq ?_
                refine W_block ?_
                refine W_seq ?_
                refine W_region mixed rfl ?_
                refine r_loadN (.p rfl) rfl ag31 sz31 rfl rfl rfl ?_
                refine r_fieldAddr (.p rfl) rfl fld31_3 ?_
                refine r_load1 (.p rfl) rfl ag29 rfl rfl ?_
                refine r_move (.p rfl) rfl ?_
                obtain ⟨v25, a25, b25, h⟩ := idx_bind h
                refine r_index (.p rfl) rfl rfl slc29 sz61 a25 (map_get b25) rfl ?_
                refine r_loadrN (.p rfl) rfl ag61 sz61 rfl rfl ?_
                obtain ⟨v26, a26, h⟩ := bind_some h
                refine r_call (ds0 := [_, _]) [] (sheaveref35_table_c N p0 v25 v26 a26) (.p rfl) gd64 rfl ⟨rfl, rfl, trivial⟩ rfl rfl rfl (nodupL_spec rfl) trivial rfl ?_
                refine r_assign (.p rfl) rfl ?_
                refine r_endD (by kernel_rfl) ?_
                refine W_seq ?_
                refine W_region mixed rfl ?_
                refine r_move (.p rfl) rfl ?_
                refine r_bin (.p rfl) rfl rfl (bin_neq _ _ _ _ _ _) rfl ?_
                refine r_end ?_
                refine W_cond rfl (fun c27 => ?_) (fun c27 => ?_)
                · have h := cnd_t c27 h
                  refine W_seq ?_
                  refine W_region mixed rfl ?_
                  refine r_move (.p rfl) rfl ?_
                  refine r_assign (.p rfl) rfl ?_
                  refine r_end ?_
                  obtain rfl := Option.some.inj h
                  refine W_sees (sees_mkL (rn []) [(2, .e (.one (.pure (.val (.int .i64 v26)))))] [] ⟨rfl, trivial⟩ trivial rfl rfl) (W_ret ?_)
                  exact ⟨⟨[_], ⟨.tmp _ _ rfl, trivial⟩, rfl⟩, trivial⟩
                · have h := cnd_f c27 h
                  refine W_skip ?_
                  refine W_region mixed rfl ?_
                  refine r_move (.p rfl) rfl ?_
                  refine r_bin (.p rfl) rfl rfl (bin_add _ _ _ _ _ _) rfl ?_
                  refine r_assign (.p rfl) rfl ?_
                  refine r_end ?_
                  exact sink (IntKind.wrap .i64 (v22 + 1)) h (sees_mkL (rn []) _ _ ⟨rfl, rfl, trivial⟩ ⟨rfl, trivial⟩ rfl rfl)
              · have h := cnd_f c24 h
                refine W_exit ?_
                exact sink () h (sees_mkL (rn []) _ _ trivial trivial rfl rfl)
            · refine W_sees hs ?_
              refine W_seq ?_
              refine W_region mixed rfl ?_
              refine r_assign (.p rfl) rfl ?_
              refine r_end ?_
              obtain rfl := Option.some.inj h
              refine W_sees (sees_mkL (rn []) [(2, .e (.one (.pure (.val (.int .i64 0)))))] [] ⟨rfl, trivial⟩ trivial rfl rfl) (W_ret ?_)
              exact ⟨⟨[_], ⟨.tmp _ _ rfl, trivial⟩, rfl⟩, trivial⟩
set_option maxRecDepth 10000 in
theorem sheaveref36_Start_c (N : Nat) (p0 : ApiProblem) (r : ApiMix × Int) (h : Sh.sheaveref36_Start N p0 = some r) : Contract Try.prog 36 [.e (.agg [.pure (.sl (p0.fVersions.map eI64)), .pure (.sl (p0.fNow.map eI64)), .pure (.sl (p0.fTarget.map eI64)), .pure (.sl (p0.fTables.map eApiTable))])] [(1, r.1.fBase.map eI64), (1, r.1.fNext.map eI64), (1, r.1.fHeld.map eU8)] (.tup [.agg [.own 0, .own 1, .own 2], .one (.pure (.val (.int .i64 r.2)))]) := by
  unfold Sh.sheaveref36_Start at h
  refine contract_of_W (n := 68) (rs := [.cell 2 37, .tmp 3]) Try.func36 rfl rfl rfl (leb rfl) (leb rfl) rfl fun w0 S0 => ?_
  refine W_seq ?_
  refine W_region mixed rfl ?_
  refine r_box (.p rfl) rfl rfl ?_
  refine r_alloc (.p rfl) zv37 rfl rfl rfl ?_
  refine r_assign (.p rfl) rfl ?_
  refine r_end ?_
  refine W_seq ?_
  refine W_seq ?_
  refine W_region mixed rfl ?_
  refine r_loadN (.p rfl) rfl ag31 sz31 rfl rfl rfl ?_
  obtain ⟨v1, a1, h⟩ := bind_some h
  refine r_call (ds0 := [_]) [] (sheaveref35_ValidProblem_c N p0 v1 a1) (.p rfl) gd50 rfl ⟨rfl, trivial⟩ rfl rfl rfl (nodupL_spec rfl) trivial rfl ?_
  refine r_assign (.p rfl) rfl ?_
  refine r_end ?_
  refine W_seq ?_
  refine W_region mixed rfl ?_
  refine r_move (.p rfl) rfl ?_
  refine r_bin (.p rfl) rfl rfl (bin_neq _ _ _ _ _ _) rfl ?_
  refine r_end ?_
  refine W_cond rfl (fun c2 => ?_) (fun c2 => ?_)
  · have h := cnd_t c2 h
    refine W_seq ?_
    refine W_region mixed rfl ?_
    refine r_build [] (.p rfl) rfl trivial zv37 rfl rfl pl37 rfl ?_
    refine r_move (.p rfl) rfl ?_
    refine r_store rfl rfl rfl rfl sz37 rfl (leb rfl) rfl ?_
    refine r_assign (.p rfl) rfl ?_
    refine r_end ?_
    obtain rfl := Option.some.inj h
    refine W_sees ((sees_adoptB 2 0 2001 1 _ rfl rfl rfl rfl).trans ((sees_adoptB 2 1 2002 1 _ rfl rfl rfl rfl).trans ((sees_adoptB 2 2 2003 1 _ rfl rfl rfl rfl).trans (sees_mkL (rn [(1000, 2001), (1001, 2002), (1002, 2003)]) [(2, .e (.one (.ptr 2 0))), (3, .e (.one (.pure (.val (.int .i64 v1)))))] [(2, .box [.own 1000, .own 1001, .own 1002]), (1000, .vec 1 ((([] : List Int)).map eI64)), (1001, .vec 1 ((([] : List Int)).map eI64)), (1002, .vec 1 ((([] : List Int)).map eU8))] ⟨rfl, rfl, trivial⟩ ⟨rfl, rfl, rfl, rfl, trivial⟩ rfl rfl)))) (W_ret ?_)
    exact ⟨⟨[_, _], ⟨.cellN _ _ _ _ _ _ _ rfl rfl ag37 sz37 rfl rfl (ltb rfl), ⟨.tmp _ _ rfl, trivial⟩⟩, rfl⟩, ⟨rfl, rfl, rfl, trivial⟩⟩
  · have h := cnd_f c2 h
    refine W_skip ?_
    refine W_seq ?_
    refine W_region mixed rfl ?_
    refine r_alloc (.p rfl) zv37 rfl rfl rfl ?_
    refine r_end ?_
    refine W_seq ?_
    refine W_seq ?_
    refine W_region mixed rfl ?_
    refine r_assign (.p rfl) rfl ?_
    refine r_end ?_
    refine W_whileE (L := Sh.sheaveref36_Start_L3 N p0) h (fun v3 => mk [(1, .e (.one (.ptr 1 0))), (2, .e (.one (.ptr 2 0))), (5, .e (.one (.ptr 5 0))), (6, .e (.one (.pure (.val (.int .i64 v3.2.2)))))] [(1, .box [.pure (.sl (p0.fVersions.map eI64)), .pure (.sl (p0.fNow.map eI64)), .pure (.sl (p0.fTarget.map eI64)), .pure (.sl (p0.fTables.map eApiTable))]), (2, .box [.pure (.nil0), .pure (.nil0), .pure (.nil0)]), (5, .box [.own 2004, .own 2005, .pure (.nil0)]), (2004, .vec 1 (v3.1.map eI64)), (2005, .vec 1 (v3.2.1.map eI64))]) (fun v4 => mk [(1, .e (.one (.ptr 1 0))), (2, .e (.one (.ptr 2 0))), (5, .e (.one (.ptr 5 0)))] [(1, .box [.pure (.sl (p0.fVersions.map eI64)), .pure (.sl (p0.fNow.map eI64)), .pure (.sl (p0.fTarget.map eI64)), .pure (.sl (p0.fTables.map eApiTable))]), (2, .box [.pure (.nil0), .pure (.nil0), .pure (.nil0)]), (5, .box [.own 2006, .own 2007, .pure (.nil0)]), (2006, .vec 1 (v4.1.map eI64)), (2007, .vec 1 (v4.2.map eI64))]) (fun _ _ => rfl) ((sees_adoptB 5 0 2008 1 _ rfl rfl rfl rfl).trans ((sees_adoptB 5 1 2009 1 _ rfl rfl rfl rfl).trans (sees_mkL (rn [(2004, 2008), (2005, 2009)]) _ _ ⟨rfl, rfl, rfl, rfl, trivial⟩ ⟨rfl, rfl, rfl, rfl, rfl, trivial⟩ rfl rfl))) (fun j3 n3 v3 h => ?_) (fun v4 s h hs => ?_)
    · unfold Sh.sheaveref36_Start_L3 at h
      refine W_seq ?_
      refine W_seq ?_
      refine W_region mixed rfl ?_
      refine r_move (.p rfl) rfl ?_
      refine r_fieldAddr (.p rfl) rfl fld31_0 ?_
      refine r_load1 (.p rfl) rfl ag28 rfl rfl ?_
      refine r_len (.p rfl) rfl (.sl _) trivial (List.length_map _) slc28 ?_
      refine r_bin (.p rfl) rfl rfl (bin_lss _ _ _ _ _ _) rfl ?_
      refine r_end ?_
      refine W_cond rfl (fun c5 => ?_) (fun c5 => ?_)
      · have h := cnd_t c5 h
        refine W_skip ?_
        refine W_seq ?_
        refine W_block ?_
        refine W_seq ?_
        refine W_region mixed rfl ?_
        refine r_fieldAddr (.p rfl) rfl fld37_0 ?_
        refine r_load1 (.p rfl) rfl ag28 rfl rfl ?_
        refine r_fieldAddr (.p rfl) rfl fld31_1 ?_
        refine r_load1 (.p rfl) rfl ag28 rfl rfl ?_
        refine r_move (.p rfl) rfl ?_
        obtain ⟨v6, a6, b6, h⟩ := idx_bind h
        refine r_index (.p rfl) rfl rfl slc28 sz3 a6 (map_get b6) rfl ?_
        refine r_loadr1 (.p rfl) rfl ag3 rfl ?_
        refine r_buildSlice [(0, .tmp 28, _)] (.p rfl) rfl ⟨rfl, trivial⟩ rfl slc28 sz3 zv3 rfl rfl (leb rfl) rfl rfl ?_
        obtain ⟨c7, h⟩ := chk_bind h
        refine r_append (.p rfl) rfl (.own _ _ _) ⟨rfl, trivial⟩ rfl (.own _ _ _) ⟨rfl, trivial⟩ rfl slc28 slc28 sz3 byt3 (leb rfl) zv3 rfl (len_lim (f := eI64) (g := eI64) (xs := v3.1) (ys := (([v6] : List Int))) c7) (map_app eI64 v3.1 (([v6] : List Int))) rfl ?_
        refine r_fieldAddr (.p rfl) rfl fld37_0 ?_
        refine r_store rfl rfl rfl rfl sz28 rfl (leb rfl) rfl ?_
        refine r_endD (by kernel_rfl) ?_
        refine W_region mixed rfl ?_
        refine r_fieldAddr (.p rfl) rfl fld37_1 ?_
        refine r_load1 (.p rfl) rfl ag28 rfl rfl ?_
        refine r_buildSlice [(0, .const (.int .i64 (-1)), _)] (.p rfl) rfl ⟨rfl, trivial⟩ rfl slc28 sz3 zv3 rfl rfl (leb rfl) rfl rfl ?_
        obtain ⟨c8, h⟩ := chk_bind h
        refine r_append (.p rfl) rfl (.own _ _ _) ⟨rfl, trivial⟩ rfl (.own _ _ _) ⟨rfl, trivial⟩ rfl slc28 slc28 sz3 byt3 (leb rfl) zv3 rfl (len_lim (f := eI64) (g := eI64) (xs := v3.2.1) (ys := (([(-1)] : List Int))) c8) (map_app eI64 v3.2.1 (([(-1)] : List Int))) rfl ?_
        refine r_fieldAddr (.p rfl) rfl fld37_1 ?_
        refine r_store rfl rfl rfl rfl sz28 rfl (leb rfl) rfl ?_
        refine r_end ?_
        refine W_region mixed rfl ?_
        refine r_move (.p rfl) rfl ?_
        refine r_bin (.p rfl) rfl rfl (bin_add _ _ _ _ _ _) rfl ?_
        refine r_assign (.p rfl) rfl ?_
        refine r_end ?_
        exact sink (v3.1 ++ (([v6] : List Int)), v3.2.1 ++ (([(-1)] : List Int)), (IntKind.wrap .i64 (v3.2.2 + 1))) h (sees_mkL (rn [(2004, 30), (2005, 35)]) _ _ ⟨rfl, rfl, rfl, rfl, trivial⟩ ⟨rfl, rfl, rfl, rfl, rfl, trivial⟩ rfl rfl)
      · have h := cnd_f c5 h
        refine W_exit ?_
        exact sink (v3.1, v3.2.1) h (sees_mkL (rn [(2006, 2004), (2007, 2005)]) _ _ ⟨rfl, rfl, rfl, trivial⟩ ⟨rfl, rfl, rfl, rfl, rfl, trivial⟩ rfl rfl)
    · refine W_sees hs ?_
      refine W_seq ?_
      refine W_seq ?_
      refine W_region mixed rfl ?_
      refine r_assign (.p rfl) rfl ?_
      refine r_end ?_
      refine W_whileE (L := Sh.sheaveref36_Start_L9 N p0) h (fun v9 => mk [(1, .e (.one (.ptr 1 0))), (2, .e (.one (.ptr 2 0))), (5, .e (.one (.ptr 5 0))), (7, .e (.one (.pure (.val (.int .i64 v9.2)))))] [(1, .box [.pure (.sl (p0.fVersions.map eI64)), .pure (.sl (p0.fNow.map eI64)), .pure (.sl (p0.fTarget.map eI64)), .pure (.sl (p0.fTables.map eApiTable))]), (2, .box [.pure (.nil0), .pure (.nil0), .pure (.nil0)]), (5, .box [.own 2010, .own 2011, .own 2012]), (2010, .vec 1 (v4.1.map eI64)), (2011, .vec 1 (v4.2.map eI64)), (2012, .vec 1 (v9.1.map eU8))]) (fun v10 => mk [(2, .e (.one (.ptr 2 0))), (5, .e (.one (.ptr 5 0)))] [(2, .box [.pure (.nil0), .pure (.nil0), .pure (.nil0)]), (5, .box [.own 2013, .own 2014, .own 2015]), (2013, .vec 1 (v4.1.map eI64)), (2014, .vec 1 (v4.2.map eI64)), (2015, .vec 1 (v10.map eU8))]) (fun _ _ => rfl) ((sees_adoptB 5 2 2019 1 _ rfl rfl rfl rfl).trans (sees_mkL (rn [(2010, 2006), (2011, 2007), (2012, 2019)]) _ _ ⟨rfl, rfl, rfl, rfl, trivial⟩ ⟨rfl, rfl, rfl, rfl, rfl, rfl, trivial⟩ rfl rfl)) (fun j9 n9 v9 h => ?_) (fun v10 s h hs => ?_)
      · unfold Sh.sheaveref36_Start_L9 at h
        refine W_seq ?_
        refine W_seq ?_
        refine W_region mixed rfl ?_
        refine r_move (.p rfl) rfl ?_
        refine r_fieldAddr (.p rfl) rfl fld31_3 ?_
        refine r_load1 (.p rfl) rfl ag29 rfl rfl ?_
        refine r_len (.p rfl) rfl (.sl _) trivial (List.length_map _) slc29 ?_
        refine r_bin (.p rfl) rfl rfl (bin_lss _ _ _ _ _ _) rfl ?_
        refine r_end ?_
        refine W_cond rfl (fun c11 => ?_) (fun c11 => ?_)
        · have h := cnd_t c11 h
          refine W_skip ?_
          refine W_seq ?_
          refine W_block ?_
          refine W_seq ?_
          refine W_region mixed rfl ?_
          refine r_assign (.p rfl) rfl ?_
          refine r_end ?_
          refine W_join h (fun v12 => mk [(1, .e (.one (.ptr 1 0))), (2, .e (.one (.ptr 2 0))), (5, .e (.one (.ptr 5 0))), (7, .e (.one (.pure (.val (.int .i64 v9.2))))), (8, .e (.one (.pure (.val (.int .u8 v12)))))] [(1, .box [.pure (.sl (p0.fVersions.map eI64)), .pure (.sl (p0.fNow.map eI64)), .pure (.sl (p0.fTarget.map eI64)), .pure (.sl (p0.fTables.map eApiTable))]), (2, .box [.pure (.nil0), .pure (.nil0), .pure (.nil0)]), (5, .box [.own 2016, .own 2017, .own 2018]), (2016, .vec 1 (v4.1.map eI64)), (2017, .vec 1 (v4.2.map eI64)), (2018, .vec 1 (v9.1.map eU8))]) (fun j12 h => ?_) (fun v12 h => ?_)
          · refine W_seq ?_
            refine W_region mixed rfl ?_
            refine r_fieldAddr (.p rfl) rfl fld31_3 ?_
            refine r_load1 (.p rfl) rfl ag29 rfl rfl ?_
            refine r_move (.p rfl) rfl ?_
            obtain ⟨v13, a13, b13, h⟩ := idx_bind h
            refine r_index (.p rfl) rfl rfl slc29 sz61 a13 (map_get b13) rfl ?_
            refine r_loadrN (.p rfl) rfl ag61 sz61 rfl rfl ?_
            obtain ⟨v14, a14, h⟩ := bind_some h
            refine r_call (ds0 := [_]) [] (sheaveref35_Stored_c N v13 v14 a14) (.p rfl) gd38 rfl ⟨rfl, trivial⟩ rfl rfl rfl (nodupL_spec rfl) trivial rfl ?_
            refine r_end ?_
            refine W_cond rfl (fun c15 => ?_) (fun c15 => ?_)
            · have h := cnd_t c15 h
              refine W_region mixed rfl ?_
              refine r_fieldAddr (.p rfl) rfl fld31_1 ?_
              refine r_load1 (.p rfl) rfl ag28 rfl rfl ?_
              refine r_fieldAddr (.p rfl) rfl fld31_3 ?_
              refine r_load1 (.p rfl) rfl ag29 rfl rfl ?_
              refine r_move (.p rfl) rfl ?_
              obtain ⟨v16, a16, b16, h⟩ := idx_bind h
              refine r_index (.p rfl) rfl rfl slc29 sz61 a16 (map_get b16) rfl ?_
              refine r_fieldAddrr (.p rfl) rfl fld61_1 (leb rfl) rfl ?_
              refine r_loadr1 (.p rfl) rfl ag3 rfl ?_
              obtain ⟨v17, a17, b17, h⟩ := idx_bind h
              refine r_index (.p rfl) rfl rfl slc28 sz3 a17 (map_get b17) rfl ?_
              refine r_loadr1 (.p rfl) rfl ag3 rfl ?_
              obtain ⟨c18, h⟩ := chk_bind h
              refine r_bin (.p rfl) rfl rfl (bin_shl _ _ _ _ _ _ _ c18) rfl ?_
              refine r_assign (.p rfl) rfl ?_
              refine r_endD (by kernel_rfl) ?_
              exact sink (shlI .u8 1 v17) h (sees_mkL (rn [(2016, 2010), (2017, 2011), (2018, 2012)]) _ _ ⟨rfl, rfl, rfl, rfl, rfl, trivial⟩ ⟨rfl, rfl, rfl, rfl, rfl, rfl, trivial⟩ rfl rfl)
            · have h := cnd_f c15 h
              refine W_skip ?_
              exact sink 0 h (sees_mkL (rn [(2016, 2010), (2017, 2011), (2018, 2012)]) _ _ ⟨rfl, rfl, rfl, rfl, rfl, trivial⟩ ⟨rfl, rfl, rfl, rfl, rfl, rfl, trivial⟩ rfl rfl)
          · refine W_region mixed rfl ?_
            refine r_fieldAddr (.p rfl) rfl fld37_2 ?_
            refine r_load1 (.p rfl) rfl ag35 rfl rfl ?_
            refine r_move (.p rfl) rfl ?_
            refine r_buildSlice [(0, .tmp 63, _)] (.p rfl) rfl ⟨rfl, trivial⟩ rfl slc35 sz80 zv80 rfl rfl (leb rfl) rfl rfl ?_
            obtain ⟨c19, h⟩ := chk_bind h
            refine r_append (.p rfl) rfl (.own _ _ _) ⟨rfl, trivial⟩ rfl (.own _ _ _) ⟨rfl, trivial⟩ rfl slc35 slc35 sz80 byt80 (leb rfl) zv80 rfl (len_lim (f := eU8) (g := eU8) (xs := v9.1) (ys := (([v12] : List Int))) c19) (map_app eU8 v9.1 (([v12] : List Int))) rfl ?_
            refine r_fieldAddr (.p rfl) rfl fld37_2 ?_
            refine r_store rfl rfl rfl rfl sz35 rfl (leb rfl) rfl ?_
            refine r_end ?_
            refine W_region mixed rfl ?_
            refine r_move (.p rfl) rfl ?_
            refine r_bin (.p rfl) rfl rfl (bin_add _ _ _ _ _ _) rfl ?_
            refine r_assign (.p rfl) rfl ?_
            refine r_end ?_
            exact sink (v9.1 ++ (([v12] : List Int)), (IntKind.wrap .i64 (v9.2 + 1))) h (sees_mkL (rn [(2010, 2016), (2011, 2017), (2012, 65)]) _ _ ⟨rfl, rfl, rfl, rfl, trivial⟩ ⟨rfl, rfl, rfl, rfl, rfl, rfl, trivial⟩ rfl rfl)
        · have h := cnd_f c11 h
          refine W_exit ?_
          exact sink v9.1 h (sees_mkL (rn [(2013, 2010), (2014, 2011), (2015, 2012)]) _ _ ⟨rfl, rfl, trivial⟩ ⟨rfl, rfl, rfl, rfl, rfl, trivial⟩ rfl rfl)
      · refine W_sees hs ?_
        refine W_seq ?_
        refine W_region mixed rfl ?_
        refine r_loadN (.p rfl) rfl ag37 sz37 rfl rfl rfl ?_
        refine r_store rfl rfl rfl rfl sz37 rfl (leb rfl) rfl ?_
        refine r_assign (.p rfl) rfl ?_
        refine r_end ?_
        obtain rfl := Option.some.inj h
        refine W_sees (sees_mkL (rn [(1000, 2013), (1001, 2014), (1002, 2015)]) [(2, .e (.one (.ptr 2 0))), (3, .e (.one (.pure (.val (.int .i64 0)))))] [(2, .box [.own 1000, .own 1001, .own 1002]), (1000, .vec 1 (v4.1.map eI64)), (1001, .vec 1 (v4.2.map eI64)), (1002, .vec 1 (v10.map eU8))] ⟨rfl, rfl, trivial⟩ ⟨rfl, rfl, rfl, rfl, trivial⟩ rfl rfl) (W_ret ?_)
        exact ⟨⟨[_, _], ⟨.cellN _ _ _ _ _ _ _ rfl rfl ag37 sz37 rfl rfl (ltb rfl), ⟨.tmp _ _ rfl, trivial⟩⟩, rfl⟩, ⟨rfl, rfl, rfl, trivial⟩⟩
set_option maxRecDepth 10000 in
theorem sheavelaw36_MixStart_c (N : Nat) (p0 : ApiProblem) (r : Bool) (h : Sh.sheavelaw36_MixStart N p0 = some r) : Contract Try.prog 10 [.e (.agg [.pure (.sl (p0.fVersions.map eI64)), .pure (.sl (p0.fNow.map eI64)), .pure (.sl (p0.fTarget.map eI64)), .pure (.sl (p0.fTables.map eApiTable))])] [] (.e (.one (.pure (.val (.bool r))))) := by
  unfold Sh.sheavelaw36_MixStart at h
  refine contract_of_W (n := 43) (rs := [.tmp 2]) Try.func10 rfl rfl rfl (leb rfl) (leb rfl) rfl fun w0 S0 => ?_
  refine W_seq ?_
  refine W_region mixed rfl ?_
  refine r_box (.p rfl) rfl rfl ?_
  refine r_assign (.p rfl) rfl ?_
  refine r_end ?_
  refine W_seq ?_
  refine W_join h (fun v1 => mk [(1, .e (.one (.ptr 1 0))), (13, .e (.one (.pure (.val (.bool v1)))))] [(1, .box [.pure (.sl (p0.fVersions.map eI64)), .pure (.sl (p0.fNow.map eI64)), .pure (.sl (p0.fTarget.map eI64)), .pure (.sl (p0.fTables.map eApiTable))])]) (fun j1 h => ?_) (fun v1 h => ?_)
  · refine W_region mixed rfl ?_
    obtain ⟨v2, a2, h⟩ := bind_some h
    refine r_call (ds0 := []) [] (sheavelaw36_awake_c N v2 a2) (.p rfl) gd12 rfl trivial rfl rfl rfl (nodupL_spec rfl) trivial rfl ?_
    refine r_un (.p rfl) rfl (un_not _) rfl ?_
    refine r_move (.p rfl) rfl ?_
    refine r_split (t := 9) rfl (fun c3 => ?_) (fun c3 => ?_)
    · have h := cnd_t c3 h
      refine r_notB rfl rfl ?_
      refine r_notB rfl rfl ?_
      refine r_notB rfl rfl ?_
      refine r_pick (.p rfl) rfl rfl rfl ?_
      refine r_end ?_
      exact sink true h (sees_mkL (rn []) _ _ ⟨rfl, rfl, trivial⟩ ⟨rfl, trivial⟩ rfl rfl)
    · have h := cnd_f c3 h
      refine r_loadN (.g rfl rfl) rfl ag31 sz31 rfl rfl rfl ?_
      obtain ⟨v4, a4, h⟩ := bind_some h
      refine r_call (ds0 := [_]) [] (sheaveref35_Few_c N p0 v4 a4) (.g rfl rfl) gd27 rfl ⟨rfl, trivial⟩ rfl rfl rfl (nodupL_spec rfl) trivial rfl ?_
      refine r_un (.g rfl rfl) rfl (un_not _) rfl ?_
      refine r_pick (.p rfl) rfl rfl rfl ?_
      refine r_end ?_
      exact sink (!v4) h (sees_mkL (rn []) _ _ ⟨rfl, rfl, trivial⟩ ⟨rfl, trivial⟩ rfl rfl)
  · refine W_cond rfl (fun c5 => ?_) (fun c5 => ?_)
    · have h := cnd_t c5 h
      refine W_seq ?_
      refine W_region mixed rfl ?_
      obtain ⟨v6, a6, h⟩ := bind_some h
      refine r_call (ds0 := []) [] (sheavelaw36_awake_c N v6 a6) (.p rfl) gd12 rfl trivial rfl rfl rfl (nodupL_spec rfl) trivial rfl ?_
      refine r_assign (.p rfl) rfl ?_
      refine r_end ?_
      obtain rfl := Option.some.inj h
      refine W_sees (sees_mkL (rn []) [(2, .e (.one (.pure (.val (.bool v6)))))] [] ⟨rfl, trivial⟩ trivial rfl rfl) (W_ret ?_)
      exact ⟨⟨[_], ⟨.tmp _ _ rfl, trivial⟩, rfl⟩, trivial⟩
    · have h := cnd_f c5 h
      refine W_skip ?_
      refine W_seq ?_
      refine W_region mixed rfl ?_
      refine r_loadN (.p rfl) rfl ag31 sz31 rfl rfl rfl ?_
      obtain ⟨v7, a7, h⟩ := bind_some h
      refine r_call (ds0 := [_]) [2001, 2002, 2003] (mix_Start_c N p0 v7 a7) (.p rfl) gd35 rfl ⟨rfl, trivial⟩ rfl rfl rfl (nodupL_spec rfl) ⟨rfl, rfl, rfl, trivial⟩ rfl ?_
      refine r_move (.p rfl) rfl ?_
      refine r_extract (.p rfl) rfl rfl ?_
      refine r_extract (.p rfl) rfl rfl ?_
      refine r_alloc (.p rfl) zv37 rfl rfl rfl ?_
      refine r_store rfl rfl rfl rfl sz37 rfl (leb rfl) rfl ?_
      refine r_assign (.p rfl) rfl ?_
      refine r_end ?_
      refine W_seq ?_
      refine W_region mixed rfl ?_
      refine r_loadN (.p rfl) rfl ag31 sz31 rfl rfl rfl ?_
      obtain ⟨v8, a8, h⟩ := bind_some h
      refine r_call (ds0 := [_]) [2004, 2005, 2006] (sheaveref36_Start_c N p0 v8 a8) (.p rfl) gd36 rfl ⟨rfl, trivial⟩ rfl rfl rfl (nodupL_spec rfl) ⟨rfl, rfl, rfl, trivial⟩ rfl ?_
      refine r_move (.p rfl) rfl ?_
      refine r_extract (.p rfl) rfl rfl ?_
      refine r_extract (.p rfl) rfl rfl ?_
      refine r_alloc (.p rfl) zv37 rfl rfl rfl ?_
      refine r_store rfl rfl rfl rfl sz37 rfl (leb rfl) rfl ?_
      refine r_assign (.p rfl) rfl ?_
      refine r_end ?_
      refine W_join h (fun v9 => mk [(2, .e (.one (.pure (.val (.bool v9)))))] []) (fun j9 h => ?_) (fun v9 h => ?_)
      · refine W_region mixed rfl ?_
        refine r_loadN (.p rfl) rfl ag37 sz37 rfl rfl rfl ?_
        refine r_loadN (.p rfl) rfl ag37 sz37 rfl rfl rfl ?_
        obtain ⟨v10, a10, h⟩ := bind_some h
        refine r_callL (ds0 := [_, _]) [] [(2001, _), (2002, _), (2003, _), (2004, _), (2005, _), (2006, _)] (sheaveref36_Equal_c N v7.1 v8.1 v10 a10) (.p rfl) gd25 rfl ⟨rfl, rfl, trivial⟩ ⟨rfl, rfl, rfl, rfl, rfl, rfl, trivial⟩ rfl rfl rfl (nodupL_spec rfl) trivial rfl flatV_nil rfl ?_
        refine r_move (.p rfl) rfl ?_
        refine r_split (t := 28) rfl (fun c11 => ?_) (fun c11 => ?_)
        · have h := cnd_t c11 h
          refine r_move (.g rfl rfl) rfl ?_
          refine r_move (.g rfl rfl) rfl ?_
          refine r_bin (.g rfl rfl) rfl rfl (bin_eql _ _ _ _ _ _) rfl ?_
          refine r_pick (.p rfl) rfl rfl rfl ?_
          refine r_move (.p rfl) rfl ?_
          refine r_split (t := 33) rfl (fun c12 => ?_) (fun c12 => ?_)
          · have h := cnd_t c12 h
            refine r_move (.g rfl rfl) rfl ?_
            refine r_bin (.g rfl rfl) rfl rfl (bin_neq _ _ _ _ _ _) rfl ?_
            refine r_move (.g rfl rfl) rfl ?_
            refine r_split (t := 36) rfl (fun c13 => ?_) (fun c13 => ?_)
            · have h := cnd_t c13 h
              refine r_notB rfl rfl ?_
              refine r_notB rfl rfl ?_
              refine r_notB rfl rfl ?_
              refine r_notB rfl rfl ?_
              refine r_pick (.g rfl rfl) rfl rfl rfl ?_
              refine r_pick (.p rfl) rfl rfl rfl ?_
              refine r_assign (.p rfl) rfl ?_
              refine r_end ?_
              exact sink true h (sees_mkL (rn []) _ _ ⟨rfl, trivial⟩ trivial rfl rfl)
            · have h := cnd_f c13 h
              refine r_loadN (.g rfl rfl) rfl ag31 sz31 rfl rfl rfl ?_
              refine r_loadN (.g rfl rfl) rfl ag37 sz37 rfl rfl rfl ?_
              obtain ⟨v14, a14, h⟩ := bind_some h
              refine r_callL (ds0 := [_, _]) [] [(2001, _), (2002, _), (2003, _)] (mix_Valid_c N p0 v7.1 v14 a14) (.g rfl rfl) gd30 rfl ⟨rfl, rfl, trivial⟩ ⟨rfl, rfl, rfl, trivial⟩ rfl rfl rfl (nodupL_spec rfl) trivial rfl flatV_nil rfl ?_
              refine r_bin (.g rfl rfl) rfl rfl (bin_eql _ _ _ _ _ _) rfl ?_
              refine r_pick (.g rfl rfl) rfl rfl rfl ?_
              refine r_pick (.p rfl) rfl rfl rfl ?_
              refine r_assign (.p rfl) rfl ?_
              refine r_end ?_
              exact sink (v14 == 0) h (sees_mkL (rn []) _ _ ⟨rfl, trivial⟩ trivial rfl rfl)
          · have h := cnd_f c12 h
            refine r_notB rfl rfl ?_
            refine r_notB rfl rfl ?_
            refine r_notB rfl rfl ?_
            refine r_notU rfl rfl ?_
            refine r_notU rfl rfl ?_
            refine r_notU rfl rfl ?_
            refine r_notU rfl rfl ?_
            refine r_notB rfl rfl ?_
            refine r_pick (.p rfl) rfl rfl rfl ?_
            refine r_assign (.p rfl) rfl ?_
            refine r_end ?_
            exact sink false h (sees_mkL (rn []) _ _ ⟨rfl, trivial⟩ trivial rfl rfl)
        · have h := cnd_f c11 h
          refine r_notB rfl rfl ?_
          refine r_notB rfl rfl ?_
          refine r_notB rfl rfl ?_
          refine r_pick (.p rfl) rfl rfl rfl ?_
          refine r_move (.p rfl) rfl ?_
          refine r_notB rfl rfl ?_
          refine r_notB rfl rfl ?_
          refine r_notB rfl rfl ?_
          refine r_notU rfl rfl ?_
          refine r_notU rfl rfl ?_
          refine r_notU rfl rfl ?_
          refine r_notU rfl rfl ?_
          refine r_notB rfl rfl ?_
          refine r_pick (.p rfl) rfl rfl rfl ?_
          refine r_assign (.p rfl) rfl ?_
          refine r_end ?_
          exact sink false h (sees_mkL (rn []) _ _ ⟨rfl, trivial⟩ trivial rfl rfl)
      · obtain rfl := Option.some.inj h
        refine W_sees (sees_mkL (rn []) [(2, .e (.one (.pure (.val (.bool v9)))))] [] ⟨rfl, trivial⟩ trivial rfl rfl) (W_ret ?_)
        exact ⟨⟨[_], ⟨.tmp _ _ rfl, trivial⟩, rfl⟩, trivial⟩
end Go.Lift
