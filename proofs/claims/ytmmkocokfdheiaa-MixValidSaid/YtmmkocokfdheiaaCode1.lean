/- Lemmas for MixValidSaid, which YtmmkocokfdheiaaFin7 proves. -/
/- That the code does what the shallow programs do, function by function. Written by a program (gen.py). -/
import Derived.Test.YtmmkocokfdheiaaCode
namespace Go.Lift
open Go.RowKit
open Go.Proofs
set_option maxRecDepth 10000 in
theorem sheaveref35_code_c (N : Nat) (p0 : List Int) (p1 : Int) (r : Int) (h : Sh.sheaveref35_code N p0 p1 = some r) : Contract Try.prog 37 [.e (.one (.pure (.sl (p0.map eU8)))), .e (.one (.pure (.val (.int .i64 p1))))] [] (.e (.one (.pure (.val (.int .i64 r))))) := by
  unfold Sh.sheaveref35_code at h
  refine contract_of_W (n := 14) (rs := [.tmp 4]) Try.func37 rfl rfl rfl (leb rfl) rfl fun w0 S0 => ?_
  refine W_seq ?_
  refine W_region mixed rfl ?_
  refine r_assign (.p rfl) rfl ?_
  refine r_end ?_
  refine W_seq ?_
  refine W_seq ?_
  refine W_region mixed rfl ?_
  refine r_move (.p rfl) rfl ?_
  refine r_move (.p rfl) rfl ?_
  refine r_len (.p rfl) rfl (.sl _) trivial (List.length_map _) slc22 ?_
  refine r_bin (.p rfl) rfl rfl (bin_lss _ _ _ _ _ _) rfl ?_
  refine r_end ?_
  refine W_cond rfl (fun c1 => ?_) (fun c1 => ?_)
  · have h := cnd_t c1 h
    refine W_seq ?_
    refine W_region mixed rfl ?_
    refine r_move (.p rfl) rfl ?_
    refine r_move (.p rfl) rfl ?_
    obtain ⟨v2, a2, b2, h⟩ := idx_bind h
    refine r_index (.p rfl) rfl rfl slc22 sz5 a2 (map_get b2) rfl ?_
    refine r_loadr1 (.p rfl) rfl ag5 rfl ?_
    refine r_conv (.p rfl) rfl (conv_int so5 in3 _ _) rfl ?_
    refine r_assign (.p rfl) rfl ?_
    refine r_end ?_
    obtain rfl := Option.some.inj h
    refine W_sees (sees_mk (rn []) [(4, .e (.one (.pure (.val (.int .i64 ((IntKind.wrap .i64 v2)))))))] [] ⟨rfl, trivial⟩ trivial rfl rfl) (W_ret ?_)
    exact ⟨⟨[_], ⟨.tmp _ _ rfl, trivial⟩, rfl⟩, trivial⟩
  · have h := cnd_f c1 h
    refine W_skip ?_
    refine W_seq ?_
    refine W_region mixed rfl ?_
    refine r_assign (.p rfl) rfl ?_
    refine r_end ?_
    obtain rfl := Option.some.inj h
    refine W_sees (sees_mk (rn []) [(4, .e (.one (.pure (.val (.int .i64 0)))))] [] ⟨rfl, trivial⟩ trivial rfl rfl) (W_ret ?_)
    exact ⟨⟨[_], ⟨.tmp _ _ rfl, trivial⟩, rfl⟩, trivial⟩

set_option maxRecDepth 10000 in
theorem sheaveref35_Stored_c (N : Nat) (p0 : ApiTable) (r : Bool) (h : Sh.sheaveref35_Stored N p0 = some r) : Contract Try.prog 38 [.e (.agg [.pure (.val (.int .i64 p0.fKind)), .pure (.val (.int .i64 p0.fFrom)), .pure (.val (.int .i64 p0.fTo)), .pure (.val (.bool p0.fAware)), .pure (.sl (p0.fOK.map (eSl eB))), .pure (.sl (p0.fRewrite.map (eSl eB)))])] [] (.e (.one (.pure (.val (.bool r))))) := by
  unfold Sh.sheaveref35_Stored at h
  refine contract_of_W (n := 11) (rs := [.tmp 2]) Try.func38 rfl rfl rfl (leb rfl) rfl fun w0 S0 => ?_
  refine W_seq ?_
  refine W_region mixed rfl ?_
  refine r_box (.p rfl) rfl rfl ?_
  refine r_assign (.p rfl) rfl ?_
  refine r_end ?_
  refine W_join h (fun v1 => mk [(2, .e (.one (.pure (.val (.bool v1)))))] []) (fun j1 h => ?_) (fun v1 h => ?_)
  · refine W_region mixed rfl ?_
    refine r_fieldAddr (.p rfl) rfl fld61_0 ?_
    refine r_load1 (.p rfl) rfl ag3 rfl rfl ?_
    refine r_bin (.p rfl) rfl rfl (bin_eql _ _ _ _ _ _) rfl ?_
    refine r_move (.p rfl) rfl ?_
    refine r_split (t := 6) rfl (fun c2 => ?_) (fun c2 => ?_)
    · have h := cnd_t c2 h
      refine r_notB rfl rfl ?_
      refine r_notB rfl rfl ?_
      refine r_notB rfl rfl ?_
      refine r_pick (.p rfl) rfl rfl rfl ?_
      refine r_assign (.p rfl) rfl ?_
      refine r_end ?_
      exact sink true h (sees_mk (rn []) _ _ ⟨rfl, trivial⟩ trivial rfl rfl)
    · have h := cnd_f c2 h
      refine r_fieldAddr (.g rfl rfl) rfl fld61_0 ?_
      refine r_load1 (.g rfl rfl) rfl ag3 rfl rfl ?_
      refine r_bin (.g rfl rfl) rfl rfl (bin_eql _ _ _ _ _ _) rfl ?_
      refine r_pick (.p rfl) rfl rfl rfl ?_
      refine r_assign (.p rfl) rfl ?_
      refine r_end ?_
      exact sink (p0.fKind == 4) h (sees_mk (rn []) _ _ ⟨rfl, trivial⟩ trivial rfl rfl)
  · obtain rfl := Option.some.inj h
    refine W_sees (sees_mk (rn []) [(2, .e (.one (.pure (.val (.bool v1)))))] [] ⟨rfl, trivial⟩ trivial rfl rfl) (W_ret ?_)
    exact ⟨⟨[_], ⟨.tmp _ _ rfl, trivial⟩, rfl⟩, trivial⟩

set_option maxRecDepth 10000 in
theorem sheaveref35_bits_c (N : Nat) (p0 : Int) (p1 : Int) (p2 : Int) (p3 : Bool) (r : (List (List Bool))) (h : Sh.sheaveref35_bits N p0 p1 p2 p3 = some r) : Contract Try.prog 39 [.e (.one (.pure (.val (.int .i64 p0)))), .e (.one (.pure (.val (.int .i64 p1)))), .e (.one (.pure (.val (.int .u16 p2)))), .e (.one (.pure (.val (.bool p3))))] [(1, r.map (eSl eB))] (.e (.one (.own 0))) := by
  unfold Sh.sheaveref35_bits at h
  refine contract_of_W (n := 47) (rs := [.tmp 8]) Try.func39 rfl rfl rfl (leb rfl) rfl fun w0 S0 => ?_
  refine W_seq ?_
  refine W_region mixed rfl ?_
  refine r_assign (.p rfl) rfl ?_
  refine r_end ?_
  refine W_seq ?_
  refine W_region mixed rfl ?_
  refine r_assign (.p rfl) rfl ?_
  refine r_end ?_
  refine W_seq ?_
  refine W_seq ?_
  refine W_region mixed rfl ?_
  refine r_assign (.p rfl) rfl ?_
  refine r_end ?_
  refine W_whileE (L := Sh.sheaveref35_bits_L1 N p0 p1 p2 p3) h (fun v1 => mk [(0, .e (.one (.pure (.val (.int .i64 p0))))), (1, .e (.one (.pure (.val (.int .i64 p1))))), (2, .e (.one (.pure (.val (.int .u16 p2))))), (3, .e (.one (.pure (.val (.bool p3))))), (9, .e (.one (.own 2001))), (10, .e (.one (.pure (.val (.int .i64 v1.2)))))] [(2001, .vec 1 (v1.1.map (eSl eB)))]) (fun v2 => mk [(9, .e (.one (.own 2002)))] [(2002, .vec 1 (v2.map (eSl eB)))]) (fun _ _ => rfl) ((sees_adopt 9 2010 1 rfl rfl).trans (sees_mk (rn [(2001, 2010)]) _ _ ⟨rfl, rfl, rfl, rfl, rfl, rfl, trivial⟩ ⟨rfl, trivial⟩ rfl rfl)) (fun j1 n1 v1 h => ?_) (fun v2 s h hs => ?_)
  · unfold Sh.sheaveref35_bits_L1 at h
    refine W_seq ?_
    refine W_seq ?_
    refine W_region mixed rfl ?_
    refine r_move (.p rfl) rfl ?_
    refine r_move (.p rfl) rfl ?_
    refine r_bin (.p rfl) rfl rfl (bin_lss _ _ _ _ _ _) rfl ?_
    refine r_end ?_
    refine W_cond rfl (fun c3 => ?_) (fun c3 => ?_)
    · have h := cnd_t c3 h
      refine W_skip ?_
      refine W_seq ?_
      refine W_block ?_
      refine W_seq ?_
      refine W_region mixed rfl ?_
      refine r_assign (.p rfl) rfl ?_
      refine r_end ?_
      refine W_seq ?_
      refine W_seq ?_
      refine W_region mixed rfl ?_
      refine r_assign (.p rfl) rfl ?_
      refine r_end ?_
      refine W_whileE (L := Sh.sheaveref35_bits_L4 N p1 p2 p3 v1) h (fun v4 => mk [(0, .e (.one (.pure (.val (.int .i64 p0))))), (1, .e (.one (.pure (.val (.int .i64 p1))))), (2, .e (.one (.pure (.val (.int .u16 p2))))), (3, .e (.one (.pure (.val (.bool p3))))), (9, .e (.one (.own 2003))), (10, .e (.one (.pure (.val (.int .i64 v1.2))))), (11, .e (.one (.own 2004))), (12, .e (.one (.pure (.val (.int .i64 v4.2)))))] [(2003, .vec 1 (v1.1.map (eSl eB))), (2004, .vec 1 (v4.1.map eB))]) (fun v5 => mk [(0, .e (.one (.pure (.val (.int .i64 p0))))), (1, .e (.one (.pure (.val (.int .i64 p1))))), (2, .e (.one (.pure (.val (.int .u16 p2))))), (3, .e (.one (.pure (.val (.bool p3))))), (9, .e (.one (.own 2005))), (10, .e (.one (.pure (.val (.int .i64 v1.2))))), (11, .e (.one (.own 2006)))] [(2005, .vec 1 (v1.1.map (eSl eB))), (2006, .vec 1 (v5.map eB))]) (fun _ _ => rfl) ((sees_adopt 11 2009 1 rfl rfl).trans (sees_mk (rn [(2003, 2001), (2004, 2009)]) _ _ ⟨rfl, rfl, rfl, rfl, rfl, rfl, rfl, rfl, trivial⟩ ⟨rfl, rfl, trivial⟩ rfl rfl)) (fun j4 n4 v4 h => ?_) (fun v5 s h hs => ?_)
      · unfold Sh.sheaveref35_bits_L4 at h
        refine W_seq ?_
        refine W_seq ?_
        refine W_region mixed rfl ?_
        refine r_move (.p rfl) rfl ?_
        refine r_move (.p rfl) rfl ?_
        refine r_bin (.p rfl) rfl rfl (bin_lss _ _ _ _ _ _) rfl ?_
        refine r_end ?_
        refine W_cond rfl (fun c6 => ?_) (fun c6 => ?_)
        · have h := cnd_t c6 h
          refine W_skip ?_
          refine W_join h (fun v7 => mk [(0, .e (.one (.pure (.val (.int .i64 p0))))), (1, .e (.one (.pure (.val (.int .i64 p1))))), (2, .e (.one (.pure (.val (.int .u16 p2))))), (3, .e (.one (.pure (.val (.bool p3))))), (9, .e (.one (.own 2007))), (10, .e (.one (.pure (.val (.int .i64 v1.2))))), (11, .e (.one (.own 2008))), (12, .e (.one (.pure (.val (.int .i64 v4.2)))))] [(2007, .vec 1 (v1.1.map (eSl eB))), (2008, .vec 1 (v7.map eB))]) (fun j7 h => ?_) (fun v7 h => ?_)
          · refine W_block ?_
            refine W_region mixed rfl ?_
            refine r_move (.p rfl) rfl ?_
            refine r_move (.p rfl) rfl ?_
            refine r_move (.p rfl) rfl ?_
            refine r_split (t := 25) rfl (fun c8 => ?_) (fun c8 => ?_)
            · have h := cnd_t c8 h
              refine r_move (.g rfl rfl) rfl ?_
              refine r_move (.g rfl rfl) rfl ?_
              refine r_bin (.g rfl rfl) rfl rfl (bin_eql _ _ _ _ _ _) rfl ?_
              refine r_pick (.p rfl) rfl rfl rfl ?_
              refine r_move (.p rfl) rfl ?_
              refine r_split (t := 30) rfl (fun c9 => ?_) (fun c9 => ?_)
              · have h := cnd_t c9 h
                refine r_notB rfl rfl ?_
                refine r_notB rfl rfl ?_
                refine r_notB rfl rfl ?_
                refine r_notB rfl rfl ?_
                refine r_notB rfl rfl ?_
                refine r_notB rfl rfl ?_
                refine r_notB rfl rfl ?_
                refine r_notB rfl rfl ?_
                refine r_pick (.p rfl) rfl rfl rfl ?_
                refine r_buildSlice [(0, .tmp 39, _)] (.p rfl) rfl ⟨rfl, trivial⟩ rfl slc65 sz4 zv4 rfl rfl (leb rfl) rfl rfl ?_
                obtain ⟨c10, h⟩ := chk_bind h
                refine r_append (.p rfl) rfl (.own _ _ _) ⟨rfl, trivial⟩ rfl (.own _ _ _) ⟨rfl, trivial⟩ rfl slc65 slc65 sz4 byt4 (leb rfl) zv4 rfl (len_lim (f := eB) (g := eB) (xs := v4.1) (ys := (([true] : List Bool))) c10) (map_app eB v4.1 (([true] : List Bool))) ?_
                refine r_assign (.p rfl) rfl ?_
                refine r_end ?_
                exact sink (v4.1 ++ (([true] : List Bool))) h (sees_mk (rn [(2007, 2003), (2008, 41)]) _ _ ⟨rfl, rfl, rfl, rfl, rfl, rfl, rfl, rfl, trivial⟩ ⟨rfl, rfl, trivial⟩ rfl rfl)
              · have h := cnd_f c9 h
                refine r_move (.g rfl rfl) rfl ?_
                refine r_move (.g rfl rfl) rfl ?_
                refine r_bin (.g rfl rfl) rfl rfl (bin_mul _ _ _ _ _ _) rfl ?_
                refine r_move (.g rfl rfl) rfl ?_
                refine r_bin (.g rfl rfl) rfl rfl (bin_add _ _ _ _ _ _) rfl ?_
                obtain ⟨c11, h⟩ := chk_bind h
                refine r_bin (.g rfl rfl) rfl rfl (bin_shr _ _ _ _ _ _ _ c11) rfl ?_
                refine r_bin (.g rfl rfl) rfl rfl (bin_rem _ _ _ _ _ _ (by decide)) rfl ?_
                refine r_bin (.g rfl rfl) rfl rfl (bin_eql _ _ _ _ _ _) rfl ?_
                refine r_pick (.p rfl) rfl rfl rfl ?_
                refine r_buildSlice [(0, .tmp 39, _)] (.p rfl) rfl ⟨rfl, trivial⟩ rfl slc65 sz4 zv4 rfl rfl (leb rfl) rfl rfl ?_
                obtain ⟨c12, h⟩ := chk_bind h
                refine r_append (.p rfl) rfl (.own _ _ _) ⟨rfl, trivial⟩ rfl (.own _ _ _) ⟨rfl, trivial⟩ rfl slc65 slc65 sz4 byt4 (leb rfl) zv4 rfl (len_lim (f := eB) (g := eB) (xs := v4.1) (ys := (([((Int.tmod ((shrI .u16 p2 ((IntKind.wrap .i64 ((IntKind.wrap .i64 (3 * v1.2)) + v4.2))))) 2) == 0)] : List Bool))) c12) (map_app eB v4.1 (([((Int.tmod ((shrI .u16 p2 ((IntKind.wrap .i64 ((IntKind.wrap .i64 (3 * v1.2)) + v4.2))))) 2) == 0)] : List Bool))) ?_
                refine r_assign (.p rfl) rfl ?_
                refine r_end ?_
                exact sink (v4.1 ++ (([((Int.tmod ((shrI .u16 p2 ((IntKind.wrap .i64 ((IntKind.wrap .i64 (3 * v1.2)) + v4.2))))) 2) == 0)] : List Bool))) h (sees_mk (rn [(2007, 2003), (2008, 41)]) _ _ ⟨rfl, rfl, rfl, rfl, rfl, rfl, rfl, rfl, trivial⟩ ⟨rfl, rfl, trivial⟩ rfl rfl)
            · have h := cnd_f c8 h
              refine r_notB rfl rfl ?_
              refine r_notB rfl rfl ?_
              refine r_notB rfl rfl ?_
              refine r_pick (.p rfl) rfl rfl rfl ?_
              refine r_move (.p rfl) rfl ?_
              refine r_move (.g rfl rfl) rfl ?_
              refine r_move (.g rfl rfl) rfl ?_
              refine r_bin (.g rfl rfl) rfl rfl (bin_mul _ _ _ _ _ _) rfl ?_
              refine r_move (.g rfl rfl) rfl ?_
              refine r_bin (.g rfl rfl) rfl rfl (bin_add _ _ _ _ _ _) rfl ?_
              obtain ⟨c13, h⟩ := chk_bind h
              refine r_bin (.g rfl rfl) rfl rfl (bin_shr _ _ _ _ _ _ _ c13) rfl ?_
              refine r_bin (.g rfl rfl) rfl rfl (bin_rem _ _ _ _ _ _ (by decide)) rfl ?_
              refine r_bin (.g rfl rfl) rfl rfl (bin_eql _ _ _ _ _ _) rfl ?_
              refine r_pick (.p rfl) rfl rfl rfl ?_
              refine r_buildSlice [(0, .tmp 39, _)] (.p rfl) rfl ⟨rfl, trivial⟩ rfl slc65 sz4 zv4 rfl rfl (leb rfl) rfl rfl ?_
              obtain ⟨c14, h⟩ := chk_bind h
              refine r_append (.p rfl) rfl (.own _ _ _) ⟨rfl, trivial⟩ rfl (.own _ _ _) ⟨rfl, trivial⟩ rfl slc65 slc65 sz4 byt4 (leb rfl) zv4 rfl (len_lim (f := eB) (g := eB) (xs := v4.1) (ys := (([((Int.tmod ((shrI .u16 p2 ((IntKind.wrap .i64 ((IntKind.wrap .i64 (3 * v1.2)) + v4.2))))) 2) == 0)] : List Bool))) c14) (map_app eB v4.1 (([((Int.tmod ((shrI .u16 p2 ((IntKind.wrap .i64 ((IntKind.wrap .i64 (3 * v1.2)) + v4.2))))) 2) == 0)] : List Bool))) ?_
              refine r_assign (.p rfl) rfl ?_
              refine r_end ?_
              exact sink (v4.1 ++ (([((Int.tmod ((shrI .u16 p2 ((IntKind.wrap .i64 ((IntKind.wrap .i64 (3 * v1.2)) + v4.2))))) 2) == 0)] : List Bool))) h (sees_mk (rn [(2007, 2003), (2008, 41)]) _ _ ⟨rfl, rfl, rfl, rfl, rfl, rfl, rfl, rfl, trivial⟩ ⟨rfl, rfl, trivial⟩ rfl rfl)
          · refine W_region mixed rfl ?_
            refine r_move (.p rfl) rfl ?_
            refine r_bin (.p rfl) rfl rfl (bin_add _ _ _ _ _ _) rfl ?_
            refine r_assign (.p rfl) rfl ?_
            refine r_end ?_
            exact sink (v7, (IntKind.wrap .i64 (v4.2 + 1))) h (sees_mk (rn [(2003, 2007), (2004, 2008)]) _ _ ⟨rfl, rfl, rfl, rfl, rfl, rfl, rfl, rfl, trivial⟩ ⟨rfl, rfl, trivial⟩ rfl rfl)
        · have h := cnd_f c6 h
          refine W_exit ?_
          exact sink v4.1 h (sees_mk (rn [(2005, 2003), (2006, 2004)]) _ _ ⟨rfl, rfl, rfl, rfl, rfl, rfl, rfl, trivial⟩ ⟨rfl, rfl, trivial⟩ rfl rfl)
      · refine W_sees hs ?_
        refine W_region mixed rfl ?_
        refine r_move (.p rfl) rfl ?_
        refine r_move (.p rfl) rfl ?_
        refine r_see (sees_frz 2006 _ _ rfl) ?_
        refine r_buildSlice [(0, .tmp 43, _)] (.p rfl) rfl ⟨rfl, trivial⟩ rfl slc59 sz65 zv65 rfl rfl (leb rfl) rfl rfl ?_
        obtain ⟨c15, h⟩ := chk_bind h
        refine r_append (.p rfl) rfl (.own _ _ _) ⟨rfl, trivial⟩ rfl (.own _ _ _) ⟨rfl, trivial⟩ rfl slc59 slc59 sz65 byt65 (leb rfl) zv65 rfl (len_lim (f := (eSl eB)) (g := (eSl eB)) (xs := v1.1) (ys := (([v5] : List (List Bool)))) c15) (map_app (eSl eB) v1.1 (([v5] : List (List Bool)))) ?_
        refine r_assign (.p rfl) rfl ?_
        refine r_end ?_
        refine W_region mixed rfl ?_
        refine r_move (.p rfl) rfl ?_
        refine r_bin (.p rfl) rfl rfl (bin_add _ _ _ _ _ _) rfl ?_
        refine r_assign (.p rfl) rfl ?_
        refine r_end ?_
        exact sink (v1.1 ++ (([v5] : List (List Bool))), (IntKind.wrap .i64 (v1.2 + 1))) h (sees_mk (rn [(2001, 45)]) _ _ ⟨rfl, rfl, rfl, rfl, rfl, rfl, trivial⟩ ⟨rfl, trivial⟩ rfl rfl)
    · have h := cnd_f c3 h
      refine W_exit ?_
      exact sink v1.1 h (sees_mk (rn [(2002, 2001)]) _ _ ⟨rfl, trivial⟩ ⟨rfl, trivial⟩ rfl rfl)
  · refine W_sees hs ?_
    refine W_seq ?_
    refine W_region mixed rfl ?_
    refine r_move (.p rfl) rfl ?_
    refine r_assign (.p rfl) rfl ?_
    refine r_end ?_
    obtain rfl := Option.some.inj h
    refine W_sees (sees_mk (rn [(1000, 2002)]) [(8, .e (.one (.own 1000)))] [(1000, .vec 1 (v2.map (eSl eB)))] ⟨rfl, trivial⟩ ⟨rfl, trivial⟩ rfl rfl) (W_ret ?_)
    exact ⟨⟨[_], ⟨.tmp _ _ rfl, trivial⟩, rfl⟩, ⟨rfl, trivial⟩⟩

set_option maxRecDepth 10000 in
theorem sheaveref35_Of_c (N : Nat) (p0 : Sheaveref35Draft) (r : ApiProblem × Bool) (h : Sh.sheaveref35_Of N p0 = some r) : Contract Try.prog 11 [.e (.agg [.pure (.sl (p0.fVersions.map eU8)), .pure (.sl (p0.fNow.map eU8)), .pure (.sl (p0.fTarget.map eU8)), .pure (.sl (p0.fLinks.map eSheaveref35Link))])] [(1, r.1.fVersions.map eI64), (1, r.1.fNow.map eI64), (1, r.1.fTarget.map eI64), (6, r.1.fTables.map eApiTable)] (.tup [.agg [.own 0, .own 1, .own 2, .own 3], .one (.pure (.val (.bool r.2)))]) := by
  unfold Sh.sheaveref35_Of at h
  refine contract_of_W (n := 152) (rs := [.cell 2 31, .tmp 3]) Try.func11 rfl rfl rfl (leb rfl) rfl fun w0 S0 => ?_
  refine W_seq ?_
  refine W_region mixed rfl ?_
  refine r_box (.p rfl) rfl rfl ?_
  refine r_alloc (.p rfl) zv31 rfl rfl rfl ?_
  refine r_assign (.p rfl) rfl ?_
  refine r_end ?_
  refine W_seq ?_
  refine W_join h (fun v1 => mk [(1, .e (.one (.ptr 1 0))), (2, .e (.one (.ptr 2 0))), (19, .e (.one (.pure (.val (.bool v1)))))] [(1, .box [.pure (.sl (p0.fVersions.map eU8)), .pure (.sl (p0.fNow.map eU8)), .pure (.sl (p0.fTarget.map eU8)), .pure (.sl (p0.fLinks.map eSheaveref35Link))]), (2, .box [.pure (.nil0), .pure (.nil0), .pure (.nil0), .pure (.nil0)])]) (fun j1 h => ?_) (fun v1 h => ?_)
  · refine W_region mixed rfl ?_
    refine r_fieldAddr (.p rfl) rfl fld25_0 ?_
    refine r_load1 (.p rfl) rfl ag22 rfl rfl ?_
    refine r_len (.p rfl) rfl (.sl _) trivial (List.length_map _) slc22 ?_
    refine r_bin (.p rfl) rfl rfl (bin_gtr _ _ _ _ _ _) rfl ?_
    refine r_move (.p rfl) rfl ?_
    refine r_split (t := 14) rfl (fun c2 => ?_) (fun c2 => ?_)
    · have h := cnd_t c2 h
      refine r_notB rfl rfl ?_
      refine r_notB rfl rfl ?_
      refine r_notB rfl rfl ?_
      refine r_notB rfl rfl ?_
      refine r_pick (.p rfl) rfl rfl rfl ?_
      refine r_end ?_
      exact sink true h (sees_mk (rn []) _ _ ⟨rfl, rfl, rfl, trivial⟩ ⟨rfl, rfl, trivial⟩ rfl rfl)
    · have h := cnd_f c2 h
      refine r_fieldAddr (.g rfl rfl) rfl fld25_3 ?_
      refine r_load1 (.g rfl rfl) rfl ag23 rfl rfl ?_
      refine r_len (.g rfl rfl) rfl (.sl _) trivial (List.length_map _) slc23 ?_
      refine r_bin (.g rfl rfl) rfl rfl (bin_gtr _ _ _ _ _ _) rfl ?_
      refine r_pick (.p rfl) rfl rfl rfl ?_
      refine r_end ?_
      exact sink (decide (4 < (p0.fLinks.length : Int))) h (sees_mk (rn []) _ _ ⟨rfl, rfl, rfl, trivial⟩ ⟨rfl, rfl, trivial⟩ rfl rfl)
  · refine W_cond rfl (fun c3 => ?_) (fun c3 => ?_)
    · have h := cnd_t c3 h
      refine W_seq ?_
      refine W_region mixed rfl ?_
      refine r_build [] (.p rfl) rfl trivial zv31 rfl rfl pl31 rfl ?_
      refine r_store rfl rfl rfl rfl sz31 rfl (leb rfl) rfl ?_
      refine r_assign (.p rfl) rfl ?_
      refine r_end ?_
      obtain rfl := Option.some.inj h
      refine W_sees ((sees_adoptB 2 0 2001 1 _ rfl rfl rfl).trans ((sees_adoptB 2 1 2002 1 _ rfl rfl rfl).trans ((sees_adoptB 2 2 2003 1 _ rfl rfl rfl).trans ((sees_adoptB 2 3 2004 6 _ rfl rfl rfl).trans (sees_mk (rn [(1000, 2001), (1001, 2002), (1002, 2003), (1003, 2004)]) [(2, .e (.one (.ptr 2 0))), (3, .e (.one (.pure (.val (.bool false)))))] [(2, .box [.own 1000, .own 1001, .own 1002, .own 1003]), (1000, .vec 1 ((([] : List Int)).map eI64)), (1001, .vec 1 ((([] : List Int)).map eI64)), (1002, .vec 1 ((([] : List Int)).map eI64)), (1003, .vec 6 ((([] : List ApiTable)).map eApiTable))] ⟨rfl, rfl, trivial⟩ ⟨rfl, rfl, rfl, rfl, rfl, trivial⟩ rfl rfl))))) (W_ret ?_)
      exact ⟨⟨[_, _], ⟨.cellN _ _ _ _ _ _ _ rfl rfl ag31 sz31 rfl rfl (ltb rfl), ⟨.tmp _ _ rfl, trivial⟩⟩, rfl⟩, ⟨rfl, rfl, rfl, rfl, trivial⟩⟩
    · have h := cnd_f c3 h
      refine W_skip ?_
      refine W_seq ?_
      refine W_region mixed rfl ?_
      refine r_alloc (.p rfl) zv31 rfl rfl rfl ?_
      refine r_end ?_
      refine W_seq ?_
      refine W_seq ?_
      refine W_region mixed rfl ?_
      refine r_assign (.p rfl) rfl ?_
      refine r_end ?_
      refine W_whileE (L := Sh.sheaveref35_Of_L4 N p0) h (fun v4 => mk [(1, .e (.one (.ptr 1 0))), (2, .e (.one (.ptr 2 0))), (4, .e (.one (.ptr 4 0))), (5, .e (.one (.pure (.val (.int .i64 v4.2.2.2)))))] [(1, .box [.pure (.sl (p0.fVersions.map eU8)), .pure (.sl (p0.fNow.map eU8)), .pure (.sl (p0.fTarget.map eU8)), .pure (.sl (p0.fLinks.map eSheaveref35Link))]), (2, .box [.pure (.nil0), .pure (.nil0), .pure (.nil0), .pure (.nil0)]), (4, .box [.own 2005, .own 2006, .own 2007, .pure (.nil0)]), (2005, .vec 1 (v4.1.map eI64)), (2006, .vec 1 (v4.2.1.map eI64)), (2007, .vec 1 (v4.2.2.1.map eI64))]) (fun v5 => mk [(1, .e (.one (.ptr 1 0))), (2, .e (.one (.ptr 2 0))), (4, .e (.one (.ptr 4 0)))] [(1, .box [.pure (.sl (p0.fVersions.map eU8)), .pure (.sl (p0.fNow.map eU8)), .pure (.sl (p0.fTarget.map eU8)), .pure (.sl (p0.fLinks.map eSheaveref35Link))]), (2, .box [.pure (.nil0), .pure (.nil0), .pure (.nil0), .pure (.nil0)]), (4, .box [.own 2008, .own 2009, .own 2010, .pure (.nil0)]), (2008, .vec 1 (v5.1.map eI64)), (2009, .vec 1 (v5.2.1.map eI64)), (2010, .vec 1 (v5.2.2.map eI64))]) (fun _ _ => rfl) ((sees_adoptB 4 0 2011 1 _ rfl rfl rfl).trans ((sees_adoptB 4 1 2012 1 _ rfl rfl rfl).trans ((sees_adoptB 4 2 2013 1 _ rfl rfl rfl).trans (sees_mk (rn [(2005, 2011), (2006, 2012), (2007, 2013)]) _ _ ⟨rfl, rfl, rfl, rfl, trivial⟩ ⟨rfl, rfl, rfl, rfl, rfl, rfl, trivial⟩ rfl rfl)))) (fun j4 n4 v4 h => ?_) (fun v5 s h hs => ?_)
      · unfold Sh.sheaveref35_Of_L4 at h
        refine W_seq ?_
        refine W_seq ?_
        refine W_region mixed rfl ?_
        refine r_move (.p rfl) rfl ?_
        refine r_fieldAddr (.p rfl) rfl fld25_0 ?_
        refine r_load1 (.p rfl) rfl ag22 rfl rfl ?_
        refine r_len (.p rfl) rfl (.sl _) trivial (List.length_map _) slc22 ?_
        refine r_bin (.p rfl) rfl rfl (bin_lss _ _ _ _ _ _) rfl ?_
        refine r_end ?_
        refine W_cond rfl (fun c6 => ?_) (fun c6 => ?_)
        · have h := cnd_t c6 h
          refine W_skip ?_
          refine W_seq ?_
          refine W_block ?_
          refine W_seq ?_
          refine W_region mixed rfl ?_
          refine r_fieldAddr (.p rfl) rfl fld25_0 ?_
          refine r_load1 (.p rfl) rfl ag22 rfl rfl ?_
          refine r_move (.p rfl) rfl ?_
          obtain ⟨v7, a7, b7, h⟩ := idx_bind h
          refine r_index (.p rfl) rfl rfl slc22 sz5 a7 (map_get b7) rfl ?_
          refine r_loadr1 (.p rfl) rfl ag5 rfl ?_
          refine r_bin (.p rfl) rfl rfl (bin_rem _ _ _ _ _ _ (by decide)) rfl ?_
          refine r_conv (.p rfl) rfl (conv_int so5 in3 _ _) rfl ?_
          refine r_bin (.p rfl) rfl rfl (bin_add _ _ _ _ _ _) rfl ?_
          refine r_assign (.p rfl) rfl ?_
          refine r_end ?_
          refine W_seq ?_
          refine W_region mixed rfl ?_
          refine r_fieldAddr (.p rfl) rfl fld31_0 ?_
          refine r_load1 (.p rfl) rfl ag28 rfl rfl ?_
          refine r_move (.p rfl) rfl ?_
          refine r_buildSlice [(0, .tmp 38, _)] (.p rfl) rfl ⟨rfl, trivial⟩ rfl slc28 sz3 zv3 rfl rfl (leb rfl) rfl rfl ?_
          obtain ⟨c8, h⟩ := chk_bind h
          refine r_append (.p rfl) rfl (.own _ _ _) ⟨rfl, trivial⟩ rfl (.own _ _ _) ⟨rfl, trivial⟩ rfl slc28 slc28 sz3 byt3 (leb rfl) zv3 rfl (len_lim (f := eI64) (g := eI64) (xs := v4.1) (ys := (([(IntKind.wrap .i64 (1 + (IntKind.wrap .i64 ((Int.tmod v7 3)))))] : List Int))) c8) (map_app eI64 v4.1 (([(IntKind.wrap .i64 (1 + (IntKind.wrap .i64 ((Int.tmod v7 3)))))] : List Int))) ?_
          refine r_fieldAddr (.p rfl) rfl fld31_0 ?_
          refine r_store rfl rfl rfl rfl sz28 rfl (leb rfl) rfl ?_
          refine r_end ?_
          refine W_seq ?_
          refine W_region mixed rfl ?_
          refine r_fieldAddr (.p rfl) rfl fld31_1 ?_
          refine r_load1 (.p rfl) rfl ag28 rfl rfl ?_
          refine r_fieldAddr (.p rfl) rfl fld25_1 ?_
          refine r_load1 (.p rfl) rfl ag22 rfl rfl ?_
          refine r_move (.p rfl) rfl ?_
          obtain ⟨v9, a9, h⟩ := bind_some h
          refine r_call (ds0 := [_, _]) [] (sheaveref35_code_c N p0.fNow v4.2.2.2 v9 a9) (.p rfl) gd37 rfl ⟨rfl, rfl, trivial⟩ rfl rfl rfl (nodupB_spec rfl) trivial rfl ?_
          refine r_move (.p rfl) rfl ?_
          obtain ⟨c10, h⟩ := chk_bind h
          refine r_bin (.p rfl) rfl rfl (bin_rem _ _ _ _ _ _ c10) rfl ?_
          refine r_buildSlice [(0, .tmp 49, _)] (.p rfl) rfl ⟨rfl, trivial⟩ rfl slc28 sz3 zv3 rfl rfl (leb rfl) rfl rfl ?_
          obtain ⟨c11, h⟩ := chk_bind h
          refine r_append (.p rfl) rfl (.own _ _ _) ⟨rfl, trivial⟩ rfl (.own _ _ _) ⟨rfl, trivial⟩ rfl slc28 slc28 sz3 byt3 (leb rfl) zv3 rfl (len_lim (f := eI64) (g := eI64) (xs := v4.2.1) (ys := (([(Int.tmod v9 ((IntKind.wrap .i64 (1 + (IntKind.wrap .i64 ((Int.tmod v7 3)))))))] : List Int))) c11) (map_app eI64 v4.2.1 (([(Int.tmod v9 ((IntKind.wrap .i64 (1 + (IntKind.wrap .i64 ((Int.tmod v7 3)))))))] : List Int))) ?_
          refine r_fieldAddr (.p rfl) rfl fld31_1 ?_
          refine r_store rfl rfl rfl rfl sz28 rfl (leb rfl) rfl ?_
          refine r_endD (by kernel_rfl) ?_
          refine W_region mixed rfl ?_
          refine r_fieldAddr (.p rfl) rfl fld31_2 ?_
          refine r_load1 (.p rfl) rfl ag28 rfl rfl ?_
          refine r_fieldAddr (.p rfl) rfl fld25_2 ?_
          refine r_load1 (.p rfl) rfl ag22 rfl rfl ?_
          refine r_move (.p rfl) rfl ?_
          obtain ⟨v12, a12, h⟩ := bind_some h
          refine r_call (ds0 := [_, _]) [] (sheaveref35_code_c N p0.fTarget v4.2.2.2 v12 a12) (.p rfl) gd37 rfl ⟨rfl, rfl, trivial⟩ rfl rfl rfl (nodupB_spec rfl) trivial rfl ?_
          refine r_move (.p rfl) rfl ?_
          obtain ⟨c13, h⟩ := chk_bind h
          refine r_bin (.p rfl) rfl rfl (bin_rem _ _ _ _ _ _ c13) rfl ?_
          refine r_buildSlice [(0, .tmp 60, _)] (.p rfl) rfl ⟨rfl, trivial⟩ rfl slc28 sz3 zv3 rfl rfl (leb rfl) rfl rfl ?_
          obtain ⟨c14, h⟩ := chk_bind h
          refine r_append (.p rfl) rfl (.own _ _ _) ⟨rfl, trivial⟩ rfl (.own _ _ _) ⟨rfl, trivial⟩ rfl slc28 slc28 sz3 byt3 (leb rfl) zv3 rfl (len_lim (f := eI64) (g := eI64) (xs := v4.2.2.1) (ys := (([(Int.tmod v12 ((IntKind.wrap .i64 (1 + (IntKind.wrap .i64 ((Int.tmod v7 3)))))))] : List Int))) c14) (map_app eI64 v4.2.2.1 (([(Int.tmod v12 ((IntKind.wrap .i64 (1 + (IntKind.wrap .i64 ((Int.tmod v7 3)))))))] : List Int))) ?_
          refine r_fieldAddr (.p rfl) rfl fld31_2 ?_
          refine r_store rfl rfl rfl rfl sz28 rfl (leb rfl) rfl ?_
          refine r_endD (by kernel_rfl) ?_
          refine W_region mixed rfl ?_
          refine r_move (.p rfl) rfl ?_
          refine r_bin (.p rfl) rfl rfl (bin_add _ _ _ _ _ _) rfl ?_
          refine r_assign (.p rfl) rfl ?_
          refine r_end ?_
          exact sink (v4.1 ++ (([(IntKind.wrap .i64 (1 + (IntKind.wrap .i64 ((Int.tmod v7 3)))))] : List Int)), v4.2.1 ++ (([(Int.tmod v9 ((IntKind.wrap .i64 (1 + (IntKind.wrap .i64 ((Int.tmod v7 3)))))))] : List Int)), v4.2.2.1 ++ (([(Int.tmod v12 ((IntKind.wrap .i64 (1 + (IntKind.wrap .i64 ((Int.tmod v7 3)))))))] : List Int)), (IntKind.wrap .i64 (v4.2.2.2 + 1))) h (sees_mk (rn [(2005, 40), (2006, 51), (2007, 62)]) _ _ ⟨rfl, rfl, rfl, rfl, trivial⟩ ⟨rfl, rfl, rfl, rfl, rfl, rfl, trivial⟩ rfl rfl)
        · have h := cnd_f c6 h
          refine W_exit ?_
          exact sink (v4.1, v4.2.1, v4.2.2.1) h (sees_mk (rn [(2008, 2005), (2009, 2006), (2010, 2007)]) _ _ ⟨rfl, rfl, rfl, trivial⟩ ⟨rfl, rfl, rfl, rfl, rfl, rfl, trivial⟩ rfl rfl)
      · refine W_sees hs ?_
        refine W_seq ?_
        refine W_seq ?_
        refine W_region mixed rfl ?_
        refine r_assign (.p rfl) rfl ?_
        refine r_end ?_
        refine W_whileE (L := Sh.sheaveref35_Of_L15 N p0 v5) h (fun v15 => mk [(1, .e (.one (.ptr 1 0))), (2, .e (.one (.ptr 2 0))), (4, .e (.one (.ptr 4 0))), (7, .e (.one (.pure (.val (.int .i64 v15.2)))))] [(1, .box [.pure (.sl (p0.fVersions.map eU8)), .pure (.sl (p0.fNow.map eU8)), .pure (.sl (p0.fTarget.map eU8)), .pure (.sl (p0.fLinks.map eSheaveref35Link))]), (2, .box [.pure (.nil0), .pure (.nil0), .pure (.nil0), .pure (.nil0)]), (4, .box [.own 2014, .own 2015, .own 2016, .own 2017]), (2014, .vec 1 (v5.1.map eI64)), (2015, .vec 1 (v5.2.1.map eI64)), (2016, .vec 1 (v5.2.2.map eI64)), (2017, .vec 6 (v15.1.map eApiTable))]) (fun v16 => mk [(2, .e (.one (.ptr 2 0))), (4, .e (.one (.ptr 4 0)))] [(2, .box [.pure (.nil0), .pure (.nil0), .pure (.nil0), .pure (.nil0)]), (4, .box [.own 2018, .own 2019, .own 2020, .own 2021]), (2018, .vec 1 (v5.1.map eI64)), (2019, .vec 1 (v5.2.1.map eI64)), (2020, .vec 1 (v5.2.2.map eI64)), (2021, .vec 6 (v16.map eApiTable))]) (fun _ _ => rfl) ((sees_adoptB 4 3 2039 6 _ rfl rfl rfl).trans (sees_mk (rn [(2014, 2008), (2015, 2009), (2016, 2010), (2017, 2039)]) _ _ ⟨rfl, rfl, rfl, rfl, trivial⟩ ⟨rfl, rfl, rfl, rfl, rfl, rfl, rfl, trivial⟩ rfl rfl)) (fun j15 n15 v15 h => ?_) (fun v16 s h hs => ?_)
        · unfold Sh.sheaveref35_Of_L15 at h
          refine W_seq ?_
          refine W_join h (fun v17 => mk [(1, .e (.one (.ptr 1 0))), (2, .e (.one (.ptr 2 0))), (4, .e (.one (.ptr 4 0))), (7, .e (.one (.pure (.val (.int .i64 v15.2))))), (74, .e (.one (.pure (.val (.bool v17)))))] [(1, .box [.pure (.sl (p0.fVersions.map eU8)), .pure (.sl (p0.fNow.map eU8)), .pure (.sl (p0.fTarget.map eU8)), .pure (.sl (p0.fLinks.map eSheaveref35Link))]), (2, .box [.pure (.nil0), .pure (.nil0), .pure (.nil0), .pure (.nil0)]), (4, .box [.own 2022, .own 2023, .own 2024, .own 2025]), (2022, .vec 1 (v5.1.map eI64)), (2023, .vec 1 (v5.2.1.map eI64)), (2024, .vec 1 (v5.2.2.map eI64)), (2025, .vec 6 (v15.1.map eApiTable))]) (fun j17 h => ?_) (fun v17 h => ?_)
          · refine W_region mixed rfl ?_
            refine r_move (.p rfl) rfl ?_
            refine r_fieldAddr (.p rfl) rfl fld25_3 ?_
            refine r_load1 (.p rfl) rfl ag23 rfl rfl ?_
            refine r_len (.p rfl) rfl (.sl _) trivial (List.length_map _) slc23 ?_
            refine r_bin (.p rfl) rfl rfl (bin_lss _ _ _ _ _ _) rfl ?_
            refine r_move (.p rfl) rfl ?_
            refine r_split (t := 69) rfl (fun c18 => ?_) (fun c18 => ?_)
            · have h := cnd_t c18 h
              refine r_fieldAddr (.g rfl rfl) rfl fld31_0 ?_
              refine r_load1 (.g rfl rfl) rfl ag28 rfl rfl ?_
              refine r_len (.g rfl rfl) rfl (.own _ _ _) ⟨rfl, trivial⟩ (List.length_map _) slc28 ?_
              refine r_bin (.g rfl rfl) rfl rfl (bin_gtr _ _ _ _ _ _) rfl ?_
              refine r_pick (.p rfl) rfl rfl rfl ?_
              refine r_end ?_
              exact sink (decide (0 < (v5.1.length : Int))) h (sees_mk (rn [(2022, 2014), (2023, 2015), (2024, 2016), (2025, 2017)]) _ _ ⟨rfl, rfl, rfl, rfl, rfl, trivial⟩ ⟨rfl, rfl, rfl, rfl, rfl, rfl, rfl, trivial⟩ rfl rfl)
            · have h := cnd_f c18 h
              refine r_notB rfl rfl ?_
              refine r_notB rfl rfl ?_
              refine r_notB rfl rfl ?_
              refine r_notB rfl rfl ?_
              refine r_pick (.p rfl) rfl rfl rfl ?_
              refine r_end ?_
              exact sink false h (sees_mk (rn [(2022, 2014), (2023, 2015), (2024, 2016), (2025, 2017)]) _ _ ⟨rfl, rfl, rfl, rfl, rfl, trivial⟩ ⟨rfl, rfl, rfl, rfl, rfl, rfl, rfl, trivial⟩ rfl rfl)
          · refine W_cond rfl (fun c19 => ?_) (fun c19 => ?_)
            · have h := cnd_t c19 h
              refine W_skip ?_
              refine W_seq ?_
              refine W_block ?_
              refine W_seq ?_
              refine W_region mixed rfl ?_
              refine r_fieldAddr (.p rfl) rfl fld25_3 ?_
              refine r_load1 (.p rfl) rfl ag23 rfl rfl ?_
              refine r_move (.p rfl) rfl ?_
              obtain ⟨v20, a20, b20, h⟩ := idx_bind h
              refine r_index (.p rfl) rfl rfl slc23 sz77 a20 (map_get b20) rfl ?_
              refine r_loadrN (.p rfl) rfl ag77 sz77 rfl rfl ?_
              refine r_alloc (.p rfl) zv77 rfl rfl rfl ?_
              refine r_store rfl rfl rfl rfl sz77 rfl (leb rfl) rfl ?_
              refine r_end ?_
              refine W_seq ?_
              refine W_region mixed rfl ?_
              refine r_fieldAddr (.p rfl) rfl fld77_0 ?_
              refine r_load1 (.p rfl) rfl ag5 rfl rfl ?_
              refine r_bin (.p rfl) rfl rfl (bin_rem _ _ _ _ _ _ (by decide)) rfl ?_
              refine r_conv (.p rfl) rfl (conv_int so5 in3 _ _) rfl ?_
              refine r_bin (.p rfl) rfl rfl (bin_add _ _ _ _ _ _) rfl ?_
              refine r_fieldAddr (.p rfl) rfl fld77_1 ?_
              refine r_load1 (.p rfl) rfl ag5 rfl rfl ?_
              refine r_conv (.p rfl) rfl (conv_int so5 in3 _ _) rfl ?_
              refine r_fieldAddr (.p rfl) rfl fld31_0 ?_
              refine r_load1 (.p rfl) rfl ag28 rfl rfl ?_
              refine r_len (.p rfl) rfl (.own _ _ _) ⟨rfl, trivial⟩ (List.length_map _) slc28 ?_
              obtain ⟨c21, h⟩ := chk_bind h
              refine r_bin (.p rfl) rfl rfl (bin_rem _ _ _ _ _ _ c21) rfl ?_
              refine r_fieldAddr (.p rfl) rfl fld77_2 ?_
              refine r_load1 (.p rfl) rfl ag5 rfl rfl ?_
              refine r_conv (.p rfl) rfl (conv_int so5 in3 _ _) rfl ?_
              refine r_fieldAddr (.p rfl) rfl fld31_0 ?_
              refine r_load1 (.p rfl) rfl ag28 rfl rfl ?_
              refine r_len (.p rfl) rfl (.own _ _ _) ⟨rfl, trivial⟩ (List.length_map _) slc28 ?_
              obtain ⟨c22, h⟩ := chk_bind h
              refine r_bin (.p rfl) rfl rfl (bin_rem _ _ _ _ _ _ c22) rfl ?_
              refine r_build [(0, .tmp 86, _), (1, .tmp 93, _), (2, .tmp 100, _)] (.p rfl) rfl ⟨rfl, rfl, rfl, trivial⟩ zv61 rfl rfl pl61 rfl ?_
              refine r_alloc (.p rfl) zv61 rfl rfl rfl ?_
              refine r_store rfl rfl rfl rfl sz61 rfl (leb rfl) rfl ?_
              refine r_endD (by kernel_rfl) ?_
              refine W_join h (fun v23 => mk [(1, .e (.one (.ptr 1 0))), (2, .e (.one (.ptr 2 0))), (4, .e (.one (.ptr 4 0))), (7, .e (.one (.pure (.val (.int .i64 v15.2))))), (8, .e (.one (.ptr 8 0))), (9, .e (.one (.ptr 9 0)))] [(1, .box [.pure (.sl (p0.fVersions.map eU8)), .pure (.sl (p0.fNow.map eU8)), .pure (.sl (p0.fTarget.map eU8)), .pure (.sl (p0.fLinks.map eSheaveref35Link))]), (2, .box [.pure (.nil0), .pure (.nil0), .pure (.nil0), .pure (.nil0)]), (4, .box [.own 2026, .own 2027, .own 2028, .own 2029]), (8, .box [.pure (.val (.int .u8 v20.fKind)), .pure (.val (.int .u8 v20.fFrom)), .pure (.val (.int .u8 v20.fTo)), .pure (.val (.bool v20.fAware)), .pure (.val (.int .u16 v20.fBad)), .pure (.val (.int .u16 v20.fLost))]), (9, .box [.pure (.val (.int .i64 ((IntKind.wrap .i64 (1 + (IntKind.wrap .i64 ((Int.tmod v20.fKind 4)))))))), .pure (.val (.int .i64 ((Int.tmod ((IntKind.wrap .i64 v20.fFrom)) ((v5.1.length : Int)))))), .pure (.val (.int .i64 ((Int.tmod ((IntKind.wrap .i64 v20.fTo)) ((v5.1.length : Int)))))), .pure (.val (.bool v23)), .pure (.nil0), .pure (.nil0)]), (2026, .vec 1 (v5.1.map eI64)), (2027, .vec 1 (v5.2.1.map eI64)), (2028, .vec 1 (v5.2.2.map eI64)), (2029, .vec 6 (v15.1.map eApiTable))]) (fun j23 h => ?_) (fun v23 h => ?_)
              · refine W_region mixed rfl ?_
                refine r_fieldAddr (.p rfl) rfl fld77_3 ?_
                refine r_load1 (.p rfl) rfl ag4 rfl rfl ?_
                refine r_move (.p rfl) rfl ?_
                refine r_split (t := 104) rfl (fun c24 => ?_) (fun c24 => ?_)
                · have h := cnd_t c24 h
                  refine r_loadN (.g rfl rfl) rfl ag61 sz61 rfl rfl rfl ?_
                  obtain ⟨v25, a25, h⟩ := bind_some h
                  refine r_call (ds0 := [_]) [] (sheaveref35_Stored_c N ((ApiTable.mk ((IntKind.wrap .i64 (1 + (IntKind.wrap .i64 ((Int.tmod v20.fKind 4)))))) ((Int.tmod ((IntKind.wrap .i64 v20.fFrom)) ((v5.1.length : Int)))) ((Int.tmod ((IntKind.wrap .i64 v20.fTo)) ((v5.1.length : Int)))) false (([] : List (List Bool))) (([] : List (List Bool))))) v25 a25) (.g rfl rfl) gd38 rfl ⟨rfl, trivial⟩ rfl rfl rfl (nodupB_spec rfl) trivial rfl ?_
                  refine r_un (.g rfl rfl) rfl (un_not _) rfl ?_
                  refine r_pick (.p rfl) rfl rfl rfl ?_
                  refine r_fieldAddr (.p rfl) rfl fld61_3 ?_
                  refine r_store rfl rfl rfl rfl sz4 rfl (leb rfl) rfl ?_
                  refine r_end ?_
                  exact sink (!v25) h (sees_mk (rn [(2026, 2022), (2027, 2023), (2028, 2024), (2029, 2025)]) _ _ ⟨rfl, rfl, rfl, rfl, rfl, rfl, trivial⟩ ⟨rfl, rfl, rfl, rfl, rfl, rfl, rfl, rfl, rfl, trivial⟩ rfl rfl)
                · have h := cnd_f c24 h
                  refine r_notB rfl rfl ?_
                  refine r_notB rfl rfl ?_
                  refine r_notB rfl rfl ?_
                  refine r_pick (.p rfl) rfl rfl rfl ?_
                  refine r_fieldAddr (.p rfl) rfl fld61_3 ?_
                  refine r_store rfl rfl rfl rfl sz4 rfl (leb rfl) rfl ?_
                  refine r_end ?_
                  exact sink false h (sees_mk (rn [(2026, 2022), (2027, 2023), (2028, 2024), (2029, 2025)]) _ _ ⟨rfl, rfl, rfl, rfl, rfl, rfl, trivial⟩ ⟨rfl, rfl, rfl, rfl, rfl, rfl, rfl, rfl, rfl, trivial⟩ rfl rfl)
              · refine W_seq ?_
                refine W_region mixed rfl ?_
                refine r_fieldAddr (.p rfl) rfl fld31_0 ?_
                refine r_load1 (.p rfl) rfl ag28 rfl rfl ?_
                refine r_fieldAddr (.p rfl) rfl fld61_1 ?_
                refine r_load1 (.p rfl) rfl ag3 rfl rfl ?_
                obtain ⟨v26, a26, b26, h⟩ := idx_bind h
                refine r_indexo (.p rfl) rfl rfl rfl slc28 sz3 a26 (map_get b26) ?_
                refine r_loade1 (.p rfl) rfl ag3 rfl (map_get b26) rfl ?_
                refine r_fieldAddr (.p rfl) rfl fld31_0 ?_
                refine r_load1 (.p rfl) rfl ag28 rfl rfl ?_
                refine r_fieldAddr (.p rfl) rfl fld61_2 ?_
                refine r_load1 (.p rfl) rfl ag3 rfl rfl ?_
                obtain ⟨v27, a27, b27, h⟩ := idx_bind h
                refine r_indexo (.p rfl) rfl rfl rfl slc28 sz3 a27 (map_get b27) ?_
                refine r_loade1 (.p rfl) rfl ag3 rfl (map_get b27) rfl ?_
                refine r_fieldAddr (.p rfl) rfl fld77_4 ?_
                refine r_load1 (.p rfl) rfl ag66 rfl rfl ?_
                obtain ⟨v28, a28, h⟩ := bind_some h
                refine r_call (ds0 := [_, _, _, _]) [2030] (sheaveref35_bits_c N v26 v27 v20.fBad false v28 a28) (.p rfl) gd39 rfl ⟨rfl, rfl, rfl, rfl, trivial⟩ rfl rfl rfl (nodupB_spec rfl) ⟨rfl, trivial⟩ rfl ?_
                refine r_fieldAddr (.p rfl) rfl fld61_4 ?_
                refine r_store rfl rfl rfl rfl sz59 rfl (leb rfl) rfl ?_
                refine r_endD (by kernel_rfl) ?_
                refine W_join h (fun v29 => mk [(1, .e (.one (.ptr 1 0))), (2, .e (.one (.ptr 2 0))), (4, .e (.one (.ptr 4 0))), (7, .e (.one (.pure (.val (.int .i64 v15.2))))), (9, .e (.one (.ptr 9 0)))] [(1, .box [.pure (.sl (p0.fVersions.map eU8)), .pure (.sl (p0.fNow.map eU8)), .pure (.sl (p0.fTarget.map eU8)), .pure (.sl (p0.fLinks.map eSheaveref35Link))]), (2, .box [.pure (.nil0), .pure (.nil0), .pure (.nil0), .pure (.nil0)]), (4, .box [.own 2031, .own 2032, .own 2033, .own 2034]), (9, .box [.pure (.val (.int .i64 ((IntKind.wrap .i64 (1 + (IntKind.wrap .i64 ((Int.tmod v20.fKind 4)))))))), .pure (.val (.int .i64 ((Int.tmod ((IntKind.wrap .i64 v20.fFrom)) ((v5.1.length : Int)))))), .pure (.val (.int .i64 ((Int.tmod ((IntKind.wrap .i64 v20.fTo)) ((v5.1.length : Int)))))), .pure (.val (.bool v23)), .own 2035, .own 2036]), (2031, .vec 1 (v5.1.map eI64)), (2032, .vec 1 (v5.2.1.map eI64)), (2033, .vec 1 (v5.2.2.map eI64)), (2034, .vec 6 (v15.1.map eApiTable)), (2035, .vec 1 (v28.map (eSl eB))), (2036, .vec 1 (v29.map (eSl eB)))]) (fun j29 h => ?_) (fun v29 h => ?_)
                · refine W_seq ?_
                  refine W_region mixed rfl ?_
                  refine r_fieldAddr (.p rfl) rfl fld61_0 ?_
                  refine r_load1 (.p rfl) rfl ag3 rfl rfl ?_
                  refine r_bin (.p rfl) rfl rfl (bin_eql _ _ _ _ _ _) rfl ?_
                  refine r_end ?_
                  refine W_cond rfl (fun c30 => ?_) (fun c30 => ?_)
                  · have h := cnd_t c30 h
                    refine W_region mixed rfl ?_
                    refine r_fieldAddr (.p rfl) rfl fld31_0 ?_
                    refine r_load1 (.p rfl) rfl ag28 rfl rfl ?_
                    refine r_fieldAddr (.p rfl) rfl fld61_1 ?_
                    refine r_load1 (.p rfl) rfl ag3 rfl rfl ?_
                    obtain ⟨v31, a31, b31, h⟩ := idx_bind h
                    refine r_indexo (.p rfl) rfl rfl rfl slc28 sz3 a31 (map_get b31) ?_
                    refine r_loade1 (.p rfl) rfl ag3 rfl (map_get b31) rfl ?_
                    refine r_fieldAddr (.p rfl) rfl fld31_0 ?_
                    refine r_load1 (.p rfl) rfl ag28 rfl rfl ?_
                    refine r_fieldAddr (.p rfl) rfl fld61_1 ?_
                    refine r_load1 (.p rfl) rfl ag3 rfl rfl ?_
                    obtain ⟨v32, a32, b32, h⟩ := idx_bind h
                    refine r_indexo (.p rfl) rfl rfl rfl slc28 sz3 a32 (map_get b32) ?_
                    refine r_loade1 (.p rfl) rfl ag3 rfl (map_get b32) rfl ?_
                    refine r_fieldAddr (.p rfl) rfl fld77_5 ?_
                    refine r_load1 (.p rfl) rfl ag66 rfl rfl ?_
                    obtain ⟨v33, a33, h⟩ := bind_some h
                    refine r_call (ds0 := [_, _, _, _]) [2037] (sheaveref35_bits_c N v31 v32 v20.fLost true v33 a33) (.p rfl) gd39 rfl ⟨rfl, rfl, rfl, rfl, trivial⟩ rfl rfl rfl (nodupB_spec rfl) ⟨rfl, trivial⟩ rfl ?_
                    refine r_fieldAddr (.p rfl) rfl fld61_5 ?_
                    refine r_store rfl rfl rfl rfl sz59 rfl (leb rfl) rfl ?_
                    refine r_endD (by kernel_rfl) ?_
                    exact sink v33 h (sees_mk (rn [(2031, 2026), (2032, 2027), (2033, 2028), (2034, 2029), (2035, 2030), (2036, 2037)]) _ _ ⟨rfl, rfl, rfl, rfl, rfl, trivial⟩ ⟨rfl, rfl, rfl, rfl, rfl, rfl, rfl, rfl, rfl, rfl, trivial⟩ rfl rfl)
                  · have h := cnd_f c30 h
                    refine W_skip ?_
                    exact sink ([] : List (List Bool)) h ((sees_adoptB 9 5 2038 1 _ rfl rfl rfl).trans (sees_mk (rn [(2031, 2026), (2032, 2027), (2033, 2028), (2034, 2029), (2035, 2030), (2036, 2038)]) _ _ ⟨rfl, rfl, rfl, rfl, rfl, trivial⟩ ⟨rfl, rfl, rfl, rfl, rfl, rfl, rfl, rfl, rfl, rfl, trivial⟩ rfl rfl))
                · refine W_region mixed rfl ?_
                  refine r_fieldAddr (.p rfl) rfl fld31_3 ?_
                  refine r_load1 (.p rfl) rfl ag29 rfl rfl ?_
                  refine r_loadN (.p rfl) rfl ag61 sz61 rfl rfl rfl ?_
                  refine r_see (sees_frz 2035 _ _ rfl) ?_
                  refine r_see (sees_frz 2036 _ _ rfl) ?_
                  refine r_buildSlice [(0, .tmp 147, _)] (.p rfl) rfl ⟨rfl, trivial⟩ rfl slc29 sz61 zv61 rfl rfl (leb rfl) rfl rfl ?_
                  obtain ⟨c34, h⟩ := chk_bind h
                  refine r_append (.p rfl) rfl (.own _ _ _) ⟨rfl, trivial⟩ rfl (.own _ _ _) ⟨rfl, trivial⟩ rfl slc29 slc29 sz61 byt61 (leb rfl) zv61 rfl (len_lim (f := eApiTable) (g := eApiTable) (xs := v15.1) (ys := (([(ApiTable.mk ((IntKind.wrap .i64 (1 + (IntKind.wrap .i64 ((Int.tmod v20.fKind 4)))))) ((Int.tmod ((IntKind.wrap .i64 v20.fFrom)) ((v5.1.length : Int)))) ((Int.tmod ((IntKind.wrap .i64 v20.fTo)) ((v5.1.length : Int)))) v23 v28 v29)] : List ApiTable))) c34) (map_app eApiTable v15.1 (([(ApiTable.mk ((IntKind.wrap .i64 (1 + (IntKind.wrap .i64 ((Int.tmod v20.fKind 4)))))) ((Int.tmod ((IntKind.wrap .i64 v20.fFrom)) ((v5.1.length : Int)))) ((Int.tmod ((IntKind.wrap .i64 v20.fTo)) ((v5.1.length : Int)))) v23 v28 v29)] : List ApiTable))) ?_
                  refine r_fieldAddr (.p rfl) rfl fld31_3 ?_
                  refine r_store rfl rfl rfl rfl sz29 rfl (leb rfl) rfl ?_
                  refine r_end ?_
                  refine W_region mixed rfl ?_
                  refine r_move (.p rfl) rfl ?_
                  refine r_bin (.p rfl) rfl rfl (bin_add _ _ _ _ _ _) rfl ?_
                  refine r_assign (.p rfl) rfl ?_
                  refine r_end ?_
                  exact sink (v15.1 ++ (([(ApiTable.mk ((IntKind.wrap .i64 (1 + (IntKind.wrap .i64 ((Int.tmod v20.fKind 4)))))) ((Int.tmod ((IntKind.wrap .i64 v20.fFrom)) ((v5.1.length : Int)))) ((Int.tmod ((IntKind.wrap .i64 v20.fTo)) ((v5.1.length : Int)))) v23 v28 v29)] : List ApiTable)), (IntKind.wrap .i64 (v15.2 + 1))) h (sees_mk (rn [(2014, 2031), (2015, 2032), (2016, 2033), (2017, 149)]) _ _ ⟨rfl, rfl, rfl, rfl, trivial⟩ ⟨rfl, rfl, rfl, rfl, rfl, rfl, rfl, trivial⟩ rfl rfl)
            · have h := cnd_f c19 h
              refine W_exit ?_
              exact sink v15.1 h (sees_mk (rn [(2018, 2022), (2019, 2023), (2020, 2024), (2021, 2025)]) _ _ ⟨rfl, rfl, trivial⟩ ⟨rfl, rfl, rfl, rfl, rfl, rfl, trivial⟩ rfl rfl)
        · refine W_sees hs ?_
          refine W_seq ?_
          refine W_region mixed rfl ?_
          refine r_loadN (.p rfl) rfl ag31 sz31 rfl rfl rfl ?_
          refine r_store rfl rfl rfl rfl sz31 rfl (leb rfl) rfl ?_
          refine r_assign (.p rfl) rfl ?_
          refine r_end ?_
          obtain rfl := Option.some.inj h
          refine W_sees (sees_mk (rn [(1000, 2018), (1001, 2019), (1002, 2020), (1003, 2021)]) [(2, .e (.one (.ptr 2 0))), (3, .e (.one (.pure (.val (.bool true)))))] [(2, .box [.own 1000, .own 1001, .own 1002, .own 1003]), (1000, .vec 1 (v5.1.map eI64)), (1001, .vec 1 (v5.2.1.map eI64)), (1002, .vec 1 (v5.2.2.map eI64)), (1003, .vec 6 (v16.map eApiTable))] ⟨rfl, rfl, trivial⟩ ⟨rfl, rfl, rfl, rfl, rfl, trivial⟩ rfl rfl) (W_ret ?_)
          exact ⟨⟨[_, _], ⟨.cellN _ _ _ _ _ _ _ rfl rfl ag31 sz31 rfl rfl (ltb rfl), ⟨.tmp _ _ rfl, trivial⟩⟩, rfl⟩, ⟨rfl, rfl, rfl, rfl, trivial⟩⟩

set_option maxRecDepth 10000 in
theorem sheavelaw36_example_c (N : Nat) (p0 : Bool) (r : ApiProblem) (h : Sh.sheavelaw36_example N p0 = some r) : Contract Try.prog 40 [.e (.one (.pure (.val (.bool p0))))] [(1, r.fVersions.map eI64), (1, r.fNow.map eI64), (1, r.fTarget.map eI64), (6, r.fTables.map eApiTable)] (.e (.agg [.own 0, .own 1, .own 2, .own 3])) := by
  unfold Sh.sheavelaw36_example at h
  refine contract_of_W (n := 15) (rs := [.cell 2 31]) Try.func40 rfl rfl rfl (leb rfl) rfl fun w0 S0 => ?_
  refine W_seq ?_
  refine W_region mixed rfl ?_
  refine r_alloc (.p rfl) zv31 rfl rfl rfl ?_
  refine r_end ?_
  refine W_seq ?_
  refine W_region mixed rfl ?_
  refine r_move (.p rfl) rfl ?_
  refine r_buildSlice [(0, .const (.bool true), _), (1, .const (.bool true), _)] (.p rfl) rfl ⟨rfl, rfl, trivial⟩ rfl slc65 sz4 zv4 rfl rfl (leb rfl) rfl rfl ?_
  refine r_buildSlice [(0, .const (.bool false), _), (1, .const (.bool true), _)] (.p rfl) rfl ⟨rfl, rfl, trivial⟩ rfl slc65 sz4 zv4 rfl rfl (leb rfl) rfl rfl ?_
  refine r_see (sees_frz 5 _ _ rfl) ?_
  refine r_see (sees_frz 6 _ _ rfl) ?_
  refine r_buildSlice [(0, .tmp 5, _), (1, .tmp 6, _)] (.p rfl) rfl ⟨rfl, rfl, trivial⟩ rfl slc59 sz65 zv65 rfl rfl (leb rfl) rfl rfl ?_
  refine r_build [(0, .const (.int .i64 1), _), (1, .const (.int .i64 0), _), (2, .const (.int .i64 1), _), (3, .tmp 4, _), (4, .tmp 7, _)] (.p rfl) rfl ⟨rfl, rfl, rfl, rfl, rfl, trivial⟩ zv61 rfl rfl pl61 rfl ?_
  refine r_alloc (.p rfl) zv61 rfl rfl rfl ?_
  refine r_store rfl rfl rfl rfl sz61 rfl (leb rfl) rfl ?_
  refine r_end ?_
  refine W_seq ?_
  refine W_region mixed rfl ?_
  refine r_buildSlice [(0, .const (.int .i64 2), _), (1, .const (.int .i64 2), _)] (.p rfl) rfl ⟨rfl, rfl, trivial⟩ rfl slc28 sz3 zv3 rfl rfl (leb rfl) rfl rfl ?_
  refine r_buildSlice [(0, .const (.int .i64 0), _), (1, .const (.int .i64 0), _)] (.p rfl) rfl ⟨rfl, rfl, trivial⟩ rfl slc28 sz3 zv3 rfl rfl (leb rfl) rfl rfl ?_
  refine r_buildSlice [(0, .const (.int .i64 1), _), (1, .const (.int .i64 1), _)] (.p rfl) rfl ⟨rfl, rfl, trivial⟩ rfl slc28 sz3 zv3 rfl rfl (leb rfl) rfl rfl ?_
  refine r_loadN (.p rfl) rfl ag61 sz61 rfl rfl rfl ?_
  refine r_see (sees_frz 7 _ _ rfl) ?_
  refine r_buildSlice [(0, .tmp 12, _)] (.p rfl) rfl ⟨rfl, trivial⟩ rfl slc29 sz61 zv61 rfl rfl (leb rfl) rfl rfl ?_
  refine r_build [(0, .tmp 9, _), (1, .tmp 10, _), (2, .tmp 11, _), (3, .tmp 13, _)] (.p rfl) rfl ⟨rfl, rfl, rfl, rfl, trivial⟩ zv31 rfl rfl pl31 rfl ?_
  refine r_store rfl rfl rfl rfl sz31 rfl (leb rfl) rfl ?_
  refine r_end ?_
  obtain rfl := Option.some.inj h
  refine W_sees (sees_mk (rn [(1000, 9), (1001, 10), (1002, 11), (1003, 13)]) [(2, .e (.one (.ptr 2 0)))] [(2, .box [.own 1000, .own 1001, .own 1002, .own 1003]), (1000, .vec 1 ((([2, 2] : List Int)).map eI64)), (1001, .vec 1 ((([0, 0] : List Int)).map eI64)), (1002, .vec 1 ((([1, 1] : List Int)).map eI64)), (1003, .vec 6 ((([(ApiTable.mk 1 0 1 p0 (([([true, true] : List Bool), ([false, true] : List Bool)] : List (List Bool))) (([] : List (List Bool))))] : List ApiTable)).map eApiTable))] ⟨rfl, trivial⟩ ⟨rfl, rfl, rfl, rfl, rfl, trivial⟩ rfl rfl) (W_ret ?_)
  exact ⟨⟨[_], ⟨.cellN _ _ _ _ _ _ _ rfl rfl ag31 sz31 rfl rfl (ltb rfl), trivial⟩, rfl⟩, ⟨rfl, rfl, rfl, rfl, trivial⟩⟩

set_option maxRecDepth 10000 in
theorem fleet_within_c (N : Nat) (p0 : Int) (p1 : Int) (r : Bool) (h : Sh.fleet_within N p0 p1 = some r) : Contract Try.prog 66 [.e (.one (.pure (.val (.int .i64 p0)))), .e (.one (.pure (.val (.int .i64 p1))))] [] (.e (.one (.pure (.val (.bool r))))) := by
  unfold Sh.fleet_within at h
  refine contract_of_W (n := 12) (rs := [.tmp 4]) Try.func66 rfl rfl rfl (leb rfl) rfl fun w0 S0 => ?_
  refine W_seq ?_
  refine W_region mixed rfl ?_
  refine r_assign (.p rfl) rfl ?_
  refine r_end ?_
  refine W_join h (fun v1 => mk [(4, .e (.one (.pure (.val (.bool v1)))))] []) (fun j1 h => ?_) (fun v1 h => ?_)
  · refine W_region mixed rfl ?_
    refine r_move (.p rfl) rfl ?_
    refine r_bin (.p rfl) rfl rfl (bin_geq _ _ _ _ _ _) rfl ?_
    refine r_move (.p rfl) rfl ?_
    refine r_split (t := 7) rfl (fun c2 => ?_) (fun c2 => ?_)
    · have h := cnd_t c2 h
      refine r_move (.g rfl rfl) rfl ?_
      refine r_move (.g rfl rfl) rfl ?_
      refine r_bin (.g rfl rfl) rfl rfl (bin_lss _ _ _ _ _ _) rfl ?_
      refine r_pick (.p rfl) rfl rfl rfl ?_
      refine r_assign (.p rfl) rfl ?_
      refine r_end ?_
      exact sink (decide (p0 < p1)) h (sees_mk (rn []) _ _ ⟨rfl, trivial⟩ trivial rfl rfl)
    · have h := cnd_f c2 h
      refine r_notB rfl rfl ?_
      refine r_notB rfl rfl ?_
      refine r_notB rfl rfl ?_
      refine r_pick (.p rfl) rfl rfl rfl ?_
      refine r_assign (.p rfl) rfl ?_
      refine r_end ?_
      exact sink false h (sees_mk (rn []) _ _ ⟨rfl, trivial⟩ trivial rfl rfl)
  · obtain rfl := Option.some.inj h
    refine W_sees (sees_mk (rn []) [(4, .e (.one (.pure (.val (.bool v1)))))] [] ⟨rfl, trivial⟩ trivial rfl rfl) (W_ret ?_)
    exact ⟨⟨[_], ⟨.tmp _ _ rfl, trivial⟩, rfl⟩, trivial⟩

set_option maxRecDepth 10000 in
theorem fleet_kind_c (N : Nat) (p0 : Int) (p1 : Bool) (r : Bool) (h : Sh.fleet_kind N p0 p1 = some r) : Contract Try.prog 73 [.e (.one (.pure (.val (.int .i64 p0)))), .e (.one (.pure (.val (.bool p1))))] [] (.e (.one (.pure (.val (.bool r))))) := by
  unfold Sh.fleet_kind at h
  refine contract_of_W (n := 23) (rs := [.tmp 4]) Try.func73 rfl rfl rfl (leb rfl) rfl fun w0 S0 => ?_
  refine W_seq ?_
  refine W_region mixed rfl ?_
  refine r_assign (.p rfl) rfl ?_
  refine r_end ?_
  refine W_join h (fun v1 => mk [(4, .e (.one (.pure (.val (.bool v1)))))] []) (fun j1 h => ?_) (fun v1 h => ?_)
  · refine W_region mixed rfl ?_
    refine r_move (.p rfl) rfl ?_
    refine r_bin (.p rfl) rfl rfl (bin_eql _ _ _ _ _ _) rfl ?_
    refine r_move (.p rfl) rfl ?_
    refine r_split (t := 7) rfl (fun c2 => ?_) (fun c2 => ?_)
    · have h := cnd_t c2 h
      refine r_notB rfl rfl ?_
      refine r_notB rfl rfl ?_
      refine r_pick (.p rfl) rfl rfl rfl ?_
      refine r_move (.p rfl) rfl ?_
      refine r_notB rfl rfl ?_
      refine r_notB rfl rfl ?_
      refine r_notB rfl rfl ?_
      refine r_notU rfl rfl ?_
      refine r_notU rfl rfl ?_
      refine r_notB rfl rfl ?_
      refine r_notB rfl rfl ?_
      refine r_notU rfl rfl ?_
      refine r_notU rfl rfl ?_
      refine r_notB rfl rfl ?_
      refine r_pick (.p rfl) rfl rfl rfl ?_
      refine r_assign (.p rfl) rfl ?_
      refine r_end ?_
      exact sink true h (sees_mk (rn []) _ _ ⟨rfl, trivial⟩ trivial rfl rfl)
    · have h := cnd_f c2 h
      refine r_move (.g rfl rfl) rfl ?_
      refine r_bin (.g rfl rfl) rfl rfl (bin_eql _ _ _ _ _ _) rfl ?_
      refine r_pick (.p rfl) rfl rfl rfl ?_
      refine r_move (.p rfl) rfl ?_
      refine r_split (t := 11) rfl (fun c3 => ?_) (fun c3 => ?_)
      · have h := cnd_t c3 h
        refine r_notB rfl rfl ?_
        refine r_notB rfl rfl ?_
        refine r_notB rfl rfl ?_
        refine r_notU rfl rfl ?_
        refine r_notU rfl rfl ?_
        refine r_notB rfl rfl ?_
        refine r_notB rfl rfl ?_
        refine r_notU rfl rfl ?_
        refine r_notU rfl rfl ?_
        refine r_notB rfl rfl ?_
        refine r_pick (.p rfl) rfl rfl rfl ?_
        refine r_assign (.p rfl) rfl ?_
        refine r_end ?_
        exact sink true h (sees_mk (rn []) _ _ ⟨rfl, trivial⟩ trivial rfl rfl)
      · have h := cnd_f c3 h
        refine r_move (.g rfl rfl) rfl ?_
        refine r_bin (.g rfl rfl) rfl rfl (bin_eql _ _ _ _ _ _) rfl ?_
        refine r_move (.g rfl rfl) rfl ?_
        refine r_split (t := 14) rfl (fun c4 => ?_) (fun c4 => ?_)
        · have h := cnd_t c4 h
          refine r_notB rfl rfl ?_
          refine r_notB rfl rfl ?_
          refine r_pick (.g rfl rfl) rfl rfl rfl ?_
          refine r_move (.g rfl rfl) rfl ?_
          refine r_move (.g rfl rfl) rfl ?_
          refine r_un (.g rfl rfl) rfl (un_not _) rfl ?_
          refine r_pick (.g rfl rfl) rfl rfl rfl ?_
          refine r_pick (.p rfl) rfl rfl rfl ?_
          refine r_assign (.p rfl) rfl ?_
          refine r_end ?_
          exact sink (!p1) h (sees_mk (rn []) _ _ ⟨rfl, trivial⟩ trivial rfl rfl)
        · have h := cnd_f c4 h
          refine r_move (.g rfl rfl) rfl ?_
          refine r_bin (.g rfl rfl) rfl rfl (bin_eql _ _ _ _ _ _) rfl ?_
          refine r_pick (.g rfl rfl) rfl rfl rfl ?_
          refine r_move (.g rfl rfl) rfl ?_
          refine r_split (t := 18) rfl (fun c5 => ?_) (fun c5 => ?_)
          · have h := cnd_t c5 h
            refine r_move (.g rfl rfl) rfl ?_
            refine r_un (.g rfl rfl) rfl (un_not _) rfl ?_
            refine r_pick (.g rfl rfl) rfl rfl rfl ?_
            refine r_pick (.p rfl) rfl rfl rfl ?_
            refine r_assign (.p rfl) rfl ?_
            refine r_end ?_
            exact sink (!p1) h (sees_mk (rn []) _ _ ⟨rfl, trivial⟩ trivial rfl rfl)
          · have h := cnd_f c5 h
            refine r_notB rfl rfl ?_
            refine r_notB rfl rfl ?_
            refine r_pick (.g rfl rfl) rfl rfl rfl ?_
            refine r_pick (.p rfl) rfl rfl rfl ?_
            refine r_assign (.p rfl) rfl ?_
            refine r_end ?_
            exact sink false h (sees_mk (rn []) _ _ ⟨rfl, trivial⟩ trivial rfl rfl)
  · obtain rfl := Option.some.inj h
    refine W_sees (sees_mk (rn []) [(4, .e (.one (.pure (.val (.bool v1)))))] [] ⟨rfl, trivial⟩ trivial rfl rfl) (W_ret ?_)
    exact ⟨⟨[_], ⟨.tmp _ _ rfl, trivial⟩, rfl⟩, trivial⟩

set_option maxRecDepth 10000 in
theorem fleet_matrix_1_c (N : Nat) (p0 : List Bool) (p1 : Int) (r : Bool) (h : Sh.fleet_matrix_1 N p0 p1 = some r) : Contract Try.prog 80 [.e (.one (.pure (.sl (p0.map eB)))), .e (.one (.rop [.val (.int .i64 p1)]))] [] (.e (.one (.pure (.val (.bool r))))) := by
  unfold Sh.fleet_matrix_1 at h
  refine contract_of_W (n := 8) (rs := [.tmp 3]) Try.func80 rfl rfl rfl (leb rfl) rfl fun w0 S0 => ?_
  refine W_seq ?_
  refine W_region mixed rfl ?_
  refine r_assign (.p rfl) rfl ?_
  refine r_end ?_
  refine W_seq ?_
  refine W_region mixed rfl ?_
  refine r_move (.p rfl) rfl ?_
  refine r_len (.p rfl) rfl (.sl _) trivial (List.length_map _) slc65 ?_
  refine r_loadr1 (.p rfl) rfl ag3 rfl ?_
  refine r_bin (.p rfl) rfl rfl (bin_neq _ _ _ _ _ _) rfl ?_
  refine r_assign (.p rfl) rfl ?_
  refine r_end ?_
  obtain rfl := Option.some.inj h
  refine W_sees (sees_mk (rn []) [(3, .e (.one (.pure (.val (.bool (((p0.length : Int) != p1)))))))] [] ⟨rfl, trivial⟩ trivial rfl rfl) (W_ret ?_)
  exact ⟨⟨[_], ⟨.tmp _ _ rfl, trivial⟩, rfl⟩, trivial⟩

set_option maxRecDepth 10000 in
theorem slices_IndexFunc_bool_bool_c (N : Nat) (p0 : List (List Bool)) (p1 : (List Bool) → Option Bool) (r : Int) (h : Sh.slices_IndexFunc_bool_bool N p0 p1 = some r) : Contract Try.prog 81 [.e (.one (.pure (.sl (p0.map (eSl eB))))), .e (.one (.clo (cloG (ea1 false (eSl eB)) tB p1)))] [] (.e (.one (.pure (.val (.int .i64 r))))) := by
  unfold Sh.slices_IndexFunc_bool_bool at h
  refine contract_of_W (n := 19) (rs := [.tmp 4]) Try.func81 rfl rfl rfl (leb rfl) rfl fun w0 S0 => ?_
  refine W_seq ?_
  refine W_region mixed rfl ?_
  refine r_assign (.p rfl) rfl ?_
  refine r_end ?_
  refine W_seq ?_
  refine W_seq ?_
  refine W_region mixed rfl ?_
  refine r_move (.p rfl) rfl ?_
  refine r_len (.p rfl) rfl (.sl _) trivial (List.length_map _) slc59 ?_
  refine r_move (.p rfl) rfl ?_
  refine r_end ?_
  refine W_whileE (L := Sh.slices_IndexFunc_bool_bool_L1 N p0 p1) h (fun v1 => mk [(0, .e (.one (.pure (.sl (p0.map (eSl eB)))))), (1, .e (.one (.clo (cloG (ea1 false (eSl eB)) tB p1)))), (7, .e (.one (.pure (.val (.int .i64 ((p0.length : Int))))))), (8, .e (.one (.pure (.val (.int .i64 v1)))))] []) (fun v2 => mk [] []) (fun _ _ => rfl) (sees_mk (rn []) _ _ ⟨rfl, rfl, rfl, rfl, trivial⟩ trivial rfl rfl) (fun j1 n1 v1 h => ?_) (fun v2 s h hs => ?_)
  · unfold Sh.slices_IndexFunc_bool_bool_L1 at h
    refine W_seq ?_
    refine W_region mixed rfl ?_
    refine r_bin (.p rfl) rfl rfl (bin_lss _ _ _ _ _ _) rfl ?_
    refine r_end ?_
    refine W_seq ?_
    refine W_cond rfl (fun c3 => ?_) (fun c3 => ?_)
    · have h := cnd_t c3 h
      refine W_skip ?_
      refine W_seq ?_
      refine W_block ?_
      refine W_seq ?_
      refine W_region mixed rfl ?_
      refine r_move (.p rfl) rfl ?_
      refine r_assign (.p rfl) rfl ?_
      refine r_end ?_
      refine W_seq ?_
      refine W_region mixed rfl ?_
      refine r_move (.p rfl) rfl ?_
      refine r_move (.p rfl) rfl ?_
      refine r_move (.p rfl) rfl ?_
      obtain ⟨v4, a4, b4, h⟩ := idx_bind h
      refine r_index (.p rfl) rfl rfl slc59 sz65 a4 (map_get b4) rfl ?_
      refine r_loadr1 (.p rfl) rfl ag65 rfl ?_
      obtain ⟨v5, a5, h⟩ := bind_some h
      refine r_callv (ds0 := [_]) (ar := (ea1 false (eSl eB)) v4) (.p rfl) rfl rfl ⟨rfl, trivial⟩ rfl rfl rfl (cloG_at (inj_ea1 _ _ (injSl injB)) a5) ?_
      refine r_end ?_
      refine W_cond rfl (fun c6 => ?_) (fun c6 => ?_)
      · have h := cnd_t c6 h
        refine W_seq ?_
        refine W_region mixed rfl ?_
        refine r_move (.p rfl) rfl ?_
        refine r_assign (.p rfl) rfl ?_
        refine r_end ?_
        obtain rfl := Option.some.inj h
        refine W_sees (sees_mk (rn []) [(4, .e (.one (.pure (.val (.int .i64 v1)))))] [] ⟨rfl, trivial⟩ trivial rfl rfl) (W_ret ?_)
        exact ⟨⟨[_], ⟨.tmp _ _ rfl, trivial⟩, rfl⟩, trivial⟩
      · have h := cnd_f c6 h
        refine W_skip ?_
        refine W_region mixed rfl ?_
        refine r_bin (.p rfl) rfl rfl (bin_add _ _ _ _ _ _) rfl ?_
        refine r_move (.p rfl) rfl ?_
        refine r_end ?_
        exact sink (IntKind.wrap .i64 (v1 + 1)) h (sees_mk (rn []) _ _ ⟨rfl, rfl, rfl, rfl, trivial⟩ trivial rfl rfl)
    · have h := cnd_f c3 h
      refine W_exit ?_
      exact sink () h (sees_mk (rn []) _ _ trivial trivial rfl rfl)
  · refine W_sees hs ?_
    refine W_seq ?_
    refine W_region mixed rfl ?_
    refine r_assign (.p rfl) rfl ?_
    refine r_end ?_
    obtain rfl := Option.some.inj h
    refine W_sees (sees_mk (rn []) [(4, .e (.one (.pure (.val (.int .i64 ((-1)))))))] [] ⟨rfl, trivial⟩ trivial rfl rfl) (W_ret ?_)
    exact ⟨⟨[_], ⟨.tmp _ _ rfl, trivial⟩, rfl⟩, trivial⟩

set_option maxRecDepth 10000 in
theorem slices_ContainsFunc_bool_bool_c (N : Nat) (p0 : List (List Bool)) (p1 : (List Bool) → Option Bool) (r : Bool) (h : Sh.slices_ContainsFunc_bool_bool N p0 p1 = some r) : Contract Try.prog 79 [.e (.one (.pure (.sl (p0.map (eSl eB))))), .e (.one (.clo (cloG (ea1 false (eSl eB)) tB p1)))] [] (.e (.one (.pure (.val (.bool r))))) := by
  unfold Sh.slices_ContainsFunc_bool_bool at h
  refine contract_of_W (n := 9) (rs := [.tmp 4]) Try.func79 rfl rfl rfl (leb rfl) rfl fun w0 S0 => ?_
  refine W_seq ?_
  refine W_region mixed rfl ?_
  refine r_assign (.p rfl) rfl ?_
  refine r_end ?_
  refine W_seq ?_
  refine W_region mixed rfl ?_
  refine r_move (.p rfl) rfl ?_
  refine r_move (.p rfl) rfl ?_
  obtain ⟨v1, a1, h⟩ := bind_some h
  refine r_call (ds0 := [_, _]) [] (slices_IndexFunc_bool_bool_c N p0 p1 v1 a1) (.p rfl) gd81 rfl ⟨rfl, rfl, trivial⟩ rfl rfl rfl (nodupB_spec rfl) trivial rfl ?_
  refine r_bin (.p rfl) rfl rfl (bin_geq _ _ _ _ _ _) rfl ?_
  refine r_assign (.p rfl) rfl ?_
  refine r_end ?_
  obtain rfl := Option.some.inj h
  refine W_sees (sees_mk (rn []) [(4, .e (.one (.pure (.val (.bool ((decide (0 ≤ v1))))))))] [] ⟨rfl, trivial⟩ trivial rfl rfl) (W_ret ?_)
  exact ⟨⟨[_], ⟨.tmp _ _ rfl, trivial⟩, rfl⟩, trivial⟩

set_option maxRecDepth 10000 in
theorem fleet_matrix_c (N : Nat) (p0 : List (List Bool)) (p1 : Int) (p2 : Int) (r : Bool) (h : Sh.fleet_matrix N p0 p1 p2 = some r) : Contract Try.prog 74 [.e (.one (.pure (.sl (p0.map (eSl eB))))), .e (.one (.pure (.val (.int .i64 p1)))), .e (.one (.pure (.val (.int .i64 p2))))] [] (.e (.one (.pure (.val (.bool r))))) := by
  unfold Sh.fleet_matrix at h
  refine contract_of_W (n := 17) (rs := [.tmp 6]) Try.func74 rfl rfl rfl (leb rfl) rfl fun w0 S0 => ?_
  refine W_seq ?_
  refine W_region mixed rfl ?_
  refine r_box (.p rfl) rfl rfl ?_
  refine r_assign (.p rfl) rfl ?_
  refine r_end ?_
  refine W_join h (fun v1 => mk [(6, .e (.one (.pure (.val (.bool v1)))))] []) (fun j1 h => ?_) (fun v1 h => ?_)
  · refine W_region mixed rfl ?_
    refine r_move (.p rfl) rfl ?_
    refine r_len (.p rfl) rfl (.sl _) trivial (List.length_map _) slc59 ?_
    refine r_move (.p rfl) rfl ?_
    refine r_bin (.p rfl) rfl rfl (bin_eql _ _ _ _ _ _) rfl ?_
    refine r_move (.p rfl) rfl ?_
    refine r_split (t := 11) rfl (fun c2 => ?_) (fun c2 => ?_)
    · have h := cnd_t c2 h
      refine r_move (.g rfl rfl) rfl ?_
      refine r_see (sees_fzb 5 [.val (.int .i64 p2)] rfl) ?_
      refine r_makeFunc (capD := [_]) (cloG (ea1 false (eSl eB)) tB ((fun (x : List Bool) => Sh.fleet_matrix_1 N x p2))) (.g rfl rfl) gd80 rfl ⟨rfl, trivial⟩ rfl (fun ar t ht => by obtain ⟨x, r, rfl, hq, rfl⟩ := cloG_some ht; exact fleet_matrix_1_c N x p2 r hq) ?_
      obtain ⟨v3, a3, h⟩ := bind_some h
      refine r_call (ds0 := [_, _]) [] (slices_ContainsFunc_bool_bool_c N p0 ((fun (x : List Bool) => Sh.fleet_matrix_1 N x p2)) v3 a3) (.g rfl rfl) gd79 rfl ⟨rfl, rfl, trivial⟩ rfl rfl rfl (nodupB_spec rfl) trivial rfl ?_
      refine r_un (.g rfl rfl) rfl (un_not _) rfl ?_
      refine r_pick (.p rfl) rfl rfl rfl ?_
      refine r_assign (.p rfl) rfl ?_
      refine r_end ?_
      exact sink (!v3) h (sees_mk (rn []) _ _ ⟨rfl, trivial⟩ trivial rfl rfl)
    · have h := cnd_f c2 h
      refine r_notB rfl rfl ?_
      refine r_notB rfl rfl ?_
      refine r_notB rfl rfl ?_
      refine r_notB rfl rfl ?_
      refine r_pick (.p rfl) rfl rfl rfl ?_
      refine r_assign (.p rfl) rfl ?_
      refine r_end ?_
      exact sink false h (sees_mk (rn []) _ _ ⟨rfl, trivial⟩ trivial rfl rfl)
  · obtain rfl := Option.some.inj h
    refine W_sees (sees_mk (rn []) [(6, .e (.one (.pure (.val (.bool v1)))))] [] ⟨rfl, trivial⟩ trivial rfl rfl) (W_ret ?_)
    exact ⟨⟨[_], ⟨.tmp _ _ rfl, trivial⟩, rfl⟩, trivial⟩

set_option maxRecDepth 10000 in
theorem fleet_table_c (N : Nat) (p0 : ApiProblem) (p1 : ApiTable) (r : Int) (h : Sh.fleet_table N p0 p1 = some r) : Contract Try.prog 67 [.e (.agg [.pure (.sl (p0.fVersions.map eI64)), .pure (.sl (p0.fNow.map eI64)), .pure (.sl (p0.fTarget.map eI64)), .pure (.sl (p0.fTables.map eApiTable))]), .e (.agg [.pure (.val (.int .i64 p1.fKind)), .pure (.val (.int .i64 p1.fFrom)), .pure (.val (.int .i64 p1.fTo)), .pure (.val (.bool p1.fAware)), .pure (.sl (p1.fOK.map (eSl eB))), .pure (.sl (p1.fRewrite.map (eSl eB)))])] [] (.e (.one (.pure (.val (.int .i64 r))))) := by
  unfold Sh.fleet_table at h
  refine contract_of_W (n := 87) (rs := [.tmp 4]) Try.func67 rfl rfl rfl (leb rfl) rfl fun w0 S0 => ?_
  refine W_seq ?_
  refine W_region mixed rfl ?_
  refine r_box (.p rfl) rfl rfl ?_
  refine r_box (.p rfl) rfl rfl ?_
  refine r_assign (.p rfl) rfl ?_
  refine r_end ?_
  refine W_seq ?_
  refine W_seq ?_
  refine W_region mixed rfl ?_
  refine r_fieldAddr (.p rfl) rfl fld61_0 ?_
  refine r_load1 (.p rfl) rfl ag3 rfl rfl ?_
  refine r_fieldAddr (.p rfl) rfl fld61_3 ?_
  refine r_load1 (.p rfl) rfl ag4 rfl rfl ?_
  obtain ⟨v1, a1, h⟩ := bind_some h
  refine r_call (ds0 := [_, _]) [] (fleet_kind_c N p1.fKind p1.fAware v1 a1) (.p rfl) gd73 rfl ⟨rfl, rfl, trivial⟩ rfl rfl rfl (nodupB_spec rfl) trivial rfl ?_
  refine r_un (.p rfl) rfl (un_not _) rfl ?_
  refine r_end ?_
  refine W_cond rfl (fun c2 => ?_) (fun c2 => ?_)
  · have h := cnd_t c2 h
    refine W_seq ?_
    refine W_region mixed rfl ?_
    refine r_assign (.p rfl) rfl ?_
    refine r_end ?_
    obtain rfl := Option.some.inj h
    refine W_sees (sees_mk (rn []) [(4, .e (.one (.pure (.val (.int .i64 1)))))] [] ⟨rfl, trivial⟩ trivial rfl rfl) (W_ret ?_)
    exact ⟨⟨[_], ⟨.tmp _ _ rfl, trivial⟩, rfl⟩, trivial⟩
  · have h := cnd_f c2 h
    refine W_skip ?_
    refine W_seq ?_
    refine W_join h (fun v3 => mk [(2, .e (.one (.ptr 2 0))), (3, .e (.one (.ptr 3 0))), (29, .e (.one (.pure (.val (.bool v3)))))] [(2, .box [.pure (.sl (p0.fVersions.map eI64)), .pure (.sl (p0.fNow.map eI64)), .pure (.sl (p0.fTarget.map eI64)), .pure (.sl (p0.fTables.map eApiTable))]), (3, .box [.pure (.val (.int .i64 p1.fKind)), .pure (.val (.int .i64 p1.fFrom)), .pure (.val (.int .i64 p1.fTo)), .pure (.val (.bool p1.fAware)), .pure (.sl (p1.fOK.map (eSl eB))), .pure (.sl (p1.fRewrite.map (eSl eB)))])]) (fun j3 h => ?_) (fun v3 h => ?_)
    · refine W_region mixed rfl ?_
      refine r_fieldAddr (.p rfl) rfl fld61_1 ?_
      refine r_load1 (.p rfl) rfl ag3 rfl rfl ?_
      refine r_fieldAddr (.p rfl) rfl fld31_0 ?_
      refine r_load1 (.p rfl) rfl ag28 rfl rfl ?_
      refine r_len (.p rfl) rfl (.sl _) trivial (List.length_map _) slc28 ?_
      obtain ⟨v4, a4, h⟩ := bind_some h
      refine r_call (ds0 := [_, _]) [] (fleet_within_c N p1.fFrom ((p0.fVersions.length : Int)) v4 a4) (.p rfl) gd66 rfl ⟨rfl, rfl, trivial⟩ rfl rfl rfl (nodupB_spec rfl) trivial rfl ?_
      refine r_un (.p rfl) rfl (un_not _) rfl ?_
      refine r_move (.p rfl) rfl ?_
      refine r_split (t := 21) rfl (fun c5 => ?_) (fun c5 => ?_)
      · have h := cnd_t c5 h
        refine r_notB rfl rfl ?_
        refine r_notB rfl rfl ?_
        refine r_notB rfl rfl ?_
        refine r_notB rfl rfl ?_
        refine r_notB rfl rfl ?_
        refine r_notB rfl rfl ?_
        refine r_notB rfl rfl ?_
        refine r_pick (.p rfl) rfl rfl rfl ?_
        refine r_end ?_
        exact sink true h (sees_mk (rn []) _ _ ⟨rfl, rfl, rfl, trivial⟩ ⟨rfl, rfl, trivial⟩ rfl rfl)
      · have h := cnd_f c5 h
        refine r_fieldAddr (.g rfl rfl) rfl fld61_2 ?_
        refine r_load1 (.g rfl rfl) rfl ag3 rfl rfl ?_
        refine r_fieldAddr (.g rfl rfl) rfl fld31_0 ?_
        refine r_load1 (.g rfl rfl) rfl ag28 rfl rfl ?_
        refine r_len (.g rfl rfl) rfl (.sl _) trivial (List.length_map _) slc28 ?_
        obtain ⟨v6, a6, h⟩ := bind_some h
        refine r_call (ds0 := [_, _]) [] (fleet_within_c N p1.fTo ((p0.fVersions.length : Int)) v6 a6) (.g rfl rfl) gd66 rfl ⟨rfl, rfl, trivial⟩ rfl rfl rfl (nodupB_spec rfl) trivial rfl ?_
        refine r_un (.g rfl rfl) rfl (un_not _) rfl ?_
        refine r_pick (.p rfl) rfl rfl rfl ?_
        refine r_end ?_
        exact sink (!v6) h (sees_mk (rn []) _ _ ⟨rfl, rfl, rfl, trivial⟩ ⟨rfl, rfl, trivial⟩ rfl rfl)
    · refine W_cond rfl (fun c7 => ?_) (fun c7 => ?_)
      · have h := cnd_t c7 h
        refine W_seq ?_
        refine W_region mixed rfl ?_
        refine r_assign (.p rfl) rfl ?_
        refine r_end ?_
        obtain rfl := Option.some.inj h
        refine W_sees (sees_mk (rn []) [(4, .e (.one (.pure (.val (.int .i64 4)))))] [] ⟨rfl, trivial⟩ trivial rfl rfl) (W_ret ?_)
        exact ⟨⟨[_], ⟨.tmp _ _ rfl, trivial⟩, rfl⟩, trivial⟩
      · have h := cnd_f c7 h
        refine W_skip ?_
        refine W_seq ?_
        refine W_region mixed rfl ?_
        refine r_fieldAddr (.p rfl) rfl fld31_0 ?_
        refine r_load1 (.p rfl) rfl ag28 rfl rfl ?_
        refine r_fieldAddr (.p rfl) rfl fld61_1 ?_
        refine r_load1 (.p rfl) rfl ag3 rfl rfl ?_
        obtain ⟨v8, a8, b8, h⟩ := idx_bind h
        refine r_index (.p rfl) rfl rfl slc28 sz3 a8 (map_get b8) rfl ?_
        refine r_loadr1 (.p rfl) rfl ag3 rfl ?_
        refine r_assign (.p rfl) rfl ?_
        refine r_end ?_
        refine W_seq ?_
        refine W_region mixed rfl ?_
        refine r_fieldAddr (.p rfl) rfl fld61_0 ?_
        refine r_load1 (.p rfl) rfl ag3 rfl rfl ?_
        refine r_bin (.p rfl) rfl rfl (bin_eql _ _ _ _ _ _) rfl ?_
        refine r_assign (.p rfl) rfl ?_
        refine r_end ?_
        refine W_seq ?_
        refine W_join h (fun v9 => mk [(3, .e (.one (.ptr 3 0))), (70, .e (.one (.pure (.val (.bool v9)))))] [(3, .box [.pure (.val (.int .i64 p1.fKind)), .pure (.val (.int .i64 p1.fFrom)), .pure (.val (.int .i64 p1.fTo)), .pure (.val (.bool p1.fAware)), .pure (.sl (p1.fOK.map (eSl eB))), .pure (.sl (p1.fRewrite.map (eSl eB)))])]) (fun j9 h => ?_) (fun v9 h => ?_)
        · refine W_region mixed rfl ?_
          refine r_fieldAddr (.p rfl) rfl fld61_4 ?_
          refine r_load1 (.p rfl) rfl ag59 rfl rfl ?_
          refine r_move (.p rfl) rfl ?_
          refine r_fieldAddr (.p rfl) rfl fld31_0 ?_
          refine r_load1 (.p rfl) rfl ag28 rfl rfl ?_
          refine r_fieldAddr (.p rfl) rfl fld61_2 ?_
          refine r_load1 (.p rfl) rfl ag3 rfl rfl ?_
          obtain ⟨v10, a10, b10, h⟩ := idx_bind h
          refine r_index (.p rfl) rfl rfl slc28 sz3 a10 (map_get b10) rfl ?_
          refine r_loadr1 (.p rfl) rfl ag3 rfl ?_
          obtain ⟨v11, a11, h⟩ := bind_some h
          refine r_call (ds0 := [_, _, _]) [] (fleet_matrix_c N p1.fOK v8 v10 v11 a11) (.p rfl) gd74 rfl ⟨rfl, rfl, rfl, trivial⟩ rfl rfl rfl (nodupB_spec rfl) trivial rfl ?_
          refine r_un (.p rfl) rfl (un_not _) rfl ?_
          refine r_move (.p rfl) rfl ?_
          refine r_split (t := 50) rfl (fun c12 => ?_) (fun c12 => ?_)
          · have h := cnd_t c12 h
            refine r_notB rfl rfl ?_
            refine r_notB rfl rfl ?_
            refine r_notU rfl rfl ?_
            refine r_notU rfl rfl ?_
            refine r_notU rfl rfl ?_
            refine r_notU rfl rfl ?_
            refine r_notU rfl rfl ?_
            refine r_notU rfl rfl ?_
            refine r_notB rfl rfl ?_
            refine r_pick (.p rfl) rfl rfl rfl ?_
            refine r_move (.p rfl) rfl ?_
            refine r_notB rfl rfl ?_
            refine r_notB rfl rfl ?_
            refine r_notB rfl rfl ?_
            refine r_notU rfl rfl ?_
            refine r_notU rfl rfl ?_
            refine r_notU rfl rfl ?_
            refine r_notU rfl rfl ?_
            refine r_notB rfl rfl ?_
            refine r_pick (.p rfl) rfl rfl rfl ?_
            refine r_endD (by kernel_rfl) ?_
            exact sink true h (sees_mk (rn []) _ _ ⟨rfl, rfl, trivial⟩ ⟨rfl, trivial⟩ rfl rfl)
          · have h := cnd_f c12 h
            refine r_move (.g rfl rfl) rfl ?_
            refine r_move (.g rfl rfl) rfl ?_
            refine r_split (t := 52) rfl (fun c13 => ?_) (fun c13 => ?_)
            · have h := cnd_t c13 h
              refine r_fieldAddr (.g rfl rfl) rfl fld61_5 ?_
              refine r_load1 (.g rfl rfl) rfl ag59 rfl rfl ?_
              refine r_move (.g rfl rfl) rfl ?_
              refine r_move (.g rfl rfl) rfl ?_
              obtain ⟨v14, a14, h⟩ := bind_some h
              refine r_call (ds0 := [_, _, _]) [] (fleet_matrix_c N p1.fRewrite v8 v8 v14 a14) (.g rfl rfl) gd74 rfl ⟨rfl, rfl, rfl, trivial⟩ rfl rfl rfl (nodupB_spec rfl) trivial rfl ?_
              refine r_un (.g rfl rfl) rfl (un_not _) rfl ?_
              refine r_pick (.g rfl rfl) rfl rfl rfl ?_
              refine r_pick (.p rfl) rfl rfl rfl ?_
              refine r_move (.p rfl) rfl ?_
              refine r_split (t := 61) rfl (fun c15 => ?_) (fun c15 => ?_)
              · have h := cnd_t c15 h
                refine r_notB rfl rfl ?_
                refine r_notB rfl rfl ?_
                refine r_notB rfl rfl ?_
                refine r_notU rfl rfl ?_
                refine r_notU rfl rfl ?_
                refine r_notU rfl rfl ?_
                refine r_notU rfl rfl ?_
                refine r_notB rfl rfl ?_
                refine r_pick (.p rfl) rfl rfl rfl ?_
                refine r_endD (by kernel_rfl) ?_
                exact sink true h (sees_mk (rn []) _ _ ⟨rfl, rfl, trivial⟩ ⟨rfl, trivial⟩ rfl rfl)
              · have h := cnd_f c15 h
                refine r_move (.g rfl rfl) rfl ?_
                refine r_un (.g rfl rfl) rfl (un_not _) rfl ?_
                refine r_move (.g rfl rfl) rfl ?_
                refine r_split (t := 64) rfl (fun c16 => ?_) (fun c16 => ?_)
                · have h := cnd_t c16 h
                  refine r_fieldAddr (.g rfl rfl) rfl fld61_5 ?_
                  refine r_load1 (.g rfl rfl) rfl ag59 rfl rfl ?_
                  refine r_len (.g rfl rfl) rfl (.sl _) trivial (List.length_map _) slc59 ?_
                  refine r_bin (.g rfl rfl) rfl rfl (bin_gtr _ _ _ _ _ _) rfl ?_
                  refine r_pick (.g rfl rfl) rfl rfl rfl ?_
                  refine r_pick (.p rfl) rfl rfl rfl ?_
                  refine r_endD (by kernel_rfl) ?_
                  exact sink (decide (0 < (p1.fRewrite.length : Int))) h (sees_mk (rn []) _ _ ⟨rfl, rfl, trivial⟩ ⟨rfl, trivial⟩ rfl rfl)
                · have h := cnd_f c16 h
                  refine r_notB rfl rfl ?_
                  refine r_notB rfl rfl ?_
                  refine r_notB rfl rfl ?_
                  refine r_notB rfl rfl ?_
                  refine r_pick (.g rfl rfl) rfl rfl rfl ?_
                  refine r_pick (.p rfl) rfl rfl rfl ?_
                  refine r_endD (by kernel_rfl) ?_
                  exact sink false h (sees_mk (rn []) _ _ ⟨rfl, rfl, trivial⟩ ⟨rfl, trivial⟩ rfl rfl)
            · have h := cnd_f c13 h
              refine r_notB rfl rfl ?_
              refine r_notB rfl rfl ?_
              refine r_notB rfl rfl ?_
              refine r_notB rfl rfl ?_
              refine r_notB rfl rfl ?_
              refine r_notB rfl rfl ?_
              refine r_pick (.g rfl rfl) rfl rfl rfl ?_
              refine r_pick (.p rfl) rfl rfl rfl ?_
              refine r_move (.p rfl) rfl ?_
              refine r_move (.g rfl rfl) rfl ?_
              refine r_un (.g rfl rfl) rfl (un_not _) rfl ?_
              refine r_move (.g rfl rfl) rfl ?_
              refine r_split (t := 64) rfl (fun c17 => ?_) (fun c17 => ?_)
              · have h := cnd_t c17 h
                refine r_fieldAddr (.g rfl rfl) rfl fld61_5 ?_
                refine r_load1 (.g rfl rfl) rfl ag59 rfl rfl ?_
                refine r_len (.g rfl rfl) rfl (.sl _) trivial (List.length_map _) slc59 ?_
                refine r_bin (.g rfl rfl) rfl rfl (bin_gtr _ _ _ _ _ _) rfl ?_
                refine r_pick (.g rfl rfl) rfl rfl rfl ?_
                refine r_pick (.p rfl) rfl rfl rfl ?_
                refine r_endD (by kernel_rfl) ?_
                exact sink (decide (0 < (p1.fRewrite.length : Int))) h (sees_mk (rn []) _ _ ⟨rfl, rfl, trivial⟩ ⟨rfl, trivial⟩ rfl rfl)
              · have h := cnd_f c17 h
                refine r_notB rfl rfl ?_
                refine r_notB rfl rfl ?_
                refine r_notB rfl rfl ?_
                refine r_notB rfl rfl ?_
                refine r_pick (.g rfl rfl) rfl rfl rfl ?_
                refine r_pick (.p rfl) rfl rfl rfl ?_
                refine r_endD (by kernel_rfl) ?_
                exact sink false h (sees_mk (rn []) _ _ ⟨rfl, rfl, trivial⟩ ⟨rfl, trivial⟩ rfl rfl)
        · refine W_cond rfl (fun c18 => ?_) (fun c18 => ?_)
          · have h := cnd_t c18 h
            refine W_seq ?_
            refine W_region mixed rfl ?_
            refine r_assign (.p rfl) rfl ?_
            refine r_end ?_
            obtain rfl := Option.some.inj h
            refine W_sees (sees_mk (rn []) [(4, .e (.one (.pure (.val (.int .i64 6)))))] [] ⟨rfl, trivial⟩ trivial rfl rfl) (W_ret ?_)
            exact ⟨⟨[_], ⟨.tmp _ _ rfl, trivial⟩, rfl⟩, trivial⟩
          · have h := cnd_f c18 h
            refine W_skip ?_
            refine W_seq ?_
            refine W_seq ?_
            refine W_region mixed rfl ?_
            refine r_fieldAddr (.p rfl) rfl fld61_5 ?_
            refine r_load1 (.p rfl) rfl ag59 rfl rfl ?_
            refine r_len (.p rfl) rfl (.sl _) trivial (List.length_map _) slc59 ?_
            refine r_move (.p rfl) rfl ?_
            refine r_end ?_
            refine W_whileE (L := Sh.fleet_table_L19 N p1) h (fun v19 => mk [(3, .e (.one (.ptr 3 0))), (73, .e (.one (.pure (.val (.int .i64 ((p1.fRewrite.length : Int))))))), (74, .e (.one (.pure (.val (.int .i64 v19)))))] [(3, .box [.pure (.val (.int .i64 p1.fKind)), .pure (.val (.int .i64 p1.fFrom)), .pure (.val (.int .i64 p1.fTo)), .pure (.val (.bool p1.fAware)), .pure (.sl (p1.fOK.map (eSl eB))), .pure (.sl (p1.fRewrite.map (eSl eB)))])]) (fun v20 => mk [] []) (fun _ _ => rfl) (sees_mk (rn []) _ _ ⟨rfl, rfl, rfl, trivial⟩ ⟨rfl, trivial⟩ rfl rfl) (fun j19 n19 v19 h => ?_) (fun v20 s h hs => ?_)
            · unfold Sh.fleet_table_L19 at h
              refine W_seq ?_
              refine W_region mixed rfl ?_
              refine r_bin (.p rfl) rfl rfl (bin_lss _ _ _ _ _ _) rfl ?_
              refine r_end ?_
              refine W_seq ?_
              refine W_cond rfl (fun c21 => ?_) (fun c21 => ?_)
              · have h := cnd_t c21 h
                refine W_skip ?_
                refine W_seq ?_
                refine W_block ?_
                refine W_seq ?_
                refine W_region mixed rfl ?_
                refine r_move (.p rfl) rfl ?_
                refine r_assign (.p rfl) rfl ?_
                refine r_end ?_
                refine W_seq ?_
                refine W_region mixed rfl ?_
                refine r_fieldAddr (.p rfl) rfl fld61_5 ?_
                refine r_load1 (.p rfl) rfl ag59 rfl rfl ?_
                refine r_move (.p rfl) rfl ?_
                obtain ⟨v22, a22, b22, h⟩ := idx_bind h
                refine r_index (.p rfl) rfl rfl slc59 sz65 a22 (map_get b22) rfl ?_
                refine r_loadr1 (.p rfl) rfl ag65 rfl ?_
                refine r_move (.p rfl) rfl ?_
                obtain ⟨v23, a23, b23, h⟩ := idx_bind h
                refine r_index (.p rfl) rfl rfl slc65 sz4 a23 (map_get b23) rfl ?_
                refine r_loadr1 (.p rfl) rfl ag4 rfl ?_
                refine r_un (.p rfl) rfl (un_not _) rfl ?_
                refine r_end ?_
                refine W_cond rfl (fun c24 => ?_) (fun c24 => ?_)
                · have h := cnd_t c24 h
                  refine W_seq ?_
                  refine W_region mixed rfl ?_
                  refine r_assign (.p rfl) rfl ?_
                  refine r_end ?_
                  obtain rfl := Option.some.inj h
                  refine W_sees (sees_mk (rn []) [(4, .e (.one (.pure (.val (.int .i64 1)))))] [] ⟨rfl, trivial⟩ trivial rfl rfl) (W_ret ?_)
                  exact ⟨⟨[_], ⟨.tmp _ _ rfl, trivial⟩, rfl⟩, trivial⟩
                · have h := cnd_f c24 h
                  refine W_skip ?_
                  refine W_region mixed rfl ?_
                  refine r_bin (.p rfl) rfl rfl (bin_add _ _ _ _ _ _) rfl ?_
                  refine r_move (.p rfl) rfl ?_
                  refine r_end ?_
                  exact sink (IntKind.wrap .i64 (v19 + 1)) h (sees_mk (rn []) _ _ ⟨rfl, rfl, rfl, trivial⟩ ⟨rfl, trivial⟩ rfl rfl)
              · have h := cnd_f c21 h
                refine W_exit ?_
                exact sink () h (sees_mk (rn []) _ _ trivial trivial rfl rfl)
            · refine W_sees hs ?_
              refine W_seq ?_
              refine W_region mixed rfl ?_
              refine r_assign (.p rfl) rfl ?_
              refine r_end ?_
              obtain rfl := Option.some.inj h
              refine W_sees (sees_mk (rn []) [(4, .e (.one (.pure (.val (.int .i64 0)))))] [] ⟨rfl, trivial⟩ trivial rfl rfl) (W_ret ?_)
              exact ⟨⟨[_], ⟨.tmp _ _ rfl, trivial⟩, rfl⟩, trivial⟩

set_option maxRecDepth 10000 in
theorem fleet_ValidProblem_c (N : Nat) (p0 : ApiProblem) (r : Int) (h : Sh.fleet_ValidProblem N p0 = some r) : Contract Try.prog 52 [.e (.agg [.pure (.sl (p0.fVersions.map eI64)), .pure (.sl (p0.fNow.map eI64)), .pure (.sl (p0.fTarget.map eI64)), .pure (.sl (p0.fTables.map eApiTable))])] [] (.e (.one (.pure (.val (.int .i64 r))))) := by
  unfold Sh.fleet_ValidProblem at h
  refine contract_of_W (n := 81) (rs := [.tmp 2]) Try.func52 rfl rfl rfl (leb rfl) rfl fun w0 S0 => ?_
  refine W_seq ?_
  refine W_region mixed rfl ?_
  refine r_box (.p rfl) rfl rfl ?_
  refine r_assign (.p rfl) rfl ?_
  refine r_end ?_
  refine W_seq ?_
  refine W_region mixed rfl ?_
  refine r_fieldAddr (.p rfl) rfl fld31_0 ?_
  refine r_load1 (.p rfl) rfl ag28 rfl rfl ?_
  refine r_len (.p rfl) rfl (.sl _) trivial (List.length_map _) slc28 ?_
  refine r_assign (.p rfl) rfl ?_
  refine r_end ?_
  refine W_seq ?_
  refine W_join h (fun v1 => mk [(1, .e (.one (.ptr 1 0))), (3, .e (.one (.pure (.val (.int .i64 ((p0.fVersions.length : Int))))))), (19, .e (.one (.pure (.val (.bool v1)))))] [(1, .box [.pure (.sl (p0.fVersions.map eI64)), .pure (.sl (p0.fNow.map eI64)), .pure (.sl (p0.fTarget.map eI64)), .pure (.sl (p0.fTables.map eApiTable))])]) (fun j1 h => ?_) (fun v1 h => ?_)
  · refine W_region mixed rfl ?_
    refine r_move (.p rfl) rfl ?_
    refine r_bin (.p rfl) rfl rfl (bin_gtr _ _ _ _ _ _) rfl ?_
    refine r_move (.p rfl) rfl ?_
    refine r_split (t := 14) rfl (fun c2 => ?_) (fun c2 => ?_)
    · have h := cnd_t c2 h
      refine r_notB rfl rfl ?_
      refine r_notB rfl rfl ?_
      refine r_notB rfl rfl ?_
      refine r_notB rfl rfl ?_
      refine r_pick (.p rfl) rfl rfl rfl ?_
      refine r_end ?_
      exact sink true h (sees_mk (rn []) _ _ ⟨rfl, rfl, rfl, trivial⟩ ⟨rfl, trivial⟩ rfl rfl)
    · have h := cnd_f c2 h
      refine r_fieldAddr (.g rfl rfl) rfl fld31_3 ?_
      refine r_load1 (.g rfl rfl) rfl ag29 rfl rfl ?_
      refine r_len (.g rfl rfl) rfl (.sl _) trivial (List.length_map _) slc29 ?_
      refine r_bin (.g rfl rfl) rfl rfl (bin_gtr _ _ _ _ _ _) rfl ?_
      refine r_pick (.p rfl) rfl rfl rfl ?_
      refine r_end ?_
      exact sink (decide (12 < (p0.fTables.length : Int))) h (sees_mk (rn []) _ _ ⟨rfl, rfl, rfl, trivial⟩ ⟨rfl, trivial⟩ rfl rfl)
  · refine W_cond rfl (fun c3 => ?_) (fun c3 => ?_)
    · have h := cnd_t c3 h
      refine W_seq ?_
      refine W_region mixed rfl ?_
      refine r_assign (.p rfl) rfl ?_
      refine r_end ?_
      obtain rfl := Option.some.inj h
      refine W_sees (sees_mk (rn []) [(2, .e (.one (.pure (.val (.int .i64 3)))))] [] ⟨rfl, trivial⟩ trivial rfl rfl) (W_ret ?_)
      exact ⟨⟨[_], ⟨.tmp _ _ rfl, trivial⟩, rfl⟩, trivial⟩
    · have h := cnd_f c3 h
      refine W_skip ?_
      refine W_seq ?_
      refine W_join h (fun v4 => mk [(1, .e (.one (.ptr 1 0))), (31, .e (.one (.pure (.val (.bool v4)))))] [(1, .box [.pure (.sl (p0.fVersions.map eI64)), .pure (.sl (p0.fNow.map eI64)), .pure (.sl (p0.fTarget.map eI64)), .pure (.sl (p0.fTables.map eApiTable))])]) (fun j4 h => ?_) (fun v4 h => ?_)
      · refine W_region mixed rfl ?_
        refine r_fieldAddr (.p rfl) rfl fld31_1 ?_
        refine r_load1 (.p rfl) rfl ag28 rfl rfl ?_
        refine r_len (.p rfl) rfl (.sl _) trivial (List.length_map _) slc28 ?_
        refine r_move (.p rfl) rfl ?_
        refine r_bin (.p rfl) rfl rfl (bin_neq _ _ _ _ _ _) rfl ?_
        refine r_move (.p rfl) rfl ?_
        refine r_split (t := 25) rfl (fun c5 => ?_) (fun c5 => ?_)
        · have h := cnd_t c5 h
          refine r_notB rfl rfl ?_
          refine r_notB rfl rfl ?_
          refine r_notB rfl rfl ?_
          refine r_notB rfl rfl ?_
          refine r_notB rfl rfl ?_
          refine r_pick (.p rfl) rfl rfl rfl ?_
          refine r_end ?_
          exact sink true h (sees_mk (rn []) _ _ ⟨rfl, rfl, trivial⟩ ⟨rfl, trivial⟩ rfl rfl)
        · have h := cnd_f c5 h
          refine r_fieldAddr (.g rfl rfl) rfl fld31_2 ?_
          refine r_load1 (.g rfl rfl) rfl ag28 rfl rfl ?_
          refine r_len (.g rfl rfl) rfl (.sl _) trivial (List.length_map _) slc28 ?_
          refine r_move (.g rfl rfl) rfl ?_
          refine r_bin (.g rfl rfl) rfl rfl (bin_neq _ _ _ _ _ _) rfl ?_
          refine r_pick (.p rfl) rfl rfl rfl ?_
          refine r_end ?_
          exact sink ((p0.fTarget.length : Int) != (p0.fVersions.length : Int)) h (sees_mk (rn []) _ _ ⟨rfl, rfl, trivial⟩ ⟨rfl, trivial⟩ rfl rfl)
      · refine W_cond rfl (fun c6 => ?_) (fun c6 => ?_)
        · have h := cnd_t c6 h
          refine W_seq ?_
          refine W_region mixed rfl ?_
          refine r_assign (.p rfl) rfl ?_
          refine r_end ?_
          obtain rfl := Option.some.inj h
          refine W_sees (sees_mk (rn []) [(2, .e (.one (.pure (.val (.int .i64 6)))))] [] ⟨rfl, trivial⟩ trivial rfl rfl) (W_ret ?_)
          exact ⟨⟨[_], ⟨.tmp _ _ rfl, trivial⟩, rfl⟩, trivial⟩
        · have h := cnd_f c6 h
          refine W_skip ?_
          refine W_seq ?_
          refine W_seq ?_
          refine W_region mixed rfl ?_
          refine r_fieldAddr (.p rfl) rfl fld31_0 ?_
          refine r_load1 (.p rfl) rfl ag28 rfl rfl ?_
          refine r_len (.p rfl) rfl (.sl _) trivial (List.length_map _) slc28 ?_
          refine r_move (.p rfl) rfl ?_
          refine r_end ?_
          refine W_whileE (L := Sh.fleet_ValidProblem_L7 N p0) h (fun v7 => mk [(1, .e (.one (.ptr 1 0))), (33, .e (.one (.pure (.sl (p0.fVersions.map eI64))))), (34, .e (.one (.pure (.val (.int .i64 ((p0.fVersions.length : Int))))))), (35, .e (.one (.pure (.val (.int .i64 v7)))))] [(1, .box [.pure (.sl (p0.fVersions.map eI64)), .pure (.sl (p0.fNow.map eI64)), .pure (.sl (p0.fTarget.map eI64)), .pure (.sl (p0.fTables.map eApiTable))])]) (fun v8 => mk [(1, .e (.one (.ptr 1 0)))] [(1, .box [.pure (.sl (p0.fVersions.map eI64)), .pure (.sl (p0.fNow.map eI64)), .pure (.sl (p0.fTarget.map eI64)), .pure (.sl (p0.fTables.map eApiTable))])]) (fun _ _ => rfl) (sees_mk (rn []) _ _ ⟨rfl, rfl, rfl, rfl, trivial⟩ ⟨rfl, trivial⟩ rfl rfl) (fun j7 n7 v7 h => ?_) (fun v8 s h hs => ?_)
          · unfold Sh.fleet_ValidProblem_L7 at h
            refine W_seq ?_
            refine W_region mixed rfl ?_
            refine r_bin (.p rfl) rfl rfl (bin_lss _ _ _ _ _ _) rfl ?_
            refine r_end ?_
            refine W_seq ?_
            refine W_cond rfl (fun c9 => ?_) (fun c9 => ?_)
            · have h := cnd_t c9 h
              refine W_skip ?_
              refine W_seq ?_
              refine W_block ?_
              refine W_seq ?_
              refine W_region mixed rfl ?_
              refine r_move (.p rfl) rfl ?_
              obtain ⟨v10, a10, b10, h⟩ := idx_bind h
              refine r_index (.p rfl) rfl rfl slc28 sz3 a10 (map_get b10) rfl ?_
              refine r_loadr1 (.p rfl) rfl ag3 rfl ?_
              refine r_assign (.p rfl) rfl ?_
              refine r_assign (.p rfl) rfl ?_
              refine r_end ?_
              refine W_join h (fun v11 => mk [(1, .e (.one (.ptr 1 0))), (33, .e (.one (.pure (.sl (p0.fVersions.map eI64))))), (34, .e (.one (.pure (.val (.int .i64 ((p0.fVersions.length : Int))))))), (35, .e (.one (.pure (.val (.int .i64 v7))))), (65, .e (.one (.pure (.val (.bool v11)))))] [(1, .box [.pure (.sl (p0.fVersions.map eI64)), .pure (.sl (p0.fNow.map eI64)), .pure (.sl (p0.fTarget.map eI64)), .pure (.sl (p0.fTables.map eApiTable))])]) (fun j11 h => ?_) (fun v11 h => ?_)
              · refine W_region mixed rfl ?_
                refine r_move (.p rfl) rfl ?_
                refine r_bin (.p rfl) rfl rfl (bin_lss _ _ _ _ _ _) rfl ?_
                refine r_move (.p rfl) rfl ?_
                refine r_split (t := 42) rfl (fun c12 => ?_) (fun c12 => ?_)
                · have h := cnd_t c12 h
                  refine r_notB rfl rfl ?_
                  refine r_notB rfl rfl ?_
                  refine r_pick (.p rfl) rfl rfl rfl ?_
                  refine r_move (.p rfl) rfl ?_
                  refine r_notB rfl rfl ?_
                  refine r_notB rfl rfl ?_
                  refine r_notB rfl rfl ?_
                  refine r_notB rfl rfl ?_
                  refine r_notB rfl rfl ?_
                  refine r_notB rfl rfl ?_
                  refine r_notB rfl rfl ?_
                  refine r_notB rfl rfl ?_
                  refine r_pick (.p rfl) rfl rfl rfl ?_
                  refine r_move (.p rfl) rfl ?_
                  refine r_notB rfl rfl ?_
                  refine r_notB rfl rfl ?_
                  refine r_notB rfl rfl ?_
                  refine r_notB rfl rfl ?_
                  refine r_notB rfl rfl ?_
                  refine r_notB rfl rfl ?_
                  refine r_notB rfl rfl ?_
                  refine r_notB rfl rfl ?_
                  refine r_pick (.p rfl) rfl rfl rfl ?_
                  refine r_end ?_
                  exact sink true h (sees_mk (rn []) _ _ ⟨rfl, rfl, rfl, rfl, rfl, trivial⟩ ⟨rfl, trivial⟩ rfl rfl)
                · have h := cnd_f c12 h
                  refine r_move (.g rfl rfl) rfl ?_
                  refine r_bin (.g rfl rfl) rfl rfl (bin_gtr _ _ _ _ _ _) rfl ?_
                  refine r_pick (.p rfl) rfl rfl rfl ?_
                  refine r_move (.p rfl) rfl ?_
                  refine r_split (t := 46) rfl (fun c13 => ?_) (fun c13 => ?_)
                  · have h := cnd_t c13 h
                    refine r_notB rfl rfl ?_
                    refine r_notB rfl rfl ?_
                    refine r_notB rfl rfl ?_
                    refine r_notB rfl rfl ?_
                    refine r_notB rfl rfl ?_
                    refine r_notB rfl rfl ?_
                    refine r_notB rfl rfl ?_
                    refine r_notB rfl rfl ?_
                    refine r_pick (.p rfl) rfl rfl rfl ?_
                    refine r_move (.p rfl) rfl ?_
                    refine r_notB rfl rfl ?_
                    refine r_notB rfl rfl ?_
                    refine r_notB rfl rfl ?_
                    refine r_notB rfl rfl ?_
                    refine r_notB rfl rfl ?_
                    refine r_notB rfl rfl ?_
                    refine r_notB rfl rfl ?_
                    refine r_notB rfl rfl ?_
                    refine r_pick (.p rfl) rfl rfl rfl ?_
                    refine r_end ?_
                    exact sink true h (sees_mk (rn []) _ _ ⟨rfl, rfl, rfl, rfl, rfl, trivial⟩ ⟨rfl, trivial⟩ rfl rfl)
                  · have h := cnd_f c13 h
                    refine r_fieldAddr (.g rfl rfl) rfl fld31_1 ?_
                    refine r_load1 (.g rfl rfl) rfl ag28 rfl rfl ?_
                    refine r_move (.g rfl rfl) rfl ?_
                    obtain ⟨v14, a14, b14, h⟩ := idx_bind h
                    refine r_index (.g rfl rfl) rfl rfl slc28 sz3 a14 (map_get b14) rfl ?_
                    refine r_loadr1 (.g rfl rfl) rfl ag3 rfl ?_
                    refine r_move (.g rfl rfl) rfl ?_
                    obtain ⟨v15, a15, h⟩ := bind_some h
                    refine r_call (ds0 := [_, _]) [] (fleet_within_c N v14 v10 v15 a15) (.g rfl rfl) gd66 rfl ⟨rfl, rfl, trivial⟩ rfl rfl rfl (nodupB_spec rfl) trivial rfl ?_
                    refine r_un (.g rfl rfl) rfl (un_not _) rfl ?_
                    refine r_pick (.p rfl) rfl rfl rfl ?_
                    refine r_move (.p rfl) rfl ?_
                    refine r_split (t := 56) rfl (fun c16 => ?_) (fun c16 => ?_)
                    · have h := cnd_t c16 h
                      refine r_notB rfl rfl ?_
                      refine r_notB rfl rfl ?_
                      refine r_notB rfl rfl ?_
                      refine r_notB rfl rfl ?_
                      refine r_notB rfl rfl ?_
                      refine r_notB rfl rfl ?_
                      refine r_notB rfl rfl ?_
                      refine r_notB rfl rfl ?_
                      refine r_pick (.p rfl) rfl rfl rfl ?_
                      refine r_end ?_
                      exact sink true h (sees_mk (rn []) _ _ ⟨rfl, rfl, rfl, rfl, rfl, trivial⟩ ⟨rfl, trivial⟩ rfl rfl)
                    · have h := cnd_f c16 h
                      refine r_fieldAddr (.g rfl rfl) rfl fld31_2 ?_
                      refine r_load1 (.g rfl rfl) rfl ag28 rfl rfl ?_
                      refine r_move (.g rfl rfl) rfl ?_
                      obtain ⟨v17, a17, b17, h⟩ := idx_bind h
                      refine r_index (.g rfl rfl) rfl rfl slc28 sz3 a17 (map_get b17) rfl ?_
                      refine r_loadr1 (.g rfl rfl) rfl ag3 rfl ?_
                      refine r_move (.g rfl rfl) rfl ?_
                      obtain ⟨v18, a18, h⟩ := bind_some h
                      refine r_call (ds0 := [_, _]) [] (fleet_within_c N v17 v10 v18 a18) (.g rfl rfl) gd66 rfl ⟨rfl, rfl, trivial⟩ rfl rfl rfl (nodupB_spec rfl) trivial rfl ?_
                      refine r_un (.g rfl rfl) rfl (un_not _) rfl ?_
                      refine r_pick (.p rfl) rfl rfl rfl ?_
                      refine r_end ?_
                      exact sink (!v18) h (sees_mk (rn []) _ _ ⟨rfl, rfl, rfl, rfl, rfl, trivial⟩ ⟨rfl, trivial⟩ rfl rfl)
              · refine W_cond rfl (fun c19 => ?_) (fun c19 => ?_)
                · have h := cnd_t c19 h
                  refine W_seq ?_
                  refine W_region mixed rfl ?_
                  refine r_assign (.p rfl) rfl ?_
                  refine r_end ?_
                  obtain rfl := Option.some.inj h
                  refine W_sees (sees_mk (rn []) [(2, .e (.one (.pure (.val (.int .i64 7)))))] [] ⟨rfl, trivial⟩ trivial rfl rfl) (W_ret ?_)
                  exact ⟨⟨[_], ⟨.tmp _ _ rfl, trivial⟩, rfl⟩, trivial⟩
                · have h := cnd_f c19 h
                  refine W_skip ?_
                  refine W_region mixed rfl ?_
                  refine r_bin (.p rfl) rfl rfl (bin_add _ _ _ _ _ _) rfl ?_
                  refine r_move (.p rfl) rfl ?_
                  refine r_end ?_
                  exact sink (IntKind.wrap .i64 (v7 + 1)) h (sees_mk (rn []) _ _ ⟨rfl, rfl, rfl, rfl, trivial⟩ ⟨rfl, trivial⟩ rfl rfl)
            · have h := cnd_f c9 h
              refine W_exit ?_
              exact sink () h (sees_mk (rn []) _ _ ⟨rfl, trivial⟩ ⟨rfl, trivial⟩ rfl rfl)
          · refine W_sees hs ?_
            refine W_seq ?_
            refine W_seq ?_
            refine W_region mixed rfl ?_
            refine r_fieldAddr (.p rfl) rfl fld31_3 ?_
            refine r_load1 (.p rfl) rfl ag29 rfl rfl ?_
            refine r_len (.p rfl) rfl (.sl _) trivial (List.length_map _) slc29 ?_
            refine r_move (.p rfl) rfl ?_
            refine r_end ?_
            refine W_whileE (L := Sh.fleet_ValidProblem_L20 N p0) h (fun v20 => mk [(1, .e (.one (.ptr 1 0))), (68, .e (.one (.pure (.sl (p0.fTables.map eApiTable))))), (69, .e (.one (.pure (.val (.int .i64 ((p0.fTables.length : Int))))))), (70, .e (.one (.pure (.val (.int .i64 v20)))))] [(1, .box [.pure (.sl (p0.fVersions.map eI64)), .pure (.sl (p0.fNow.map eI64)), .pure (.sl (p0.fTarget.map eI64)), .pure (.sl (p0.fTables.map eApiTable))])]) (fun v21 => mk [] []) (fun _ _ => rfl) (sees_mk (rn []) _ _ ⟨rfl, rfl, rfl, rfl, trivial⟩ ⟨rfl, trivial⟩ rfl rfl) (fun j20 n20 v20 h => ?_) (fun v21 s h hs => ?_)
            · unfold Sh.fleet_ValidProblem_L20 at h
              refine W_seq ?_
              refine W_region mixed rfl ?_
              refine r_bin (.p rfl) rfl rfl (bin_lss _ _ _ _ _ _) rfl ?_
              refine r_end ?_
              refine W_seq ?_
              refine W_cond rfl (fun c22 => ?_) (fun c22 => ?_)
              · have h := cnd_t c22 h
                refine W_skip ?_
                refine W_seq ?_
                refine W_block ?_
                refine W_seq ?_
                refine W_region mixed rfl ?_
                obtain ⟨v23, a23, b23, h⟩ := idx_bind h
                refine r_index (.p rfl) rfl rfl slc29 sz61 a23 (map_get b23) rfl ?_
                refine r_loadrN (.p rfl) rfl ag61 sz61 rfl rfl ?_
                refine r_alloc (.p rfl) zv61 rfl rfl rfl ?_
                refine r_store rfl rfl rfl rfl sz61 rfl (leb rfl) rfl ?_
                refine r_end ?_
                refine W_seq ?_
                refine W_region mixed rfl ?_
                refine r_loadN (.p rfl) rfl ag31 sz31 rfl rfl rfl ?_
                refine r_loadN (.p rfl) rfl ag61 sz61 rfl rfl rfl ?_
                obtain ⟨v24, a24, h⟩ := bind_some h
                refine r_call (ds0 := [_, _]) [] (fleet_table_c N p0 v23 v24 a24) (.p rfl) gd67 rfl ⟨rfl, rfl, trivial⟩ rfl rfl rfl (nodupB_spec rfl) trivial rfl ?_
                refine r_assign (.p rfl) rfl ?_
                refine r_end ?_
                refine W_seq ?_
                refine W_region mixed rfl ?_
                refine r_move (.p rfl) rfl ?_
                refine r_bin (.p rfl) rfl rfl (bin_neq _ _ _ _ _ _) rfl ?_
                refine r_end ?_
                refine W_cond rfl (fun c25 => ?_) (fun c25 => ?_)
                · have h := cnd_t c25 h
                  refine W_seq ?_
                  refine W_region mixed rfl ?_
                  refine r_move (.p rfl) rfl ?_
                  refine r_assign (.p rfl) rfl ?_
                  refine r_end ?_
                  obtain rfl := Option.some.inj h
                  refine W_sees (sees_mk (rn []) [(2, .e (.one (.pure (.val (.int .i64 v24)))))] [] ⟨rfl, trivial⟩ trivial rfl rfl) (W_ret ?_)
                  exact ⟨⟨[_], ⟨.tmp _ _ rfl, trivial⟩, rfl⟩, trivial⟩
                · have h := cnd_f c25 h
                  refine W_skip ?_
                  refine W_region mixed rfl ?_
                  refine r_bin (.p rfl) rfl rfl (bin_add _ _ _ _ _ _) rfl ?_
                  refine r_move (.p rfl) rfl ?_
                  refine r_end ?_
                  exact sink (IntKind.wrap .i64 (v20 + 1)) h (sees_mk (rn []) _ _ ⟨rfl, rfl, rfl, rfl, trivial⟩ ⟨rfl, trivial⟩ rfl rfl)
              · have h := cnd_f c22 h
                refine W_exit ?_
                exact sink () h (sees_mk (rn []) _ _ trivial trivial rfl rfl)
            · refine W_sees hs ?_
              refine W_seq ?_
              refine W_region mixed rfl ?_
              refine r_assign (.p rfl) rfl ?_
              refine r_end ?_
              obtain rfl := Option.some.inj h
              refine W_sees (sees_mk (rn []) [(2, .e (.one (.pure (.val (.int .i64 0)))))] [] ⟨rfl, trivial⟩ trivial rfl rfl) (W_ret ?_)
              exact ⟨⟨[_], ⟨.tmp _ _ rfl, trivial⟩, rfl⟩, trivial⟩

set_option maxRecDepth 10000 in
theorem mix_stored_c (N : Nat) (p0 : ApiTable) (r : Bool) (h : Sh.mix_stored N p0 = some r) : Contract Try.prog 53 [.e (.agg [.pure (.val (.int .i64 p0.fKind)), .pure (.val (.int .i64 p0.fFrom)), .pure (.val (.int .i64 p0.fTo)), .pure (.val (.bool p0.fAware)), .pure (.sl (p0.fOK.map (eSl eB))), .pure (.sl (p0.fRewrite.map (eSl eB)))])] [] (.e (.one (.pure (.val (.bool r))))) := by
  unfold Sh.mix_stored at h
  refine contract_of_W (n := 11) (rs := [.tmp 2]) Try.func53 rfl rfl rfl (leb rfl) rfl fun w0 S0 => ?_
  refine W_seq ?_
  refine W_region mixed rfl ?_
  refine r_box (.p rfl) rfl rfl ?_
  refine r_assign (.p rfl) rfl ?_
  refine r_end ?_
  refine W_join h (fun v1 => mk [(2, .e (.one (.pure (.val (.bool v1)))))] []) (fun j1 h => ?_) (fun v1 h => ?_)
  · refine W_region mixed rfl ?_
    refine r_fieldAddr (.p rfl) rfl fld61_0 ?_
    refine r_load1 (.p rfl) rfl ag3 rfl rfl ?_
    refine r_bin (.p rfl) rfl rfl (bin_eql _ _ _ _ _ _) rfl ?_
    refine r_move (.p rfl) rfl ?_
    refine r_split (t := 6) rfl (fun c2 => ?_) (fun c2 => ?_)
    · have h := cnd_t c2 h
      refine r_notB rfl rfl ?_
      refine r_notB rfl rfl ?_
      refine r_notB rfl rfl ?_
      refine r_pick (.p rfl) rfl rfl rfl ?_
      refine r_assign (.p rfl) rfl ?_
      refine r_end ?_
      exact sink true h (sees_mk (rn []) _ _ ⟨rfl, trivial⟩ trivial rfl rfl)
    · have h := cnd_f c2 h
      refine r_fieldAddr (.g rfl rfl) rfl fld61_0 ?_
      refine r_load1 (.g rfl rfl) rfl ag3 rfl rfl ?_
      refine r_bin (.g rfl rfl) rfl rfl (bin_eql _ _ _ _ _ _) rfl ?_
      refine r_pick (.p rfl) rfl rfl rfl ?_
      refine r_assign (.p rfl) rfl ?_
      refine r_end ?_
      exact sink (p0.fKind == 4) h (sees_mk (rn []) _ _ ⟨rfl, trivial⟩ trivial rfl rfl)
  · obtain rfl := Option.some.inj h
    refine W_sees (sees_mk (rn []) [(2, .e (.one (.pure (.val (.bool v1)))))] [] ⟨rfl, trivial⟩ trivial rfl rfl) (W_ret ?_)
    exact ⟨⟨[_], ⟨.tmp _ _ rfl, trivial⟩, rfl⟩, trivial⟩

set_option maxRecDepth 10000 in
theorem mix_running_c (N : Nat) (p0 : ApiMix) (p1 : Int) (r : Int) (h : Sh.mix_running N p0 p1 = some r) : Contract Try.prog 54 [.e (.agg [.pure (.sl (p0.fBase.map eI64)), .pure (.sl (p0.fNext.map eI64)), .pure (.sl (p0.fHeld.map eU8))]), .e (.one (.pure (.val (.int .i64 p1))))] [] (.e (.one (.pure (.val (.int .u8 r))))) := by
  unfold Sh.mix_running at h
  refine contract_of_W (n := 27) (rs := [.tmp 4]) Try.func54 rfl rfl rfl (leb rfl) rfl fun w0 S0 => ?_
  refine W_seq ?_
  refine W_region mixed rfl ?_
  refine r_box (.p rfl) rfl rfl ?_
  refine r_assign (.p rfl) rfl ?_
  refine r_end ?_
  refine W_seq ?_
  refine W_region mixed rfl ?_
  refine r_fieldAddr (.p rfl) rfl fld37_0 ?_
  refine r_load1 (.p rfl) rfl ag28 rfl rfl ?_
  refine r_move (.p rfl) rfl ?_
  obtain ⟨v1, a1, b1, h⟩ := idx_bind h
  refine r_index (.p rfl) rfl rfl slc28 sz3 a1 (map_get b1) rfl ?_
  refine r_loadr1 (.p rfl) rfl ag3 rfl ?_
  obtain ⟨c2, h⟩ := chk_bind h
  refine r_bin (.p rfl) rfl rfl (bin_shl _ _ _ _ _ _ _ c2) rfl ?_
  refine r_assign (.p rfl) rfl ?_
  refine r_end ?_
  refine W_join h (fun v3 => mk [(5, .e (.one (.pure (.val (.int .u8 v3)))))] []) (fun j3 h => ?_) (fun v3 h => ?_)
  · refine W_seq ?_
    refine W_region mixed rfl ?_
    refine r_fieldAddr (.p rfl) rfl fld37_1 ?_
    refine r_load1 (.p rfl) rfl ag28 rfl rfl ?_
    refine r_move (.p rfl) rfl ?_
    obtain ⟨v4, a4, b4, h⟩ := idx_bind h
    refine r_index (.p rfl) rfl rfl slc28 sz3 a4 (map_get b4) rfl ?_
    refine r_loadr1 (.p rfl) rfl ag3 rfl ?_
    refine r_bin (.p rfl) rfl rfl (bin_geq _ _ _ _ _ _) rfl ?_
    refine r_end ?_
    refine W_cond rfl (fun c5 => ?_) (fun c5 => ?_)
    · have h := cnd_t c5 h
      refine W_region mixed rfl ?_
      refine r_move (.p rfl) rfl ?_
      refine r_fieldAddr (.p rfl) rfl fld37_1 ?_
      refine r_load1 (.p rfl) rfl ag28 rfl rfl ?_
      refine r_move (.p rfl) rfl ?_
      obtain ⟨v6, a6, b6, h⟩ := idx_bind h
      refine r_index (.p rfl) rfl rfl slc28 sz3 a6 (map_get b6) rfl ?_
      refine r_loadr1 (.p rfl) rfl ag3 rfl ?_
      obtain ⟨c7, h⟩ := chk_bind h
      refine r_bin (.p rfl) rfl rfl (bin_shl _ _ _ _ _ _ _ c7) rfl ?_
      refine r_bin (.p rfl) rfl rfl (bin_or _ _ _ _ _ _) rfl ?_
      refine r_assign (.p rfl) rfl ?_
      refine r_end ?_
      exact sink (orI .u8 ((shlI .u8 1 v1)) ((shlI .u8 1 v6))) h (sees_mk (rn []) _ _ ⟨rfl, trivial⟩ trivial rfl rfl)
    · have h := cnd_f c5 h
      refine W_skip ?_
      exact sink (shlI .u8 1 v1) h (sees_mk (rn []) _ _ ⟨rfl, trivial⟩ trivial rfl rfl)
  · refine W_seq ?_
    refine W_region mixed rfl ?_
    refine r_move (.p rfl) rfl ?_
    refine r_assign (.p rfl) rfl ?_
    refine r_end ?_
    obtain rfl := Option.some.inj h
    refine W_sees (sees_mk (rn []) [(4, .e (.one (.pure (.val (.int .u8 v3)))))] [] ⟨rfl, trivial⟩ trivial rfl rfl) (W_ret ?_)
    exact ⟨⟨[_], ⟨.tmp _ _ rfl, trivial⟩, rfl⟩, trivial⟩

set_option maxRecDepth 10000 in
theorem mix_Valid_c (N : Nat) (p0 : ApiProblem) (p1 : ApiMix) (r : Int) (h : Sh.mix_Valid N p0 p1 = some r) : Contract Try.prog 30 [.e (.agg [.pure (.sl (p0.fVersions.map eI64)), .pure (.sl (p0.fNow.map eI64)), .pure (.sl (p0.fTarget.map eI64)), .pure (.sl (p0.fTables.map eApiTable))]), .e (.agg [.pure (.sl (p1.fBase.map eI64)), .pure (.sl (p1.fNext.map eI64)), .pure (.sl (p1.fHeld.map eU8))])] [] (.e (.one (.pure (.val (.int .i64 r))))) := by
  unfold Sh.mix_Valid at h
  refine contract_of_W (n := 135) (rs := [.tmp 4]) Try.func30 rfl rfl rfl (leb rfl) rfl fun w0 S0 => ?_
  refine W_seq ?_
  refine W_region mixed rfl ?_
  refine r_box (.p rfl) rfl rfl ?_
  refine r_box (.p rfl) rfl rfl ?_
  refine r_assign (.p rfl) rfl ?_
  refine r_end ?_
  refine W_seq ?_
  refine W_seq ?_
  refine W_region mixed rfl ?_
  refine r_loadN (.p rfl) rfl ag31 sz31 rfl rfl rfl ?_
  obtain ⟨v1, a1, h⟩ := bind_some h
  refine r_call (ds0 := [_]) [] (fleet_ValidProblem_c N p0 v1 a1) (.p rfl) gd52 rfl ⟨rfl, trivial⟩ rfl rfl rfl (nodupB_spec rfl) trivial rfl ?_
  refine r_assign (.p rfl) rfl ?_
  refine r_end ?_
  refine W_seq ?_
  refine W_region mixed rfl ?_
  refine r_move (.p rfl) rfl ?_
  refine r_bin (.p rfl) rfl rfl (bin_neq _ _ _ _ _ _) rfl ?_
  refine r_end ?_
  refine W_cond rfl (fun c2 => ?_) (fun c2 => ?_)
  · have h := cnd_t c2 h
    refine W_seq ?_
    refine W_region mixed rfl ?_
    refine r_move (.p rfl) rfl ?_
    refine r_assign (.p rfl) rfl ?_
    refine r_end ?_
    obtain rfl := Option.some.inj h
    refine W_sees (sees_mk (rn []) [(4, .e (.one (.pure (.val (.int .i64 v1)))))] [] ⟨rfl, trivial⟩ trivial rfl rfl) (W_ret ?_)
    exact ⟨⟨[_], ⟨.tmp _ _ rfl, trivial⟩, rfl⟩, trivial⟩
  · have h := cnd_f c2 h
    refine W_skip ?_
    refine W_seq ?_
    refine W_join h (fun v3 => mk [(2, .e (.one (.ptr 2 0))), (3, .e (.one (.ptr 3 0))), (41, .e (.one (.pure (.val (.bool v3)))))] [(2, .box [.pure (.sl (p0.fVersions.map eI64)), .pure (.sl (p0.fNow.map eI64)), .pure (.sl (p0.fTarget.map eI64)), .pure (.sl (p0.fTables.map eApiTable))]), (3, .box [.pure (.sl (p1.fBase.map eI64)), .pure (.sl (p1.fNext.map eI64)), .pure (.sl (p1.fHeld.map eU8))])]) (fun j3 h => ?_) (fun v3 h => ?_)
    · refine W_region mixed rfl ?_
      refine r_fieldAddr (.p rfl) rfl fld37_0 ?_
      refine r_load1 (.p rfl) rfl ag28 rfl rfl ?_
      refine r_len (.p rfl) rfl (.sl _) trivial (List.length_map _) slc28 ?_
      refine r_fieldAddr (.p rfl) rfl fld31_0 ?_
      refine r_load1 (.p rfl) rfl ag28 rfl rfl ?_
      refine r_len (.p rfl) rfl (.sl _) trivial (List.length_map _) slc28 ?_
      refine r_bin (.p rfl) rfl rfl (bin_neq _ _ _ _ _ _) rfl ?_
      refine r_move (.p rfl) rfl ?_
      refine r_split (t := 24) rfl (fun c4 => ?_) (fun c4 => ?_)
      · have h := cnd_t c4 h
        refine r_notB rfl rfl ?_
        refine r_notB rfl rfl ?_
        refine r_notB rfl rfl ?_
        refine r_notB rfl rfl ?_
        refine r_notB rfl rfl ?_
        refine r_notB rfl rfl ?_
        refine r_notB rfl rfl ?_
        refine r_pick (.p rfl) rfl rfl rfl ?_
        refine r_move (.p rfl) rfl ?_
        refine r_notB rfl rfl ?_
        refine r_notB rfl rfl ?_
        refine r_notB rfl rfl ?_
        refine r_notB rfl rfl ?_
        refine r_notB rfl rfl ?_
        refine r_notB rfl rfl ?_
        refine r_notB rfl rfl ?_
        refine r_pick (.p rfl) rfl rfl rfl ?_
        refine r_end ?_
        exact sink true h (sees_mk (rn []) _ _ ⟨rfl, rfl, rfl, trivial⟩ ⟨rfl, rfl, trivial⟩ rfl rfl)
      · have h := cnd_f c4 h
        refine r_fieldAddr (.g rfl rfl) rfl fld37_1 ?_
        refine r_load1 (.g rfl rfl) rfl ag28 rfl rfl ?_
        refine r_len (.g rfl rfl) rfl (.sl _) trivial (List.length_map _) slc28 ?_
        refine r_fieldAddr (.g rfl rfl) rfl fld31_0 ?_
        refine r_load1 (.g rfl rfl) rfl ag28 rfl rfl ?_
        refine r_len (.g rfl rfl) rfl (.sl _) trivial (List.length_map _) slc28 ?_
        refine r_bin (.g rfl rfl) rfl rfl (bin_neq _ _ _ _ _ _) rfl ?_
        refine r_pick (.p rfl) rfl rfl rfl ?_
        refine r_move (.p rfl) rfl ?_
        refine r_split (t := 33) rfl (fun c5 => ?_) (fun c5 => ?_)
        · have h := cnd_t c5 h
          refine r_notB rfl rfl ?_
          refine r_notB rfl rfl ?_
          refine r_notB rfl rfl ?_
          refine r_notB rfl rfl ?_
          refine r_notB rfl rfl ?_
          refine r_notB rfl rfl ?_
          refine r_notB rfl rfl ?_
          refine r_pick (.p rfl) rfl rfl rfl ?_
          refine r_end ?_
          exact sink true h (sees_mk (rn []) _ _ ⟨rfl, rfl, rfl, trivial⟩ ⟨rfl, rfl, trivial⟩ rfl rfl)
        · have h := cnd_f c5 h
          refine r_fieldAddr (.g rfl rfl) rfl fld37_2 ?_
          refine r_load1 (.g rfl rfl) rfl ag35 rfl rfl ?_
          refine r_len (.g rfl rfl) rfl (.sl _) trivial (List.length_map _) slc35 ?_
          refine r_fieldAddr (.g rfl rfl) rfl fld31_3 ?_
          refine r_load1 (.g rfl rfl) rfl ag29 rfl rfl ?_
          refine r_len (.g rfl rfl) rfl (.sl _) trivial (List.length_map _) slc29 ?_
          refine r_bin (.g rfl rfl) rfl rfl (bin_neq _ _ _ _ _ _) rfl ?_
          refine r_pick (.p rfl) rfl rfl rfl ?_
          refine r_end ?_
          exact sink ((p1.fHeld.length : Int) != (p0.fTables.length : Int)) h (sees_mk (rn []) _ _ ⟨rfl, rfl, rfl, trivial⟩ ⟨rfl, rfl, trivial⟩ rfl rfl)
    · refine W_cond rfl (fun c6 => ?_) (fun c6 => ?_)
      · have h := cnd_t c6 h
        refine W_seq ?_
        refine W_region mixed rfl ?_
        refine r_assign (.p rfl) rfl ?_
        refine r_end ?_
        obtain rfl := Option.some.inj h
        refine W_sees (sees_mk (rn []) [(4, .e (.one (.pure (.val (.int .i64 6)))))] [] ⟨rfl, trivial⟩ trivial rfl rfl) (W_ret ?_)
        exact ⟨⟨[_], ⟨.tmp _ _ rfl, trivial⟩, rfl⟩, trivial⟩
      · have h := cnd_f c6 h
        refine W_skip ?_
        refine W_seq ?_
        refine W_seq ?_
        refine W_region mixed rfl ?_
        refine r_fieldAddr (.p rfl) rfl fld31_0 ?_
        refine r_load1 (.p rfl) rfl ag28 rfl rfl ?_
        refine r_len (.p rfl) rfl (.sl _) trivial (List.length_map _) slc28 ?_
        refine r_move (.p rfl) rfl ?_
        refine r_end ?_
        refine W_whileE (L := Sh.mix_Valid_L7 N p0 p1) h (fun v7 => mk [(2, .e (.one (.ptr 2 0))), (3, .e (.one (.ptr 3 0))), (43, .e (.one (.pure (.sl (p0.fVersions.map eI64))))), (44, .e (.one (.pure (.val (.int .i64 ((p0.fVersions.length : Int))))))), (45, .e (.one (.pure (.val (.int .i64 v7)))))] [(2, .box [.pure (.sl (p0.fVersions.map eI64)), .pure (.sl (p0.fNow.map eI64)), .pure (.sl (p0.fTarget.map eI64)), .pure (.sl (p0.fTables.map eApiTable))]), (3, .box [.pure (.sl (p1.fBase.map eI64)), .pure (.sl (p1.fNext.map eI64)), .pure (.sl (p1.fHeld.map eU8))])]) (fun v8 => mk [(2, .e (.one (.ptr 2 0))), (3, .e (.one (.ptr 3 0)))] [(2, .box [.pure (.sl (p0.fVersions.map eI64)), .pure (.sl (p0.fNow.map eI64)), .pure (.sl (p0.fTarget.map eI64)), .pure (.sl (p0.fTables.map eApiTable))]), (3, .box [.pure (.sl (p1.fBase.map eI64)), .pure (.sl (p1.fNext.map eI64)), .pure (.sl (p1.fHeld.map eU8))])]) (fun _ _ => rfl) (sees_mk (rn []) _ _ ⟨rfl, rfl, rfl, rfl, rfl, trivial⟩ ⟨rfl, rfl, trivial⟩ rfl rfl) (fun j7 n7 v7 h => ?_) (fun v8 s h hs => ?_)
        · unfold Sh.mix_Valid_L7 at h
          refine W_seq ?_
          refine W_region mixed rfl ?_
          refine r_bin (.p rfl) rfl rfl (bin_lss _ _ _ _ _ _) rfl ?_
          refine r_end ?_
          refine W_seq ?_
          refine W_cond rfl (fun c9 => ?_) (fun c9 => ?_)
          · have h := cnd_t c9 h
            refine W_skip ?_
            refine W_seq ?_
            refine W_block ?_
            refine W_seq ?_
            refine W_region mixed rfl ?_
            refine r_move (.p rfl) rfl ?_
            obtain ⟨v10, a10, b10, h⟩ := idx_bind h
            refine r_index (.p rfl) rfl rfl slc28 sz3 a10 (map_get b10) rfl ?_
            refine r_loadr1 (.p rfl) rfl ag3 rfl ?_
            refine r_assign (.p rfl) rfl ?_
            refine r_assign (.p rfl) rfl ?_
            refine r_end ?_
            refine W_seq ?_
            refine W_join h (fun v11 => mk [(2, .e (.one (.ptr 2 0))), (3, .e (.one (.ptr 3 0))), (6, .e (.one (.pure (.val (.int .i64 v7))))), (43, .e (.one (.pure (.sl (p0.fVersions.map eI64))))), (44, .e (.one (.pure (.val (.int .i64 ((p0.fVersions.length : Int))))))), (45, .e (.one (.pure (.val (.int .i64 v7))))), (81, .e (.one (.pure (.val (.bool v11)))))] [(2, .box [.pure (.sl (p0.fVersions.map eI64)), .pure (.sl (p0.fNow.map eI64)), .pure (.sl (p0.fTarget.map eI64)), .pure (.sl (p0.fTables.map eApiTable))]), (3, .box [.pure (.sl (p1.fBase.map eI64)), .pure (.sl (p1.fNext.map eI64)), .pure (.sl (p1.fHeld.map eU8))])]) (fun j11 h => ?_) (fun v11 h => ?_)
            · refine W_region mixed rfl ?_
              refine r_fieldAddr (.p rfl) rfl fld37_0 ?_
              refine r_load1 (.p rfl) rfl ag28 rfl rfl ?_
              refine r_move (.p rfl) rfl ?_
              obtain ⟨v12, a12, b12, h⟩ := idx_bind h
              refine r_index (.p rfl) rfl rfl slc28 sz3 a12 (map_get b12) rfl ?_
              refine r_loadr1 (.p rfl) rfl ag3 rfl ?_
              refine r_bin (.p rfl) rfl rfl (bin_lss _ _ _ _ _ _) rfl ?_
              refine r_move (.p rfl) rfl ?_
              refine r_split (t := 56) rfl (fun c13 => ?_) (fun c13 => ?_)
              · have h := cnd_t c13 h
                refine r_notB rfl rfl ?_
                refine r_notB rfl rfl ?_
                refine r_notB rfl rfl ?_
                refine r_notB rfl rfl ?_
                refine r_notB rfl rfl ?_
                refine r_notB rfl rfl ?_
                refine r_notB rfl rfl ?_
                refine r_pick (.p rfl) rfl rfl rfl ?_
                refine r_move (.p rfl) rfl ?_
                refine r_notB rfl rfl ?_
                refine r_notB rfl rfl ?_
                refine r_notB rfl rfl ?_
                refine r_notB rfl rfl ?_
                refine r_notB rfl rfl ?_
                refine r_notB rfl rfl ?_
                refine r_pick (.p rfl) rfl rfl rfl ?_
                refine r_move (.p rfl) rfl ?_
                refine r_notB rfl rfl ?_
                refine r_notB rfl rfl ?_
                refine r_notB rfl rfl ?_
                refine r_notB rfl rfl ?_
                refine r_notB rfl rfl ?_
                refine r_notB rfl rfl ?_
                refine r_notB rfl rfl ?_
                refine r_pick (.p rfl) rfl rfl rfl ?_
                refine r_end ?_
                exact sink true h (sees_mk (rn []) _ _ ⟨rfl, rfl, rfl, rfl, rfl, rfl, rfl, trivial⟩ ⟨rfl, rfl, trivial⟩ rfl rfl)
              · have h := cnd_f c13 h
                refine r_fieldAddr (.g rfl rfl) rfl fld37_0 ?_
                refine r_load1 (.g rfl rfl) rfl ag28 rfl rfl ?_
                refine r_move (.g rfl rfl) rfl ?_
                obtain ⟨v14, a14, b14, h⟩ := idx_bind h
                refine r_index (.g rfl rfl) rfl rfl slc28 sz3 a14 (map_get b14) rfl ?_
                refine r_loadr1 (.g rfl rfl) rfl ag3 rfl ?_
                refine r_move (.g rfl rfl) rfl ?_
                refine r_bin (.g rfl rfl) rfl rfl (bin_geq _ _ _ _ _ _) rfl ?_
                refine r_pick (.p rfl) rfl rfl rfl ?_
                refine r_move (.p rfl) rfl ?_
                refine r_split (t := 65) rfl (fun c15 => ?_) (fun c15 => ?_)
                · have h := cnd_t c15 h
                  refine r_notB rfl rfl ?_
                  refine r_notB rfl rfl ?_
                  refine r_notB rfl rfl ?_
                  refine r_notB rfl rfl ?_
                  refine r_notB rfl rfl ?_
                  refine r_notB rfl rfl ?_
                  refine r_pick (.p rfl) rfl rfl rfl ?_
                  refine r_move (.p rfl) rfl ?_
                  refine r_notB rfl rfl ?_
                  refine r_notB rfl rfl ?_
                  refine r_notB rfl rfl ?_
                  refine r_notB rfl rfl ?_
                  refine r_notB rfl rfl ?_
                  refine r_notB rfl rfl ?_
                  refine r_notB rfl rfl ?_
                  refine r_pick (.p rfl) rfl rfl rfl ?_
                  refine r_end ?_
                  exact sink true h (sees_mk (rn []) _ _ ⟨rfl, rfl, rfl, rfl, rfl, rfl, rfl, trivial⟩ ⟨rfl, rfl, trivial⟩ rfl rfl)
                · have h := cnd_f c15 h
                  refine r_fieldAddr (.g rfl rfl) rfl fld37_1 ?_
                  refine r_load1 (.g rfl rfl) rfl ag28 rfl rfl ?_
                  refine r_move (.g rfl rfl) rfl ?_
                  obtain ⟨v16, a16, b16, h⟩ := idx_bind h
                  refine r_index (.g rfl rfl) rfl rfl slc28 sz3 a16 (map_get b16) rfl ?_
                  refine r_loadr1 (.g rfl rfl) rfl ag3 rfl ?_
                  refine r_bin (.g rfl rfl) rfl rfl (bin_lss _ _ _ _ _ _) rfl ?_
                  refine r_pick (.p rfl) rfl rfl rfl ?_
                  refine r_move (.p rfl) rfl ?_
                  refine r_split (t := 73) rfl (fun c17 => ?_) (fun c17 => ?_)
                  · have h := cnd_t c17 h
                    refine r_notB rfl rfl ?_
                    refine r_notB rfl rfl ?_
                    refine r_notB rfl rfl ?_
                    refine r_notB rfl rfl ?_
                    refine r_notB rfl rfl ?_
                    refine r_notB rfl rfl ?_
                    refine r_notB rfl rfl ?_
                    refine r_pick (.p rfl) rfl rfl rfl ?_
                    refine r_end ?_
                    exact sink true h (sees_mk (rn []) _ _ ⟨rfl, rfl, rfl, rfl, rfl, rfl, rfl, trivial⟩ ⟨rfl, rfl, trivial⟩ rfl rfl)
                  · have h := cnd_f c17 h
                    refine r_fieldAddr (.g rfl rfl) rfl fld37_1 ?_
                    refine r_load1 (.g rfl rfl) rfl ag28 rfl rfl ?_
                    refine r_move (.g rfl rfl) rfl ?_
                    obtain ⟨v18, a18, b18, h⟩ := idx_bind h
                    refine r_index (.g rfl rfl) rfl rfl slc28 sz3 a18 (map_get b18) rfl ?_
                    refine r_loadr1 (.g rfl rfl) rfl ag3 rfl ?_
                    refine r_move (.g rfl rfl) rfl ?_
                    refine r_bin (.g rfl rfl) rfl rfl (bin_geq _ _ _ _ _ _) rfl ?_
                    refine r_pick (.p rfl) rfl rfl rfl ?_
                    refine r_end ?_
                    exact sink (decide (v10 ≤ v18)) h (sees_mk (rn []) _ _ ⟨rfl, rfl, rfl, rfl, rfl, rfl, rfl, trivial⟩ ⟨rfl, rfl, trivial⟩ rfl rfl)
            · refine W_cond rfl (fun c19 => ?_) (fun c19 => ?_)
              · have h := cnd_t c19 h
                refine W_seq ?_
                refine W_region mixed rfl ?_
                refine r_assign (.p rfl) rfl ?_
                refine r_end ?_
                obtain rfl := Option.some.inj h
                refine W_sees (sees_mk (rn []) [(4, .e (.one (.pure (.val (.int .i64 7)))))] [] ⟨rfl, trivial⟩ trivial rfl rfl) (W_ret ?_)
                exact ⟨⟨[_], ⟨.tmp _ _ rfl, trivial⟩, rfl⟩, trivial⟩
              · have h := cnd_f c19 h
                refine W_skip ?_
                refine W_seq ?_
                refine W_region mixed rfl ?_
                refine r_fieldAddr (.p rfl) rfl fld37_0 ?_
                refine r_load1 (.p rfl) rfl ag28 rfl rfl ?_
                refine r_move (.p rfl) rfl ?_
                obtain ⟨v20, a20, b20, h⟩ := idx_bind h
                refine r_index (.p rfl) rfl rfl slc28 sz3 a20 (map_get b20) rfl ?_
                refine r_loadr1 (.p rfl) rfl ag3 rfl ?_
                refine r_fieldAddr (.p rfl) rfl fld37_1 ?_
                refine r_load1 (.p rfl) rfl ag28 rfl rfl ?_
                refine r_move (.p rfl) rfl ?_
                obtain ⟨v21, a21, b21, h⟩ := idx_bind h
                refine r_index (.p rfl) rfl rfl slc28 sz3 a21 (map_get b21) rfl ?_
                refine r_loadr1 (.p rfl) rfl ag3 rfl ?_
                refine r_bin (.p rfl) rfl rfl (bin_eql _ _ _ _ _ _) rfl ?_
                refine r_endD (by kernel_rfl) ?_
                refine W_cond rfl (fun c22 => ?_) (fun c22 => ?_)
                · have h := cnd_t c22 h
                  refine W_seq ?_
                  refine W_region mixed rfl ?_
                  refine r_assign (.p rfl) rfl ?_
                  refine r_end ?_
                  obtain rfl := Option.some.inj h
                  refine W_sees (sees_mk (rn []) [(4, .e (.one (.pure (.val (.int .i64 1)))))] [] ⟨rfl, trivial⟩ trivial rfl rfl) (W_ret ?_)
                  exact ⟨⟨[_], ⟨.tmp _ _ rfl, trivial⟩, rfl⟩, trivial⟩
                · have h := cnd_f c22 h
                  refine W_skip ?_
                  refine W_region mixed rfl ?_
                  refine r_bin (.p rfl) rfl rfl (bin_add _ _ _ _ _ _) rfl ?_
                  refine r_move (.p rfl) rfl ?_
                  refine r_end ?_
                  exact sink (IntKind.wrap .i64 (v7 + 1)) h (sees_mk (rn []) _ _ ⟨rfl, rfl, rfl, rfl, rfl, trivial⟩ ⟨rfl, rfl, trivial⟩ rfl rfl)
          · have h := cnd_f c9 h
            refine W_exit ?_
            exact sink () h (sees_mk (rn []) _ _ ⟨rfl, rfl, trivial⟩ ⟨rfl, rfl, trivial⟩ rfl rfl)
        · refine W_sees hs ?_
          refine W_seq ?_
          refine W_seq ?_
          refine W_region mixed rfl ?_
          refine r_fieldAddr (.p rfl) rfl fld31_3 ?_
          refine r_load1 (.p rfl) rfl ag29 rfl rfl ?_
          refine r_len (.p rfl) rfl (.sl _) trivial (List.length_map _) slc29 ?_
          refine r_move (.p rfl) rfl ?_
          refine r_end ?_
          refine W_whileE (L := Sh.mix_Valid_L23 N p0 p1) h (fun v23 => mk [(2, .e (.one (.ptr 2 0))), (3, .e (.one (.ptr 3 0))), (95, .e (.one (.pure (.sl (p0.fTables.map eApiTable))))), (96, .e (.one (.pure (.val (.int .i64 ((p0.fTables.length : Int))))))), (97, .e (.one (.pure (.val (.int .i64 v23)))))] [(2, .box [.pure (.sl (p0.fVersions.map eI64)), .pure (.sl (p0.fNow.map eI64)), .pure (.sl (p0.fTarget.map eI64)), .pure (.sl (p0.fTables.map eApiTable))]), (3, .box [.pure (.sl (p1.fBase.map eI64)), .pure (.sl (p1.fNext.map eI64)), .pure (.sl (p1.fHeld.map eU8))])]) (fun v24 => mk [] []) (fun _ _ => rfl) (sees_mk (rn []) _ _ ⟨rfl, rfl, rfl, rfl, rfl, trivial⟩ ⟨rfl, rfl, trivial⟩ rfl rfl) (fun j23 n23 v23 h => ?_) (fun v24 s h hs => ?_)
          · unfold Sh.mix_Valid_L23 at h
            refine W_seq ?_
            refine W_region mixed rfl ?_
            refine r_bin (.p rfl) rfl rfl (bin_lss _ _ _ _ _ _) rfl ?_
            refine r_end ?_
            refine W_seq ?_
            refine W_cond rfl (fun c25 => ?_) (fun c25 => ?_)
            · have h := cnd_t c25 h
              refine W_skip ?_
              refine W_seq ?_
              refine W_block ?_
              refine W_seq ?_
              refine W_region mixed rfl ?_
              refine r_move (.p rfl) rfl ?_
              obtain ⟨v26, a26, b26, h⟩ := idx_bind h
              refine r_index (.p rfl) rfl rfl slc29 sz61 a26 (map_get b26) rfl ?_
              refine r_loadrN (.p rfl) rfl ag61 sz61 rfl rfl ?_
              refine r_alloc (.p rfl) zv61 rfl rfl rfl ?_
              refine r_assign (.p rfl) rfl ?_
              refine r_store rfl rfl rfl rfl sz61 rfl (leb rfl) rfl ?_
              refine r_end ?_
              refine W_seq ?_
              refine W_region mixed rfl ?_
              refine r_assign (.p rfl) rfl ?_
              refine r_assign (.p rfl) rfl ?_
              refine r_end ?_
              refine W_join h (fun v27 => mk [(2, .e (.one (.ptr 2 0))), (3, .e (.one (.ptr 3 0))), (8, .e (.one (.pure (.val (.int .i64 v23))))), (10, .e (.one (.pure (.val (.int .u8 v27.1))))), (11, .e (.one (.pure (.val (.int .u8 v27.2))))), (95, .e (.one (.pure (.sl (p0.fTables.map eApiTable))))), (96, .e (.one (.pure (.val (.int .i64 ((p0.fTables.length : Int))))))), (97, .e (.one (.pure (.val (.int .i64 v23)))))] [(2, .box [.pure (.sl (p0.fVersions.map eI64)), .pure (.sl (p0.fNow.map eI64)), .pure (.sl (p0.fTarget.map eI64)), .pure (.sl (p0.fTables.map eApiTable))]), (3, .box [.pure (.sl (p1.fBase.map eI64)), .pure (.sl (p1.fNext.map eI64)), .pure (.sl (p1.fHeld.map eU8))])]) (fun j27 h => ?_) (fun v27 h => ?_)
              · refine W_seq ?_
                refine W_region mixed rfl ?_
                refine r_loadN (.p rfl) rfl ag61 sz61 rfl rfl rfl ?_
                obtain ⟨v28, a28, h⟩ := bind_some h
                refine r_call (ds0 := [_]) [] (mix_stored_c N v26 v28 a28) (.p rfl) gd53 rfl ⟨rfl, trivial⟩ rfl rfl rfl (nodupB_spec rfl) trivial rfl ?_
                refine r_end ?_
                refine W_cond rfl (fun c29 => ?_) (fun c29 => ?_)
                · have h := cnd_t c29 h
                  refine W_region mixed rfl ?_
                  refine r_loadN (.p rfl) rfl ag37 sz37 rfl rfl rfl ?_
                  refine r_fieldAddr (.p rfl) rfl fld61_1 ?_
                  refine r_load1 (.p rfl) rfl ag3 rfl rfl ?_
                  obtain ⟨v30, a30, h⟩ := bind_some h
                  refine r_call (ds0 := [_, _]) [] (mix_running_c N p1 v26.fFrom v30 a30) (.p rfl) gd54 rfl ⟨rfl, rfl, trivial⟩ rfl rfl rfl (nodupB_spec rfl) trivial rfl ?_
                  refine r_fieldAddr (.p rfl) rfl fld31_0 ?_
                  refine r_load1 (.p rfl) rfl ag28 rfl rfl ?_
                  refine r_fieldAddr (.p rfl) rfl fld61_1 ?_
                  refine r_load1 (.p rfl) rfl ag3 rfl rfl ?_
                  obtain ⟨v31, a31, b31, h⟩ := idx_bind h
                  refine r_index (.p rfl) rfl rfl slc28 sz3 a31 (map_get b31) rfl ?_
                  refine r_loadr1 (.p rfl) rfl ag3 rfl ?_
                  obtain ⟨c32, h⟩ := chk_bind h
                  refine r_bin (.p rfl) rfl rfl (bin_shl _ _ _ _ _ _ _ c32) rfl ?_
                  refine r_bin (.p rfl) rfl rfl (bin_sub _ _ _ _ _ _) rfl ?_
                  refine r_assign (.p rfl) rfl ?_
                  refine r_assign (.p rfl) rfl ?_
                  refine r_endD (by kernel_rfl) ?_
                  exact sink (v30, (IntKind.wrap .u8 ((shlI .u8 1 v31) - 1))) h (sees_mk (rn []) _ _ ⟨rfl, rfl, rfl, rfl, rfl, rfl, rfl, rfl, trivial⟩ ⟨rfl, rfl, trivial⟩ rfl rfl)
                · have h := cnd_f c29 h
                  refine W_skip ?_
                  exact sink (0, 0) h (sees_mk (rn []) _ _ ⟨rfl, rfl, rfl, rfl, rfl, rfl, rfl, rfl, trivial⟩ ⟨rfl, rfl, trivial⟩ rfl rfl)
              · refine W_join h (fun v33 => mk [(2, .e (.one (.ptr 2 0))), (3, .e (.one (.ptr 3 0))), (95, .e (.one (.pure (.sl (p0.fTables.map eApiTable))))), (96, .e (.one (.pure (.val (.int .i64 ((p0.fTables.length : Int))))))), (97, .e (.one (.pure (.val (.int .i64 v23))))), (133, .e (.one (.pure (.val (.bool v33)))))] [(2, .box [.pure (.sl (p0.fVersions.map eI64)), .pure (.sl (p0.fNow.map eI64)), .pure (.sl (p0.fTarget.map eI64)), .pure (.sl (p0.fTables.map eApiTable))]), (3, .box [.pure (.sl (p1.fBase.map eI64)), .pure (.sl (p1.fNext.map eI64)), .pure (.sl (p1.fHeld.map eU8))])]) (fun j33 h => ?_) (fun v33 h => ?_)
                · refine W_region mixed rfl ?_
                  refine r_move (.p rfl) rfl ?_
                  refine r_fieldAddr (.p rfl) rfl fld37_2 ?_
                  refine r_load1 (.p rfl) rfl ag35 rfl rfl ?_
                  refine r_move (.p rfl) rfl ?_
                  obtain ⟨v34, a34, b34, h⟩ := idx_bind h
                  refine r_index (.p rfl) rfl rfl slc35 sz80 a34 (map_get b34) rfl ?_
                  refine r_loadr1 (.p rfl) rfl ag80 rfl ?_
                  refine r_bin (.p rfl) rfl rfl (bin_andNot _ _ _ _ _ _) rfl ?_
                  refine r_bin (.p rfl) rfl rfl (bin_neq _ _ _ _ _ _) rfl ?_
                  refine r_move (.p rfl) rfl ?_
                  refine r_split (t := 124) rfl (fun c35 => ?_) (fun c35 => ?_)
                  · have h := cnd_t c35 h
                    refine r_notB rfl rfl ?_
                    refine r_notB rfl rfl ?_
                    refine r_notB rfl rfl ?_
                    refine r_notB rfl rfl ?_
                    refine r_notB rfl rfl ?_
                    refine r_notB rfl rfl ?_
                    refine r_notB rfl rfl ?_
                    refine r_notB rfl rfl ?_
                    refine r_pick (.p rfl) rfl rfl rfl ?_
                    refine r_end ?_
                    exact sink true h (sees_mk (rn []) _ _ ⟨rfl, rfl, rfl, rfl, rfl, rfl, trivial⟩ ⟨rfl, rfl, trivial⟩ rfl rfl)
                  · have h := cnd_f c35 h
                    refine r_fieldAddr (.g rfl rfl) rfl fld37_2 ?_
                    refine r_load1 (.g rfl rfl) rfl ag35 rfl rfl ?_
                    refine r_move (.g rfl rfl) rfl ?_
                    obtain ⟨v36, a36, b36, h⟩ := idx_bind h
                    refine r_index (.g rfl rfl) rfl rfl slc35 sz80 a36 (map_get b36) rfl ?_
                    refine r_loadr1 (.g rfl rfl) rfl ag80 rfl ?_
                    refine r_move (.g rfl rfl) rfl ?_
                    refine r_bin (.g rfl rfl) rfl rfl (bin_andNot _ _ _ _ _ _) rfl ?_
                    refine r_bin (.g rfl rfl) rfl rfl (bin_neq _ _ _ _ _ _) rfl ?_
                    refine r_pick (.p rfl) rfl rfl rfl ?_
                    refine r_end ?_
                    exact sink ((andNotI .u8 v36 v27.2) != 0) h (sees_mk (rn []) _ _ ⟨rfl, rfl, rfl, rfl, rfl, rfl, trivial⟩ ⟨rfl, rfl, trivial⟩ rfl rfl)
                · refine W_cond rfl (fun c37 => ?_) (fun c37 => ?_)
                  · have h := cnd_t c37 h
                    refine W_seq ?_
                    refine W_region mixed rfl ?_
                    refine r_assign (.p rfl) rfl ?_
                    refine r_end ?_
                    obtain rfl := Option.some.inj h
                    refine W_sees (sees_mk (rn []) [(4, .e (.one (.pure (.val (.int .i64 1)))))] [] ⟨rfl, trivial⟩ trivial rfl rfl) (W_ret ?_)
                    exact ⟨⟨[_], ⟨.tmp _ _ rfl, trivial⟩, rfl⟩, trivial⟩
                  · have h := cnd_f c37 h
                    refine W_skip ?_
                    refine W_region mixed rfl ?_
                    refine r_bin (.p rfl) rfl rfl (bin_add _ _ _ _ _ _) rfl ?_
                    refine r_move (.p rfl) rfl ?_
                    refine r_end ?_
                    exact sink (IntKind.wrap .i64 (v23 + 1)) h (sees_mk (rn []) _ _ ⟨rfl, rfl, rfl, rfl, rfl, trivial⟩ ⟨rfl, rfl, trivial⟩ rfl rfl)
            · have h := cnd_f c25 h
              refine W_exit ?_
              exact sink () h (sees_mk (rn []) _ _ trivial trivial rfl rfl)
          · refine W_sees hs ?_
            refine W_seq ?_
            refine W_region mixed rfl ?_
            refine r_assign (.p rfl) rfl ?_
            refine r_end ?_
            obtain rfl := Option.some.inj h
            refine W_sees (sees_mk (rn []) [(4, .e (.one (.pure (.val (.int .i64 0)))))] [] ⟨rfl, trivial⟩ trivial rfl rfl) (W_ret ?_)
            exact ⟨⟨[_], ⟨.tmp _ _ rfl, trivial⟩, rfl⟩, trivial⟩

set_option maxRecDepth 10000 in
theorem mix_conflicts_c (N : Nat) (p0 : ApiProblem) (p1 : ApiMix) (r : (List ApiConflict)) (h : Sh.mix_conflicts N p0 p1 = some r) : Contract Try.prog 43 [.e (.agg [.pure (.sl (p0.fVersions.map eI64)), .pure (.sl (p0.fNow.map eI64)), .pure (.sl (p0.fTarget.map eI64)), .pure (.sl (p0.fTables.map eApiTable))]), .e (.agg [.pure (.sl (p1.fBase.map eI64)), .pure (.sl (p1.fNext.map eI64)), .pure (.sl (p1.fHeld.map eU8))])] [(3, r.map eApiConflict)] (.e (.one (.own 0))) := by
  unfold Sh.mix_conflicts at h
  refine contract_of_W (n := 98) (rs := [.tmp 4]) Try.func43 rfl rfl rfl (leb rfl) rfl fun w0 S0 => ?_
  refine W_seq ?_
  refine W_region mixed rfl ?_
  refine r_box (.p rfl) rfl rfl ?_
  refine r_box (.p rfl) rfl rfl ?_
  refine r_assign (.p rfl) rfl ?_
  refine r_end ?_
  refine W_seq ?_
  refine W_region mixed rfl ?_
  refine r_assign (.p rfl) rfl ?_
  refine r_end ?_
  refine W_seq ?_
  refine W_seq ?_
  refine W_region mixed rfl ?_
  refine r_fieldAddr (.p rfl) rfl fld31_3 ?_
  refine r_load1 (.p rfl) rfl ag29 rfl rfl ?_
  refine r_len (.p rfl) rfl (.sl _) trivial (List.length_map _) slc29 ?_
  refine r_move (.p rfl) rfl ?_
  refine r_end ?_
  refine W_whileE (L := Sh.mix_conflicts_L1 N p0 p1) h (fun v1 => mk [(3, .e (.one (.ptr 3 0))), (5, .e (.one (.own 2001))), (15, .e (.one (.pure (.sl (p0.fTables.map eApiTable))))), (16, .e (.one (.pure (.val (.int .i64 ((p0.fTables.length : Int))))))), (17, .e (.one (.pure (.val (.int .i64 v1.2)))))] [(3, .box [.pure (.sl (p1.fBase.map eI64)), .pure (.sl (p1.fNext.map eI64)), .pure (.sl (p1.fHeld.map eU8))]), (2001, .vec 3 (v1.1.map eApiConflict))]) (fun v2 => mk [(5, .e (.one (.own 2002)))] [(2002, .vec 3 (v2.map eApiConflict))]) (fun _ _ => rfl) ((sees_adopt 5 2013 3 rfl rfl).trans (sees_mk (rn [(2001, 2013)]) _ _ ⟨rfl, rfl, rfl, rfl, rfl, trivial⟩ ⟨rfl, rfl, trivial⟩ rfl rfl)) (fun j1 n1 v1 h => ?_) (fun v2 s h hs => ?_)
  · unfold Sh.mix_conflicts_L1 at h
    refine W_seq ?_
    refine W_region mixed rfl ?_
    refine r_bin (.p rfl) rfl rfl (bin_lss _ _ _ _ _ _) rfl ?_
    refine r_end ?_
    refine W_seq ?_
    refine W_cond rfl (fun c3 => ?_) (fun c3 => ?_)
    · have h := cnd_t c3 h
      refine W_skip ?_
      refine W_seq ?_
      refine W_block ?_
      refine W_seq ?_
      refine W_region mixed rfl ?_
      refine r_move (.p rfl) rfl ?_
      obtain ⟨v4, a4, b4, h⟩ := idx_bind h
      refine r_index (.p rfl) rfl rfl slc29 sz61 a4 (map_get b4) rfl ?_
      refine r_loadrN (.p rfl) rfl ag61 sz61 rfl rfl ?_
      refine r_alloc (.p rfl) zv61 rfl rfl rfl ?_
      refine r_assign (.p rfl) rfl ?_
      refine r_store rfl rfl rfl rfl sz61 rfl (leb rfl) rfl ?_
      refine r_end ?_
      refine W_seq ?_
      refine W_region mixed rfl ?_
      refine r_loadN (.p rfl) rfl ag37 sz37 rfl rfl rfl ?_
      refine r_fieldAddr (.p rfl) rfl fld61_1 ?_
      refine r_load1 (.p rfl) rfl ag3 rfl rfl ?_
      obtain ⟨v5, a5, h⟩ := bind_some h
      refine r_call (ds0 := [_, _]) [] (mix_running_c N p1 v4.fFrom v5 a5) (.p rfl) gd54 rfl ⟨rfl, rfl, trivial⟩ rfl rfl rfl (nodupB_spec rfl) trivial rfl ?_
      refine r_loadN (.p rfl) rfl ag37 sz37 rfl rfl rfl ?_
      refine r_fieldAddr (.p rfl) rfl fld61_2 ?_
      refine r_load1 (.p rfl) rfl ag3 rfl rfl ?_
      obtain ⟨v6, a6, h⟩ := bind_some h
      refine r_call (ds0 := [_, _]) [] (mix_running_c N p1 v4.fTo v6 a6) (.p rfl) gd54 rfl ⟨rfl, rfl, trivial⟩ rfl rfl rfl (nodupB_spec rfl) trivial rfl ?_
      refine r_assign (.p rfl) rfl ?_
      refine r_assign (.p rfl) rfl ?_
      refine r_endD (by kernel_rfl) ?_
      refine W_join h (fun v7 => mk [(3, .e (.one (.ptr 3 0))), (5, .e (.one (.own 2003))), (6, .e (.one (.pure (.val (.int .i64 v1.2))))), (7, .e (.one (.ptr 7 0))), (8, .e (.one (.pure (.val (.int .u8 v7))))), (9, .e (.one (.pure (.val (.int .u8 v6))))), (15, .e (.one (.pure (.sl (p0.fTables.map eApiTable))))), (16, .e (.one (.pure (.val (.int .i64 ((p0.fTables.length : Int))))))), (17, .e (.one (.pure (.val (.int .i64 v1.2)))))] [(3, .box [.pure (.sl (p1.fBase.map eI64)), .pure (.sl (p1.fNext.map eI64)), .pure (.sl (p1.fHeld.map eU8))]), (7, .box [.pure (.val (.int .i64 v4.fKind)), .pure (.val (.int .i64 v4.fFrom)), .pure (.val (.int .i64 v4.fTo)), .pure (.val (.bool v4.fAware)), .pure (.sl (v4.fOK.map (eSl eB))), .pure (.sl (v4.fRewrite.map (eSl eB)))]), (2003, .vec 3 (v1.1.map eApiConflict))]) (fun j7 h => ?_) (fun v7 h => ?_)
      · refine W_seq ?_
        refine W_region mixed rfl ?_
        refine r_loadN (.p rfl) rfl ag61 sz61 rfl rfl rfl ?_
        obtain ⟨v8, a8, h⟩ := bind_some h
        refine r_call (ds0 := [_]) [] (mix_stored_c N v4 v8 a8) (.p rfl) gd53 rfl ⟨rfl, trivial⟩ rfl rfl rfl (nodupB_spec rfl) trivial rfl ?_
        refine r_end ?_
        refine W_cond rfl (fun c9 => ?_) (fun c9 => ?_)
        · have h := cnd_t c9 h
          refine W_region mixed rfl ?_
          refine r_fieldAddr (.p rfl) rfl fld37_2 ?_
          refine r_load1 (.p rfl) rfl ag35 rfl rfl ?_
          refine r_move (.p rfl) rfl ?_
          obtain ⟨v10, a10, b10, h⟩ := idx_bind h
          refine r_index (.p rfl) rfl rfl slc35 sz80 a10 (map_get b10) rfl ?_
          refine r_loadr1 (.p rfl) rfl ag80 rfl ?_
          refine r_assign (.p rfl) rfl ?_
          refine r_end ?_
          exact sink v10 h (sees_mk (rn [(2003, 2001)]) _ _ ⟨rfl, rfl, rfl, rfl, rfl, rfl, rfl, rfl, rfl, trivial⟩ ⟨rfl, rfl, rfl, trivial⟩ rfl rfl)
        · have h := cnd_f c9 h
          refine W_skip ?_
          exact sink v5 h (sees_mk (rn [(2003, 2001)]) _ _ ⟨rfl, rfl, rfl, rfl, rfl, rfl, rfl, rfl, rfl, trivial⟩ ⟨rfl, rfl, rfl, trivial⟩ rfl rfl)
      · refine W_seq ?_
        refine W_region mixed rfl ?_
        refine r_fieldAddr (.p rfl) rfl fld61_4 ?_
        refine r_load1 (.p rfl) rfl ag59 rfl rfl ?_
        refine r_len (.p rfl) rfl (.sl _) trivial (List.length_map _) slc59 ?_
        refine r_move (.p rfl) rfl ?_
        refine r_end ?_
        refine W_whileE (L := Sh.mix_conflicts_L11 N v1 v4 v6 v7) h (fun v11 => mk [(3, .e (.one (.ptr 3 0))), (5, .e (.one (.own 2004))), (6, .e (.one (.pure (.val (.int .i64 v1.2))))), (7, .e (.one (.ptr 7 0))), (8, .e (.one (.pure (.val (.int .u8 v7))))), (9, .e (.one (.pure (.val (.int .u8 v6))))), (15, .e (.one (.pure (.sl (p0.fTables.map eApiTable))))), (16, .e (.one (.pure (.val (.int .i64 ((p0.fTables.length : Int))))))), (17, .e (.one (.pure (.val (.int .i64 v1.2))))), (39, .e (.one (.pure (.val (.int .i64 ((v4.fOK.length : Int))))))), (40, .e (.one (.pure (.val (.int .i64 v11.2)))))] [(3, .box [.pure (.sl (p1.fBase.map eI64)), .pure (.sl (p1.fNext.map eI64)), .pure (.sl (p1.fHeld.map eU8))]), (7, .box [.pure (.val (.int .i64 v4.fKind)), .pure (.val (.int .i64 v4.fFrom)), .pure (.val (.int .i64 v4.fTo)), .pure (.val (.bool v4.fAware)), .pure (.sl (v4.fOK.map (eSl eB))), .pure (.sl (v4.fRewrite.map (eSl eB)))]), (2004, .vec 3 (v11.1.map eApiConflict))]) (fun v12 => mk [(3, .e (.one (.ptr 3 0))), (5, .e (.one (.own 2005))), (15, .e (.one (.pure (.sl (p0.fTables.map eApiTable))))), (16, .e (.one (.pure (.val (.int .i64 ((p0.fTables.length : Int))))))), (17, .e (.one (.pure (.val (.int .i64 v1.2)))))] [(3, .box [.pure (.sl (p1.fBase.map eI64)), .pure (.sl (p1.fNext.map eI64)), .pure (.sl (p1.fHeld.map eU8))]), (2005, .vec 3 (v12.map eApiConflict))]) (fun _ _ => rfl) (sees_mk (rn [(2004, 2003)]) _ _ ⟨rfl, rfl, rfl, rfl, rfl, rfl, rfl, rfl, rfl, rfl, rfl, trivial⟩ ⟨rfl, rfl, rfl, trivial⟩ rfl rfl) (fun j11 n11 v11 h => ?_) (fun v12 s h hs => ?_)
        · unfold Sh.mix_conflicts_L11 at h
          refine W_seq ?_
          refine W_region mixed rfl ?_
          refine r_bin (.p rfl) rfl rfl (bin_lss _ _ _ _ _ _) rfl ?_
          refine r_end ?_
          refine W_seq ?_
          refine W_cond rfl (fun c13 => ?_) (fun c13 => ?_)
          · have h := cnd_t c13 h
            refine W_skip ?_
            refine W_join h (fun v14 => mk [(3, .e (.one (.ptr 3 0))), (5, .e (.one (.own 2006))), (6, .e (.one (.pure (.val (.int .i64 v1.2))))), (7, .e (.one (.ptr 7 0))), (8, .e (.one (.pure (.val (.int .u8 v7))))), (9, .e (.one (.pure (.val (.int .u8 v6))))), (15, .e (.one (.pure (.sl (p0.fTables.map eApiTable))))), (16, .e (.one (.pure (.val (.int .i64 ((p0.fTables.length : Int))))))), (17, .e (.one (.pure (.val (.int .i64 v1.2))))), (39, .e (.one (.pure (.val (.int .i64 ((v4.fOK.length : Int))))))), (40, .e (.one (.pure (.val (.int .i64 v11.2)))))] [(3, .box [.pure (.sl (p1.fBase.map eI64)), .pure (.sl (p1.fNext.map eI64)), .pure (.sl (p1.fHeld.map eU8))]), (7, .box [.pure (.val (.int .i64 v4.fKind)), .pure (.val (.int .i64 v4.fFrom)), .pure (.val (.int .i64 v4.fTo)), .pure (.val (.bool v4.fAware)), .pure (.sl (v4.fOK.map (eSl eB))), .pure (.sl (v4.fRewrite.map (eSl eB)))]), (2006, .vec 3 (v14.map eApiConflict))]) (fun j14 h => ?_) (fun v14 h => ?_)
            · refine W_block ?_
              refine W_seq ?_
              refine W_region mixed rfl ?_
              refine r_move (.p rfl) rfl ?_
              refine r_assign (.p rfl) rfl ?_
              refine r_end ?_
              refine W_seq ?_
              refine W_seq ?_
              refine W_region mixed rfl ?_
              refine r_move (.p rfl) rfl ?_
              refine r_move (.p rfl) rfl ?_
              obtain ⟨c15, h⟩ := chk_bind h
              refine r_bin (.p rfl) rfl rfl (bin_shr _ _ _ _ _ _ _ c15) rfl ?_
              refine r_bin (.p rfl) rfl rfl (bin_and _ _ _ _ _ _) rfl ?_
              refine r_bin (.p rfl) rfl rfl (bin_eql _ _ _ _ _ _) rfl ?_
              refine r_end ?_
              refine W_cond rfl (fun c16 => ?_) (fun c16 => ?_)
              · have h := cnd_t c16 h
                refine W_exit ?_
                exact sink v11.1 h (sees_mk (rn [(2006, 2004)]) _ _ ⟨rfl, rfl, rfl, rfl, rfl, rfl, rfl, rfl, rfl, rfl, rfl, trivial⟩ ⟨rfl, rfl, rfl, trivial⟩ rfl rfl)
              · have h := cnd_f c16 h
                refine W_skip ?_
                refine W_seq ?_
                refine W_region mixed rfl ?_
                refine r_assign (.p rfl) rfl ?_
                refine r_end ?_
                refine W_seq ?_
                refine W_seq ?_
                refine W_region mixed rfl ?_
                refine r_fieldAddr (.p rfl) rfl fld61_4 ?_
                refine r_load1 (.p rfl) rfl ag59 rfl rfl ?_
                refine r_move (.p rfl) rfl ?_
                obtain ⟨v17, a17, b17, h⟩ := idx_bind h
                refine r_index (.p rfl) rfl rfl slc59 sz65 a17 (map_get b17) rfl ?_
                refine r_loadr1 (.p rfl) rfl ag65 rfl ?_
                refine r_len (.p rfl) rfl (.sl _) trivial (List.length_map _) slc65 ?_
                refine r_move (.p rfl) rfl ?_
                refine r_end ?_
                refine W_whileE (L := Sh.mix_conflicts_L18 N v1 v4 v6 v11 v17) h (fun v18 => mk [(3, .e (.one (.ptr 3 0))), (5, .e (.one (.own 2007))), (6, .e (.one (.pure (.val (.int .i64 v1.2))))), (7, .e (.one (.ptr 7 0))), (8, .e (.one (.pure (.val (.int .u8 v7))))), (9, .e (.one (.pure (.val (.int .u8 v6))))), (10, .e (.one (.pure (.val (.int .i64 v11.2))))), (11, .e (.one (.pure (.val (.bool v18.2.1))))), (15, .e (.one (.pure (.sl (p0.fTables.map eApiTable))))), (16, .e (.one (.pure (.val (.int .i64 ((p0.fTables.length : Int))))))), (17, .e (.one (.pure (.val (.int .i64 v1.2))))), (39, .e (.one (.pure (.val (.int .i64 ((v4.fOK.length : Int))))))), (40, .e (.one (.pure (.val (.int .i64 v11.2))))), (52, .e (.one (.pure (.sl (v17.map eB))))), (53, .e (.one (.pure (.val (.int .i64 ((v17.length : Int))))))), (54, .e (.one (.pure (.val (.int .i64 v18.2.2)))))] [(3, .box [.pure (.sl (p1.fBase.map eI64)), .pure (.sl (p1.fNext.map eI64)), .pure (.sl (p1.fHeld.map eU8))]), (7, .box [.pure (.val (.int .i64 v4.fKind)), .pure (.val (.int .i64 v4.fFrom)), .pure (.val (.int .i64 v4.fTo)), .pure (.val (.bool v4.fAware)), .pure (.sl (v4.fOK.map (eSl eB))), .pure (.sl (v4.fRewrite.map (eSl eB)))]), (2007, .vec 3 (v18.1.map eApiConflict))]) (fun v19 => mk [(3, .e (.one (.ptr 3 0))), (5, .e (.one (.own 2008))), (6, .e (.one (.pure (.val (.int .i64 v1.2))))), (7, .e (.one (.ptr 7 0))), (8, .e (.one (.pure (.val (.int .u8 v7))))), (9, .e (.one (.pure (.val (.int .u8 v6))))), (10, .e (.one (.pure (.val (.int .i64 v11.2))))), (11, .e (.one (.pure (.val (.bool v19.2))))), (15, .e (.one (.pure (.sl (p0.fTables.map eApiTable))))), (16, .e (.one (.pure (.val (.int .i64 ((p0.fTables.length : Int))))))), (17, .e (.one (.pure (.val (.int .i64 v1.2))))), (39, .e (.one (.pure (.val (.int .i64 ((v4.fOK.length : Int))))))), (40, .e (.one (.pure (.val (.int .i64 v11.2)))))] [(3, .box [.pure (.sl (p1.fBase.map eI64)), .pure (.sl (p1.fNext.map eI64)), .pure (.sl (p1.fHeld.map eU8))]), (7, .box [.pure (.val (.int .i64 v4.fKind)), .pure (.val (.int .i64 v4.fFrom)), .pure (.val (.int .i64 v4.fTo)), .pure (.val (.bool v4.fAware)), .pure (.sl (v4.fOK.map (eSl eB))), .pure (.sl (v4.fRewrite.map (eSl eB)))]), (2008, .vec 3 (v19.1.map eApiConflict))]) (fun _ _ => rfl) (sees_mk (rn [(2007, 2004)]) _ _ ⟨rfl, rfl, rfl, rfl, rfl, rfl, rfl, rfl, rfl, rfl, rfl, rfl, rfl, rfl, rfl, rfl, trivial⟩ ⟨rfl, rfl, rfl, trivial⟩ rfl rfl) (fun j18 n18 v18 h => ?_) (fun v19 s h hs => ?_)
                · unfold Sh.mix_conflicts_L18 at h
                  refine W_seq ?_
                  refine W_region mixed rfl ?_
                  refine r_bin (.p rfl) rfl rfl (bin_lss _ _ _ _ _ _) rfl ?_
                  refine r_end ?_
                  refine W_seq ?_
                  refine W_cond rfl (fun c20 => ?_) (fun c20 => ?_)
                  · have h := cnd_t c20 h
                    refine W_skip ?_
                    refine W_join h (fun v21 => mk [(3, .e (.one (.ptr 3 0))), (5, .e (.one (.own 2009))), (6, .e (.one (.pure (.val (.int .i64 v1.2))))), (7, .e (.one (.ptr 7 0))), (8, .e (.one (.pure (.val (.int .u8 v7))))), (9, .e (.one (.pure (.val (.int .u8 v6))))), (10, .e (.one (.pure (.val (.int .i64 v11.2))))), (11, .e (.one (.pure (.val (.bool v21.2))))), (15, .e (.one (.pure (.sl (p0.fTables.map eApiTable))))), (16, .e (.one (.pure (.val (.int .i64 ((p0.fTables.length : Int))))))), (17, .e (.one (.pure (.val (.int .i64 v1.2))))), (39, .e (.one (.pure (.val (.int .i64 ((v4.fOK.length : Int))))))), (40, .e (.one (.pure (.val (.int .i64 v11.2))))), (52, .e (.one (.pure (.sl (v17.map eB))))), (53, .e (.one (.pure (.val (.int .i64 ((v17.length : Int))))))), (54, .e (.one (.pure (.val (.int .i64 v18.2.2)))))] [(3, .box [.pure (.sl (p1.fBase.map eI64)), .pure (.sl (p1.fNext.map eI64)), .pure (.sl (p1.fHeld.map eU8))]), (7, .box [.pure (.val (.int .i64 v4.fKind)), .pure (.val (.int .i64 v4.fFrom)), .pure (.val (.int .i64 v4.fTo)), .pure (.val (.bool v4.fAware)), .pure (.sl (v4.fOK.map (eSl eB))), .pure (.sl (v4.fRewrite.map (eSl eB)))]), (2009, .vec 3 (v21.1.map eApiConflict))]) (fun j21 h => ?_) (fun v21 h => ?_)
                    · refine W_block ?_
                      refine W_seq ?_
                      refine W_region mixed rfl ?_
                      refine r_move (.p rfl) rfl ?_
                      obtain ⟨v22, a22, b22, h⟩ := idx_bind h
                      refine r_index (.p rfl) rfl rfl slc65 sz4 a22 (map_get b22) rfl ?_
                      refine r_loadr1 (.p rfl) rfl ag4 rfl ?_
                      refine r_assign (.p rfl) rfl ?_
                      refine r_assign (.p rfl) rfl ?_
                      refine r_end ?_
                      refine W_seq ?_
                      refine W_seq ?_
                      refine W_region mixed rfl ?_
                      refine r_move (.p rfl) rfl ?_
                      refine r_move (.p rfl) rfl ?_
                      obtain ⟨c23, h⟩ := chk_bind h
                      refine r_bin (.p rfl) rfl rfl (bin_shr _ _ _ _ _ _ _ c23) rfl ?_
                      refine r_bin (.p rfl) rfl rfl (bin_and _ _ _ _ _ _) rfl ?_
                      refine r_bin (.p rfl) rfl rfl (bin_eql _ _ _ _ _ _) rfl ?_
                      refine r_end ?_
                      refine W_cond rfl (fun c24 => ?_) (fun c24 => ?_)
                      · have h := cnd_t c24 h
                        refine W_exit ?_
                        exact sink (v18.1, v18.2.1) h (sees_mk (rn [(2009, 2007)]) _ _ ⟨rfl, rfl, rfl, rfl, rfl, rfl, rfl, rfl, rfl, rfl, rfl, rfl, rfl, rfl, rfl, rfl, trivial⟩ ⟨rfl, rfl, rfl, trivial⟩ rfl rfl)
                      · have h := cnd_f c24 h
                        refine W_skip ?_
                        refine W_join h (fun v25 => mk [(3, .e (.one (.ptr 3 0))), (5, .e (.one (.own 2010))), (6, .e (.one (.pure (.val (.int .i64 v1.2))))), (7, .e (.one (.ptr 7 0))), (8, .e (.one (.pure (.val (.int .u8 v7))))), (9, .e (.one (.pure (.val (.int .u8 v6))))), (10, .e (.one (.pure (.val (.int .i64 v11.2))))), (11, .e (.one (.pure (.val (.bool v25))))), (12, .e (.one (.pure (.val (.int .i64 v18.2.2))))), (13, .e (.one (.pure (.val (.bool v22))))), (15, .e (.one (.pure (.sl (p0.fTables.map eApiTable))))), (16, .e (.one (.pure (.val (.int .i64 ((p0.fTables.length : Int))))))), (17, .e (.one (.pure (.val (.int .i64 v1.2))))), (39, .e (.one (.pure (.val (.int .i64 ((v4.fOK.length : Int))))))), (40, .e (.one (.pure (.val (.int .i64 v11.2))))), (52, .e (.one (.pure (.sl (v17.map eB))))), (53, .e (.one (.pure (.val (.int .i64 ((v17.length : Int))))))), (54, .e (.one (.pure (.val (.int .i64 v18.2.2)))))] [(3, .box [.pure (.sl (p1.fBase.map eI64)), .pure (.sl (p1.fNext.map eI64)), .pure (.sl (p1.fHeld.map eU8))]), (7, .box [.pure (.val (.int .i64 v4.fKind)), .pure (.val (.int .i64 v4.fFrom)), .pure (.val (.int .i64 v4.fTo)), .pure (.val (.bool v4.fAware)), .pure (.sl (v4.fOK.map (eSl eB))), .pure (.sl (v4.fRewrite.map (eSl eB)))]), (2010, .vec 3 (v18.1.map eApiConflict))]) (fun j25 h => ?_) (fun v25 h => ?_)
                        · refine W_region mixed rfl ?_
                          refine r_move (.p rfl) rfl ?_
                          refine r_move (.p rfl) rfl ?_
                          refine r_split (t := 65) rfl (fun c26 => ?_) (fun c26 => ?_)
                          · have h := cnd_t c26 h
                            refine r_notB rfl rfl ?_
                            refine r_pick (.p rfl) rfl rfl rfl ?_
                            refine r_assign (.p rfl) rfl ?_
                            refine r_end ?_
                            exact sink true h (sees_mk (rn [(2010, 2007)]) _ _ ⟨rfl, rfl, rfl, rfl, rfl, rfl, rfl, rfl, rfl, rfl, rfl, rfl, rfl, rfl, rfl, rfl, rfl, rfl, trivial⟩ ⟨rfl, rfl, rfl, trivial⟩ rfl rfl)
                          · have h := cnd_f c26 h
                            refine r_move (.g rfl rfl) rfl ?_
                            refine r_pick (.p rfl) rfl rfl rfl ?_
                            refine r_assign (.p rfl) rfl ?_
                            refine r_end ?_
                            exact sink v22 h (sees_mk (rn [(2010, 2007)]) _ _ ⟨rfl, rfl, rfl, rfl, rfl, rfl, rfl, rfl, rfl, rfl, rfl, rfl, rfl, rfl, rfl, rfl, rfl, rfl, trivial⟩ ⟨rfl, rfl, rfl, trivial⟩ rfl rfl)
                        · refine W_join h (fun v27 => mk [(3, .e (.one (.ptr 3 0))), (5, .e (.one (.own 2011))), (6, .e (.one (.pure (.val (.int .i64 v1.2))))), (7, .e (.one (.ptr 7 0))), (8, .e (.one (.pure (.val (.int .u8 v7))))), (9, .e (.one (.pure (.val (.int .u8 v6))))), (10, .e (.one (.pure (.val (.int .i64 v11.2))))), (11, .e (.one (.pure (.val (.bool v25))))), (12, .e (.one (.pure (.val (.int .i64 v18.2.2))))), (15, .e (.one (.pure (.sl (p0.fTables.map eApiTable))))), (16, .e (.one (.pure (.val (.int .i64 ((p0.fTables.length : Int))))))), (17, .e (.one (.pure (.val (.int .i64 v1.2))))), (39, .e (.one (.pure (.val (.int .i64 ((v4.fOK.length : Int))))))), (40, .e (.one (.pure (.val (.int .i64 v11.2))))), (52, .e (.one (.pure (.sl (v17.map eB))))), (53, .e (.one (.pure (.val (.int .i64 ((v17.length : Int))))))), (54, .e (.one (.pure (.val (.int .i64 v18.2.2))))), (74, .e (.one (.pure (.val (.bool v27)))))] [(3, .box [.pure (.sl (p1.fBase.map eI64)), .pure (.sl (p1.fNext.map eI64)), .pure (.sl (p1.fHeld.map eU8))]), (7, .box [.pure (.val (.int .i64 v4.fKind)), .pure (.val (.int .i64 v4.fFrom)), .pure (.val (.int .i64 v4.fTo)), .pure (.val (.bool v4.fAware)), .pure (.sl (v4.fOK.map (eSl eB))), .pure (.sl (v4.fRewrite.map (eSl eB)))]), (2011, .vec 3 (v18.1.map eApiConflict))]) (fun j27 h => ?_) (fun v27 h => ?_)
                          · refine W_region mixed rfl ?_
                            refine r_move (.p rfl) rfl ?_
                            refine r_un (.p rfl) rfl (un_not _) rfl ?_
                            refine r_move (.p rfl) rfl ?_
                            refine r_split (t := 70) rfl (fun c28 => ?_) (fun c28 => ?_)
                            · have h := cnd_t c28 h
                              refine r_fieldAddr (.g rfl rfl) rfl fld61_3 ?_
                              refine r_load1 (.g rfl rfl) rfl ag4 rfl rfl ?_
                              refine r_un (.g rfl rfl) rfl (un_not _) rfl ?_
                              refine r_pick (.p rfl) rfl rfl rfl ?_
                              refine r_end ?_
                              exact sink (!v4.fAware) h (sees_mk (rn [(2011, 2010)]) _ _ ⟨rfl, rfl, rfl, rfl, rfl, rfl, rfl, rfl, rfl, rfl, rfl, rfl, rfl, rfl, rfl, rfl, rfl, rfl, trivial⟩ ⟨rfl, rfl, rfl, trivial⟩ rfl rfl)
                            · have h := cnd_f c28 h
                              refine r_notB rfl rfl ?_
                              refine r_notB rfl rfl ?_
                              refine r_notB rfl rfl ?_
                              refine r_pick (.p rfl) rfl rfl rfl ?_
                              refine r_end ?_
                              exact sink false h (sees_mk (rn [(2011, 2010)]) _ _ ⟨rfl, rfl, rfl, rfl, rfl, rfl, rfl, rfl, rfl, rfl, rfl, rfl, rfl, rfl, rfl, rfl, rfl, rfl, trivial⟩ ⟨rfl, rfl, rfl, trivial⟩ rfl rfl)
                          · refine W_cond rfl (fun c29 => ?_) (fun c29 => ?_)
                            · have h := cnd_t c29 h
                              refine W_region mixed rfl ?_
                              refine r_move (.p rfl) rfl ?_
                              refine r_move (.p rfl) rfl ?_
                              refine r_move (.p rfl) rfl ?_
                              refine r_move (.p rfl) rfl ?_
                              refine r_build [(0, .tmp 76, _), (1, .tmp 77, _), (2, .tmp 78, _)] (.p rfl) rfl ⟨rfl, rfl, rfl, trivial⟩ zv52 rfl rfl pl52 rfl ?_
                              refine r_buildSlice [(0, .tmp 79, _)] (.p rfl) rfl ⟨rfl, trivial⟩ rfl slc39 sz52 zv52 rfl rfl (leb rfl) rfl rfl ?_
                              obtain ⟨c30, h⟩ := chk_bind h
                              refine r_append (.p rfl) rfl (.own _ _ _) ⟨rfl, trivial⟩ rfl (.own _ _ _) ⟨rfl, trivial⟩ rfl slc39 slc39 sz52 byt52 (leb rfl) zv52 rfl (len_lim (f := eApiConflict) (g := eApiConflict) (xs := v18.1) (ys := (([(ApiConflict.mk v1.2 v11.2 v18.2.2)] : List ApiConflict))) c30) (map_app eApiConflict v18.1 (([(ApiConflict.mk v1.2 v11.2 v18.2.2)] : List ApiConflict))) ?_
                              refine r_assign (.p rfl) rfl ?_
                              refine r_end ?_
                              exact sink (v18.1 ++ (([(ApiConflict.mk v1.2 v11.2 v18.2.2)] : List ApiConflict)), v25) h (sees_mk (rn [(2009, 81)]) _ _ ⟨rfl, rfl, rfl, rfl, rfl, rfl, rfl, rfl, rfl, rfl, rfl, rfl, rfl, rfl, rfl, rfl, trivial⟩ ⟨rfl, rfl, rfl, trivial⟩ rfl rfl)
                            · have h := cnd_f c29 h
                              refine W_skip ?_
                              exact sink (v18.1, v25) h (sees_mk (rn [(2009, 2011)]) _ _ ⟨rfl, rfl, rfl, rfl, rfl, rfl, rfl, rfl, rfl, rfl, rfl, rfl, rfl, rfl, rfl, rfl, trivial⟩ ⟨rfl, rfl, rfl, trivial⟩ rfl rfl)
                    · refine W_region mixed rfl ?_
                      refine r_bin (.p rfl) rfl rfl (bin_add _ _ _ _ _ _) rfl ?_
                      refine r_move (.p rfl) rfl ?_
                      refine r_end ?_
                      exact sink (v21.1, v21.2, (IntKind.wrap .i64 (v18.2.2 + 1))) h (sees_mk (rn [(2007, 2009)]) _ _ ⟨rfl, rfl, rfl, rfl, rfl, rfl, rfl, rfl, rfl, rfl, rfl, rfl, rfl, rfl, rfl, rfl, trivial⟩ ⟨rfl, rfl, rfl, trivial⟩ rfl rfl)
                  · have h := cnd_f c20 h
                    refine W_exit ?_
                    exact sink (v18.1, v18.2.1) h (sees_mk (rn [(2008, 2007)]) _ _ ⟨rfl, rfl, rfl, rfl, rfl, rfl, rfl, rfl, rfl, rfl, rfl, rfl, rfl, trivial⟩ ⟨rfl, rfl, rfl, trivial⟩ rfl rfl)
                · refine W_sees hs ?_
                  refine W_join h (fun v31 => mk [(3, .e (.one (.ptr 3 0))), (5, .e (.one (.own 2012))), (6, .e (.one (.pure (.val (.int .i64 v1.2))))), (7, .e (.one (.ptr 7 0))), (8, .e (.one (.pure (.val (.int .u8 v7))))), (9, .e (.one (.pure (.val (.int .u8 v6))))), (10, .e (.one (.pure (.val (.int .i64 v11.2))))), (15, .e (.one (.pure (.sl (p0.fTables.map eApiTable))))), (16, .e (.one (.pure (.val (.int .i64 ((p0.fTables.length : Int))))))), (17, .e (.one (.pure (.val (.int .i64 v1.2))))), (39, .e (.one (.pure (.val (.int .i64 ((v4.fOK.length : Int))))))), (40, .e (.one (.pure (.val (.int .i64 v11.2))))), (88, .e (.one (.pure (.val (.bool v31)))))] [(3, .box [.pure (.sl (p1.fBase.map eI64)), .pure (.sl (p1.fNext.map eI64)), .pure (.sl (p1.fHeld.map eU8))]), (7, .box [.pure (.val (.int .i64 v4.fKind)), .pure (.val (.int .i64 v4.fFrom)), .pure (.val (.int .i64 v4.fTo)), .pure (.val (.bool v4.fAware)), .pure (.sl (v4.fOK.map (eSl eB))), .pure (.sl (v4.fRewrite.map (eSl eB)))]), (2012, .vec 3 (v19.1.map eApiConflict))]) (fun j31 h => ?_) (fun v31 h => ?_)
                  · refine W_region mixed rfl ?_
                    refine r_fieldAddr (.p rfl) rfl fld61_3 ?_
                    refine r_load1 (.p rfl) rfl ag4 rfl rfl ?_
                    refine r_move (.p rfl) rfl ?_
                    refine r_split (t := 85) rfl (fun c32 => ?_) (fun c32 => ?_)
                    · have h := cnd_t c32 h
                      refine r_move (.g rfl rfl) rfl ?_
                      refine r_un (.g rfl rfl) rfl (un_not _) rfl ?_
                      refine r_pick (.p rfl) rfl rfl rfl ?_
                      refine r_end ?_
                      exact sink (!v19.2) h (sees_mk (rn [(2012, 2008)]) _ _ ⟨rfl, rfl, rfl, rfl, rfl, rfl, rfl, rfl, rfl, rfl, rfl, rfl, rfl, trivial⟩ ⟨rfl, rfl, rfl, trivial⟩ rfl rfl)
                    · have h := cnd_f c32 h
                      refine r_notB rfl rfl ?_
                      refine r_notB rfl rfl ?_
                      refine r_pick (.p rfl) rfl rfl rfl ?_
                      refine r_end ?_
                      exact sink false h (sees_mk (rn [(2012, 2008)]) _ _ ⟨rfl, rfl, rfl, rfl, rfl, rfl, rfl, rfl, rfl, rfl, rfl, rfl, rfl, trivial⟩ ⟨rfl, rfl, rfl, trivial⟩ rfl rfl)
                  · refine W_cond rfl (fun c33 => ?_) (fun c33 => ?_)
                    · have h := cnd_t c33 h
                      refine W_region mixed rfl ?_
                      refine r_move (.p rfl) rfl ?_
                      refine r_move (.p rfl) rfl ?_
                      refine r_move (.p rfl) rfl ?_
                      refine r_build [(0, .tmp 90, _), (1, .tmp 91, _), (2, .const (.int .i64 (-1)), _)] (.p rfl) rfl ⟨rfl, rfl, rfl, trivial⟩ zv52 rfl rfl pl52 rfl ?_
                      refine r_buildSlice [(0, .tmp 92, _)] (.p rfl) rfl ⟨rfl, trivial⟩ rfl slc39 sz52 zv52 rfl rfl (leb rfl) rfl rfl ?_
                      obtain ⟨c34, h⟩ := chk_bind h
                      refine r_append (.p rfl) rfl (.own _ _ _) ⟨rfl, trivial⟩ rfl (.own _ _ _) ⟨rfl, trivial⟩ rfl slc39 slc39 sz52 byt52 (leb rfl) zv52 rfl (len_lim (f := eApiConflict) (g := eApiConflict) (xs := v19.1) (ys := (([(ApiConflict.mk v1.2 v11.2 ((-1)))] : List ApiConflict))) c34) (map_app eApiConflict v19.1 (([(ApiConflict.mk v1.2 v11.2 ((-1)))] : List ApiConflict))) ?_
                      refine r_assign (.p rfl) rfl ?_
                      refine r_end ?_
                      exact sink (v19.1 ++ (([(ApiConflict.mk v1.2 v11.2 ((-1)))] : List ApiConflict))) h (sees_mk (rn [(2006, 94)]) _ _ ⟨rfl, rfl, rfl, rfl, rfl, rfl, rfl, rfl, rfl, rfl, rfl, trivial⟩ ⟨rfl, rfl, rfl, trivial⟩ rfl rfl)
                    · have h := cnd_f c33 h
                      refine W_skip ?_
                      exact sink v19.1 h (sees_mk (rn [(2006, 2012)]) _ _ ⟨rfl, rfl, rfl, rfl, rfl, rfl, rfl, rfl, rfl, rfl, rfl, trivial⟩ ⟨rfl, rfl, rfl, trivial⟩ rfl rfl)
            · refine W_region mixed rfl ?_
              refine r_bin (.p rfl) rfl rfl (bin_add _ _ _ _ _ _) rfl ?_
              refine r_move (.p rfl) rfl ?_
              refine r_end ?_
              exact sink (v14, (IntKind.wrap .i64 (v11.2 + 1))) h (sees_mk (rn [(2004, 2006)]) _ _ ⟨rfl, rfl, rfl, rfl, rfl, rfl, rfl, rfl, rfl, rfl, rfl, trivial⟩ ⟨rfl, rfl, rfl, trivial⟩ rfl rfl)
          · have h := cnd_f c13 h
            refine W_exit ?_
            exact sink v11.1 h (sees_mk (rn [(2005, 2004)]) _ _ ⟨rfl, rfl, rfl, rfl, rfl, trivial⟩ ⟨rfl, rfl, trivial⟩ rfl rfl)
        · refine W_sees hs ?_
          refine W_region mixed rfl ?_
          refine r_bin (.p rfl) rfl rfl (bin_add _ _ _ _ _ _) rfl ?_
          refine r_move (.p rfl) rfl ?_
          refine r_end ?_
          exact sink (v12, (IntKind.wrap .i64 (v1.2 + 1))) h (sees_mk (rn [(2001, 2005)]) _ _ ⟨rfl, rfl, rfl, rfl, rfl, trivial⟩ ⟨rfl, rfl, trivial⟩ rfl rfl)
    · have h := cnd_f c3 h
      refine W_exit ?_
      exact sink v1.1 h (sees_mk (rn [(2002, 2001)]) _ _ ⟨rfl, trivial⟩ ⟨rfl, trivial⟩ rfl rfl)
  · refine W_sees hs ?_
    refine W_seq ?_
    refine W_region mixed rfl ?_
    refine r_move (.p rfl) rfl ?_
    refine r_assign (.p rfl) rfl ?_
    refine r_end ?_
    obtain rfl := Option.some.inj h
    refine W_sees (sees_mk (rn [(1000, 2002)]) [(4, .e (.one (.own 1000)))] [(1000, .vec 3 (v2.map eApiConflict))] ⟨rfl, trivial⟩ ⟨rfl, trivial⟩ rfl rfl) (W_ret ?_)
    exact ⟨⟨[_], ⟨.tmp _ _ rfl, trivial⟩, rfl⟩, ⟨rfl, trivial⟩⟩

set_option maxRecDepth 10000 in
theorem mix_Conflicts_c (N : Nat) (p0 : ApiProblem) (p1 : ApiMix) (r : (List ApiConflict) × Int) (h : Sh.mix_Conflicts N p0 p1 = some r) : Contract Try.prog 14 [.e (.agg [.pure (.sl (p0.fVersions.map eI64)), .pure (.sl (p0.fNow.map eI64)), .pure (.sl (p0.fTarget.map eI64)), .pure (.sl (p0.fTables.map eApiTable))]), .e (.agg [.pure (.sl (p1.fBase.map eI64)), .pure (.sl (p1.fNext.map eI64)), .pure (.sl (p1.fHeld.map eU8))])] [(3, r.1.map eApiConflict)] (.tup [.one (.own 0), .one (.pure (.val (.int .i64 r.2)))]) := by
  unfold Sh.mix_Conflicts at h
  refine contract_of_W (n := 16) (rs := [.tmp 4, .tmp 5]) Try.func14 rfl rfl rfl (leb rfl) rfl fun w0 S0 => ?_
  refine W_seq ?_
  refine W_region mixed rfl ?_
  refine r_box (.p rfl) rfl rfl ?_
  refine r_box (.p rfl) rfl rfl ?_
  refine r_assign (.p rfl) rfl ?_
  refine r_assign (.p rfl) rfl ?_
  refine r_end ?_
  refine W_seq ?_
  refine W_seq ?_
  refine W_region mixed rfl ?_
  refine r_loadN (.p rfl) rfl ag31 sz31 rfl rfl rfl ?_
  refine r_loadN (.p rfl) rfl ag37 sz37 rfl rfl rfl ?_
  obtain ⟨v1, a1, h⟩ := bind_some h
  refine r_call (ds0 := [_, _]) [] (mix_Valid_c N p0 p1 v1 a1) (.p rfl) gd30 rfl ⟨rfl, rfl, trivial⟩ rfl rfl rfl (nodupB_spec rfl) trivial rfl ?_
  refine r_assign (.p rfl) rfl ?_
  refine r_end ?_
  refine W_seq ?_
  refine W_region mixed rfl ?_
  refine r_move (.p rfl) rfl ?_
  refine r_bin (.p rfl) rfl rfl (bin_neq _ _ _ _ _ _) rfl ?_
  refine r_end ?_
  refine W_cond rfl (fun c2 => ?_) (fun c2 => ?_)
  · have h := cnd_t c2 h
    refine W_seq ?_
    refine W_region mixed rfl ?_
    refine r_move (.p rfl) rfl ?_
    refine r_assign (.p rfl) rfl ?_
    refine r_assign (.p rfl) rfl ?_
    refine r_end ?_
    obtain rfl := Option.some.inj h
    refine W_sees ((sees_adopt 4 2001 3 rfl rfl).trans (sees_mk (rn [(1000, 2001)]) [(4, .e (.one (.own 1000))), (5, .e (.one (.pure (.val (.int .i64 v1)))))] [(1000, .vec 3 ((([] : List ApiConflict)).map eApiConflict))] ⟨rfl, rfl, trivial⟩ ⟨rfl, trivial⟩ rfl rfl)) (W_ret ?_)
    exact ⟨⟨[_, _], ⟨.tmp _ _ rfl, ⟨.tmp _ _ rfl, trivial⟩⟩, rfl⟩, ⟨rfl, trivial⟩⟩
  · have h := cnd_f c2 h
    refine W_skip ?_
    refine W_seq ?_
    refine W_region mixed rfl ?_
    refine r_loadN (.p rfl) rfl ag31 sz31 rfl rfl rfl ?_
    refine r_loadN (.p rfl) rfl ag37 sz37 rfl rfl rfl ?_
    obtain ⟨v3, a3, h⟩ := bind_some h
    refine r_call (ds0 := [_, _]) [2002] (mix_conflicts_c N p0 p1 v3 a3) (.p rfl) gd43 rfl ⟨rfl, rfl, trivial⟩ rfl rfl rfl (nodupB_spec rfl) ⟨rfl, trivial⟩ rfl ?_
    refine r_assign (.p rfl) rfl ?_
    refine r_assign (.p rfl) rfl ?_
    refine r_end ?_
    obtain rfl := Option.some.inj h
    refine W_sees (sees_mk (rn [(1000, 2002)]) [(4, .e (.one (.own 1000))), (5, .e (.one (.pure (.val (.int .i64 0)))))] [(1000, .vec 3 (v3.map eApiConflict))] ⟨rfl, rfl, trivial⟩ ⟨rfl, trivial⟩ rfl rfl) (W_ret ?_)
    exact ⟨⟨[_, _], ⟨.tmp _ _ rfl, ⟨.tmp _ _ rfl, trivial⟩⟩, rfl⟩, ⟨rfl, trivial⟩⟩

set_option maxRecDepth 10000 in
theorem mix_Safe_c (N : Nat) (p0 : ApiProblem) (p1 : ApiMix) (r : Bool × Int) (h : Sh.mix_Safe N p0 p1 = some r) : Contract Try.prog 15 [.e (.agg [.pure (.sl (p0.fVersions.map eI64)), .pure (.sl (p0.fNow.map eI64)), .pure (.sl (p0.fTarget.map eI64)), .pure (.sl (p0.fTables.map eApiTable))]), .e (.agg [.pure (.sl (p1.fBase.map eI64)), .pure (.sl (p1.fNext.map eI64)), .pure (.sl (p1.fHeld.map eU8))])] [] (.tup [.one (.pure (.val (.bool r.1))), .one (.pure (.val (.int .i64 r.2)))]) := by
  unfold Sh.mix_Safe at h
  refine contract_of_W (n := 22) (rs := [.tmp 4, .tmp 5]) Try.func15 rfl rfl rfl (leb rfl) rfl fun w0 S0 => ?_
  refine W_seq ?_
  refine W_region mixed rfl ?_
  refine r_box (.p rfl) rfl rfl ?_
  refine r_box (.p rfl) rfl rfl ?_
  refine r_assign (.p rfl) rfl ?_
  refine r_assign (.p rfl) rfl ?_
  refine r_end ?_
  refine W_seq ?_
  refine W_region mixed rfl ?_
  refine r_loadN (.p rfl) rfl ag31 sz31 rfl rfl rfl ?_
  refine r_loadN (.p rfl) rfl ag37 sz37 rfl rfl rfl ?_
  obtain ⟨v1, a1, h⟩ := bind_some h
  refine r_call (ds0 := [_, _]) [2001] (mix_Conflicts_c N p0 p1 v1 a1) (.p rfl) gd14 rfl ⟨rfl, rfl, trivial⟩ rfl rfl rfl (nodupB_spec rfl) ⟨rfl, trivial⟩ rfl ?_
  refine r_move (.p rfl) rfl ?_
  refine r_extract (.p rfl) rfl rfl ?_
  refine r_extract (.p rfl) rfl rfl ?_
  refine r_assign (.p rfl) rfl ?_
  refine r_assign (.p rfl) rfl ?_
  refine r_end ?_
  refine W_join h (fun v2 => mk [(4, .e (.one (.pure (.val (.bool v2))))), (5, .e (.one (.pure (.val (.int .i64 v1.2)))))] []) (fun j2 h => ?_) (fun v2 h => ?_)
  · refine W_region mixed rfl ?_
    refine r_move (.p rfl) rfl ?_
    refine r_bin (.p rfl) rfl rfl (bin_eql _ _ _ _ _ _) rfl ?_
    refine r_move (.p rfl) rfl ?_
    refine r_split (t := 16) rfl (fun c3 => ?_) (fun c3 => ?_)
    · have h := cnd_t c3 h
      refine r_move (.g rfl rfl) rfl ?_
      refine r_len (.g rfl rfl) rfl (.own _ _ _) ⟨rfl, trivial⟩ (List.length_map _) slc39 ?_
      refine r_bin (.g rfl rfl) rfl rfl (bin_eql _ _ _ _ _ _) rfl ?_
      refine r_pick (.p rfl) rfl rfl rfl ?_
      refine r_move (.p rfl) rfl ?_
      refine r_assign (.p rfl) rfl ?_
      refine r_assign (.p rfl) rfl ?_
      refine r_end ?_
      exact sink ((v1.1.length : Int) == 0) h (sees_mk (rn []) _ _ ⟨rfl, rfl, trivial⟩ trivial rfl rfl)
    · have h := cnd_f c3 h
      refine r_notB rfl rfl ?_
      refine r_notB rfl rfl ?_
      refine r_notB rfl rfl ?_
      refine r_pick (.p rfl) rfl rfl rfl ?_
      refine r_move (.p rfl) rfl ?_
      refine r_assign (.p rfl) rfl ?_
      refine r_assign (.p rfl) rfl ?_
      refine r_end ?_
      exact sink false h (sees_mk (rn []) _ _ ⟨rfl, rfl, trivial⟩ trivial rfl rfl)
  · obtain rfl := Option.some.inj h
    refine W_sees (sees_mk (rn []) [(4, .e (.one (.pure (.val (.bool v2))))), (5, .e (.one (.pure (.val (.int .i64 v1.2)))))] [] ⟨rfl, rfl, trivial⟩ trivial rfl rfl) (W_ret ?_)
    exact ⟨⟨[_, _], ⟨.tmp _ _ rfl, ⟨.tmp _ _ rfl, trivial⟩⟩, rfl⟩, trivial⟩

set_option maxRecDepth 10000 in
theorem slices_Clone_int_int_c (N : Nat) (p0 : List Int) (r : (List Int)) (h : Sh.slices_Clone_int_int N p0 = some r) : Contract Try.prog 45 [.e (.one (.pure (.sl (p0.map eI64))))] [(1, r.map eI64)] (.e (.one (.own 0))) := by
  unfold Sh.slices_Clone_int_int at h
  refine contract_of_W (n := 8) (rs := [.tmp 2]) Try.func45 rfl rfl rfl (leb rfl) rfl fun w0 S0 => ?_
  refine W_seq ?_
  refine W_region mixed rfl ?_
  refine r_assign (.p rfl) rfl ?_
  refine r_end ?_
  refine W_seq ?_
  refine W_seq ?_
  refine W_region mixed rfl ?_
  refine r_move (.p rfl) rfl ?_
  refine r_eqNil (.p rfl) rfl slc28 ?_
  refine r_end ?_
  refine W_condN rfl (fun c2 => ?_) ?_
  · have c2 := List.map_eq_nil_iff.1 c2
    rw [c2] at h
    have h : (some (([] : List Int))) = some r := h
    refine W_seq ?_
    refine W_region mixed rfl ?_
    refine r_assign (.p rfl) rfl ?_
    refine r_end ?_
    obtain rfl := Option.some.inj h
    refine W_sees ((sees_adopt 2 2001 1 rfl rfl).trans (sees_mk (rn [(1000, 2001)]) [(2, .e (.one (.own 1000)))] [(1000, .vec 1 ((([] : List Int)).map eI64))] ⟨rfl, trivial⟩ ⟨rfl, trivial⟩ rfl rfl)) (W_ret ?_)
    exact ⟨⟨[_], ⟨.tmp _ _ rfl, trivial⟩, rfl⟩, ⟨rfl, trivial⟩⟩
  · refine W_skip ?_
    refine W_seq ?_
    refine W_region mixed rfl ?_
    refine r_buildSlice [] (.p rfl) rfl trivial rfl slc28 sz3 zv3 rfl rfl (leb rfl) rfl rfl ?_
    refine r_move (.p rfl) rfl ?_
    obtain ⟨c1, h⟩ := chk_bind h
    refine r_append (.p rfl) rfl (.own _ _ _) ⟨rfl, trivial⟩ rfl (.sl _ _ (map_rows (f := eI64) (n := 1) (fun _ => rfl) _)) trivial rfl slc28 slc28 sz3 byt3 (leb rfl) zv3 rfl (len_lim (f := eI64) (g := eI64) (xs := (([] : List Int))) (ys := p0) c1) (map_app eI64 (([] : List Int)) p0) ?_
    refine r_assign (.p rfl) rfl ?_
    refine r_end ?_
    obtain rfl := Option.some.inj h
    refine W_sees (sees_mk (rn [(1000, 7)]) [(2, .e (.one (.own 1000)))] [(1000, .vec 1 (((([] : List Int)) ++ p0).map eI64))] ⟨rfl, trivial⟩ ⟨rfl, trivial⟩ rfl rfl) (W_ret ?_)
    exact ⟨⟨[_], ⟨.tmp _ _ rfl, trivial⟩, rfl⟩, ⟨rfl, trivial⟩⟩

set_option maxRecDepth 10000 in
theorem slices_Clone_api_Set_api_Set_c (N : Nat) (p0 : List Int) (r : (List Int)) (h : Sh.slices_Clone_api_Set_api_Set N p0 = some r) : Contract Try.prog 46 [.e (.one (.pure (.sl (p0.map eU8))))] [(1, r.map eU8)] (.e (.one (.own 0))) := by
  unfold Sh.slices_Clone_api_Set_api_Set at h
  refine contract_of_W (n := 8) (rs := [.tmp 2]) Try.func46 rfl rfl rfl (leb rfl) rfl fun w0 S0 => ?_
  refine W_seq ?_
  refine W_region mixed rfl ?_
  refine r_assign (.p rfl) rfl ?_
  refine r_end ?_
  refine W_seq ?_
  refine W_seq ?_
  refine W_region mixed rfl ?_
  refine r_move (.p rfl) rfl ?_
  refine r_eqNil (.p rfl) rfl slc35 ?_
  refine r_end ?_
  refine W_condN rfl (fun c2 => ?_) ?_
  · have c2 := List.map_eq_nil_iff.1 c2
    rw [c2] at h
    have h : (some (([] : List Int))) = some r := h
    refine W_seq ?_
    refine W_region mixed rfl ?_
    refine r_assign (.p rfl) rfl ?_
    refine r_end ?_
    obtain rfl := Option.some.inj h
    refine W_sees ((sees_adopt 2 2001 1 rfl rfl).trans (sees_mk (rn [(1000, 2001)]) [(2, .e (.one (.own 1000)))] [(1000, .vec 1 ((([] : List Int)).map eU8))] ⟨rfl, trivial⟩ ⟨rfl, trivial⟩ rfl rfl)) (W_ret ?_)
    exact ⟨⟨[_], ⟨.tmp _ _ rfl, trivial⟩, rfl⟩, ⟨rfl, trivial⟩⟩
  · refine W_skip ?_
    refine W_seq ?_
    refine W_region mixed rfl ?_
    refine r_buildSlice [] (.p rfl) rfl trivial rfl slc35 sz80 zv80 rfl rfl (leb rfl) rfl rfl ?_
    refine r_move (.p rfl) rfl ?_
    obtain ⟨c1, h⟩ := chk_bind h
    refine r_append (.p rfl) rfl (.own _ _ _) ⟨rfl, trivial⟩ rfl (.sl _ _ (map_rows (f := eU8) (n := 1) (fun _ => rfl) _)) trivial rfl slc35 slc35 sz80 byt80 (leb rfl) zv80 rfl (len_lim (f := eU8) (g := eU8) (xs := (([] : List Int))) (ys := p0) c1) (map_app eU8 (([] : List Int)) p0) ?_
    refine r_assign (.p rfl) rfl ?_
    refine r_end ?_
    obtain rfl := Option.some.inj h
    refine W_sees (sees_mk (rn [(1000, 7)]) [(2, .e (.one (.own 1000)))] [(1000, .vec 1 (((([] : List Int)) ++ p0).map eU8))] ⟨rfl, trivial⟩ ⟨rfl, trivial⟩ rfl rfl) (W_ret ?_)
    exact ⟨⟨[_], ⟨.tmp _ _ rfl, trivial⟩, rfl⟩, ⟨rfl, trivial⟩⟩

set_option maxRecDepth 10000 in
theorem mix_Aborts_c (N : Nat) (p0 : ApiProblem) (p1 : ApiMix) (r : (List ApiMix) × Int) (h : Sh.mix_Aborts N p0 p1 = some r) : Contract Try.prog 18 [.e (.agg [.pure (.sl (p0.fVersions.map eI64)), .pure (.sl (p0.fNow.map eI64)), .pure (.sl (p0.fTarget.map eI64)), .pure (.sl (p0.fTables.map eApiTable))]), .e (.agg [.pure (.sl (p1.fBase.map eI64)), .pure (.sl (p1.fNext.map eI64)), .pure (.sl (p1.fHeld.map eU8))])] [(3, r.1.map eApiMix)] (.tup [.one (.own 0), .one (.pure (.val (.int .i64 r.2)))]) := by
  unfold Sh.mix_Aborts at h
  refine contract_of_W (n := 75) (rs := [.tmp 4, .tmp 5]) Try.func18 rfl rfl rfl (leb rfl) rfl fun w0 S0 => ?_
  refine W_seq ?_
  refine W_region mixed rfl ?_
  refine r_box (.p rfl) rfl rfl ?_
  refine r_box (.p rfl) rfl rfl ?_
  refine r_assign (.p rfl) rfl ?_
  refine r_assign (.p rfl) rfl ?_
  refine r_end ?_
  refine W_seq ?_
  refine W_seq ?_
  refine W_region mixed rfl ?_
  refine r_loadN (.p rfl) rfl ag31 sz31 rfl rfl rfl ?_
  refine r_loadN (.p rfl) rfl ag37 sz37 rfl rfl rfl ?_
  obtain ⟨v1, a1, h⟩ := bind_some h
  refine r_call (ds0 := [_, _]) [] (mix_Valid_c N p0 p1 v1 a1) (.p rfl) gd30 rfl ⟨rfl, rfl, trivial⟩ rfl rfl rfl (nodupB_spec rfl) trivial rfl ?_
  refine r_assign (.p rfl) rfl ?_
  refine r_end ?_
  refine W_seq ?_
  refine W_region mixed rfl ?_
  refine r_move (.p rfl) rfl ?_
  refine r_bin (.p rfl) rfl rfl (bin_neq _ _ _ _ _ _) rfl ?_
  refine r_end ?_
  refine W_cond rfl (fun c2 => ?_) (fun c2 => ?_)
  · have h := cnd_t c2 h
    refine W_seq ?_
    refine W_region mixed rfl ?_
    refine r_move (.p rfl) rfl ?_
    refine r_assign (.p rfl) rfl ?_
    refine r_assign (.p rfl) rfl ?_
    refine r_end ?_
    obtain rfl := Option.some.inj h
    refine W_sees ((sees_adopt 4 2001 3 rfl rfl).trans (sees_mk (rn [(1000, 2001)]) [(4, .e (.one (.own 1000))), (5, .e (.one (.pure (.val (.int .i64 v1)))))] [(1000, .vec 3 ((([] : List ApiMix)).map eApiMix))] ⟨rfl, rfl, trivial⟩ ⟨rfl, trivial⟩ rfl rfl)) (W_ret ?_)
    exact ⟨⟨[_, _], ⟨.tmp _ _ rfl, ⟨.tmp _ _ rfl, trivial⟩⟩, rfl⟩, ⟨rfl, trivial⟩⟩
  · have h := cnd_f c2 h
    refine W_skip ?_
    refine W_seq ?_
    refine W_region mixed rfl ?_
    refine r_assign (.p rfl) rfl ?_
    refine r_end ?_
    refine W_seq ?_
    refine W_seq ?_
    refine W_region mixed rfl ?_
    refine r_fieldAddr (.p rfl) rfl fld37_1 ?_
    refine r_load1 (.p rfl) rfl ag28 rfl rfl ?_
    refine r_len (.p rfl) rfl (.sl _) trivial (List.length_map _) slc28 ?_
    refine r_move (.p rfl) rfl ?_
    refine r_end ?_
    refine W_whileE (L := Sh.mix_Aborts_L3 N p1) h (fun v3 => mk [(3, .e (.one (.ptr 3 0))), (7, .e (.one (.own 2002))), (22, .e (.one (.pure (.sl (p1.fNext.map eI64))))), (23, .e (.one (.pure (.val (.int .i64 ((p1.fNext.length : Int))))))), (24, .e (.one (.pure (.val (.int .i64 v3.2)))))] [(3, .box [.pure (.sl (p1.fBase.map eI64)), .pure (.sl (p1.fNext.map eI64)), .pure (.sl (p1.fHeld.map eU8))]), (2002, .vec 1 (v3.1.map eI64))]) (fun v4 => mk [(3, .e (.one (.ptr 3 0))), (7, .e (.one (.own 2003)))] [(3, .box [.pure (.sl (p1.fBase.map eI64)), .pure (.sl (p1.fNext.map eI64)), .pure (.sl (p1.fHeld.map eU8))]), (2003, .vec 1 (v4.map eI64))]) (fun _ _ => rfl) ((sees_adopt 7 2005 1 rfl rfl).trans (sees_mk (rn [(2002, 2005)]) _ _ ⟨rfl, rfl, rfl, rfl, rfl, trivial⟩ ⟨rfl, rfl, trivial⟩ rfl rfl)) (fun j3 n3 v3 h => ?_) (fun v4 s h hs => ?_)
    · unfold Sh.mix_Aborts_L3 at h
      refine W_seq ?_
      refine W_region mixed rfl ?_
      refine r_bin (.p rfl) rfl rfl (bin_lss _ _ _ _ _ _) rfl ?_
      refine r_end ?_
      refine W_seq ?_
      refine W_cond rfl (fun c5 => ?_) (fun c5 => ?_)
      · have h := cnd_t c5 h
        refine W_skip ?_
        refine W_join h (fun v6 => mk [(3, .e (.one (.ptr 3 0))), (7, .e (.one (.own 2004))), (22, .e (.one (.pure (.sl (p1.fNext.map eI64))))), (23, .e (.one (.pure (.val (.int .i64 ((p1.fNext.length : Int))))))), (24, .e (.one (.pure (.val (.int .i64 v3.2)))))] [(3, .box [.pure (.sl (p1.fBase.map eI64)), .pure (.sl (p1.fNext.map eI64)), .pure (.sl (p1.fHeld.map eU8))]), (2004, .vec 1 (v6.map eI64))]) (fun j6 h => ?_) (fun v6 h => ?_)
        · refine W_block ?_
          refine W_seq ?_
          refine W_region mixed rfl ?_
          refine r_move (.p rfl) rfl ?_
          obtain ⟨v7, a7, b7, h⟩ := idx_bind h
          refine r_index (.p rfl) rfl rfl slc28 sz3 a7 (map_get b7) rfl ?_
          refine r_loadr1 (.p rfl) rfl ag3 rfl ?_
          refine r_assign (.p rfl) rfl ?_
          refine r_assign (.p rfl) rfl ?_
          refine r_end ?_
          refine W_seq ?_
          refine W_region mixed rfl ?_
          refine r_move (.p rfl) rfl ?_
          refine r_bin (.p rfl) rfl rfl (bin_geq _ _ _ _ _ _) rfl ?_
          refine r_end ?_
          refine W_cond rfl (fun c8 => ?_) (fun c8 => ?_)
          · have h := cnd_t c8 h
            refine W_region mixed rfl ?_
            refine r_move (.p rfl) rfl ?_
            refine r_move (.p rfl) rfl ?_
            refine r_buildSlice [(0, .tmp 32, _)] (.p rfl) rfl ⟨rfl, trivial⟩ rfl slc28 sz3 zv3 rfl rfl (leb rfl) rfl rfl ?_
            obtain ⟨c9, h⟩ := chk_bind h
            refine r_append (.p rfl) rfl (.own _ _ _) ⟨rfl, trivial⟩ rfl (.own _ _ _) ⟨rfl, trivial⟩ rfl slc28 slc28 sz3 byt3 (leb rfl) zv3 rfl (len_lim (f := eI64) (g := eI64) (xs := v3.1) (ys := (([v3.2] : List Int))) c9) (map_app eI64 v3.1 (([v3.2] : List Int))) ?_
            refine r_assign (.p rfl) rfl ?_
            refine r_end ?_
            exact sink (v3.1 ++ (([v3.2] : List Int))) h (sees_mk (rn [(2004, 34)]) _ _ ⟨rfl, rfl, rfl, rfl, rfl, trivial⟩ ⟨rfl, rfl, trivial⟩ rfl rfl)
          · have h := cnd_f c8 h
            refine W_skip ?_
            exact sink v3.1 h (sees_mk (rn [(2004, 2002)]) _ _ ⟨rfl, rfl, rfl, rfl, rfl, trivial⟩ ⟨rfl, rfl, trivial⟩ rfl rfl)
        · refine W_region mixed rfl ?_
          refine r_bin (.p rfl) rfl rfl (bin_add _ _ _ _ _ _) rfl ?_
          refine r_move (.p rfl) rfl ?_
          refine r_end ?_
          exact sink (v6, (IntKind.wrap .i64 (v3.2 + 1))) h (sees_mk (rn [(2002, 2004)]) _ _ ⟨rfl, rfl, rfl, rfl, rfl, trivial⟩ ⟨rfl, rfl, trivial⟩ rfl rfl)
      · have h := cnd_f c5 h
        refine W_exit ?_
        exact sink v3.1 h (sees_mk (rn [(2003, 2002)]) _ _ ⟨rfl, rfl, trivial⟩ ⟨rfl, rfl, trivial⟩ rfl rfl)
    · refine W_sees hs ?_
      refine W_seq ?_
      refine W_region mixed rfl ?_
      refine r_assign (.p rfl) rfl ?_
      refine r_end ?_
      refine W_seq ?_
      refine W_seq ?_
      refine W_region mixed rfl ?_
      refine r_move (.p rfl) rfl ?_
      refine r_len (.p rfl) rfl (.own _ _ _) ⟨rfl, trivial⟩ (List.length_map _) slc28 ?_
      obtain ⟨c10, h⟩ := chk_bind h
      refine r_bin (.p rfl) rfl rfl (bin_shl _ _ _ _ _ _ _ c10) rfl ?_
      refine r_move (.p rfl) rfl ?_
      refine r_end ?_
      refine W_whileE (L := Sh.mix_Aborts_L11 N p1 v4) h (fun v11 => mk [(3, .e (.one (.ptr 3 0))), (7, .e (.one (.own 2006))), (10, .e (.one (.own 2007))), (38, .e (.one (.pure (.val (.int .i64 ((shlI .i64 1 ((v4.length : Int))))))))), (39, .e (.one (.pure (.val (.int .i64 v11.2)))))] [(3, .box [.pure (.sl (p1.fBase.map eI64)), .pure (.sl (p1.fNext.map eI64)), .pure (.sl (p1.fHeld.map eU8))]), (2006, .vec 1 (v4.map eI64)), (2007, .vec 3 (v11.1.map eApiMix))]) (fun v12 => mk [(10, .e (.one (.own 2008)))] [(2008, .vec 3 (v12.map eApiMix))]) (fun _ _ => rfl) ((sees_adopt 10 2027 3 rfl rfl).trans (sees_mk (rn [(2006, 2003), (2007, 2027)]) _ _ ⟨rfl, rfl, rfl, rfl, rfl, trivial⟩ ⟨rfl, rfl, rfl, trivial⟩ rfl rfl)) (fun j11 n11 v11 h => ?_) (fun v12 s h hs => ?_)
      · unfold Sh.mix_Aborts_L11 at h
        refine W_seq ?_
        refine W_region mixed rfl ?_
        refine r_bin (.p rfl) rfl rfl (bin_lss _ _ _ _ _ _) rfl ?_
        refine r_end ?_
        refine W_seq ?_
        refine W_cond rfl (fun c13 => ?_) (fun c13 => ?_)
        · have h := cnd_t c13 h
          refine W_skip ?_
          refine W_seq ?_
          refine W_block ?_
          refine W_seq ?_
          refine W_region mixed rfl ?_
          refine r_move (.p rfl) rfl ?_
          refine r_assign (.p rfl) rfl ?_
          refine r_end ?_
          refine W_seq ?_
          refine W_region mixed rfl ?_
          refine r_fieldAddr (.p rfl) rfl fld37_0 ?_
          refine r_load1 (.p rfl) rfl ag28 rfl rfl ?_
          obtain ⟨v14, a14, h⟩ := bind_some h
          refine r_call (ds0 := [_]) [2009] (slices_Clone_int_int_c N p1.fBase v14 a14) (.p rfl) gd45 rfl ⟨rfl, trivial⟩ rfl rfl rfl (nodupB_spec rfl) ⟨rfl, trivial⟩ rfl ?_
          refine r_fieldAddr (.p rfl) rfl fld37_1 ?_
          refine r_load1 (.p rfl) rfl ag28 rfl rfl ?_
          obtain ⟨v15, a15, h⟩ := bind_some h
          refine r_call (ds0 := [_]) [2010] (slices_Clone_int_int_c N p1.fNext v15 a15) (.p rfl) gd45 rfl ⟨rfl, trivial⟩ rfl rfl rfl (nodupB_spec rfl) ⟨rfl, trivial⟩ rfl ?_
          refine r_fieldAddr (.p rfl) rfl fld37_2 ?_
          refine r_load1 (.p rfl) rfl ag35 rfl rfl ?_
          obtain ⟨v16, a16, h⟩ := bind_some h
          refine r_call (ds0 := [_]) [2011] (slices_Clone_api_Set_api_Set_c N p1.fHeld v16 a16) (.p rfl) gd46 rfl ⟨rfl, trivial⟩ rfl rfl rfl (nodupB_spec rfl) ⟨rfl, trivial⟩ rfl ?_
          refine r_build [(0, .tmp 44, _), (1, .tmp 47, _), (2, .tmp 50, _)] (.p rfl) rfl ⟨rfl, rfl, rfl, trivial⟩ zv37 rfl rfl pl37 rfl ?_
          refine r_alloc (.p rfl) zv37 rfl rfl rfl ?_
          refine r_store rfl rfl rfl rfl sz37 rfl (leb rfl) rfl ?_
          refine r_endD (by kernel_rfl) ?_
          refine W_seq ?_
          refine W_seq ?_
          refine W_region mixed rfl ?_
          refine r_move (.p rfl) rfl ?_
          refine r_len (.p rfl) rfl (.own _ _ _) ⟨rfl, trivial⟩ (List.length_map _) slc28 ?_
          refine r_move (.p rfl) rfl ?_
          refine r_end ?_
          refine W_whileE (L := Sh.mix_Aborts_L17 N v4 v11) h (fun v17 => mk [(3, .e (.one (.ptr 3 0))), (7, .e (.one (.own 2015))), (10, .e (.one (.own 2016))), (11, .e (.one (.pure (.val (.int .i64 v11.2))))), (12, .e (.one (.ptr 12 0))), (38, .e (.one (.pure (.val (.int .i64 ((shlI .i64 1 ((v4.length : Int))))))))), (39, .e (.one (.pure (.val (.int .i64 v11.2))))), (52, .e (.one (.own 2015))), (53, .e (.one (.pure (.val (.int .i64 ((v4.length : Int))))))), (54, .e (.one (.pure (.val (.int .i64 v17.2)))))] [(3, .box [.pure (.sl (p1.fBase.map eI64)), .pure (.sl (p1.fNext.map eI64)), .pure (.sl (p1.fHeld.map eU8))]), (12, .box [.own 2012, .own 2013, .own 2014]), (2012, .vec 1 (v14.map eI64)), (2013, .vec 1 (v17.1.map eI64)), (2014, .vec 1 (v16.map eU8)), (2015, .vec 1 (v4.map eI64)), (2016, .vec 3 (v11.1.map eApiMix))]) (fun v18 => mk [(3, .e (.one (.ptr 3 0))), (7, .e (.one (.own 2020))), (10, .e (.one (.own 2021))), (12, .e (.one (.ptr 12 0))), (38, .e (.one (.pure (.val (.int .i64 ((shlI .i64 1 ((v4.length : Int))))))))), (39, .e (.one (.pure (.val (.int .i64 v11.2)))))] [(3, .box [.pure (.sl (p1.fBase.map eI64)), .pure (.sl (p1.fNext.map eI64)), .pure (.sl (p1.fHeld.map eU8))]), (12, .box [.own 2017, .own 2018, .own 2019]), (2017, .vec 1 (v14.map eI64)), (2018, .vec 1 (v18.map eI64)), (2019, .vec 1 (v16.map eU8)), (2020, .vec 1 (v4.map eI64)), (2021, .vec 3 (v11.1.map eApiMix))]) (fun _ _ => rfl) (sees_mk (rn [(2012, 2009), (2013, 2010), (2014, 2011), (2015, 2006), (2016, 2007)]) _ _ ⟨rfl, rfl, rfl, rfl, rfl, rfl, rfl, rfl, rfl, rfl, trivial⟩ ⟨rfl, rfl, rfl, rfl, rfl, rfl, rfl, trivial⟩ rfl rfl) (fun j17 n17 v17 h => ?_) (fun v18 s h hs => ?_)
          · unfold Sh.mix_Aborts_L17 at h
            refine W_seq ?_
            refine W_region mixed rfl ?_
            refine r_bin (.p rfl) rfl rfl (bin_lss _ _ _ _ _ _) rfl ?_
            refine r_end ?_
            refine W_seq ?_
            refine W_cond rfl (fun c19 => ?_) (fun c19 => ?_)
            · have h := cnd_t c19 h
              refine W_skip ?_
              refine W_join h (fun v20 => mk [(3, .e (.one (.ptr 3 0))), (7, .e (.one (.own 2025))), (10, .e (.one (.own 2026))), (11, .e (.one (.pure (.val (.int .i64 v11.2))))), (12, .e (.one (.ptr 12 0))), (38, .e (.one (.pure (.val (.int .i64 ((shlI .i64 1 ((v4.length : Int))))))))), (39, .e (.one (.pure (.val (.int .i64 v11.2))))), (52, .e (.one (.own 2025))), (53, .e (.one (.pure (.val (.int .i64 ((v4.length : Int))))))), (54, .e (.one (.pure (.val (.int .i64 v17.2)))))] [(3, .box [.pure (.sl (p1.fBase.map eI64)), .pure (.sl (p1.fNext.map eI64)), .pure (.sl (p1.fHeld.map eU8))]), (12, .box [.own 2022, .own 2023, .own 2024]), (2022, .vec 1 (v14.map eI64)), (2023, .vec 1 (v20.map eI64)), (2024, .vec 1 (v16.map eU8)), (2025, .vec 1 (v4.map eI64)), (2026, .vec 3 (v11.1.map eApiMix))]) (fun j20 h => ?_) (fun v20 h => ?_)
              · refine W_block ?_
                refine W_seq ?_
                refine W_region mixed rfl ?_
                refine r_move (.p rfl) rfl ?_
                obtain ⟨v21, a21, b21, h⟩ := idx_bind h
                refine r_indexo (.p rfl) rfl rfl rfl slc28 sz3 a21 (map_get b21) ?_
                refine r_loade1 (.p rfl) rfl ag3 rfl (map_get b21) rfl ?_
                refine r_assign (.p rfl) rfl ?_
                refine r_assign (.p rfl) rfl ?_
                refine r_end ?_
                refine W_seq ?_
                refine W_region mixed rfl ?_
                refine r_move (.p rfl) rfl ?_
                refine r_move (.p rfl) rfl ?_
                obtain ⟨c22, h⟩ := chk_bind h
                refine r_bin (.p rfl) rfl rfl (bin_shr _ _ _ _ _ _ _ c22) rfl ?_
                refine r_bin (.p rfl) rfl rfl (bin_and _ _ _ _ _ _) rfl ?_
                refine r_bin (.p rfl) rfl rfl (bin_eql _ _ _ _ _ _) rfl ?_
                refine r_end ?_
                refine W_cond rfl (fun c23 => ?_) (fun c23 => ?_)
                · have h := cnd_t c23 h
                  refine W_region mixed rfl ?_
                  refine r_fieldAddr (.p rfl) rfl fld37_1 ?_
                  refine r_load1 (.p rfl) rfl ag28 rfl rfl ?_
                  refine r_move (.p rfl) rfl ?_
                  obtain ⟨v24, a24, b24, h⟩ := idx_bind h
                  refine r_indexo (.p rfl) rfl rfl rfl slc28 sz3 a24 (map_get b24) ?_
                  refine r_storee rfl rfl rfl rfl (map_get b24) rfl sz3 rfl (leb rfl) (map_setv eI64 v17.1 _ ((-1))) ?_
                  refine r_end ?_
                  exact sink (v17.1.set (v21).toNat ((-1))) h (sees_mk (rn [(2022, 2012), (2023, 2013), (2024, 2014), (2025, 2015), (2026, 2016)]) _ _ ⟨rfl, rfl, rfl, rfl, rfl, rfl, rfl, rfl, rfl, rfl, trivial⟩ ⟨rfl, rfl, rfl, rfl, rfl, rfl, rfl, trivial⟩ rfl rfl)
                · have h := cnd_f c23 h
                  refine W_skip ?_
                  exact sink v17.1 h (sees_mk (rn [(2022, 2012), (2023, 2013), (2024, 2014), (2025, 2015), (2026, 2016)]) _ _ ⟨rfl, rfl, rfl, rfl, rfl, rfl, rfl, rfl, rfl, rfl, trivial⟩ ⟨rfl, rfl, rfl, rfl, rfl, rfl, rfl, trivial⟩ rfl rfl)
              · refine W_region mixed rfl ?_
                refine r_bin (.p rfl) rfl rfl (bin_add _ _ _ _ _ _) rfl ?_
                refine r_move (.p rfl) rfl ?_
                refine r_end ?_
                exact sink (v20, (IntKind.wrap .i64 (v17.2 + 1))) h (sees_mk (rn [(2012, 2022), (2013, 2023), (2014, 2024), (2015, 2025), (2016, 2026)]) _ _ ⟨rfl, rfl, rfl, rfl, rfl, rfl, rfl, rfl, rfl, rfl, trivial⟩ ⟨rfl, rfl, rfl, rfl, rfl, rfl, rfl, trivial⟩ rfl rfl)
            · have h := cnd_f c19 h
              refine W_exit ?_
              exact sink v17.1 h (sees_mk (rn [(2017, 2012), (2018, 2013), (2019, 2014), (2020, 2015), (2021, 2016)]) _ _ ⟨rfl, rfl, rfl, rfl, rfl, rfl, trivial⟩ ⟨rfl, rfl, rfl, rfl, rfl, rfl, rfl, trivial⟩ rfl rfl)
          · refine W_sees hs ?_
            refine W_region mixed rfl ?_
            refine r_move (.p rfl) rfl ?_
            refine r_loadN (.p rfl) rfl ag37 sz37 rfl rfl rfl ?_
            refine r_see (sees_frz 2017 _ _ rfl) ?_
            refine r_see (sees_frz 2018 _ _ rfl) ?_
            refine r_see (sees_frz 2019 _ _ rfl) ?_
            refine r_buildSlice [(0, .tmp 70, _)] (.p rfl) rfl ⟨rfl, trivial⟩ rfl slc48 sz37 zv37 rfl rfl (leb rfl) rfl rfl ?_
            obtain ⟨c25, h⟩ := chk_bind h
            refine r_append (.p rfl) rfl (.own _ _ _) ⟨rfl, trivial⟩ rfl (.own _ _ _) ⟨rfl, trivial⟩ rfl slc48 slc48 sz37 byt37 (leb rfl) zv37 rfl (len_lim (f := eApiMix) (g := eApiMix) (xs := v11.1) (ys := (([(ApiMix.mk v14 v18 v16)] : List ApiMix))) c25) (map_app eApiMix v11.1 (([(ApiMix.mk v14 v18 v16)] : List ApiMix))) ?_
            refine r_assign (.p rfl) rfl ?_
            refine r_end ?_
            refine W_region mixed rfl ?_
            refine r_bin (.p rfl) rfl rfl (bin_add _ _ _ _ _ _) rfl ?_
            refine r_move (.p rfl) rfl ?_
            refine r_end ?_
            exact sink (v11.1 ++ (([(ApiMix.mk v14 v18 v16)] : List ApiMix)), (IntKind.wrap .i64 (v11.2 + 1))) h (sees_mk (rn [(2006, 2020), (2007, 72)]) _ _ ⟨rfl, rfl, rfl, rfl, rfl, trivial⟩ ⟨rfl, rfl, rfl, trivial⟩ rfl rfl)
        · have h := cnd_f c13 h
          refine W_exit ?_
          exact sink v11.1 h (sees_mk (rn [(2008, 2007)]) _ _ ⟨rfl, trivial⟩ ⟨rfl, trivial⟩ rfl rfl)
      · refine W_sees hs ?_
        refine W_seq ?_
        refine W_region mixed rfl ?_
        refine r_move (.p rfl) rfl ?_
        refine r_assign (.p rfl) rfl ?_
        refine r_assign (.p rfl) rfl ?_
        refine r_end ?_
        obtain rfl := Option.some.inj h
        refine W_sees (sees_mk (rn [(1000, 2008)]) [(4, .e (.one (.own 1000))), (5, .e (.one (.pure (.val (.int .i64 0)))))] [(1000, .vec 3 (v12.map eApiMix))] ⟨rfl, rfl, trivial⟩ ⟨rfl, trivial⟩ rfl rfl) (W_ret ?_)
        exact ⟨⟨[_, _], ⟨.tmp _ _ rfl, ⟨.tmp _ _ rfl, trivial⟩⟩, rfl⟩, ⟨rfl, trivial⟩⟩

set_option maxRecDepth 10000 in
theorem mix_Blame_c (N : Nat) (p0 : ApiProblem) (p1 : ApiMix) (r : ApiMix × ApiConflict × Int) (h : Sh.mix_Blame N p0 p1 = some r) : Contract Try.prog 20 [.e (.agg [.pure (.sl (p0.fVersions.map eI64)), .pure (.sl (p0.fNow.map eI64)), .pure (.sl (p0.fTarget.map eI64)), .pure (.sl (p0.fTables.map eApiTable))]), .e (.agg [.pure (.sl (p1.fBase.map eI64)), .pure (.sl (p1.fNext.map eI64)), .pure (.sl (p1.fHeld.map eU8))])] [] (.tup [.agg [.pure (.sl (r.1.fBase.map eI64)), .pure (.sl (r.1.fNext.map eI64)), .pure (.sl (r.1.fHeld.map eU8))], .agg [.pure (.val (.int .i64 r.2.1.fTable)), .pure (.val (.int .i64 r.2.1.fWriter)), .pure (.val (.int .i64 r.2.1.fReader))], .one (.pure (.val (.int .i64 r.2.2)))]) := by
  unfold Sh.mix_Blame at h
  refine contract_of_W (n := 42) (rs := [.cell 4 37, .cell 5 52, .tmp 6]) Try.func20 rfl rfl rfl (leb rfl) rfl fun w0 S0 => ?_
  refine W_seq ?_
  refine W_region mixed rfl ?_
  refine r_box (.p rfl) rfl rfl ?_
  refine r_box (.p rfl) rfl rfl ?_
  refine r_alloc (.p rfl) zv37 rfl rfl rfl ?_
  refine r_alloc (.p rfl) zv52 rfl rfl rfl ?_
  refine r_assign (.p rfl) rfl ?_
  refine r_end ?_
  refine W_seq ?_
  refine W_region mixed rfl ?_
  refine r_loadN (.p rfl) rfl ag31 sz31 rfl rfl rfl ?_
  refine r_loadN (.p rfl) rfl ag37 sz37 rfl rfl rfl ?_
  obtain ⟨v1, a1, h⟩ := bind_some h
  refine r_call (ds0 := [_, _]) [2001] (mix_Aborts_c N p0 p1 v1 a1) (.p rfl) gd18 rfl ⟨rfl, rfl, trivial⟩ rfl rfl rfl (nodupB_spec rfl) ⟨rfl, trivial⟩ rfl ?_
  refine r_move (.p rfl) rfl ?_
  refine r_extract (.p rfl) rfl rfl ?_
  refine r_extract (.p rfl) rfl rfl ?_
  refine r_assign (.p rfl) rfl ?_
  refine r_assign (.p rfl) rfl ?_
  refine r_end ?_
  refine W_seq ?_
  refine W_seq ?_
  refine W_region mixed rfl ?_
  refine r_move (.p rfl) rfl ?_
  refine r_bin (.p rfl) rfl rfl (bin_neq _ _ _ _ _ _) rfl ?_
  refine r_end ?_
  refine W_cond rfl (fun c2 => ?_) (fun c2 => ?_)
  · have h := cnd_t c2 h
    refine W_seq ?_
    refine W_region mixed rfl ?_
    refine r_build [] (.p rfl) rfl trivial zv37 rfl rfl pl37 rfl ?_
    refine r_build [] (.p rfl) rfl trivial zv52 rfl rfl pl52 rfl ?_
    refine r_move (.p rfl) rfl ?_
    refine r_store rfl rfl rfl rfl sz37 rfl (leb rfl) rfl ?_
    refine r_store rfl rfl rfl rfl sz52 rfl (leb rfl) rfl ?_
    refine r_assign (.p rfl) rfl ?_
    refine r_end ?_
    obtain rfl := Option.some.inj h
    refine W_sees ((sees_nrmB 4 _ rfl).trans (sees_mk (rn []) [(4, .e (.one (.ptr 4 0))), (5, .e (.one (.ptr 5 0))), (6, .e (.one (.pure (.val (.int .i64 v1.2)))))] [(4, .box [.pure (.sl ((([] : List Int)).map eI64)), .pure (.sl ((([] : List Int)).map eI64)), .pure (.sl ((([] : List Int)).map eU8))]), (5, .box [.pure (.val (.int .i64 0)), .pure (.val (.int .i64 0)), .pure (.val (.int .i64 0))])] ⟨rfl, rfl, rfl, trivial⟩ ⟨rfl, rfl, trivial⟩ rfl rfl)) (W_ret ?_)
    exact ⟨⟨[_, _, _], ⟨.cellN _ _ _ _ _ _ _ rfl rfl ag37 sz37 rfl rfl (ltb rfl), ⟨.cellN _ _ _ _ _ _ _ rfl rfl ag52 sz52 rfl rfl (ltb rfl), ⟨.tmp _ _ rfl, trivial⟩⟩⟩, rfl⟩, trivial⟩
  · have h := cnd_f c2 h
    refine W_skip ?_
    refine W_seq ?_
    refine W_seq ?_
    refine W_region mixed rfl ?_
    refine r_move (.p rfl) rfl ?_
    refine r_len (.p rfl) rfl (.own _ _ _) ⟨rfl, trivial⟩ (List.length_map _) slc48 ?_
    refine r_move (.p rfl) rfl ?_
    refine r_end ?_
    refine W_whileE (L := Sh.mix_Blame_L3 N p0 v1) h (fun v3 => mk [(2, .e (.one (.ptr 2 0))), (4, .e (.one (.ptr 4 0))), (5, .e (.one (.ptr 5 0))), (23, .e (.one (.own 2002))), (24, .e (.one (.pure (.val (.int .i64 ((v1.1.length : Int))))))), (25, .e (.one (.pure (.val (.int .i64 v3)))))] [(2, .box [.pure (.sl (p0.fVersions.map eI64)), .pure (.sl (p0.fNow.map eI64)), .pure (.sl (p0.fTarget.map eI64)), .pure (.sl (p0.fTables.map eApiTable))]), (4, .box [.pure (.nil0), .pure (.nil0), .pure (.nil0)]), (5, .box [.pure (.val (.int .i64 0)), .pure (.val (.int .i64 0)), .pure (.val (.int .i64 0))]), (2002, .vec 3 (v1.1.map eApiMix))]) (fun v4 => mk [(4, .e (.one (.ptr 4 0))), (5, .e (.one (.ptr 5 0)))] [(4, .box [.pure (.nil0), .pure (.nil0), .pure (.nil0)]), (5, .box [.pure (.val (.int .i64 0)), .pure (.val (.int .i64 0)), .pure (.val (.int .i64 0))])]) (fun _ _ => rfl) (sees_mk (rn [(2002, 2001)]) _ _ ⟨rfl, rfl, rfl, rfl, rfl, rfl, trivial⟩ ⟨rfl, rfl, rfl, rfl, trivial⟩ rfl rfl) (fun j3 n3 v3 h => ?_) (fun v4 s h hs => ?_)
    · unfold Sh.mix_Blame_L3 at h
      refine W_seq ?_
      refine W_region mixed rfl ?_
      refine r_bin (.p rfl) rfl rfl (bin_lss _ _ _ _ _ _) rfl ?_
      refine r_end ?_
      refine W_seq ?_
      refine W_cond rfl (fun c5 => ?_) (fun c5 => ?_)
      · have h := cnd_t c5 h
        refine W_skip ?_
        refine W_seq ?_
        refine W_block ?_
        refine W_seq ?_
        refine W_region mixed rfl ?_
        obtain ⟨v6, a6, b6, h⟩ := idx_bind h
        refine r_indexo (.p rfl) rfl rfl rfl slc48 sz37 a6 (map_get b6) ?_
        refine r_loadeN (.p rfl) rfl ag37 sz37 rfl (map_get b6) ?_
        refine r_alloc (.p rfl) zv37 rfl rfl rfl ?_
        refine r_store rfl rfl rfl rfl sz37 rfl (leb rfl) rfl ?_
        refine r_end ?_
        refine W_seq ?_
        refine W_region mixed rfl ?_
        refine r_loadN (.p rfl) rfl ag31 sz31 rfl rfl rfl ?_
        refine r_loadN (.p rfl) rfl ag37 sz37 rfl rfl rfl ?_
        obtain ⟨v7, a7, h⟩ := bind_some h
        refine r_call (ds0 := [_, _]) [2003] (mix_conflicts_c N p0 v6 v7 a7) (.p rfl) gd43 rfl ⟨rfl, rfl, trivial⟩ rfl rfl rfl (nodupB_spec rfl) ⟨rfl, trivial⟩ rfl ?_
        refine r_assign (.p rfl) rfl ?_
        refine r_end ?_
        refine W_seq ?_
        refine W_region mixed rfl ?_
        refine r_move (.p rfl) rfl ?_
        refine r_len (.p rfl) rfl (.own _ _ _) ⟨rfl, trivial⟩ (List.length_map _) slc39 ?_
        refine r_bin (.p rfl) rfl rfl (bin_gtr _ _ _ _ _ _) rfl ?_
        refine r_end ?_
        refine W_cond rfl (fun c8 => ?_) (fun c8 => ?_)
        · have h := cnd_t c8 h
          refine W_seq ?_
          refine W_region mixed rfl ?_
          refine r_loadN (.p rfl) rfl ag37 sz37 rfl rfl rfl ?_
          refine r_move (.p rfl) rfl ?_
          obtain ⟨v9, a9, b9, h⟩ := idx_bind h
          refine r_indexo (.p rfl) rfl rfl rfl slc39 sz52 a9 (map_get b9) ?_
          refine r_loadeN (.p rfl) rfl ag52 sz52 rfl (map_get b9) ?_
          refine r_store rfl rfl rfl rfl sz37 rfl (leb rfl) rfl ?_
          refine r_store rfl rfl rfl rfl sz52 rfl (leb rfl) rfl ?_
          refine r_assign (.p rfl) rfl ?_
          refine r_endD (by kernel_rfl) ?_
          obtain rfl := Option.some.inj h
          refine W_sees (sees_mk (rn []) [(4, .e (.one (.ptr 4 0))), (5, .e (.one (.ptr 5 0))), (6, .e (.one (.pure (.val (.int .i64 0)))))] [(4, .box [.pure (.sl (v6.fBase.map eI64)), .pure (.sl (v6.fNext.map eI64)), .pure (.sl (v6.fHeld.map eU8))]), (5, .box [.pure (.val (.int .i64 v9.fTable)), .pure (.val (.int .i64 v9.fWriter)), .pure (.val (.int .i64 v9.fReader))])] ⟨rfl, rfl, rfl, trivial⟩ ⟨rfl, rfl, trivial⟩ rfl rfl) (W_ret ?_)
          exact ⟨⟨[_, _, _], ⟨.cellN _ _ _ _ _ _ _ rfl rfl ag37 sz37 rfl rfl (ltb rfl), ⟨.cellN _ _ _ _ _ _ _ rfl rfl ag52 sz52 rfl rfl (ltb rfl), ⟨.tmp _ _ rfl, trivial⟩⟩⟩, rfl⟩, trivial⟩
        · have h := cnd_f c8 h
          refine W_skip ?_
          refine W_region mixed rfl ?_
          refine r_bin (.p rfl) rfl rfl (bin_add _ _ _ _ _ _) rfl ?_
          refine r_move (.p rfl) rfl ?_
          refine r_end ?_
          exact sink (IntKind.wrap .i64 (v3 + 1)) h (sees_mk (rn []) _ _ ⟨rfl, rfl, rfl, rfl, rfl, rfl, trivial⟩ ⟨rfl, rfl, rfl, rfl, trivial⟩ rfl rfl)
      · have h := cnd_f c5 h
        refine W_exit ?_
        exact sink () h (sees_mk (rn []) _ _ ⟨rfl, rfl, trivial⟩ ⟨rfl, rfl, trivial⟩ rfl rfl)
    · refine W_sees hs ?_
      refine W_seq ?_
      refine W_region mixed rfl ?_
      refine r_build [] (.p rfl) rfl trivial zv37 rfl rfl pl37 rfl ?_
      refine r_build [] (.p rfl) rfl trivial zv52 rfl rfl pl52 rfl ?_
      refine r_store rfl rfl rfl rfl sz37 rfl (leb rfl) rfl ?_
      refine r_store rfl rfl rfl rfl sz52 rfl (leb rfl) rfl ?_
      refine r_assign (.p rfl) rfl ?_
      refine r_end ?_
      obtain rfl := Option.some.inj h
      refine W_sees ((sees_nrmB 4 _ rfl).trans (sees_mk (rn []) [(4, .e (.one (.ptr 4 0))), (5, .e (.one (.ptr 5 0))), (6, .e (.one (.pure (.val (.int .i64 15)))))] [(4, .box [.pure (.sl ((([] : List Int)).map eI64)), .pure (.sl ((([] : List Int)).map eI64)), .pure (.sl ((([] : List Int)).map eU8))]), (5, .box [.pure (.val (.int .i64 0)), .pure (.val (.int .i64 0)), .pure (.val (.int .i64 0))])] ⟨rfl, rfl, rfl, trivial⟩ ⟨rfl, rfl, trivial⟩ rfl rfl)) (W_ret ?_)
      exact ⟨⟨[_, _, _], ⟨.cellN _ _ _ _ _ _ _ rfl rfl ag37 sz37 rfl rfl (ltb rfl), ⟨.cellN _ _ _ _ _ _ _ rfl rfl ag52 sz52 rfl rfl (ltb rfl), ⟨.tmp _ _ rfl, trivial⟩⟩⟩, rfl⟩, trivial⟩

set_option maxRecDepth 10000 in
theorem mix_Robust_c (N : Nat) (p0 : ApiProblem) (p1 : ApiMix) (r : Bool × Int) (h : Sh.mix_Robust N p0 p1 = some r) : Contract Try.prog 19 [.e (.agg [.pure (.sl (p0.fVersions.map eI64)), .pure (.sl (p0.fNow.map eI64)), .pure (.sl (p0.fTarget.map eI64)), .pure (.sl (p0.fTables.map eApiTable))]), .e (.agg [.pure (.sl (p1.fBase.map eI64)), .pure (.sl (p1.fNext.map eI64)), .pure (.sl (p1.fHeld.map eU8))])] [] (.tup [.one (.pure (.val (.bool r.1))), .one (.pure (.val (.int .i64 r.2)))]) := by
  unfold Sh.mix_Robust at h
  refine contract_of_W (n := 22) (rs := [.tmp 4, .tmp 5]) Try.func19 rfl rfl rfl (leb rfl) rfl fun w0 S0 => ?_
  refine W_seq ?_
  refine W_region mixed rfl ?_
  refine r_box (.p rfl) rfl rfl ?_
  refine r_box (.p rfl) rfl rfl ?_
  refine r_assign (.p rfl) rfl ?_
  refine r_assign (.p rfl) rfl ?_
  refine r_end ?_
  refine W_seq ?_
  refine W_region mixed rfl ?_
  refine r_loadN (.p rfl) rfl ag31 sz31 rfl rfl rfl ?_
  refine r_loadN (.p rfl) rfl ag37 sz37 rfl rfl rfl ?_
  obtain ⟨v1, a1, h⟩ := bind_some h
  refine r_call (ds0 := [_, _]) [] (mix_Blame_c N p0 p1 v1 a1) (.p rfl) gd20 rfl ⟨rfl, rfl, trivial⟩ rfl rfl rfl (nodupB_spec rfl) trivial rfl ?_
  refine r_move (.p rfl) rfl ?_
  refine r_extract (.p rfl) rfl rfl ?_
  refine r_extract (.p rfl) rfl rfl ?_
  refine r_extract (.p rfl) rfl rfl ?_
  refine r_alloc (.p rfl) zv37 rfl rfl rfl ?_
  refine r_alloc (.p rfl) zv52 rfl rfl rfl ?_
  refine r_store rfl rfl rfl rfl sz37 rfl (leb rfl) rfl ?_
  refine r_store rfl rfl rfl rfl sz52 rfl (leb rfl) rfl ?_
  refine r_assign (.p rfl) rfl ?_
  refine r_end ?_
  refine W_seq ?_
  refine W_region mixed rfl ?_
  refine r_move (.p rfl) rfl ?_
  refine r_end ?_
  refine W_block ?_
  refine W_seq ?_
  refine W_region mixed rfl ?_
  refine r_bin (.p rfl) rfl rfl (bin_eql _ _ _ _ _ _) rfl ?_
  refine r_assign (.p rfl) rfl ?_
  refine r_end ?_
  refine W_cond rfl (fun c2 => ?_) (fun c2 => ?_)
  · have h := cnd_t c2 h
    refine W_seq ?_
    refine W_region mixed rfl ?_
    refine r_assign (.p rfl) rfl ?_
    refine r_assign (.p rfl) rfl ?_
    refine r_end ?_
    obtain rfl := Option.some.inj h
    refine W_sees (sees_mk (rn []) [(4, .e (.one (.pure (.val (.bool false))))), (5, .e (.one (.pure (.val (.int .i64 0)))))] [] ⟨rfl, rfl, trivial⟩ trivial rfl rfl) (W_ret ?_)
    exact ⟨⟨[_, _], ⟨.tmp _ _ rfl, ⟨.tmp _ _ rfl, trivial⟩⟩, rfl⟩, trivial⟩
  · have h := cnd_f c2 h
    refine W_seq ?_
    refine W_region mixed rfl ?_
    refine r_bin (.p rfl) rfl rfl (bin_eql _ _ _ _ _ _) rfl ?_
    refine r_assign (.p rfl) rfl ?_
    refine r_end ?_
    refine W_cond rfl (fun c3 => ?_) (fun c3 => ?_)
    · have h := cnd_t c3 h
      refine W_seq ?_
      refine W_region mixed rfl ?_
      refine r_assign (.p rfl) rfl ?_
      refine r_assign (.p rfl) rfl ?_
      refine r_end ?_
      obtain rfl := Option.some.inj h
      refine W_sees (sees_mk (rn []) [(4, .e (.one (.pure (.val (.bool true))))), (5, .e (.one (.pure (.val (.int .i64 0)))))] [] ⟨rfl, rfl, trivial⟩ trivial rfl rfl) (W_ret ?_)
      exact ⟨⟨[_, _], ⟨.tmp _ _ rfl, ⟨.tmp _ _ rfl, trivial⟩⟩, rfl⟩, trivial⟩
    · have h := cnd_f c3 h
      refine W_seq ?_
      refine W_region mixed rfl ?_
      refine r_move (.p rfl) rfl ?_
      refine r_assign (.p rfl) rfl ?_
      refine r_assign (.p rfl) rfl ?_
      refine r_end ?_
      obtain rfl := Option.some.inj h
      refine W_sees (sees_mk (rn []) [(4, .e (.one (.pure (.val (.bool false))))), (5, .e (.one (.pure (.val (.int .i64 v1.2.2)))))] [] ⟨rfl, rfl, trivial⟩ trivial rfl rfl) (W_ret ?_)
      exact ⟨⟨[_, _], ⟨.tmp _ _ rfl, ⟨.tmp _ _ rfl, trivial⟩⟩, rfl⟩, trivial⟩

set_option maxRecDepth 10000 in
theorem sheaveref36_Conflicted_c (N : Nat) (p0 : List ApiConflict) (p1 : List ApiConflict) (r : Bool) (h : Sh.sheaveref36_Conflicted N p0 p1 = some r) : Contract Try.prog 17 [.e (.one (.pure (.sl (p0.map eApiConflict)))), .e (.one (.pure (.sl (p1.map eApiConflict))))] [] (.e (.one (.pure (.val (.bool r))))) := by
  unfold Sh.sheaveref36_Conflicted at h
  refine contract_of_W (n := 26) (rs := [.tmp 4]) Try.func17 rfl rfl rfl (leb rfl) rfl fun w0 S0 => ?_
  refine W_seq ?_
  refine W_region mixed rfl ?_
  refine r_assign (.p rfl) rfl ?_
  refine r_end ?_
  refine W_seq ?_
  refine W_seq ?_
  refine W_region mixed rfl ?_
  refine r_move (.p rfl) rfl ?_
  refine r_len (.p rfl) rfl (.sl _) trivial (List.length_map _) slc39 ?_
  refine r_move (.p rfl) rfl ?_
  refine r_len (.p rfl) rfl (.sl _) trivial (List.length_map _) slc39 ?_
  refine r_bin (.p rfl) rfl rfl (bin_neq _ _ _ _ _ _) rfl ?_
  refine r_end ?_
  refine W_cond rfl (fun c1 => ?_) (fun c1 => ?_)
  · have h := cnd_t c1 h
    refine W_seq ?_
    refine W_region mixed rfl ?_
    refine r_assign (.p rfl) rfl ?_
    refine r_end ?_
    obtain rfl := Option.some.inj h
    refine W_sees (sees_mk (rn []) [(4, .e (.one (.pure (.val (.bool false)))))] [] ⟨rfl, trivial⟩ trivial rfl rfl) (W_ret ?_)
    exact ⟨⟨[_], ⟨.tmp _ _ rfl, trivial⟩, rfl⟩, trivial⟩
  · have h := cnd_f c1 h
    refine W_skip ?_
    refine W_seq ?_
    refine W_seq ?_
    refine W_region mixed rfl ?_
    refine r_assign (.p rfl) rfl ?_
    refine r_end ?_
    refine W_whileE (L := Sh.sheaveref36_Conflicted_L2 N p0 p1) h (fun v2 => mk [(0, .e (.one (.pure (.sl (p0.map eApiConflict))))), (1, .e (.one (.pure (.sl (p1.map eApiConflict))))), (5, .e (.one (.pure (.val (.int .i64 v2)))))] []) (fun v3 => mk [] []) (fun _ _ => rfl) (sees_mk (rn []) _ _ ⟨rfl, rfl, rfl, trivial⟩ trivial rfl rfl) (fun j2 n2 v2 h => ?_) (fun v3 s h hs => ?_)
    · unfold Sh.sheaveref36_Conflicted_L2 at h
      refine W_seq ?_
      refine W_seq ?_
      refine W_region mixed rfl ?_
      refine r_move (.p rfl) rfl ?_
      refine r_move (.p rfl) rfl ?_
      refine r_len (.p rfl) rfl (.sl _) trivial (List.length_map _) slc39 ?_
      refine r_bin (.p rfl) rfl rfl (bin_lss _ _ _ _ _ _) rfl ?_
      refine r_end ?_
      refine W_cond rfl (fun c4 => ?_) (fun c4 => ?_)
      · have h := cnd_t c4 h
        refine W_skip ?_
        refine W_seq ?_
        refine W_block ?_
        refine W_seq ?_
        refine W_region mixed rfl ?_
        refine r_move (.p rfl) rfl ?_
        refine r_move (.p rfl) rfl ?_
        obtain ⟨v5, a5, b5, h⟩ := idx_bind h
        refine r_index (.p rfl) rfl rfl slc39 sz52 a5 (map_get b5) rfl ?_
        refine r_loadrN (.p rfl) rfl ag52 sz52 rfl rfl ?_
        refine r_move (.p rfl) rfl ?_
        refine r_move (.p rfl) rfl ?_
        obtain ⟨v6, a6, b6, h⟩ := idx_bind h
        refine r_index (.p rfl) rfl rfl slc39 sz52 a6 (map_get b6) rfl ?_
        refine r_loadrN (.p rfl) rfl ag52 sz52 rfl rfl ?_
        refine r_neA [.int .i64 v5.fTable, .int .i64 v5.fWriter, .int .i64 v5.fReader] [.int .i64 v6.fTable, .int .i64 v6.fWriter, .int .i64 v6.fReader] (.p rfl) rfl rfl seq52 rfl ?_
        refine r_endD (by kernel_rfl) ?_
        refine W_cond rfl (fun c7 => ?_) (fun c7 => ?_)
        · have h := cnd_t c7 h
          refine W_seq ?_
          refine W_region mixed rfl ?_
          refine r_assign (.p rfl) rfl ?_
          refine r_end ?_
          obtain rfl := Option.some.inj h
          refine W_sees (sees_mk (rn []) [(4, .e (.one (.pure (.val (.bool false)))))] [] ⟨rfl, trivial⟩ trivial rfl rfl) (W_ret ?_)
          exact ⟨⟨[_], ⟨.tmp _ _ rfl, trivial⟩, rfl⟩, trivial⟩
        · have h := cnd_f c7 h
          refine W_skip ?_
          refine W_region mixed rfl ?_
          refine r_move (.p rfl) rfl ?_
          refine r_bin (.p rfl) rfl rfl (bin_add _ _ _ _ _ _) rfl ?_
          refine r_assign (.p rfl) rfl ?_
          refine r_end ?_
          exact sink (IntKind.wrap .i64 (v2 + 1)) h (sees_mk (rn []) _ _ ⟨rfl, rfl, rfl, trivial⟩ trivial rfl rfl)
      · have h := cnd_f c4 h
        refine W_exit ?_
        exact sink () h (sees_mk (rn []) _ _ trivial trivial rfl rfl)
    · refine W_sees hs ?_
      refine W_seq ?_
      refine W_region mixed rfl ?_
      refine r_assign (.p rfl) rfl ?_
      refine r_end ?_
      obtain rfl := Option.some.inj h
      refine W_sees (sees_mk (rn []) [(4, .e (.one (.pure (.val (.bool true)))))] [] ⟨rfl, trivial⟩ trivial rfl rfl) (W_ret ?_)
      exact ⟨⟨[_], ⟨.tmp _ _ rfl, trivial⟩, rfl⟩, trivial⟩

set_option maxRecDepth 10000 in
theorem sheaveref36_ints_c (N : Nat) (p0 : List Int) (p1 : List Int) (r : Int) (h : Sh.sheaveref36_ints N p0 p1 = some r) : Contract Try.prog 61 [.e (.one (.pure (.sl (p0.map eI64)))), .e (.one (.pure (.sl (p1.map eI64))))] [] (.e (.one (.pure (.val (.int .i64 r))))) := by
  unfold Sh.sheaveref36_ints at h
  refine contract_of_W (n := 46) (rs := [.tmp 4]) Try.func61 rfl rfl rfl (leb rfl) rfl fun w0 S0 => ?_
  refine W_seq ?_
  refine W_region mixed rfl ?_
  refine r_assign (.p rfl) rfl ?_
  refine r_end ?_
  refine W_seq ?_
  refine W_seq ?_
  refine W_region mixed rfl ?_
  refine r_assign (.p rfl) rfl ?_
  refine r_end ?_
  refine W_whileE (L := Sh.sheaveref36_ints_L1 N p0 p1) h (fun v1 => mk [(0, .e (.one (.pure (.sl (p0.map eI64))))), (1, .e (.one (.pure (.sl (p1.map eI64))))), (5, .e (.one (.pure (.val (.int .i64 v1)))))] []) (fun v2 => mk [(0, .e (.one (.pure (.sl (p0.map eI64))))), (1, .e (.one (.pure (.sl (p1.map eI64)))))] []) (fun _ _ => rfl) (sees_mk (rn []) _ _ ⟨rfl, rfl, rfl, trivial⟩ trivial rfl rfl) (fun j1 n1 v1 h => ?_) (fun v2 s h hs => ?_)
  · unfold Sh.sheaveref36_ints_L1 at h
    refine W_seq ?_
    refine W_join h (fun v3 => mk [(0, .e (.one (.pure (.sl (p0.map eI64))))), (1, .e (.one (.pure (.sl (p1.map eI64))))), (5, .e (.one (.pure (.val (.int .i64 v1))))), (15, .e (.one (.pure (.val (.bool v3)))))] []) (fun j3 h => ?_) (fun v3 h => ?_)
    · refine W_region mixed rfl ?_
      refine r_move (.p rfl) rfl ?_
      refine r_move (.p rfl) rfl ?_
      refine r_len (.p rfl) rfl (.sl _) trivial (List.length_map _) slc28 ?_
      refine r_bin (.p rfl) rfl rfl (bin_lss _ _ _ _ _ _) rfl ?_
      refine r_move (.p rfl) rfl ?_
      refine r_split (t := 10) rfl (fun c4 => ?_) (fun c4 => ?_)
      · have h := cnd_t c4 h
        refine r_move (.g rfl rfl) rfl ?_
        refine r_move (.g rfl rfl) rfl ?_
        refine r_len (.g rfl rfl) rfl (.sl _) trivial (List.length_map _) slc28 ?_
        refine r_bin (.g rfl rfl) rfl rfl (bin_lss _ _ _ _ _ _) rfl ?_
        refine r_pick (.p rfl) rfl rfl rfl ?_
        refine r_end ?_
        exact sink (decide (v1 < (p1.length : Int))) h (sees_mk (rn []) _ _ ⟨rfl, rfl, rfl, rfl, trivial⟩ trivial rfl rfl)
      · have h := cnd_f c4 h
        refine r_notB rfl rfl ?_
        refine r_notB rfl rfl ?_
        refine r_notB rfl rfl ?_
        refine r_notB rfl rfl ?_
        refine r_pick (.p rfl) rfl rfl rfl ?_
        refine r_end ?_
        exact sink false h (sees_mk (rn []) _ _ ⟨rfl, rfl, rfl, rfl, trivial⟩ trivial rfl rfl)
    · refine W_cond rfl (fun c5 => ?_) (fun c5 => ?_)
      · have h := cnd_t c5 h
        refine W_skip ?_
        refine W_seq ?_
        refine W_block ?_
        refine W_seq ?_
        refine W_seq ?_
        refine W_region mixed rfl ?_
        refine r_move (.p rfl) rfl ?_
        refine r_move (.p rfl) rfl ?_
        obtain ⟨v6, a6, b6, h⟩ := idx_bind h
        refine r_index (.p rfl) rfl rfl slc28 sz3 a6 (map_get b6) rfl ?_
        refine r_loadr1 (.p rfl) rfl ag3 rfl ?_
        refine r_move (.p rfl) rfl ?_
        refine r_move (.p rfl) rfl ?_
        obtain ⟨v7, a7, b7, h⟩ := idx_bind h
        refine r_index (.p rfl) rfl rfl slc28 sz3 a7 (map_get b7) rfl ?_
        refine r_loadr1 (.p rfl) rfl ag3 rfl ?_
        refine r_bin (.p rfl) rfl rfl (bin_lss _ _ _ _ _ _) rfl ?_
        refine r_endD (by kernel_rfl) ?_
        refine W_cond rfl (fun c8 => ?_) (fun c8 => ?_)
        · have h := cnd_t c8 h
          refine W_seq ?_
          refine W_region mixed rfl ?_
          refine r_assign (.p rfl) rfl ?_
          refine r_end ?_
          obtain rfl := Option.some.inj h
          refine W_sees (sees_mk (rn []) [(4, .e (.one (.pure (.val (.int .i64 ((-1)))))))] [] ⟨rfl, trivial⟩ trivial rfl rfl) (W_ret ?_)
          exact ⟨⟨[_], ⟨.tmp _ _ rfl, trivial⟩, rfl⟩, trivial⟩
        · have h := cnd_f c8 h
          refine W_skip ?_
          refine W_seq ?_
          refine W_region mixed rfl ?_
          refine r_move (.p rfl) rfl ?_
          refine r_move (.p rfl) rfl ?_
          obtain ⟨v9, a9, b9, h⟩ := idx_bind h
          refine r_index (.p rfl) rfl rfl slc28 sz3 a9 (map_get b9) rfl ?_
          refine r_loadr1 (.p rfl) rfl ag3 rfl ?_
          refine r_move (.p rfl) rfl ?_
          refine r_move (.p rfl) rfl ?_
          obtain ⟨v10, a10, b10, h⟩ := idx_bind h
          refine r_index (.p rfl) rfl rfl slc28 sz3 a10 (map_get b10) rfl ?_
          refine r_loadr1 (.p rfl) rfl ag3 rfl ?_
          refine r_bin (.p rfl) rfl rfl (bin_gtr _ _ _ _ _ _) rfl ?_
          refine r_endD (by kernel_rfl) ?_
          refine W_cond rfl (fun c11 => ?_) (fun c11 => ?_)
          · have h := cnd_t c11 h
            refine W_seq ?_
            refine W_region mixed rfl ?_
            refine r_assign (.p rfl) rfl ?_
            refine r_end ?_
            obtain rfl := Option.some.inj h
            refine W_sees (sees_mk (rn []) [(4, .e (.one (.pure (.val (.int .i64 1)))))] [] ⟨rfl, trivial⟩ trivial rfl rfl) (W_ret ?_)
            exact ⟨⟨[_], ⟨.tmp _ _ rfl, trivial⟩, rfl⟩, trivial⟩
          · have h := cnd_f c11 h
            refine W_skip ?_
            refine W_region mixed rfl ?_
            refine r_move (.p rfl) rfl ?_
            refine r_bin (.p rfl) rfl rfl (bin_add _ _ _ _ _ _) rfl ?_
            refine r_assign (.p rfl) rfl ?_
            refine r_end ?_
            exact sink (IntKind.wrap .i64 (v1 + 1)) h (sees_mk (rn []) _ _ ⟨rfl, rfl, rfl, trivial⟩ trivial rfl rfl)
      · have h := cnd_f c5 h
        refine W_exit ?_
        exact sink () h (sees_mk (rn []) _ _ ⟨rfl, rfl, trivial⟩ trivial rfl rfl)
  · refine W_sees hs ?_
    refine W_seq ?_
    refine W_seq ?_
    refine W_region mixed rfl ?_
    refine r_move (.p rfl) rfl ?_
    refine r_len (.p rfl) rfl (.sl _) trivial (List.length_map _) slc28 ?_
    refine r_move (.p rfl) rfl ?_
    refine r_len (.p rfl) rfl (.sl _) trivial (List.length_map _) slc28 ?_
    refine r_bin (.p rfl) rfl rfl (bin_lss _ _ _ _ _ _) rfl ?_
    refine r_end ?_
    refine W_cond rfl (fun c12 => ?_) (fun c12 => ?_)
    · have h := cnd_t c12 h
      refine W_seq ?_
      refine W_region mixed rfl ?_
      refine r_assign (.p rfl) rfl ?_
      refine r_end ?_
      obtain rfl := Option.some.inj h
      refine W_sees (sees_mk (rn []) [(4, .e (.one (.pure (.val (.int .i64 ((-1)))))))] [] ⟨rfl, trivial⟩ trivial rfl rfl) (W_ret ?_)
      exact ⟨⟨[_], ⟨.tmp _ _ rfl, trivial⟩, rfl⟩, trivial⟩
    · have h := cnd_f c12 h
      refine W_skip ?_
      refine W_seq ?_
      refine W_seq ?_
      refine W_region mixed rfl ?_
      refine r_move (.p rfl) rfl ?_
      refine r_len (.p rfl) rfl (.sl _) trivial (List.length_map _) slc28 ?_
      refine r_move (.p rfl) rfl ?_
      refine r_len (.p rfl) rfl (.sl _) trivial (List.length_map _) slc28 ?_
      refine r_bin (.p rfl) rfl rfl (bin_gtr _ _ _ _ _ _) rfl ?_
      refine r_end ?_
      refine W_cond rfl (fun c13 => ?_) (fun c13 => ?_)
      · have h := cnd_t c13 h
        refine W_seq ?_
        refine W_region mixed rfl ?_
        refine r_assign (.p rfl) rfl ?_
        refine r_end ?_
        obtain rfl := Option.some.inj h
        refine W_sees (sees_mk (rn []) [(4, .e (.one (.pure (.val (.int .i64 1)))))] [] ⟨rfl, trivial⟩ trivial rfl rfl) (W_ret ?_)
        exact ⟨⟨[_], ⟨.tmp _ _ rfl, trivial⟩, rfl⟩, trivial⟩
      · have h := cnd_f c13 h
        refine W_skip ?_
        refine W_seq ?_
        refine W_region mixed rfl ?_
        refine r_assign (.p rfl) rfl ?_
        refine r_end ?_
        obtain rfl := Option.some.inj h
        refine W_sees (sees_mk (rn []) [(4, .e (.one (.pure (.val (.int .i64 0)))))] [] ⟨rfl, trivial⟩ trivial rfl rfl) (W_ret ?_)
        exact ⟨⟨[_], ⟨.tmp _ _ rfl, trivial⟩, rfl⟩, trivial⟩

set_option maxRecDepth 10000 in
theorem sheaveref36_numbers_c (N : Nat) (p0 : List Int) (r : (List Int)) (h : Sh.sheaveref36_numbers N p0 = some r) : Contract Try.prog 62 [.e (.one (.pure (.sl (p0.map eU8))))] [(1, r.map eI64)] (.e (.one (.own 0))) := by
  unfold Sh.sheaveref36_numbers at h
  refine contract_of_W (n := 20) (rs := [.tmp 2]) Try.func62 rfl rfl rfl (leb rfl) rfl fun w0 S0 => ?_
  refine W_seq ?_
  refine W_region mixed rfl ?_
  refine r_assign (.p rfl) rfl ?_
  refine r_end ?_
  refine W_seq ?_
  refine W_region mixed rfl ?_
  refine r_assign (.p rfl) rfl ?_
  refine r_end ?_
  refine W_seq ?_
  refine W_seq ?_
  refine W_region mixed rfl ?_
  refine r_assign (.p rfl) rfl ?_
  refine r_end ?_
  refine W_whileE (L := Sh.sheaveref36_numbers_L1 N p0) h (fun v1 => mk [(0, .e (.one (.pure (.sl (p0.map eU8))))), (3, .e (.one (.own 2001))), (4, .e (.one (.pure (.val (.int .i64 v1.2)))))] [(2001, .vec 1 (v1.1.map eI64))]) (fun v2 => mk [(3, .e (.one (.own 2002)))] [(2002, .vec 1 (v2.map eI64))]) (fun _ _ => rfl) ((sees_adopt 3 2003 1 rfl rfl).trans (sees_mk (rn [(2001, 2003)]) _ _ ⟨rfl, rfl, rfl, trivial⟩ ⟨rfl, trivial⟩ rfl rfl)) (fun j1 n1 v1 h => ?_) (fun v2 s h hs => ?_)
  · unfold Sh.sheaveref36_numbers_L1 at h
    refine W_seq ?_
    refine W_seq ?_
    refine W_region mixed rfl ?_
    refine r_move (.p rfl) rfl ?_
    refine r_move (.p rfl) rfl ?_
    refine r_len (.p rfl) rfl (.sl _) trivial (List.length_map _) slc35 ?_
    refine r_bin (.p rfl) rfl rfl (bin_lss _ _ _ _ _ _) rfl ?_
    refine r_end ?_
    refine W_cond rfl (fun c3 => ?_) (fun c3 => ?_)
    · have h := cnd_t c3 h
      refine W_skip ?_
      refine W_seq ?_
      refine W_block ?_
      refine W_region mixed rfl ?_
      refine r_move (.p rfl) rfl ?_
      refine r_move (.p rfl) rfl ?_
      refine r_move (.p rfl) rfl ?_
      obtain ⟨v4, a4, b4, h⟩ := idx_bind h
      refine r_index (.p rfl) rfl rfl slc35 sz80 a4 (map_get b4) rfl ?_
      refine r_loadr1 (.p rfl) rfl ag80 rfl ?_
      refine r_conv (.p rfl) rfl (conv_int so80 in3 _ _) rfl ?_
      refine r_buildSlice [(0, .tmp 16, _)] (.p rfl) rfl ⟨rfl, trivial⟩ rfl slc28 sz3 zv3 rfl rfl (leb rfl) rfl rfl ?_
      obtain ⟨c5, h⟩ := chk_bind h
      refine r_append (.p rfl) rfl (.own _ _ _) ⟨rfl, trivial⟩ rfl (.own _ _ _) ⟨rfl, trivial⟩ rfl slc28 slc28 sz3 byt3 (leb rfl) zv3 rfl (len_lim (f := eI64) (g := eI64) (xs := v1.1) (ys := (([(IntKind.wrap .i64 v4)] : List Int))) c5) (map_app eI64 v1.1 (([(IntKind.wrap .i64 v4)] : List Int))) ?_
      refine r_assign (.p rfl) rfl ?_
      refine r_end ?_
      refine W_region mixed rfl ?_
      refine r_move (.p rfl) rfl ?_
      refine r_bin (.p rfl) rfl rfl (bin_add _ _ _ _ _ _) rfl ?_
      refine r_assign (.p rfl) rfl ?_
      refine r_end ?_
      exact sink (v1.1 ++ (([(IntKind.wrap .i64 v4)] : List Int)), (IntKind.wrap .i64 (v1.2 + 1))) h (sees_mk (rn [(2001, 18)]) _ _ ⟨rfl, rfl, rfl, trivial⟩ ⟨rfl, trivial⟩ rfl rfl)
    · have h := cnd_f c3 h
      refine W_exit ?_
      exact sink v1.1 h (sees_mk (rn [(2002, 2001)]) _ _ ⟨rfl, trivial⟩ ⟨rfl, trivial⟩ rfl rfl)
  · refine W_sees hs ?_
    refine W_seq ?_
    refine W_region mixed rfl ?_
    refine r_move (.p rfl) rfl ?_
    refine r_assign (.p rfl) rfl ?_
    refine r_end ?_
    obtain rfl := Option.some.inj h
    refine W_sees (sees_mk (rn [(1000, 2002)]) [(2, .e (.one (.own 1000)))] [(1000, .vec 1 (v2.map eI64))] ⟨rfl, trivial⟩ ⟨rfl, trivial⟩ rfl rfl) (W_ret ?_)
    exact ⟨⟨[_], ⟨.tmp _ _ rfl, trivial⟩, rfl⟩, ⟨rfl, trivial⟩⟩

set_option maxRecDepth 10000 in
theorem sheaveref36_Compare_c (N : Nat) (p0 : ApiMix) (p1 : ApiMix) (r : Int) (h : Sh.sheaveref36_Compare N p0 p1 = some r) : Contract Try.prog 34 [.e (.agg [.pure (.sl (p0.fBase.map eI64)), .pure (.sl (p0.fNext.map eI64)), .pure (.sl (p0.fHeld.map eU8))]), .e (.agg [.pure (.sl (p1.fBase.map eI64)), .pure (.sl (p1.fNext.map eI64)), .pure (.sl (p1.fHeld.map eU8))])] [] (.e (.one (.pure (.val (.int .i64 r))))) := by
  unfold Sh.sheaveref36_Compare at h
  refine contract_of_W (n := 30) (rs := [.tmp 4]) Try.func34 rfl rfl rfl (leb rfl) rfl fun w0 S0 => ?_
  refine W_seq ?_
  refine W_region mixed rfl ?_
  refine r_box (.p rfl) rfl rfl ?_
  refine r_box (.p rfl) rfl rfl ?_
  refine r_assign (.p rfl) rfl ?_
  refine r_end ?_
  refine W_seq ?_
  refine W_seq ?_
  refine W_region mixed rfl ?_
  refine r_fieldAddr (.p rfl) rfl fld37_0 ?_
  refine r_load1 (.p rfl) rfl ag28 rfl rfl ?_
  refine r_fieldAddr (.p rfl) rfl fld37_0 ?_
  refine r_load1 (.p rfl) rfl ag28 rfl rfl ?_
  obtain ⟨v1, a1, h⟩ := bind_some h
  refine r_call (ds0 := [_, _]) [] (sheaveref36_ints_c N p0.fBase p1.fBase v1 a1) (.p rfl) gd61 rfl ⟨rfl, rfl, trivial⟩ rfl rfl rfl (nodupB_spec rfl) trivial rfl ?_
  refine r_assign (.p rfl) rfl ?_
  refine r_end ?_
  refine W_seq ?_
  refine W_region mixed rfl ?_
  refine r_move (.p rfl) rfl ?_
  refine r_bin (.p rfl) rfl rfl (bin_neq _ _ _ _ _ _) rfl ?_
  refine r_end ?_
  refine W_cond rfl (fun c2 => ?_) (fun c2 => ?_)
  · have h := cnd_t c2 h
    refine W_seq ?_
    refine W_region mixed rfl ?_
    refine r_move (.p rfl) rfl ?_
    refine r_assign (.p rfl) rfl ?_
    refine r_end ?_
    obtain rfl := Option.some.inj h
    refine W_sees (sees_mk (rn []) [(4, .e (.one (.pure (.val (.int .i64 v1)))))] [] ⟨rfl, trivial⟩ trivial rfl rfl) (W_ret ?_)
    exact ⟨⟨[_], ⟨.tmp _ _ rfl, trivial⟩, rfl⟩, trivial⟩
  · have h := cnd_f c2 h
    refine W_skip ?_
    refine W_seq ?_
    refine W_seq ?_
    refine W_region mixed rfl ?_
    refine r_fieldAddr (.p rfl) rfl fld37_1 ?_
    refine r_load1 (.p rfl) rfl ag28 rfl rfl ?_
    refine r_fieldAddr (.p rfl) rfl fld37_1 ?_
    refine r_load1 (.p rfl) rfl ag28 rfl rfl ?_
    obtain ⟨v3, a3, h⟩ := bind_some h
    refine r_call (ds0 := [_, _]) [] (sheaveref36_ints_c N p0.fNext p1.fNext v3 a3) (.p rfl) gd61 rfl ⟨rfl, rfl, trivial⟩ rfl rfl rfl (nodupB_spec rfl) trivial rfl ?_
    refine r_assign (.p rfl) rfl ?_
    refine r_end ?_
    refine W_seq ?_
    refine W_region mixed rfl ?_
    refine r_move (.p rfl) rfl ?_
    refine r_bin (.p rfl) rfl rfl (bin_neq _ _ _ _ _ _) rfl ?_
    refine r_end ?_
    refine W_cond rfl (fun c4 => ?_) (fun c4 => ?_)
    · have h := cnd_t c4 h
      refine W_seq ?_
      refine W_region mixed rfl ?_
      refine r_move (.p rfl) rfl ?_
      refine r_assign (.p rfl) rfl ?_
      refine r_end ?_
      obtain rfl := Option.some.inj h
      refine W_sees (sees_mk (rn []) [(4, .e (.one (.pure (.val (.int .i64 v3)))))] [] ⟨rfl, trivial⟩ trivial rfl rfl) (W_ret ?_)
      exact ⟨⟨[_], ⟨.tmp _ _ rfl, trivial⟩, rfl⟩, trivial⟩
    · have h := cnd_f c4 h
      refine W_skip ?_
      refine W_seq ?_
      refine W_region mixed rfl ?_
      refine r_fieldAddr (.p rfl) rfl fld37_2 ?_
      refine r_load1 (.p rfl) rfl ag35 rfl rfl ?_
      obtain ⟨v5, a5, h⟩ := bind_some h
      refine r_call (ds0 := [_]) [2001] (sheaveref36_numbers_c N p0.fHeld v5 a5) (.p rfl) gd62 rfl ⟨rfl, trivial⟩ rfl rfl rfl (nodupB_spec rfl) ⟨rfl, trivial⟩ rfl ?_
      refine r_fieldAddr (.p rfl) rfl fld37_2 ?_
      refine r_load1 (.p rfl) rfl ag35 rfl rfl ?_
      obtain ⟨v6, a6, h⟩ := bind_some h
      refine r_call (ds0 := [_]) [2002] (sheaveref36_numbers_c N p1.fHeld v6 a6) (.p rfl) gd62 rfl ⟨rfl, trivial⟩ rfl rfl rfl (nodupB_spec rfl) ⟨rfl, trivial⟩ rfl ?_
      obtain ⟨v7, a7, h⟩ := bind_some h
      refine r_callL (ds0 := [_, _]) [] [(2001, _), (2002, _)] (sheaveref36_ints_c N v5 v6 v7 a7) (.p rfl) gd61 rfl ⟨rfl, rfl, trivial⟩ ⟨rfl, rfl, trivial⟩ rfl rfl rfl (nodupB_spec rfl) trivial rfl flatV_nil rfl ?_
      refine r_assign (.p rfl) rfl ?_
      refine r_endD (by kernel_rfl) ?_
      obtain rfl := Option.some.inj h
      refine W_sees (sees_mk (rn []) [(4, .e (.one (.pure (.val (.int .i64 v7)))))] [] ⟨rfl, trivial⟩ trivial rfl rfl) (W_ret ?_)
      exact ⟨⟨[_], ⟨.tmp _ _ rfl, trivial⟩, rfl⟩, trivial⟩

set_option maxRecDepth 10000 in
theorem sheaveref36_Equal_c (N : Nat) (p0 : ApiMix) (p1 : ApiMix) (r : Bool) (h : Sh.sheaveref36_Equal N p0 p1 = some r) : Contract Try.prog 25 [.e (.agg [.pure (.sl (p0.fBase.map eI64)), .pure (.sl (p0.fNext.map eI64)), .pure (.sl (p0.fHeld.map eU8))]), .e (.agg [.pure (.sl (p1.fBase.map eI64)), .pure (.sl (p1.fNext.map eI64)), .pure (.sl (p1.fHeld.map eU8))])] [] (.e (.one (.pure (.val (.bool r))))) := by
  unfold Sh.sheaveref36_Equal at h
  refine contract_of_W (n := 9) (rs := [.tmp 4]) Try.func25 rfl rfl rfl (leb rfl) rfl fun w0 S0 => ?_
  refine W_seq ?_
  refine W_region mixed rfl ?_
  refine r_box (.p rfl) rfl rfl ?_
  refine r_box (.p rfl) rfl rfl ?_
  refine r_assign (.p rfl) rfl ?_
  refine r_end ?_
  refine W_seq ?_
  refine W_region mixed rfl ?_
  refine r_loadN (.p rfl) rfl ag37 sz37 rfl rfl rfl ?_
  refine r_loadN (.p rfl) rfl ag37 sz37 rfl rfl rfl ?_
  obtain ⟨v1, a1, h⟩ := bind_some h
  refine r_call (ds0 := [_, _]) [] (sheaveref36_Compare_c N p0 p1 v1 a1) (.p rfl) gd34 rfl ⟨rfl, rfl, trivial⟩ rfl rfl rfl (nodupB_spec rfl) trivial rfl ?_
  refine r_bin (.p rfl) rfl rfl (bin_eql _ _ _ _ _ _) rfl ?_
  refine r_assign (.p rfl) rfl ?_
  refine r_end ?_
  obtain rfl := Option.some.inj h
  refine W_sees (sees_mk (rn []) [(4, .e (.one (.pure (.val (.bool ((v1 == 0)))))))] [] ⟨rfl, trivial⟩ trivial rfl rfl) (W_ret ?_)
  exact ⟨⟨[_], ⟨.tmp _ _ rfl, trivial⟩, rfl⟩, trivial⟩

end Go.Lift
