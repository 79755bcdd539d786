/- Lemmas for PlanFailureSaid, which YtohibkdhajkmdaaFinP5 proves. -/
import Derived.Test.YtohibkdhajkmdaaCode
/- That the code does what the shallow programs do, function by function. Written by a program (gen.py). -/
namespace Go.Lift
open Go.RowKit
open Go.Proofs
set_option maxRecDepth 10000 in
theorem sheavelaw39_example_c (N : Nat) (p0 : Bool) (p1 : Bool) (r : ApiProblem) (h : Sh.sheavelaw39_example N p0 p1 = some r) : Contract Try.prog 35 [.e (.one (.pure (.val (.bool p0)))), .e (.one (.pure (.val (.bool p1))))] [(1, r.fVersions.map eI64), (1, r.fNow.map eI64), (1, r.fTarget.map eI64), (6, r.fTables.map eApiTable)] (.e (.agg [.own 0, .own 1, .own 2, .own 3])) := by
 unfold Sh.sheavelaw39_example at h
 refine contract_of_W (n := 19) (rs := [.cell 4 30]) Try.func35 rfl rfl rfl (leb rfl) (leb rfl) rfl fun w0 S0 => ?_
 refine W_seq (W_region mixed rfl (r_alloc (.p rfl) zv30 rfl rfl rfl (r_end (W_seq (W_region mixed rfl (r_move (.p rfl) rfl (r_move (.p rfl) rfl (r_un (.p rfl) rfl (un_not _) rfl (r_buildSlice [(0, .const (.bool true), _), (1, .tmp 8, _)] (.p rfl) rfl ⟨rfl, rfl, trivial⟩ rfl slc76 sz4 zv4 rfl rfl (leb rfl) rfl rfl (r_buildSlice [(0, .const (.bool false), _), (1, .const (.bool true), _)] (.p rfl) rfl ⟨rfl, rfl, trivial⟩ rfl slc76 sz4 zv4 rfl rfl (leb rfl) rfl rfl (r_see (sees_frz 9 _ _ rfl rfl) (r_see (sees_frz 10 _ _ rfl rfl) (r_buildSlice [(0, .tmp 9, _), (1, .tmp 10, _)] (.p rfl) rfl ⟨rfl, rfl, trivial⟩ rfl slc73 sz76 zv76 rfl rfl (leb rfl) rfl rfl (r_build [(0, .const (.int .i64 1), _), (1, .const (.int .i64 0), _), (2, .const (.int .i64 1), _), (3, .tmp 6, _), (4, .tmp 11, _)] (.p rfl) rfl ⟨rfl, rfl, rfl, rfl, rfl, trivial⟩ zv75 rfl rfl pl75 rfl (r_alloc (.p rfl) zv75 rfl rfl rfl (r_store rfl rfl rfl rfl sz75 rfl (leb rfl) rfl (r_end (W_seq (W_region mixed rfl (r_buildSlice [(0, .const (.int .i64 2), _), (1, .const (.int .i64 2), _)] (.p rfl) rfl ⟨rfl, rfl, trivial⟩ rfl slc27 sz3 zv3 rfl rfl (leb rfl) rfl rfl (r_buildSlice [(0, .const (.int .i64 0), _), (1, .const (.int .i64 0), _)] (.p rfl) rfl ⟨rfl, rfl, trivial⟩ rfl slc27 sz3 zv3 rfl rfl (leb rfl) rfl rfl (r_buildSlice [(0, .const (.int .i64 1), _), (1, .const (.int .i64 1), _)] (.p rfl) rfl ⟨rfl, rfl, trivial⟩ rfl slc27 sz3 zv3 rfl rfl (leb rfl) rfl rfl (r_loadN (.p rfl) rfl ag75 sz75 rfl rfl rfl (r_see (sees_frz 11 _ _ rfl rfl) (r_buildSlice [(0, .tmp 16, _)] (.p rfl) rfl ⟨rfl, trivial⟩ rfl slc28 sz75 zv75 rfl rfl (leb rfl) rfl rfl (r_build [(0, .tmp 13, _), (1, .tmp 14, _), (2, .tmp 15, _), (3, .tmp 17, _)] (.p rfl) rfl ⟨rfl, rfl, rfl, rfl, trivial⟩ zv30 rfl rfl pl30 rfl (r_store rfl rfl rfl rfl sz30 rfl (leb rfl) rfl (r_end ?_))))))))))))))))))))))))))))
 obtain rfl := Option.some.inj h
 refine W_sees (sees_mkL (rn [(1000, 13), (1001, 14), (1002, 15), (1003, 17)]) [(4, .e (.one (.ptr 4 0)))] [(4, .box [.own 1000, .own 1001, .own 1002, .own 1003]), (1000, .vec 1 ((([2, 2] : List Int)).map eI64)), (1001, .vec 1 ((([0, 0] : List Int)).map eI64)), (1002, .vec 1 ((([1, 1] : List Int)).map eI64)), (1003, .vec 6 ((([(ApiTable.mk 1 0 1 p1 (([([true, (!p0)] : List Bool), ([false, true] : List Bool)] : List (List Bool))) (([] : List (List Bool))))] : List ApiTable)).map eApiTable))] ⟨rfl, trivial⟩ ⟨rfl, rfl, rfl, rfl, rfl, trivial⟩ rfl rfl) (W_ret ?_)
 exact ⟨⟨[_], ⟨.cellN _ _ _ _ _ _ _ rfl rfl ag30 sz30 rfl rfl (ltb rfl), trivial⟩, rfl⟩, ⟨rfl, rfl, rfl, rfl, trivial⟩⟩
set_option maxRecDepth 10000 in
theorem fleet_within_c (N : Nat) (p0 : Int) (p1 : Int) (r : Bool) (h : Sh.fleet_within N p0 p1 = some r) : Contract Try.prog 89 [.e (.one (.pure (.val (.int .i64 p0)))), .e (.one (.pure (.val (.int .i64 p1))))] [] (.e (.one (.pure (.val (.bool r))))) := by
 unfold Sh.fleet_within at h
 refine contract_of_W (n := 12) (rs := [.tmp 4]) Try.func89 rfl rfl rfl (leb rfl) (leb rfl) rfl fun w0 S0 => ?_
 refine W_seq (W_region mixed rfl (r_assign (.p rfl) rfl (r_end ?_)))
 refine W_join h (fun v1 => mk [(4, .e (.one (.pure (.val (.bool v1)))))] []) (fun j1 h => ?_) (fun v1 h => ?_)
 ·refine W_region mixed rfl (r_move (.p rfl) rfl (r_bin (.p rfl) rfl rfl (bin_geq _ _ _ _ _ _) rfl (r_move (.p rfl) rfl ?_)))
  refine r_split (t := 7) rfl (fun c2 => ?_) (fun c2 => ?_)
  ·have h := cnd_t c2 h
   refine r_move (.g rfl rfl) rfl (r_move (.g rfl rfl) rfl (r_bin (.g rfl rfl) rfl rfl (bin_lss _ _ _ _ _ _) rfl (r_pick (.p rfl) rfl rfl rfl (r_assign (.p rfl) rfl (r_end ?_)))))
   exact sink (decide (p0 < p1)) h (sees_mkL (rn []) _ _ ⟨rfl, trivial⟩ trivial rfl rfl)
  ·have h := cnd_f c2 h
   refine r_notB rfl rfl (r_notB rfl rfl (r_notB rfl rfl (r_pick (.p rfl) rfl rfl rfl (r_assign (.p rfl) rfl (r_end ?_)))))
   exact sink false h (sees_mkL (rn []) _ _ ⟨rfl, trivial⟩ trivial rfl rfl)
 ·obtain rfl := Option.some.inj h
  refine W_sees (sees_mkL (rn []) [(4, .e (.one (.pure (.val (.bool v1)))))] [] ⟨rfl, trivial⟩ trivial rfl rfl) (W_ret ?_)
  exact ⟨⟨[_], ⟨.tmp _ _ rfl, trivial⟩, rfl⟩, trivial⟩
set_option maxRecDepth 10000 in
theorem fleet_kind_c (N : Nat) (p0 : Int) (p1 : Bool) (r : Bool) (h : Sh.fleet_kind N p0 p1 = some r) : Contract Try.prog 106 [.e (.one (.pure (.val (.int .i64 p0)))), .e (.one (.pure (.val (.bool p1))))] [] (.e (.one (.pure (.val (.bool r))))) := by
 unfold Sh.fleet_kind at h
 refine contract_of_W (n := 23) (rs := [.tmp 4]) Try.func106 rfl rfl rfl (leb rfl) (leb rfl) rfl fun w0 S0 => ?_
 refine W_seq (W_region mixed rfl (r_assign (.p rfl) rfl (r_end ?_)))
 refine W_join h (fun v1 => mk [(4, .e (.one (.pure (.val (.bool v1)))))] []) (fun j1 h => ?_) (fun v1 h => ?_)
 ·refine W_region mixed rfl (r_move (.p rfl) rfl (r_bin (.p rfl) rfl rfl (bin_eql _ _ _ _ _ _) rfl (r_move (.p rfl) rfl ?_)))
  refine r_split (t := 7) rfl (fun c2 => ?_) (fun c2 => ?_)
  ·have h := cnd_t c2 h
   refine r_notB rfl rfl (r_notB rfl rfl (r_pick (.p rfl) rfl rfl rfl (r_move (.p rfl) rfl (r_notB rfl rfl (r_notB rfl rfl (r_notB rfl rfl (r_notU rfl rfl (r_notU rfl rfl (r_notB rfl rfl (r_notB rfl rfl (r_notU rfl rfl (r_notU rfl rfl (r_notB rfl rfl (r_pick (.p rfl) rfl rfl rfl (r_assign (.p rfl) rfl (r_end ?_))))))))))))))))
   exact sink true h (sees_mkL (rn []) _ _ ⟨rfl, trivial⟩ trivial rfl rfl)
  ·have h := cnd_f c2 h
   refine r_move (.g rfl rfl) rfl (r_bin (.g rfl rfl) rfl rfl (bin_eql _ _ _ _ _ _) rfl (r_pick (.p rfl) rfl rfl rfl (r_move (.p rfl) rfl ?_)))
   refine r_split (t := 11) rfl (fun c3 => ?_) (fun c3 => ?_)
   ·have h := cnd_t c3 h
    refine r_notB rfl rfl (r_notB rfl rfl (r_notB rfl rfl (r_notU rfl rfl (r_notU rfl rfl (r_notB rfl rfl (r_notB rfl rfl (r_notU rfl rfl (r_notU rfl rfl (r_notB rfl rfl (r_pick (.p rfl) rfl rfl rfl (r_assign (.p rfl) rfl (r_end ?_))))))))))))
    exact sink true h (sees_mkL (rn []) _ _ ⟨rfl, trivial⟩ trivial rfl rfl)
   ·have h := cnd_f c3 h
    refine r_move (.g rfl rfl) rfl (r_bin (.g rfl rfl) rfl rfl (bin_eql _ _ _ _ _ _) rfl (r_move (.g rfl rfl) rfl ?_))
    refine r_split (t := 14) rfl (fun c4 => ?_) (fun c4 => ?_)
    ·have h := cnd_t c4 h
     refine r_notB rfl rfl (r_notB rfl rfl (r_pick (.g rfl rfl) rfl rfl rfl (r_move (.g rfl rfl) rfl (r_move (.g rfl rfl) rfl (r_un (.g rfl rfl) rfl (un_not _) rfl (r_pick (.g rfl rfl) rfl rfl rfl (r_pick (.p rfl) rfl rfl rfl (r_assign (.p rfl) rfl (r_end ?_)))))))))
     exact sink (!p1) h (sees_mkL (rn []) _ _ ⟨rfl, trivial⟩ trivial rfl rfl)
    ·have h := cnd_f c4 h
     refine r_move (.g rfl rfl) rfl (r_bin (.g rfl rfl) rfl rfl (bin_eql _ _ _ _ _ _) rfl (r_pick (.g rfl rfl) rfl rfl rfl (r_move (.g rfl rfl) rfl ?_)))
     refine r_split (t := 18) rfl (fun c5 => ?_) (fun c5 => ?_)
     ·have h := cnd_t c5 h
      refine r_move (.g rfl rfl) rfl (r_un (.g rfl rfl) rfl (un_not _) rfl (r_pick (.g rfl rfl) rfl rfl rfl (r_pick (.p rfl) rfl rfl rfl (r_assign (.p rfl) rfl (r_end ?_)))))
      exact sink (!p1) h (sees_mkL (rn []) _ _ ⟨rfl, trivial⟩ trivial rfl rfl)
     ·have h := cnd_f c5 h
      refine r_notB rfl rfl (r_notB rfl rfl (r_pick (.g rfl rfl) rfl rfl rfl (r_pick (.p rfl) rfl rfl rfl (r_assign (.p rfl) rfl (r_end ?_)))))
      exact sink false h (sees_mkL (rn []) _ _ ⟨rfl, trivial⟩ trivial rfl rfl)
 ·obtain rfl := Option.some.inj h
  refine W_sees (sees_mkL (rn []) [(4, .e (.one (.pure (.val (.bool v1)))))] [] ⟨rfl, trivial⟩ trivial rfl rfl) (W_ret ?_)
  exact ⟨⟨[_], ⟨.tmp _ _ rfl, trivial⟩, rfl⟩, trivial⟩
set_option maxRecDepth 10000 in
theorem fleet_matrix_1_c (N : Nat) (p0 : List Bool) (p1 : Int) (r : Bool) (h : Sh.fleet_matrix_1 N p0 p1 = some r) : Contract Try.prog 116 [.e (.one (.pure (.sl (p0.map eB)))), .e (.one (.rop [.val (.int .i64 p1)]))] [] (.e (.one (.pure (.val (.bool r))))) := by
 unfold Sh.fleet_matrix_1 at h
 refine contract_of_W (n := 8) (rs := [.tmp 3]) Try.func116 rfl rfl rfl (leb rfl) (leb rfl) rfl fun w0 S0 => ?_
 refine W_seq (W_region mixed rfl (r_assign (.p rfl) rfl (r_end (W_seq (W_region mixed rfl (r_move (.p rfl) rfl (r_len (.p rfl) rfl (.sl _) trivial (List.length_map _) slc76 (r_loadr1 (.p rfl) rfl ag3 rfl (r_bin (.p rfl) rfl rfl (bin_neq _ _ _ _ _ _) rfl (r_assign (.p rfl) rfl (r_end ?_)))))))))))
 obtain rfl := Option.some.inj h
 refine W_sees (sees_mkL (rn []) [(3, .e (.one (.pure (.val (.bool (((p0.length : Int) != p1)))))))] [] ⟨rfl, trivial⟩ trivial rfl rfl) (W_ret ?_)
 exact ⟨⟨[_], ⟨.tmp _ _ rfl, trivial⟩, rfl⟩, trivial⟩
set_option maxRecDepth 10000 in
theorem slices_IndexFunc_bool_bool_c (N : Nat) (p0 : List (List Bool)) (p1 : (List Bool) → Option Bool) (r : Int) (h : Sh.slices_IndexFunc_bool_bool N p0 p1 = some r) : Contract Try.prog 122 [.e (.one (.pure (.sl (p0.map (eSl eB))))), .e (.one (.clo (cloG (ea1 false (eSl eB)) tB p1)))] [] (.e (.one (.pure (.val (.int .i64 r))))) := by
 unfold Sh.slices_IndexFunc_bool_bool at h
 refine contract_of_W (n := 19) (rs := [.tmp 4]) Try.func122 rfl rfl rfl (leb rfl) (leb rfl) rfl fun w0 S0 => ?_
 refine W_seq (W_region mixed rfl (r_assign (.p rfl) rfl (r_end (W_seq (W_seq (W_region mixed rfl (r_move (.p rfl) rfl (r_len (.p rfl) rfl (.sl _) trivial (List.length_map _) slc73 (r_move (.p rfl) rfl (r_end ?_))))))))))
 refine W_whileE (L := Sh.slices_IndexFunc_bool_bool_L1 N p0 p1) h (fun v1 => mk [(0, .e (.one (.pure (.sl (p0.map (eSl eB)))))), (1, .e (.one (.clo (cloG (ea1 false (eSl eB)) tB p1)))), (7, .e (.one (.pure (.val (.int .i64 ((p0.length : Int))))))), (8, .e (.one (.pure (.val (.int .i64 v1)))))] []) (fun v2 => mk [] []) (fun _ _ => rfl) (sees_mkL (rn []) _ _ ⟨rfl, rfl, rfl, rfl, trivial⟩ trivial rfl rfl) (fun j1 n1 v1 h => ?_) (fun v2 s h hs => ?_)
 ·unfold Sh.slices_IndexFunc_bool_bool_L1 at h
  refine W_seq (W_region mixed rfl (r_bin (.p rfl) rfl rfl (bin_lss _ _ _ _ _ _) rfl (r_end (W_seq ?_))))
  refine W_cond rfl (fun c3 => ?_) (fun c3 => ?_)
  ·have h := cnd_t c3 h
   refine W_skip (W_seq (W_block (W_seq (W_region mixed rfl (r_move (.p rfl) rfl (r_assign (.p rfl) rfl (r_end (W_seq (W_region mixed rfl (r_move (.p rfl) rfl (r_move (.p rfl) rfl (r_move (.p rfl) rfl ?_))))))))))))
   obtain ⟨v4, a4, b4, h⟩ := idx_bind h
   refine r_index (.p rfl) rfl rfl slc73 sz76 a4 (map_get b4) rfl (r_loadr1 (.p rfl) rfl ag76 rfl ?_)
   obtain ⟨v5, a5, h⟩ := bind_some h
   refine r_callv (ds0 := [_]) (ar := (ea1 false (eSl eB)) v4) (.p rfl) rfl rfl ⟨rfl, trivial⟩ rfl rfl rfl (cloG_at (inj_ea1 _ _ (injSl injB)) a5) ?_
   refine r_end ?_
   refine W_cond rfl (fun c6 => ?_) (fun c6 => ?_)
   ·have h := cnd_t c6 h
    refine W_seq (W_region mixed rfl (r_move (.p rfl) rfl (r_assign (.p rfl) rfl (r_end ?_))))
    obtain rfl := Option.some.inj h
    refine W_sees (sees_mkL (rn []) [(4, .e (.one (.pure (.val (.int .i64 v1)))))] [] ⟨rfl, trivial⟩ trivial rfl rfl) (W_ret ?_)
    exact ⟨⟨[_], ⟨.tmp _ _ rfl, trivial⟩, rfl⟩, trivial⟩
   ·have h := cnd_f c6 h
    refine W_skip (W_region mixed rfl (r_bin (.p rfl) rfl rfl (bin_add _ _ _ _ _ _) rfl (r_move (.p rfl) rfl (r_end ?_))))
    exact sink (IntKind.wrap .i64 (v1 + 1)) h (sees_mkL (rn []) _ _ ⟨rfl, rfl, rfl, rfl, trivial⟩ trivial rfl rfl)
  ·have h := cnd_f c3 h
   refine W_exit ?_
   exact sink () h (sees_mkL (rn []) _ _ trivial trivial rfl rfl)
 ·refine W_sees hs (W_seq (W_region mixed rfl (r_assign (.p rfl) rfl (r_end ?_))))
  obtain rfl := Option.some.inj h
  refine W_sees (sees_mkL (rn []) [(4, .e (.one (.pure (.val (.int .i64 ((-1)))))))] [] ⟨rfl, trivial⟩ trivial rfl rfl) (W_ret ?_)
  exact ⟨⟨[_], ⟨.tmp _ _ rfl, trivial⟩, rfl⟩, trivial⟩
set_option maxRecDepth 10000 in
theorem slices_ContainsFunc_bool_bool_c (N : Nat) (p0 : List (List Bool)) (p1 : (List Bool) → Option Bool) (r : Bool) (h : Sh.slices_ContainsFunc_bool_bool N p0 p1 = some r) : Contract Try.prog 115 [.e (.one (.pure (.sl (p0.map (eSl eB))))), .e (.one (.clo (cloG (ea1 false (eSl eB)) tB p1)))] [] (.e (.one (.pure (.val (.bool r))))) := by
 unfold Sh.slices_ContainsFunc_bool_bool at h
 refine contract_of_W (n := 9) (rs := [.tmp 4]) Try.func115 rfl rfl rfl (leb rfl) (leb rfl) rfl fun w0 S0 => ?_
 refine W_seq (W_region mixed rfl (r_assign (.p rfl) rfl (r_end (W_seq (W_region mixed rfl (r_move (.p rfl) rfl (r_move (.p rfl) rfl ?_)))))))
 obtain ⟨v1, a1, h⟩ := bind_some h
 refine r_call (ds0 := [_, _]) [] (slices_IndexFunc_bool_bool_c N p0 p1 v1 a1) (.p rfl) gd122 rfl ⟨rfl, rfl, trivial⟩ rfl rfl rfl (nodupL_spec rfl) trivial rfl (r_bin (.p rfl) rfl rfl (bin_geq _ _ _ _ _ _) rfl (r_assign (.p rfl) rfl (r_end ?_)))
 obtain rfl := Option.some.inj h
 refine W_sees (sees_mkL (rn []) [(4, .e (.one (.pure (.val (.bool ((decide (0 ≤ v1))))))))] [] ⟨rfl, trivial⟩ trivial rfl rfl) (W_ret ?_)
 exact ⟨⟨[_], ⟨.tmp _ _ rfl, trivial⟩, rfl⟩, trivial⟩
set_option maxRecDepth 10000 in
theorem fleet_matrix_c (N : Nat) (p0 : List (List Bool)) (p1 : Int) (p2 : Int) (r : Bool) (h : Sh.fleet_matrix N p0 p1 p2 = some r) : Contract Try.prog 107 [.e (.one (.pure (.sl (p0.map (eSl eB))))), .e (.one (.pure (.val (.int .i64 p1)))), .e (.one (.pure (.val (.int .i64 p2))))] [] (.e (.one (.pure (.val (.bool r))))) := by
 unfold Sh.fleet_matrix at h
 refine contract_of_W (n := 17) (rs := [.tmp 6]) Try.func107 rfl rfl rfl (leb rfl) (leb rfl) rfl fun w0 S0 => ?_
 refine W_seq (W_region mixed rfl (r_box (.p rfl) rfl rfl (r_assign (.p rfl) rfl (r_end ?_))))
 refine W_join h (fun v1 => mk [(6, .e (.one (.pure (.val (.bool v1)))))] []) (fun j1 h => ?_) (fun v1 h => ?_)
 ·refine W_region mixed rfl (r_move (.p rfl) rfl (r_len (.p rfl) rfl (.sl _) trivial (List.length_map _) slc73 (r_move (.p rfl) rfl (r_bin (.p rfl) rfl rfl (bin_eql _ _ _ _ _ _) rfl (r_move (.p rfl) rfl ?_)))))
  refine r_split (t := 11) rfl (fun c2 => ?_) (fun c2 => ?_)
  ·have h := cnd_t c2 h
   refine r_move (.g rfl rfl) rfl (r_see (sees_fzb 5 [.val (.int .i64 p2)] rfl rfl) ?_)
   refine r_makeFunc (capD := [_]) (cloG (ea1 false (eSl eB)) tB ((fun (x : List Bool) => Sh.fleet_matrix_1 N x p2))) (.g rfl rfl) gd116 rfl ⟨rfl, trivial⟩ rfl (fun ar t ht => by obtain ⟨x, r, rfl, hq, rfl⟩ := cloG_some ht; exact fleet_matrix_1_c N x p2 r hq) ?_
   obtain ⟨v3, a3, h⟩ := bind_some h
   refine r_call (ds0 := [_, _]) [] (slices_ContainsFunc_bool_bool_c N p0 ((fun (x : List Bool) => Sh.fleet_matrix_1 N x p2)) v3 a3) (.g rfl rfl) gd115 rfl ⟨rfl, rfl, trivial⟩ rfl rfl rfl (nodupL_spec rfl) trivial rfl ?_
   refine r_un (.g rfl rfl) rfl (un_not _) rfl (r_pick (.p rfl) rfl rfl rfl (r_assign (.p rfl) rfl (r_end ?_)))
   exact sink (!v3) h (sees_mkL (rn []) _ _ ⟨rfl, trivial⟩ trivial rfl rfl)
  ·have h := cnd_f c2 h
   refine r_notB rfl rfl (r_notB rfl rfl (r_notB rfl rfl (r_notB rfl rfl (r_pick (.p rfl) rfl rfl rfl (r_assign (.p rfl) rfl (r_end ?_))))))
   exact sink false h (sees_mkL (rn []) _ _ ⟨rfl, trivial⟩ trivial rfl rfl)
 ·obtain rfl := Option.some.inj h
  refine W_sees (sees_mkL (rn []) [(6, .e (.one (.pure (.val (.bool v1)))))] [] ⟨rfl, trivial⟩ trivial rfl rfl) (W_ret ?_)
  exact ⟨⟨[_], ⟨.tmp _ _ rfl, trivial⟩, rfl⟩, trivial⟩
set_option maxRecDepth 10000 in
theorem fleet_table_c (N : Nat) (p0 : ApiProblem) (p1 : ApiTable) (r : Int) (h : Sh.fleet_table N p0 p1 = some r) : Contract Try.prog 90 [.e (.agg [.pure (.sl (p0.fVersions.map eI64)), .pure (.sl (p0.fNow.map eI64)), .pure (.sl (p0.fTarget.map eI64)), .pure (.sl (p0.fTables.map eApiTable))]), .e (.agg [.pure (.val (.int .i64 p1.fKind)), .pure (.val (.int .i64 p1.fFrom)), .pure (.val (.int .i64 p1.fTo)), .pure (.val (.bool p1.fAware)), .pure (.sl (p1.fOK.map (eSl eB))), .pure (.sl (p1.fRewrite.map (eSl eB)))])] [] (.e (.one (.pure (.val (.int .i64 r))))) := by
 unfold Sh.fleet_table at h
 refine contract_of_W (n := 87) (rs := [.tmp 4]) Try.func90 rfl rfl rfl (leb rfl) (leb rfl) rfl fun w0 S0 => ?_
 refine W_seq (W_region mixed rfl (r_box (.p rfl) rfl rfl (r_box (.p rfl) rfl rfl (r_assign (.p rfl) rfl (r_end (W_seq (W_seq (W_region mixed rfl (r_fieldAddr (.p rfl) rfl fld75_0 (r_load1 (.p rfl) rfl ag3 rfl rfl (r_fieldAddr (.p rfl) rfl fld75_3 (r_load1 (.p rfl) rfl ag4 rfl rfl ?_))))))))))))
 obtain ⟨v1, a1, h⟩ := bind_some h
 refine r_call (ds0 := [_, _]) [] (fleet_kind_c N p1.fKind p1.fAware v1 a1) (.p rfl) gd106 rfl ⟨rfl, rfl, trivial⟩ rfl rfl rfl (nodupL_spec rfl) trivial rfl (r_un (.p rfl) rfl (un_not _) rfl (r_end ?_))
 refine W_cond rfl (fun c2 => ?_) (fun c2 => ?_)
 ·have h := cnd_t c2 h
  refine W_seq (W_region mixed rfl (r_assign (.p rfl) rfl (r_end ?_)))
  obtain rfl := Option.some.inj h
  refine W_sees (sees_mkL (rn []) [(4, .e (.one (.pure (.val (.int .i64 1)))))] [] ⟨rfl, trivial⟩ trivial rfl rfl) (W_ret ?_)
  exact ⟨⟨[_], ⟨.tmp _ _ rfl, trivial⟩, rfl⟩, trivial⟩
 ·have h := cnd_f c2 h
  refine W_skip (W_seq ?_)
  refine W_join h (fun v3 => mk [(2, .e (.one (.ptr 2 0))), (3, .e (.one (.ptr 3 0))), (29, .e (.one (.pure (.val (.bool v3)))))] [(2, .box [.pure (.sl (p0.fVersions.map eI64)), .pure (.sl (p0.fNow.map eI64)), .pure (.sl (p0.fTarget.map eI64)), .pure (.sl (p0.fTables.map eApiTable))]), (3, .box [.pure (.val (.int .i64 p1.fKind)), .pure (.val (.int .i64 p1.fFrom)), .pure (.val (.int .i64 p1.fTo)), .pure (.val (.bool p1.fAware)), .pure (.sl (p1.fOK.map (eSl eB))), .pure (.sl (p1.fRewrite.map (eSl eB)))])]) (fun j3 h => ?_) (fun v3 h => ?_)
  ·refine W_region mixed rfl (r_fieldAddr (.p rfl) rfl fld75_1 (r_load1 (.p rfl) rfl ag3 rfl rfl (r_fieldAddr (.p rfl) rfl fld30_0 (r_load1 (.p rfl) rfl ag27 rfl rfl (r_len (.p rfl) rfl (.sl _) trivial (List.length_map _) slc27 ?_)))))
   obtain ⟨v4, a4, h⟩ := bind_some h
   refine r_call (ds0 := [_, _]) [] (fleet_within_c N p1.fFrom ((p0.fVersions.length : Int)) v4 a4) (.p rfl) gd89 rfl ⟨rfl, rfl, trivial⟩ rfl rfl rfl (nodupL_spec rfl) trivial rfl (r_un (.p rfl) rfl (un_not _) rfl (r_move (.p rfl) rfl ?_))
   refine r_split (t := 21) rfl (fun c5 => ?_) (fun c5 => ?_)
   ·have h := cnd_t c5 h
    refine r_notB rfl rfl (r_notB rfl rfl (r_notB rfl rfl (r_notB rfl rfl (r_notB rfl rfl (r_notB rfl rfl (r_notB rfl rfl (r_pick (.p rfl) rfl rfl rfl (r_end ?_))))))))
    exact sink true h (sees_mkL (rn []) _ _ ⟨rfl, rfl, rfl, trivial⟩ ⟨rfl, rfl, trivial⟩ rfl rfl)
   ·have h := cnd_f c5 h
    refine r_fieldAddr (.g rfl rfl) rfl fld75_2 (r_load1 (.g rfl rfl) rfl ag3 rfl rfl (r_fieldAddr (.g rfl rfl) rfl fld30_0 (r_load1 (.g rfl rfl) rfl ag27 rfl rfl (r_len (.g rfl rfl) rfl (.sl _) trivial (List.length_map _) slc27 ?_))))
    obtain ⟨v6, a6, h⟩ := bind_some h
    refine r_call (ds0 := [_, _]) [] (fleet_within_c N p1.fTo ((p0.fVersions.length : Int)) v6 a6) (.g rfl rfl) gd89 rfl ⟨rfl, rfl, trivial⟩ rfl rfl rfl (nodupL_spec rfl) trivial rfl (r_un (.g rfl rfl) rfl (un_not _) rfl (r_pick (.p rfl) rfl rfl rfl (r_end ?_)))
    exact sink (!v6) h (sees_mkL (rn []) _ _ ⟨rfl, rfl, rfl, trivial⟩ ⟨rfl, rfl, trivial⟩ rfl rfl)
  ·refine W_cond rfl (fun c7 => ?_) (fun c7 => ?_)
   ·have h := cnd_t c7 h
    refine W_seq (W_region mixed rfl (r_assign (.p rfl) rfl (r_end ?_)))
    obtain rfl := Option.some.inj h
    refine W_sees (sees_mkL (rn []) [(4, .e (.one (.pure (.val (.int .i64 4)))))] [] ⟨rfl, trivial⟩ trivial rfl rfl) (W_ret ?_)
    exact ⟨⟨[_], ⟨.tmp _ _ rfl, trivial⟩, rfl⟩, trivial⟩
   ·have h := cnd_f c7 h
    refine W_skip (W_seq (W_region mixed rfl (r_fieldAddr (.p rfl) rfl fld30_0 (r_load1 (.p rfl) rfl ag27 rfl rfl (r_fieldAddr (.p rfl) rfl fld75_1 (r_load1 (.p rfl) rfl ag3 rfl rfl ?_))))))
    obtain ⟨v8, a8, b8, h⟩ := idx_bind h
    refine r_index (.p rfl) rfl rfl slc27 sz3 a8 (map_get b8) rfl (r_loadr1 (.p rfl) rfl ag3 rfl (r_assign (.p rfl) rfl (r_end (W_seq (W_region mixed rfl (r_fieldAddr (.p rfl) rfl fld75_0 (r_load1 (.p rfl) rfl ag3 rfl rfl (r_bin (.p rfl) rfl rfl (bin_eql _ _ _ _ _ _) rfl (r_assign (.p rfl) rfl (r_end (W_seq ?_)))))))))))
    refine W_join h (fun v9 => mk [(3, .e (.one (.ptr 3 0))), (70, .e (.one (.pure (.val (.bool v9)))))] [(3, .box [.pure (.val (.int .i64 p1.fKind)), .pure (.val (.int .i64 p1.fFrom)), .pure (.val (.int .i64 p1.fTo)), .pure (.val (.bool p1.fAware)), .pure (.sl (p1.fOK.map (eSl eB))), .pure (.sl (p1.fRewrite.map (eSl eB)))])]) (fun j9 h => ?_) (fun v9 h => ?_)
    ·refine W_region mixed rfl (r_fieldAddr (.p rfl) rfl fld75_4 (r_load1 (.p rfl) rfl ag73 rfl rfl (r_move (.p rfl) rfl (r_fieldAddr (.p rfl) rfl fld30_0 (r_load1 (.p rfl) rfl ag27 rfl rfl (r_fieldAddr (.p rfl) rfl fld75_2 (r_load1 (.p rfl) rfl ag3 rfl rfl ?_)))))))
     obtain ⟨v10, a10, b10, h⟩ := idx_bind h
     refine r_index (.p rfl) rfl rfl slc27 sz3 a10 (map_get b10) rfl (r_loadr1 (.p rfl) rfl ag3 rfl ?_)
     obtain ⟨v11, a11, h⟩ := bind_some h
     refine r_call (ds0 := [_, _, _]) [] (fleet_matrix_c N p1.fOK v8 v10 v11 a11) (.p rfl) gd107 rfl ⟨rfl, rfl, rfl, trivial⟩ rfl rfl rfl (nodupL_spec rfl) trivial rfl (r_un (.p rfl) rfl (un_not _) rfl (r_move (.p rfl) rfl ?_))
     refine r_split (t := 50) rfl (fun c12 => ?_) (fun c12 => ?_)
     ·have h := cnd_t c12 h
      refine r_notB rfl rfl (r_notB rfl rfl (r_notU rfl rfl (r_notU rfl rfl (r_notU rfl rfl (r_notU rfl rfl (r_notU rfl rfl (r_notU rfl rfl (r_notB rfl rfl (r_pick (.p rfl) rfl rfl rfl (r_move (.p rfl) rfl (r_notB rfl rfl (r_notB rfl rfl (r_notB rfl rfl (r_notU rfl rfl (r_notU rfl rfl (r_notU rfl rfl (r_notU rfl rfl (r_notB rfl rfl (r_pick (.p rfl) rfl rfl rfl ?_)))))))))))))))))))
      refine r_endD (by kernel_rfl) ?_
      exact sink true h (sees_mkL (rn []) _ _ ⟨rfl, rfl, trivial⟩ ⟨rfl, trivial⟩ rfl rfl)
     ·have h := cnd_f c12 h
      refine r_move (.g rfl rfl) rfl (r_move (.g rfl rfl) rfl ?_)
      refine r_split (t := 52) rfl (fun c13 => ?_) (fun c13 => ?_)
      ·have h := cnd_t c13 h
       refine r_fieldAddr (.g rfl rfl) rfl fld75_5 (r_load1 (.g rfl rfl) rfl ag73 rfl rfl (r_move (.g rfl rfl) rfl (r_move (.g rfl rfl) rfl ?_)))
       obtain ⟨v14, a14, h⟩ := bind_some h
       refine r_call (ds0 := [_, _, _]) [] (fleet_matrix_c N p1.fRewrite v8 v8 v14 a14) (.g rfl rfl) gd107 rfl ⟨rfl, rfl, rfl, trivial⟩ rfl rfl rfl (nodupL_spec rfl) trivial rfl (r_un (.g rfl rfl) rfl (un_not _) rfl (r_pick (.g rfl rfl) rfl rfl rfl (r_pick (.p rfl) rfl rfl rfl (r_move (.p rfl) rfl ?_))))
       refine r_split (t := 61) rfl (fun c15 => ?_) (fun c15 => ?_)
       ·have h := cnd_t c15 h
        refine r_notB rfl rfl (r_notB rfl rfl (r_notB rfl rfl (r_notU rfl rfl (r_notU rfl rfl (r_notU rfl rfl (r_notU rfl rfl (r_notB rfl rfl (r_pick (.p rfl) rfl rfl rfl ?_))))))))
        refine r_endD (by kernel_rfl) ?_
        exact sink true h (sees_mkL (rn []) _ _ ⟨rfl, rfl, trivial⟩ ⟨rfl, trivial⟩ rfl rfl)
       ·have h := cnd_f c15 h
        refine r_move (.g rfl rfl) rfl (r_un (.g rfl rfl) rfl (un_not _) rfl (r_move (.g rfl rfl) rfl ?_))
        refine r_split (t := 64) rfl (fun c16 => ?_) (fun c16 => ?_)
        ·have h := cnd_t c16 h
         refine r_fieldAddr (.g rfl rfl) rfl fld75_5 (r_load1 (.g rfl rfl) rfl ag73 rfl rfl (r_len (.g rfl rfl) rfl (.sl _) trivial (List.length_map _) slc73 (r_bin (.g rfl rfl) rfl rfl (bin_gtr _ _ _ _ _ _) rfl (r_pick (.g rfl rfl) rfl rfl rfl (r_pick (.p rfl) rfl rfl rfl ?_)))))
         refine r_endD (by kernel_rfl) ?_
         exact sink (decide (0 < (p1.fRewrite.length : Int))) h (sees_mkL (rn []) _ _ ⟨rfl, rfl, trivial⟩ ⟨rfl, trivial⟩ rfl rfl)
        ·have h := cnd_f c16 h
         refine r_notB rfl rfl (r_notB rfl rfl (r_notB rfl rfl (r_notB rfl rfl (r_pick (.g rfl rfl) rfl rfl rfl (r_pick (.p rfl) rfl rfl rfl ?_)))))
         refine r_endD (by kernel_rfl) ?_
         exact sink false h (sees_mkL (rn []) _ _ ⟨rfl, rfl, trivial⟩ ⟨rfl, trivial⟩ rfl rfl)
      ·have h := cnd_f c13 h
       refine r_notB rfl rfl (r_notB rfl rfl (r_notB rfl rfl (r_notB rfl rfl (r_notB rfl rfl (r_notB rfl rfl (r_pick (.g rfl rfl) rfl rfl rfl (r_pick (.p rfl) rfl rfl rfl (r_move (.p rfl) rfl (r_move (.g rfl rfl) rfl (r_un (.g rfl rfl) rfl (un_not _) rfl (r_move (.g rfl rfl) rfl ?_)))))))))))
       refine r_split (t := 64) rfl (fun c17 => ?_) (fun c17 => ?_)
       ·have h := cnd_t c17 h
        refine r_fieldAddr (.g rfl rfl) rfl fld75_5 (r_load1 (.g rfl rfl) rfl ag73 rfl rfl (r_len (.g rfl rfl) rfl (.sl _) trivial (List.length_map _) slc73 (r_bin (.g rfl rfl) rfl rfl (bin_gtr _ _ _ _ _ _) rfl (r_pick (.g rfl rfl) rfl rfl rfl (r_pick (.p rfl) rfl rfl rfl ?_)))))
        refine r_endD (by kernel_rfl) ?_
        exact sink (decide (0 < (p1.fRewrite.length : Int))) h (sees_mkL (rn []) _ _ ⟨rfl, rfl, trivial⟩ ⟨rfl, trivial⟩ rfl rfl)
       ·have h := cnd_f c17 h
        refine r_notB rfl rfl (r_notB rfl rfl (r_notB rfl rfl (r_notB rfl rfl (r_pick (.g rfl rfl) rfl rfl rfl (r_pick (.p rfl) rfl rfl rfl ?_)))))
        refine r_endD (by kernel_rfl) ?_
        exact sink false h (sees_mkL (rn []) _ _ ⟨rfl, rfl, trivial⟩ ⟨rfl, trivial⟩ rfl rfl)
    ·refine W_cond rfl (fun c18 => ?_) (fun c18 => ?_)
     ·have h := cnd_t c18 h
      refine W_seq (W_region mixed rfl (r_assign (.p rfl) rfl (r_end ?_)))
      obtain rfl := Option.some.inj h
      refine W_sees (sees_mkL (rn []) [(4, .e (.one (.pure (.val (.int .i64 6)))))] [] ⟨rfl, trivial⟩ trivial rfl rfl) (W_ret ?_)
      exact ⟨⟨[_], ⟨.tmp _ _ rfl, trivial⟩, rfl⟩, trivial⟩
     ·have h := cnd_f c18 h
      refine W_skip (W_seq (W_seq (W_region mixed rfl (r_fieldAddr (.p rfl) rfl fld75_5 (r_load1 (.p rfl) rfl ag73 rfl rfl (r_len (.p rfl) rfl (.sl _) trivial (List.length_map _) slc73 (r_move (.p rfl) rfl (r_end ?_))))))))
      refine W_whileE (L := Sh.fleet_table_L19 N p1) h (fun v19 => mk [(3, .e (.one (.ptr 3 0))), (73, .e (.one (.pure (.val (.int .i64 ((p1.fRewrite.length : Int))))))), (74, .e (.one (.pure (.val (.int .i64 v19)))))] [(3, .box [.pure (.val (.int .i64 p1.fKind)), .pure (.val (.int .i64 p1.fFrom)), .pure (.val (.int .i64 p1.fTo)), .pure (.val (.bool p1.fAware)), .pure (.sl (p1.fOK.map (eSl eB))), .pure (.sl (p1.fRewrite.map (eSl eB)))])]) (fun v20 => mk [] []) (fun _ _ => rfl) (sees_mkL (rn []) _ _ ⟨rfl, rfl, rfl, trivial⟩ ⟨rfl, trivial⟩ rfl rfl) (fun j19 n19 v19 h => ?_) (fun v20 s h hs => ?_)
      ·unfold Sh.fleet_table_L19 at h
       refine W_seq (W_region mixed rfl (r_bin (.p rfl) rfl rfl (bin_lss _ _ _ _ _ _) rfl (r_end (W_seq ?_))))
       refine W_cond rfl (fun c21 => ?_) (fun c21 => ?_)
       ·have h := cnd_t c21 h
        refine W_skip (W_seq (W_block (W_seq (W_region mixed rfl (r_move (.p rfl) rfl (r_assign (.p rfl) rfl (r_end (W_seq (W_region mixed rfl (r_fieldAddr (.p rfl) rfl fld75_5 (r_load1 (.p rfl) rfl ag73 rfl rfl (r_move (.p rfl) rfl ?_))))))))))))
        obtain ⟨v22, a22, b22, h⟩ := idx_bind h
        refine r_index (.p rfl) rfl rfl slc73 sz76 a22 (map_get b22) rfl (r_loadr1 (.p rfl) rfl ag76 rfl (r_move (.p rfl) rfl ?_))
        obtain ⟨v23, a23, b23, h⟩ := idx_bind h
        refine r_index (.p rfl) rfl rfl slc76 sz4 a23 (map_get b23) rfl (r_loadr1 (.p rfl) rfl ag4 rfl (r_un (.p rfl) rfl (un_not _) rfl (r_end ?_)))
        refine W_cond rfl (fun c24 => ?_) (fun c24 => ?_)
        ·have h := cnd_t c24 h
         refine W_seq (W_region mixed rfl (r_assign (.p rfl) rfl (r_end ?_)))
         obtain rfl := Option.some.inj h
         refine W_sees (sees_mkL (rn []) [(4, .e (.one (.pure (.val (.int .i64 1)))))] [] ⟨rfl, trivial⟩ trivial rfl rfl) (W_ret ?_)
         exact ⟨⟨[_], ⟨.tmp _ _ rfl, trivial⟩, rfl⟩, trivial⟩
        ·have h := cnd_f c24 h
         refine W_skip (W_region mixed rfl (r_bin (.p rfl) rfl rfl (bin_add _ _ _ _ _ _) rfl (r_move (.p rfl) rfl (r_end ?_))))
         exact sink (IntKind.wrap .i64 (v19 + 1)) h (sees_mkL (rn []) _ _ ⟨rfl, rfl, rfl, trivial⟩ ⟨rfl, trivial⟩ rfl rfl)
       ·have h := cnd_f c21 h
        refine W_exit ?_
        exact sink () h (sees_mkL (rn []) _ _ trivial trivial rfl rfl)
      ·refine W_sees hs (W_seq (W_region mixed rfl (r_assign (.p rfl) rfl (r_end ?_))))
       obtain rfl := Option.some.inj h
       refine W_sees (sees_mkL (rn []) [(4, .e (.one (.pure (.val (.int .i64 0)))))] [] ⟨rfl, trivial⟩ trivial rfl rfl) (W_ret ?_)
       exact ⟨⟨[_], ⟨.tmp _ _ rfl, trivial⟩, rfl⟩, trivial⟩
set_option maxRecDepth 10000 in
theorem fleet_ValidProblem_c (N : Nat) (p0 : ApiProblem) (r : Int) (h : Sh.fleet_ValidProblem N p0 = some r) : Contract Try.prog 61 [.e (.agg [.pure (.sl (p0.fVersions.map eI64)), .pure (.sl (p0.fNow.map eI64)), .pure (.sl (p0.fTarget.map eI64)), .pure (.sl (p0.fTables.map eApiTable))])] [] (.e (.one (.pure (.val (.int .i64 r))))) := by
 unfold Sh.fleet_ValidProblem at h
 refine contract_of_W (n := 81) (rs := [.tmp 2]) Try.func61 rfl rfl rfl (leb rfl) (leb rfl) rfl fun w0 S0 => ?_
 refine W_seq (W_region mixed rfl (r_box (.p rfl) rfl rfl (r_assign (.p rfl) rfl (r_end (W_seq (W_region mixed rfl (r_fieldAddr (.p rfl) rfl fld30_0 (r_load1 (.p rfl) rfl ag27 rfl rfl (r_len (.p rfl) rfl (.sl _) trivial (List.length_map _) slc27 (r_assign (.p rfl) rfl (r_end (W_seq ?_))))))))))))
 refine W_join h (fun v1 => mk [(1, .e (.one (.ptr 1 0))), (3, .e (.one (.pure (.val (.int .i64 ((p0.fVersions.length : Int))))))), (19, .e (.one (.pure (.val (.bool v1)))))] [(1, .box [.pure (.sl (p0.fVersions.map eI64)), .pure (.sl (p0.fNow.map eI64)), .pure (.sl (p0.fTarget.map eI64)), .pure (.sl (p0.fTables.map eApiTable))])]) (fun j1 h => ?_) (fun v1 h => ?_)
 ·refine W_region mixed rfl (r_move (.p rfl) rfl (r_bin (.p rfl) rfl rfl (bin_gtr _ _ _ _ _ _) rfl (r_move (.p rfl) rfl ?_)))
  refine r_split (t := 14) rfl (fun c2 => ?_) (fun c2 => ?_)
  ·have h := cnd_t c2 h
   refine r_notB rfl rfl (r_notB rfl rfl (r_notB rfl rfl (r_notB rfl rfl (r_pick (.p rfl) rfl rfl rfl (r_end ?_)))))
   exact sink true h (sees_mkL (rn []) _ _ ⟨rfl, rfl, rfl, trivial⟩ ⟨rfl, trivial⟩ rfl rfl)
  ·have h := cnd_f c2 h
   refine r_fieldAddr (.g rfl rfl) rfl fld30_3 (r_load1 (.g rfl rfl) rfl ag28 rfl rfl (r_len (.g rfl rfl) rfl (.sl _) trivial (List.length_map _) slc28 (r_bin (.g rfl rfl) rfl rfl (bin_gtr _ _ _ _ _ _) rfl (r_pick (.p rfl) rfl rfl rfl (r_end ?_)))))
   exact sink (decide (12 < (p0.fTables.length : Int))) h (sees_mkL (rn []) _ _ ⟨rfl, rfl, rfl, trivial⟩ ⟨rfl, trivial⟩ rfl rfl)
 ·refine W_cond rfl (fun c3 => ?_) (fun c3 => ?_)
  ·have h := cnd_t c3 h
   refine W_seq (W_region mixed rfl (r_assign (.p rfl) rfl (r_end ?_)))
   obtain rfl := Option.some.inj h
   refine W_sees (sees_mkL (rn []) [(2, .e (.one (.pure (.val (.int .i64 3)))))] [] ⟨rfl, trivial⟩ trivial rfl rfl) (W_ret ?_)
   exact ⟨⟨[_], ⟨.tmp _ _ rfl, trivial⟩, rfl⟩, trivial⟩
  ·have h := cnd_f c3 h
   refine W_skip (W_seq ?_)
   refine W_join h (fun v4 => mk [(1, .e (.one (.ptr 1 0))), (31, .e (.one (.pure (.val (.bool v4)))))] [(1, .box [.pure (.sl (p0.fVersions.map eI64)), .pure (.sl (p0.fNow.map eI64)), .pure (.sl (p0.fTarget.map eI64)), .pure (.sl (p0.fTables.map eApiTable))])]) (fun j4 h => ?_) (fun v4 h => ?_)
   ·refine W_region mixed rfl (r_fieldAddr (.p rfl) rfl fld30_1 (r_load1 (.p rfl) rfl ag27 rfl rfl (r_len (.p rfl) rfl (.sl _) trivial (List.length_map _) slc27 (r_move (.p rfl) rfl (r_bin (.p rfl) rfl rfl (bin_neq _ _ _ _ _ _) rfl (r_move (.p rfl) rfl ?_))))))
    refine r_split (t := 25) rfl (fun c5 => ?_) (fun c5 => ?_)
    ·have h := cnd_t c5 h
     refine r_notB rfl rfl (r_notB rfl rfl (r_notB rfl rfl (r_notB rfl rfl (r_notB rfl rfl (r_pick (.p rfl) rfl rfl rfl (r_end ?_))))))
     exact sink true h (sees_mkL (rn []) _ _ ⟨rfl, rfl, trivial⟩ ⟨rfl, trivial⟩ rfl rfl)
    ·have h := cnd_f c5 h
     refine r_fieldAddr (.g rfl rfl) rfl fld30_2 (r_load1 (.g rfl rfl) rfl ag27 rfl rfl (r_len (.g rfl rfl) rfl (.sl _) trivial (List.length_map _) slc27 (r_move (.g rfl rfl) rfl (r_bin (.g rfl rfl) rfl rfl (bin_neq _ _ _ _ _ _) rfl (r_pick (.p rfl) rfl rfl rfl (r_end ?_))))))
     exact sink ((p0.fTarget.length : Int) != (p0.fVersions.length : Int)) h (sees_mkL (rn []) _ _ ⟨rfl, rfl, trivial⟩ ⟨rfl, trivial⟩ rfl rfl)
   ·refine W_cond rfl (fun c6 => ?_) (fun c6 => ?_)
    ·have h := cnd_t c6 h
     refine W_seq (W_region mixed rfl (r_assign (.p rfl) rfl (r_end ?_)))
     obtain rfl := Option.some.inj h
     refine W_sees (sees_mkL (rn []) [(2, .e (.one (.pure (.val (.int .i64 6)))))] [] ⟨rfl, trivial⟩ trivial rfl rfl) (W_ret ?_)
     exact ⟨⟨[_], ⟨.tmp _ _ rfl, trivial⟩, rfl⟩, trivial⟩
    ·have h := cnd_f c6 h
     refine W_skip (W_seq (W_seq (W_region mixed rfl (r_fieldAddr (.p rfl) rfl fld30_0 (r_load1 (.p rfl) rfl ag27 rfl rfl (r_len (.p rfl) rfl (.sl _) trivial (List.length_map _) slc27 (r_move (.p rfl) rfl (r_end ?_))))))))
     refine W_whileE (L := Sh.fleet_ValidProblem_L7 N p0) h (fun v7 => mk [(1, .e (.one (.ptr 1 0))), (33, .e (.one (.pure (.sl (p0.fVersions.map eI64))))), (34, .e (.one (.pure (.val (.int .i64 ((p0.fVersions.length : Int))))))), (35, .e (.one (.pure (.val (.int .i64 v7)))))] [(1, .box [.pure (.sl (p0.fVersions.map eI64)), .pure (.sl (p0.fNow.map eI64)), .pure (.sl (p0.fTarget.map eI64)), .pure (.sl (p0.fTables.map eApiTable))])]) (fun v8 => mk [(1, .e (.one (.ptr 1 0)))] [(1, .box [.pure (.sl (p0.fVersions.map eI64)), .pure (.sl (p0.fNow.map eI64)), .pure (.sl (p0.fTarget.map eI64)), .pure (.sl (p0.fTables.map eApiTable))])]) (fun _ _ => rfl) (sees_mkL (rn []) _ _ ⟨rfl, rfl, rfl, rfl, trivial⟩ ⟨rfl, trivial⟩ rfl rfl) (fun j7 n7 v7 h => ?_) (fun v8 s h hs => ?_)
     ·unfold Sh.fleet_ValidProblem_L7 at h
      refine W_seq (W_region mixed rfl (r_bin (.p rfl) rfl rfl (bin_lss _ _ _ _ _ _) rfl (r_end (W_seq ?_))))
      refine W_cond rfl (fun c9 => ?_) (fun c9 => ?_)
      ·have h := cnd_t c9 h
       refine W_skip (W_seq (W_block (W_seq (W_region mixed rfl (r_move (.p rfl) rfl ?_)))))
       obtain ⟨v10, a10, b10, h⟩ := idx_bind h
       refine r_index (.p rfl) rfl rfl slc27 sz3 a10 (map_get b10) rfl (r_loadr1 (.p rfl) rfl ag3 rfl (r_assign (.p rfl) rfl (r_assign (.p rfl) rfl (r_end ?_))))
       refine W_join h (fun v11 => mk [(1, .e (.one (.ptr 1 0))), (33, .e (.one (.pure (.sl (p0.fVersions.map eI64))))), (34, .e (.one (.pure (.val (.int .i64 ((p0.fVersions.length : Int))))))), (35, .e (.one (.pure (.val (.int .i64 v7))))), (65, .e (.one (.pure (.val (.bool v11)))))] [(1, .box [.pure (.sl (p0.fVersions.map eI64)), .pure (.sl (p0.fNow.map eI64)), .pure (.sl (p0.fTarget.map eI64)), .pure (.sl (p0.fTables.map eApiTable))])]) (fun j11 h => ?_) (fun v11 h => ?_)
       ·refine W_region mixed rfl (r_move (.p rfl) rfl (r_bin (.p rfl) rfl rfl (bin_lss _ _ _ _ _ _) rfl (r_move (.p rfl) rfl ?_)))
        refine r_split (t := 42) rfl (fun c12 => ?_) (fun c12 => ?_)
        ·have h := cnd_t c12 h
         refine r_notB rfl rfl (r_notB rfl rfl (r_pick (.p rfl) rfl rfl rfl (r_move (.p rfl) rfl (r_notB rfl rfl (r_notB rfl rfl (r_notB rfl rfl (r_notB rfl rfl (r_notB rfl rfl (r_notB rfl rfl (r_notB rfl rfl (r_notB rfl rfl (r_pick (.p rfl) rfl rfl rfl (r_move (.p rfl) rfl (r_notB rfl rfl (r_notB rfl rfl (r_notB rfl rfl (r_notB rfl rfl (r_notB rfl rfl (r_notB rfl rfl (r_notB rfl rfl (r_notB rfl rfl (r_pick (.p rfl) rfl rfl rfl (r_end ?_)))))))))))))))))))))))
         exact sink true h (sees_mkL (rn []) _ _ ⟨rfl, rfl, rfl, rfl, rfl, trivial⟩ ⟨rfl, trivial⟩ rfl rfl)
        ·have h := cnd_f c12 h
         refine r_move (.g rfl rfl) rfl (r_bin (.g rfl rfl) rfl rfl (bin_gtr _ _ _ _ _ _) rfl (r_pick (.p rfl) rfl rfl rfl (r_move (.p rfl) rfl ?_)))
         refine r_split (t := 46) rfl (fun c13 => ?_) (fun c13 => ?_)
         ·have h := cnd_t c13 h
          refine r_notB rfl rfl (r_notB rfl rfl (r_notB rfl rfl (r_notB rfl rfl (r_notB rfl rfl (r_notB rfl rfl (r_notB rfl rfl (r_notB rfl rfl (r_pick (.p rfl) rfl rfl rfl (r_move (.p rfl) rfl (r_notB rfl rfl (r_notB rfl rfl (r_notB rfl rfl (r_notB rfl rfl (r_notB rfl rfl (r_notB rfl rfl (r_notB rfl rfl (r_notB rfl rfl (r_pick (.p rfl) rfl rfl rfl (r_end ?_)))))))))))))))))))
          exact sink true h (sees_mkL (rn []) _ _ ⟨rfl, rfl, rfl, rfl, rfl, trivial⟩ ⟨rfl, trivial⟩ rfl rfl)
         ·have h := cnd_f c13 h
          refine r_fieldAddr (.g rfl rfl) rfl fld30_1 (r_load1 (.g rfl rfl) rfl ag27 rfl rfl (r_move (.g rfl rfl) rfl ?_))
          obtain ⟨v14, a14, b14, h⟩ := idx_bind h
          refine r_index (.g rfl rfl) rfl rfl slc27 sz3 a14 (map_get b14) rfl (r_loadr1 (.g rfl rfl) rfl ag3 rfl (r_move (.g rfl rfl) rfl ?_))
          obtain ⟨v15, a15, h⟩ := bind_some h
          refine r_call (ds0 := [_, _]) [] (fleet_within_c N v14 v10 v15 a15) (.g rfl rfl) gd89 rfl ⟨rfl, rfl, trivial⟩ rfl rfl rfl (nodupL_spec rfl) trivial rfl (r_un (.g rfl rfl) rfl (un_not _) rfl (r_pick (.p rfl) rfl rfl rfl (r_move (.p rfl) rfl ?_)))
          refine r_split (t := 56) rfl (fun c16 => ?_) (fun c16 => ?_)
          ·have h := cnd_t c16 h
           refine r_notB rfl rfl (r_notB rfl rfl (r_notB rfl rfl (r_notB rfl rfl (r_notB rfl rfl (r_notB rfl rfl (r_notB rfl rfl (r_notB rfl rfl (r_pick (.p rfl) rfl rfl rfl (r_end ?_)))))))))
           exact sink true h (sees_mkL (rn []) _ _ ⟨rfl, rfl, rfl, rfl, rfl, trivial⟩ ⟨rfl, trivial⟩ rfl rfl)
          ·have h := cnd_f c16 h
           refine r_fieldAddr (.g rfl rfl) rfl fld30_2 (r_load1 (.g rfl rfl) rfl ag27 rfl rfl (r_move (.g rfl rfl) rfl ?_))
           obtain ⟨v17, a17, b17, h⟩ := idx_bind h
           refine r_index (.g rfl rfl) rfl rfl slc27 sz3 a17 (map_get b17) rfl (r_loadr1 (.g rfl rfl) rfl ag3 rfl (r_move (.g rfl rfl) rfl ?_))
           obtain ⟨v18, a18, h⟩ := bind_some h
           refine r_call (ds0 := [_, _]) [] (fleet_within_c N v17 v10 v18 a18) (.g rfl rfl) gd89 rfl ⟨rfl, rfl, trivial⟩ rfl rfl rfl (nodupL_spec rfl) trivial rfl (r_un (.g rfl rfl) rfl (un_not _) rfl (r_pick (.p rfl) rfl rfl rfl (r_end ?_)))
           exact sink (!v18) h (sees_mkL (rn []) _ _ ⟨rfl, rfl, rfl, rfl, rfl, trivial⟩ ⟨rfl, trivial⟩ rfl rfl)
       ·refine W_cond rfl (fun c19 => ?_) (fun c19 => ?_)
        ·have h := cnd_t c19 h
         refine W_seq (W_region mixed rfl (r_assign (.p rfl) rfl (r_end ?_)))
         obtain rfl := Option.some.inj h
         refine W_sees (sees_mkL (rn []) [(2, .e (.one (.pure (.val (.int .i64 7)))))] [] ⟨rfl, trivial⟩ trivial rfl rfl) (W_ret ?_)
         exact ⟨⟨[_], ⟨.tmp _ _ rfl, trivial⟩, rfl⟩, trivial⟩
        ·have h := cnd_f c19 h
         refine W_skip (W_region mixed rfl (r_bin (.p rfl) rfl rfl (bin_add _ _ _ _ _ _) rfl (r_move (.p rfl) rfl (r_end ?_))))
         exact sink (IntKind.wrap .i64 (v7 + 1)) h (sees_mkL (rn []) _ _ ⟨rfl, rfl, rfl, rfl, trivial⟩ ⟨rfl, trivial⟩ rfl rfl)
      ·have h := cnd_f c9 h
       refine W_exit ?_
       exact sink () h (sees_mkL (rn []) _ _ ⟨rfl, trivial⟩ ⟨rfl, trivial⟩ rfl rfl)
     ·refine W_sees hs (W_seq (W_seq (W_region mixed rfl (r_fieldAddr (.p rfl) rfl fld30_3 (r_load1 (.p rfl) rfl ag28 rfl rfl (r_len (.p rfl) rfl (.sl _) trivial (List.length_map _) slc28 (r_move (.p rfl) rfl (r_end ?_))))))))
      refine W_whileE (L := Sh.fleet_ValidProblem_L20 N p0) h (fun v20 => mk [(1, .e (.one (.ptr 1 0))), (68, .e (.one (.pure (.sl (p0.fTables.map eApiTable))))), (69, .e (.one (.pure (.val (.int .i64 ((p0.fTables.length : Int))))))), (70, .e (.one (.pure (.val (.int .i64 v20)))))] [(1, .box [.pure (.sl (p0.fVersions.map eI64)), .pure (.sl (p0.fNow.map eI64)), .pure (.sl (p0.fTarget.map eI64)), .pure (.sl (p0.fTables.map eApiTable))])]) (fun v21 => mk [] []) (fun _ _ => rfl) (sees_mkL (rn []) _ _ ⟨rfl, rfl, rfl, rfl, trivial⟩ ⟨rfl, trivial⟩ rfl rfl) (fun j20 n20 v20 h => ?_) (fun v21 s h hs => ?_)
      ·unfold Sh.fleet_ValidProblem_L20 at h
       refine W_seq (W_region mixed rfl (r_bin (.p rfl) rfl rfl (bin_lss _ _ _ _ _ _) rfl (r_end (W_seq ?_))))
       refine W_cond rfl (fun c22 => ?_) (fun c22 => ?_)
       ·have h := cnd_t c22 h
        refine W_skip (W_seq (W_block (W_seq (W_region mixed rfl ?_))))
        obtain ⟨v23, a23, b23, h⟩ := idx_bind h
        refine r_index (.p rfl) rfl rfl slc28 sz75 a23 (map_get b23) rfl (r_loadrN (.p rfl) rfl ag75 sz75 rfl rfl (r_alloc (.p rfl) zv75 rfl rfl rfl (r_store rfl rfl rfl rfl sz75 rfl (leb rfl) rfl (r_end (W_seq (W_region mixed rfl (r_loadN (.p rfl) rfl ag30 sz30 rfl rfl rfl (r_loadN (.p rfl) rfl ag75 sz75 rfl rfl rfl ?_))))))))
        obtain ⟨v24, a24, h⟩ := bind_some h
        refine r_call (ds0 := [_, _]) [] (fleet_table_c N p0 v23 v24 a24) (.p rfl) gd90 rfl ⟨rfl, rfl, trivial⟩ rfl rfl rfl (nodupL_spec rfl) trivial rfl (r_assign (.p rfl) rfl (r_end (W_seq (W_region mixed rfl (r_move (.p rfl) rfl (r_bin (.p rfl) rfl rfl (bin_neq _ _ _ _ _ _) rfl (r_end ?_)))))))
        refine W_cond rfl (fun c25 => ?_) (fun c25 => ?_)
        ·have h := cnd_t c25 h
         refine W_seq (W_region mixed rfl (r_move (.p rfl) rfl (r_assign (.p rfl) rfl (r_end ?_))))
         obtain rfl := Option.some.inj h
         refine W_sees (sees_mkL (rn []) [(2, .e (.one (.pure (.val (.int .i64 v24)))))] [] ⟨rfl, trivial⟩ trivial rfl rfl) (W_ret ?_)
         exact ⟨⟨[_], ⟨.tmp _ _ rfl, trivial⟩, rfl⟩, trivial⟩
        ·have h := cnd_f c25 h
         refine W_skip (W_region mixed rfl (r_bin (.p rfl) rfl rfl (bin_add _ _ _ _ _ _) rfl (r_move (.p rfl) rfl (r_end ?_))))
         exact sink (IntKind.wrap .i64 (v20 + 1)) h (sees_mkL (rn []) _ _ ⟨rfl, rfl, rfl, rfl, trivial⟩ ⟨rfl, trivial⟩ rfl rfl)
       ·have h := cnd_f c22 h
        refine W_exit ?_
        exact sink () h (sees_mkL (rn []) _ _ trivial trivial rfl rfl)
      ·refine W_sees hs (W_seq (W_region mixed rfl (r_assign (.p rfl) rfl (r_end ?_))))
       obtain rfl := Option.some.inj h
       refine W_sees (sees_mkL (rn []) [(2, .e (.one (.pure (.val (.int .i64 0)))))] [] ⟨rfl, trivial⟩ trivial rfl rfl) (W_ret ?_)
       exact ⟨⟨[_], ⟨.tmp _ _ rfl, trivial⟩, rfl⟩, trivial⟩
set_option maxRecDepth 10000 in
theorem slices_Clone_int_int_c (N : Nat) (p0 : List Int) (r : (List Int)) (h : Sh.slices_Clone_int_int N p0 = some r) : Contract Try.prog 72 [.e (.one (.pure (.sl (p0.map eI64))))] [(1, r.map eI64)] (.e (.one (.own 0))) := by
 unfold Sh.slices_Clone_int_int at h
 refine contract_of_W (n := 8) (rs := [.tmp 2]) Try.func72 rfl rfl rfl (leb rfl) (leb rfl) rfl fun w0 S0 => ?_
 refine W_seq (W_region mixed rfl (r_assign (.p rfl) rfl (r_end (W_seq (W_seq (W_region mixed rfl (r_move (.p rfl) rfl ?_)))))))
 refine r_eqNil (.p rfl) rfl slc27 ?_
 refine r_end ?_
 refine W_condN rfl (fun c2 => ?_) ?_
 ·have c2 := List.map_eq_nil_iff.1 c2
  rw [c2] at h
  have h : (some (([] : List Int))) = some r := h
  refine W_seq (W_region mixed rfl (r_assign (.p rfl) rfl (r_end ?_)))
  obtain rfl := Option.some.inj h
  refine W_sees ((sees_adopt 2 2001 1 rfl rfl rfl).trans (sees_mkL (rn [(1000, 2001)]) [(2, .e (.one (.own 1000)))] [(1000, .vec 1 ((([] : List Int)).map eI64))] ⟨rfl, trivial⟩ ⟨rfl, trivial⟩ rfl rfl)) (W_ret ?_)
  exact ⟨⟨[_], ⟨.tmp _ _ rfl, trivial⟩, rfl⟩, ⟨rfl, trivial⟩⟩
 ·refine W_skip (W_seq (W_region mixed rfl (r_buildSlice [] (.p rfl) rfl trivial rfl slc27 sz3 zv3 rfl rfl (leb rfl) rfl rfl (r_move (.p rfl) rfl ?_))))
  obtain ⟨c1, h⟩ := chk_bind h
  refine r_append (.p rfl) rfl (.own _ _ _) ⟨rfl, trivial⟩ rfl (.sl _ _ (map_rows (f := eI64) (n := 1) (fun _ => rfl) _)) trivial rfl slc27 slc27 sz3 byt3 (leb rfl) zv3 rfl (len_lim (f := eI64) (g := eI64) (xs := (([] : List Int))) (ys := p0) c1) (map_app eI64 (([] : List Int)) p0) rfl ?_
  refine r_assign (.p rfl) rfl (r_end ?_)
  obtain rfl := Option.some.inj h
  refine W_sees (sees_mkL (rn [(1000, 7)]) [(2, .e (.one (.own 1000)))] [(1000, .vec 1 (((([] : List Int)) ++ p0).map eI64))] ⟨rfl, trivial⟩ ⟨rfl, trivial⟩ rfl rfl) (W_ret ?_)
  exact ⟨⟨[_], ⟨.tmp _ _ rfl, trivial⟩, rfl⟩, ⟨rfl, trivial⟩⟩
set_option maxRecDepth 10000 in
theorem math_bits_Mul32_c (N : Nat) (p0 : Int) (p1 : Int) (r : Int × Int) (h : Sh.math_bits_Mul32 N p0 p1 = some r) : Contract Try.prog 110 [.e (.one (.pure (.val (.int .u32 p0)))), .e (.one (.pure (.val (.int .u32 p1))))] [] (.tup [.one (.pure (.val (.int .u32 r.1))), .one (.pure (.val (.int .u32 r.2)))]) := by
 unfold Sh.math_bits_Mul32 at h
 refine contract_of_W (n := 17) (rs := [.tmp 4, .tmp 5]) Try.func110 rfl rfl rfl (leb rfl) (leb rfl) rfl fun w0 S0 => ?_
 refine W_seq (W_region mixed rfl (r_assign (.p rfl) rfl (r_assign (.p rfl) rfl (r_end (W_seq (W_region mixed rfl (r_move (.p rfl) rfl (r_conv (.p rfl) rfl (conv_int so143 in146 _ _) rfl (r_move (.p rfl) rfl (r_conv (.p rfl) rfl (conv_int so143 in146 _ _) rfl (r_bin (.p rfl) rfl rfl (bin_mul _ _ _ _ _ _) rfl (r_assign (.p rfl) rfl (r_end (W_seq (W_region mixed rfl (r_move (.p rfl) rfl ?_))))))))))))))))
 refine r_bin (.p rfl) rfl rfl (bin_shr _ _ _ _ _ _ _ (by decide)) rfl ?_
 refine r_conv (.p rfl) rfl (conv_int so146 in143 _ _) rfl (r_move (.p rfl) rfl (r_conv (.p rfl) rfl (conv_int so146 in143 _ _) rfl (r_assign (.p rfl) rfl (r_assign (.p rfl) rfl (r_end ?_)))))
 obtain rfl := Option.some.inj h
 refine W_sees (sees_mkL (rn []) [(4, .e (.one (.pure (.val (.int .u32 ((IntKind.wrap .u32 ((shrI .u64 ((IntKind.wrap .u64 ((IntKind.wrap .u64 p0) * (IntKind.wrap .u64 p1)))) 32))))))))), (5, .e (.one (.pure (.val (.int .u32 ((IntKind.wrap .u32 ((IntKind.wrap .u64 ((IntKind.wrap .u64 p0) * (IntKind.wrap .u64 p1)))))))))))] [] ⟨rfl, rfl, trivial⟩ trivial rfl rfl) (W_ret ?_)
 exact ⟨⟨[_, _], ⟨.tmp _ _ rfl, ⟨.tmp _ _ rfl, trivial⟩⟩, rfl⟩, trivial⟩
set_option maxRecDepth 10000 in
theorem math_bits_Mul64_c (N : Nat) (p0 : Int) (p1 : Int) (r : Int × Int) (h : Sh.math_bits_Mul64 N p0 p1 = some r) : Contract Try.prog 111 [.e (.one (.pure (.val (.int .u64 p0)))), .e (.one (.pure (.val (.int .u64 p1))))] [] (.tup [.one (.pure (.val (.int .u64 r.1))), .one (.pure (.val (.int .u64 r.2)))]) := by
 unfold Sh.math_bits_Mul64 at h
 refine contract_of_W (n := 51) (rs := [.tmp 4, .tmp 5]) Try.func111 rfl rfl rfl (leb rfl) (leb rfl) rfl fun w0 S0 => ?_
 refine W_seq (W_region mixed rfl (r_assign (.p rfl) rfl (r_assign (.p rfl) rfl (r_end (W_seq (W_region mixed rfl (r_move (.p rfl) rfl (r_bin (.p rfl) rfl rfl (bin_and _ _ _ _ _ _) rfl (r_assign (.p rfl) rfl (r_end (W_seq (W_region mixed rfl (r_move (.p rfl) rfl ?_)))))))))))))
 refine r_bin (.p rfl) rfl rfl (bin_shr _ _ _ _ _ _ _ (by decide)) rfl ?_
 refine r_assign (.p rfl) rfl (r_end (W_seq (W_region mixed rfl (r_move (.p rfl) rfl (r_bin (.p rfl) rfl rfl (bin_and _ _ _ _ _ _) rfl (r_assign (.p rfl) rfl (r_end (W_seq (W_region mixed rfl (r_move (.p rfl) rfl ?_))))))))))
 refine r_bin (.p rfl) rfl rfl (bin_shr _ _ _ _ _ _ _ (by decide)) rfl ?_
 refine r_assign (.p rfl) rfl (r_end (W_seq (W_region mixed rfl (r_move (.p rfl) rfl (r_move (.p rfl) rfl (r_bin (.p rfl) rfl rfl (bin_mul _ _ _ _ _ _) rfl (r_assign (.p rfl) rfl (r_end (W_seq (W_region mixed rfl (r_move (.p rfl) rfl (r_move (.p rfl) rfl (r_bin (.p rfl) rfl rfl (bin_mul _ _ _ _ _ _) rfl (r_move (.p rfl) rfl ?_))))))))))))))
 refine r_bin (.p rfl) rfl rfl (bin_shr _ _ _ _ _ _ _ (by decide)) rfl ?_
 refine r_bin (.p rfl) rfl rfl (bin_add _ _ _ _ _ _) rfl (r_assign (.p rfl) rfl (r_end (W_seq (W_region mixed rfl (r_move (.p rfl) rfl (r_bin (.p rfl) rfl rfl (bin_and _ _ _ _ _ _) rfl (r_assign (.p rfl) rfl (r_end (W_seq (W_region mixed rfl (r_move (.p rfl) rfl ?_)))))))))))
 refine r_bin (.p rfl) rfl rfl (bin_shr _ _ _ _ _ _ _ (by decide)) rfl ?_
 refine r_assign (.p rfl) rfl (r_end (W_seq (W_region mixed rfl (r_move (.p rfl) rfl (r_move (.p rfl) rfl (r_move (.p rfl) rfl (r_bin (.p rfl) rfl rfl (bin_mul _ _ _ _ _ _) rfl (r_bin (.p rfl) rfl rfl (bin_add _ _ _ _ _ _) rfl (r_assign (.p rfl) rfl (r_end (W_seq (W_region mixed rfl (r_move (.p rfl) rfl (r_move (.p rfl) rfl (r_bin (.p rfl) rfl rfl (bin_mul _ _ _ _ _ _) rfl (r_move (.p rfl) rfl (r_bin (.p rfl) rfl rfl (bin_add _ _ _ _ _ _) rfl (r_move (.p rfl) rfl ?_))))))))))))))))))
 refine r_bin (.p rfl) rfl rfl (bin_shr _ _ _ _ _ _ _ (by decide)) rfl ?_
 refine r_bin (.p rfl) rfl rfl (bin_add _ _ _ _ _ _) rfl (r_assign (.p rfl) rfl (r_end (W_seq (W_region mixed rfl (r_move (.p rfl) rfl (r_move (.p rfl) rfl (r_bin (.p rfl) rfl rfl (bin_mul _ _ _ _ _ _) rfl (r_assign (.p rfl) rfl (r_end ?_)))))))))
 obtain rfl := Option.some.inj h
 refine W_sees (sees_mkL (rn []) [(4, .e (.one (.pure (.val (.int .u64 ((IntKind.wrap .u64 ((IntKind.wrap .u64 ((IntKind.wrap .u64 ((shrI .u64 p0 32) * (shrI .u64 p1 32))) + (shrI .u64 ((IntKind.wrap .u64 ((IntKind.wrap .u64 ((shrI .u64 p0 32) * (andI .u64 p1 4294967295))) + (shrI .u64 ((IntKind.wrap .u64 ((andI .u64 p0 4294967295) * (andI .u64 p1 4294967295)))) 32)))) 32))) + (shrI .u64 ((IntKind.wrap .u64 ((andI .u64 ((IntKind.wrap .u64 ((IntKind.wrap .u64 ((shrI .u64 p0 32) * (andI .u64 p1 4294967295))) + (shrI .u64 ((IntKind.wrap .u64 ((andI .u64 p0 4294967295) * (andI .u64 p1 4294967295)))) 32)))) 4294967295) + (IntKind.wrap .u64 ((andI .u64 p0 4294967295) * (shrI .u64 p1 32)))))) 32))))))))), (5, .e (.one (.pure (.val (.int .u64 ((IntKind.wrap .u64 (p0 * p1))))))))] [] ⟨rfl, rfl, trivial⟩ trivial rfl rfl) (W_ret ?_)
 exact ⟨⟨[_, _], ⟨.tmp _ _ rfl, ⟨.tmp _ _ rfl, trivial⟩⟩, rfl⟩, trivial⟩
set_option maxRecDepth 10000 in
theorem math_bits_Mul_c (N : Nat) (p0 : Int) (p1 : Int) (r : Int × Int) (h : Sh.math_bits_Mul N p0 p1 = some r) : Contract Try.prog 97 [.e (.one (.pure (.val (.int .u64 p0)))), .e (.one (.pure (.val (.int .u64 p1))))] [] (.tup [.one (.pure (.val (.int .u64 r.1))), .one (.pure (.val (.int .u64 r.2)))]) := by
 unfold Sh.math_bits_Mul at h
 refine contract_of_W (n := 30) (rs := [.tmp 4, .tmp 5]) Try.func97 rfl rfl rfl (leb rfl) (leb rfl) rfl fun w0 S0 => ?_
 refine W_seq (W_region mixed rfl (r_assign (.p rfl) rfl (r_assign (.p rfl) rfl (r_end (W_seq ?_)))))
 refine W_cond rfl (fun c1 => ?_) (fun c1 => ?_)
 ·have h := cnd_t c1 h
  refine W_seq (W_region mixed rfl (r_move (.p rfl) rfl (r_conv (.p rfl) rfl (conv_int so133 in143 _ _) rfl (r_move (.p rfl) rfl (r_conv (.p rfl) rfl (conv_int so133 in143 _ _) rfl ?_)))))
  obtain ⟨v2, a2, h⟩ := bind_some h
  refine r_call (ds0 := [_, _]) [] (math_bits_Mul32_c N ((IntKind.wrap .u32 p0)) ((IntKind.wrap .u32 p1)) v2 a2) (.p rfl) gd110 rfl ⟨rfl, rfl, trivial⟩ rfl rfl rfl (nodupL_spec rfl) trivial rfl (r_move (.p rfl) rfl (r_extract (.p rfl) rfl rfl (r_extract (.p rfl) rfl rfl (r_assign (.p rfl) rfl (r_assign (.p rfl) rfl (r_end (W_seq (W_region mixed rfl (r_move (.p rfl) rfl (r_conv (.p rfl) rfl (conv_int so143 in133 _ _) rfl (r_move (.p rfl) rfl (r_conv (.p rfl) rfl (conv_int so143 in133 _ _) rfl (r_assign (.p rfl) rfl (r_assign (.p rfl) rfl (r_end ?_)))))))))))))))
  obtain rfl := Option.some.inj h
  refine W_sees (sees_mkL (rn []) [(4, .e (.one (.pure (.val (.int .u64 ((IntKind.wrap .u64 v2.1))))))), (5, .e (.one (.pure (.val (.int .u64 ((IntKind.wrap .u64 v2.2)))))))] [] ⟨rfl, rfl, trivial⟩ trivial rfl rfl) (W_ret ?_)
  exact ⟨⟨[_, _], ⟨.tmp _ _ rfl, ⟨.tmp _ _ rfl, trivial⟩⟩, rfl⟩, trivial⟩
 ·have h := cnd_f c1 h
  refine W_skip (W_seq (W_region mixed rfl (r_move (.p rfl) rfl (r_move (.p rfl) rfl ?_))))
  obtain ⟨v3, a3, h⟩ := bind_some h
  refine r_call (ds0 := [_, _]) [] (math_bits_Mul64_c N p0 p1 v3 a3) (.p rfl) gd111 rfl ⟨rfl, rfl, trivial⟩ rfl rfl rfl (nodupL_spec rfl) trivial rfl (r_move (.p rfl) rfl (r_extract (.p rfl) rfl rfl (r_extract (.p rfl) rfl rfl (r_assign (.p rfl) rfl (r_assign (.p rfl) rfl (r_end (W_seq (W_region mixed rfl (r_move (.p rfl) rfl (r_move (.p rfl) rfl (r_assign (.p rfl) rfl (r_assign (.p rfl) rfl (r_end ?_)))))))))))))
  obtain rfl := Option.some.inj h
  refine W_sees (sees_mkL (rn []) [(4, .e (.one (.pure (.val (.int .u64 v3.1))))), (5, .e (.one (.pure (.val (.int .u64 v3.2)))))] [] ⟨rfl, rfl, trivial⟩ trivial rfl rfl) (W_ret ?_)
  exact ⟨⟨[_, _], ⟨.tmp _ _ rfl, ⟨.tmp _ _ rfl, trivial⟩⟩, rfl⟩, trivial⟩
set_option maxRecDepth 10000 in
theorem slices_Repeat_int_int_c (N : Nat) (p0 : List Int) (p1 : Int) (r : (List Int)) (h : Sh.slices_Repeat_int_int N p0 p1 = some r) : Contract Try.prog 73 [.e (.one (.pure (.sl (p0.map eI64)))), .e (.one (.pure (.val (.int .i64 p1))))] [(1, r.map eI64)] (.e (.one (.own 0))) := by
 unfold Sh.slices_Repeat_int_int at h
 refine contract_of_W (n := 48) (rs := [.tmp 4]) Try.func73 rfl rfl rfl (leb rfl) (leb rfl) rfl fun w0 S0 => ?_
 refine W_seq (W_region mixed rfl (r_assign (.p rfl) rfl (r_end ?_)))
 refine W_join h (fun v1 => mk [(0, .e (.one (.pure (.sl (p0.map eI64))))), (1, .e (.one (.pure (.val (.int .i64 p1)))))] []) (fun j1 h => ?_) (fun v1 h => ?_)
 ·refine W_seq (W_region mixed rfl (r_move (.p rfl) rfl (r_bin (.p rfl) rfl rfl (bin_lss _ _ _ _ _ _) rfl (r_end ?_))))
  refine W_cond rfl (fun c2 => ?_) (fun c2 => ?_)
  ·have h := cnd_t c2 h
   refine W_region mixed rfl ?_
   cases h
  ·have h := cnd_f c2 h
   refine W_skip ?_
   exact sink () h (sees_mkL (rn []) _ _ ⟨rfl, rfl, trivial⟩ trivial rfl rfl)
 ·refine W_seq (W_region mixed rfl (r_move (.p rfl) rfl (r_len (.p rfl) rfl (.sl _) trivial (List.length_map _) slc27 (r_conv (.p rfl) rfl (conv_int so3 in133 _ _) rfl (r_move (.p rfl) rfl (r_conv (.p rfl) rfl (conv_int so3 in133 _ _) rfl ?_))))))
  obtain ⟨v3, a3, h⟩ := bind_some h
  refine r_call (ds0 := [_, _]) [] (math_bits_Mul_c N ((IntKind.wrap .u64 ((p0.length : Int)))) ((IntKind.wrap .u64 p1)) v3 a3) (.p rfl) gd97 rfl ⟨rfl, rfl, trivial⟩ rfl rfl rfl (nodupL_spec rfl) trivial rfl (r_move (.p rfl) rfl (r_extract (.p rfl) rfl rfl (r_extract (.p rfl) rfl rfl (r_assign (.p rfl) rfl (r_assign (.p rfl) rfl (r_end ?_))))))
  refine W_join h (fun v4 => mk [(0, .e (.one (.pure (.sl (p0.map eI64))))), (6, .e (.one (.pure (.val (.int .u64 v3.2)))))] []) (fun j4 h => ?_) (fun v4 h => ?_)
  ·refine W_join h (fun v5 => mk [(0, .e (.one (.pure (.sl (p0.map eI64))))), (6, .e (.one (.pure (.val (.int .u64 v3.2))))), (26, .e (.one (.pure (.val (.bool v5)))))] []) (fun j5 h => ?_) (fun v5 h => ?_)
   ·refine W_region mixed rfl (r_move (.p rfl) rfl (r_bin (.p rfl) rfl rfl (bin_gtr _ _ _ _ _ _) rfl (r_move (.p rfl) rfl ?_)))
    refine r_split (t := 23) rfl (fun c6 => ?_) (fun c6 => ?_)
    ·have h := cnd_t c6 h
     refine r_notB rfl rfl (r_notB rfl rfl (r_pick (.p rfl) rfl rfl rfl (r_end ?_)))
     exact sink true h (sees_mkL (rn []) _ _ ⟨rfl, rfl, rfl, trivial⟩ trivial rfl rfl)
    ·have h := cnd_f c6 h
     refine r_move (.g rfl rfl) rfl (r_bin (.g rfl rfl) rfl rfl (bin_gtr _ _ _ _ _ _) rfl (r_pick (.p rfl) rfl rfl rfl (r_end ?_)))
     exact sink (decide (9223372036854775807 < v3.2)) h (sees_mkL (rn []) _ _ ⟨rfl, rfl, rfl, trivial⟩ trivial rfl rfl)
   ·refine W_cond rfl (fun c7 => ?_) (fun c7 => ?_)
    ·have h := cnd_t c7 h
     refine W_region mixed rfl ?_
     cases h
    ·have h := cnd_f c7 h
     refine W_skip ?_
     exact sink () h (sees_mkL (rn []) _ _ ⟨rfl, rfl, trivial⟩ trivial rfl rfl)
  ·refine W_seq (W_region mixed rfl (r_move (.p rfl) rfl (r_conv (.p rfl) rfl (conv_int so133 in3 _ _) rfl ?_)))
   obtain ⟨c8, h⟩ := chk_bind h
   refine r_makeSlice (.p rfl) rfl rfl rfl slc27 sz3 byt3 (leb rfl) zv3 rfl rfl rfl c8.1 c8.2.1 c8.2.2 (map_rep eI64 _ ((0 : Int))) (r_assign (.p rfl) rfl (r_end (W_seq (W_region mixed rfl (r_move (.p rfl) rfl (r_move (.p rfl) rfl ?_))))))
   refine rt_copy eI64 (List.replicate ((IntKind.wrap .i64 v3.2)).toNat ((0 : Int))) p0 (.p rfl) rfl (dstV_own eI64 _ _ (List.replicate ((IntKind.wrap .i64 v3.2)).toNat ((0 : Int)))) rfl rfl (srcW_sl eI64 _ _ (fun _ => rfl)) trivial slc27 sz3 ?_
   refine r_assign (.p rfl) rfl (r_end (W_seq ?_))
   refine W_whileE (L := Sh.slices_Repeat_int_int_L9 N) h (fun v9 => mk [(7, .e (.one (.own 2001))), (8, .e (.one (.pure (.val (.int .i64 v9.2)))))] [(2001, .vec 1 (v9.1.map eI64))]) (fun v10 => mk [(7, .e (.one (.own 2002)))] [(2002, .vec 1 (v10.map eI64))]) (fun _ _ => rfl) (sees_mkL (rn [(2001, 30)]) _ _ ⟨rfl, rfl, trivial⟩ ⟨rfl, trivial⟩ rfl rfl) (fun j9 n9 v9 h => ?_) (fun v10 s h hs => ?_)
   ·unfold Sh.slices_Repeat_int_int_L9 at h
    refine W_seq (W_seq (W_region mixed rfl (r_move (.p rfl) rfl (r_move (.p rfl) rfl (r_len (.p rfl) rfl (.own _ _ _) ⟨rfl, trivial⟩ (List.length_map _) slc27 (r_bin (.p rfl) rfl rfl (bin_lss _ _ _ _ _ _) rfl (r_end ?_)))))))
    refine W_cond rfl (fun c11 => ?_) (fun c11 => ?_)
    ·have h := cnd_t c11 h
     refine W_skip (W_block (W_region mixed rfl (r_move (.p rfl) rfl (r_move (.p rfl) rfl (r_move (.p rfl) rfl ?_)))))
     obtain ⟨c12, h⟩ := chk_bind h
     have w13 : ((v9.2).toNat) + ((v9.1.length - (v9.2).toNat)) ≤ v9.1.length := by have := c12.2.1; have := c12.2.2; omega
     refine rt_slice eI64 v9.1 (.p rfl) rfl (dstV_own eI64 _ _ v9.1) rfl slc27 sz3 (.some _ _ _ _ c12.1) (.none _) ⟨rfl, trivial⟩ trivial c12.2.1 (by rw [Nat.zero_add]; exact c12.2.2) (Nat.zero_add _) rfl ?_
     refine r_move (.p rfl) rfl (r_move (.p rfl) rfl ?_)
     obtain ⟨c14, h⟩ := chk_bind h
     have w15 : 0 + ((v9.2).toNat) ≤ v9.1.length := by have := c14.2.1; have := c14.2.2; omega
     refine rt_slice eI64 v9.1 (.p rfl) rfl (dstV_own eI64 _ _ v9.1) rfl slc27 sz3 (.none _) (.some _ _ _ _ c14.1) trivial ⟨rfl, trivial⟩ c14.2.1 (by rw [Nat.zero_add]; exact c14.2.2) (Nat.zero_add _) rfl ?_
     refine rt_copy eI64 v9.1 (((v9.1.drop 0).take ((v9.2).toNat))) (.p rfl) rfl (dstV_view eI64 _ _ ((v9.2).toNat) ((v9.1.length - (v9.2).toNat)) v9.1 w13) rfl rfl (srcW_view eI64 _ _ 0 ((v9.2).toNat) v9.1 w15) ⟨rfl, trivial⟩ slc27 sz3 ?_
     refine r_bin (.p rfl) rfl rfl (bin_add _ _ _ _ _ _) rfl (r_assign (.p rfl) rfl ?_)
     refine r_endD (by kernel_rfl) ?_
     exact sink (spl v9.1 ((v9.2).toNat) ((((v9.1.drop 0).take ((v9.2).toNat))).take (Nat.min (((v9.1.drop 0).take ((v9.2).toNat))).length ((v9.1.length - (v9.2).toNat)))), (IntKind.wrap .i64 (v9.2 + (((Nat.min (((v9.1.drop 0).take ((v9.2).toNat))).length ((v9.1.length - (v9.2).toNat))) : Nat) : Int)))) h (sees_mkL (rn []) _ _ ⟨rfl, rfl, trivial⟩ ⟨rfl, trivial⟩ rfl rfl)
    ·have h := cnd_f c11 h
     refine W_exit ?_
     exact sink v9.1 h (sees_mkL (rn [(2002, 2001)]) _ _ ⟨rfl, trivial⟩ ⟨rfl, trivial⟩ rfl rfl)
   ·refine W_sees hs (W_seq (W_region mixed rfl (r_move (.p rfl) rfl (r_assign (.p rfl) rfl (r_end ?_)))))
    obtain rfl := Option.some.inj h
    refine W_sees (sees_mkL (rn [(1000, 2002)]) [(4, .e (.one (.own 1000)))] [(1000, .vec 1 (v10.map eI64))] ⟨rfl, trivial⟩ ⟨rfl, trivial⟩ rfl rfl) (W_ret ?_)
    exact ⟨⟨[_], ⟨.tmp _ _ rfl, trivial⟩, rfl⟩, ⟨rfl, trivial⟩⟩
set_option maxRecDepth 10000 in
theorem mix_stored_c (N : Nat) (p0 : ApiTable) (r : Bool) (h : Sh.mix_stored N p0 = some r) : Contract Try.prog 74 [.e (.agg [.pure (.val (.int .i64 p0.fKind)), .pure (.val (.int .i64 p0.fFrom)), .pure (.val (.int .i64 p0.fTo)), .pure (.val (.bool p0.fAware)), .pure (.sl (p0.fOK.map (eSl eB))), .pure (.sl (p0.fRewrite.map (eSl eB)))])] [] (.e (.one (.pure (.val (.bool r))))) := by
 unfold Sh.mix_stored at h
 refine contract_of_W (n := 11) (rs := [.tmp 2]) Try.func74 rfl rfl rfl (leb rfl) (leb rfl) rfl fun w0 S0 => ?_
 refine W_seq (W_region mixed rfl (r_box (.p rfl) rfl rfl (r_assign (.p rfl) rfl (r_end ?_))))
 refine W_join h (fun v1 => mk [(2, .e (.one (.pure (.val (.bool v1)))))] []) (fun j1 h => ?_) (fun v1 h => ?_)
 ·refine W_region mixed rfl (r_fieldAddr (.p rfl) rfl fld75_0 (r_load1 (.p rfl) rfl ag3 rfl rfl (r_bin (.p rfl) rfl rfl (bin_eql _ _ _ _ _ _) rfl (r_move (.p rfl) rfl ?_))))
  refine r_split (t := 6) rfl (fun c2 => ?_) (fun c2 => ?_)
  ·have h := cnd_t c2 h
   refine r_notB rfl rfl (r_notB rfl rfl (r_notB rfl rfl (r_pick (.p rfl) rfl rfl rfl (r_assign (.p rfl) rfl (r_end ?_)))))
   exact sink true h (sees_mkL (rn []) _ _ ⟨rfl, trivial⟩ trivial rfl rfl)
  ·have h := cnd_f c2 h
   refine r_fieldAddr (.g rfl rfl) rfl fld75_0 (r_load1 (.g rfl rfl) rfl ag3 rfl rfl (r_bin (.g rfl rfl) rfl rfl (bin_eql _ _ _ _ _ _) rfl (r_pick (.p rfl) rfl rfl rfl (r_assign (.p rfl) rfl (r_end ?_)))))
   exact sink (p0.fKind == 4) h (sees_mkL (rn []) _ _ ⟨rfl, trivial⟩ trivial rfl rfl)
 ·obtain rfl := Option.some.inj h
  refine W_sees (sees_mkL (rn []) [(2, .e (.one (.pure (.val (.bool v1)))))] [] ⟨rfl, trivial⟩ trivial rfl rfl) (W_ret ?_)
  exact ⟨⟨[_], ⟨.tmp _ _ rfl, trivial⟩, rfl⟩, trivial⟩
set_option maxRecDepth 10000 in
theorem mix_Start_c (N : Nat) (p0 : ApiProblem) (r : ApiMix × Int) (h : Sh.mix_Start N p0 = some r) : Contract Try.prog 37 [.e (.agg [.pure (.sl (p0.fVersions.map eI64)), .pure (.sl (p0.fNow.map eI64)), .pure (.sl (p0.fTarget.map eI64)), .pure (.sl (p0.fTables.map eApiTable))])] [(1, r.1.fBase.map eI64), (1, r.1.fNext.map eI64), (1, r.1.fHeld.map eU8)] (.tup [.agg [.own 0, .own 1, .own 2], .one (.pure (.val (.int .i64 r.2)))]) := by
 unfold Sh.mix_Start at h
 refine contract_of_W (n := 50) (rs := [.cell 2 43, .tmp 3]) Try.func37 rfl rfl rfl (leb rfl) (leb rfl) rfl fun w0 S0 => ?_
 refine W_seq (W_region mixed rfl (r_box (.p rfl) rfl rfl (r_alloc (.p rfl) zv43 rfl rfl rfl (r_assign (.p rfl) rfl (r_end (W_seq (W_seq (W_region mixed rfl (r_loadN (.p rfl) rfl ag30 sz30 rfl rfl rfl ?_)))))))))
 obtain ⟨v1, a1, h⟩ := bind_some h
 refine r_call (ds0 := [_]) [] (fleet_ValidProblem_c N p0 v1 a1) (.p rfl) gd61 rfl ⟨rfl, trivial⟩ rfl rfl rfl (nodupL_spec rfl) trivial rfl (r_assign (.p rfl) rfl (r_end (W_seq (W_region mixed rfl (r_move (.p rfl) rfl (r_bin (.p rfl) rfl rfl (bin_neq _ _ _ _ _ _) rfl (r_end ?_)))))))
 refine W_cond rfl (fun c2 => ?_) (fun c2 => ?_)
 ·have h := cnd_t c2 h
  refine W_seq (W_region mixed rfl (r_build [] (.p rfl) rfl trivial zv43 rfl rfl pl43 rfl (r_move (.p rfl) rfl (r_store rfl rfl rfl rfl sz43 rfl (leb rfl) rfl (r_assign (.p rfl) rfl (r_end ?_))))))
  obtain rfl := Option.some.inj h
  refine W_sees ((sees_adoptB 2 0 2001 1 _ rfl rfl rfl rfl).trans ((sees_adoptB 2 1 2002 1 _ rfl rfl rfl rfl).trans ((sees_adoptB 2 2 2003 1 _ rfl rfl rfl rfl).trans (sees_mkL (rn [(1000, 2001), (1001, 2002), (1002, 2003)]) [(2, .e (.one (.ptr 2 0))), (3, .e (.one (.pure (.val (.int .i64 v1)))))] [(2, .box [.own 1000, .own 1001, .own 1002]), (1000, .vec 1 ((([] : List Int)).map eI64)), (1001, .vec 1 ((([] : List Int)).map eI64)), (1002, .vec 1 ((([] : List Int)).map eU8))] ⟨rfl, rfl, trivial⟩ ⟨rfl, rfl, rfl, rfl, trivial⟩ rfl rfl)))) (W_ret ?_)
  exact ⟨⟨[_, _], ⟨.cellN _ _ _ _ _ _ _ rfl rfl ag43 sz43 rfl rfl (ltb rfl), ⟨.tmp _ _ rfl, trivial⟩⟩, rfl⟩, ⟨rfl, rfl, rfl, trivial⟩⟩
 ·have h := cnd_f c2 h
  refine W_skip (W_seq (W_region mixed rfl (r_fieldAddr (.p rfl) rfl fld30_1 (r_load1 (.p rfl) rfl ag27 rfl rfl ?_))))
  obtain ⟨v3, a3, h⟩ := bind_some h
  refine r_call (ds0 := [_]) [2004] (slices_Clone_int_int_c N p0.fNow v3 a3) (.p rfl) gd72 rfl ⟨rfl, trivial⟩ rfl rfl rfl (nodupL_spec rfl) ⟨rfl, trivial⟩ rfl (r_buildSlice [(0, .const (.int .i64 (-1)), _)] (.p rfl) rfl ⟨rfl, trivial⟩ rfl slc27 sz3 zv3 rfl rfl (leb rfl) rfl rfl (r_fieldAddr (.p rfl) rfl fld30_1 (r_load1 (.p rfl) rfl ag27 rfl rfl (r_len (.p rfl) rfl (.sl _) trivial (List.length_map _) slc27 ?_))))
  obtain ⟨v4, a4, h⟩ := bind_some h
  refine r_callL (ds0 := [_, _]) [2005] [(17, _)] (slices_Repeat_int_int_c N (([(-1)] : List Int)) ((p0.fNow.length : Int)) v4 a4) (.p rfl) gd73 rfl ⟨rfl, rfl, trivial⟩ ⟨rfl, trivial⟩ rfl rfl rfl (nodupL_spec rfl) ⟨rfl, trivial⟩ rfl (flatV_cons (fun _ => rfl) flatV_nil) rfl ?_
  refine r_fieldAddr (.p rfl) rfl fld30_3 (r_load1 (.p rfl) rfl ag28 rfl rfl (r_len (.p rfl) rfl (.sl _) trivial (List.length_map _) slc28 ?_))
  obtain ⟨c5, h⟩ := chk_bind h
  refine r_makeSlice (.p rfl) rfl rfl rfl slc41 sz87 byt87 (leb rfl) zv87 rfl rfl rfl c5.1 c5.2.1 c5.2.2 (map_rep eU8 _ ((0 : Int))) (r_build [(0, .tmp 16, _), (1, .tmp 21, _), (2, .tmp 25, _)] (.p rfl) rfl ⟨rfl, rfl, rfl, trivial⟩ zv43 rfl rfl pl43 rfl (r_alloc (.p rfl) zv43 rfl rfl rfl (r_store rfl rfl rfl rfl sz43 rfl (leb rfl) rfl ?_)))
  refine r_endD (by kernel_rfl) ?_
  refine W_seq (W_seq (W_region mixed rfl (r_fieldAddr (.p rfl) rfl fld30_3 (r_load1 (.p rfl) rfl ag28 rfl rfl (r_len (.p rfl) rfl (.sl _) trivial (List.length_map _) slc28 (r_move (.p rfl) rfl (r_end ?_)))))))
  refine W_whileE (L := Sh.mix_Start_L6 N p0) h (fun v6 => mk [(1, .e (.one (.ptr 1 0))), (2, .e (.one (.ptr 2 0))), (5, .e (.one (.ptr 5 0))), (28, .e (.one (.pure (.sl (p0.fTables.map eApiTable))))), (29, .e (.one (.pure (.val (.int .i64 ((p0.fTables.length : Int))))))), (30, .e (.one (.pure (.val (.int .i64 v6.2)))))] [(1, .box [.pure (.sl (p0.fVersions.map eI64)), .pure (.sl (p0.fNow.map eI64)), .pure (.sl (p0.fTarget.map eI64)), .pure (.sl (p0.fTables.map eApiTable))]), (2, .box [.pure (.nil0), .pure (.nil0), .pure (.nil0)]), (5, .box [.own 2006, .own 2007, .own 2008]), (2006, .vec 1 (v3.map eI64)), (2007, .vec 1 (v4.map eI64)), (2008, .vec 1 (v6.1.map eU8))]) (fun v7 => mk [(2, .e (.one (.ptr 2 0))), (5, .e (.one (.ptr 5 0)))] [(2, .box [.pure (.nil0), .pure (.nil0), .pure (.nil0)]), (5, .box [.own 2009, .own 2010, .own 2011]), (2009, .vec 1 (v3.map eI64)), (2010, .vec 1 (v4.map eI64)), (2011, .vec 1 (v7.map eU8))]) (fun _ _ => rfl) (sees_mkL (rn [(2006, 2004), (2007, 2005), (2008, 25)]) _ _ ⟨rfl, rfl, rfl, rfl, rfl, rfl, trivial⟩ ⟨rfl, rfl, rfl, rfl, rfl, rfl, trivial⟩ rfl rfl) (fun j6 n6 v6 h => ?_) (fun v7 s h hs => ?_)
  ·unfold Sh.mix_Start_L6 at h
   refine W_seq (W_region mixed rfl (r_bin (.p rfl) rfl rfl (bin_lss _ _ _ _ _ _) rfl (r_end (W_seq ?_))))
   refine W_cond rfl (fun c8 => ?_) (fun c8 => ?_)
   ·have h := cnd_t c8 h
    refine W_skip ?_
    refine W_join h (fun v9 => mk [(1, .e (.one (.ptr 1 0))), (2, .e (.one (.ptr 2 0))), (5, .e (.one (.ptr 5 0))), (28, .e (.one (.pure (.sl (p0.fTables.map eApiTable))))), (29, .e (.one (.pure (.val (.int .i64 ((p0.fTables.length : Int))))))), (30, .e (.one (.pure (.val (.int .i64 v6.2)))))] [(1, .box [.pure (.sl (p0.fVersions.map eI64)), .pure (.sl (p0.fNow.map eI64)), .pure (.sl (p0.fTarget.map eI64)), .pure (.sl (p0.fTables.map eApiTable))]), (2, .box [.pure (.nil0), .pure (.nil0), .pure (.nil0)]), (5, .box [.own 2012, .own 2013, .own 2014]), (2012, .vec 1 (v3.map eI64)), (2013, .vec 1 (v4.map eI64)), (2014, .vec 1 (v9.map eU8))]) (fun j9 h => ?_) (fun v9 h => ?_)
    ·refine W_block (W_seq (W_region mixed rfl (r_move (.p rfl) rfl ?_)))
     obtain ⟨v10, a10, b10, h⟩ := idx_bind h
     refine r_index (.p rfl) rfl rfl slc28 sz75 a10 (map_get b10) rfl (r_loadrN (.p rfl) rfl ag75 sz75 rfl rfl (r_alloc (.p rfl) zv75 rfl rfl rfl (r_assign (.p rfl) rfl (r_store rfl rfl rfl rfl sz75 rfl (leb rfl) rfl (r_end (W_seq (W_region mixed rfl (r_loadN (.p rfl) rfl ag75 sz75 rfl rfl rfl ?_))))))))
     obtain ⟨v11, a11, h⟩ := bind_some h
     refine r_call (ds0 := [_]) [] (mix_stored_c N v10 v11 a11) (.p rfl) gd74 rfl ⟨rfl, trivial⟩ rfl rfl rfl (nodupL_spec rfl) trivial rfl (r_end ?_)
     refine W_cond rfl (fun c12 => ?_) (fun c12 => ?_)
     ·have h := cnd_t c12 h
      refine W_region mixed rfl (r_fieldAddr (.p rfl) rfl fld43_2 (r_load1 (.p rfl) rfl ag41 rfl rfl (r_move (.p rfl) rfl (r_fieldAddr (.p rfl) rfl fld30_1 (r_load1 (.p rfl) rfl ag27 rfl rfl (r_fieldAddr (.p rfl) rfl fld75_1 (r_load1 (.p rfl) rfl ag3 rfl rfl ?_)))))))
      obtain ⟨v13, a13, b13, h⟩ := idx_bind h
      refine r_index (.p rfl) rfl rfl slc27 sz3 a13 (map_get b13) rfl (r_loadr1 (.p rfl) rfl ag3 rfl ?_)
      obtain ⟨c14, h⟩ := chk_bind h
      refine r_bin (.p rfl) rfl rfl (bin_shl _ _ _ _ _ _ _ c14) rfl ?_
      obtain ⟨v15, a15, b15, h⟩ := idx_bind h
      refine r_indexo (.p rfl) rfl rfl rfl slc41 sz87 a15 (map_get b15) (r_storee rfl rfl rfl rfl (map_get b15) rfl sz87 rfl (leb rfl) (map_setv eU8 v6.1 _ ((shlI .u8 1 v13))) ?_)
      refine r_endD (by kernel_rfl) ?_
      exact sink (v6.1.set (v6.2).toNat ((shlI .u8 1 v13))) h (sees_mkL (rn [(2012, 2006), (2013, 2007), (2014, 2008)]) _ _ ⟨rfl, rfl, rfl, rfl, rfl, rfl, trivial⟩ ⟨rfl, rfl, rfl, rfl, rfl, rfl, trivial⟩ rfl rfl)
     ·have h := cnd_f c12 h
      refine W_skip ?_
      exact sink v6.1 h (sees_mkL (rn [(2012, 2006), (2013, 2007), (2014, 2008)]) _ _ ⟨rfl, rfl, rfl, rfl, rfl, rfl, trivial⟩ ⟨rfl, rfl, rfl, rfl, rfl, rfl, trivial⟩ rfl rfl)
    ·refine W_region mixed rfl (r_bin (.p rfl) rfl rfl (bin_add _ _ _ _ _ _) rfl (r_move (.p rfl) rfl (r_end ?_)))
     exact sink (v9, (IntKind.wrap .i64 (v6.2 + 1))) h (sees_mkL (rn [(2006, 2012), (2007, 2013), (2008, 2014)]) _ _ ⟨rfl, rfl, rfl, rfl, rfl, rfl, trivial⟩ ⟨rfl, rfl, rfl, rfl, rfl, rfl, trivial⟩ rfl rfl)
   ·have h := cnd_f c8 h
    refine W_exit ?_
    exact sink v6.1 h (sees_mkL (rn [(2009, 2006), (2010, 2007), (2011, 2008)]) _ _ ⟨rfl, rfl, trivial⟩ ⟨rfl, rfl, rfl, rfl, rfl, trivial⟩ rfl rfl)
  ·refine W_sees hs (W_seq (W_region mixed rfl (r_loadN (.p rfl) rfl ag43 sz43 rfl rfl rfl (r_store rfl rfl rfl rfl sz43 rfl (leb rfl) rfl (r_assign (.p rfl) rfl (r_end ?_))))))
   obtain rfl := Option.some.inj h
   refine W_sees (sees_mkL (rn [(1000, 2009), (1001, 2010), (1002, 2011)]) [(2, .e (.one (.ptr 2 0))), (3, .e (.one (.pure (.val (.int .i64 0)))))] [(2, .box [.own 1000, .own 1001, .own 1002]), (1000, .vec 1 (v3.map eI64)), (1001, .vec 1 (v4.map eI64)), (1002, .vec 1 (v7.map eU8))] ⟨rfl, rfl, trivial⟩ ⟨rfl, rfl, rfl, rfl, trivial⟩ rfl rfl) (W_ret ?_)
   exact ⟨⟨[_, _], ⟨.cellN _ _ _ _ _ _ _ rfl rfl ag43 sz43 rfl rfl (ltb rfl), ⟨.tmp _ _ rfl, trivial⟩⟩, rfl⟩, ⟨rfl, rfl, rfl, trivial⟩⟩
set_option maxRecDepth 10000 in
theorem mix_running_c (N : Nat) (p0 : ApiMix) (p1 : Int) (r : Int) (h : Sh.mix_running N p0 p1 = some r) : Contract Try.prog 99 [.e (.agg [.pure (.sl (p0.fBase.map eI64)), .pure (.sl (p0.fNext.map eI64)), .pure (.sl (p0.fHeld.map eU8))]), .e (.one (.pure (.val (.int .i64 p1))))] [] (.e (.one (.pure (.val (.int .u8 r))))) := by
 unfold Sh.mix_running at h
 refine contract_of_W (n := 27) (rs := [.tmp 4]) Try.func99 rfl rfl rfl (leb rfl) (leb rfl) rfl fun w0 S0 => ?_
 refine W_seq (W_region mixed rfl (r_box (.p rfl) rfl rfl (r_assign (.p rfl) rfl (r_end (W_seq (W_region mixed rfl (r_fieldAddr (.p rfl) rfl fld43_0 (r_load1 (.p rfl) rfl ag27 rfl rfl (r_move (.p rfl) rfl ?_)))))))))
 obtain ⟨v1, a1, b1, h⟩ := idx_bind h
 refine r_index (.p rfl) rfl rfl slc27 sz3 a1 (map_get b1) rfl (r_loadr1 (.p rfl) rfl ag3 rfl ?_)
 obtain ⟨c2, h⟩ := chk_bind h
 refine r_bin (.p rfl) rfl rfl (bin_shl _ _ _ _ _ _ _ c2) rfl (r_assign (.p rfl) rfl (r_end ?_))
 refine W_join h (fun v3 => mk [(5, .e (.one (.pure (.val (.int .u8 v3)))))] []) (fun j3 h => ?_) (fun v3 h => ?_)
 ·refine W_seq (W_region mixed rfl (r_fieldAddr (.p rfl) rfl fld43_1 (r_load1 (.p rfl) rfl ag27 rfl rfl (r_move (.p rfl) rfl ?_))))
  obtain ⟨v4, a4, b4, h⟩ := idx_bind h
  refine r_index (.p rfl) rfl rfl slc27 sz3 a4 (map_get b4) rfl (r_loadr1 (.p rfl) rfl ag3 rfl (r_bin (.p rfl) rfl rfl (bin_geq _ _ _ _ _ _) rfl (r_end ?_)))
  refine W_cond rfl (fun c5 => ?_) (fun c5 => ?_)
  ·have h := cnd_t c5 h
   refine W_region mixed rfl (r_move (.p rfl) rfl (r_fieldAddr (.p rfl) rfl fld43_1 (r_load1 (.p rfl) rfl ag27 rfl rfl (r_move (.p rfl) rfl ?_))))
   obtain ⟨v6, a6, b6, h⟩ := idx_bind h
   refine r_index (.p rfl) rfl rfl slc27 sz3 a6 (map_get b6) rfl (r_loadr1 (.p rfl) rfl ag3 rfl ?_)
   obtain ⟨c7, h⟩ := chk_bind h
   refine r_bin (.p rfl) rfl rfl (bin_shl _ _ _ _ _ _ _ c7) rfl (r_bin (.p rfl) rfl rfl (bin_or _ _ _ _ _ _) rfl (r_assign (.p rfl) rfl (r_end ?_)))
   exact sink (orI .u8 ((shlI .u8 1 v1)) ((shlI .u8 1 v6))) h (sees_mkL (rn []) _ _ ⟨rfl, trivial⟩ trivial rfl rfl)
  ·have h := cnd_f c5 h
   refine W_skip ?_
   exact sink (shlI .u8 1 v1) h (sees_mkL (rn []) _ _ ⟨rfl, trivial⟩ trivial rfl rfl)
 ·refine W_seq (W_region mixed rfl (r_move (.p rfl) rfl (r_assign (.p rfl) rfl (r_end ?_))))
  obtain rfl := Option.some.inj h
  refine W_sees (sees_mkL (rn []) [(4, .e (.one (.pure (.val (.int .u8 v3)))))] [] ⟨rfl, trivial⟩ trivial rfl rfl) (W_ret ?_)
  exact ⟨⟨[_], ⟨.tmp _ _ rfl, trivial⟩, rfl⟩, trivial⟩
set_option maxRecDepth 10000 in
theorem mix_Valid_c (N : Nat) (p0 : ApiProblem) (p1 : ApiMix) (r : Int) (h : Sh.mix_Valid N p0 p1 = some r) : Contract Try.prog 77 [.e (.agg [.pure (.sl (p0.fVersions.map eI64)), .pure (.sl (p0.fNow.map eI64)), .pure (.sl (p0.fTarget.map eI64)), .pure (.sl (p0.fTables.map eApiTable))]), .e (.agg [.pure (.sl (p1.fBase.map eI64)), .pure (.sl (p1.fNext.map eI64)), .pure (.sl (p1.fHeld.map eU8))])] [] (.e (.one (.pure (.val (.int .i64 r))))) := by
 unfold Sh.mix_Valid at h
 refine contract_of_W (n := 135) (rs := [.tmp 4]) Try.func77 rfl rfl rfl (leb rfl) (leb rfl) rfl fun w0 S0 => ?_
 refine W_seq (W_region mixed rfl (r_box (.p rfl) rfl rfl (r_box (.p rfl) rfl rfl (r_assign (.p rfl) rfl (r_end (W_seq (W_seq (W_region mixed rfl (r_loadN (.p rfl) rfl ag30 sz30 rfl rfl rfl ?_)))))))))
 obtain ⟨v1, a1, h⟩ := bind_some h
 refine r_call (ds0 := [_]) [] (fleet_ValidProblem_c N p0 v1 a1) (.p rfl) gd61 rfl ⟨rfl, trivial⟩ rfl rfl rfl (nodupL_spec rfl) trivial rfl (r_assign (.p rfl) rfl (r_end (W_seq (W_region mixed rfl (r_move (.p rfl) rfl (r_bin (.p rfl) rfl rfl (bin_neq _ _ _ _ _ _) rfl (r_end ?_)))))))
 refine W_cond rfl (fun c2 => ?_) (fun c2 => ?_)
 ·have h := cnd_t c2 h
  refine W_seq (W_region mixed rfl (r_move (.p rfl) rfl (r_assign (.p rfl) rfl (r_end ?_))))
  obtain rfl := Option.some.inj h
  refine W_sees (sees_mkL (rn []) [(4, .e (.one (.pure (.val (.int .i64 v1)))))] [] ⟨rfl, trivial⟩ trivial rfl rfl) (W_ret ?_)
  exact ⟨⟨[_], ⟨.tmp _ _ rfl, trivial⟩, rfl⟩, trivial⟩
 ·have h := cnd_f c2 h
  refine W_skip (W_seq ?_)
  refine W_join h (fun v3 => mk [(2, .e (.one (.ptr 2 0))), (3, .e (.one (.ptr 3 0))), (41, .e (.one (.pure (.val (.bool v3)))))] [(2, .box [.pure (.sl (p0.fVersions.map eI64)), .pure (.sl (p0.fNow.map eI64)), .pure (.sl (p0.fTarget.map eI64)), .pure (.sl (p0.fTables.map eApiTable))]), (3, .box [.pure (.sl (p1.fBase.map eI64)), .pure (.sl (p1.fNext.map eI64)), .pure (.sl (p1.fHeld.map eU8))])]) (fun j3 h => ?_) (fun v3 h => ?_)
  ·refine W_region mixed rfl (r_fieldAddr (.p rfl) rfl fld43_0 (r_load1 (.p rfl) rfl ag27 rfl rfl (r_len (.p rfl) rfl (.sl _) trivial (List.length_map _) slc27 (r_fieldAddr (.p rfl) rfl fld30_0 (r_load1 (.p rfl) rfl ag27 rfl rfl (r_len (.p rfl) rfl (.sl _) trivial (List.length_map _) slc27 (r_bin (.p rfl) rfl rfl (bin_neq _ _ _ _ _ _) rfl (r_move (.p rfl) rfl ?_))))))))
   refine r_split (t := 24) rfl (fun c4 => ?_) (fun c4 => ?_)
   ·have h := cnd_t c4 h
    refine r_notB rfl rfl (r_notB rfl rfl (r_notB rfl rfl (r_notB rfl rfl (r_notB rfl rfl (r_notB rfl rfl (r_notB rfl rfl (r_pick (.p rfl) rfl rfl rfl (r_move (.p rfl) rfl (r_notB rfl rfl (r_notB rfl rfl (r_notB rfl rfl (r_notB rfl rfl (r_notB rfl rfl (r_notB rfl rfl (r_notB rfl rfl (r_pick (.p rfl) rfl rfl rfl (r_end ?_)))))))))))))))))
    exact sink true h (sees_mkL (rn []) _ _ ⟨rfl, rfl, rfl, trivial⟩ ⟨rfl, rfl, trivial⟩ rfl rfl)
   ·have h := cnd_f c4 h
    refine r_fieldAddr (.g rfl rfl) rfl fld43_1 (r_load1 (.g rfl rfl) rfl ag27 rfl rfl (r_len (.g rfl rfl) rfl (.sl _) trivial (List.length_map _) slc27 (r_fieldAddr (.g rfl rfl) rfl fld30_0 (r_load1 (.g rfl rfl) rfl ag27 rfl rfl (r_len (.g rfl rfl) rfl (.sl _) trivial (List.length_map _) slc27 (r_bin (.g rfl rfl) rfl rfl (bin_neq _ _ _ _ _ _) rfl (r_pick (.p rfl) rfl rfl rfl (r_move (.p rfl) rfl ?_))))))))
    refine r_split (t := 33) rfl (fun c5 => ?_) (fun c5 => ?_)
    ·have h := cnd_t c5 h
     refine r_notB rfl rfl (r_notB rfl rfl (r_notB rfl rfl (r_notB rfl rfl (r_notB rfl rfl (r_notB rfl rfl (r_notB rfl rfl (r_pick (.p rfl) rfl rfl rfl (r_end ?_))))))))
     exact sink true h (sees_mkL (rn []) _ _ ⟨rfl, rfl, rfl, trivial⟩ ⟨rfl, rfl, trivial⟩ rfl rfl)
    ·have h := cnd_f c5 h
     refine r_fieldAddr (.g rfl rfl) rfl fld43_2 (r_load1 (.g rfl rfl) rfl ag41 rfl rfl (r_len (.g rfl rfl) rfl (.sl _) trivial (List.length_map _) slc41 (r_fieldAddr (.g rfl rfl) rfl fld30_3 (r_load1 (.g rfl rfl) rfl ag28 rfl rfl (r_len (.g rfl rfl) rfl (.sl _) trivial (List.length_map _) slc28 (r_bin (.g rfl rfl) rfl rfl (bin_neq _ _ _ _ _ _) rfl (r_pick (.p rfl) rfl rfl rfl (r_end ?_))))))))
     exact sink ((p1.fHeld.length : Int) != (p0.fTables.length : Int)) h (sees_mkL (rn []) _ _ ⟨rfl, rfl, rfl, trivial⟩ ⟨rfl, rfl, trivial⟩ rfl rfl)
  ·refine W_cond rfl (fun c6 => ?_) (fun c6 => ?_)
   ·have h := cnd_t c6 h
    refine W_seq (W_region mixed rfl (r_assign (.p rfl) rfl (r_end ?_)))
    obtain rfl := Option.some.inj h
    refine W_sees (sees_mkL (rn []) [(4, .e (.one (.pure (.val (.int .i64 6)))))] [] ⟨rfl, trivial⟩ trivial rfl rfl) (W_ret ?_)
    exact ⟨⟨[_], ⟨.tmp _ _ rfl, trivial⟩, rfl⟩, trivial⟩
   ·have h := cnd_f c6 h
    refine W_skip (W_seq (W_seq (W_region mixed rfl (r_fieldAddr (.p rfl) rfl fld30_0 (r_load1 (.p rfl) rfl ag27 rfl rfl (r_len (.p rfl) rfl (.sl _) trivial (List.length_map _) slc27 (r_move (.p rfl) rfl (r_end ?_))))))))
    refine W_whileE (L := Sh.mix_Valid_L7 N p0 p1) h (fun v7 => mk [(2, .e (.one (.ptr 2 0))), (3, .e (.one (.ptr 3 0))), (43, .e (.one (.pure (.sl (p0.fVersions.map eI64))))), (44, .e (.one (.pure (.val (.int .i64 ((p0.fVersions.length : Int))))))), (45, .e (.one (.pure (.val (.int .i64 v7)))))] [(2, .box [.pure (.sl (p0.fVersions.map eI64)), .pure (.sl (p0.fNow.map eI64)), .pure (.sl (p0.fTarget.map eI64)), .pure (.sl (p0.fTables.map eApiTable))]), (3, .box [.pure (.sl (p1.fBase.map eI64)), .pure (.sl (p1.fNext.map eI64)), .pure (.sl (p1.fHeld.map eU8))])]) (fun v8 => mk [(2, .e (.one (.ptr 2 0))), (3, .e (.one (.ptr 3 0)))] [(2, .box [.pure (.sl (p0.fVersions.map eI64)), .pure (.sl (p0.fNow.map eI64)), .pure (.sl (p0.fTarget.map eI64)), .pure (.sl (p0.fTables.map eApiTable))]), (3, .box [.pure (.sl (p1.fBase.map eI64)), .pure (.sl (p1.fNext.map eI64)), .pure (.sl (p1.fHeld.map eU8))])]) (fun _ _ => rfl) (sees_mkL (rn []) _ _ ⟨rfl, rfl, rfl, rfl, rfl, trivial⟩ ⟨rfl, rfl, trivial⟩ rfl rfl) (fun j7 n7 v7 h => ?_) (fun v8 s h hs => ?_)
    ·unfold Sh.mix_Valid_L7 at h
     refine W_seq (W_region mixed rfl (r_bin (.p rfl) rfl rfl (bin_lss _ _ _ _ _ _) rfl (r_end (W_seq ?_))))
     refine W_cond rfl (fun c9 => ?_) (fun c9 => ?_)
     ·have h := cnd_t c9 h
      refine W_skip (W_seq (W_block (W_seq (W_region mixed rfl (r_move (.p rfl) rfl ?_)))))
      obtain ⟨v10, a10, b10, h⟩ := idx_bind h
      refine r_index (.p rfl) rfl rfl slc27 sz3 a10 (map_get b10) rfl (r_loadr1 (.p rfl) rfl ag3 rfl (r_assign (.p rfl) rfl (r_assign (.p rfl) rfl (r_end (W_seq ?_)))))
      refine W_join h (fun v11 => mk [(2, .e (.one (.ptr 2 0))), (3, .e (.one (.ptr 3 0))), (6, .e (.one (.pure (.val (.int .i64 v7))))), (43, .e (.one (.pure (.sl (p0.fVersions.map eI64))))), (44, .e (.one (.pure (.val (.int .i64 ((p0.fVersions.length : Int))))))), (45, .e (.one (.pure (.val (.int .i64 v7))))), (81, .e (.one (.pure (.val (.bool v11)))))] [(2, .box [.pure (.sl (p0.fVersions.map eI64)), .pure (.sl (p0.fNow.map eI64)), .pure (.sl (p0.fTarget.map eI64)), .pure (.sl (p0.fTables.map eApiTable))]), (3, .box [.pure (.sl (p1.fBase.map eI64)), .pure (.sl (p1.fNext.map eI64)), .pure (.sl (p1.fHeld.map eU8))])]) (fun j11 h => ?_) (fun v11 h => ?_)
      ·refine W_region mixed rfl (r_fieldAddr (.p rfl) rfl fld43_0 (r_load1 (.p rfl) rfl ag27 rfl rfl (r_move (.p rfl) rfl ?_)))
       obtain ⟨v12, a12, b12, h⟩ := idx_bind h
       refine r_index (.p rfl) rfl rfl slc27 sz3 a12 (map_get b12) rfl (r_loadr1 (.p rfl) rfl ag3 rfl (r_bin (.p rfl) rfl rfl (bin_lss _ _ _ _ _ _) rfl (r_move (.p rfl) rfl ?_)))
       refine r_split (t := 56) rfl (fun c13 => ?_) (fun c13 => ?_)
       ·have h := cnd_t c13 h
        refine r_notB rfl rfl (r_notB rfl rfl (r_notB rfl rfl (r_notB rfl rfl (r_notB rfl rfl (r_notB rfl rfl (r_notB rfl rfl (r_pick (.p rfl) rfl rfl rfl (r_move (.p rfl) rfl (r_notB rfl rfl (r_notB rfl rfl (r_notB rfl rfl (r_notB rfl rfl (r_notB rfl rfl (r_notB rfl rfl (r_pick (.p rfl) rfl rfl rfl (r_move (.p rfl) rfl (r_notB rfl rfl (r_notB rfl rfl (r_notB rfl rfl (r_notB rfl rfl (r_notB rfl rfl (r_notB rfl rfl (r_notB rfl rfl (r_pick (.p rfl) rfl rfl rfl (r_end ?_)))))))))))))))))))))))))
        exact sink true h (sees_mkL (rn []) _ _ ⟨rfl, rfl, rfl, rfl, rfl, rfl, rfl, trivial⟩ ⟨rfl, rfl, trivial⟩ rfl rfl)
       ·have h := cnd_f c13 h
        refine r_fieldAddr (.g rfl rfl) rfl fld43_0 (r_load1 (.g rfl rfl) rfl ag27 rfl rfl (r_move (.g rfl rfl) rfl ?_))
        obtain ⟨v14, a14, b14, h⟩ := idx_bind h
        refine r_index (.g rfl rfl) rfl rfl slc27 sz3 a14 (map_get b14) rfl (r_loadr1 (.g rfl rfl) rfl ag3 rfl (r_move (.g rfl rfl) rfl (r_bin (.g rfl rfl) rfl rfl (bin_geq _ _ _ _ _ _) rfl (r_pick (.p rfl) rfl rfl rfl (r_move (.p rfl) rfl ?_)))))
        refine r_split (t := 65) rfl (fun c15 => ?_) (fun c15 => ?_)
        ·have h := cnd_t c15 h
         refine r_notB rfl rfl (r_notB rfl rfl (r_notB rfl rfl (r_notB rfl rfl (r_notB rfl rfl (r_notB rfl rfl (r_pick (.p rfl) rfl rfl rfl (r_move (.p rfl) rfl (r_notB rfl rfl (r_notB rfl rfl (r_notB rfl rfl (r_notB rfl rfl (r_notB rfl rfl (r_notB rfl rfl (r_notB rfl rfl (r_pick (.p rfl) rfl rfl rfl (r_end ?_))))))))))))))))
         exact sink true h (sees_mkL (rn []) _ _ ⟨rfl, rfl, rfl, rfl, rfl, rfl, rfl, trivial⟩ ⟨rfl, rfl, trivial⟩ rfl rfl)
        ·have h := cnd_f c15 h
         refine r_fieldAddr (.g rfl rfl) rfl fld43_1 (r_load1 (.g rfl rfl) rfl ag27 rfl rfl (r_move (.g rfl rfl) rfl ?_))
         obtain ⟨v16, a16, b16, h⟩ := idx_bind h
         refine r_index (.g rfl rfl) rfl rfl slc27 sz3 a16 (map_get b16) rfl (r_loadr1 (.g rfl rfl) rfl ag3 rfl (r_bin (.g rfl rfl) rfl rfl (bin_lss _ _ _ _ _ _) rfl (r_pick (.p rfl) rfl rfl rfl (r_move (.p rfl) rfl ?_))))
         refine r_split (t := 73) rfl (fun c17 => ?_) (fun c17 => ?_)
         ·have h := cnd_t c17 h
          refine r_notB rfl rfl (r_notB rfl rfl (r_notB rfl rfl (r_notB rfl rfl (r_notB rfl rfl (r_notB rfl rfl (r_notB rfl rfl (r_pick (.p rfl) rfl rfl rfl (r_end ?_))))))))
          exact sink true h (sees_mkL (rn []) _ _ ⟨rfl, rfl, rfl, rfl, rfl, rfl, rfl, trivial⟩ ⟨rfl, rfl, trivial⟩ rfl rfl)
         ·have h := cnd_f c17 h
          refine r_fieldAddr (.g rfl rfl) rfl fld43_1 (r_load1 (.g rfl rfl) rfl ag27 rfl rfl (r_move (.g rfl rfl) rfl ?_))
          obtain ⟨v18, a18, b18, h⟩ := idx_bind h
          refine r_index (.g rfl rfl) rfl rfl slc27 sz3 a18 (map_get b18) rfl (r_loadr1 (.g rfl rfl) rfl ag3 rfl (r_move (.g rfl rfl) rfl (r_bin (.g rfl rfl) rfl rfl (bin_geq _ _ _ _ _ _) rfl (r_pick (.p rfl) rfl rfl rfl (r_end ?_)))))
          exact sink (decide (v10 ≤ v18)) h (sees_mkL (rn []) _ _ ⟨rfl, rfl, rfl, rfl, rfl, rfl, rfl, trivial⟩ ⟨rfl, rfl, trivial⟩ rfl rfl)
      ·refine W_cond rfl (fun c19 => ?_) (fun c19 => ?_)
       ·have h := cnd_t c19 h
        refine W_seq (W_region mixed rfl (r_assign (.p rfl) rfl (r_end ?_)))
        obtain rfl := Option.some.inj h
        refine W_sees (sees_mkL (rn []) [(4, .e (.one (.pure (.val (.int .i64 7)))))] [] ⟨rfl, trivial⟩ trivial rfl rfl) (W_ret ?_)
        exact ⟨⟨[_], ⟨.tmp _ _ rfl, trivial⟩, rfl⟩, trivial⟩
       ·have h := cnd_f c19 h
        refine W_skip (W_seq (W_region mixed rfl (r_fieldAddr (.p rfl) rfl fld43_0 (r_load1 (.p rfl) rfl ag27 rfl rfl (r_move (.p rfl) rfl ?_)))))
        obtain ⟨v20, a20, b20, h⟩ := idx_bind h
        refine r_index (.p rfl) rfl rfl slc27 sz3 a20 (map_get b20) rfl (r_loadr1 (.p rfl) rfl ag3 rfl (r_fieldAddr (.p rfl) rfl fld43_1 (r_load1 (.p rfl) rfl ag27 rfl rfl (r_move (.p rfl) rfl ?_))))
        obtain ⟨v21, a21, b21, h⟩ := idx_bind h
        refine r_index (.p rfl) rfl rfl slc27 sz3 a21 (map_get b21) rfl (r_loadr1 (.p rfl) rfl ag3 rfl (r_bin (.p rfl) rfl rfl (bin_eql _ _ _ _ _ _) rfl ?_))
        refine r_endD (by kernel_rfl) ?_
        refine W_cond rfl (fun c22 => ?_) (fun c22 => ?_)
        ·have h := cnd_t c22 h
         refine W_seq (W_region mixed rfl (r_assign (.p rfl) rfl (r_end ?_)))
         obtain rfl := Option.some.inj h
         refine W_sees (sees_mkL (rn []) [(4, .e (.one (.pure (.val (.int .i64 1)))))] [] ⟨rfl, trivial⟩ trivial rfl rfl) (W_ret ?_)
         exact ⟨⟨[_], ⟨.tmp _ _ rfl, trivial⟩, rfl⟩, trivial⟩
        ·have h := cnd_f c22 h
         refine W_skip (W_region mixed rfl (r_bin (.p rfl) rfl rfl (bin_add _ _ _ _ _ _) rfl (r_move (.p rfl) rfl (r_end ?_))))
         exact sink (IntKind.wrap .i64 (v7 + 1)) h (sees_mkL (rn []) _ _ ⟨rfl, rfl, rfl, rfl, rfl, trivial⟩ ⟨rfl, rfl, trivial⟩ rfl rfl)
     ·have h := cnd_f c9 h
      refine W_exit ?_
      exact sink () h (sees_mkL (rn []) _ _ ⟨rfl, rfl, trivial⟩ ⟨rfl, rfl, trivial⟩ rfl rfl)
    ·refine W_sees hs (W_seq (W_seq (W_region mixed rfl (r_fieldAddr (.p rfl) rfl fld30_3 (r_load1 (.p rfl) rfl ag28 rfl rfl (r_len (.p rfl) rfl (.sl _) trivial (List.length_map _) slc28 (r_move (.p rfl) rfl (r_end ?_))))))))
     refine W_whileE (L := Sh.mix_Valid_L23 N p0 p1) h (fun v23 => mk [(2, .e (.one (.ptr 2 0))), (3, .e (.one (.ptr 3 0))), (95, .e (.one (.pure (.sl (p0.fTables.map eApiTable))))), (96, .e (.one (.pure (.val (.int .i64 ((p0.fTables.length : Int))))))), (97, .e (.one (.pure (.val (.int .i64 v23)))))] [(2, .box [.pure (.sl (p0.fVersions.map eI64)), .pure (.sl (p0.fNow.map eI64)), .pure (.sl (p0.fTarget.map eI64)), .pure (.sl (p0.fTables.map eApiTable))]), (3, .box [.pure (.sl (p1.fBase.map eI64)), .pure (.sl (p1.fNext.map eI64)), .pure (.sl (p1.fHeld.map eU8))])]) (fun v24 => mk [] []) (fun _ _ => rfl) (sees_mkL (rn []) _ _ ⟨rfl, rfl, rfl, rfl, rfl, trivial⟩ ⟨rfl, rfl, trivial⟩ rfl rfl) (fun j23 n23 v23 h => ?_) (fun v24 s h hs => ?_)
     ·unfold Sh.mix_Valid_L23 at h
      refine W_seq (W_region mixed rfl (r_bin (.p rfl) rfl rfl (bin_lss _ _ _ _ _ _) rfl (r_end (W_seq ?_))))
      refine W_cond rfl (fun c25 => ?_) (fun c25 => ?_)
      ·have h := cnd_t c25 h
       refine W_skip (W_seq (W_block (W_seq (W_region mixed rfl (r_move (.p rfl) rfl ?_)))))
       obtain ⟨v26, a26, b26, h⟩ := idx_bind h
       refine r_index (.p rfl) rfl rfl slc28 sz75 a26 (map_get b26) rfl (r_loadrN (.p rfl) rfl ag75 sz75 rfl rfl (r_alloc (.p rfl) zv75 rfl rfl rfl (r_assign (.p rfl) rfl (r_store rfl rfl rfl rfl sz75 rfl (leb rfl) rfl (r_end (W_seq (W_region mixed rfl (r_assign (.p rfl) rfl (r_assign (.p rfl) rfl (r_end ?_))))))))))
       refine W_join h (fun v27 => mk [(2, .e (.one (.ptr 2 0))), (3, .e (.one (.ptr 3 0))), (8, .e (.one (.pure (.val (.int .i64 v23))))), (10, .e (.one (.pure (.val (.int .u8 v27.1))))), (11, .e (.one (.pure (.val (.int .u8 v27.2))))), (95, .e (.one (.pure (.sl (p0.fTables.map eApiTable))))), (96, .e (.one (.pure (.val (.int .i64 ((p0.fTables.length : Int))))))), (97, .e (.one (.pure (.val (.int .i64 v23)))))] [(2, .box [.pure (.sl (p0.fVersions.map eI64)), .pure (.sl (p0.fNow.map eI64)), .pure (.sl (p0.fTarget.map eI64)), .pure (.sl (p0.fTables.map eApiTable))]), (3, .box [.pure (.sl (p1.fBase.map eI64)), .pure (.sl (p1.fNext.map eI64)), .pure (.sl (p1.fHeld.map eU8))])]) (fun j27 h => ?_) (fun v27 h => ?_)
       ·refine W_seq (W_region mixed rfl (r_loadN (.p rfl) rfl ag75 sz75 rfl rfl rfl ?_))
        obtain ⟨v28, a28, h⟩ := bind_some h
        refine r_call (ds0 := [_]) [] (mix_stored_c N v26 v28 a28) (.p rfl) gd74 rfl ⟨rfl, trivial⟩ rfl rfl rfl (nodupL_spec rfl) trivial rfl (r_end ?_)
        refine W_cond rfl (fun c29 => ?_) (fun c29 => ?_)
        ·have h := cnd_t c29 h
         refine W_region mixed rfl (r_loadN (.p rfl) rfl ag43 sz43 rfl rfl rfl (r_fieldAddr (.p rfl) rfl fld75_1 (r_load1 (.p rfl) rfl ag3 rfl rfl ?_)))
         obtain ⟨v30, a30, h⟩ := bind_some h
         refine r_call (ds0 := [_, _]) [] (mix_running_c N p1 v26.fFrom v30 a30) (.p rfl) gd99 rfl ⟨rfl, rfl, trivial⟩ rfl rfl rfl (nodupL_spec rfl) trivial rfl (r_fieldAddr (.p rfl) rfl fld30_0 (r_load1 (.p rfl) rfl ag27 rfl rfl (r_fieldAddr (.p rfl) rfl fld75_1 (r_load1 (.p rfl) rfl ag3 rfl rfl ?_))))
         obtain ⟨v31, a31, b31, h⟩ := idx_bind h
         refine r_index (.p rfl) rfl rfl slc27 sz3 a31 (map_get b31) rfl (r_loadr1 (.p rfl) rfl ag3 rfl ?_)
         obtain ⟨c32, h⟩ := chk_bind h
         refine r_bin (.p rfl) rfl rfl (bin_shl _ _ _ _ _ _ _ c32) rfl (r_bin (.p rfl) rfl rfl (bin_sub _ _ _ _ _ _) rfl (r_assign (.p rfl) rfl (r_assign (.p rfl) rfl ?_)))
         refine r_endD (by kernel_rfl) ?_
         exact sink (v30, (IntKind.wrap .u8 ((shlI .u8 1 v31) - 1))) h (sees_mkL (rn []) _ _ ⟨rfl, rfl, rfl, rfl, rfl, rfl, rfl, rfl, trivial⟩ ⟨rfl, rfl, trivial⟩ rfl rfl)
        ·have h := cnd_f c29 h
         refine W_skip ?_
         exact sink (0, 0) h (sees_mkL (rn []) _ _ ⟨rfl, rfl, rfl, rfl, rfl, rfl, rfl, rfl, trivial⟩ ⟨rfl, rfl, trivial⟩ rfl rfl)
       ·refine W_join h (fun v33 => mk [(2, .e (.one (.ptr 2 0))), (3, .e (.one (.ptr 3 0))), (95, .e (.one (.pure (.sl (p0.fTables.map eApiTable))))), (96, .e (.one (.pure (.val (.int .i64 ((p0.fTables.length : Int))))))), (97, .e (.one (.pure (.val (.int .i64 v23))))), (133, .e (.one (.pure (.val (.bool v33)))))] [(2, .box [.pure (.sl (p0.fVersions.map eI64)), .pure (.sl (p0.fNow.map eI64)), .pure (.sl (p0.fTarget.map eI64)), .pure (.sl (p0.fTables.map eApiTable))]), (3, .box [.pure (.sl (p1.fBase.map eI64)), .pure (.sl (p1.fNext.map eI64)), .pure (.sl (p1.fHeld.map eU8))])]) (fun j33 h => ?_) (fun v33 h => ?_)
        ·refine W_region mixed rfl (r_move (.p rfl) rfl (r_fieldAddr (.p rfl) rfl fld43_2 (r_load1 (.p rfl) rfl ag41 rfl rfl (r_move (.p rfl) rfl ?_))))
         obtain ⟨v34, a34, b34, h⟩ := idx_bind h
         refine r_index (.p rfl) rfl rfl slc41 sz87 a34 (map_get b34) rfl (r_loadr1 (.p rfl) rfl ag87 rfl (r_bin (.p rfl) rfl rfl (bin_andNot _ _ _ _ _ _) rfl (r_bin (.p rfl) rfl rfl (bin_neq _ _ _ _ _ _) rfl (r_move (.p rfl) rfl ?_))))
         refine r_split (t := 124) rfl (fun c35 => ?_) (fun c35 => ?_)
         ·have h := cnd_t c35 h
          refine r_notB rfl rfl (r_notB rfl rfl (r_notB rfl rfl (r_notB rfl rfl (r_notB rfl rfl (r_notB rfl rfl (r_notB rfl rfl (r_notB rfl rfl (r_pick (.p rfl) rfl rfl rfl (r_end ?_)))))))))
          exact sink true h (sees_mkL (rn []) _ _ ⟨rfl, rfl, rfl, rfl, rfl, rfl, trivial⟩ ⟨rfl, rfl, trivial⟩ rfl rfl)
         ·have h := cnd_f c35 h
          refine r_fieldAddr (.g rfl rfl) rfl fld43_2 (r_load1 (.g rfl rfl) rfl ag41 rfl rfl (r_move (.g rfl rfl) rfl ?_))
          obtain ⟨v36, a36, b36, h⟩ := idx_bind h
          refine r_index (.g rfl rfl) rfl rfl slc41 sz87 a36 (map_get b36) rfl (r_loadr1 (.g rfl rfl) rfl ag87 rfl (r_move (.g rfl rfl) rfl (r_bin (.g rfl rfl) rfl rfl (bin_andNot _ _ _ _ _ _) rfl (r_bin (.g rfl rfl) rfl rfl (bin_neq _ _ _ _ _ _) rfl (r_pick (.p rfl) rfl rfl rfl (r_end ?_))))))
          exact sink ((andNotI .u8 v36 v27.2) != 0) h (sees_mkL (rn []) _ _ ⟨rfl, rfl, rfl, rfl, rfl, rfl, trivial⟩ ⟨rfl, rfl, trivial⟩ rfl rfl)
        ·refine W_cond rfl (fun c37 => ?_) (fun c37 => ?_)
         ·have h := cnd_t c37 h
          refine W_seq (W_region mixed rfl (r_assign (.p rfl) rfl (r_end ?_)))
          obtain rfl := Option.some.inj h
          refine W_sees (sees_mkL (rn []) [(4, .e (.one (.pure (.val (.int .i64 1)))))] [] ⟨rfl, trivial⟩ trivial rfl rfl) (W_ret ?_)
          exact ⟨⟨[_], ⟨.tmp _ _ rfl, trivial⟩, rfl⟩, trivial⟩
         ·have h := cnd_f c37 h
          refine W_skip (W_region mixed rfl (r_bin (.p rfl) rfl rfl (bin_add _ _ _ _ _ _) rfl (r_move (.p rfl) rfl (r_end ?_))))
          exact sink (IntKind.wrap .i64 (v23 + 1)) h (sees_mkL (rn []) _ _ ⟨rfl, rfl, rfl, rfl, rfl, trivial⟩ ⟨rfl, rfl, trivial⟩ rfl rfl)
      ·have h := cnd_f c25 h
       refine W_exit ?_
       exact sink () h (sees_mkL (rn []) _ _ trivial trivial rfl rfl)
     ·refine W_sees hs (W_seq (W_region mixed rfl (r_assign (.p rfl) rfl (r_end ?_))))
      obtain rfl := Option.some.inj h
      refine W_sees (sees_mkL (rn []) [(4, .e (.one (.pure (.val (.int .i64 0)))))] [] ⟨rfl, trivial⟩ trivial rfl rfl) (W_ret ?_)
      exact ⟨⟨[_], ⟨.tmp _ _ rfl, trivial⟩, rfl⟩, trivial⟩
set_option maxRecDepth 10000 in
theorem slices_Clone_api_Set_api_Set_c (N : Nat) (p0 : List Int) (r : (List Int)) (h : Sh.slices_Clone_api_Set_api_Set N p0 = some r) : Contract Try.prog 98 [.e (.one (.pure (.sl (p0.map eU8))))] [(1, r.map eU8)] (.e (.one (.own 0))) := by
 unfold Sh.slices_Clone_api_Set_api_Set at h
 refine contract_of_W (n := 8) (rs := [.tmp 2]) Try.func98 rfl rfl rfl (leb rfl) (leb rfl) rfl fun w0 S0 => ?_
 refine W_seq (W_region mixed rfl (r_assign (.p rfl) rfl (r_end (W_seq (W_seq (W_region mixed rfl (r_move (.p rfl) rfl ?_)))))))
 refine r_eqNil (.p rfl) rfl slc41 ?_
 refine r_end ?_
 refine W_condN rfl (fun c2 => ?_) ?_
 ·have c2 := List.map_eq_nil_iff.1 c2
  rw [c2] at h
  have h : (some (([] : List Int))) = some r := h
  refine W_seq (W_region mixed rfl (r_assign (.p rfl) rfl (r_end ?_)))
  obtain rfl := Option.some.inj h
  refine W_sees ((sees_adopt 2 2001 1 rfl rfl rfl).trans (sees_mkL (rn [(1000, 2001)]) [(2, .e (.one (.own 1000)))] [(1000, .vec 1 ((([] : List Int)).map eU8))] ⟨rfl, trivial⟩ ⟨rfl, trivial⟩ rfl rfl)) (W_ret ?_)
  exact ⟨⟨[_], ⟨.tmp _ _ rfl, trivial⟩, rfl⟩, ⟨rfl, trivial⟩⟩
 ·refine W_skip (W_seq (W_region mixed rfl (r_buildSlice [] (.p rfl) rfl trivial rfl slc41 sz87 zv87 rfl rfl (leb rfl) rfl rfl (r_move (.p rfl) rfl ?_))))
  obtain ⟨c1, h⟩ := chk_bind h
  refine r_append (.p rfl) rfl (.own _ _ _) ⟨rfl, trivial⟩ rfl (.sl _ _ (map_rows (f := eU8) (n := 1) (fun _ => rfl) _)) trivial rfl slc41 slc41 sz87 byt87 (leb rfl) zv87 rfl (len_lim (f := eU8) (g := eU8) (xs := (([] : List Int))) (ys := p0) c1) (map_app eU8 (([] : List Int)) p0) rfl ?_
  refine r_assign (.p rfl) rfl (r_end ?_)
  obtain rfl := Option.some.inj h
  refine W_sees (sees_mkL (rn [(1000, 7)]) [(2, .e (.one (.own 1000)))] [(1000, .vec 1 (((([] : List Int)) ++ p0).map eU8))] ⟨rfl, trivial⟩ ⟨rfl, trivial⟩ rfl rfl) (W_ret ?_)
  exact ⟨⟨[_], ⟨.tmp _ _ rfl, trivial⟩, rfl⟩, ⟨rfl, trivial⟩⟩
set_option maxRecDepth 10000 in
theorem mix_Aborts_c (N : Nat) (p0 : ApiProblem) (p1 : ApiMix) (r : (List ApiMix) × Int) (h : Sh.mix_Aborts N p0 p1 = some r) : Contract Try.prog 75 [.e (.agg [.pure (.sl (p0.fVersions.map eI64)), .pure (.sl (p0.fNow.map eI64)), .pure (.sl (p0.fTarget.map eI64)), .pure (.sl (p0.fTables.map eApiTable))]), .e (.agg [.pure (.sl (p1.fBase.map eI64)), .pure (.sl (p1.fNext.map eI64)), .pure (.sl (p1.fHeld.map eU8))])] [(3, r.1.map eApiMix)] (.tup [.one (.own 0), .one (.pure (.val (.int .i64 r.2)))]) := by
 unfold Sh.mix_Aborts at h
 refine contract_of_W (n := 75) (rs := [.tmp 4, .tmp 5]) Try.func75 rfl rfl rfl (leb rfl) (leb rfl) rfl fun w0 S0 => ?_
 refine W_seq (W_region mixed rfl (r_box (.p rfl) rfl rfl (r_box (.p rfl) rfl rfl (r_assign (.p rfl) rfl (r_assign (.p rfl) rfl (r_end (W_seq (W_seq (W_region mixed rfl (r_loadN (.p rfl) rfl ag30 sz30 rfl rfl rfl (r_loadN (.p rfl) rfl ag43 sz43 rfl rfl rfl ?_)))))))))))
 obtain ⟨v1, a1, h⟩ := bind_some h
 refine r_call (ds0 := [_, _]) [] (mix_Valid_c N p0 p1 v1 a1) (.p rfl) gd77 rfl ⟨rfl, rfl, trivial⟩ rfl rfl rfl (nodupL_spec rfl) trivial rfl (r_assign (.p rfl) rfl (r_end (W_seq (W_region mixed rfl (r_move (.p rfl) rfl (r_bin (.p rfl) rfl rfl (bin_neq _ _ _ _ _ _) rfl (r_end ?_)))))))
 refine W_cond rfl (fun c2 => ?_) (fun c2 => ?_)
 ·have h := cnd_t c2 h
  refine W_seq (W_region mixed rfl (r_move (.p rfl) rfl (r_assign (.p rfl) rfl (r_assign (.p rfl) rfl (r_end ?_)))))
  obtain rfl := Option.some.inj h
  refine W_sees ((sees_adopt 4 2001 3 rfl rfl rfl).trans (sees_mkL (rn [(1000, 2001)]) [(4, .e (.one (.own 1000))), (5, .e (.one (.pure (.val (.int .i64 v1)))))] [(1000, .vec 3 ((([] : List ApiMix)).map eApiMix))] ⟨rfl, rfl, trivial⟩ ⟨rfl, trivial⟩ rfl rfl)) (W_ret ?_)
  exact ⟨⟨[_, _], ⟨.tmp _ _ rfl, ⟨.tmp _ _ rfl, trivial⟩⟩, rfl⟩, ⟨rfl, trivial⟩⟩
 ·have h := cnd_f c2 h
  refine W_skip (W_seq (W_region mixed rfl (r_assign (.p rfl) rfl (r_end (W_seq (W_seq (W_region mixed rfl (r_fieldAddr (.p rfl) rfl fld43_1 (r_load1 (.p rfl) rfl ag27 rfl rfl (r_len (.p rfl) rfl (.sl _) trivial (List.length_map _) slc27 (r_move (.p rfl) rfl (r_end ?_))))))))))))
  refine W_whileE (L := Sh.mix_Aborts_L3 N p1) h (fun v3 => mk [(3, .e (.one (.ptr 3 0))), (7, .e (.one (.own 2002))), (22, .e (.one (.pure (.sl (p1.fNext.map eI64))))), (23, .e (.one (.pure (.val (.int .i64 ((p1.fNext.length : Int))))))), (24, .e (.one (.pure (.val (.int .i64 v3.2)))))] [(3, .box [.pure (.sl (p1.fBase.map eI64)), .pure (.sl (p1.fNext.map eI64)), .pure (.sl (p1.fHeld.map eU8))]), (2002, .vec 1 (v3.1.map eI64))]) (fun v4 => mk [(3, .e (.one (.ptr 3 0))), (7, .e (.one (.own 2003)))] [(3, .box [.pure (.sl (p1.fBase.map eI64)), .pure (.sl (p1.fNext.map eI64)), .pure (.sl (p1.fHeld.map eU8))]), (2003, .vec 1 (v4.map eI64))]) (fun _ _ => rfl) ((sees_adopt 7 2005 1 rfl rfl rfl).trans (sees_mkL (rn [(2002, 2005)]) _ _ ⟨rfl, rfl, rfl, rfl, rfl, trivial⟩ ⟨rfl, rfl, trivial⟩ rfl rfl)) (fun j3 n3 v3 h => ?_) (fun v4 s h hs => ?_)
  ·unfold Sh.mix_Aborts_L3 at h
   refine W_seq (W_region mixed rfl (r_bin (.p rfl) rfl rfl (bin_lss _ _ _ _ _ _) rfl (r_end (W_seq ?_))))
   refine W_cond rfl (fun c5 => ?_) (fun c5 => ?_)
   ·have h := cnd_t c5 h
    refine W_skip ?_
    refine W_join h (fun v6 => mk [(3, .e (.one (.ptr 3 0))), (7, .e (.one (.own 2004))), (22, .e (.one (.pure (.sl (p1.fNext.map eI64))))), (23, .e (.one (.pure (.val (.int .i64 ((p1.fNext.length : Int))))))), (24, .e (.one (.pure (.val (.int .i64 v3.2)))))] [(3, .box [.pure (.sl (p1.fBase.map eI64)), .pure (.sl (p1.fNext.map eI64)), .pure (.sl (p1.fHeld.map eU8))]), (2004, .vec 1 (v6.map eI64))]) (fun j6 h => ?_) (fun v6 h => ?_)
    ·refine W_block (W_seq (W_region mixed rfl (r_move (.p rfl) rfl ?_)))
     obtain ⟨v7, a7, b7, h⟩ := idx_bind h
     refine r_index (.p rfl) rfl rfl slc27 sz3 a7 (map_get b7) rfl (r_loadr1 (.p rfl) rfl ag3 rfl (r_assign (.p rfl) rfl (r_assign (.p rfl) rfl (r_end (W_seq (W_region mixed rfl (r_move (.p rfl) rfl (r_bin (.p rfl) rfl rfl (bin_geq _ _ _ _ _ _) rfl (r_end ?_)))))))))
     refine W_cond rfl (fun c8 => ?_) (fun c8 => ?_)
     ·have h := cnd_t c8 h
      refine W_region mixed rfl (r_move (.p rfl) rfl (r_move (.p rfl) rfl (r_buildSlice [(0, .tmp 32, _)] (.p rfl) rfl ⟨rfl, trivial⟩ rfl slc27 sz3 zv3 rfl rfl (leb rfl) rfl rfl ?_)))
      obtain ⟨c9, h⟩ := chk_bind h
      refine r_append (.p rfl) rfl (.own _ _ _) ⟨rfl, trivial⟩ rfl (.own _ _ _) ⟨rfl, trivial⟩ rfl slc27 slc27 sz3 byt3 (leb rfl) zv3 rfl (len_lim (f := eI64) (g := eI64) (xs := v3.1) (ys := (([v3.2] : List Int))) c9) (map_app eI64 v3.1 (([v3.2] : List Int))) rfl (r_assign (.p rfl) rfl (r_end ?_))
      exact sink (v3.1 ++ (([v3.2] : List Int))) h (sees_mkL (rn [(2004, 34)]) _ _ ⟨rfl, rfl, rfl, rfl, rfl, trivial⟩ ⟨rfl, rfl, trivial⟩ rfl rfl)
     ·have h := cnd_f c8 h
      refine W_skip ?_
      exact sink v3.1 h (sees_mkL (rn [(2004, 2002)]) _ _ ⟨rfl, rfl, rfl, rfl, rfl, trivial⟩ ⟨rfl, rfl, trivial⟩ rfl rfl)
    ·refine W_region mixed rfl (r_bin (.p rfl) rfl rfl (bin_add _ _ _ _ _ _) rfl (r_move (.p rfl) rfl (r_end ?_)))
     exact sink (v6, (IntKind.wrap .i64 (v3.2 + 1))) h (sees_mkL (rn [(2002, 2004)]) _ _ ⟨rfl, rfl, rfl, rfl, rfl, trivial⟩ ⟨rfl, rfl, trivial⟩ rfl rfl)
   ·have h := cnd_f c5 h
    refine W_exit ?_
    exact sink v3.1 h (sees_mkL (rn [(2003, 2002)]) _ _ ⟨rfl, rfl, trivial⟩ ⟨rfl, rfl, trivial⟩ rfl rfl)
  ·refine W_sees hs (W_seq (W_region mixed rfl (r_assign (.p rfl) rfl (r_end (W_seq (W_seq (W_region mixed rfl (r_move (.p rfl) rfl (r_len (.p rfl) rfl (.own _ _ _) ⟨rfl, trivial⟩ (List.length_map _) slc27 ?_)))))))))
   obtain ⟨c10, h⟩ := chk_bind h
   refine r_bin (.p rfl) rfl rfl (bin_shl _ _ _ _ _ _ _ c10) rfl (r_move (.p rfl) rfl (r_end ?_))
   refine W_whileE (L := Sh.mix_Aborts_L11 N p1 v4) h (fun v11 => mk [(3, .e (.one (.ptr 3 0))), (7, .e (.one (.own 2006))), (10, .e (.one (.own 2007))), (38, .e (.one (.pure (.val (.int .i64 ((shlI .i64 1 ((v4.length : Int))))))))), (39, .e (.one (.pure (.val (.int .i64 v11.2)))))] [(3, .box [.pure (.sl (p1.fBase.map eI64)), .pure (.sl (p1.fNext.map eI64)), .pure (.sl (p1.fHeld.map eU8))]), (2006, .vec 1 (v4.map eI64)), (2007, .vec 3 (v11.1.map eApiMix))]) (fun v12 => mk [(10, .e (.one (.own 2008)))] [(2008, .vec 3 (v12.map eApiMix))]) (fun _ _ => rfl) ((sees_adopt 10 2027 3 rfl rfl rfl).trans (sees_mkL (rn [(2006, 2003), (2007, 2027)]) _ _ ⟨rfl, rfl, rfl, rfl, rfl, trivial⟩ ⟨rfl, rfl, rfl, trivial⟩ rfl rfl)) (fun j11 n11 v11 h => ?_) (fun v12 s h hs => ?_)
   ·unfold Sh.mix_Aborts_L11 at h
    refine W_seq (W_region mixed rfl (r_bin (.p rfl) rfl rfl (bin_lss _ _ _ _ _ _) rfl (r_end (W_seq ?_))))
    refine W_cond rfl (fun c13 => ?_) (fun c13 => ?_)
    ·have h := cnd_t c13 h
     refine W_skip (W_seq (W_block (W_seq (W_region mixed rfl (r_move (.p rfl) rfl (r_assign (.p rfl) rfl (r_end (W_seq (W_region mixed rfl (r_fieldAddr (.p rfl) rfl fld43_0 (r_load1 (.p rfl) rfl ag27 rfl rfl ?_)))))))))))
     obtain ⟨v14, a14, h⟩ := bind_some h
     refine r_call (ds0 := [_]) [2009] (slices_Clone_int_int_c N p1.fBase v14 a14) (.p rfl) gd72 rfl ⟨rfl, trivial⟩ rfl rfl rfl (nodupL_spec rfl) ⟨rfl, trivial⟩ rfl (r_fieldAddr (.p rfl) rfl fld43_1 (r_load1 (.p rfl) rfl ag27 rfl rfl ?_))
     obtain ⟨v15, a15, h⟩ := bind_some h
     refine r_call (ds0 := [_]) [2010] (slices_Clone_int_int_c N p1.fNext v15 a15) (.p rfl) gd72 rfl ⟨rfl, trivial⟩ rfl rfl rfl (nodupL_spec rfl) ⟨rfl, trivial⟩ rfl (r_fieldAddr (.p rfl) rfl fld43_2 (r_load1 (.p rfl) rfl ag41 rfl rfl ?_))
     obtain ⟨v16, a16, h⟩ := bind_some h
     refine r_call (ds0 := [_]) [2011] (slices_Clone_api_Set_api_Set_c N p1.fHeld v16 a16) (.p rfl) gd98 rfl ⟨rfl, trivial⟩ rfl rfl rfl (nodupL_spec rfl) ⟨rfl, trivial⟩ rfl (r_build [(0, .tmp 44, _), (1, .tmp 47, _), (2, .tmp 50, _)] (.p rfl) rfl ⟨rfl, rfl, rfl, trivial⟩ zv43 rfl rfl pl43 rfl (r_alloc (.p rfl) zv43 rfl rfl rfl (r_store rfl rfl rfl rfl sz43 rfl (leb rfl) rfl ?_)))
     refine r_endD (by kernel_rfl) ?_
     refine W_seq (W_seq (W_region mixed rfl (r_move (.p rfl) rfl (r_len (.p rfl) rfl (.own _ _ _) ⟨rfl, trivial⟩ (List.length_map _) slc27 (r_move (.p rfl) rfl (r_end ?_))))))
     refine W_whileE (L := Sh.mix_Aborts_L17 N v4 v11) h (fun v17 => mk [(3, .e (.one (.ptr 3 0))), (7, .e (.one (.own 2015))), (10, .e (.one (.own 2016))), (11, .e (.one (.pure (.val (.int .i64 v11.2))))), (12, .e (.one (.ptr 12 0))), (38, .e (.one (.pure (.val (.int .i64 ((shlI .i64 1 ((v4.length : Int))))))))), (39, .e (.one (.pure (.val (.int .i64 v11.2))))), (52, .e (.one (.own 2015))), (53, .e (.one (.pure (.val (.int .i64 ((v4.length : Int))))))), (54, .e (.one (.pure (.val (.int .i64 v17.2)))))] [(3, .box [.pure (.sl (p1.fBase.map eI64)), .pure (.sl (p1.fNext.map eI64)), .pure (.sl (p1.fHeld.map eU8))]), (12, .box [.own 2012, .own 2013, .own 2014]), (2012, .vec 1 (v14.map eI64)), (2013, .vec 1 (v17.1.map eI64)), (2014, .vec 1 (v16.map eU8)), (2015, .vec 1 (v4.map eI64)), (2016, .vec 3 (v11.1.map eApiMix))]) (fun v18 => mk [(3, .e (.one (.ptr 3 0))), (7, .e (.one (.own 2020))), (10, .e (.one (.own 2021))), (12, .e (.one (.ptr 12 0))), (38, .e (.one (.pure (.val (.int .i64 ((shlI .i64 1 ((v4.length : Int))))))))), (39, .e (.one (.pure (.val (.int .i64 v11.2)))))] [(3, .box [.pure (.sl (p1.fBase.map eI64)), .pure (.sl (p1.fNext.map eI64)), .pure (.sl (p1.fHeld.map eU8))]), (12, .box [.own 2017, .own 2018, .own 2019]), (2017, .vec 1 (v14.map eI64)), (2018, .vec 1 (v18.map eI64)), (2019, .vec 1 (v16.map eU8)), (2020, .vec 1 (v4.map eI64)), (2021, .vec 3 (v11.1.map eApiMix))]) (fun _ _ => rfl) (sees_mkL (rn [(2012, 2009), (2013, 2010), (2014, 2011), (2015, 2006), (2016, 2007)]) _ _ ⟨rfl, rfl, rfl, rfl, rfl, rfl, rfl, rfl, rfl, rfl, trivial⟩ ⟨rfl, rfl, rfl, rfl, rfl, rfl, rfl, trivial⟩ rfl rfl) (fun j17 n17 v17 h => ?_) (fun v18 s h hs => ?_)
     ·unfold Sh.mix_Aborts_L17 at h
      refine W_seq (W_region mixed rfl (r_bin (.p rfl) rfl rfl (bin_lss _ _ _ _ _ _) rfl (r_end (W_seq ?_))))
      refine W_cond rfl (fun c19 => ?_) (fun c19 => ?_)
      ·have h := cnd_t c19 h
       refine W_skip ?_
       refine W_join h (fun v20 => mk [(3, .e (.one (.ptr 3 0))), (7, .e (.one (.own 2025))), (10, .e (.one (.own 2026))), (11, .e (.one (.pure (.val (.int .i64 v11.2))))), (12, .e (.one (.ptr 12 0))), (38, .e (.one (.pure (.val (.int .i64 ((shlI .i64 1 ((v4.length : Int))))))))), (39, .e (.one (.pure (.val (.int .i64 v11.2))))), (52, .e (.one (.own 2025))), (53, .e (.one (.pure (.val (.int .i64 ((v4.length : Int))))))), (54, .e (.one (.pure (.val (.int .i64 v17.2)))))] [(3, .box [.pure (.sl (p1.fBase.map eI64)), .pure (.sl (p1.fNext.map eI64)), .pure (.sl (p1.fHeld.map eU8))]), (12, .box [.own 2022, .own 2023, .own 2024]), (2022, .vec 1 (v14.map eI64)), (2023, .vec 1 (v20.map eI64)), (2024, .vec 1 (v16.map eU8)), (2025, .vec 1 (v4.map eI64)), (2026, .vec 3 (v11.1.map eApiMix))]) (fun j20 h => ?_) (fun v20 h => ?_)
       ·refine W_block (W_seq (W_region mixed rfl (r_move (.p rfl) rfl ?_)))
        obtain ⟨v21, a21, b21, h⟩ := idx_bind h
        refine r_indexo (.p rfl) rfl rfl rfl slc27 sz3 a21 (map_get b21) (r_loade1 (.p rfl) rfl ag3 rfl (map_get b21) rfl (r_assign (.p rfl) rfl (r_assign (.p rfl) rfl (r_end (W_seq (W_region mixed rfl (r_move (.p rfl) rfl (r_move (.p rfl) rfl ?_))))))))
        obtain ⟨c22, h⟩ := chk_bind h
        refine r_bin (.p rfl) rfl rfl (bin_shr _ _ _ _ _ _ _ c22) rfl (r_bin (.p rfl) rfl rfl (bin_and _ _ _ _ _ _) rfl (r_bin (.p rfl) rfl rfl (bin_eql _ _ _ _ _ _) rfl (r_end ?_)))
        refine W_cond rfl (fun c23 => ?_) (fun c23 => ?_)
        ·have h := cnd_t c23 h
         refine W_region mixed rfl (r_fieldAddr (.p rfl) rfl fld43_1 (r_load1 (.p rfl) rfl ag27 rfl rfl (r_move (.p rfl) rfl ?_)))
         obtain ⟨v24, a24, b24, h⟩ := idx_bind h
         refine r_indexo (.p rfl) rfl rfl rfl slc27 sz3 a24 (map_get b24) (r_storee rfl rfl rfl rfl (map_get b24) rfl sz3 rfl (leb rfl) (map_setv eI64 v17.1 _ ((-1))) (r_end ?_))
         exact sink (v17.1.set (v21).toNat ((-1))) h (sees_mkL (rn [(2022, 2012), (2023, 2013), (2024, 2014), (2025, 2015), (2026, 2016)]) _ _ ⟨rfl, rfl, rfl, rfl, rfl, rfl, rfl, rfl, rfl, rfl, trivial⟩ ⟨rfl, rfl, rfl, rfl, rfl, rfl, rfl, trivial⟩ rfl rfl)
        ·have h := cnd_f c23 h
         refine W_skip ?_
         exact sink v17.1 h (sees_mkL (rn [(2022, 2012), (2023, 2013), (2024, 2014), (2025, 2015), (2026, 2016)]) _ _ ⟨rfl, rfl, rfl, rfl, rfl, rfl, rfl, rfl, rfl, rfl, trivial⟩ ⟨rfl, rfl, rfl, rfl, rfl, rfl, rfl, trivial⟩ rfl rfl)
       ·refine W_region mixed rfl (r_bin (.p rfl) rfl rfl (bin_add _ _ _ _ _ _) rfl (r_move (.p rfl) rfl (r_end ?_)))
        exact sink (v20, (IntKind.wrap .i64 (v17.2 + 1))) h (sees_mkL (rn [(2012, 2022), (2013, 2023), (2014, 2024), (2015, 2025), (2016, 2026)]) _ _ ⟨rfl, rfl, rfl, rfl, rfl, rfl, rfl, rfl, rfl, rfl, trivial⟩ ⟨rfl, rfl, rfl, rfl, rfl, rfl, rfl, trivial⟩ rfl rfl)
      ·have h := cnd_f c19 h
       refine W_exit ?_
       exact sink v17.1 h (sees_mkL (rn [(2017, 2012), (2018, 2013), (2019, 2014), (2020, 2015), (2021, 2016)]) _ _ ⟨rfl, rfl, rfl, rfl, rfl, rfl, trivial⟩ ⟨rfl, rfl, rfl, rfl, rfl, rfl, rfl, trivial⟩ rfl rfl)
     ·refine W_sees hs (W_region mixed rfl (r_move (.p rfl) rfl (r_loadN (.p rfl) rfl ag43 sz43 rfl rfl rfl (r_see (sees_frz 2017 _ _ rfl rfl) (r_see (sees_frz 2018 _ _ rfl rfl) (r_see (sees_frz 2019 _ _ rfl rfl) (r_buildSlice [(0, .tmp 70, _)] (.p rfl) rfl ⟨rfl, trivial⟩ rfl slc89 sz43 zv43 rfl rfl (leb rfl) rfl rfl ?_)))))))
      obtain ⟨c25, h⟩ := chk_bind h
      refine r_append (.p rfl) rfl (.own _ _ _) ⟨rfl, trivial⟩ rfl (.own _ _ _) ⟨rfl, trivial⟩ rfl slc89 slc89 sz43 byt43 (leb rfl) zv43 rfl (len_lim (f := eApiMix) (g := eApiMix) (xs := v11.1) (ys := (([(ApiMix.mk v14 v18 v16)] : List ApiMix))) c25) (map_app eApiMix v11.1 (([(ApiMix.mk v14 v18 v16)] : List ApiMix))) rfl (r_assign (.p rfl) rfl (r_end (W_region mixed rfl (r_bin (.p rfl) rfl rfl (bin_add _ _ _ _ _ _) rfl (r_move (.p rfl) rfl (r_end ?_))))))
      exact sink (v11.1 ++ (([(ApiMix.mk v14 v18 v16)] : List ApiMix)), (IntKind.wrap .i64 (v11.2 + 1))) h (sees_mkL (rn [(2006, 2020), (2007, 72)]) _ _ ⟨rfl, rfl, rfl, rfl, rfl, trivial⟩ ⟨rfl, rfl, rfl, trivial⟩ rfl rfl)
    ·have h := cnd_f c13 h
     refine W_exit ?_
     exact sink v11.1 h (sees_mkL (rn [(2008, 2007)]) _ _ ⟨rfl, trivial⟩ ⟨rfl, trivial⟩ rfl rfl)
   ·refine W_sees hs (W_seq (W_region mixed rfl (r_move (.p rfl) rfl (r_assign (.p rfl) rfl (r_assign (.p rfl) rfl (r_end ?_))))))
    obtain rfl := Option.some.inj h
    refine W_sees (sees_mkL (rn [(1000, 2008)]) [(4, .e (.one (.own 1000))), (5, .e (.one (.pure (.val (.int .i64 0)))))] [(1000, .vec 3 (v12.map eApiMix))] ⟨rfl, rfl, trivial⟩ ⟨rfl, trivial⟩ rfl rfl) (W_ret ?_)
    exact ⟨⟨[_, _], ⟨.tmp _ _ rfl, ⟨.tmp _ _ rfl, trivial⟩⟩, rfl⟩, ⟨rfl, trivial⟩⟩
set_option maxRecDepth 10000 in
theorem mix_conflicts_c (N : Nat) (p0 : ApiProblem) (p1 : ApiMix) (r : (List ApiConflict)) (h : Sh.mix_conflicts N p0 p1 = some r) : Contract Try.prog 76 [.e (.agg [.pure (.sl (p0.fVersions.map eI64)), .pure (.sl (p0.fNow.map eI64)), .pure (.sl (p0.fTarget.map eI64)), .pure (.sl (p0.fTables.map eApiTable))]), .e (.agg [.pure (.sl (p1.fBase.map eI64)), .pure (.sl (p1.fNext.map eI64)), .pure (.sl (p1.fHeld.map eU8))])] [(3, r.map eApiConflict)] (.e (.one (.own 0))) := by
 unfold Sh.mix_conflicts at h
 refine contract_of_W (n := 98) (rs := [.tmp 4]) Try.func76 rfl rfl rfl (leb rfl) (leb rfl) rfl fun w0 S0 => ?_
 refine W_seq (W_region mixed rfl (r_box (.p rfl) rfl rfl (r_box (.p rfl) rfl rfl (r_assign (.p rfl) rfl (r_end (W_seq (W_region mixed rfl (r_assign (.p rfl) rfl (r_end (W_seq (W_seq (W_region mixed rfl (r_fieldAddr (.p rfl) rfl fld30_3 (r_load1 (.p rfl) rfl ag28 rfl rfl (r_len (.p rfl) rfl (.sl _) trivial (List.length_map _) slc28 (r_move (.p rfl) rfl (r_end ?_)))))))))))))))))
 refine W_whileE (L := Sh.mix_conflicts_L1 N p0 p1) h (fun v1 => mk [(3, .e (.one (.ptr 3 0))), (5, .e (.one (.own 2001))), (15, .e (.one (.pure (.sl (p0.fTables.map eApiTable))))), (16, .e (.one (.pure (.val (.int .i64 ((p0.fTables.length : Int))))))), (17, .e (.one (.pure (.val (.int .i64 v1.2)))))] [(3, .box [.pure (.sl (p1.fBase.map eI64)), .pure (.sl (p1.fNext.map eI64)), .pure (.sl (p1.fHeld.map eU8))]), (2001, .vec 3 (v1.1.map eApiConflict))]) (fun v2 => mk [(5, .e (.one (.own 2002)))] [(2002, .vec 3 (v2.map eApiConflict))]) (fun _ _ => rfl) ((sees_adopt 5 2013 3 rfl rfl rfl).trans (sees_mkL (rn [(2001, 2013)]) _ _ ⟨rfl, rfl, rfl, rfl, rfl, trivial⟩ ⟨rfl, rfl, trivial⟩ rfl rfl)) (fun j1 n1 v1 h => ?_) (fun v2 s h hs => ?_)
 ·unfold Sh.mix_conflicts_L1 at h
  refine W_seq (W_region mixed rfl (r_bin (.p rfl) rfl rfl (bin_lss _ _ _ _ _ _) rfl (r_end (W_seq ?_))))
  refine W_cond rfl (fun c3 => ?_) (fun c3 => ?_)
  ·have h := cnd_t c3 h
   refine W_skip (W_seq (W_block (W_seq (W_region mixed rfl (r_move (.p rfl) rfl ?_)))))
   obtain ⟨v4, a4, b4, h⟩ := idx_bind h
   refine r_index (.p rfl) rfl rfl slc28 sz75 a4 (map_get b4) rfl (r_loadrN (.p rfl) rfl ag75 sz75 rfl rfl (r_alloc (.p rfl) zv75 rfl rfl rfl (r_assign (.p rfl) rfl (r_store rfl rfl rfl rfl sz75 rfl (leb rfl) rfl (r_end (W_seq (W_region mixed rfl (r_loadN (.p rfl) rfl ag43 sz43 rfl rfl rfl (r_fieldAddr (.p rfl) rfl fld75_1 (r_load1 (.p rfl) rfl ag3 rfl rfl ?_))))))))))
   obtain ⟨v5, a5, h⟩ := bind_some h
   refine r_call (ds0 := [_, _]) [] (mix_running_c N p1 v4.fFrom v5 a5) (.p rfl) gd99 rfl ⟨rfl, rfl, trivial⟩ rfl rfl rfl (nodupL_spec rfl) trivial rfl (r_loadN (.p rfl) rfl ag43 sz43 rfl rfl rfl (r_fieldAddr (.p rfl) rfl fld75_2 (r_load1 (.p rfl) rfl ag3 rfl rfl ?_)))
   obtain ⟨v6, a6, h⟩ := bind_some h
   refine r_call (ds0 := [_, _]) [] (mix_running_c N p1 v4.fTo v6 a6) (.p rfl) gd99 rfl ⟨rfl, rfl, trivial⟩ rfl rfl rfl (nodupL_spec rfl) trivial rfl (r_assign (.p rfl) rfl (r_assign (.p rfl) rfl ?_))
   refine r_endD (by kernel_rfl) ?_
   refine W_join h (fun v7 => mk [(3, .e (.one (.ptr 3 0))), (5, .e (.one (.own 2003))), (6, .e (.one (.pure (.val (.int .i64 v1.2))))), (7, .e (.one (.ptr 7 0))), (8, .e (.one (.pure (.val (.int .u8 v7))))), (9, .e (.one (.pure (.val (.int .u8 v6))))), (15, .e (.one (.pure (.sl (p0.fTables.map eApiTable))))), (16, .e (.one (.pure (.val (.int .i64 ((p0.fTables.length : Int))))))), (17, .e (.one (.pure (.val (.int .i64 v1.2)))))] [(3, .box [.pure (.sl (p1.fBase.map eI64)), .pure (.sl (p1.fNext.map eI64)), .pure (.sl (p1.fHeld.map eU8))]), (7, .box [.pure (.val (.int .i64 v4.fKind)), .pure (.val (.int .i64 v4.fFrom)), .pure (.val (.int .i64 v4.fTo)), .pure (.val (.bool v4.fAware)), .pure (.sl (v4.fOK.map (eSl eB))), .pure (.sl (v4.fRewrite.map (eSl eB)))]), (2003, .vec 3 (v1.1.map eApiConflict))]) (fun j7 h => ?_) (fun v7 h => ?_)
   ·refine W_seq (W_region mixed rfl (r_loadN (.p rfl) rfl ag75 sz75 rfl rfl rfl ?_))
    obtain ⟨v8, a8, h⟩ := bind_some h
    refine r_call (ds0 := [_]) [] (mix_stored_c N v4 v8 a8) (.p rfl) gd74 rfl ⟨rfl, trivial⟩ rfl rfl rfl (nodupL_spec rfl) trivial rfl (r_end ?_)
    refine W_cond rfl (fun c9 => ?_) (fun c9 => ?_)
    ·have h := cnd_t c9 h
     refine W_region mixed rfl (r_fieldAddr (.p rfl) rfl fld43_2 (r_load1 (.p rfl) rfl ag41 rfl rfl (r_move (.p rfl) rfl ?_)))
     obtain ⟨v10, a10, b10, h⟩ := idx_bind h
     refine r_index (.p rfl) rfl rfl slc41 sz87 a10 (map_get b10) rfl (r_loadr1 (.p rfl) rfl ag87 rfl (r_assign (.p rfl) rfl (r_end ?_)))
     exact sink v10 h (sees_mkL (rn [(2003, 2001)]) _ _ ⟨rfl, rfl, rfl, rfl, rfl, rfl, rfl, rfl, rfl, trivial⟩ ⟨rfl, rfl, rfl, trivial⟩ rfl rfl)
    ·have h := cnd_f c9 h
     refine W_skip ?_
     exact sink v5 h (sees_mkL (rn [(2003, 2001)]) _ _ ⟨rfl, rfl, rfl, rfl, rfl, rfl, rfl, rfl, rfl, trivial⟩ ⟨rfl, rfl, rfl, trivial⟩ rfl rfl)
   ·refine W_seq (W_region mixed rfl (r_fieldAddr (.p rfl) rfl fld75_4 (r_load1 (.p rfl) rfl ag73 rfl rfl (r_len (.p rfl) rfl (.sl _) trivial (List.length_map _) slc73 (r_move (.p rfl) rfl (r_end ?_))))))
    refine W_whileE (L := Sh.mix_conflicts_L11 N v1 v4 v6 v7) h (fun v11 => mk [(3, .e (.one (.ptr 3 0))), (5, .e (.one (.own 2004))), (6, .e (.one (.pure (.val (.int .i64 v1.2))))), (7, .e (.one (.ptr 7 0))), (8, .e (.one (.pure (.val (.int .u8 v7))))), (9, .e (.one (.pure (.val (.int .u8 v6))))), (15, .e (.one (.pure (.sl (p0.fTables.map eApiTable))))), (16, .e (.one (.pure (.val (.int .i64 ((p0.fTables.length : Int))))))), (17, .e (.one (.pure (.val (.int .i64 v1.2))))), (39, .e (.one (.pure (.val (.int .i64 ((v4.fOK.length : Int))))))), (40, .e (.one (.pure (.val (.int .i64 v11.2)))))] [(3, .box [.pure (.sl (p1.fBase.map eI64)), .pure (.sl (p1.fNext.map eI64)), .pure (.sl (p1.fHeld.map eU8))]), (7, .box [.pure (.val (.int .i64 v4.fKind)), .pure (.val (.int .i64 v4.fFrom)), .pure (.val (.int .i64 v4.fTo)), .pure (.val (.bool v4.fAware)), .pure (.sl (v4.fOK.map (eSl eB))), .pure (.sl (v4.fRewrite.map (eSl eB)))]), (2004, .vec 3 (v11.1.map eApiConflict))]) (fun v12 => mk [(3, .e (.one (.ptr 3 0))), (5, .e (.one (.own 2005))), (15, .e (.one (.pure (.sl (p0.fTables.map eApiTable))))), (16, .e (.one (.pure (.val (.int .i64 ((p0.fTables.length : Int))))))), (17, .e (.one (.pure (.val (.int .i64 v1.2)))))] [(3, .box [.pure (.sl (p1.fBase.map eI64)), .pure (.sl (p1.fNext.map eI64)), .pure (.sl (p1.fHeld.map eU8))]), (2005, .vec 3 (v12.map eApiConflict))]) (fun _ _ => rfl) (sees_mkL (rn [(2004, 2003)]) _ _ ⟨rfl, rfl, rfl, rfl, rfl, rfl, rfl, rfl, rfl, rfl, rfl, trivial⟩ ⟨rfl, rfl, rfl, trivial⟩ rfl rfl) (fun j11 n11 v11 h => ?_) (fun v12 s h hs => ?_)
    ·unfold Sh.mix_conflicts_L11 at h
     refine W_seq (W_region mixed rfl (r_bin (.p rfl) rfl rfl (bin_lss _ _ _ _ _ _) rfl (r_end (W_seq ?_))))
     refine W_cond rfl (fun c13 => ?_) (fun c13 => ?_)
     ·have h := cnd_t c13 h
      refine W_skip ?_
      refine W_join h (fun v14 => mk [(3, .e (.one (.ptr 3 0))), (5, .e (.one (.own 2006))), (6, .e (.one (.pure (.val (.int .i64 v1.2))))), (7, .e (.one (.ptr 7 0))), (8, .e (.one (.pure (.val (.int .u8 v7))))), (9, .e (.one (.pure (.val (.int .u8 v6))))), (15, .e (.one (.pure (.sl (p0.fTables.map eApiTable))))), (16, .e (.one (.pure (.val (.int .i64 ((p0.fTables.length : Int))))))), (17, .e (.one (.pure (.val (.int .i64 v1.2))))), (39, .e (.one (.pure (.val (.int .i64 ((v4.fOK.length : Int))))))), (40, .e (.one (.pure (.val (.int .i64 v11.2)))))] [(3, .box [.pure (.sl (p1.fBase.map eI64)), .pure (.sl (p1.fNext.map eI64)), .pure (.sl (p1.fHeld.map eU8))]), (7, .box [.pure (.val (.int .i64 v4.fKind)), .pure (.val (.int .i64 v4.fFrom)), .pure (.val (.int .i64 v4.fTo)), .pure (.val (.bool v4.fAware)), .pure (.sl (v4.fOK.map (eSl eB))), .pure (.sl (v4.fRewrite.map (eSl eB)))]), (2006, .vec 3 (v14.map eApiConflict))]) (fun j14 h => ?_) (fun v14 h => ?_)
      ·refine W_block (W_seq (W_region mixed rfl (r_move (.p rfl) rfl (r_assign (.p rfl) rfl (r_end (W_seq (W_seq (W_region mixed rfl (r_move (.p rfl) rfl (r_move (.p rfl) rfl ?_))))))))))
       obtain ⟨c15, h⟩ := chk_bind h
       refine r_bin (.p rfl) rfl rfl (bin_shr _ _ _ _ _ _ _ c15) rfl (r_bin (.p rfl) rfl rfl (bin_and _ _ _ _ _ _) rfl (r_bin (.p rfl) rfl rfl (bin_eql _ _ _ _ _ _) rfl (r_end ?_)))
       refine W_cond rfl (fun c16 => ?_) (fun c16 => ?_)
       ·have h := cnd_t c16 h
        refine W_exit ?_
        exact sink v11.1 h (sees_mkL (rn [(2006, 2004)]) _ _ ⟨rfl, rfl, rfl, rfl, rfl, rfl, rfl, rfl, rfl, rfl, rfl, trivial⟩ ⟨rfl, rfl, rfl, trivial⟩ rfl rfl)
       ·have h := cnd_f c16 h
        refine W_skip (W_seq (W_region mixed rfl (r_assign (.p rfl) rfl (r_end (W_seq (W_seq (W_region mixed rfl (r_fieldAddr (.p rfl) rfl fld75_4 (r_load1 (.p rfl) rfl ag73 rfl rfl (r_move (.p rfl) rfl ?_))))))))))
        obtain ⟨v17, a17, b17, h⟩ := idx_bind h
        refine r_index (.p rfl) rfl rfl slc73 sz76 a17 (map_get b17) rfl (r_loadr1 (.p rfl) rfl ag76 rfl (r_len (.p rfl) rfl (.sl _) trivial (List.length_map _) slc76 (r_move (.p rfl) rfl (r_end ?_))))
        refine W_whileE (L := Sh.mix_conflicts_L18 N v1 v4 v6 v11 v17) h (fun v18 => mk [(3, .e (.one (.ptr 3 0))), (5, .e (.one (.own 2007))), (6, .e (.one (.pure (.val (.int .i64 v1.2))))), (7, .e (.one (.ptr 7 0))), (8, .e (.one (.pure (.val (.int .u8 v7))))), (9, .e (.one (.pure (.val (.int .u8 v6))))), (10, .e (.one (.pure (.val (.int .i64 v11.2))))), (11, .e (.one (.pure (.val (.bool v18.2.1))))), (15, .e (.one (.pure (.sl (p0.fTables.map eApiTable))))), (16, .e (.one (.pure (.val (.int .i64 ((p0.fTables.length : Int))))))), (17, .e (.one (.pure (.val (.int .i64 v1.2))))), (39, .e (.one (.pure (.val (.int .i64 ((v4.fOK.length : Int))))))), (40, .e (.one (.pure (.val (.int .i64 v11.2))))), (52, .e (.one (.pure (.sl (v17.map eB))))), (53, .e (.one (.pure (.val (.int .i64 ((v17.length : Int))))))), (54, .e (.one (.pure (.val (.int .i64 v18.2.2)))))] [(3, .box [.pure (.sl (p1.fBase.map eI64)), .pure (.sl (p1.fNext.map eI64)), .pure (.sl (p1.fHeld.map eU8))]), (7, .box [.pure (.val (.int .i64 v4.fKind)), .pure (.val (.int .i64 v4.fFrom)), .pure (.val (.int .i64 v4.fTo)), .pure (.val (.bool v4.fAware)), .pure (.sl (v4.fOK.map (eSl eB))), .pure (.sl (v4.fRewrite.map (eSl eB)))]), (2007, .vec 3 (v18.1.map eApiConflict))]) (fun v19 => mk [(3, .e (.one (.ptr 3 0))), (5, .e (.one (.own 2008))), (6, .e (.one (.pure (.val (.int .i64 v1.2))))), (7, .e (.one (.ptr 7 0))), (8, .e (.one (.pure (.val (.int .u8 v7))))), (9, .e (.one (.pure (.val (.int .u8 v6))))), (10, .e (.one (.pure (.val (.int .i64 v11.2))))), (11, .e (.one (.pure (.val (.bool v19.2))))), (15, .e (.one (.pure (.sl (p0.fTables.map eApiTable))))), (16, .e (.one (.pure (.val (.int .i64 ((p0.fTables.length : Int))))))), (17, .e (.one (.pure (.val (.int .i64 v1.2))))), (39, .e (.one (.pure (.val (.int .i64 ((v4.fOK.length : Int))))))), (40, .e (.one (.pure (.val (.int .i64 v11.2)))))] [(3, .box [.pure (.sl (p1.fBase.map eI64)), .pure (.sl (p1.fNext.map eI64)), .pure (.sl (p1.fHeld.map eU8))]), (7, .box [.pure (.val (.int .i64 v4.fKind)), .pure (.val (.int .i64 v4.fFrom)), .pure (.val (.int .i64 v4.fTo)), .pure (.val (.bool v4.fAware)), .pure (.sl (v4.fOK.map (eSl eB))), .pure (.sl (v4.fRewrite.map (eSl eB)))]), (2008, .vec 3 (v19.1.map eApiConflict))]) (fun _ _ => rfl) (sees_mkL (rn [(2007, 2004)]) _ _ ⟨rfl, rfl, rfl, rfl, rfl, rfl, rfl, rfl, rfl, rfl, rfl, rfl, rfl, rfl, rfl, rfl, trivial⟩ ⟨rfl, rfl, rfl, trivial⟩ rfl rfl) (fun j18 n18 v18 h => ?_) (fun v19 s h hs => ?_)
        ·unfold Sh.mix_conflicts_L18 at h
         refine W_seq (W_region mixed rfl (r_bin (.p rfl) rfl rfl (bin_lss _ _ _ _ _ _) rfl (r_end (W_seq ?_))))
         refine W_cond rfl (fun c20 => ?_) (fun c20 => ?_)
         ·have h := cnd_t c20 h
          refine W_skip ?_
          refine W_join h (fun v21 => mk [(3, .e (.one (.ptr 3 0))), (5, .e (.one (.own 2009))), (6, .e (.one (.pure (.val (.int .i64 v1.2))))), (7, .e (.one (.ptr 7 0))), (8, .e (.one (.pure (.val (.int .u8 v7))))), (9, .e (.one (.pure (.val (.int .u8 v6))))), (10, .e (.one (.pure (.val (.int .i64 v11.2))))), (11, .e (.one (.pure (.val (.bool v21.2))))), (15, .e (.one (.pure (.sl (p0.fTables.map eApiTable))))), (16, .e (.one (.pure (.val (.int .i64 ((p0.fTables.length : Int))))))), (17, .e (.one (.pure (.val (.int .i64 v1.2))))), (39, .e (.one (.pure (.val (.int .i64 ((v4.fOK.length : Int))))))), (40, .e (.one (.pure (.val (.int .i64 v11.2))))), (52, .e (.one (.pure (.sl (v17.map eB))))), (53, .e (.one (.pure (.val (.int .i64 ((v17.length : Int))))))), (54, .e (.one (.pure (.val (.int .i64 v18.2.2)))))] [(3, .box [.pure (.sl (p1.fBase.map eI64)), .pure (.sl (p1.fNext.map eI64)), .pure (.sl (p1.fHeld.map eU8))]), (7, .box [.pure (.val (.int .i64 v4.fKind)), .pure (.val (.int .i64 v4.fFrom)), .pure (.val (.int .i64 v4.fTo)), .pure (.val (.bool v4.fAware)), .pure (.sl (v4.fOK.map (eSl eB))), .pure (.sl (v4.fRewrite.map (eSl eB)))]), (2009, .vec 3 (v21.1.map eApiConflict))]) (fun j21 h => ?_) (fun v21 h => ?_)
          ·refine W_block (W_seq (W_region mixed rfl (r_move (.p rfl) rfl ?_)))
           obtain ⟨v22, a22, b22, h⟩ := idx_bind h
           refine r_index (.p rfl) rfl rfl slc76 sz4 a22 (map_get b22) rfl (r_loadr1 (.p rfl) rfl ag4 rfl (r_assign (.p rfl) rfl (r_assign (.p rfl) rfl (r_end (W_seq (W_seq (W_region mixed rfl (r_move (.p rfl) rfl (r_move (.p rfl) rfl ?_)))))))))
           obtain ⟨c23, h⟩ := chk_bind h
           refine r_bin (.p rfl) rfl rfl (bin_shr _ _ _ _ _ _ _ c23) rfl (r_bin (.p rfl) rfl rfl (bin_and _ _ _ _ _ _) rfl (r_bin (.p rfl) rfl rfl (bin_eql _ _ _ _ _ _) rfl (r_end ?_)))
           refine W_cond rfl (fun c24 => ?_) (fun c24 => ?_)
           ·have h := cnd_t c24 h
            refine W_exit ?_
            exact sink (v18.1, v18.2.1) h (sees_mkL (rn [(2009, 2007)]) _ _ ⟨rfl, rfl, rfl, rfl, rfl, rfl, rfl, rfl, rfl, rfl, rfl, rfl, rfl, rfl, rfl, rfl, trivial⟩ ⟨rfl, rfl, rfl, trivial⟩ rfl rfl)
           ·have h := cnd_f c24 h
            refine W_skip ?_
            refine W_join h (fun v25 => mk [(3, .e (.one (.ptr 3 0))), (5, .e (.one (.own 2010))), (6, .e (.one (.pure (.val (.int .i64 v1.2))))), (7, .e (.one (.ptr 7 0))), (8, .e (.one (.pure (.val (.int .u8 v7))))), (9, .e (.one (.pure (.val (.int .u8 v6))))), (10, .e (.one (.pure (.val (.int .i64 v11.2))))), (11, .e (.one (.pure (.val (.bool v25))))), (12, .e (.one (.pure (.val (.int .i64 v18.2.2))))), (13, .e (.one (.pure (.val (.bool v22))))), (15, .e (.one (.pure (.sl (p0.fTables.map eApiTable))))), (16, .e (.one (.pure (.val (.int .i64 ((p0.fTables.length : Int))))))), (17, .e (.one (.pure (.val (.int .i64 v1.2))))), (39, .e (.one (.pure (.val (.int .i64 ((v4.fOK.length : Int))))))), (40, .e (.one (.pure (.val (.int .i64 v11.2))))), (52, .e (.one (.pure (.sl (v17.map eB))))), (53, .e (.one (.pure (.val (.int .i64 ((v17.length : Int))))))), (54, .e (.one (.pure (.val (.int .i64 v18.2.2)))))] [(3, .box [.pure (.sl (p1.fBase.map eI64)), .pure (.sl (p1.fNext.map eI64)), .pure (.sl (p1.fHeld.map eU8))]), (7, .box [.pure (.val (.int .i64 v4.fKind)), .pure (.val (.int .i64 v4.fFrom)), .pure (.val (.int .i64 v4.fTo)), .pure (.val (.bool v4.fAware)), .pure (.sl (v4.fOK.map (eSl eB))), .pure (.sl (v4.fRewrite.map (eSl eB)))]), (2010, .vec 3 (v18.1.map eApiConflict))]) (fun j25 h => ?_) (fun v25 h => ?_)
            ·refine W_region mixed rfl (r_move (.p rfl) rfl (r_move (.p rfl) rfl ?_))
             refine r_split (t := 65) rfl (fun c26 => ?_) (fun c26 => ?_)
             ·have h := cnd_t c26 h
              refine r_notB rfl rfl (r_pick (.p rfl) rfl rfl rfl (r_assign (.p rfl) rfl (r_end ?_)))
              exact sink true h (sees_mkL (rn [(2010, 2007)]) _ _ ⟨rfl, rfl, rfl, rfl, rfl, rfl, rfl, rfl, rfl, rfl, rfl, rfl, rfl, rfl, rfl, rfl, rfl, rfl, trivial⟩ ⟨rfl, rfl, rfl, trivial⟩ rfl rfl)
             ·have h := cnd_f c26 h
              refine r_move (.g rfl rfl) rfl (r_pick (.p rfl) rfl rfl rfl (r_assign (.p rfl) rfl (r_end ?_)))
              exact sink v22 h (sees_mkL (rn [(2010, 2007)]) _ _ ⟨rfl, rfl, rfl, rfl, rfl, rfl, rfl, rfl, rfl, rfl, rfl, rfl, rfl, rfl, rfl, rfl, rfl, rfl, trivial⟩ ⟨rfl, rfl, rfl, trivial⟩ rfl rfl)
            ·refine W_join h (fun v27 => mk [(3, .e (.one (.ptr 3 0))), (5, .e (.one (.own 2011))), (6, .e (.one (.pure (.val (.int .i64 v1.2))))), (7, .e (.one (.ptr 7 0))), (8, .e (.one (.pure (.val (.int .u8 v7))))), (9, .e (.one (.pure (.val (.int .u8 v6))))), (10, .e (.one (.pure (.val (.int .i64 v11.2))))), (11, .e (.one (.pure (.val (.bool v25))))), (12, .e (.one (.pure (.val (.int .i64 v18.2.2))))), (15, .e (.one (.pure (.sl (p0.fTables.map eApiTable))))), (16, .e (.one (.pure (.val (.int .i64 ((p0.fTables.length : Int))))))), (17, .e (.one (.pure (.val (.int .i64 v1.2))))), (39, .e (.one (.pure (.val (.int .i64 ((v4.fOK.length : Int))))))), (40, .e (.one (.pure (.val (.int .i64 v11.2))))), (52, .e (.one (.pure (.sl (v17.map eB))))), (53, .e (.one (.pure (.val (.int .i64 ((v17.length : Int))))))), (54, .e (.one (.pure (.val (.int .i64 v18.2.2))))), (74, .e (.one (.pure (.val (.bool v27)))))] [(3, .box [.pure (.sl (p1.fBase.map eI64)), .pure (.sl (p1.fNext.map eI64)), .pure (.sl (p1.fHeld.map eU8))]), (7, .box [.pure (.val (.int .i64 v4.fKind)), .pure (.val (.int .i64 v4.fFrom)), .pure (.val (.int .i64 v4.fTo)), .pure (.val (.bool v4.fAware)), .pure (.sl (v4.fOK.map (eSl eB))), .pure (.sl (v4.fRewrite.map (eSl eB)))]), (2011, .vec 3 (v18.1.map eApiConflict))]) (fun j27 h => ?_) (fun v27 h => ?_)
             ·refine W_region mixed rfl (r_move (.p rfl) rfl (r_un (.p rfl) rfl (un_not _) rfl (r_move (.p rfl) rfl ?_)))
              refine r_split (t := 70) rfl (fun c28 => ?_) (fun c28 => ?_)
              ·have h := cnd_t c28 h
               refine r_fieldAddr (.g rfl rfl) rfl fld75_3 (r_load1 (.g rfl rfl) rfl ag4 rfl rfl (r_un (.g rfl rfl) rfl (un_not _) rfl (r_pick (.p rfl) rfl rfl rfl (r_end ?_))))
               exact sink (!v4.fAware) h (sees_mkL (rn [(2011, 2010)]) _ _ ⟨rfl, rfl, rfl, rfl, rfl, rfl, rfl, rfl, rfl, rfl, rfl, rfl, rfl, rfl, rfl, rfl, rfl, rfl, trivial⟩ ⟨rfl, rfl, rfl, trivial⟩ rfl rfl)
              ·have h := cnd_f c28 h
               refine r_notB rfl rfl (r_notB rfl rfl (r_notB rfl rfl (r_pick (.p rfl) rfl rfl rfl (r_end ?_))))
               exact sink false h (sees_mkL (rn [(2011, 2010)]) _ _ ⟨rfl, rfl, rfl, rfl, rfl, rfl, rfl, rfl, rfl, rfl, rfl, rfl, rfl, rfl, rfl, rfl, rfl, rfl, trivial⟩ ⟨rfl, rfl, rfl, trivial⟩ rfl rfl)
             ·refine W_cond rfl (fun c29 => ?_) (fun c29 => ?_)
              ·have h := cnd_t c29 h
               refine W_region mixed rfl (r_move (.p rfl) rfl (r_move (.p rfl) rfl (r_move (.p rfl) rfl (r_move (.p rfl) rfl (r_build [(0, .tmp 76, _), (1, .tmp 77, _), (2, .tmp 78, _)] (.p rfl) rfl ⟨rfl, rfl, rfl, trivial⟩ zv45 rfl rfl pl45 rfl (r_buildSlice [(0, .tmp 79, _)] (.p rfl) rfl ⟨rfl, trivial⟩ rfl slc118 sz45 zv45 rfl rfl (leb rfl) rfl rfl ?_))))))
               obtain ⟨c30, h⟩ := chk_bind h
               refine r_append (.p rfl) rfl (.own _ _ _) ⟨rfl, trivial⟩ rfl (.own _ _ _) ⟨rfl, trivial⟩ rfl slc118 slc118 sz45 byt45 (leb rfl) zv45 rfl (len_lim (f := eApiConflict) (g := eApiConflict) (xs := v18.1) (ys := (([(ApiConflict.mk v1.2 v11.2 v18.2.2)] : List ApiConflict))) c30) (map_app eApiConflict v18.1 (([(ApiConflict.mk v1.2 v11.2 v18.2.2)] : List ApiConflict))) rfl (r_assign (.p rfl) rfl (r_end ?_))
               exact sink (v18.1 ++ (([(ApiConflict.mk v1.2 v11.2 v18.2.2)] : List ApiConflict)), v25) h (sees_mkL (rn [(2009, 81)]) _ _ ⟨rfl, rfl, rfl, rfl, rfl, rfl, rfl, rfl, rfl, rfl, rfl, rfl, rfl, rfl, rfl, rfl, trivial⟩ ⟨rfl, rfl, rfl, trivial⟩ rfl rfl)
              ·have h := cnd_f c29 h
               refine W_skip ?_
               exact sink (v18.1, v25) h (sees_mkL (rn [(2009, 2011)]) _ _ ⟨rfl, rfl, rfl, rfl, rfl, rfl, rfl, rfl, rfl, rfl, rfl, rfl, rfl, rfl, rfl, rfl, trivial⟩ ⟨rfl, rfl, rfl, trivial⟩ rfl rfl)
          ·refine W_region mixed rfl (r_bin (.p rfl) rfl rfl (bin_add _ _ _ _ _ _) rfl (r_move (.p rfl) rfl (r_end ?_)))
           exact sink (v21.1, v21.2, (IntKind.wrap .i64 (v18.2.2 + 1))) h (sees_mkL (rn [(2007, 2009)]) _ _ ⟨rfl, rfl, rfl, rfl, rfl, rfl, rfl, rfl, rfl, rfl, rfl, rfl, rfl, rfl, rfl, rfl, trivial⟩ ⟨rfl, rfl, rfl, trivial⟩ rfl rfl)
         ·have h := cnd_f c20 h
          refine W_exit ?_
          exact sink (v18.1, v18.2.1) h (sees_mkL (rn [(2008, 2007)]) _ _ ⟨rfl, rfl, rfl, rfl, rfl, rfl, rfl, rfl, rfl, rfl, rfl, rfl, rfl, trivial⟩ ⟨rfl, rfl, rfl, trivial⟩ rfl rfl)
        ·refine W_sees hs ?_
         refine W_join h (fun v31 => mk [(3, .e (.one (.ptr 3 0))), (5, .e (.one (.own 2012))), (6, .e (.one (.pure (.val (.int .i64 v1.2))))), (7, .e (.one (.ptr 7 0))), (8, .e (.one (.pure (.val (.int .u8 v7))))), (9, .e (.one (.pure (.val (.int .u8 v6))))), (10, .e (.one (.pure (.val (.int .i64 v11.2))))), (15, .e (.one (.pure (.sl (p0.fTables.map eApiTable))))), (16, .e (.one (.pure (.val (.int .i64 ((p0.fTables.length : Int))))))), (17, .e (.one (.pure (.val (.int .i64 v1.2))))), (39, .e (.one (.pure (.val (.int .i64 ((v4.fOK.length : Int))))))), (40, .e (.one (.pure (.val (.int .i64 v11.2))))), (88, .e (.one (.pure (.val (.bool v31)))))] [(3, .box [.pure (.sl (p1.fBase.map eI64)), .pure (.sl (p1.fNext.map eI64)), .pure (.sl (p1.fHeld.map eU8))]), (7, .box [.pure (.val (.int .i64 v4.fKind)), .pure (.val (.int .i64 v4.fFrom)), .pure (.val (.int .i64 v4.fTo)), .pure (.val (.bool v4.fAware)), .pure (.sl (v4.fOK.map (eSl eB))), .pure (.sl (v4.fRewrite.map (eSl eB)))]), (2012, .vec 3 (v19.1.map eApiConflict))]) (fun j31 h => ?_) (fun v31 h => ?_)
         ·refine W_region mixed rfl (r_fieldAddr (.p rfl) rfl fld75_3 (r_load1 (.p rfl) rfl ag4 rfl rfl (r_move (.p rfl) rfl ?_)))
          refine r_split (t := 85) rfl (fun c32 => ?_) (fun c32 => ?_)
          ·have h := cnd_t c32 h
           refine r_move (.g rfl rfl) rfl (r_un (.g rfl rfl) rfl (un_not _) rfl (r_pick (.p rfl) rfl rfl rfl (r_end ?_)))
           exact sink (!v19.2) h (sees_mkL (rn [(2012, 2008)]) _ _ ⟨rfl, rfl, rfl, rfl, rfl, rfl, rfl, rfl, rfl, rfl, rfl, rfl, rfl, trivial⟩ ⟨rfl, rfl, rfl, trivial⟩ rfl rfl)
          ·have h := cnd_f c32 h
           refine r_notB rfl rfl (r_notB rfl rfl (r_pick (.p rfl) rfl rfl rfl (r_end ?_)))
           exact sink false h (sees_mkL (rn [(2012, 2008)]) _ _ ⟨rfl, rfl, rfl, rfl, rfl, rfl, rfl, rfl, rfl, rfl, rfl, rfl, rfl, trivial⟩ ⟨rfl, rfl, rfl, trivial⟩ rfl rfl)
         ·refine W_cond rfl (fun c33 => ?_) (fun c33 => ?_)
          ·have h := cnd_t c33 h
           refine W_region mixed rfl (r_move (.p rfl) rfl (r_move (.p rfl) rfl (r_move (.p rfl) rfl (r_build [(0, .tmp 90, _), (1, .tmp 91, _), (2, .const (.int .i64 (-1)), _)] (.p rfl) rfl ⟨rfl, rfl, rfl, trivial⟩ zv45 rfl rfl pl45 rfl (r_buildSlice [(0, .tmp 92, _)] (.p rfl) rfl ⟨rfl, trivial⟩ rfl slc118 sz45 zv45 rfl rfl (leb rfl) rfl rfl ?_)))))
           obtain ⟨c34, h⟩ := chk_bind h
           refine r_append (.p rfl) rfl (.own _ _ _) ⟨rfl, trivial⟩ rfl (.own _ _ _) ⟨rfl, trivial⟩ rfl slc118 slc118 sz45 byt45 (leb rfl) zv45 rfl (len_lim (f := eApiConflict) (g := eApiConflict) (xs := v19.1) (ys := (([(ApiConflict.mk v1.2 v11.2 ((-1)))] : List ApiConflict))) c34) (map_app eApiConflict v19.1 (([(ApiConflict.mk v1.2 v11.2 ((-1)))] : List ApiConflict))) rfl (r_assign (.p rfl) rfl (r_end ?_))
           exact sink (v19.1 ++ (([(ApiConflict.mk v1.2 v11.2 ((-1)))] : List ApiConflict))) h (sees_mkL (rn [(2006, 94)]) _ _ ⟨rfl, rfl, rfl, rfl, rfl, rfl, rfl, rfl, rfl, rfl, rfl, trivial⟩ ⟨rfl, rfl, rfl, trivial⟩ rfl rfl)
          ·have h := cnd_f c33 h
           refine W_skip ?_
           exact sink v19.1 h (sees_mkL (rn [(2006, 2012)]) _ _ ⟨rfl, rfl, rfl, rfl, rfl, rfl, rfl, rfl, rfl, rfl, rfl, trivial⟩ ⟨rfl, rfl, rfl, trivial⟩ rfl rfl)
      ·refine W_region mixed rfl (r_bin (.p rfl) rfl rfl (bin_add _ _ _ _ _ _) rfl (r_move (.p rfl) rfl (r_end ?_)))
       exact sink (v14, (IntKind.wrap .i64 (v11.2 + 1))) h (sees_mkL (rn [(2004, 2006)]) _ _ ⟨rfl, rfl, rfl, rfl, rfl, rfl, rfl, rfl, rfl, rfl, rfl, trivial⟩ ⟨rfl, rfl, rfl, trivial⟩ rfl rfl)
     ·have h := cnd_f c13 h
      refine W_exit ?_
      exact sink v11.1 h (sees_mkL (rn [(2005, 2004)]) _ _ ⟨rfl, rfl, rfl, rfl, rfl, trivial⟩ ⟨rfl, rfl, trivial⟩ rfl rfl)
    ·refine W_sees hs (W_region mixed rfl (r_bin (.p rfl) rfl rfl (bin_add _ _ _ _ _ _) rfl (r_move (.p rfl) rfl (r_end ?_))))
     exact sink (v12, (IntKind.wrap .i64 (v1.2 + 1))) h (sees_mkL (rn [(2001, 2005)]) _ _ ⟨rfl, rfl, rfl, rfl, rfl, trivial⟩ ⟨rfl, rfl, trivial⟩ rfl rfl)
  ·have h := cnd_f c3 h
   refine W_exit ?_
   exact sink v1.1 h (sees_mkL (rn [(2002, 2001)]) _ _ ⟨rfl, trivial⟩ ⟨rfl, trivial⟩ rfl rfl)
 ·refine W_sees hs (W_seq (W_region mixed rfl (r_move (.p rfl) rfl (r_assign (.p rfl) rfl (r_end ?_)))))
  obtain rfl := Option.some.inj h
  refine W_sees (sees_mkL (rn [(1000, 2002)]) [(4, .e (.one (.own 1000)))] [(1000, .vec 3 (v2.map eApiConflict))] ⟨rfl, trivial⟩ ⟨rfl, trivial⟩ rfl rfl) (W_ret ?_)
  exact ⟨⟨[_], ⟨.tmp _ _ rfl, trivial⟩, rfl⟩, ⟨rfl, trivial⟩⟩
set_option maxRecDepth 10000 in
theorem mix_Blame_c (N : Nat) (p0 : ApiProblem) (p1 : ApiMix) (r : ApiMix × ApiConflict × Int) (h : Sh.mix_Blame N p0 p1 = some r) : Contract Try.prog 38 [.e (.agg [.pure (.sl (p0.fVersions.map eI64)), .pure (.sl (p0.fNow.map eI64)), .pure (.sl (p0.fTarget.map eI64)), .pure (.sl (p0.fTables.map eApiTable))]), .e (.agg [.pure (.sl (p1.fBase.map eI64)), .pure (.sl (p1.fNext.map eI64)), .pure (.sl (p1.fHeld.map eU8))])] [] (.tup [.agg [.pure (.sl (r.1.fBase.map eI64)), .pure (.sl (r.1.fNext.map eI64)), .pure (.sl (r.1.fHeld.map eU8))], .agg [.pure (.val (.int .i64 r.2.1.fTable)), .pure (.val (.int .i64 r.2.1.fWriter)), .pure (.val (.int .i64 r.2.1.fReader))], .one (.pure (.val (.int .i64 r.2.2)))]) := by
 unfold Sh.mix_Blame at h
 refine contract_of_W (n := 42) (rs := [.cell 4 43, .cell 5 45, .tmp 6]) Try.func38 rfl rfl rfl (leb rfl) (leb rfl) rfl fun w0 S0 => ?_
 refine W_seq (W_region mixed rfl (r_box (.p rfl) rfl rfl (r_box (.p rfl) rfl rfl (r_alloc (.p rfl) zv43 rfl rfl rfl (r_alloc (.p rfl) zv45 rfl rfl rfl (r_assign (.p rfl) rfl (r_end (W_seq (W_region mixed rfl (r_loadN (.p rfl) rfl ag30 sz30 rfl rfl rfl (r_loadN (.p rfl) rfl ag43 sz43 rfl rfl rfl ?_)))))))))))
 obtain ⟨v1, a1, h⟩ := bind_some h
 refine r_call (ds0 := [_, _]) [2001] (mix_Aborts_c N p0 p1 v1 a1) (.p rfl) gd75 rfl ⟨rfl, rfl, trivial⟩ rfl rfl rfl (nodupL_spec rfl) ⟨rfl, trivial⟩ rfl (r_move (.p rfl) rfl (r_extract (.p rfl) rfl rfl (r_extract (.p rfl) rfl rfl (r_assign (.p rfl) rfl (r_assign (.p rfl) rfl (r_end (W_seq (W_seq (W_region mixed rfl (r_move (.p rfl) rfl (r_bin (.p rfl) rfl rfl (bin_neq _ _ _ _ _ _) rfl (r_end ?_))))))))))))
 refine W_cond rfl (fun c2 => ?_) (fun c2 => ?_)
 ·have h := cnd_t c2 h
  refine W_seq (W_region mixed rfl (r_build [] (.p rfl) rfl trivial zv43 rfl rfl pl43 rfl (r_build [] (.p rfl) rfl trivial zv45 rfl rfl pl45 rfl (r_move (.p rfl) rfl (r_store rfl rfl rfl rfl sz43 rfl (leb rfl) rfl (r_store rfl rfl rfl rfl sz45 rfl (leb rfl) rfl (r_assign (.p rfl) rfl (r_end ?_))))))))
  obtain rfl := Option.some.inj h
  refine W_sees ((sees_nrmB 4 _ rfl).trans (sees_mkL (rn []) [(4, .e (.one (.ptr 4 0))), (5, .e (.one (.ptr 5 0))), (6, .e (.one (.pure (.val (.int .i64 v1.2)))))] [(4, .box [.pure (.sl ((([] : List Int)).map eI64)), .pure (.sl ((([] : List Int)).map eI64)), .pure (.sl ((([] : List Int)).map eU8))]), (5, .box [.pure (.val (.int .i64 0)), .pure (.val (.int .i64 0)), .pure (.val (.int .i64 0))])] ⟨rfl, rfl, rfl, trivial⟩ ⟨rfl, rfl, trivial⟩ rfl rfl)) (W_ret ?_)
  exact ⟨⟨[_, _, _], ⟨.cellN _ _ _ _ _ _ _ rfl rfl ag43 sz43 rfl rfl (ltb rfl), ⟨.cellN _ _ _ _ _ _ _ rfl rfl ag45 sz45 rfl rfl (ltb rfl), ⟨.tmp _ _ rfl, trivial⟩⟩⟩, rfl⟩, trivial⟩
 ·have h := cnd_f c2 h
  refine W_skip (W_seq (W_seq (W_region mixed rfl (r_move (.p rfl) rfl (r_len (.p rfl) rfl (.own _ _ _) ⟨rfl, trivial⟩ (List.length_map _) slc89 (r_move (.p rfl) rfl (r_end ?_)))))))
  refine W_whileE (L := Sh.mix_Blame_L3 N p0 v1) h (fun v3 => mk [(2, .e (.one (.ptr 2 0))), (4, .e (.one (.ptr 4 0))), (5, .e (.one (.ptr 5 0))), (23, .e (.one (.own 2002))), (24, .e (.one (.pure (.val (.int .i64 ((v1.1.length : Int))))))), (25, .e (.one (.pure (.val (.int .i64 v3)))))] [(2, .box [.pure (.sl (p0.fVersions.map eI64)), .pure (.sl (p0.fNow.map eI64)), .pure (.sl (p0.fTarget.map eI64)), .pure (.sl (p0.fTables.map eApiTable))]), (4, .box [.pure (.nil0), .pure (.nil0), .pure (.nil0)]), (5, .box [.pure (.val (.int .i64 0)), .pure (.val (.int .i64 0)), .pure (.val (.int .i64 0))]), (2002, .vec 3 (v1.1.map eApiMix))]) (fun v4 => mk [(4, .e (.one (.ptr 4 0))), (5, .e (.one (.ptr 5 0)))] [(4, .box [.pure (.nil0), .pure (.nil0), .pure (.nil0)]), (5, .box [.pure (.val (.int .i64 0)), .pure (.val (.int .i64 0)), .pure (.val (.int .i64 0))])]) (fun _ _ => rfl) (sees_mkL (rn [(2002, 2001)]) _ _ ⟨rfl, rfl, rfl, rfl, rfl, rfl, trivial⟩ ⟨rfl, rfl, rfl, rfl, trivial⟩ rfl rfl) (fun j3 n3 v3 h => ?_) (fun v4 s h hs => ?_)
  ·unfold Sh.mix_Blame_L3 at h
   refine W_seq (W_region mixed rfl (r_bin (.p rfl) rfl rfl (bin_lss _ _ _ _ _ _) rfl (r_end (W_seq ?_))))
   refine W_cond rfl (fun c5 => ?_) (fun c5 => ?_)
   ·have h := cnd_t c5 h
    refine W_skip (W_seq (W_block (W_seq (W_region mixed rfl ?_))))
    obtain ⟨v6, a6, b6, h⟩ := idx_bind h
    refine r_indexo (.p rfl) rfl rfl rfl slc89 sz43 a6 (map_get b6) (r_loadeN (.p rfl) rfl ag43 sz43 rfl (map_get b6) (r_alloc (.p rfl) zv43 rfl rfl rfl (r_store rfl rfl rfl rfl sz43 rfl (leb rfl) rfl (r_end (W_seq (W_region mixed rfl (r_loadN (.p rfl) rfl ag30 sz30 rfl rfl rfl (r_loadN (.p rfl) rfl ag43 sz43 rfl rfl rfl ?_))))))))
    obtain ⟨v7, a7, h⟩ := bind_some h
    refine r_call (ds0 := [_, _]) [2003] (mix_conflicts_c N p0 v6 v7 a7) (.p rfl) gd76 rfl ⟨rfl, rfl, trivial⟩ rfl rfl rfl (nodupL_spec rfl) ⟨rfl, trivial⟩ rfl (r_assign (.p rfl) rfl (r_end (W_seq (W_region mixed rfl (r_move (.p rfl) rfl (r_len (.p rfl) rfl (.own _ _ _) ⟨rfl, trivial⟩ (List.length_map _) slc118 (r_bin (.p rfl) rfl rfl (bin_gtr _ _ _ _ _ _) rfl (r_end ?_))))))))
    refine W_cond rfl (fun c8 => ?_) (fun c8 => ?_)
    ·have h := cnd_t c8 h
     refine W_seq (W_region mixed rfl (r_loadN (.p rfl) rfl ag43 sz43 rfl rfl rfl (r_move (.p rfl) rfl ?_)))
     obtain ⟨v9, a9, b9, h⟩ := idx_bind h
     refine r_indexo (.p rfl) rfl rfl rfl slc118 sz45 a9 (map_get b9) (r_loadeN (.p rfl) rfl ag45 sz45 rfl (map_get b9) (r_store rfl rfl rfl rfl sz43 rfl (leb rfl) rfl (r_store rfl rfl rfl rfl sz45 rfl (leb rfl) rfl (r_assign (.p rfl) rfl ?_))))
     refine r_endD (by kernel_rfl) ?_
     obtain rfl := Option.some.inj h
     refine W_sees (sees_mkL (rn []) [(4, .e (.one (.ptr 4 0))), (5, .e (.one (.ptr 5 0))), (6, .e (.one (.pure (.val (.int .i64 0)))))] [(4, .box [.pure (.sl (v6.fBase.map eI64)), .pure (.sl (v6.fNext.map eI64)), .pure (.sl (v6.fHeld.map eU8))]), (5, .box [.pure (.val (.int .i64 v9.fTable)), .pure (.val (.int .i64 v9.fWriter)), .pure (.val (.int .i64 v9.fReader))])] ⟨rfl, rfl, rfl, trivial⟩ ⟨rfl, rfl, trivial⟩ rfl rfl) (W_ret ?_)
     exact ⟨⟨[_, _, _], ⟨.cellN _ _ _ _ _ _ _ rfl rfl ag43 sz43 rfl rfl (ltb rfl), ⟨.cellN _ _ _ _ _ _ _ rfl rfl ag45 sz45 rfl rfl (ltb rfl), ⟨.tmp _ _ rfl, trivial⟩⟩⟩, rfl⟩, trivial⟩
    ·have h := cnd_f c8 h
     refine W_skip (W_region mixed rfl (r_bin (.p rfl) rfl rfl (bin_add _ _ _ _ _ _) rfl (r_move (.p rfl) rfl (r_end ?_))))
     exact sink (IntKind.wrap .i64 (v3 + 1)) h (sees_mkL (rn []) _ _ ⟨rfl, rfl, rfl, rfl, rfl, rfl, trivial⟩ ⟨rfl, rfl, rfl, rfl, trivial⟩ rfl rfl)
   ·have h := cnd_f c5 h
    refine W_exit ?_
    exact sink () h (sees_mkL (rn []) _ _ ⟨rfl, rfl, trivial⟩ ⟨rfl, rfl, trivial⟩ rfl rfl)
  ·refine W_sees hs (W_seq (W_region mixed rfl (r_build [] (.p rfl) rfl trivial zv43 rfl rfl pl43 rfl (r_build [] (.p rfl) rfl trivial zv45 rfl rfl pl45 rfl (r_store rfl rfl rfl rfl sz43 rfl (leb rfl) rfl (r_store rfl rfl rfl rfl sz45 rfl (leb rfl) rfl (r_assign (.p rfl) rfl (r_end ?_))))))))
   obtain rfl := Option.some.inj h
   refine W_sees ((sees_nrmB 4 _ rfl).trans (sees_mkL (rn []) [(4, .e (.one (.ptr 4 0))), (5, .e (.one (.ptr 5 0))), (6, .e (.one (.pure (.val (.int .i64 15)))))] [(4, .box [.pure (.sl ((([] : List Int)).map eI64)), .pure (.sl ((([] : List Int)).map eI64)), .pure (.sl ((([] : List Int)).map eU8))]), (5, .box [.pure (.val (.int .i64 0)), .pure (.val (.int .i64 0)), .pure (.val (.int .i64 0))])] ⟨rfl, rfl, rfl, trivial⟩ ⟨rfl, rfl, trivial⟩ rfl rfl)) (W_ret ?_)
   exact ⟨⟨[_, _, _], ⟨.cellN _ _ _ _ _ _ _ rfl rfl ag43 sz43 rfl rfl (ltb rfl), ⟨.cellN _ _ _ _ _ _ _ rfl rfl ag45 sz45 rfl rfl (ltb rfl), ⟨.tmp _ _ rfl, trivial⟩⟩⟩, rfl⟩, trivial⟩
set_option maxRecDepth 10000 in
theorem mix_Robust_c (N : Nat) (p0 : ApiProblem) (p1 : ApiMix) (r : Bool × Int) (h : Sh.mix_Robust N p0 p1 = some r) : Contract Try.prog 54 [.e (.agg [.pure (.sl (p0.fVersions.map eI64)), .pure (.sl (p0.fNow.map eI64)), .pure (.sl (p0.fTarget.map eI64)), .pure (.sl (p0.fTables.map eApiTable))]), .e (.agg [.pure (.sl (p1.fBase.map eI64)), .pure (.sl (p1.fNext.map eI64)), .pure (.sl (p1.fHeld.map eU8))])] [] (.tup [.one (.pure (.val (.bool r.1))), .one (.pure (.val (.int .i64 r.2)))]) := by
 unfold Sh.mix_Robust at h
 refine contract_of_W (n := 22) (rs := [.tmp 4, .tmp 5]) Try.func54 rfl rfl rfl (leb rfl) (leb rfl) rfl fun w0 S0 => ?_
 refine W_seq (W_region mixed rfl (r_box (.p rfl) rfl rfl (r_box (.p rfl) rfl rfl (r_assign (.p rfl) rfl (r_assign (.p rfl) rfl (r_end (W_seq (W_region mixed rfl (r_loadN (.p rfl) rfl ag30 sz30 rfl rfl rfl (r_loadN (.p rfl) rfl ag43 sz43 rfl rfl rfl ?_))))))))))
 obtain ⟨v1, a1, h⟩ := bind_some h
 refine r_call (ds0 := [_, _]) [] (mix_Blame_c N p0 p1 v1 a1) (.p rfl) gd38 rfl ⟨rfl, rfl, trivial⟩ rfl rfl rfl (nodupL_spec rfl) trivial rfl (r_move (.p rfl) rfl (r_extract (.p rfl) rfl rfl (r_extract (.p rfl) rfl rfl (r_extract (.p rfl) rfl rfl (r_alloc (.p rfl) zv43 rfl rfl rfl (r_alloc (.p rfl) zv45 rfl rfl rfl (r_store rfl rfl rfl rfl sz43 rfl (leb rfl) rfl (r_store rfl rfl rfl rfl sz45 rfl (leb rfl) rfl (r_assign (.p rfl) rfl (r_end (W_seq (W_region mixed rfl (r_move (.p rfl) rfl (r_end (W_block (W_seq (W_region mixed rfl (r_bin (.p rfl) rfl rfl (bin_eql _ _ _ _ _ _) rfl (r_assign (.p rfl) rfl (r_end ?_))))))))))))))))))))
 refine W_cond rfl (fun c2 => ?_) (fun c2 => ?_)
 ·have h := cnd_t c2 h
  refine W_seq (W_region mixed rfl (r_assign (.p rfl) rfl (r_assign (.p rfl) rfl (r_end ?_))))
  obtain rfl := Option.some.inj h
  refine W_sees (sees_mkL (rn []) [(4, .e (.one (.pure (.val (.bool false))))), (5, .e (.one (.pure (.val (.int .i64 0)))))] [] ⟨rfl, rfl, trivial⟩ trivial rfl rfl) (W_ret ?_)
  exact ⟨⟨[_, _], ⟨.tmp _ _ rfl, ⟨.tmp _ _ rfl, trivial⟩⟩, rfl⟩, trivial⟩
 ·have h := cnd_f c2 h
  refine W_seq (W_region mixed rfl (r_bin (.p rfl) rfl rfl (bin_eql _ _ _ _ _ _) rfl (r_assign (.p rfl) rfl (r_end ?_))))
  refine W_cond rfl (fun c3 => ?_) (fun c3 => ?_)
  ·have h := cnd_t c3 h
   refine W_seq (W_region mixed rfl (r_assign (.p rfl) rfl (r_assign (.p rfl) rfl (r_end ?_))))
   obtain rfl := Option.some.inj h
   refine W_sees (sees_mkL (rn []) [(4, .e (.one (.pure (.val (.bool true))))), (5, .e (.one (.pure (.val (.int .i64 0)))))] [] ⟨rfl, rfl, trivial⟩ trivial rfl rfl) (W_ret ?_)
   exact ⟨⟨[_, _], ⟨.tmp _ _ rfl, ⟨.tmp _ _ rfl, trivial⟩⟩, rfl⟩, trivial⟩
  ·have h := cnd_f c3 h
   refine W_seq (W_region mixed rfl (r_move (.p rfl) rfl (r_assign (.p rfl) rfl (r_assign (.p rfl) rfl (r_end ?_)))))
   obtain rfl := Option.some.inj h
   refine W_sees (sees_mkL (rn []) [(4, .e (.one (.pure (.val (.bool false))))), (5, .e (.one (.pure (.val (.int .i64 v1.2.2)))))] [] ⟨rfl, rfl, trivial⟩ trivial rfl rfl) (W_ret ?_)
   exact ⟨⟨[_, _], ⟨.tmp _ _ rfl, ⟨.tmp _ _ rfl, trivial⟩⟩, rfl⟩, trivial⟩
set_option maxRecDepth 10000 in
theorem plan_key_c (N : Nat) (p0 : ApiMix) (r : ByteArray) (h : Sh.plan_key N p0 = some r) : Contract Try.prog 86 [.e (.agg [.pure (.sl (p0.fBase.map eI64)), .pure (.sl (p0.fNext.map eI64)), .pure (.sl (p0.fHeld.map eU8))])] [] (.e (.one (.pure (.val (.string r))))) := by
 unfold Sh.plan_key at h
 refine contract_of_W (n := 53) (rs := [.tmp 2]) Try.func86 rfl rfl rfl (leb rfl) (leb rfl) rfl fun w0 S0 => ?_
 refine W_seq (W_region mixed rfl (r_box (.p rfl) rfl rfl (r_assign (.p rfl) rfl (r_end (W_seq (W_region mixed rfl (r_fieldAddr (.p rfl) rfl fld43_0 (r_load1 (.p rfl) rfl ag27 rfl rfl (r_len (.p rfl) rfl (.sl _) trivial (List.length_map _) slc27 (r_bin (.p rfl) rfl rfl (bin_mul _ _ _ _ _ _) rfl (r_fieldAddr (.p rfl) rfl fld43_2 (r_load1 (.p rfl) rfl ag41 rfl rfl (r_len (.p rfl) rfl (.sl _) trivial (List.length_map _) slc41 (r_bin (.p rfl) rfl rfl (bin_add _ _ _ _ _ _) rfl ?_))))))))))))))
 obtain ⟨c1, h⟩ := chk_bind h
 refine r_makeSlice (.p rfl) rfl rfl rfl slc22 sz5 byt5 (leb rfl) zv5 rfl rfl rfl c1.1 c1.2.1 c1.2.2 (map_rep eU8 _ ((0 : Int))) (r_assign (.p rfl) rfl (r_end (W_seq (W_seq (W_region mixed rfl (r_fieldAddr (.p rfl) rfl fld43_0 (r_load1 (.p rfl) rfl ag27 rfl rfl (r_len (.p rfl) rfl (.sl _) trivial (List.length_map _) slc27 (r_move (.p rfl) rfl (r_end ?_))))))))))
 refine W_whileE (L := Sh.plan_key_L2 N p0) h (fun v2 => mk [(1, .e (.one (.ptr 1 0))), (3, .e (.one (.own 2001))), (18, .e (.one (.pure (.val (.int .i64 ((p0.fBase.length : Int))))))), (19, .e (.one (.pure (.val (.int .i64 v2.2)))))] [(1, .box [.pure (.sl (p0.fBase.map eI64)), .pure (.sl (p0.fNext.map eI64)), .pure (.sl (p0.fHeld.map eU8))]), (2001, .vec 1 (v2.1.map eU8))]) (fun v3 => mk [(1, .e (.one (.ptr 1 0))), (3, .e (.one (.own 2002)))] [(1, .box [.pure (.sl (p0.fBase.map eI64)), .pure (.sl (p0.fNext.map eI64)), .pure (.sl (p0.fHeld.map eU8))]), (2002, .vec 1 (v3.map eU8))]) (fun _ _ => rfl) (sees_mkL (rn [(2001, 15)]) _ _ ⟨rfl, rfl, rfl, rfl, trivial⟩ ⟨rfl, rfl, trivial⟩ rfl rfl) (fun j2 n2 v2 h => ?_) (fun v3 s h hs => ?_)
 ·unfold Sh.plan_key_L2 at h
  refine W_seq (W_region mixed rfl (r_bin (.p rfl) rfl rfl (bin_lss _ _ _ _ _ _) rfl (r_end (W_seq ?_))))
  refine W_cond rfl (fun c4 => ?_) (fun c4 => ?_)
  ·have h := cnd_t c4 h
   refine W_skip (W_seq (W_block (W_seq (W_region mixed rfl (r_move (.p rfl) rfl (r_assign (.p rfl) rfl (r_end (W_region mixed rfl (r_move (.p rfl) rfl (r_fieldAddr (.p rfl) rfl fld43_0 (r_load1 (.p rfl) rfl ag27 rfl rfl (r_move (.p rfl) rfl ?_))))))))))))
   obtain ⟨v5, a5, b5, h⟩ := idx_bind h
   refine r_index (.p rfl) rfl rfl slc27 sz3 a5 (map_get b5) rfl (r_loadr1 (.p rfl) rfl ag3 rfl (r_conv (.p rfl) rfl (conv_int so3 in5 _ _) rfl (r_fieldAddr (.p rfl) rfl fld43_1 (r_load1 (.p rfl) rfl ag27 rfl rfl (r_move (.p rfl) rfl ?_)))))
   obtain ⟨v6, a6, b6, h⟩ := idx_bind h
   refine r_index (.p rfl) rfl rfl slc27 sz3 a6 (map_get b6) rfl (r_loadr1 (.p rfl) rfl ag3 rfl (r_bin (.p rfl) rfl rfl (bin_add _ _ _ _ _ _) rfl (r_conv (.p rfl) rfl (conv_int so3 in5 _ _) rfl (r_buildSlice [(0, .tmp 28, _), (1, .tmp 35, _)] (.p rfl) rfl ⟨rfl, rfl, trivial⟩ rfl slc22 sz5 zv5 rfl rfl (leb rfl) rfl rfl ?_))))
   obtain ⟨c7, h⟩ := chk_bind h
   refine r_append (.p rfl) rfl (.own _ _ _) ⟨rfl, trivial⟩ rfl (.own _ _ _) ⟨rfl, trivial⟩ rfl slc22 slc22 sz5 byt5 (leb rfl) zv5 rfl (len_lim (f := eU8) (g := eU8) (xs := v2.1) (ys := (([(IntKind.wrap .u8 v5), (IntKind.wrap .u8 ((IntKind.wrap .i64 (v6 + 1))))] : List Int))) c7) (map_app eU8 v2.1 (([(IntKind.wrap .u8 v5), (IntKind.wrap .u8 ((IntKind.wrap .i64 (v6 + 1))))] : List Int))) rfl (r_assign (.p rfl) rfl ?_)
   refine r_endD (by kernel_rfl) ?_
   refine W_region mixed rfl (r_bin (.p rfl) rfl rfl (bin_add _ _ _ _ _ _) rfl (r_move (.p rfl) rfl (r_end ?_)))
   exact sink (v2.1 ++ (([(IntKind.wrap .u8 v5), (IntKind.wrap .u8 ((IntKind.wrap .i64 (v6 + 1))))] : List Int)), (IntKind.wrap .i64 (v2.2 + 1))) h (sees_mkL (rn [(2001, 37)]) _ _ ⟨rfl, rfl, rfl, rfl, trivial⟩ ⟨rfl, rfl, trivial⟩ rfl rfl)
  ·have h := cnd_f c4 h
   refine W_exit ?_
   exact sink v2.1 h (sees_mkL (rn [(2002, 2001)]) _ _ ⟨rfl, rfl, trivial⟩ ⟨rfl, rfl, trivial⟩ rfl rfl)
 ·refine W_sees hs (W_seq (W_seq (W_region mixed rfl (r_fieldAddr (.p rfl) rfl fld43_2 (r_load1 (.p rfl) rfl ag41 rfl rfl (r_len (.p rfl) rfl (.sl _) trivial (List.length_map _) slc41 (r_move (.p rfl) rfl (r_end ?_))))))))
  refine W_whileE (L := Sh.plan_key_L8 N p0) h (fun v8 => mk [(3, .e (.one (.own 2003))), (40, .e (.one (.pure (.sl (p0.fHeld.map eU8))))), (41, .e (.one (.pure (.val (.int .i64 ((p0.fHeld.length : Int))))))), (42, .e (.one (.pure (.val (.int .i64 v8.2)))))] [(2003, .vec 1 (v8.1.map eU8))]) (fun v9 => mk [(3, .e (.one (.own 2004)))] [(2004, .vec 1 (v9.map eU8))]) (fun _ _ => rfl) (sees_mkL (rn [(2003, 2002)]) _ _ ⟨rfl, rfl, rfl, rfl, trivial⟩ ⟨rfl, trivial⟩ rfl rfl) (fun j8 n8 v8 h => ?_) (fun v9 s h hs => ?_)
  ·unfold Sh.plan_key_L8 at h
   refine W_seq (W_region mixed rfl (r_bin (.p rfl) rfl rfl (bin_lss _ _ _ _ _ _) rfl (r_end (W_seq ?_))))
   refine W_cond rfl (fun c10 => ?_) (fun c10 => ?_)
   ·have h := cnd_t c10 h
    refine W_skip (W_seq (W_block (W_seq (W_region mixed rfl ?_))))
    obtain ⟨v11, a11, b11, h⟩ := idx_bind h
    refine r_index (.p rfl) rfl rfl slc41 sz87 a11 (map_get b11) rfl (r_loadr1 (.p rfl) rfl ag87 rfl (r_assign (.p rfl) rfl (r_end (W_region mixed rfl (r_move (.p rfl) rfl (r_move (.p rfl) rfl (r_buildSlice [(0, .tmp 47, _)] (.p rfl) rfl ⟨rfl, trivial⟩ rfl slc22 sz5 zv5 rfl rfl (leb rfl) rfl rfl ?_)))))))
    obtain ⟨c12, h⟩ := chk_bind h
    refine r_append (.p rfl) rfl (.own _ _ _) ⟨rfl, trivial⟩ rfl (.own _ _ _) ⟨rfl, trivial⟩ rfl slc22 slc22 sz5 byt5 (leb rfl) zv5 rfl (len_lim (f := eU8) (g := eU8) (xs := v8.1) (ys := (([v11] : List Int))) c12) (map_app eU8 v8.1 (([v11] : List Int))) rfl (r_assign (.p rfl) rfl (r_end (W_region mixed rfl (r_bin (.p rfl) rfl rfl (bin_add _ _ _ _ _ _) rfl (r_move (.p rfl) rfl (r_end ?_))))))
    exact sink (v8.1 ++ (([v11] : List Int)), (IntKind.wrap .i64 (v8.2 + 1))) h (sees_mkL (rn [(2003, 49)]) _ _ ⟨rfl, rfl, rfl, rfl, trivial⟩ ⟨rfl, trivial⟩ rfl rfl)
   ·have h := cnd_f c10 h
    refine W_exit ?_
    exact sink v8.1 h (sees_mkL (rn [(2004, 2003)]) _ _ ⟨rfl, trivial⟩ ⟨rfl, trivial⟩ rfl rfl)
  ·refine W_sees hs (W_seq (W_region mixed rfl (r_move (.p rfl) rfl ?_)))
   refine r_convBS v9 (.p rfl) rfl (srcW_own eU8 _ _ _) ⟨rfl, trivial⟩ rfl bsl22 str9 ?_
   refine r_assign (.p rfl) rfl (r_end ?_)
   obtain rfl := Option.some.inj h
   refine W_sees (sees_mkL (rn []) [(2, .e (.one (.pure (.val (.string ((bytesOf v9)))))))] [] ⟨rfl, trivial⟩ trivial rfl rfl) (W_ret ?_)
   exact ⟨⟨[_], ⟨.tmp _ _ rfl, trivial⟩, rfl⟩, trivial⟩
set_option maxRecDepth 10000 in
theorem step_all_c (N : Nat) (p0 : ApiProblem) (r : (List ApiStep)) (h : Sh.step_all N p0 = some r) : Contract Try.prog 104 [.e (.agg [.pure (.sl (p0.fVersions.map eI64)), .pure (.sl (p0.fNow.map eI64)), .pure (.sl (p0.fTarget.map eI64)), .pure (.sl (p0.fTables.map eApiTable))])] [(3, r.map eApiStep)] (.e (.one (.own 0))) := by
 unfold Sh.step_all at h
 refine contract_of_W (n := 54) (rs := [.tmp 2]) Try.func104 rfl rfl rfl (leb rfl) (leb rfl) rfl fun w0 S0 => ?_
 refine W_seq (W_region mixed rfl (r_box (.p rfl) rfl rfl (r_assign (.p rfl) rfl (r_end (W_seq (W_region mixed rfl (r_assign (.p rfl) rfl (r_end (W_seq (W_seq (W_region mixed rfl (r_fieldAddr (.p rfl) rfl fld30_0 (r_load1 (.p rfl) rfl ag27 rfl rfl (r_len (.p rfl) rfl (.sl _) trivial (List.length_map _) slc27 (r_move (.p rfl) rfl (r_end ?_))))))))))))))))
 refine W_whileE (L := Sh.step_all_L1 N p0) h (fun v1 => mk [(1, .e (.one (.ptr 1 0))), (3, .e (.one (.own 2001))), (10, .e (.one (.pure (.sl (p0.fVersions.map eI64))))), (11, .e (.one (.pure (.val (.int .i64 ((p0.fVersions.length : Int))))))), (12, .e (.one (.pure (.val (.int .i64 v1.2)))))] [(1, .box [.pure (.sl (p0.fVersions.map eI64)), .pure (.sl (p0.fNow.map eI64)), .pure (.sl (p0.fTarget.map eI64)), .pure (.sl (p0.fTables.map eApiTable))]), (2001, .vec 3 (v1.1.map eApiStep))]) (fun v2 => mk [(1, .e (.one (.ptr 1 0))), (3, .e (.one (.own 2002)))] [(1, .box [.pure (.sl (p0.fVersions.map eI64)), .pure (.sl (p0.fNow.map eI64)), .pure (.sl (p0.fTarget.map eI64)), .pure (.sl (p0.fTables.map eApiTable))]), (2002, .vec 3 (v2.map eApiStep))]) (fun _ _ => rfl) ((sees_adopt 3 2005 3 rfl rfl rfl).trans (sees_mkL (rn [(2001, 2005)]) _ _ ⟨rfl, rfl, rfl, rfl, rfl, trivial⟩ ⟨rfl, rfl, trivial⟩ rfl rfl)) (fun j1 n1 v1 h => ?_) (fun v2 s h hs => ?_)
 ·unfold Sh.step_all_L1 at h
  refine W_seq (W_region mixed rfl (r_bin (.p rfl) rfl rfl (bin_lss _ _ _ _ _ _) rfl (r_end (W_seq ?_))))
  refine W_cond rfl (fun c3 => ?_) (fun c3 => ?_)
  ·have h := cnd_t c3 h
   refine W_skip (W_seq (W_block (W_seq (W_region mixed rfl (r_move (.p rfl) rfl ?_)))))
   obtain ⟨v4, a4, b4, h⟩ := idx_bind h
   refine r_index (.p rfl) rfl rfl slc27 sz3 a4 (map_get b4) rfl (r_loadr1 (.p rfl) rfl ag3 rfl (r_assign (.p rfl) rfl (r_assign (.p rfl) rfl (r_end (W_seq (W_region mixed rfl (r_move (.p rfl) rfl (r_move (.p rfl) rfl (r_end ?_)))))))))
   refine W_whileE (L := Sh.step_all_L5 N v1 v4) h (fun v5 => mk [(1, .e (.one (.ptr 1 0))), (3, .e (.one (.own 2003))), (4, .e (.one (.pure (.val (.int .i64 v1.2))))), (10, .e (.one (.pure (.sl (p0.fVersions.map eI64))))), (11, .e (.one (.pure (.val (.int .i64 ((p0.fVersions.length : Int))))))), (12, .e (.one (.pure (.val (.int .i64 v1.2))))), (17, .e (.one (.pure (.val (.int .i64 v4))))), (18, .e (.one (.pure (.val (.int .i64 v5.2)))))] [(1, .box [.pure (.sl (p0.fVersions.map eI64)), .pure (.sl (p0.fNow.map eI64)), .pure (.sl (p0.fTarget.map eI64)), .pure (.sl (p0.fTables.map eApiTable))]), (2003, .vec 3 (v5.1.map eApiStep))]) (fun v6 => mk [(1, .e (.one (.ptr 1 0))), (3, .e (.one (.own 2004))), (10, .e (.one (.pure (.sl (p0.fVersions.map eI64))))), (11, .e (.one (.pure (.val (.int .i64 ((p0.fVersions.length : Int))))))), (12, .e (.one (.pure (.val (.int .i64 v1.2)))))] [(1, .box [.pure (.sl (p0.fVersions.map eI64)), .pure (.sl (p0.fNow.map eI64)), .pure (.sl (p0.fTarget.map eI64)), .pure (.sl (p0.fTables.map eApiTable))]), (2004, .vec 3 (v6.map eApiStep))]) (fun _ _ => rfl) (sees_mkL (rn [(2003, 2001)]) _ _ ⟨rfl, rfl, rfl, rfl, rfl, rfl, rfl, rfl, trivial⟩ ⟨rfl, rfl, trivial⟩ rfl rfl) (fun j5 n5 v5 h => ?_) (fun v6 s h hs => ?_)
   ·unfold Sh.step_all_L5 at h
    refine W_seq (W_region mixed rfl (r_bin (.p rfl) rfl rfl (bin_lss _ _ _ _ _ _) rfl (r_end (W_seq ?_))))
    refine W_cond rfl (fun c7 => ?_) (fun c7 => ?_)
    ·have h := cnd_t c7 h
     refine W_skip (W_seq (W_block (W_seq (W_region mixed rfl (r_move (.p rfl) rfl (r_assign (.p rfl) rfl (r_end (W_region mixed rfl (r_move (.p rfl) rfl (r_move (.p rfl) rfl (r_move (.p rfl) rfl (r_build [(0, .const (.int .i64 1), _), (1, .tmp 22, _), (2, .tmp 23, _)] (.p rfl) rfl ⟨rfl, rfl, rfl, trivial⟩ zv63 rfl rfl pl63 rfl (r_buildSlice [(0, .tmp 24, _)] (.p rfl) rfl ⟨rfl, trivial⟩ rfl slc33 sz63 zv63 rfl rfl (leb rfl) rfl rfl ?_)))))))))))))
     obtain ⟨c8, h⟩ := chk_bind h
     refine r_append (.p rfl) rfl (.own _ _ _) ⟨rfl, trivial⟩ rfl (.own _ _ _) ⟨rfl, trivial⟩ rfl slc33 slc33 sz63 byt63 (leb rfl) zv63 rfl (len_lim (f := eApiStep) (g := eApiStep) (xs := v5.1) (ys := (([(ApiStep.mk 1 v1.2 v5.2)] : List ApiStep))) c8) (map_app eApiStep v5.1 (([(ApiStep.mk 1 v1.2 v5.2)] : List ApiStep))) rfl (r_assign (.p rfl) rfl (r_end (W_region mixed rfl (r_bin (.p rfl) rfl rfl (bin_add _ _ _ _ _ _) rfl (r_move (.p rfl) rfl (r_end ?_))))))
     exact sink (v5.1 ++ (([(ApiStep.mk 1 v1.2 v5.2)] : List ApiStep)), (IntKind.wrap .i64 (v5.2 + 1))) h (sees_mkL (rn [(2003, 26)]) _ _ ⟨rfl, rfl, rfl, rfl, rfl, rfl, rfl, rfl, trivial⟩ ⟨rfl, rfl, trivial⟩ rfl rfl)
    ·have h := cnd_f c7 h
     refine W_exit ?_
     exact sink v5.1 h (sees_mkL (rn [(2004, 2003)]) _ _ ⟨rfl, rfl, rfl, rfl, rfl, trivial⟩ ⟨rfl, rfl, trivial⟩ rfl rfl)
   ·refine W_sees hs (W_region mixed rfl (r_bin (.p rfl) rfl rfl (bin_add _ _ _ _ _ _) rfl (r_move (.p rfl) rfl (r_end ?_))))
    exact sink (v6, (IntKind.wrap .i64 (v1.2 + 1))) h (sees_mkL (rn [(2001, 2004)]) _ _ ⟨rfl, rfl, rfl, rfl, rfl, trivial⟩ ⟨rfl, rfl, trivial⟩ rfl rfl)
  ·have h := cnd_f c3 h
   refine W_exit ?_
   exact sink v1.1 h (sees_mkL (rn [(2002, 2001)]) _ _ ⟨rfl, rfl, trivial⟩ ⟨rfl, rfl, trivial⟩ rfl rfl)
 ·refine W_sees hs (W_seq (W_seq (W_region mixed rfl (r_fieldAddr (.p rfl) rfl fld30_0 (r_load1 (.p rfl) rfl ag27 rfl rfl (r_len (.p rfl) rfl (.sl _) trivial (List.length_map _) slc27 (r_move (.p rfl) rfl (r_end ?_))))))))
  refine W_whileE (L := Sh.step_all_L9 N p0) h (fun v9 => mk [(1, .e (.one (.ptr 1 0))), (3, .e (.one (.own 2006))), (31, .e (.one (.pure (.val (.int .i64 ((p0.fVersions.length : Int))))))), (32, .e (.one (.pure (.val (.int .i64 v9.2)))))] [(1, .box [.pure (.sl (p0.fVersions.map eI64)), .pure (.sl (p0.fNow.map eI64)), .pure (.sl (p0.fTarget.map eI64)), .pure (.sl (p0.fTables.map eApiTable))]), (2006, .vec 3 (v9.1.map eApiStep))]) (fun v10 => mk [(1, .e (.one (.ptr 1 0))), (3, .e (.one (.own 2007)))] [(1, .box [.pure (.sl (p0.fVersions.map eI64)), .pure (.sl (p0.fNow.map eI64)), .pure (.sl (p0.fTarget.map eI64)), .pure (.sl (p0.fTables.map eApiTable))]), (2007, .vec 3 (v10.map eApiStep))]) (fun _ _ => rfl) (sees_mkL (rn [(2006, 2002)]) _ _ ⟨rfl, rfl, rfl, rfl, trivial⟩ ⟨rfl, rfl, trivial⟩ rfl rfl) (fun j9 n9 v9 h => ?_) (fun v10 s h hs => ?_)
  ·unfold Sh.step_all_L9 at h
   refine W_seq (W_region mixed rfl (r_bin (.p rfl) rfl rfl (bin_lss _ _ _ _ _ _) rfl (r_end (W_seq ?_))))
   refine W_cond rfl (fun c11 => ?_) (fun c11 => ?_)
   ·have h := cnd_t c11 h
    refine W_skip (W_seq (W_block (W_seq (W_region mixed rfl (r_move (.p rfl) rfl (r_assign (.p rfl) rfl (r_end (W_region mixed rfl (r_move (.p rfl) rfl (r_move (.p rfl) rfl (r_build [(0, .const (.int .i64 2), _), (1, .tmp 36, _)] (.p rfl) rfl ⟨rfl, rfl, trivial⟩ zv63 rfl rfl pl63 rfl (r_buildSlice [(0, .tmp 37, _)] (.p rfl) rfl ⟨rfl, trivial⟩ rfl slc33 sz63 zv63 rfl rfl (leb rfl) rfl rfl ?_))))))))))))
    obtain ⟨c12, h⟩ := chk_bind h
    refine r_append (.p rfl) rfl (.own _ _ _) ⟨rfl, trivial⟩ rfl (.own _ _ _) ⟨rfl, trivial⟩ rfl slc33 slc33 sz63 byt63 (leb rfl) zv63 rfl (len_lim (f := eApiStep) (g := eApiStep) (xs := v9.1) (ys := (([(ApiStep.mk 2 v9.2 0)] : List ApiStep))) c12) (map_app eApiStep v9.1 (([(ApiStep.mk 2 v9.2 0)] : List ApiStep))) rfl (r_assign (.p rfl) rfl (r_end (W_region mixed rfl (r_bin (.p rfl) rfl rfl (bin_add _ _ _ _ _ _) rfl (r_move (.p rfl) rfl (r_end ?_))))))
    exact sink (v9.1 ++ (([(ApiStep.mk 2 v9.2 0)] : List ApiStep)), (IntKind.wrap .i64 (v9.2 + 1))) h (sees_mkL (rn [(2006, 39)]) _ _ ⟨rfl, rfl, rfl, rfl, trivial⟩ ⟨rfl, rfl, trivial⟩ rfl rfl)
   ·have h := cnd_f c11 h
    refine W_exit ?_
    exact sink v9.1 h (sees_mkL (rn [(2007, 2006)]) _ _ ⟨rfl, rfl, trivial⟩ ⟨rfl, rfl, trivial⟩ rfl rfl)
  ·refine W_sees hs (W_seq (W_seq (W_region mixed rfl (r_fieldAddr (.p rfl) rfl fld30_3 (r_load1 (.p rfl) rfl ag28 rfl rfl (r_len (.p rfl) rfl (.sl _) trivial (List.length_map _) slc28 (r_move (.p rfl) rfl (r_end ?_))))))))
   refine W_whileE (L := Sh.step_all_L13 N p0) h (fun v13 => mk [(3, .e (.one (.own 2008))), (43, .e (.one (.pure (.val (.int .i64 ((p0.fTables.length : Int))))))), (44, .e (.one (.pure (.val (.int .i64 v13.2)))))] [(2008, .vec 3 (v13.1.map eApiStep))]) (fun v14 => mk [(3, .e (.one (.own 2009)))] [(2009, .vec 3 (v14.map eApiStep))]) (fun _ _ => rfl) (sees_mkL (rn [(2008, 2007)]) _ _ ⟨rfl, rfl, rfl, trivial⟩ ⟨rfl, trivial⟩ rfl rfl) (fun j13 n13 v13 h => ?_) (fun v14 s h hs => ?_)
   ·unfold Sh.step_all_L13 at h
    refine W_seq (W_region mixed rfl (r_bin (.p rfl) rfl rfl (bin_lss _ _ _ _ _ _) rfl (r_end (W_seq ?_))))
    refine W_cond rfl (fun c15 => ?_) (fun c15 => ?_)
    ·have h := cnd_t c15 h
     refine W_skip (W_seq (W_block (W_seq (W_region mixed rfl (r_move (.p rfl) rfl (r_assign (.p rfl) rfl (r_end (W_region mixed rfl (r_move (.p rfl) rfl (r_move (.p rfl) rfl (r_build [(0, .const (.int .i64 3), _), (1, .tmp 48, _)] (.p rfl) rfl ⟨rfl, rfl, trivial⟩ zv63 rfl rfl pl63 rfl (r_buildSlice [(0, .tmp 49, _)] (.p rfl) rfl ⟨rfl, trivial⟩ rfl slc33 sz63 zv63 rfl rfl (leb rfl) rfl rfl ?_))))))))))))
     obtain ⟨c16, h⟩ := chk_bind h
     refine r_append (.p rfl) rfl (.own _ _ _) ⟨rfl, trivial⟩ rfl (.own _ _ _) ⟨rfl, trivial⟩ rfl slc33 slc33 sz63 byt63 (leb rfl) zv63 rfl (len_lim (f := eApiStep) (g := eApiStep) (xs := v13.1) (ys := (([(ApiStep.mk 3 v13.2 0)] : List ApiStep))) c16) (map_app eApiStep v13.1 (([(ApiStep.mk 3 v13.2 0)] : List ApiStep))) rfl (r_assign (.p rfl) rfl (r_end (W_region mixed rfl (r_bin (.p rfl) rfl rfl (bin_add _ _ _ _ _ _) rfl (r_move (.p rfl) rfl (r_end ?_))))))
     exact sink (v13.1 ++ (([(ApiStep.mk 3 v13.2 0)] : List ApiStep)), (IntKind.wrap .i64 (v13.2 + 1))) h (sees_mkL (rn [(2008, 51)]) _ _ ⟨rfl, rfl, rfl, trivial⟩ ⟨rfl, trivial⟩ rfl rfl)
    ·have h := cnd_f c15 h
     refine W_exit ?_
     exact sink v13.1 h (sees_mkL (rn [(2009, 2008)]) _ _ ⟨rfl, trivial⟩ ⟨rfl, trivial⟩ rfl rfl)
   ·refine W_sees hs (W_seq (W_region mixed rfl (r_move (.p rfl) rfl (r_assign (.p rfl) rfl (r_end ?_)))))
    obtain rfl := Option.some.inj h
    refine W_sees (sees_mkL (rn [(1000, 2009)]) [(2, .e (.one (.own 1000)))] [(1000, .vec 3 (v14.map eApiStep))] ⟨rfl, trivial⟩ ⟨rfl, trivial⟩ rfl rfl) (W_ret ?_)
    exact ⟨⟨[_], ⟨.tmp _ _ rfl, trivial⟩, rfl⟩, ⟨rfl, trivial⟩⟩
set_option maxRecDepth 10000 in
theorem step_cloned_c (N : Nat) (p0 : ApiMix) (r : ApiMix) (h : Sh.step_cloned N p0 = some r) : Contract Try.prog 93 [.e (.agg [.pure (.sl (p0.fBase.map eI64)), .pure (.sl (p0.fNext.map eI64)), .pure (.sl (p0.fHeld.map eU8))])] [(1, r.fBase.map eI64), (1, r.fNext.map eI64), (1, r.fHeld.map eU8)] (.e (.agg [.own 0, .own 1, .own 2])) := by
 unfold Sh.step_cloned at h
 refine contract_of_W (n := 13) (rs := [.cell 2 43]) Try.func93 rfl rfl rfl (leb rfl) (leb rfl) rfl fun w0 S0 => ?_
 refine W_seq (W_region mixed rfl (r_box (.p rfl) rfl rfl (r_alloc (.p rfl) zv43 rfl rfl rfl (r_end (W_seq (W_region mixed rfl (r_fieldAddr (.p rfl) rfl fld43_0 (r_load1 (.p rfl) rfl ag27 rfl rfl ?_))))))))
 obtain ⟨v1, a1, h⟩ := bind_some h
 refine r_call (ds0 := [_]) [2001] (slices_Clone_int_int_c N p0.fBase v1 a1) (.p rfl) gd72 rfl ⟨rfl, trivial⟩ rfl rfl rfl (nodupL_spec rfl) ⟨rfl, trivial⟩ rfl (r_fieldAddr (.p rfl) rfl fld43_1 (r_load1 (.p rfl) rfl ag27 rfl rfl ?_))
 obtain ⟨v2, a2, h⟩ := bind_some h
 refine r_call (ds0 := [_]) [2002] (slices_Clone_int_int_c N p0.fNext v2 a2) (.p rfl) gd72 rfl ⟨rfl, trivial⟩ rfl rfl rfl (nodupL_spec rfl) ⟨rfl, trivial⟩ rfl (r_fieldAddr (.p rfl) rfl fld43_2 (r_load1 (.p rfl) rfl ag41 rfl rfl ?_))
 obtain ⟨v3, a3, h⟩ := bind_some h
 refine r_call (ds0 := [_]) [2003] (slices_Clone_api_Set_api_Set_c N p0.fHeld v3 a3) (.p rfl) gd98 rfl ⟨rfl, trivial⟩ rfl rfl rfl (nodupL_spec rfl) ⟨rfl, trivial⟩ rfl (r_build [(0, .tmp 5, _), (1, .tmp 8, _), (2, .tmp 11, _)] (.p rfl) rfl ⟨rfl, rfl, rfl, trivial⟩ zv43 rfl rfl pl43 rfl (r_store rfl rfl rfl rfl sz43 rfl (leb rfl) rfl ?_))
 refine r_endD (by kernel_rfl) ?_
 obtain rfl := Option.some.inj h
 refine W_sees (sees_mkL (rn [(1000, 2001), (1001, 2002), (1002, 2003)]) [(2, .e (.one (.ptr 2 0)))] [(2, .box [.own 1000, .own 1001, .own 1002]), (1000, .vec 1 (v1.map eI64)), (1001, .vec 1 (v2.map eI64)), (1002, .vec 1 (v3.map eU8))] ⟨rfl, trivial⟩ ⟨rfl, rfl, rfl, rfl, trivial⟩ rfl rfl) (W_ret ?_)
 exact ⟨⟨[_], ⟨.cellN _ _ _ _ _ _ _ rfl rfl ag43 sz43 rfl rfl (ltb rfl), trivial⟩, rfl⟩, ⟨rfl, rfl, rfl, trivial⟩⟩
set_option maxRecDepth 10000 in
theorem step_stored_c (N : Nat) (p0 : ApiTable) (r : Bool) (h : Sh.step_stored N p0 = some r) : Contract Try.prog 119 [.e (.agg [.pure (.val (.int .i64 p0.fKind)), .pure (.val (.int .i64 p0.fFrom)), .pure (.val (.int .i64 p0.fTo)), .pure (.val (.bool p0.fAware)), .pure (.sl (p0.fOK.map (eSl eB))), .pure (.sl (p0.fRewrite.map (eSl eB)))])] [] (.e (.one (.pure (.val (.bool r))))) := by
 unfold Sh.step_stored at h
 refine contract_of_W (n := 11) (rs := [.tmp 2]) Try.func119 rfl rfl rfl (leb rfl) (leb rfl) rfl fun w0 S0 => ?_
 refine W_seq (W_region mixed rfl (r_box (.p rfl) rfl rfl (r_assign (.p rfl) rfl (r_end ?_))))
 refine W_join h (fun v1 => mk [(2, .e (.one (.pure (.val (.bool v1)))))] []) (fun j1 h => ?_) (fun v1 h => ?_)
 ·refine W_region mixed rfl (r_fieldAddr (.p rfl) rfl fld75_0 (r_load1 (.p rfl) rfl ag3 rfl rfl (r_bin (.p rfl) rfl rfl (bin_eql _ _ _ _ _ _) rfl (r_move (.p rfl) rfl ?_))))
  refine r_split (t := 6) rfl (fun c2 => ?_) (fun c2 => ?_)
  ·have h := cnd_t c2 h
   refine r_notB rfl rfl (r_notB rfl rfl (r_notB rfl rfl (r_pick (.p rfl) rfl rfl rfl (r_assign (.p rfl) rfl (r_end ?_)))))
   exact sink true h (sees_mkL (rn []) _ _ ⟨rfl, trivial⟩ trivial rfl rfl)
  ·have h := cnd_f c2 h
   refine r_fieldAddr (.g rfl rfl) rfl fld75_0 (r_load1 (.g rfl rfl) rfl ag3 rfl rfl (r_bin (.g rfl rfl) rfl rfl (bin_eql _ _ _ _ _ _) rfl (r_pick (.p rfl) rfl rfl rfl (r_assign (.p rfl) rfl (r_end ?_)))))
   exact sink (p0.fKind == 4) h (sees_mkL (rn []) _ _ ⟨rfl, trivial⟩ trivial rfl rfl)
 ·obtain rfl := Option.some.inj h
  refine W_sees (sees_mkL (rn []) [(2, .e (.one (.pure (.val (.bool v1)))))] [] ⟨rfl, trivial⟩ trivial rfl rfl) (W_ret ?_)
  exact ⟨⟨[_], ⟨.tmp _ _ rfl, trivial⟩, rfl⟩, trivial⟩
set_option maxRecDepth 10000 in
theorem step_start_c (N : Nat) (p0 : ApiProblem) (p1 : ApiMix) (p2 : ApiStep) (r : Bool × (List Int) × (List Int)) (h : Sh.step_start N p0 p1 p2 = some r) : ContractM Try.prog 112 [.e (.agg [.pure (.sl (p0.fVersions.map eI64)), .pure (.sl (p0.fNow.map eI64)), .pure (.sl (p0.fTarget.map eI64)), .pure (.sl (p0.fTables.map eApiTable))]), .e (.one (.ptr 90000 0)), .e (.agg [.pure (.val (.int .i64 p2.fKind)), .pure (.val (.int .i64 p2.fIndex)), .pure (.val (.int .i64 p2.fVersion))])] [(.box [.own 90001, .own 90002, .own 90003], .box [.own 90001, .own 90002, .own 90003]), (.vec 1 (p1.fBase.map eI64), .vec 1 (p1.fBase.map eI64)), (.vec 1 (p1.fNext.map eI64), .vec 1 (r.2.1.map eI64)), (.vec 1 (p1.fHeld.map eU8), .vec 1 (r.2.2.map eU8))] [] (.e (.one (.pure (.val (.bool r.1))))) := by
 unfold Sh.step_start at h
 refine contractM_of_W (n := 70) (rs := [.tmp 6]) Try.func112 rfl rfl rfl (leb rfl) (leb rfl) rfl rfl (leb rfl) rfl (leb rfl) fun w0 S0 GL => ?_
 refine W_sees (sees_mkL (rn []) [(0, .e (.agg [.pure (.sl (p0.fVersions.map eI64)), .pure (.sl (p0.fNow.map eI64)), .pure (.sl (p0.fTarget.map eI64)), .pure (.sl (p0.fTables.map eApiTable))])), (1, .e (.one (.ptr 90000 0))), (2, .e (.agg [.pure (.val (.int .i64 p2.fKind)), .pure (.val (.int .i64 p2.fIndex)), .pure (.val (.int .i64 p2.fVersion))]))] [(90000, .box [.own 90001, .own 90002, .own 90003]), (90001, .vec 1 (p1.fBase.map eI64)), (90002, .vec 1 (p1.fNext.map eI64)), (90003, .vec 1 (p1.fHeld.map eU8))] ⟨rfl, rfl, rfl, trivial⟩ ⟨rfl, rfl, rfl, rfl, trivial⟩ rfl rfl) (W_seq (W_region mixed rfl (r_box (.p rfl) rfl rfl (r_box (.p rfl) rfl rfl (r_assign (.p rfl) rfl (r_end (W_seq ?_)))))))
 refine W_join h (fun v1 => mk [(1, .e (.one (.ptr 90000 0))), (3, .e (.one (.ptr 3 0))), (5, .e (.one (.ptr 5 0))), (30, .e (.one (.pure (.val (.bool v1)))))] [(3, .box [.pure (.sl (p0.fVersions.map eI64)), .pure (.sl (p0.fNow.map eI64)), .pure (.sl (p0.fTarget.map eI64)), .pure (.sl (p0.fTables.map eApiTable))]), (5, .box [.pure (.val (.int .i64 p2.fKind)), .pure (.val (.int .i64 p2.fIndex)), .pure (.val (.int .i64 p2.fVersion))]), (90000, .box [.own 90001, .own 90002, .own 90003]), (90001, .vec 1 (p1.fBase.map eI64)), (90002, .vec 1 (p1.fNext.map eI64)), (90003, .vec 1 (p1.fHeld.map eU8))]) (fun j1 h => ?_) (fun v1 h => ?_)
 ·refine W_region mixed rfl (r_move (.p rfl) rfl (r_nilCheck (.p rfl) rfl (r_fieldAddr (.p rfl) rfl fld43_1 (r_load1 (.p rfl) rfl ag27 rfl rfl (r_fieldAddr (.p rfl) rfl fld63_1 (r_load1 (.p rfl) rfl ag3 rfl rfl ?_))))))
  obtain ⟨v2, a2, b2, h⟩ := idx_bind h
  refine r_indexo (.p rfl) rfl rfl rfl slc27 sz3 a2 (map_get b2) (r_loade1 (.p rfl) rfl ag3 rfl (map_get b2) rfl (r_bin (.p rfl) rfl rfl (bin_geq _ _ _ _ _ _) rfl (r_move (.p rfl) rfl ?_)))
  refine r_split (t := 18) rfl (fun c3 => ?_) (fun c3 => ?_)
  ·have h := cnd_t c3 h
   refine r_notB rfl rfl (r_notB rfl rfl (r_notB rfl rfl (r_notB rfl rfl (r_notB rfl rfl (r_notB rfl rfl (r_notB rfl rfl (r_notB rfl rfl (r_notB rfl rfl (r_notB rfl rfl (r_notB rfl rfl (r_pick (.p rfl) rfl rfl rfl ?_)))))))))))
   refine r_endD (by kernel_rfl) ?_
   exact sink true h (sees_mkL (rn []) _ _ ⟨rfl, rfl, rfl, rfl, trivial⟩ ⟨rfl, rfl, rfl, rfl, rfl, rfl, trivial⟩ rfl rfl)
  ·have h := cnd_f c3 h
   refine r_move (.g rfl rfl) rfl (r_nilCheck (.g rfl rfl) rfl (r_fieldAddr (.g rfl rfl) rfl fld43_0 (r_load1 (.g rfl rfl) rfl ag27 rfl rfl (r_fieldAddr (.g rfl rfl) rfl fld63_1 (r_load1 (.g rfl rfl) rfl ag3 rfl rfl ?_)))))
   obtain ⟨v4, a4, b4, h⟩ := idx_bind h
   refine r_indexo (.g rfl rfl) rfl rfl rfl slc27 sz3 a4 (map_get b4) (r_loade1 (.g rfl rfl) rfl ag3 rfl (map_get b4) rfl (r_fieldAddr (.g rfl rfl) rfl fld63_2 (r_load1 (.g rfl rfl) rfl ag3 rfl rfl (r_bin (.g rfl rfl) rfl rfl (bin_eql _ _ _ _ _ _) rfl (r_pick (.p rfl) rfl rfl rfl ?_)))))
   refine r_endD (by kernel_rfl) ?_
   exact sink (v4 == p2.fVersion) h (sees_mkL (rn []) _ _ ⟨rfl, rfl, rfl, rfl, trivial⟩ ⟨rfl, rfl, rfl, rfl, rfl, rfl, trivial⟩ rfl rfl)
 ·refine W_cond rfl (fun c5 => ?_) (fun c5 => ?_)
  ·have h := cnd_t c5 h
   refine W_seq (W_region mixed rfl (r_assign (.p rfl) rfl (r_end ?_)))
   obtain rfl := Option.some.inj h
   refine W_sees (sees_mkL (rn []) [(6, .e (.one (.pure (.val (.bool false)))))] [(90000, .box [.own 90001, .own 90002, .own 90003]), (90001, .vec 1 (p1.fBase.map eI64)), (90002, .vec 1 (p1.fNext.map eI64)), (90003, .vec 1 (p1.fHeld.map eU8))] ⟨rfl, trivial⟩ ⟨rfl, rfl, rfl, rfl, trivial⟩ rfl rfl) (W_ret ?_)
   exact ⟨⟨[_], ⟨.tmp _ _ rfl, trivial⟩, rfl⟩, ⟨rfl, rfl, rfl, rfl, trivial⟩, trivial⟩
  ·have h := cnd_f c5 h
   refine W_skip (W_seq (W_region mixed rfl (r_move (.p rfl) rfl (r_nilCheck (.p rfl) rfl (r_fieldAddr (.p rfl) rfl fld43_1 (r_load1 (.p rfl) rfl ag27 rfl rfl (r_fieldAddr (.p rfl) rfl fld63_1 (r_load1 (.p rfl) rfl ag3 rfl rfl (r_fieldAddr (.p rfl) rfl fld63_2 (r_load1 (.p rfl) rfl ag3 rfl rfl ?_))))))))))
   obtain ⟨v6, a6, b6, h⟩ := idx_bind h
   refine r_indexo (.p rfl) rfl rfl rfl slc27 sz3 a6 (map_get b6) (r_storee rfl rfl rfl rfl (map_get b6) rfl sz3 rfl (leb rfl) (map_setv eI64 p1.fNext _ p2.fVersion) ?_)
   refine r_endD (by kernel_rfl) ?_
   refine W_seq (W_seq (W_region mixed rfl (r_fieldAddr (.p rfl) rfl fld30_3 (r_load1 (.p rfl) rfl ag28 rfl rfl (r_len (.p rfl) rfl (.sl _) trivial (List.length_map _) slc28 (r_move (.p rfl) rfl (r_end ?_)))))))
   refine W_whileE (L := Sh.step_start_L7 N p0 p2) h (fun v7 => mk [(1, .e (.one (.ptr 90000 0))), (5, .e (.one (.ptr 5 0))), (41, .e (.one (.pure (.sl (p0.fTables.map eApiTable))))), (42, .e (.one (.pure (.val (.int .i64 ((p0.fTables.length : Int))))))), (43, .e (.one (.pure (.val (.int .i64 v7.2)))))] [(5, .box [.pure (.val (.int .i64 p2.fKind)), .pure (.val (.int .i64 p2.fIndex)), .pure (.val (.int .i64 p2.fVersion))]), (90000, .box [.own 90001, .own 90002, .own 90003]), (90001, .vec 1 (p1.fBase.map eI64)), (90002, .vec 1 ((p1.fNext.set (p2.fIndex).toNat p2.fVersion).map eI64)), (90003, .vec 1 (v7.1.map eU8))]) (fun v8 => mk [] [(90000, .box [.own 90001, .own 90002, .own 90003]), (90001, .vec 1 (p1.fBase.map eI64)), (90002, .vec 1 ((p1.fNext.set (p2.fIndex).toNat p2.fVersion).map eI64)), (90003, .vec 1 (v8.map eU8))]) (fun _ _ => rfl) (sees_mkL (rn []) _ _ ⟨rfl, rfl, rfl, rfl, rfl, trivial⟩ ⟨rfl, rfl, rfl, rfl, rfl, trivial⟩ rfl rfl) (fun j7 n7 v7 h => ?_) (fun v8 s h hs => ?_)
   ·unfold Sh.step_start_L7 at h
    refine W_seq (W_region mixed rfl (r_bin (.p rfl) rfl rfl (bin_lss _ _ _ _ _ _) rfl (r_end (W_seq ?_))))
    refine W_cond rfl (fun c9 => ?_) (fun c9 => ?_)
    ·have h := cnd_t c9 h
     refine W_skip ?_
     refine W_join h (fun v10 => mk [(1, .e (.one (.ptr 90000 0))), (5, .e (.one (.ptr 5 0))), (41, .e (.one (.pure (.sl (p0.fTables.map eApiTable))))), (42, .e (.one (.pure (.val (.int .i64 ((p0.fTables.length : Int))))))), (43, .e (.one (.pure (.val (.int .i64 v7.2)))))] [(5, .box [.pure (.val (.int .i64 p2.fKind)), .pure (.val (.int .i64 p2.fIndex)), .pure (.val (.int .i64 p2.fVersion))]), (90000, .box [.own 90001, .own 90002, .own 90003]), (90001, .vec 1 (p1.fBase.map eI64)), (90002, .vec 1 ((p1.fNext.set (p2.fIndex).toNat p2.fVersion).map eI64)), (90003, .vec 1 (v10.map eU8))]) (fun j10 h => ?_) (fun v10 h => ?_)
     ·refine W_block (W_seq (W_region mixed rfl (r_move (.p rfl) rfl ?_)))
      obtain ⟨v11, a11, b11, h⟩ := idx_bind h
      refine r_index (.p rfl) rfl rfl slc28 sz75 a11 (map_get b11) rfl (r_loadrN (.p rfl) rfl ag75 sz75 rfl rfl (r_alloc (.p rfl) zv75 rfl rfl rfl (r_assign (.p rfl) rfl (r_store rfl rfl rfl rfl sz75 rfl (leb rfl) rfl (r_end ?_)))))
      refine W_join h (fun v12 => mk [(1, .e (.one (.ptr 90000 0))), (5, .e (.one (.ptr 5 0))), (7, .e (.one (.pure (.val (.int .i64 v7.2))))), (41, .e (.one (.pure (.sl (p0.fTables.map eApiTable))))), (42, .e (.one (.pure (.val (.int .i64 ((p0.fTables.length : Int))))))), (43, .e (.one (.pure (.val (.int .i64 v7.2))))), (56, .e (.one (.pure (.val (.bool v12)))))] [(5, .box [.pure (.val (.int .i64 p2.fKind)), .pure (.val (.int .i64 p2.fIndex)), .pure (.val (.int .i64 p2.fVersion))]), (90000, .box [.own 90001, .own 90002, .own 90003]), (90001, .vec 1 (p1.fBase.map eI64)), (90002, .vec 1 ((p1.fNext.set (p2.fIndex).toNat p2.fVersion).map eI64)), (90003, .vec 1 (v7.1.map eU8))]) (fun j12 h => ?_) (fun v12 h => ?_)
      ·refine W_region mixed rfl (r_fieldAddr (.p rfl) rfl fld75_1 (r_load1 (.p rfl) rfl ag3 rfl rfl (r_fieldAddr (.p rfl) rfl fld63_1 (r_load1 (.p rfl) rfl ag3 rfl rfl (r_bin (.p rfl) rfl rfl (bin_eql _ _ _ _ _ _) rfl (r_move (.p rfl) rfl ?_))))))
       refine r_split (t := 53) rfl (fun c13 => ?_) (fun c13 => ?_)
       ·have h := cnd_t c13 h
        refine r_loadN (.g rfl rfl) rfl ag75 sz75 rfl rfl rfl ?_
        obtain ⟨v14, a14, h⟩ := bind_some h
        refine r_call (ds0 := [_]) [] (step_stored_c N v11 v14 a14) (.g rfl rfl) gd119 rfl ⟨rfl, trivial⟩ rfl rfl rfl (nodupL_spec rfl) trivial rfl (r_pick (.p rfl) rfl rfl rfl (r_end ?_))
        exact sink v14 h (sees_mkL (rn []) _ _ ⟨rfl, rfl, rfl, rfl, rfl, rfl, rfl, trivial⟩ ⟨rfl, rfl, rfl, rfl, rfl, trivial⟩ rfl rfl)
       ·have h := cnd_f c13 h
        refine r_notB rfl rfl (r_notB rfl rfl (r_pick (.p rfl) rfl rfl rfl (r_end ?_)))
        exact sink false h (sees_mkL (rn []) _ _ ⟨rfl, rfl, rfl, rfl, rfl, rfl, rfl, trivial⟩ ⟨rfl, rfl, rfl, rfl, rfl, trivial⟩ rfl rfl)
      ·refine W_cond rfl (fun c15 => ?_) (fun c15 => ?_)
       ·have h := cnd_t c15 h
        refine W_region mixed rfl (r_move (.p rfl) rfl (r_nilCheck (.p rfl) rfl (r_fieldAddr (.p rfl) rfl fld43_2 (r_load1 (.p rfl) rfl ag41 rfl rfl (r_move (.p rfl) rfl ?_)))))
        obtain ⟨v16, a16, b16, h⟩ := idx_bind h
        refine r_indexo (.p rfl) rfl rfl rfl slc41 sz87 a16 (map_get b16) (r_loade1 (.p rfl) rfl ag87 rfl (map_get b16) rfl (r_fieldAddr (.p rfl) rfl fld63_2 (r_load1 (.p rfl) rfl ag3 rfl rfl ?_)))
        obtain ⟨c17, h⟩ := chk_bind h
        refine r_bin (.p rfl) rfl rfl (bin_shl _ _ _ _ _ _ _ c17) rfl (r_bin (.p rfl) rfl rfl (bin_or _ _ _ _ _ _) rfl ?_)
        obtain ⟨v18, a18, b18, h⟩ := idx_bind h
        refine r_indexo (.p rfl) rfl rfl rfl slc41 sz87 a18 (map_get b18) (r_storee rfl rfl rfl rfl (map_get b18) rfl sz87 rfl (leb rfl) (map_setv eU8 v7.1 _ ((orI .u8 v16 ((shlI .u8 1 p2.fVersion))))) ?_)
        refine r_endD (by kernel_rfl) ?_
        exact sink (v7.1.set (v7.2).toNat ((orI .u8 v16 ((shlI .u8 1 p2.fVersion))))) h (sees_mkL (rn []) _ _ ⟨rfl, rfl, rfl, rfl, rfl, trivial⟩ ⟨rfl, rfl, rfl, rfl, rfl, trivial⟩ rfl rfl)
       ·have h := cnd_f c15 h
        refine W_skip ?_
        exact sink v7.1 h (sees_mkL (rn []) _ _ ⟨rfl, rfl, rfl, rfl, rfl, trivial⟩ ⟨rfl, rfl, rfl, rfl, rfl, trivial⟩ rfl rfl)
     ·refine W_region mixed rfl (r_bin (.p rfl) rfl rfl (bin_add _ _ _ _ _ _) rfl (r_move (.p rfl) rfl (r_end ?_)))
      exact sink (v10, (IntKind.wrap .i64 (v7.2 + 1))) h (sees_mkL (rn []) _ _ ⟨rfl, rfl, rfl, rfl, rfl, trivial⟩ ⟨rfl, rfl, rfl, rfl, rfl, trivial⟩ rfl rfl)
    ·have h := cnd_f c9 h
     refine W_exit ?_
     exact sink v7.1 h (sees_mkL (rn []) _ _ trivial ⟨rfl, rfl, rfl, rfl, trivial⟩ rfl rfl)
   ·refine W_sees hs (W_seq (W_region mixed rfl (r_assign (.p rfl) rfl (r_end ?_))))
    obtain rfl := Option.some.inj h
    refine W_sees (sees_mkL (rn []) [(6, .e (.one (.pure (.val (.bool true)))))] [(90000, .box [.own 90001, .own 90002, .own 90003]), (90001, .vec 1 (p1.fBase.map eI64)), (90002, .vec 1 ((p1.fNext.set (p2.fIndex).toNat p2.fVersion).map eI64)), (90003, .vec 1 (v8.map eU8))] ⟨rfl, trivial⟩ ⟨rfl, rfl, rfl, rfl, trivial⟩ rfl rfl) (W_ret ?_)
    exact ⟨⟨[_], ⟨.tmp _ _ rfl, trivial⟩, rfl⟩, ⟨rfl, rfl, rfl, rfl, trivial⟩, trivial⟩
set_option maxRecDepth 10000 in
theorem step_running_c (N : Nat) (p0 : ApiMix) (p1 : Int) (r : Int) (h : Sh.step_running N p0 p1 = some r) : Contract Try.prog 120 [.e (.agg [.pure (.sl (p0.fBase.map eI64)), .pure (.sl (p0.fNext.map eI64)), .pure (.sl (p0.fHeld.map eU8))]), .e (.one (.pure (.val (.int .i64 p1))))] [] (.e (.one (.pure (.val (.int .u8 r))))) := by
 unfold Sh.step_running at h
 refine contract_of_W (n := 27) (rs := [.tmp 4]) Try.func120 rfl rfl rfl (leb rfl) (leb rfl) rfl fun w0 S0 => ?_
 refine W_seq (W_region mixed rfl (r_box (.p rfl) rfl rfl (r_assign (.p rfl) rfl (r_end (W_seq (W_region mixed rfl (r_fieldAddr (.p rfl) rfl fld43_0 (r_load1 (.p rfl) rfl ag27 rfl rfl (r_move (.p rfl) rfl ?_)))))))))
 obtain ⟨v1, a1, b1, h⟩ := idx_bind h
 refine r_index (.p rfl) rfl rfl slc27 sz3 a1 (map_get b1) rfl (r_loadr1 (.p rfl) rfl ag3 rfl ?_)
 obtain ⟨c2, h⟩ := chk_bind h
 refine r_bin (.p rfl) rfl rfl (bin_shl _ _ _ _ _ _ _ c2) rfl (r_assign (.p rfl) rfl (r_end ?_))
 refine W_join h (fun v3 => mk [(5, .e (.one (.pure (.val (.int .u8 v3)))))] []) (fun j3 h => ?_) (fun v3 h => ?_)
 ·refine W_seq (W_region mixed rfl (r_fieldAddr (.p rfl) rfl fld43_1 (r_load1 (.p rfl) rfl ag27 rfl rfl (r_move (.p rfl) rfl ?_))))
  obtain ⟨v4, a4, b4, h⟩ := idx_bind h
  refine r_index (.p rfl) rfl rfl slc27 sz3 a4 (map_get b4) rfl (r_loadr1 (.p rfl) rfl ag3 rfl (r_bin (.p rfl) rfl rfl (bin_geq _ _ _ _ _ _) rfl (r_end ?_)))
  refine W_cond rfl (fun c5 => ?_) (fun c5 => ?_)
  ·have h := cnd_t c5 h
   refine W_region mixed rfl (r_move (.p rfl) rfl (r_fieldAddr (.p rfl) rfl fld43_1 (r_load1 (.p rfl) rfl ag27 rfl rfl (r_move (.p rfl) rfl ?_))))
   obtain ⟨v6, a6, b6, h⟩ := idx_bind h
   refine r_index (.p rfl) rfl rfl slc27 sz3 a6 (map_get b6) rfl (r_loadr1 (.p rfl) rfl ag3 rfl ?_)
   obtain ⟨c7, h⟩ := chk_bind h
   refine r_bin (.p rfl) rfl rfl (bin_shl _ _ _ _ _ _ _ c7) rfl (r_bin (.p rfl) rfl rfl (bin_or _ _ _ _ _ _) rfl (r_assign (.p rfl) rfl (r_end ?_)))
   exact sink (orI .u8 ((shlI .u8 1 v1)) ((shlI .u8 1 v6))) h (sees_mkL (rn []) _ _ ⟨rfl, trivial⟩ trivial rfl rfl)
  ·have h := cnd_f c5 h
   refine W_skip ?_
   exact sink (shlI .u8 1 v1) h (sees_mkL (rn []) _ _ ⟨rfl, trivial⟩ trivial rfl rfl)
 ·refine W_seq (W_region mixed rfl (r_move (.p rfl) rfl (r_assign (.p rfl) rfl (r_end ?_))))
  obtain rfl := Option.some.inj h
  refine W_sees (sees_mkL (rn []) [(4, .e (.one (.pure (.val (.int .u8 v3)))))] [] ⟨rfl, trivial⟩ trivial rfl rfl) (W_ret ?_)
  exact ⟨⟨[_], ⟨.tmp _ _ rfl, trivial⟩, rfl⟩, trivial⟩
set_option maxRecDepth 10000 in
theorem math_bits_TrailingZeros8_c (N : Nat) (p0 : Int) (r : Int) (h : Sh.math_bits_TrailingZeros8 N p0 = some r) : Contract Try.prog 123 [.e (.one (.pure (.val (.int .u8 p0))))] [] (.e (.one (.pure (.val (.int .i64 r))))) := by
 unfold Sh.math_bits_TrailingZeros8 at h
 refine contract_of_W (n := 6) (rs := [.tmp 2]) Try.func123 rfl rfl rfl (leb rfl) (leb rfl) rfl fun w0 S0 => ?_
 refine W_seq (W_region mixed rfl (r_assign (.p rfl) rfl (r_end (W_seq (W_region mixed rfl (r_move (.p rfl) rfl ?_))))))
 obtain ⟨v1, a1, h⟩ := bind_some h
 refine rt_indexS (.p rfl) rfl rfl str9 a1 ?_
 refine r_conv (.p rfl) rfl (conv_int so5 in3 _ _) rfl (r_assign (.p rfl) rfl (r_end ?_))
 obtain rfl := Option.some.inj h
 refine W_sees (sees_mkL (rn []) [(2, .e (.one (.pure (.val (.int .i64 ((IntKind.wrap .i64 v1)))))))] [] ⟨rfl, trivial⟩ trivial rfl rfl) (W_ret ?_)
 exact ⟨⟨[_], ⟨.tmp _ _ rfl, trivial⟩, rfl⟩, trivial⟩
set_option maxRecDepth 10000 in
theorem step_rewritable_c (N : Nat) (p0 : ApiTable) (p1 : Int) (p2 : Int) (r : Bool) (h : Sh.step_rewritable N p0 p1 p2 = some r) : Contract Try.prog 121 [.e (.agg [.pure (.val (.int .i64 p0.fKind)), .pure (.val (.int .i64 p0.fFrom)), .pure (.val (.int .i64 p0.fTo)), .pure (.val (.bool p0.fAware)), .pure (.sl (p0.fOK.map (eSl eB))), .pure (.sl (p0.fRewrite.map (eSl eB)))]), .e (.one (.pure (.val (.int .u8 p1)))), .e (.one (.pure (.val (.int .i64 p2))))] [] (.e (.one (.pure (.val (.bool r))))) := by
 unfold Sh.step_rewritable at h
 refine contract_of_W (n := 25) (rs := [.tmp 6]) Try.func121 rfl rfl rfl (leb rfl) (leb rfl) rfl fun w0 S0 => ?_
 refine W_seq (W_region mixed rfl (r_box (.p rfl) rfl rfl (r_assign (.p rfl) rfl (r_end (W_seq (W_seq (W_region mixed rfl (r_move (.p rfl) rfl (r_assign (.p rfl) rfl (r_end ?_))))))))))
 refine W_whileE (L := Sh.step_rewritable_L1 N p0 p2) h (fun v1 => mk [(2, .e (.one (.pure (.val (.int .i64 p2))))), (3, .e (.one (.ptr 3 0))), (7, .e (.one (.pure (.val (.int .u8 v1)))))] [(3, .box [.pure (.val (.int .i64 p0.fKind)), .pure (.val (.int .i64 p0.fFrom)), .pure (.val (.int .i64 p0.fTo)), .pure (.val (.bool p0.fAware)), .pure (.sl (p0.fOK.map (eSl eB))), .pure (.sl (p0.fRewrite.map (eSl eB)))])]) (fun v2 => mk [] []) (fun _ _ => rfl) (sees_mkL (rn []) _ _ ⟨rfl, rfl, rfl, trivial⟩ ⟨rfl, trivial⟩ rfl rfl) (fun j1 n1 v1 h => ?_) (fun v2 s h hs => ?_)
 ·unfold Sh.step_rewritable_L1 at h
  refine W_seq (W_seq (W_region mixed rfl (r_move (.p rfl) rfl (r_bin (.p rfl) rfl rfl (bin_neq _ _ _ _ _ _) rfl (r_end ?_)))))
  refine W_cond rfl (fun c3 => ?_) (fun c3 => ?_)
  ·have h := cnd_t c3 h
   refine W_skip (W_seq (W_block (W_seq (W_region mixed rfl (r_fieldAddr (.p rfl) rfl fld75_5 (r_load1 (.p rfl) rfl ag73 rfl rfl (r_move (.p rfl) rfl ?_)))))))
   obtain ⟨v4, a4, h⟩ := bind_some h
   refine r_call (ds0 := [_]) [] (math_bits_TrailingZeros8_c N v1 v4 a4) (.p rfl) gd123 rfl ⟨rfl, trivial⟩ rfl rfl rfl (nodupL_spec rfl) trivial rfl ?_
   obtain ⟨v5, a5, b5, h⟩ := idx_bind h
   refine r_index (.p rfl) rfl rfl slc73 sz76 a5 (map_get b5) rfl (r_loadr1 (.p rfl) rfl ag76 rfl (r_move (.p rfl) rfl ?_))
   obtain ⟨v6, a6, b6, h⟩ := idx_bind h
   refine r_index (.p rfl) rfl rfl slc76 sz4 a6 (map_get b6) rfl (r_loadr1 (.p rfl) rfl ag4 rfl (r_un (.p rfl) rfl (un_not _) rfl ?_))
   refine r_endD (by kernel_rfl) ?_
   refine W_cond rfl (fun c7 => ?_) (fun c7 => ?_)
   ·have h := cnd_t c7 h
    refine W_seq (W_region mixed rfl (r_assign (.p rfl) rfl (r_end ?_)))
    obtain rfl := Option.some.inj h
    refine W_sees (sees_mkL (rn []) [(6, .e (.one (.pure (.val (.bool false)))))] [] ⟨rfl, trivial⟩ trivial rfl rfl) (W_ret ?_)
    exact ⟨⟨[_], ⟨.tmp _ _ rfl, trivial⟩, rfl⟩, trivial⟩
   ·have h := cnd_f c7 h
    refine W_skip (W_region mixed rfl (r_move (.p rfl) rfl (r_move (.p rfl) rfl (r_bin (.p rfl) rfl rfl (bin_sub _ _ _ _ _ _) rfl (r_bin (.p rfl) rfl rfl (bin_and _ _ _ _ _ _) rfl (r_assign (.p rfl) rfl (r_end ?_)))))))
    exact sink (andI .u8 v1 ((IntKind.wrap .u8 (v1 - 1)))) h (sees_mkL (rn []) _ _ ⟨rfl, rfl, rfl, trivial⟩ ⟨rfl, trivial⟩ rfl rfl)
  ·have h := cnd_f c3 h
   refine W_exit ?_
   exact sink () h (sees_mkL (rn []) _ _ trivial trivial rfl rfl)
 ·refine W_sees hs (W_seq (W_region mixed rfl (r_assign (.p rfl) rfl (r_end ?_))))
  obtain rfl := Option.some.inj h
  refine W_sees (sees_mkL (rn []) [(6, .e (.one (.pure (.val (.bool true)))))] [] ⟨rfl, trivial⟩ trivial rfl rfl) (W_ret ?_)
  exact ⟨⟨[_], ⟨.tmp _ _ rfl, trivial⟩, rfl⟩, trivial⟩
set_option maxRecDepth 10000 in
theorem step_clear_c (N : Nat) (p0 : ApiProblem) (p1 : ApiMix) (p2 : Int) (r : Bool × (List Int)) (h : Sh.step_clear N p0 p1 p2 = some r) : ContractM Try.prog 113 [.e (.agg [.pure (.sl (p0.fVersions.map eI64)), .pure (.sl (p0.fNow.map eI64)), .pure (.sl (p0.fTarget.map eI64)), .pure (.sl (p0.fTables.map eApiTable))]), .e (.one (.ptr 90000 0)), .e (.one (.pure (.val (.int .i64 p2))))] [(.box [.own 90001, .own 90002, .own 90003], .box [.own 90001, .own 90002, .own 90003]), (.vec 1 (p1.fBase.map eI64), .vec 1 (p1.fBase.map eI64)), (.vec 1 (p1.fNext.map eI64), .vec 1 (p1.fNext.map eI64)), (.vec 1 (p1.fHeld.map eU8), .vec 1 (r.2.map eU8))] [] (.e (.one (.pure (.val (.bool r.1))))) := by
 unfold Sh.step_clear at h
 refine contractM_of_W (n := 68) (rs := [.tmp 6]) Try.func113 rfl rfl rfl (leb rfl) (leb rfl) rfl rfl (leb rfl) rfl (leb rfl) fun w0 S0 GL => ?_
 refine W_sees (sees_mkL (rn []) [(0, .e (.agg [.pure (.sl (p0.fVersions.map eI64)), .pure (.sl (p0.fNow.map eI64)), .pure (.sl (p0.fTarget.map eI64)), .pure (.sl (p0.fTables.map eApiTable))])), (1, .e (.one (.ptr 90000 0))), (2, .e (.one (.pure (.val (.int .i64 p2)))))] [(90000, .box [.own 90001, .own 90002, .own 90003]), (90001, .vec 1 (p1.fBase.map eI64)), (90002, .vec 1 (p1.fNext.map eI64)), (90003, .vec 1 (p1.fHeld.map eU8))] ⟨rfl, rfl, rfl, trivial⟩ ⟨rfl, rfl, rfl, rfl, trivial⟩ rfl rfl) (W_seq (W_region mixed rfl (r_box (.p rfl) rfl rfl (r_assign (.p rfl) rfl (r_end (W_seq (W_region mixed rfl (r_fieldAddr (.p rfl) rfl fld30_3 (r_load1 (.p rfl) rfl ag28 rfl rfl (r_move (.p rfl) rfl ?_))))))))))
 obtain ⟨v1, a1, b1, h⟩ := idx_bind h
 refine r_index (.p rfl) rfl rfl slc28 sz75 a1 (map_get b1) rfl (r_loadrN (.p rfl) rfl ag75 sz75 rfl rfl (r_alloc (.p rfl) zv75 rfl rfl rfl (r_store rfl rfl rfl rfl sz75 rfl (leb rfl) rfl (r_end (W_seq (W_seq (W_region mixed rfl (r_loadN (.p rfl) rfl ag75 sz75 rfl rfl rfl ?_))))))))
 obtain ⟨v2, a2, h⟩ := bind_some h
 refine r_call (ds0 := [_]) [] (step_stored_c N v1 v2 a2) (.p rfl) gd119 rfl ⟨rfl, trivial⟩ rfl rfl rfl (nodupL_spec rfl) trivial rfl (r_un (.p rfl) rfl (un_not _) rfl (r_end ?_))
 refine W_cond rfl (fun c3 => ?_) (fun c3 => ?_)
 ·have h := cnd_t c3 h
  refine W_seq (W_region mixed rfl (r_assign (.p rfl) rfl (r_end ?_)))
  obtain rfl := Option.some.inj h
  refine W_sees (sees_mkL (rn []) [(6, .e (.one (.pure (.val (.bool false)))))] [(90000, .box [.own 90001, .own 90002, .own 90003]), (90001, .vec 1 (p1.fBase.map eI64)), (90002, .vec 1 (p1.fNext.map eI64)), (90003, .vec 1 (p1.fHeld.map eU8))] ⟨rfl, trivial⟩ ⟨rfl, rfl, rfl, rfl, trivial⟩ rfl rfl) (W_ret ?_)
  exact ⟨⟨[_], ⟨.tmp _ _ rfl, trivial⟩, rfl⟩, ⟨rfl, rfl, rfl, rfl, trivial⟩, trivial⟩
 ·have h := cnd_f c3 h
  refine W_skip (W_seq (W_region mixed rfl (r_move (.p rfl) rfl (r_nilCheck (.p rfl) rfl (r_loadN (.p rfl) rfl ag43 sz43 rfl rfl rfl (r_fieldAddr (.p rfl) rfl fld75_1 (r_load1 (.p rfl) rfl ag3 rfl rfl ?_)))))))
  obtain ⟨v4, a4, h⟩ := bind_some h
  refine r_callL (ds0 := [_, _]) [] [(90001, _), (90002, _), (90003, _)] (step_running_c N p1 v1.fFrom v4 a4) (.p rfl) gd120 rfl ⟨rfl, rfl, trivial⟩ ⟨rfl, rfl, rfl, trivial⟩ rfl rfl rfl (nodupL_spec rfl) trivial rfl flatV_nil rfl (r_assign (.p rfl) rfl ?_)
  refine r_endD (by kernel_rfl) ?_
  refine W_seq (W_region mixed rfl (r_move (.p rfl) rfl (r_nilCheck (.p rfl) rfl (r_fieldAddr (.p rfl) rfl fld43_2 (r_load1 (.p rfl) rfl ag41 rfl rfl (r_move (.p rfl) rfl ?_))))))
  obtain ⟨v5, a5, b5, h⟩ := idx_bind h
  refine r_indexo (.p rfl) rfl rfl rfl slc41 sz87 a5 (map_get b5) (r_loade1 (.p rfl) rfl ag87 rfl (map_get b5) rfl (r_move (.p rfl) rfl (r_bin (.p rfl) rfl rfl (bin_andNot _ _ _ _ _ _) rfl (r_assign (.p rfl) rfl (r_end (W_seq ?_))))))
  refine W_join h (fun v6 => mk [(1, .e (.one (.ptr 90000 0))), (2, .e (.one (.pure (.val (.int .i64 p2))))), (8, .e (.one (.pure (.val (.int .u8 v4))))), (60, .e (.one (.pure (.val (.bool v6)))))] [(90000, .box [.own 90001, .own 90002, .own 90003]), (90001, .vec 1 (p1.fBase.map eI64)), (90002, .vec 1 (p1.fNext.map eI64)), (90003, .vec 1 (p1.fHeld.map eU8))]) (fun j6 h => ?_) (fun v6 h => ?_)
  ·refine W_region mixed rfl (r_move (.p rfl) rfl (r_nilCheck (.p rfl) rfl (r_fieldAddr (.p rfl) rfl fld43_2 (r_load1 (.p rfl) rfl ag41 rfl rfl (r_move (.p rfl) rfl ?_)))))
   obtain ⟨v7, a7, b7, h⟩ := idx_bind h
   refine r_indexo (.p rfl) rfl rfl rfl slc41 sz87 a7 (map_get b7) (r_loade1 (.p rfl) rfl ag87 rfl (map_get b7) rfl (r_move (.p rfl) rfl (r_bin (.p rfl) rfl rfl (bin_eql _ _ _ _ _ _) rfl (r_move (.p rfl) rfl ?_))))
   refine r_split (t := 42) rfl (fun c8 => ?_) (fun c8 => ?_)
   ·have h := cnd_t c8 h
    refine r_notB rfl rfl (r_notB rfl rfl (r_notB rfl rfl (r_notB rfl rfl (r_notU rfl rfl (r_notU rfl rfl (r_notU rfl rfl (r_notU rfl rfl (r_notU rfl rfl (r_notU rfl rfl (r_notU rfl rfl (r_notU rfl rfl (r_notU rfl rfl (r_notU rfl rfl (r_notU rfl rfl (r_notU rfl rfl (r_notB rfl rfl (r_pick (.p rfl) rfl rfl rfl ?_)))))))))))))))))
    refine r_endD (by kernel_rfl) ?_
    exact sink true h (sees_mkL (rn []) _ _ ⟨rfl, rfl, rfl, rfl, trivial⟩ ⟨rfl, rfl, rfl, rfl, trivial⟩ rfl rfl)
   ·have h := cnd_f c8 h
    refine r_fieldAddr (.g rfl rfl) rfl fld75_0 (r_load1 (.g rfl rfl) rfl ag3 rfl rfl (r_bin (.g rfl rfl) rfl rfl (bin_eql _ _ _ _ _ _) rfl (r_move (.g rfl rfl) rfl ?_)))
    refine r_split (t := 46) rfl (fun c9 => ?_) (fun c9 => ?_)
    ·have h := cnd_t c9 h
     refine r_loadN (.g rfl rfl) rfl ag75 sz75 rfl rfl rfl (r_move (.g rfl rfl) rfl (r_move (.g rfl rfl) rfl (r_nilCheck (.g rfl rfl) rfl (r_fieldAddr (.g rfl rfl) rfl fld43_0 (r_load1 (.g rfl rfl) rfl ag27 rfl rfl (r_fieldAddr (.g rfl rfl) rfl fld75_1 (r_load1 (.g rfl rfl) rfl ag3 rfl rfl ?_)))))))
     obtain ⟨v10, a10, b10, h⟩ := idx_bind h
     refine r_indexo (.g rfl rfl) rfl rfl rfl slc27 sz3 a10 (map_get b10) (r_loade1 (.g rfl rfl) rfl ag3 rfl (map_get b10) rfl ?_)
     obtain ⟨v11, a11, h⟩ := bind_some h
     refine r_call (ds0 := [_, _, _]) [] (step_rewritable_c N v1 ((andNotI .u8 v5 v4)) v10 v11 a11) (.g rfl rfl) gd121 rfl ⟨rfl, rfl, rfl, trivial⟩ rfl rfl rfl (nodupL_spec rfl) trivial rfl (r_un (.g rfl rfl) rfl (un_not _) rfl (r_pick (.g rfl rfl) rfl rfl rfl (r_pick (.p rfl) rfl rfl rfl ?_)))
     refine r_endD (by kernel_rfl) ?_
     exact sink (!v11) h (sees_mkL (rn []) _ _ ⟨rfl, rfl, rfl, rfl, trivial⟩ ⟨rfl, rfl, rfl, rfl, trivial⟩ rfl rfl)
    ·have h := cnd_f c9 h
     refine r_notB rfl rfl (r_notB rfl rfl (r_notB rfl rfl (r_notB rfl rfl (r_notB rfl rfl (r_notB rfl rfl (r_notB rfl rfl (r_notB rfl rfl (r_notB rfl rfl (r_notB rfl rfl (r_notB rfl rfl (r_notB rfl rfl (r_pick (.g rfl rfl) rfl rfl rfl (r_pick (.p rfl) rfl rfl rfl ?_)))))))))))))
     refine r_endD (by kernel_rfl) ?_
     exact sink false h (sees_mkL (rn []) _ _ ⟨rfl, rfl, rfl, rfl, trivial⟩ ⟨rfl, rfl, rfl, rfl, trivial⟩ rfl rfl)
  ·refine W_cond rfl (fun c12 => ?_) (fun c12 => ?_)
   ·have h := cnd_t c12 h
    refine W_seq (W_region mixed rfl (r_assign (.p rfl) rfl (r_end ?_)))
    obtain rfl := Option.some.inj h
    refine W_sees (sees_mkL (rn []) [(6, .e (.one (.pure (.val (.bool false)))))] [(90000, .box [.own 90001, .own 90002, .own 90003]), (90001, .vec 1 (p1.fBase.map eI64)), (90002, .vec 1 (p1.fNext.map eI64)), (90003, .vec 1 (p1.fHeld.map eU8))] ⟨rfl, trivial⟩ ⟨rfl, rfl, rfl, rfl, trivial⟩ rfl rfl) (W_ret ?_)
    exact ⟨⟨[_], ⟨.tmp _ _ rfl, trivial⟩, rfl⟩, ⟨rfl, rfl, rfl, rfl, trivial⟩, trivial⟩
   ·have h := cnd_f c12 h
    refine W_skip (W_seq (W_region mixed rfl (r_move (.p rfl) rfl (r_nilCheck (.p rfl) rfl (r_fieldAddr (.p rfl) rfl fld43_2 (r_load1 (.p rfl) rfl ag41 rfl rfl (r_move (.p rfl) rfl (r_move (.p rfl) rfl ?_))))))))
    obtain ⟨v13, a13, b13, h⟩ := idx_bind h
    refine r_indexo (.p rfl) rfl rfl rfl slc41 sz87 a13 (map_get b13) (r_storee rfl rfl rfl rfl (map_get b13) rfl sz87 rfl (leb rfl) (map_setv eU8 p1.fHeld _ v4) (r_end (W_seq (W_region mixed rfl (r_assign (.p rfl) rfl (r_end ?_))))))
    obtain rfl := Option.some.inj h
    refine W_sees (sees_mkL (rn []) [(6, .e (.one (.pure (.val (.bool true)))))] [(90000, .box [.own 90001, .own 90002, .own 90003]), (90001, .vec 1 (p1.fBase.map eI64)), (90002, .vec 1 (p1.fNext.map eI64)), (90003, .vec 1 ((p1.fHeld.set (p2).toNat v4).map eU8))] ⟨rfl, trivial⟩ ⟨rfl, rfl, rfl, rfl, trivial⟩ rfl rfl) (W_ret ?_)
    exact ⟨⟨[_], ⟨.tmp _ _ rfl, trivial⟩, rfl⟩, ⟨rfl, rfl, rfl, rfl, trivial⟩, trivial⟩
end Go.Lift

