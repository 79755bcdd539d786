/- Lemmas for MixValidSaid, which YtmmkocokfdheiaaFin7 proves. -/
/- That the code does what the shallow programs do, function by function. Written by a program (gen.py). -/
import Derived.Test.YtmmkocokfdheiaaCode1
namespace Go.Lift
open Go.RowKit
open Go.Proofs
set_option maxRecDepth 10000 in
theorem sheavelaw36_awake_c (N : Nat) (r : Bool) (h : Sh.sheavelaw36_awake N = some r) : Contract Try.prog 12 [] [] (.e (.one (.pure (.val (.bool r))))) := by
  unfold Sh.sheavelaw36_awake at h
  refine contract_of_W (n := 101) (rs := [.tmp 0]) Try.func12 rfl rfl rfl (leb rfl) rfl fun w0 S0 => ?_
  refine W_seq ?_
  refine W_region mixed rfl ?_
  refine r_assign (.p rfl) rfl ?_
  refine r_end ?_
  refine W_seq ?_
  refine W_region mixed rfl ?_
  refine r_buildSlice [(0, .const (.int .i64 0), _), (1, .const (.int .i64 0), _)] (.p rfl) rfl ⟨rfl, rfl, trivial⟩ rfl slc28 sz3 zv3 rfl rfl (leb rfl) rfl rfl ?_
  refine r_buildSlice [(0, .const (.int .i64 1), _), (1, .const (.int .i64 1), _)] (.p rfl) rfl ⟨rfl, rfl, trivial⟩ rfl slc28 sz3 zv3 rfl rfl (leb rfl) rfl rfl ?_
  refine r_buildSlice [(0, .const (.int .u8 0), _)] (.p rfl) rfl ⟨rfl, trivial⟩ rfl slc35 sz80 zv80 rfl rfl (leb rfl) rfl rfl ?_
  refine r_build [(0, .tmp 15, _), (1, .tmp 16, _), (2, .tmp 17, _)] (.p rfl) rfl ⟨rfl, rfl, rfl, trivial⟩ zv37 rfl rfl pl37 rfl ?_
  refine r_alloc (.p rfl) zv37 rfl rfl rfl ?_
  refine r_store rfl rfl rfl rfl sz37 rfl (leb rfl) rfl ?_
  refine r_end ?_
  refine W_seq ?_
  refine W_region mixed rfl ?_
  refine r_buildSlice [(0, .const (.int .i64 0), _), (1, .const (.int .i64 0), _)] (.p rfl) rfl ⟨rfl, rfl, trivial⟩ rfl slc28 sz3 zv3 rfl rfl (leb rfl) rfl rfl ?_
  refine r_buildSlice [(0, .const (.int .i64 1), _), (1, .const (.int .i64 (-1)), _)] (.p rfl) rfl ⟨rfl, rfl, trivial⟩ rfl slc28 sz3 zv3 rfl rfl (leb rfl) rfl rfl ?_
  refine r_buildSlice [(0, .const (.int .u8 0), _)] (.p rfl) rfl ⟨rfl, trivial⟩ rfl slc35 sz80 zv80 rfl rfl (leb rfl) rfl rfl ?_
  refine r_build [(0, .tmp 19, _), (1, .tmp 20, _), (2, .tmp 21, _)] (.p rfl) rfl ⟨rfl, rfl, rfl, trivial⟩ zv37 rfl rfl pl37 rfl ?_
  refine r_alloc (.p rfl) zv37 rfl rfl rfl ?_
  refine r_store rfl rfl rfl rfl sz37 rfl (leb rfl) rfl ?_
  refine r_end ?_
  refine W_seq ?_
  refine W_region mixed rfl ?_
  obtain ⟨v1, a1, h⟩ := bind_some h
  refine r_call (ds0 := [_]) [2001, 2002, 2003, 2004] (sheavelaw36_example_c N false v1 a1) (.p rfl) gd40 rfl ⟨rfl, trivial⟩ rfl rfl rfl (nodupB_spec rfl) ⟨rfl, rfl, rfl, rfl, trivial⟩ rfl ?_
  refine r_loadN (.p rfl) rfl ag37 sz37 rfl rfl rfl ?_
  obtain ⟨v2, a2, h⟩ := bind_some h
  refine r_callL (ds0 := [_, _]) [2005] [(2001, _), (2002, _), (2003, _), (2004, _), (19, _), (20, _), (21, _)] (mix_Conflicts_c N v1 ((ApiMix.mk (([0, 0] : List Int)) (([1, (-1)] : List Int)) (([0] : List Int)))) v2 a2) (.p rfl) gd14 rfl ⟨rfl, rfl, trivial⟩ ⟨rfl, rfl, rfl, rfl, rfl, rfl, rfl, trivial⟩ rfl rfl rfl (nodupB_spec rfl) ⟨rfl, trivial⟩ rfl (flatV_cons (fun _ => rfl) flatV_nil) rfl ?_
  refine r_move (.p rfl) rfl ?_
  refine r_extract (.p rfl) rfl rfl ?_
  refine r_extract (.p rfl) rfl rfl ?_
  refine r_assign (.p rfl) rfl ?_
  refine r_assign (.p rfl) rfl ?_
  refine r_endD (by kernel_rfl) ?_
  refine W_seq ?_
  refine W_region mixed rfl ?_
  obtain ⟨v3, a3, h⟩ := bind_some h
  refine r_call (ds0 := [_]) [2006, 2007, 2008, 2009] (sheavelaw36_example_c N false v3 a3) (.p rfl) gd40 rfl ⟨rfl, trivial⟩ rfl rfl rfl (nodupB_spec rfl) ⟨rfl, rfl, rfl, rfl, trivial⟩ rfl ?_
  refine r_loadN (.p rfl) rfl ag37 sz37 rfl rfl rfl ?_
  obtain ⟨v4, a4, h⟩ := bind_some h
  refine r_callL (ds0 := [_, _]) [2010] [(2006, _), (2007, _), (2008, _), (2009, _), (15, _), (16, _), (17, _)] (mix_Conflicts_c N v3 ((ApiMix.mk (([0, 0] : List Int)) (([1, 1] : List Int)) (([0] : List Int)))) v4 a4) (.p rfl) gd14 rfl ⟨rfl, rfl, trivial⟩ ⟨rfl, rfl, rfl, rfl, rfl, rfl, rfl, trivial⟩ rfl rfl rfl (nodupB_spec rfl) ⟨rfl, trivial⟩ rfl (flatV_cons (fun _ => rfl) flatV_nil) rfl ?_
  refine r_move (.p rfl) rfl ?_
  refine r_extract (.p rfl) rfl rfl ?_
  refine r_extract (.p rfl) rfl rfl ?_
  refine r_assign (.p rfl) rfl ?_
  refine r_assign (.p rfl) rfl ?_
  refine r_endD (by kernel_rfl) ?_
  refine W_seq ?_
  refine W_region mixed rfl ?_
  obtain ⟨v5, a5, h⟩ := bind_some h
  refine r_call (ds0 := [_]) [2011, 2012, 2013, 2014] (sheavelaw36_example_c N true v5 a5) (.p rfl) gd40 rfl ⟨rfl, trivial⟩ rfl rfl rfl (nodupB_spec rfl) ⟨rfl, rfl, rfl, rfl, trivial⟩ rfl ?_
  refine r_loadN (.p rfl) rfl ag37 sz37 rfl rfl rfl ?_
  obtain ⟨v6, a6, h⟩ := bind_some h
  refine r_callL (ds0 := [_, _]) [] [(2011, _), (2012, _), (2013, _), (2014, _), (15, _), (16, _), (17, _)] (mix_Safe_c N v5 ((ApiMix.mk (([0, 0] : List Int)) (([1, 1] : List Int)) (([0] : List Int)))) v6 a6) (.p rfl) gd15 rfl ⟨rfl, rfl, trivial⟩ ⟨rfl, rfl, rfl, rfl, rfl, rfl, rfl, trivial⟩ rfl rfl rfl (nodupB_spec rfl) trivial rfl flatV_nil rfl ?_
  refine r_move (.p rfl) rfl ?_
  refine r_extract (.p rfl) rfl rfl ?_
  refine r_extract (.p rfl) rfl rfl ?_
  refine r_assign (.p rfl) rfl ?_
  refine r_assign (.p rfl) rfl ?_
  refine r_endD (by kernel_rfl) ?_
  refine W_seq ?_
  refine W_region mixed rfl ?_
  obtain ⟨v7, a7, h⟩ := bind_some h
  refine r_call (ds0 := [_]) [2015, 2016, 2017, 2018] (sheavelaw36_example_c N true v7 a7) (.p rfl) gd40 rfl ⟨rfl, trivial⟩ rfl rfl rfl (nodupB_spec rfl) ⟨rfl, rfl, rfl, rfl, trivial⟩ rfl ?_
  refine r_loadN (.p rfl) rfl ag37 sz37 rfl rfl rfl ?_
  obtain ⟨v8, a8, h⟩ := bind_some h
  refine r_callL (ds0 := [_, _]) [] [(2015, _), (2016, _), (2017, _), (2018, _), (15, _), (16, _), (17, _)] (mix_Robust_c N v7 ((ApiMix.mk (([0, 0] : List Int)) (([1, 1] : List Int)) (([0] : List Int)))) v8 a8) (.p rfl) gd19 rfl ⟨rfl, rfl, trivial⟩ ⟨rfl, rfl, rfl, rfl, rfl, rfl, rfl, trivial⟩ rfl rfl rfl (nodupB_spec rfl) trivial rfl flatV_nil rfl ?_
  refine r_move (.p rfl) rfl ?_
  refine r_extract (.p rfl) rfl rfl ?_
  refine r_extract (.p rfl) rfl rfl ?_
  refine r_assign (.p rfl) rfl ?_
  refine r_assign (.p rfl) rfl ?_
  refine r_endD (by kernel_rfl) ?_
  refine W_seq ?_
  refine W_sees (sees_frz 15 _ _ rfl) ?_
  refine W_sees (sees_frz 16 _ _ rfl) ?_
  refine W_sees (sees_frz 17 _ _ rfl) ?_
  refine W_region mixed rfl ?_
  obtain ⟨v9, a9, h⟩ := bind_some h
  refine r_call (ds0 := [_]) [] ((sheavelaw36_example_c N true v9 a9).share rfl) (.p rfl) gd40 rfl ⟨rfl, trivial⟩ rfl rfl rfl (nodupB_spec rfl) trivial rfl ?_
  refine r_loadN (.p rfl) rfl ag37 sz37 rfl rfl rfl ?_
  obtain ⟨v10, a10, h⟩ := bind_some h
  refine r_call (ds0 := [_, _]) [] (mix_Blame_c N v9 ((ApiMix.mk (([0, 0] : List Int)) (([1, 1] : List Int)) (([0] : List Int)))) v10 a10) (.p rfl) gd20 rfl ⟨rfl, rfl, trivial⟩ rfl rfl rfl (nodupB_spec rfl) trivial rfl ?_
  refine r_move (.p rfl) rfl ?_
  refine r_extract (.p rfl) rfl rfl ?_
  refine r_extract (.p rfl) rfl rfl ?_
  refine r_extract (.p rfl) rfl rfl ?_
  refine r_alloc (.p rfl) zv37 rfl rfl rfl ?_
  refine r_alloc (.p rfl) zv52 rfl rfl rfl ?_
  refine r_store rfl rfl rfl rfl sz37 rfl (leb rfl) rfl ?_
  refine r_store rfl rfl rfl rfl sz52 rfl (leb rfl) rfl ?_
  refine r_assign (.p rfl) rfl ?_
  refine r_endD (by kernel_rfl) ?_
  refine W_seq ?_
  refine W_region mixed rfl ?_
  refine r_build [(0, .const (.int .i64 0), _), (1, .const (.int .i64 1), _), (2, .const (.int .i64 0), _)] (.p rfl) rfl ⟨rfl, rfl, rfl, trivial⟩ zv52 rfl rfl pl52 rfl ?_
  refine r_buildSlice [(0, .tmp 54, _)] (.p rfl) rfl ⟨rfl, trivial⟩ rfl slc39 sz52 zv52 rfl rfl (leb rfl) rfl rfl ?_
  refine r_assign (.p rfl) rfl ?_
  refine r_end ?_
  refine W_join h (fun v11 => mk [(0, .e (.one (.pure (.val (.bool v11)))))] []) (fun j11 h => ?_) (fun v11 h => ?_)
  · refine W_region mixed rfl ?_
    refine r_move (.p rfl) rfl ?_
    refine r_bin (.p rfl) rfl rfl (bin_eql _ _ _ _ _ _) rfl ?_
    refine r_move (.p rfl) rfl ?_
    refine r_split (t := 58) rfl (fun c12 => ?_) (fun c12 => ?_)
    · have h := cnd_t c12 h
      refine r_move (.g rfl rfl) rfl ?_
      refine r_bin (.g rfl rfl) rfl rfl (bin_eql _ _ _ _ _ _) rfl ?_
      refine r_pick (.p rfl) rfl rfl rfl ?_
      refine r_move (.p rfl) rfl ?_
      refine r_split (t := 62) rfl (fun c13 => ?_) (fun c13 => ?_)
      · have h := cnd_t c13 h
        refine r_move (.g rfl rfl) rfl ?_
        refine r_bin (.g rfl rfl) rfl rfl (bin_eql _ _ _ _ _ _) rfl ?_
        refine r_pick (.p rfl) rfl rfl rfl ?_
        refine r_move (.p rfl) rfl ?_
        refine r_split (t := 66) rfl (fun c14 => ?_) (fun c14 => ?_)
        · have h := cnd_t c14 h
          refine r_move (.g rfl rfl) rfl ?_
          refine r_bin (.g rfl rfl) rfl rfl (bin_eql _ _ _ _ _ _) rfl ?_
          refine r_pick (.p rfl) rfl rfl rfl ?_
          refine r_move (.p rfl) rfl ?_
          refine r_split (t := 70) rfl (fun c15 => ?_) (fun c15 => ?_)
          · have h := cnd_t c15 h
            refine r_move (.g rfl rfl) rfl ?_
            refine r_bin (.g rfl rfl) rfl rfl (bin_eql _ _ _ _ _ _) rfl ?_
            refine r_pick (.p rfl) rfl rfl rfl ?_
            refine r_move (.p rfl) rfl ?_
            refine r_split (t := 74) rfl (fun c16 => ?_) (fun c16 => ?_)
            · have h := cnd_t c16 h
              refine r_move (.g rfl rfl) rfl ?_
              refine r_move (.g rfl rfl) rfl ?_
              obtain ⟨v17, a17, h⟩ := bind_some h
              refine r_callL (ds0 := [_, _]) [] [(2005, _), (55, _)] (sheaveref36_Conflicted_c N v2.1 (([(ApiConflict.mk 0 1 0)] : List ApiConflict)) v17 a17) (.g rfl rfl) gd17 rfl ⟨rfl, rfl, trivial⟩ ⟨rfl, rfl, trivial⟩ rfl rfl rfl (nodupB_spec rfl) trivial rfl flatV_nil rfl ?_
              refine r_pick (.p rfl) rfl rfl rfl ?_
              refine r_move (.p rfl) rfl ?_
              refine r_split (t := 79) rfl (fun c18 => ?_) (fun c18 => ?_)
              · have h := cnd_t c18 h
                refine r_move (.g rfl rfl) rfl ?_
                refine r_move (.g rfl rfl) rfl ?_
                obtain ⟨v19, a19, h⟩ := bind_some h
                refine r_callL (ds0 := [_, _]) [] [(2010, _), (55, _)] (sheaveref36_Conflicted_c N v4.1 (([(ApiConflict.mk 0 1 0)] : List ApiConflict)) v19 a19) (.g rfl rfl) gd17 rfl ⟨rfl, rfl, trivial⟩ ⟨rfl, rfl, trivial⟩ rfl rfl rfl (nodupB_spec rfl) trivial rfl flatV_nil rfl ?_
                refine r_pick (.p rfl) rfl rfl rfl ?_
                refine r_move (.p rfl) rfl ?_
                refine r_split (t := 84) rfl (fun c20 => ?_) (fun c20 => ?_)
                · have h := cnd_t c20 h
                  refine r_move (.g rfl rfl) rfl ?_
                  refine r_pick (.p rfl) rfl rfl rfl ?_
                  refine r_move (.p rfl) rfl ?_
                  refine r_split (t := 87) rfl (fun c21 => ?_) (fun c21 => ?_)
                  · have h := cnd_t c21 h
                    refine r_move (.g rfl rfl) rfl ?_
                    refine r_un (.g rfl rfl) rfl (un_not _) rfl ?_
                    refine r_pick (.p rfl) rfl rfl rfl ?_
                    refine r_move (.p rfl) rfl ?_
                    refine r_split (t := 91) rfl (fun c22 => ?_) (fun c22 => ?_)
                    · have h := cnd_t c22 h
                      refine r_loadN (.g rfl rfl) rfl ag37 sz37 rfl rfl rfl ?_
                      refine r_loadN (.g rfl rfl) rfl ag37 sz37 rfl rfl rfl ?_
                      obtain ⟨v23, a23, h⟩ := bind_some h
                      refine r_callL (ds0 := [_, _]) [] [(19, _), (20, _), (21, _)] (sheaveref36_Equal_c N v10.1 ((ApiMix.mk (([0, 0] : List Int)) (([1, (-1)] : List Int)) (([0] : List Int)))) v23 a23) (.g rfl rfl) gd25 rfl ⟨rfl, rfl, trivial⟩ ⟨rfl, rfl, rfl, trivial⟩ rfl rfl rfl (nodupB_spec rfl) trivial rfl flatV_nil rfl ?_
                      refine r_pick (.p rfl) rfl rfl rfl ?_
                      refine r_move (.p rfl) rfl ?_
                      refine r_split (t := 96) rfl (fun c24 => ?_) (fun c24 => ?_)
                      · have h := cnd_t c24 h
                        refine r_loadN (.g rfl rfl) rfl ag52 sz52 rfl rfl rfl ?_
                        refine r_build [(0, .const (.int .i64 0), _), (1, .const (.int .i64 1), _), (2, .const (.int .i64 (-1)), _)] (.g rfl rfl) rfl ⟨rfl, rfl, rfl, trivial⟩ zv52 rfl rfl pl52 rfl ?_
                        refine r_eqA [.int .i64 v10.2.1.fTable, .int .i64 v10.2.1.fWriter, .int .i64 v10.2.1.fReader] [.int .i64 0, .int .i64 1, .int .i64 ((-1))] (.g rfl rfl) rfl rfl seq52 rfl ?_
                        refine r_pick (.p rfl) rfl rfl rfl ?_
                        refine r_assign (.p rfl) rfl ?_
                        refine r_end ?_
                        exact sink ((v10.2.1.fTable == 0) && ((v10.2.1.fWriter == 1) && ((v10.2.1.fReader == (-1)) && true))) h (sees_mk (rn []) _ _ ⟨rfl, trivial⟩ trivial rfl rfl)
                      · have h := cnd_f c24 h
                        refine r_notB rfl rfl ?_
                        refine r_notB rfl rfl ?_
                        refine r_notB rfl rfl ?_
                        refine r_pick (.p rfl) rfl rfl rfl ?_
                        refine r_assign (.p rfl) rfl ?_
                        refine r_end ?_
                        exact sink false h (sees_mk (rn []) _ _ ⟨rfl, trivial⟩ trivial rfl rfl)
                    · have h := cnd_f c22 h
                      refine r_notB rfl rfl ?_
                      refine r_notB rfl rfl ?_
                      refine r_notB rfl rfl ?_
                      refine r_pick (.p rfl) rfl rfl rfl ?_
                      refine r_move (.p rfl) rfl ?_
                      refine r_notB rfl rfl ?_
                      refine r_notB rfl rfl ?_
                      refine r_notB rfl rfl ?_
                      refine r_pick (.p rfl) rfl rfl rfl ?_
                      refine r_assign (.p rfl) rfl ?_
                      refine r_end ?_
                      exact sink false h (sees_mk (rn []) _ _ ⟨rfl, trivial⟩ trivial rfl rfl)
                  · have h := cnd_f c21 h
                    refine r_notB rfl rfl ?_
                    refine r_notB rfl rfl ?_
                    refine r_pick (.p rfl) rfl rfl rfl ?_
                    refine r_move (.p rfl) rfl ?_
                    refine r_notB rfl rfl ?_
                    refine r_notB rfl rfl ?_
                    refine r_notB rfl rfl ?_
                    refine r_pick (.p rfl) rfl rfl rfl ?_
                    refine r_move (.p rfl) rfl ?_
                    refine r_notB rfl rfl ?_
                    refine r_notB rfl rfl ?_
                    refine r_notB rfl rfl ?_
                    refine r_pick (.p rfl) rfl rfl rfl ?_
                    refine r_assign (.p rfl) rfl ?_
                    refine r_end ?_
                    exact sink false h (sees_mk (rn []) _ _ ⟨rfl, trivial⟩ trivial rfl rfl)
                · have h := cnd_f c20 h
                  refine r_notB rfl rfl ?_
                  refine r_pick (.p rfl) rfl rfl rfl ?_
                  refine r_move (.p rfl) rfl ?_
                  refine r_notB rfl rfl ?_
                  refine r_notB rfl rfl ?_
                  refine r_pick (.p rfl) rfl rfl rfl ?_
                  refine r_move (.p rfl) rfl ?_
                  refine r_notB rfl rfl ?_
                  refine r_notB rfl rfl ?_
                  refine r_notB rfl rfl ?_
                  refine r_pick (.p rfl) rfl rfl rfl ?_
                  refine r_move (.p rfl) rfl ?_
                  refine r_notB rfl rfl ?_
                  refine r_notB rfl rfl ?_
                  refine r_notB rfl rfl ?_
                  refine r_pick (.p rfl) rfl rfl rfl ?_
                  refine r_assign (.p rfl) rfl ?_
                  refine r_end ?_
                  exact sink false h (sees_mk (rn []) _ _ ⟨rfl, trivial⟩ trivial rfl rfl)
              · have h := cnd_f c18 h
                refine r_notB rfl rfl ?_
                refine r_notB rfl rfl ?_
                refine r_notB rfl rfl ?_
                refine r_pick (.p rfl) rfl rfl rfl ?_
                refine r_move (.p rfl) rfl ?_
                refine r_notB rfl rfl ?_
                refine r_pick (.p rfl) rfl rfl rfl ?_
                refine r_move (.p rfl) rfl ?_
                refine r_notB rfl rfl ?_
                refine r_notB rfl rfl ?_
                refine r_pick (.p rfl) rfl rfl rfl ?_
                refine r_move (.p rfl) rfl ?_
                refine r_notB rfl rfl ?_
                refine r_notB rfl rfl ?_
                refine r_notB rfl rfl ?_
                refine r_pick (.p rfl) rfl rfl rfl ?_
                refine r_move (.p rfl) rfl ?_
                refine r_notB rfl rfl ?_
                refine r_notB rfl rfl ?_
                refine r_notB rfl rfl ?_
                refine r_pick (.p rfl) rfl rfl rfl ?_
                refine r_assign (.p rfl) rfl ?_
                refine r_end ?_
                exact sink false h (sees_mk (rn []) _ _ ⟨rfl, trivial⟩ trivial rfl rfl)
            · have h := cnd_f c16 h
              refine r_notB rfl rfl ?_
              refine r_notB rfl rfl ?_
              refine r_notB rfl rfl ?_
              refine r_pick (.p rfl) rfl rfl rfl ?_
              refine r_move (.p rfl) rfl ?_
              refine r_notB rfl rfl ?_
              refine r_notB rfl rfl ?_
              refine r_notB rfl rfl ?_
              refine r_pick (.p rfl) rfl rfl rfl ?_
              refine r_move (.p rfl) rfl ?_
              refine r_notB rfl rfl ?_
              refine r_pick (.p rfl) rfl rfl rfl ?_
              refine r_move (.p rfl) rfl ?_
              refine r_notB rfl rfl ?_
              refine r_notB rfl rfl ?_
              refine r_pick (.p rfl) rfl rfl rfl ?_
              refine r_move (.p rfl) rfl ?_
              refine r_notB rfl rfl ?_
              refine r_notB rfl rfl ?_
              refine r_notB rfl rfl ?_
              refine r_pick (.p rfl) rfl rfl rfl ?_
              refine r_move (.p rfl) rfl ?_
              refine r_notB rfl rfl ?_
              refine r_notB rfl rfl ?_
              refine r_notB rfl rfl ?_
              refine r_pick (.p rfl) rfl rfl rfl ?_
              refine r_assign (.p rfl) rfl ?_
              refine r_end ?_
              exact sink false h (sees_mk (rn []) _ _ ⟨rfl, trivial⟩ trivial rfl rfl)
          · have h := cnd_f c15 h
            refine r_notB rfl rfl ?_
            refine r_notB rfl rfl ?_
            refine r_pick (.p rfl) rfl rfl rfl ?_
            refine r_move (.p rfl) rfl ?_
            refine r_notB rfl rfl ?_
            refine r_notB rfl rfl ?_
            refine r_notB rfl rfl ?_
            refine r_pick (.p rfl) rfl rfl rfl ?_
            refine r_move (.p rfl) rfl ?_
            refine r_notB rfl rfl ?_
            refine r_notB rfl rfl ?_
            refine r_notB rfl rfl ?_
            refine r_pick (.p rfl) rfl rfl rfl ?_
            refine r_move (.p rfl) rfl ?_
            refine r_notB rfl rfl ?_
            refine r_pick (.p rfl) rfl rfl rfl ?_
            refine r_move (.p rfl) rfl ?_
            refine r_notB rfl rfl ?_
            refine r_notB rfl rfl ?_
            refine r_pick (.p rfl) rfl rfl rfl ?_
            refine r_move (.p rfl) rfl ?_
            refine r_notB rfl rfl ?_
            refine r_notB rfl rfl ?_
            refine r_notB rfl rfl ?_
            refine r_pick (.p rfl) rfl rfl rfl ?_
            refine r_move (.p rfl) rfl ?_
            refine r_notB rfl rfl ?_
            refine r_notB rfl rfl ?_
            refine r_notB rfl rfl ?_
            refine r_pick (.p rfl) rfl rfl rfl ?_
            refine r_assign (.p rfl) rfl ?_
            refine r_end ?_
            exact sink false h (sees_mk (rn []) _ _ ⟨rfl, trivial⟩ trivial rfl rfl)
        · have h := cnd_f c14 h
          refine r_notB rfl rfl ?_
          refine r_notB rfl rfl ?_
          refine r_pick (.p rfl) rfl rfl rfl ?_
          refine r_move (.p rfl) rfl ?_
          refine r_notB rfl rfl ?_
          refine r_notB rfl rfl ?_
          refine r_pick (.p rfl) rfl rfl rfl ?_
          refine r_move (.p rfl) rfl ?_
          refine r_notB rfl rfl ?_
          refine r_notB rfl rfl ?_
          refine r_notB rfl rfl ?_
          refine r_pick (.p rfl) rfl rfl rfl ?_
          refine r_move (.p rfl) rfl ?_
          refine r_notB rfl rfl ?_
          refine r_notB rfl rfl ?_
          refine r_notB rfl rfl ?_
          refine r_pick (.p rfl) rfl rfl rfl ?_
          refine r_move (.p rfl) rfl ?_
          refine r_notB rfl rfl ?_
          refine r_pick (.p rfl) rfl rfl rfl ?_
          refine r_move (.p rfl) rfl ?_
          refine r_notB rfl rfl ?_
          refine r_notB rfl rfl ?_
          refine r_pick (.p rfl) rfl rfl rfl ?_
          refine r_move (.p rfl) rfl ?_
          refine r_notB rfl rfl ?_
          refine r_notB rfl rfl ?_
          refine r_notB rfl rfl ?_
          refine r_pick (.p rfl) rfl rfl rfl ?_
          refine r_move (.p rfl) rfl ?_
          refine r_notB rfl rfl ?_
          refine r_notB rfl rfl ?_
          refine r_notB rfl rfl ?_
          refine r_pick (.p rfl) rfl rfl rfl ?_
          refine r_assign (.p rfl) rfl ?_
          refine r_end ?_
          exact sink false h (sees_mk (rn []) _ _ ⟨rfl, trivial⟩ trivial rfl rfl)
      · have h := cnd_f c13 h
        refine r_notB rfl rfl ?_
        refine r_notB rfl rfl ?_
        refine r_pick (.p rfl) rfl rfl rfl ?_
        refine r_move (.p rfl) rfl ?_
        refine r_notB rfl rfl ?_
        refine r_notB rfl rfl ?_
        refine r_pick (.p rfl) rfl rfl rfl ?_
        refine r_move (.p rfl) rfl ?_
        refine r_notB rfl rfl ?_
        refine r_notB rfl rfl ?_
        refine r_pick (.p rfl) rfl rfl rfl ?_
        refine r_move (.p rfl) rfl ?_
        refine r_notB rfl rfl ?_
        refine r_notB rfl rfl ?_
        refine r_notB rfl rfl ?_
        refine r_pick (.p rfl) rfl rfl rfl ?_
        refine r_move (.p rfl) rfl ?_
        refine r_notB rfl rfl ?_
        refine r_notB rfl rfl ?_
        refine r_notB rfl rfl ?_
        refine r_pick (.p rfl) rfl rfl rfl ?_
        refine r_move (.p rfl) rfl ?_
        refine r_notB rfl rfl ?_
        refine r_pick (.p rfl) rfl rfl rfl ?_
        refine r_move (.p rfl) rfl ?_
        refine r_notB rfl rfl ?_
        refine r_notB rfl rfl ?_
        refine r_pick (.p rfl) rfl rfl rfl ?_
        refine r_move (.p rfl) rfl ?_
        refine r_notB rfl rfl ?_
        refine r_notB rfl rfl ?_
        refine r_notB rfl rfl ?_
        refine r_pick (.p rfl) rfl rfl rfl ?_
        refine r_move (.p rfl) rfl ?_
        refine r_notB rfl rfl ?_
        refine r_notB rfl rfl ?_
        refine r_notB rfl rfl ?_
        refine r_pick (.p rfl) rfl rfl rfl ?_
        refine r_assign (.p rfl) rfl ?_
        refine r_end ?_
        exact sink false h (sees_mk (rn []) _ _ ⟨rfl, trivial⟩ trivial rfl rfl)
    · have h := cnd_f c12 h
      refine r_notB rfl rfl ?_
      refine r_notB rfl rfl ?_
      refine r_pick (.p rfl) rfl rfl rfl ?_
      refine r_move (.p rfl) rfl ?_
      refine r_notB rfl rfl ?_
      refine r_notB rfl rfl ?_
      refine r_pick (.p rfl) rfl rfl rfl ?_
      refine r_move (.p rfl) rfl ?_
      refine r_notB rfl rfl ?_
      refine r_notB rfl rfl ?_
      refine r_pick (.p rfl) rfl rfl rfl ?_
      refine r_move (.p rfl) rfl ?_
      refine r_notB rfl rfl ?_
      refine r_notB rfl rfl ?_
      refine r_pick (.p rfl) rfl rfl rfl ?_
      refine r_move (.p rfl) rfl ?_
      refine r_notB rfl rfl ?_
      refine r_notB rfl rfl ?_
      refine r_notB rfl rfl ?_
      refine r_pick (.p rfl) rfl rfl rfl ?_
      refine r_move (.p rfl) rfl ?_
      refine r_notB rfl rfl ?_
      refine r_notB rfl rfl ?_
      refine r_notB rfl rfl ?_
      refine r_pick (.p rfl) rfl rfl rfl ?_
      refine r_move (.p rfl) rfl ?_
      refine r_notB rfl rfl ?_
      refine r_pick (.p rfl) rfl rfl rfl ?_
      refine r_move (.p rfl) rfl ?_
      refine r_notB rfl rfl ?_
      refine r_notB rfl rfl ?_
      refine r_pick (.p rfl) rfl rfl rfl ?_
      refine r_move (.p rfl) rfl ?_
      refine r_notB rfl rfl ?_
      refine r_notB rfl rfl ?_
      refine r_notB rfl rfl ?_
      refine r_pick (.p rfl) rfl rfl rfl ?_
      refine r_move (.p rfl) rfl ?_
      refine r_notB rfl rfl ?_
      refine r_notB rfl rfl ?_
      refine r_notB rfl rfl ?_
      refine r_pick (.p rfl) rfl rfl rfl ?_
      refine r_assign (.p rfl) rfl ?_
      refine r_end ?_
      exact sink false h (sees_mk (rn []) _ _ ⟨rfl, trivial⟩ trivial rfl rfl)
  · obtain rfl := Option.some.inj h
    refine W_sees (sees_mk (rn []) [(0, .e (.one (.pure (.val (.bool v11)))))] [] ⟨rfl, trivial⟩ trivial rfl rfl) (W_ret ?_)
    exact ⟨⟨[_], ⟨.tmp _ _ rfl, trivial⟩, rfl⟩, trivial⟩

set_option maxRecDepth 10000 in
theorem sheaveref36_code_c (N : Nat) (p0 : List Int) (p1 : Int) (r : Int) (h : Sh.sheaveref36_code N p0 p1 = some r) : Contract Try.prog 41 [.e (.one (.pure (.sl (p0.map eU8)))), .e (.one (.pure (.val (.int .i64 p1))))] [] (.e (.one (.pure (.val (.int .i64 r))))) := by
  unfold Sh.sheaveref36_code at h
  refine contract_of_W (n := 14) (rs := [.tmp 4]) Try.func41 rfl rfl rfl (leb rfl) rfl fun w0 S0 => ?_
  refine W_seq ?_
  refine W_region mixed rfl ?_
  refine r_assign (.p rfl) rfl ?_
  refine r_end ?_
  refine W_seq ?_
  refine W_seq ?_
  refine W_region mixed rfl ?_
  refine r_move (.p rfl) rfl ?_
  refine r_move (.p rfl) rfl ?_
  refine r_len (.p rfl) rfl (.sl _) trivial (List.length_map _) slc22 ?_
  refine r_bin (.p rfl) rfl rfl (bin_lss _ _ _ _ _ _) rfl ?_
  refine r_end ?_
  refine W_cond rfl (fun c1 => ?_) (fun c1 => ?_)
  · have h := cnd_t c1 h
    refine W_seq ?_
    refine W_region mixed rfl ?_
    refine r_move (.p rfl) rfl ?_
    refine r_move (.p rfl) rfl ?_
    obtain ⟨v2, a2, b2, h⟩ := idx_bind h
    refine r_index (.p rfl) rfl rfl slc22 sz5 a2 (map_get b2) rfl ?_
    refine r_loadr1 (.p rfl) rfl ag5 rfl ?_
    refine r_conv (.p rfl) rfl (conv_int so5 in3 _ _) rfl ?_
    refine r_assign (.p rfl) rfl ?_
    refine r_end ?_
    obtain rfl := Option.some.inj h
    refine W_sees (sees_mk (rn []) [(4, .e (.one (.pure (.val (.int .i64 ((IntKind.wrap .i64 v2)))))))] [] ⟨rfl, trivial⟩ trivial rfl rfl) (W_ret ?_)
    exact ⟨⟨[_], ⟨.tmp _ _ rfl, trivial⟩, rfl⟩, trivial⟩
  · have h := cnd_f c1 h
    refine W_skip ?_
    refine W_seq ?_
    refine W_region mixed rfl ?_
    refine r_assign (.p rfl) rfl ?_
    refine r_end ?_
    obtain rfl := Option.some.inj h
    refine W_sees (sees_mk (rn []) [(4, .e (.one (.pure (.val (.int .i64 0)))))] [] ⟨rfl, trivial⟩ trivial rfl rfl) (W_ret ?_)
    exact ⟨⟨[_], ⟨.tmp _ _ rfl, trivial⟩, rfl⟩, trivial⟩

set_option maxRecDepth 10000 in
theorem sheaveref36_Running_c (N : Nat) (p0 : ApiMix) (p1 : Int) (r : Int) (h : Sh.sheaveref36_Running N p0 p1 = some r) : Contract Try.prog 42 [.e (.agg [.pure (.sl (p0.fBase.map eI64)), .pure (.sl (p0.fNext.map eI64)), .pure (.sl (p0.fHeld.map eU8))]), .e (.one (.pure (.val (.int .i64 p1))))] [] (.e (.one (.pure (.val (.int .u8 r))))) := by
  unfold Sh.sheaveref36_Running at h
  refine contract_of_W (n := 27) (rs := [.tmp 4]) Try.func42 rfl rfl rfl (leb rfl) rfl fun w0 S0 => ?_
  refine W_seq ?_
  refine W_region mixed rfl ?_
  refine r_box (.p rfl) rfl rfl ?_
  refine r_assign (.p rfl) rfl ?_
  refine r_end ?_
  refine W_seq ?_
  refine W_region mixed rfl ?_
  refine r_fieldAddr (.p rfl) rfl fld37_0 ?_
  refine r_load1 (.p rfl) rfl ag28 rfl rfl ?_
  refine r_move (.p rfl) rfl ?_
  obtain ⟨v1, a1, b1, h⟩ := idx_bind h
  refine r_index (.p rfl) rfl rfl slc28 sz3 a1 (map_get b1) rfl ?_
  refine r_loadr1 (.p rfl) rfl ag3 rfl ?_
  obtain ⟨c2, h⟩ := chk_bind h
  refine r_bin (.p rfl) rfl rfl (bin_shl _ _ _ _ _ _ _ c2) rfl ?_
  refine r_assign (.p rfl) rfl ?_
  refine r_end ?_
  refine W_join h (fun v3 => mk [(5, .e (.one (.pure (.val (.int .u8 v3)))))] []) (fun j3 h => ?_) (fun v3 h => ?_)
  · refine W_seq ?_
    refine W_region mixed rfl ?_
    refine r_fieldAddr (.p rfl) rfl fld37_1 ?_
    refine r_load1 (.p rfl) rfl ag28 rfl rfl ?_
    refine r_move (.p rfl) rfl ?_
    obtain ⟨v4, a4, b4, h⟩ := idx_bind h
    refine r_index (.p rfl) rfl rfl slc28 sz3 a4 (map_get b4) rfl ?_
    refine r_loadr1 (.p rfl) rfl ag3 rfl ?_
    refine r_bin (.p rfl) rfl rfl (bin_geq _ _ _ _ _ _) rfl ?_
    refine r_end ?_
    refine W_cond rfl (fun c5 => ?_) (fun c5 => ?_)
    · have h := cnd_t c5 h
      refine W_region mixed rfl ?_
      refine r_move (.p rfl) rfl ?_
      refine r_fieldAddr (.p rfl) rfl fld37_1 ?_
      refine r_load1 (.p rfl) rfl ag28 rfl rfl ?_
      refine r_move (.p rfl) rfl ?_
      obtain ⟨v6, a6, b6, h⟩ := idx_bind h
      refine r_index (.p rfl) rfl rfl slc28 sz3 a6 (map_get b6) rfl ?_
      refine r_loadr1 (.p rfl) rfl ag3 rfl ?_
      obtain ⟨c7, h⟩ := chk_bind h
      refine r_bin (.p rfl) rfl rfl (bin_shl _ _ _ _ _ _ _ c7) rfl ?_
      refine r_bin (.p rfl) rfl rfl (bin_or _ _ _ _ _ _) rfl ?_
      refine r_assign (.p rfl) rfl ?_
      refine r_end ?_
      exact sink (orI .u8 ((shlI .u8 1 v1)) ((shlI .u8 1 v6))) h (sees_mk (rn []) _ _ ⟨rfl, trivial⟩ trivial rfl rfl)
    · have h := cnd_f c5 h
      refine W_skip ?_
      exact sink (shlI .u8 1 v1) h (sees_mk (rn []) _ _ ⟨rfl, trivial⟩ trivial rfl rfl)
  · refine W_seq ?_
    refine W_region mixed rfl ?_
    refine r_move (.p rfl) rfl ?_
    refine r_assign (.p rfl) rfl ?_
    refine r_end ?_
    obtain rfl := Option.some.inj h
    refine W_sees (sees_mk (rn []) [(4, .e (.one (.pure (.val (.int .u8 v3)))))] [] ⟨rfl, trivial⟩ trivial rfl rfl) (W_ret ?_)
    exact ⟨⟨[_], ⟨.tmp _ _ rfl, trivial⟩, rfl⟩, trivial⟩

set_option maxRecDepth 10000 in
theorem sheaveref36_Of_c (N : Nat) (p0 : ApiProblem) (p1 : Sheaveref36Draft) (r : ApiMix) (h : Sh.sheaveref36_Of N p0 p1 = some r) : Contract Try.prog 13 [.e (.agg [.pure (.sl (p0.fVersions.map eI64)), .pure (.sl (p0.fNow.map eI64)), .pure (.sl (p0.fTarget.map eI64)), .pure (.sl (p0.fTables.map eApiTable))]), .e (.agg [.pure (.sl (p1.fBase.map eU8)), .pure (.sl (p1.fNext.map eU8)), .pure (.sl (p1.fHeld.map eU8))])] [(1, r.fBase.map eI64), (1, r.fNext.map eI64), (1, r.fHeld.map eU8)] (.e (.agg [.own 0, .own 1, .own 2])) := by
  unfold Sh.sheaveref36_Of at h
  refine contract_of_W (n := 99) (rs := [.cell 4 37]) Try.func13 rfl rfl rfl (leb rfl) rfl fun w0 S0 => ?_
  refine W_seq ?_
  refine W_region mixed rfl ?_
  refine r_box (.p rfl) rfl rfl ?_
  refine r_box (.p rfl) rfl rfl ?_
  refine r_alloc (.p rfl) zv37 rfl rfl rfl ?_
  refine r_end ?_
  refine W_seq ?_
  refine W_region mixed rfl ?_
  refine r_alloc (.p rfl) zv37 rfl rfl rfl ?_
  refine r_end ?_
  refine W_seq ?_
  refine W_seq ?_
  refine W_region mixed rfl ?_
  refine r_assign (.p rfl) rfl ?_
  refine r_end ?_
  refine W_whileE (L := Sh.sheaveref36_Of_L1 N p0 p1) h (fun v1 => mk [(2, .e (.one (.ptr 2 0))), (3, .e (.one (.ptr 3 0))), (4, .e (.one (.ptr 4 0))), (5, .e (.one (.ptr 5 0))), (6, .e (.one (.pure (.val (.int .i64 v1.2.2)))))] [(2, .box [.pure (.sl (p0.fVersions.map eI64)), .pure (.sl (p0.fNow.map eI64)), .pure (.sl (p0.fTarget.map eI64)), .pure (.sl (p0.fTables.map eApiTable))]), (3, .box [.pure (.sl (p1.fBase.map eU8)), .pure (.sl (p1.fNext.map eU8)), .pure (.sl (p1.fHeld.map eU8))]), (4, .box [.pure (.nil0), .pure (.nil0), .pure (.nil0)]), (5, .box [.own 2001, .own 2002, .pure (.nil0)]), (2001, .vec 1 (v1.1.map eI64)), (2002, .vec 1 (v1.2.1.map eI64))]) (fun v2 => mk [(2, .e (.one (.ptr 2 0))), (3, .e (.one (.ptr 3 0))), (4, .e (.one (.ptr 4 0))), (5, .e (.one (.ptr 5 0)))] [(2, .box [.pure (.sl (p0.fVersions.map eI64)), .pure (.sl (p0.fNow.map eI64)), .pure (.sl (p0.fTarget.map eI64)), .pure (.sl (p0.fTables.map eApiTable))]), (3, .box [.pure (.sl (p1.fBase.map eU8)), .pure (.sl (p1.fNext.map eU8)), .pure (.sl (p1.fHeld.map eU8))]), (4, .box [.pure (.nil0), .pure (.nil0), .pure (.nil0)]), (5, .box [.own 2003, .own 2004, .pure (.nil0)]), (2003, .vec 1 (v2.1.map eI64)), (2004, .vec 1 (v2.2.map eI64))]) (fun _ _ => rfl) ((sees_adoptB 5 0 2007 1 _ rfl rfl rfl).trans ((sees_adoptB 5 1 2008 1 _ rfl rfl rfl).trans (sees_mk (rn [(2001, 2007), (2002, 2008)]) _ _ ⟨rfl, rfl, rfl, rfl, rfl, trivial⟩ ⟨rfl, rfl, rfl, rfl, rfl, rfl, trivial⟩ rfl rfl))) (fun j1 n1 v1 h => ?_) (fun v2 s h hs => ?_)
  · unfold Sh.sheaveref36_Of_L1 at h
    refine W_seq ?_
    refine W_seq ?_
    refine W_region mixed rfl ?_
    refine r_move (.p rfl) rfl ?_
    refine r_fieldAddr (.p rfl) rfl fld31_0 ?_
    refine r_load1 (.p rfl) rfl ag28 rfl rfl ?_
    refine r_len (.p rfl) rfl (.sl _) trivial (List.length_map _) slc28 ?_
    refine r_bin (.p rfl) rfl rfl (bin_lss _ _ _ _ _ _) rfl ?_
    refine r_end ?_
    refine W_cond rfl (fun c3 => ?_) (fun c3 => ?_)
    · have h := cnd_t c3 h
      refine W_skip ?_
      refine W_seq ?_
      refine W_block ?_
      refine W_seq ?_
      refine W_region mixed rfl ?_
      refine r_fieldAddr (.p rfl) rfl fld31_0 ?_
      refine r_load1 (.p rfl) rfl ag28 rfl rfl ?_
      refine r_move (.p rfl) rfl ?_
      obtain ⟨v4, a4, b4, h⟩ := idx_bind h
      refine r_index (.p rfl) rfl rfl slc28 sz3 a4 (map_get b4) rfl ?_
      refine r_loadr1 (.p rfl) rfl ag3 rfl ?_
      refine r_assign (.p rfl) rfl ?_
      refine r_end ?_
      refine W_seq ?_
      refine W_region mixed rfl ?_
      refine r_fieldAddr (.p rfl) rfl fld27_0 ?_
      refine r_load1 (.p rfl) rfl ag22 rfl rfl ?_
      refine r_move (.p rfl) rfl ?_
      obtain ⟨v5, a5, h⟩ := bind_some h
      refine r_call (ds0 := [_, _]) [] (sheaveref36_code_c N p1.fBase v1.2.2 v5 a5) (.p rfl) gd41 rfl ⟨rfl, rfl, trivial⟩ rfl rfl rfl (nodupB_spec rfl) trivial rfl ?_
      refine r_move (.p rfl) rfl ?_
      obtain ⟨c6, h⟩ := chk_bind h
      refine r_bin (.p rfl) rfl rfl (bin_rem _ _ _ _ _ _ c6) rfl ?_
      refine r_assign (.p rfl) rfl ?_
      refine r_end ?_
      refine W_seq ?_
      refine W_region mixed rfl ?_
      refine r_assign (.p rfl) rfl ?_
      refine r_end ?_
      refine W_join h (fun v7 => mk [(2, .e (.one (.ptr 2 0))), (3, .e (.one (.ptr 3 0))), (4, .e (.one (.ptr 4 0))), (5, .e (.one (.ptr 5 0))), (6, .e (.one (.pure (.val (.int .i64 v1.2.2))))), (8, .e (.one (.pure (.val (.int .i64 ((Int.tmod v5 v4))))))), (9, .e (.one (.pure (.val (.int .i64 v7)))))] [(2, .box [.pure (.sl (p0.fVersions.map eI64)), .pure (.sl (p0.fNow.map eI64)), .pure (.sl (p0.fTarget.map eI64)), .pure (.sl (p0.fTables.map eApiTable))]), (3, .box [.pure (.sl (p1.fBase.map eU8)), .pure (.sl (p1.fNext.map eU8)), .pure (.sl (p1.fHeld.map eU8))]), (4, .box [.pure (.nil0), .pure (.nil0), .pure (.nil0)]), (5, .box [.own 2005, .own 2006, .pure (.nil0)]), (2005, .vec 1 (v1.1.map eI64)), (2006, .vec 1 (v1.2.1.map eI64))]) (fun j7 h => ?_) (fun v7 h => ?_)
      · refine W_seq ?_
        refine W_region mixed rfl ?_
        refine r_fieldAddr (.p rfl) rfl fld27_1 ?_
        refine r_load1 (.p rfl) rfl ag22 rfl rfl ?_
        refine r_move (.p rfl) rfl ?_
        obtain ⟨v8, a8, h⟩ := bind_some h
        refine r_call (ds0 := [_, _]) [] (sheaveref36_code_c N p1.fNext v1.2.2 v8 a8) (.p rfl) gd41 rfl ⟨rfl, rfl, trivial⟩ rfl rfl rfl (nodupB_spec rfl) trivial rfl ?_
        refine r_move (.p rfl) rfl ?_
        obtain ⟨c9, h⟩ := chk_bind h
        refine r_bin (.p rfl) rfl rfl (bin_rem _ _ _ _ _ _ c9) rfl ?_
        refine r_assign (.p rfl) rfl ?_
        refine r_end ?_
        refine W_seq ?_
        refine W_region mixed rfl ?_
        refine r_move (.p rfl) rfl ?_
        refine r_bin (.p rfl) rfl rfl (bin_gtr _ _ _ _ _ _) rfl ?_
        refine r_end ?_
        refine W_cond rfl (fun c10 => ?_) (fun c10 => ?_)
        · have h := cnd_t c10 h
          refine W_region mixed rfl ?_
          refine r_move (.p rfl) rfl ?_
          refine r_move (.p rfl) rfl ?_
          refine r_bin (.p rfl) rfl rfl (bin_add _ _ _ _ _ _) rfl ?_
          refine r_move (.p rfl) rfl ?_
          obtain ⟨c11, h⟩ := chk_bind h
          refine r_bin (.p rfl) rfl rfl (bin_rem _ _ _ _ _ _ c11) rfl ?_
          refine r_assign (.p rfl) rfl ?_
          refine r_end ?_
          exact sink (Int.tmod ((IntKind.wrap .i64 ((Int.tmod v5 v4) + (Int.tmod v8 v4)))) v4) h (sees_mk (rn [(2005, 2001), (2006, 2002)]) _ _ ⟨rfl, rfl, rfl, rfl, rfl, rfl, rfl, trivial⟩ ⟨rfl, rfl, rfl, rfl, rfl, rfl, trivial⟩ rfl rfl)
        · have h := cnd_f c10 h
          refine W_skip ?_
          exact sink (-1) h (sees_mk (rn [(2005, 2001), (2006, 2002)]) _ _ ⟨rfl, rfl, rfl, rfl, rfl, rfl, rfl, trivial⟩ ⟨rfl, rfl, rfl, rfl, rfl, rfl, trivial⟩ rfl rfl)
      · refine W_seq ?_
        refine W_region mixed rfl ?_
        refine r_fieldAddr (.p rfl) rfl fld37_0 ?_
        refine r_load1 (.p rfl) rfl ag28 rfl rfl ?_
        refine r_move (.p rfl) rfl ?_
        refine r_buildSlice [(0, .tmp 48, _)] (.p rfl) rfl ⟨rfl, trivial⟩ rfl slc28 sz3 zv3 rfl rfl (leb rfl) rfl rfl ?_
        obtain ⟨c12, h⟩ := chk_bind h
        refine r_append (.p rfl) rfl (.own _ _ _) ⟨rfl, trivial⟩ rfl (.own _ _ _) ⟨rfl, trivial⟩ rfl slc28 slc28 sz3 byt3 (leb rfl) zv3 rfl (len_lim (f := eI64) (g := eI64) (xs := v1.1) (ys := (([(Int.tmod v5 v4)] : List Int))) c12) (map_app eI64 v1.1 (([(Int.tmod v5 v4)] : List Int))) ?_
        refine r_fieldAddr (.p rfl) rfl fld37_0 ?_
        refine r_store rfl rfl rfl rfl sz28 rfl (leb rfl) rfl ?_
        refine r_end ?_
        refine W_region mixed rfl ?_
        refine r_fieldAddr (.p rfl) rfl fld37_1 ?_
        refine r_load1 (.p rfl) rfl ag28 rfl rfl ?_
        refine r_move (.p rfl) rfl ?_
        refine r_buildSlice [(0, .tmp 54, _)] (.p rfl) rfl ⟨rfl, trivial⟩ rfl slc28 sz3 zv3 rfl rfl (leb rfl) rfl rfl ?_
        obtain ⟨c13, h⟩ := chk_bind h
        refine r_append (.p rfl) rfl (.own _ _ _) ⟨rfl, trivial⟩ rfl (.own _ _ _) ⟨rfl, trivial⟩ rfl slc28 slc28 sz3 byt3 (leb rfl) zv3 rfl (len_lim (f := eI64) (g := eI64) (xs := v1.2.1) (ys := (([v7] : List Int))) c13) (map_app eI64 v1.2.1 (([v7] : List Int))) ?_
        refine r_fieldAddr (.p rfl) rfl fld37_1 ?_
        refine r_store rfl rfl rfl rfl sz28 rfl (leb rfl) rfl ?_
        refine r_end ?_
        refine W_region mixed rfl ?_
        refine r_move (.p rfl) rfl ?_
        refine r_bin (.p rfl) rfl rfl (bin_add _ _ _ _ _ _) rfl ?_
        refine r_assign (.p rfl) rfl ?_
        refine r_end ?_
        exact sink (v1.1 ++ (([(Int.tmod v5 v4)] : List Int)), v1.2.1 ++ (([v7] : List Int)), (IntKind.wrap .i64 (v1.2.2 + 1))) h (sees_mk (rn [(2001, 50), (2002, 56)]) _ _ ⟨rfl, rfl, rfl, rfl, rfl, trivial⟩ ⟨rfl, rfl, rfl, rfl, rfl, rfl, trivial⟩ rfl rfl)
    · have h := cnd_f c3 h
      refine W_exit ?_
      exact sink (v1.1, v1.2.1) h (sees_mk (rn [(2003, 2001), (2004, 2002)]) _ _ ⟨rfl, rfl, rfl, rfl, trivial⟩ ⟨rfl, rfl, rfl, rfl, rfl, rfl, trivial⟩ rfl rfl)
  · refine W_sees hs ?_
    refine W_seq ?_
    refine W_seq ?_
    refine W_region mixed rfl ?_
    refine r_assign (.p rfl) rfl ?_
    refine r_end ?_
    refine W_whileE (L := Sh.sheaveref36_Of_L14 N p0 p1 v2) h (fun v14 => mk [(2, .e (.one (.ptr 2 0))), (3, .e (.one (.ptr 3 0))), (4, .e (.one (.ptr 4 0))), (5, .e (.one (.ptr 5 0))), (11, .e (.one (.pure (.val (.int .i64 v14.2)))))] [(2, .box [.pure (.sl (p0.fVersions.map eI64)), .pure (.sl (p0.fNow.map eI64)), .pure (.sl (p0.fTarget.map eI64)), .pure (.sl (p0.fTables.map eApiTable))]), (3, .box [.pure (.sl (p1.fBase.map eU8)), .pure (.sl (p1.fNext.map eU8)), .pure (.sl (p1.fHeld.map eU8))]), (4, .box [.pure (.nil0), .pure (.nil0), .pure (.nil0)]), (5, .box [.own 2009, .own 2010, .own 2011]), (2009, .vec 1 (v2.1.map eI64)), (2010, .vec 1 (v2.2.map eI64)), (2011, .vec 1 (v14.1.map eU8))]) (fun v15 => mk [(4, .e (.one (.ptr 4 0))), (5, .e (.one (.ptr 5 0)))] [(4, .box [.pure (.nil0), .pure (.nil0), .pure (.nil0)]), (5, .box [.own 2012, .own 2013, .own 2014]), (2012, .vec 1 (v2.1.map eI64)), (2013, .vec 1 (v2.2.map eI64)), (2014, .vec 1 (v15.map eU8))]) (fun _ _ => rfl) ((sees_adoptB 5 2 2018 1 _ rfl rfl rfl).trans (sees_mk (rn [(2009, 2003), (2010, 2004), (2011, 2018)]) _ _ ⟨rfl, rfl, rfl, rfl, rfl, trivial⟩ ⟨rfl, rfl, rfl, rfl, rfl, rfl, rfl, trivial⟩ rfl rfl)) (fun j14 n14 v14 h => ?_) (fun v15 s h hs => ?_)
    · unfold Sh.sheaveref36_Of_L14 at h
      refine W_seq ?_
      refine W_seq ?_
      refine W_region mixed rfl ?_
      refine r_move (.p rfl) rfl ?_
      refine r_fieldAddr (.p rfl) rfl fld31_3 ?_
      refine r_load1 (.p rfl) rfl ag29 rfl rfl ?_
      refine r_len (.p rfl) rfl (.sl _) trivial (List.length_map _) slc29 ?_
      refine r_bin (.p rfl) rfl rfl (bin_lss _ _ _ _ _ _) rfl ?_
      refine r_end ?_
      refine W_cond rfl (fun c16 => ?_) (fun c16 => ?_)
      · have h := cnd_t c16 h
        refine W_skip ?_
        refine W_seq ?_
        refine W_block ?_
        refine W_seq ?_
        refine W_region mixed rfl ?_
        refine r_fieldAddr (.p rfl) rfl fld31_3 ?_
        refine r_load1 (.p rfl) rfl ag29 rfl rfl ?_
        refine r_move (.p rfl) rfl ?_
        obtain ⟨v17, a17, b17, h⟩ := idx_bind h
        refine r_index (.p rfl) rfl rfl slc29 sz61 a17 (map_get b17) rfl ?_
        refine r_loadrN (.p rfl) rfl ag61 sz61 rfl rfl ?_
        refine r_alloc (.p rfl) zv61 rfl rfl rfl ?_
        refine r_store rfl rfl rfl rfl sz61 rfl (leb rfl) rfl ?_
        refine r_end ?_
        refine W_seq ?_
        refine W_region mixed rfl ?_
        refine r_assign (.p rfl) rfl ?_
        refine r_end ?_
        refine W_join h (fun v18 => mk [(2, .e (.one (.ptr 2 0))), (3, .e (.one (.ptr 3 0))), (4, .e (.one (.ptr 4 0))), (5, .e (.one (.ptr 5 0))), (11, .e (.one (.pure (.val (.int .i64 v14.2))))), (13, .e (.one (.pure (.val (.int .u8 v18)))))] [(2, .box [.pure (.sl (p0.fVersions.map eI64)), .pure (.sl (p0.fNow.map eI64)), .pure (.sl (p0.fTarget.map eI64)), .pure (.sl (p0.fTables.map eApiTable))]), (3, .box [.pure (.sl (p1.fBase.map eU8)), .pure (.sl (p1.fNext.map eU8)), .pure (.sl (p1.fHeld.map eU8))]), (4, .box [.pure (.nil0), .pure (.nil0), .pure (.nil0)]), (5, .box [.own 2015, .own 2016, .own 2017]), (2015, .vec 1 (v2.1.map eI64)), (2016, .vec 1 (v2.2.map eI64)), (2017, .vec 1 (v14.1.map eU8))]) (fun j18 h => ?_) (fun v18 h => ?_)
        · refine W_seq ?_
          refine W_region mixed rfl ?_
          refine r_loadN (.p rfl) rfl ag61 sz61 rfl rfl rfl ?_
          obtain ⟨v19, a19, h⟩ := bind_some h
          refine r_call (ds0 := [_]) [] (sheaveref35_Stored_c N v17 v19 a19) (.p rfl) gd38 rfl ⟨rfl, trivial⟩ rfl rfl rfl (nodupB_spec rfl) trivial rfl ?_
          refine r_end ?_
          refine W_cond rfl (fun c20 => ?_) (fun c20 => ?_)
          · have h := cnd_t c20 h
            refine W_seq ?_
            refine W_region mixed rfl ?_
            refine r_fieldAddr (.p rfl) rfl fld31_0 ?_
            refine r_load1 (.p rfl) rfl ag28 rfl rfl ?_
            refine r_fieldAddr (.p rfl) rfl fld61_1 ?_
            refine r_load1 (.p rfl) rfl ag3 rfl rfl ?_
            obtain ⟨v21, a21, b21, h⟩ := idx_bind h
            refine r_index (.p rfl) rfl rfl slc28 sz3 a21 (map_get b21) rfl ?_
            refine r_loadr1 (.p rfl) rfl ag3 rfl ?_
            obtain ⟨c22, h⟩ := chk_bind h
            refine r_bin (.p rfl) rfl rfl (bin_shl _ _ _ _ _ _ _ c22) rfl ?_
            refine r_bin (.p rfl) rfl rfl (bin_sub _ _ _ _ _ _) rfl ?_
            refine r_assign (.p rfl) rfl ?_
            refine r_end ?_
            refine W_region mixed rfl ?_
            refine r_loadN (.p rfl) rfl ag37 sz37 rfl rfl rfl ?_
            refine r_fieldAddr (.p rfl) rfl fld61_1 ?_
            refine r_load1 (.p rfl) rfl ag3 rfl rfl ?_
            obtain ⟨v23, a23, h⟩ := bind_some h
            refine r_callL (ds0 := [_, _]) [] [(2009, _), (2010, _), (2011, _)] (sheaveref36_Running_c N ((ApiMix.mk v2.1 v2.2 v14.1)) v17.fFrom v23 a23) (.p rfl) gd42 rfl ⟨rfl, rfl, trivial⟩ ⟨rfl, rfl, rfl, trivial⟩ rfl rfl rfl (nodupB_spec rfl) trivial rfl flatV_nil rfl ?_
            refine r_fieldAddr (.p rfl) rfl fld27_2 ?_
            refine r_load1 (.p rfl) rfl ag22 rfl rfl ?_
            refine r_move (.p rfl) rfl ?_
            obtain ⟨v24, a24, h⟩ := bind_some h
            refine r_call (ds0 := [_, _]) [] (sheaveref36_code_c N p1.fHeld v14.2 v24 a24) (.p rfl) gd41 rfl ⟨rfl, rfl, trivial⟩ rfl rfl rfl (nodupB_spec rfl) trivial rfl ?_
            refine r_conv (.p rfl) rfl (conv_int so3 in80 _ _) rfl ?_
            refine r_move (.p rfl) rfl ?_
            refine r_bin (.p rfl) rfl rfl (bin_and _ _ _ _ _ _) rfl ?_
            refine r_bin (.p rfl) rfl rfl (bin_or _ _ _ _ _ _) rfl ?_
            refine r_assign (.p rfl) rfl ?_
            refine r_endD (by kernel_rfl) ?_
            exact sink (orI .u8 v23 ((andI .u8 ((IntKind.wrap .u8 v24)) ((IntKind.wrap .u8 ((shlI .u8 1 v21) - 1)))))) h (sees_mk (rn [(2015, 2009), (2016, 2010), (2017, 2011)]) _ _ ⟨rfl, rfl, rfl, rfl, rfl, rfl, trivial⟩ ⟨rfl, rfl, rfl, rfl, rfl, rfl, rfl, trivial⟩ rfl rfl)
          · have h := cnd_f c20 h
            refine W_skip ?_
            exact sink 0 h (sees_mk (rn [(2015, 2009), (2016, 2010), (2017, 2011)]) _ _ ⟨rfl, rfl, rfl, rfl, rfl, rfl, trivial⟩ ⟨rfl, rfl, rfl, rfl, rfl, rfl, rfl, trivial⟩ rfl rfl)
        · refine W_region mixed rfl ?_
          refine r_fieldAddr (.p rfl) rfl fld37_2 ?_
          refine r_load1 (.p rfl) rfl ag35 rfl rfl ?_
          refine r_move (.p rfl) rfl ?_
          refine r_buildSlice [(0, .tmp 94, _)] (.p rfl) rfl ⟨rfl, trivial⟩ rfl slc35 sz80 zv80 rfl rfl (leb rfl) rfl rfl ?_
          obtain ⟨c25, h⟩ := chk_bind h
          refine r_append (.p rfl) rfl (.own _ _ _) ⟨rfl, trivial⟩ rfl (.own _ _ _) ⟨rfl, trivial⟩ rfl slc35 slc35 sz80 byt80 (leb rfl) zv80 rfl (len_lim (f := eU8) (g := eU8) (xs := v14.1) (ys := (([v18] : List Int))) c25) (map_app eU8 v14.1 (([v18] : List Int))) ?_
          refine r_fieldAddr (.p rfl) rfl fld37_2 ?_
          refine r_store rfl rfl rfl rfl sz35 rfl (leb rfl) rfl ?_
          refine r_end ?_
          refine W_region mixed rfl ?_
          refine r_move (.p rfl) rfl ?_
          refine r_bin (.p rfl) rfl rfl (bin_add _ _ _ _ _ _) rfl ?_
          refine r_assign (.p rfl) rfl ?_
          refine r_end ?_
          exact sink (v14.1 ++ (([v18] : List Int)), (IntKind.wrap .i64 (v14.2 + 1))) h (sees_mk (rn [(2009, 2015), (2010, 2016), (2011, 96)]) _ _ ⟨rfl, rfl, rfl, rfl, rfl, trivial⟩ ⟨rfl, rfl, rfl, rfl, rfl, rfl, rfl, trivial⟩ rfl rfl)
      · have h := cnd_f c16 h
        refine W_exit ?_
        exact sink v14.1 h (sees_mk (rn [(2012, 2009), (2013, 2010), (2014, 2011)]) _ _ ⟨rfl, rfl, trivial⟩ ⟨rfl, rfl, rfl, rfl, rfl, trivial⟩ rfl rfl)
    · refine W_sees hs ?_
      refine W_seq ?_
      refine W_region mixed rfl ?_
      refine r_loadN (.p rfl) rfl ag37 sz37 rfl rfl rfl ?_
      refine r_store rfl rfl rfl rfl sz37 rfl (leb rfl) rfl ?_
      refine r_end ?_
      obtain rfl := Option.some.inj h
      refine W_sees (sees_mk (rn [(1000, 2012), (1001, 2013), (1002, 2014)]) [(4, .e (.one (.ptr 4 0)))] [(4, .box [.own 1000, .own 1001, .own 1002]), (1000, .vec 1 (v2.1.map eI64)), (1001, .vec 1 (v2.2.map eI64)), (1002, .vec 1 (v15.map eU8))] ⟨rfl, trivial⟩ ⟨rfl, rfl, rfl, rfl, trivial⟩ rfl rfl) (W_ret ?_)
      exact ⟨⟨[_], ⟨.cellN _ _ _ _ _ _ _ rfl rfl ag37 sz37 rfl rfl (ltb rfl), trivial⟩, rfl⟩, ⟨rfl, rfl, rfl, trivial⟩⟩

set_option maxRecDepth 10000 in
theorem sheaveref36_Has_c (N : Nat) (p0 : Int) (p1 : Int) (r : Bool) (h : Sh.sheaveref36_Has N p0 p1 = some r) : Contract Try.prog 44 [.e (.one (.pure (.val (.int .u8 p0)))), .e (.one (.pure (.val (.int .i64 p1))))] [] (.e (.one (.pure (.val (.bool r))))) := by
  unfold Sh.sheaveref36_Has at h
  refine contract_of_W (n := 10) (rs := [.tmp 4]) Try.func44 rfl rfl rfl (leb rfl) rfl fun w0 S0 => ?_
  refine W_seq ?_
  refine W_region mixed rfl ?_
  refine r_assign (.p rfl) rfl ?_
  refine r_end ?_
  refine W_seq ?_
  refine W_region mixed rfl ?_
  refine r_move (.p rfl) rfl ?_
  refine r_move (.p rfl) rfl ?_
  obtain ⟨c1, h⟩ := chk_bind h
  refine r_bin (.p rfl) rfl rfl (bin_shr _ _ _ _ _ _ _ c1) rfl ?_
  refine r_bin (.p rfl) rfl rfl (bin_and _ _ _ _ _ _) rfl ?_
  refine r_bin (.p rfl) rfl rfl (bin_eql _ _ _ _ _ _) rfl ?_
  refine r_assign (.p rfl) rfl ?_
  refine r_end ?_
  obtain rfl := Option.some.inj h
  refine W_sees (sees_mk (rn []) [(4, .e (.one (.pure (.val (.bool (((andI .u8 ((shrI .u8 p0 p1)) 1) == 1)))))))] [] ⟨rfl, trivial⟩ trivial rfl rfl) (W_ret ?_)
  exact ⟨⟨[_], ⟨.tmp _ _ rfl, trivial⟩, rfl⟩, trivial⟩

set_option maxRecDepth 10000 in
theorem sheaveref36_Found_c (N : Nat) (p0 : ApiProblem) (p1 : ApiMix) (r : (List ApiConflict)) (h : Sh.sheaveref36_Found N p0 p1 = some r) : Contract Try.prog 16 [.e (.agg [.pure (.sl (p0.fVersions.map eI64)), .pure (.sl (p0.fNow.map eI64)), .pure (.sl (p0.fTarget.map eI64)), .pure (.sl (p0.fTables.map eApiTable))]), .e (.agg [.pure (.sl (p1.fBase.map eI64)), .pure (.sl (p1.fNext.map eI64)), .pure (.sl (p1.fHeld.map eU8))])] [(3, r.map eApiConflict)] (.e (.one (.own 0))) := by
  unfold Sh.sheaveref36_Found at h
  refine contract_of_W (n := 111) (rs := [.tmp 4]) Try.func16 rfl rfl rfl (leb rfl) rfl fun w0 S0 => ?_
  refine W_seq ?_
  refine W_region mixed rfl ?_
  refine r_box (.p rfl) rfl rfl ?_
  refine r_box (.p rfl) rfl rfl ?_
  refine r_assign (.p rfl) rfl ?_
  refine r_end ?_
  refine W_seq ?_
  refine W_region mixed rfl ?_
  refine r_assign (.p rfl) rfl ?_
  refine r_end ?_
  refine W_seq ?_
  refine W_seq ?_
  refine W_region mixed rfl ?_
  refine r_assign (.p rfl) rfl ?_
  refine r_end ?_
  refine W_whileE (L := Sh.sheaveref36_Found_L1 N p0 p1) h (fun v1 => mk [(2, .e (.one (.ptr 2 0))), (3, .e (.one (.ptr 3 0))), (5, .e (.one (.own 2001))), (6, .e (.one (.pure (.val (.int .i64 v1.2)))))] [(2, .box [.pure (.sl (p0.fVersions.map eI64)), .pure (.sl (p0.fNow.map eI64)), .pure (.sl (p0.fTarget.map eI64)), .pure (.sl (p0.fTables.map eApiTable))]), (3, .box [.pure (.sl (p1.fBase.map eI64)), .pure (.sl (p1.fNext.map eI64)), .pure (.sl (p1.fHeld.map eU8))]), (2001, .vec 3 (v1.1.map eApiConflict))]) (fun v2 => mk [(5, .e (.one (.own 2002)))] [(2002, .vec 3 (v2.map eApiConflict))]) (fun _ _ => rfl) ((sees_adopt 5 2013 3 rfl rfl).trans (sees_mk (rn [(2001, 2013)]) _ _ ⟨rfl, rfl, rfl, rfl, trivial⟩ ⟨rfl, rfl, rfl, trivial⟩ rfl rfl)) (fun j1 n1 v1 h => ?_) (fun v2 s h hs => ?_)
  · unfold Sh.sheaveref36_Found_L1 at h
    refine W_seq ?_
    refine W_seq ?_
    refine W_region mixed rfl ?_
    refine r_move (.p rfl) rfl ?_
    refine r_fieldAddr (.p rfl) rfl fld31_3 ?_
    refine r_load1 (.p rfl) rfl ag29 rfl rfl ?_
    refine r_len (.p rfl) rfl (.sl _) trivial (List.length_map _) slc29 ?_
    refine r_bin (.p rfl) rfl rfl (bin_lss _ _ _ _ _ _) rfl ?_
    refine r_end ?_
    refine W_cond rfl (fun c3 => ?_) (fun c3 => ?_)
    · have h := cnd_t c3 h
      refine W_skip ?_
      refine W_seq ?_
      refine W_block ?_
      refine W_seq ?_
      refine W_region mixed rfl ?_
      refine r_fieldAddr (.p rfl) rfl fld31_3 ?_
      refine r_load1 (.p rfl) rfl ag29 rfl rfl ?_
      refine r_move (.p rfl) rfl ?_
      obtain ⟨v4, a4, b4, h⟩ := idx_bind h
      refine r_index (.p rfl) rfl rfl slc29 sz61 a4 (map_get b4) rfl ?_
      refine r_loadrN (.p rfl) rfl ag61 sz61 rfl rfl ?_
      refine r_alloc (.p rfl) zv61 rfl rfl rfl ?_
      refine r_store rfl rfl rfl rfl sz61 rfl (leb rfl) rfl ?_
      refine r_end ?_
      refine W_seq ?_
      refine W_region mixed rfl ?_
      refine r_loadN (.p rfl) rfl ag37 sz37 rfl rfl rfl ?_
      refine r_fieldAddr (.p rfl) rfl fld61_1 ?_
      refine r_load1 (.p rfl) rfl ag3 rfl rfl ?_
      obtain ⟨v5, a5, h⟩ := bind_some h
      refine r_call (ds0 := [_, _]) [] (sheaveref36_Running_c N p1 v4.fFrom v5 a5) (.p rfl) gd42 rfl ⟨rfl, rfl, trivial⟩ rfl rfl rfl (nodupB_spec rfl) trivial rfl ?_
      refine r_assign (.p rfl) rfl ?_
      refine r_end ?_
      refine W_join h (fun v6 => mk [(2, .e (.one (.ptr 2 0))), (3, .e (.one (.ptr 3 0))), (5, .e (.one (.own 2003))), (6, .e (.one (.pure (.val (.int .i64 v1.2))))), (7, .e (.one (.ptr 7 0))), (8, .e (.one (.pure (.val (.int .u8 v6)))))] [(2, .box [.pure (.sl (p0.fVersions.map eI64)), .pure (.sl (p0.fNow.map eI64)), .pure (.sl (p0.fTarget.map eI64)), .pure (.sl (p0.fTables.map eApiTable))]), (3, .box [.pure (.sl (p1.fBase.map eI64)), .pure (.sl (p1.fNext.map eI64)), .pure (.sl (p1.fHeld.map eU8))]), (7, .box [.pure (.val (.int .i64 v4.fKind)), .pure (.val (.int .i64 v4.fFrom)), .pure (.val (.int .i64 v4.fTo)), .pure (.val (.bool v4.fAware)), .pure (.sl (v4.fOK.map (eSl eB))), .pure (.sl (v4.fRewrite.map (eSl eB)))]), (2003, .vec 3 (v1.1.map eApiConflict))]) (fun j6 h => ?_) (fun v6 h => ?_)
      · refine W_seq ?_
        refine W_region mixed rfl ?_
        refine r_loadN (.p rfl) rfl ag61 sz61 rfl rfl rfl ?_
        obtain ⟨v7, a7, h⟩ := bind_some h
        refine r_call (ds0 := [_]) [] (sheaveref35_Stored_c N v4 v7 a7) (.p rfl) gd38 rfl ⟨rfl, trivial⟩ rfl rfl rfl (nodupB_spec rfl) trivial rfl ?_
        refine r_end ?_
        refine W_cond rfl (fun c8 => ?_) (fun c8 => ?_)
        · have h := cnd_t c8 h
          refine W_region mixed rfl ?_
          refine r_fieldAddr (.p rfl) rfl fld37_2 ?_
          refine r_load1 (.p rfl) rfl ag35 rfl rfl ?_
          refine r_move (.p rfl) rfl ?_
          obtain ⟨v9, a9, b9, h⟩ := idx_bind h
          refine r_index (.p rfl) rfl rfl slc35 sz80 a9 (map_get b9) rfl ?_
          refine r_loadr1 (.p rfl) rfl ag80 rfl ?_
          refine r_assign (.p rfl) rfl ?_
          refine r_end ?_
          exact sink v9 h (sees_mk (rn [(2003, 2001)]) _ _ ⟨rfl, rfl, rfl, rfl, rfl, rfl, trivial⟩ ⟨rfl, rfl, rfl, rfl, trivial⟩ rfl rfl)
        · have h := cnd_f c8 h
          refine W_skip ?_
          exact sink v5 h (sees_mk (rn [(2003, 2001)]) _ _ ⟨rfl, rfl, rfl, rfl, rfl, rfl, trivial⟩ ⟨rfl, rfl, rfl, rfl, trivial⟩ rfl rfl)
      · refine W_seq ?_
        refine W_region mixed rfl ?_
        refine r_assign (.p rfl) rfl ?_
        refine r_end ?_
        refine W_whileE (L := Sh.sheaveref36_Found_L10 N p0 p1 v1 v4 v6) h (fun v10 => mk [(2, .e (.one (.ptr 2 0))), (3, .e (.one (.ptr 3 0))), (5, .e (.one (.own 2004))), (6, .e (.one (.pure (.val (.int .i64 v1.2))))), (7, .e (.one (.ptr 7 0))), (8, .e (.one (.pure (.val (.int .u8 v6))))), (9, .e (.one (.pure (.val (.int .i64 v10.2)))))] [(2, .box [.pure (.sl (p0.fVersions.map eI64)), .pure (.sl (p0.fNow.map eI64)), .pure (.sl (p0.fTarget.map eI64)), .pure (.sl (p0.fTables.map eApiTable))]), (3, .box [.pure (.sl (p1.fBase.map eI64)), .pure (.sl (p1.fNext.map eI64)), .pure (.sl (p1.fHeld.map eU8))]), (7, .box [.pure (.val (.int .i64 v4.fKind)), .pure (.val (.int .i64 v4.fFrom)), .pure (.val (.int .i64 v4.fTo)), .pure (.val (.bool v4.fAware)), .pure (.sl (v4.fOK.map (eSl eB))), .pure (.sl (v4.fRewrite.map (eSl eB)))]), (2004, .vec 3 (v10.1.map eApiConflict))]) (fun v11 => mk [(2, .e (.one (.ptr 2 0))), (3, .e (.one (.ptr 3 0))), (5, .e (.one (.own 2005))), (6, .e (.one (.pure (.val (.int .i64 v1.2)))))] [(2, .box [.pure (.sl (p0.fVersions.map eI64)), .pure (.sl (p0.fNow.map eI64)), .pure (.sl (p0.fTarget.map eI64)), .pure (.sl (p0.fTables.map eApiTable))]), (3, .box [.pure (.sl (p1.fBase.map eI64)), .pure (.sl (p1.fNext.map eI64)), .pure (.sl (p1.fHeld.map eU8))]), (2005, .vec 3 (v11.map eApiConflict))]) (fun _ _ => rfl) (sees_mk (rn [(2004, 2003)]) _ _ ⟨rfl, rfl, rfl, rfl, rfl, rfl, rfl, trivial⟩ ⟨rfl, rfl, rfl, rfl, trivial⟩ rfl rfl) (fun j10 n10 v10 h => ?_) (fun v11 s h hs => ?_)
        · unfold Sh.sheaveref36_Found_L10 at h
          refine W_seq ?_
          refine W_seq ?_
          refine W_region mixed rfl ?_
          refine r_move (.p rfl) rfl ?_
          refine r_fieldAddr (.p rfl) rfl fld31_0 ?_
          refine r_load1 (.p rfl) rfl ag28 rfl rfl ?_
          refine r_fieldAddr (.p rfl) rfl fld61_1 ?_
          refine r_load1 (.p rfl) rfl ag3 rfl rfl ?_
          obtain ⟨v12, a12, b12, h⟩ := idx_bind h
          refine r_index (.p rfl) rfl rfl slc28 sz3 a12 (map_get b12) rfl ?_
          refine r_loadr1 (.p rfl) rfl ag3 rfl ?_
          refine r_bin (.p rfl) rfl rfl (bin_lss _ _ _ _ _ _) rfl ?_
          refine r_end ?_
          refine W_cond rfl (fun c13 => ?_) (fun c13 => ?_)
          · have h := cnd_t c13 h
            refine W_skip ?_
            refine W_join h (fun v14 => mk [(2, .e (.one (.ptr 2 0))), (3, .e (.one (.ptr 3 0))), (5, .e (.one (.own 2006))), (6, .e (.one (.pure (.val (.int .i64 v1.2))))), (7, .e (.one (.ptr 7 0))), (8, .e (.one (.pure (.val (.int .u8 v6))))), (9, .e (.one (.pure (.val (.int .i64 v10.2)))))] [(2, .box [.pure (.sl (p0.fVersions.map eI64)), .pure (.sl (p0.fNow.map eI64)), .pure (.sl (p0.fTarget.map eI64)), .pure (.sl (p0.fTables.map eApiTable))]), (3, .box [.pure (.sl (p1.fBase.map eI64)), .pure (.sl (p1.fNext.map eI64)), .pure (.sl (p1.fHeld.map eU8))]), (7, .box [.pure (.val (.int .i64 v4.fKind)), .pure (.val (.int .i64 v4.fFrom)), .pure (.val (.int .i64 v4.fTo)), .pure (.val (.bool v4.fAware)), .pure (.sl (v4.fOK.map (eSl eB))), .pure (.sl (v4.fRewrite.map (eSl eB)))]), (2006, .vec 3 (v14.map eApiConflict))]) (fun j14 h => ?_) (fun v14 h => ?_)
            · refine W_block ?_
              refine W_seq ?_
              refine W_seq ?_
              refine W_region mixed rfl ?_
              refine r_move (.p rfl) rfl ?_
              refine r_move (.p rfl) rfl ?_
              obtain ⟨v15, a15, h⟩ := bind_some h
              refine r_call (ds0 := [_, _]) [] (sheaveref36_Has_c N v6 v10.2 v15 a15) (.p rfl) gd44 rfl ⟨rfl, rfl, trivial⟩ rfl rfl rfl (nodupB_spec rfl) trivial rfl ?_
              refine r_un (.p rfl) rfl (un_not _) rfl ?_
              refine r_end ?_
              refine W_cond rfl (fun c16 => ?_) (fun c16 => ?_)
              · have h := cnd_t c16 h
                refine W_exit ?_
                exact sink v10.1 h (sees_mk (rn [(2006, 2004)]) _ _ ⟨rfl, rfl, rfl, rfl, rfl, rfl, rfl, trivial⟩ ⟨rfl, rfl, rfl, rfl, trivial⟩ rfl rfl)
              · have h := cnd_f c16 h
                refine W_skip ?_
                refine W_seq ?_
                refine W_region mixed rfl ?_
                refine r_assign (.p rfl) rfl ?_
                refine r_end ?_
                refine W_seq ?_
                refine W_seq ?_
                refine W_region mixed rfl ?_
                refine r_assign (.p rfl) rfl ?_
                refine r_end ?_
                refine W_whileE (L := Sh.sheaveref36_Found_L17 N p0 p1 v1 v4 v10) h (fun v17 => mk [(2, .e (.one (.ptr 2 0))), (3, .e (.one (.ptr 3 0))), (5, .e (.one (.own 2007))), (6, .e (.one (.pure (.val (.int .i64 v1.2))))), (7, .e (.one (.ptr 7 0))), (8, .e (.one (.pure (.val (.int .u8 v6))))), (9, .e (.one (.pure (.val (.int .i64 v10.2))))), (10, .e (.one (.pure (.val (.bool v17.2.1))))), (11, .e (.one (.pure (.val (.int .i64 v17.2.2)))))] [(2, .box [.pure (.sl (p0.fVersions.map eI64)), .pure (.sl (p0.fNow.map eI64)), .pure (.sl (p0.fTarget.map eI64)), .pure (.sl (p0.fTables.map eApiTable))]), (3, .box [.pure (.sl (p1.fBase.map eI64)), .pure (.sl (p1.fNext.map eI64)), .pure (.sl (p1.fHeld.map eU8))]), (7, .box [.pure (.val (.int .i64 v4.fKind)), .pure (.val (.int .i64 v4.fFrom)), .pure (.val (.int .i64 v4.fTo)), .pure (.val (.bool v4.fAware)), .pure (.sl (v4.fOK.map (eSl eB))), .pure (.sl (v4.fRewrite.map (eSl eB)))]), (2007, .vec 3 (v17.1.map eApiConflict))]) (fun v18 => mk [(2, .e (.one (.ptr 2 0))), (3, .e (.one (.ptr 3 0))), (5, .e (.one (.own 2008))), (6, .e (.one (.pure (.val (.int .i64 v1.2))))), (7, .e (.one (.ptr 7 0))), (8, .e (.one (.pure (.val (.int .u8 v6))))), (9, .e (.one (.pure (.val (.int .i64 v10.2))))), (10, .e (.one (.pure (.val (.bool v18.2)))))] [(2, .box [.pure (.sl (p0.fVersions.map eI64)), .pure (.sl (p0.fNow.map eI64)), .pure (.sl (p0.fTarget.map eI64)), .pure (.sl (p0.fTables.map eApiTable))]), (3, .box [.pure (.sl (p1.fBase.map eI64)), .pure (.sl (p1.fNext.map eI64)), .pure (.sl (p1.fHeld.map eU8))]), (7, .box [.pure (.val (.int .i64 v4.fKind)), .pure (.val (.int .i64 v4.fFrom)), .pure (.val (.int .i64 v4.fTo)), .pure (.val (.bool v4.fAware)), .pure (.sl (v4.fOK.map (eSl eB))), .pure (.sl (v4.fRewrite.map (eSl eB)))]), (2008, .vec 3 (v18.1.map eApiConflict))]) (fun _ _ => rfl) (sees_mk (rn [(2007, 2004)]) _ _ ⟨rfl, rfl, rfl, rfl, rfl, rfl, rfl, rfl, rfl, trivial⟩ ⟨rfl, rfl, rfl, rfl, trivial⟩ rfl rfl) (fun j17 n17 v17 h => ?_) (fun v18 s h hs => ?_)
                · unfold Sh.sheaveref36_Found_L17 at h
                  refine W_seq ?_
                  refine W_seq ?_
                  refine W_region mixed rfl ?_
                  refine r_move (.p rfl) rfl ?_
                  refine r_fieldAddr (.p rfl) rfl fld31_0 ?_
                  refine r_load1 (.p rfl) rfl ag28 rfl rfl ?_
                  refine r_fieldAddr (.p rfl) rfl fld61_2 ?_
                  refine r_load1 (.p rfl) rfl ag3 rfl rfl ?_
                  obtain ⟨v19, a19, b19, h⟩ := idx_bind h
                  refine r_index (.p rfl) rfl rfl slc28 sz3 a19 (map_get b19) rfl ?_
                  refine r_loadr1 (.p rfl) rfl ag3 rfl ?_
                  refine r_bin (.p rfl) rfl rfl (bin_lss _ _ _ _ _ _) rfl ?_
                  refine r_end ?_
                  refine W_cond rfl (fun c20 => ?_) (fun c20 => ?_)
                  · have h := cnd_t c20 h
                    refine W_skip ?_
                    refine W_join h (fun v21 => mk [(2, .e (.one (.ptr 2 0))), (3, .e (.one (.ptr 3 0))), (5, .e (.one (.own 2009))), (6, .e (.one (.pure (.val (.int .i64 v1.2))))), (7, .e (.one (.ptr 7 0))), (8, .e (.one (.pure (.val (.int .u8 v6))))), (9, .e (.one (.pure (.val (.int .i64 v10.2))))), (10, .e (.one (.pure (.val (.bool v21.2))))), (11, .e (.one (.pure (.val (.int .i64 v17.2.2)))))] [(2, .box [.pure (.sl (p0.fVersions.map eI64)), .pure (.sl (p0.fNow.map eI64)), .pure (.sl (p0.fTarget.map eI64)), .pure (.sl (p0.fTables.map eApiTable))]), (3, .box [.pure (.sl (p1.fBase.map eI64)), .pure (.sl (p1.fNext.map eI64)), .pure (.sl (p1.fHeld.map eU8))]), (7, .box [.pure (.val (.int .i64 v4.fKind)), .pure (.val (.int .i64 v4.fFrom)), .pure (.val (.int .i64 v4.fTo)), .pure (.val (.bool v4.fAware)), .pure (.sl (v4.fOK.map (eSl eB))), .pure (.sl (v4.fRewrite.map (eSl eB)))]), (2009, .vec 3 (v21.1.map eApiConflict))]) (fun j21 h => ?_) (fun v21 h => ?_)
                    · refine W_block ?_
                      refine W_seq ?_
                      refine W_seq ?_
                      refine W_region mixed rfl ?_
                      refine r_loadN (.p rfl) rfl ag37 sz37 rfl rfl rfl ?_
                      refine r_fieldAddr (.p rfl) rfl fld61_2 ?_
                      refine r_load1 (.p rfl) rfl ag3 rfl rfl ?_
                      obtain ⟨v22, a22, h⟩ := bind_some h
                      refine r_call (ds0 := [_, _]) [] (sheaveref36_Running_c N p1 v4.fTo v22 a22) (.p rfl) gd42 rfl ⟨rfl, rfl, trivial⟩ rfl rfl rfl (nodupB_spec rfl) trivial rfl ?_
                      refine r_move (.p rfl) rfl ?_
                      obtain ⟨v23, a23, h⟩ := bind_some h
                      refine r_call (ds0 := [_, _]) [] (sheaveref36_Has_c N v22 v17.2.2 v23 a23) (.p rfl) gd44 rfl ⟨rfl, rfl, trivial⟩ rfl rfl rfl (nodupB_spec rfl) trivial rfl ?_
                      refine r_un (.p rfl) rfl (un_not _) rfl ?_
                      refine r_end ?_
                      refine W_cond rfl (fun c24 => ?_) (fun c24 => ?_)
                      · have h := cnd_t c24 h
                        refine W_exit ?_
                        exact sink (v17.1, v17.2.1) h (sees_mk (rn [(2009, 2007)]) _ _ ⟨rfl, rfl, rfl, rfl, rfl, rfl, rfl, rfl, rfl, trivial⟩ ⟨rfl, rfl, rfl, rfl, trivial⟩ rfl rfl)
                      · have h := cnd_f c24 h
                        refine W_skip ?_
                        refine W_join h (fun v25 => mk [(2, .e (.one (.ptr 2 0))), (3, .e (.one (.ptr 3 0))), (5, .e (.one (.own 2010))), (6, .e (.one (.pure (.val (.int .i64 v1.2))))), (7, .e (.one (.ptr 7 0))), (8, .e (.one (.pure (.val (.int .u8 v6))))), (9, .e (.one (.pure (.val (.int .i64 v10.2))))), (10, .e (.one (.pure (.val (.bool v25))))), (11, .e (.one (.pure (.val (.int .i64 v17.2.2)))))] [(2, .box [.pure (.sl (p0.fVersions.map eI64)), .pure (.sl (p0.fNow.map eI64)), .pure (.sl (p0.fTarget.map eI64)), .pure (.sl (p0.fTables.map eApiTable))]), (3, .box [.pure (.sl (p1.fBase.map eI64)), .pure (.sl (p1.fNext.map eI64)), .pure (.sl (p1.fHeld.map eU8))]), (7, .box [.pure (.val (.int .i64 v4.fKind)), .pure (.val (.int .i64 v4.fFrom)), .pure (.val (.int .i64 v4.fTo)), .pure (.val (.bool v4.fAware)), .pure (.sl (v4.fOK.map (eSl eB))), .pure (.sl (v4.fRewrite.map (eSl eB)))]), (2010, .vec 3 (v17.1.map eApiConflict))]) (fun j25 h => ?_) (fun v25 h => ?_)
                        · refine W_region mixed rfl ?_
                          refine r_move (.p rfl) rfl ?_
                          refine r_move (.p rfl) rfl ?_
                          refine r_split (t := 67) rfl (fun c26 => ?_) (fun c26 => ?_)
                          · have h := cnd_t c26 h
                            refine r_notB rfl rfl ?_
                            refine r_notB rfl rfl ?_
                            refine r_notB rfl rfl ?_
                            refine r_notB rfl rfl ?_
                            refine r_notB rfl rfl ?_
                            refine r_notB rfl rfl ?_
                            refine r_notB rfl rfl ?_
                            refine r_notB rfl rfl ?_
                            refine r_pick (.p rfl) rfl rfl rfl ?_
                            refine r_assign (.p rfl) rfl ?_
                            refine r_end ?_
                            exact sink true h (sees_mk (rn [(2010, 2007)]) _ _ ⟨rfl, rfl, rfl, rfl, rfl, rfl, rfl, rfl, rfl, trivial⟩ ⟨rfl, rfl, rfl, rfl, trivial⟩ rfl rfl)
                          · have h := cnd_f c26 h
                            refine r_fieldAddr (.g rfl rfl) rfl fld61_4 ?_
                            refine r_load1 (.g rfl rfl) rfl ag59 rfl rfl ?_
                            refine r_move (.g rfl rfl) rfl ?_
                            obtain ⟨v27, a27, b27, h⟩ := idx_bind h
                            refine r_index (.g rfl rfl) rfl rfl slc59 sz65 a27 (map_get b27) rfl ?_
                            refine r_loadr1 (.g rfl rfl) rfl ag65 rfl ?_
                            refine r_move (.g rfl rfl) rfl ?_
                            obtain ⟨v28, a28, b28, h⟩ := idx_bind h
                            refine r_index (.g rfl rfl) rfl rfl slc65 sz4 a28 (map_get b28) rfl ?_
                            refine r_loadr1 (.g rfl rfl) rfl ag4 rfl ?_
                            refine r_pick (.p rfl) rfl rfl rfl ?_
                            refine r_assign (.p rfl) rfl ?_
                            refine r_end ?_
                            exact sink v28 h (sees_mk (rn [(2010, 2007)]) _ _ ⟨rfl, rfl, rfl, rfl, rfl, rfl, rfl, rfl, rfl, trivial⟩ ⟨rfl, rfl, rfl, rfl, trivial⟩ rfl rfl)
                        · refine W_join h (fun v29 => mk [(2, .e (.one (.ptr 2 0))), (3, .e (.one (.ptr 3 0))), (5, .e (.one (.own 2011))), (6, .e (.one (.pure (.val (.int .i64 v1.2))))), (7, .e (.one (.ptr 7 0))), (8, .e (.one (.pure (.val (.int .u8 v6))))), (9, .e (.one (.pure (.val (.int .i64 v10.2))))), (10, .e (.one (.pure (.val (.bool v25))))), (11, .e (.one (.pure (.val (.int .i64 v17.2.2))))), (90, .e (.one (.pure (.val (.bool v29)))))] [(2, .box [.pure (.sl (p0.fVersions.map eI64)), .pure (.sl (p0.fNow.map eI64)), .pure (.sl (p0.fTarget.map eI64)), .pure (.sl (p0.fTables.map eApiTable))]), (3, .box [.pure (.sl (p1.fBase.map eI64)), .pure (.sl (p1.fNext.map eI64)), .pure (.sl (p1.fHeld.map eU8))]), (7, .box [.pure (.val (.int .i64 v4.fKind)), .pure (.val (.int .i64 v4.fFrom)), .pure (.val (.int .i64 v4.fTo)), .pure (.val (.bool v4.fAware)), .pure (.sl (v4.fOK.map (eSl eB))), .pure (.sl (v4.fRewrite.map (eSl eB)))]), (2011, .vec 3 (v17.1.map eApiConflict))]) (fun j29 h => ?_) (fun v29 h => ?_)
                          · refine W_region mixed rfl ?_
                            refine r_fieldAddr (.p rfl) rfl fld61_3 ?_
                            refine r_load1 (.p rfl) rfl ag4 rfl rfl ?_
                            refine r_un (.p rfl) rfl (un_not _) rfl ?_
                            refine r_move (.p rfl) rfl ?_
                            refine r_split (t := 80) rfl (fun c30 => ?_) (fun c30 => ?_)
                            · have h := cnd_t c30 h
                              refine r_fieldAddr (.g rfl rfl) rfl fld61_4 ?_
                              refine r_load1 (.g rfl rfl) rfl ag59 rfl rfl ?_
                              refine r_move (.g rfl rfl) rfl ?_
                              obtain ⟨v31, a31, b31, h⟩ := idx_bind h
                              refine r_index (.g rfl rfl) rfl rfl slc59 sz65 a31 (map_get b31) rfl ?_
                              refine r_loadr1 (.g rfl rfl) rfl ag65 rfl ?_
                              refine r_move (.g rfl rfl) rfl ?_
                              obtain ⟨v32, a32, b32, h⟩ := idx_bind h
                              refine r_index (.g rfl rfl) rfl rfl slc65 sz4 a32 (map_get b32) rfl ?_
                              refine r_loadr1 (.g rfl rfl) rfl ag4 rfl ?_
                              refine r_un (.g rfl rfl) rfl (un_not _) rfl ?_
                              refine r_pick (.p rfl) rfl rfl rfl ?_
                              refine r_end ?_
                              exact sink (!v32) h (sees_mk (rn [(2011, 2010)]) _ _ ⟨rfl, rfl, rfl, rfl, rfl, rfl, rfl, rfl, rfl, rfl, trivial⟩ ⟨rfl, rfl, rfl, rfl, trivial⟩ rfl rfl)
                            · have h := cnd_f c30 h
                              refine r_notB rfl rfl ?_
                              refine r_notB rfl rfl ?_
                              refine r_notB rfl rfl ?_
                              refine r_notB rfl rfl ?_
                              refine r_notB rfl rfl ?_
                              refine r_notB rfl rfl ?_
                              refine r_notB rfl rfl ?_
                              refine r_notB rfl rfl ?_
                              refine r_notB rfl rfl ?_
                              refine r_pick (.p rfl) rfl rfl rfl ?_
                              refine r_end ?_
                              exact sink false h (sees_mk (rn [(2011, 2010)]) _ _ ⟨rfl, rfl, rfl, rfl, rfl, rfl, rfl, rfl, rfl, rfl, trivial⟩ ⟨rfl, rfl, rfl, rfl, trivial⟩ rfl rfl)
                          · refine W_cond rfl (fun c33 => ?_) (fun c33 => ?_)
                            · have h := cnd_t c33 h
                              refine W_region mixed rfl ?_
                              refine r_move (.p rfl) rfl ?_
                              refine r_move (.p rfl) rfl ?_
                              refine r_move (.p rfl) rfl ?_
                              refine r_move (.p rfl) rfl ?_
                              refine r_build [(0, .tmp 92, _), (1, .tmp 93, _), (2, .tmp 94, _)] (.p rfl) rfl ⟨rfl, rfl, rfl, trivial⟩ zv52 rfl rfl pl52 rfl ?_
                              refine r_buildSlice [(0, .tmp 95, _)] (.p rfl) rfl ⟨rfl, trivial⟩ rfl slc39 sz52 zv52 rfl rfl (leb rfl) rfl rfl ?_
                              obtain ⟨c34, h⟩ := chk_bind h
                              refine r_append (.p rfl) rfl (.own _ _ _) ⟨rfl, trivial⟩ rfl (.own _ _ _) ⟨rfl, trivial⟩ rfl slc39 slc39 sz52 byt52 (leb rfl) zv52 rfl (len_lim (f := eApiConflict) (g := eApiConflict) (xs := v17.1) (ys := (([(ApiConflict.mk v1.2 v10.2 v17.2.2)] : List ApiConflict))) c34) (map_app eApiConflict v17.1 (([(ApiConflict.mk v1.2 v10.2 v17.2.2)] : List ApiConflict))) ?_
                              refine r_assign (.p rfl) rfl ?_
                              refine r_end ?_
                              exact sink (v17.1 ++ (([(ApiConflict.mk v1.2 v10.2 v17.2.2)] : List ApiConflict)), v25) h (sees_mk (rn [(2009, 97)]) _ _ ⟨rfl, rfl, rfl, rfl, rfl, rfl, rfl, rfl, rfl, trivial⟩ ⟨rfl, rfl, rfl, rfl, trivial⟩ rfl rfl)
                            · have h := cnd_f c33 h
                              refine W_skip ?_
                              exact sink (v17.1, v25) h (sees_mk (rn [(2009, 2011)]) _ _ ⟨rfl, rfl, rfl, rfl, rfl, rfl, rfl, rfl, rfl, trivial⟩ ⟨rfl, rfl, rfl, rfl, trivial⟩ rfl rfl)
                    · refine W_region mixed rfl ?_
                      refine r_move (.p rfl) rfl ?_
                      refine r_bin (.p rfl) rfl rfl (bin_add _ _ _ _ _ _) rfl ?_
                      refine r_assign (.p rfl) rfl ?_
                      refine r_end ?_
                      exact sink (v21.1, v21.2, (IntKind.wrap .i64 (v17.2.2 + 1))) h (sees_mk (rn [(2007, 2009)]) _ _ ⟨rfl, rfl, rfl, rfl, rfl, rfl, rfl, rfl, rfl, trivial⟩ ⟨rfl, rfl, rfl, rfl, trivial⟩ rfl rfl)
                  · have h := cnd_f c20 h
                    refine W_exit ?_
                    exact sink (v17.1, v17.2.1) h (sees_mk (rn [(2008, 2007)]) _ _ ⟨rfl, rfl, rfl, rfl, rfl, rfl, rfl, rfl, trivial⟩ ⟨rfl, rfl, rfl, rfl, trivial⟩ rfl rfl)
                · refine W_sees hs ?_
                  refine W_join h (fun v35 => mk [(2, .e (.one (.ptr 2 0))), (3, .e (.one (.ptr 3 0))), (5, .e (.one (.own 2012))), (6, .e (.one (.pure (.val (.int .i64 v1.2))))), (7, .e (.one (.ptr 7 0))), (8, .e (.one (.pure (.val (.int .u8 v6))))), (9, .e (.one (.pure (.val (.int .i64 v10.2))))), (103, .e (.one (.pure (.val (.bool v35)))))] [(2, .box [.pure (.sl (p0.fVersions.map eI64)), .pure (.sl (p0.fNow.map eI64)), .pure (.sl (p0.fTarget.map eI64)), .pure (.sl (p0.fTables.map eApiTable))]), (3, .box [.pure (.sl (p1.fBase.map eI64)), .pure (.sl (p1.fNext.map eI64)), .pure (.sl (p1.fHeld.map eU8))]), (7, .box [.pure (.val (.int .i64 v4.fKind)), .pure (.val (.int .i64 v4.fFrom)), .pure (.val (.int .i64 v4.fTo)), .pure (.val (.bool v4.fAware)), .pure (.sl (v4.fOK.map (eSl eB))), .pure (.sl (v4.fRewrite.map (eSl eB)))]), (2012, .vec 3 (v18.1.map eApiConflict))]) (fun j35 h => ?_) (fun v35 h => ?_)
                  · refine W_region mixed rfl ?_
                    refine r_fieldAddr (.p rfl) rfl fld61_3 ?_
                    refine r_load1 (.p rfl) rfl ag4 rfl rfl ?_
                    refine r_move (.p rfl) rfl ?_
                    refine r_split (t := 100) rfl (fun c36 => ?_) (fun c36 => ?_)
                    · have h := cnd_t c36 h
                      refine r_move (.g rfl rfl) rfl ?_
                      refine r_un (.g rfl rfl) rfl (un_not _) rfl ?_
                      refine r_pick (.p rfl) rfl rfl rfl ?_
                      refine r_end ?_
                      exact sink (!v18.2) h (sees_mk (rn [(2012, 2008)]) _ _ ⟨rfl, rfl, rfl, rfl, rfl, rfl, rfl, rfl, trivial⟩ ⟨rfl, rfl, rfl, rfl, trivial⟩ rfl rfl)
                    · have h := cnd_f c36 h
                      refine r_notB rfl rfl ?_
                      refine r_notB rfl rfl ?_
                      refine r_pick (.p rfl) rfl rfl rfl ?_
                      refine r_end ?_
                      exact sink false h (sees_mk (rn [(2012, 2008)]) _ _ ⟨rfl, rfl, rfl, rfl, rfl, rfl, rfl, rfl, trivial⟩ ⟨rfl, rfl, rfl, rfl, trivial⟩ rfl rfl)
                  · refine W_cond rfl (fun c37 => ?_) (fun c37 => ?_)
                    · have h := cnd_t c37 h
                      refine W_region mixed rfl ?_
                      refine r_move (.p rfl) rfl ?_
                      refine r_move (.p rfl) rfl ?_
                      refine r_move (.p rfl) rfl ?_
                      refine r_build [(0, .tmp 105, _), (1, .tmp 106, _), (2, .const (.int .i64 (-1)), _)] (.p rfl) rfl ⟨rfl, rfl, rfl, trivial⟩ zv52 rfl rfl pl52 rfl ?_
                      refine r_buildSlice [(0, .tmp 107, _)] (.p rfl) rfl ⟨rfl, trivial⟩ rfl slc39 sz52 zv52 rfl rfl (leb rfl) rfl rfl ?_
                      obtain ⟨c38, h⟩ := chk_bind h
                      refine r_append (.p rfl) rfl (.own _ _ _) ⟨rfl, trivial⟩ rfl (.own _ _ _) ⟨rfl, trivial⟩ rfl slc39 slc39 sz52 byt52 (leb rfl) zv52 rfl (len_lim (f := eApiConflict) (g := eApiConflict) (xs := v18.1) (ys := (([(ApiConflict.mk v1.2 v10.2 ((-1)))] : List ApiConflict))) c38) (map_app eApiConflict v18.1 (([(ApiConflict.mk v1.2 v10.2 ((-1)))] : List ApiConflict))) ?_
                      refine r_assign (.p rfl) rfl ?_
                      refine r_end ?_
                      exact sink (v18.1 ++ (([(ApiConflict.mk v1.2 v10.2 ((-1)))] : List ApiConflict))) h (sees_mk (rn [(2006, 109)]) _ _ ⟨rfl, rfl, rfl, rfl, rfl, rfl, rfl, trivial⟩ ⟨rfl, rfl, rfl, rfl, trivial⟩ rfl rfl)
                    · have h := cnd_f c37 h
                      refine W_skip ?_
                      exact sink v18.1 h (sees_mk (rn [(2006, 2012)]) _ _ ⟨rfl, rfl, rfl, rfl, rfl, rfl, rfl, trivial⟩ ⟨rfl, rfl, rfl, rfl, trivial⟩ rfl rfl)
            · refine W_region mixed rfl ?_
              refine r_move (.p rfl) rfl ?_
              refine r_bin (.p rfl) rfl rfl (bin_add _ _ _ _ _ _) rfl ?_
              refine r_assign (.p rfl) rfl ?_
              refine r_end ?_
              exact sink (v14, (IntKind.wrap .i64 (v10.2 + 1))) h (sees_mk (rn [(2004, 2006)]) _ _ ⟨rfl, rfl, rfl, rfl, rfl, rfl, rfl, trivial⟩ ⟨rfl, rfl, rfl, rfl, trivial⟩ rfl rfl)
          · have h := cnd_f c13 h
            refine W_exit ?_
            exact sink v10.1 h (sees_mk (rn [(2005, 2004)]) _ _ ⟨rfl, rfl, rfl, rfl, trivial⟩ ⟨rfl, rfl, rfl, trivial⟩ rfl rfl)
        · refine W_sees hs ?_
          refine W_region mixed rfl ?_
          refine r_move (.p rfl) rfl ?_
          refine r_bin (.p rfl) rfl rfl (bin_add _ _ _ _ _ _) rfl ?_
          refine r_assign (.p rfl) rfl ?_
          refine r_end ?_
          exact sink (v11, (IntKind.wrap .i64 (v1.2 + 1))) h (sees_mk (rn [(2001, 2005)]) _ _ ⟨rfl, rfl, rfl, rfl, trivial⟩ ⟨rfl, rfl, rfl, trivial⟩ rfl rfl)
    · have h := cnd_f c3 h
      refine W_exit ?_
      exact sink v1.1 h (sees_mk (rn [(2002, 2001)]) _ _ ⟨rfl, trivial⟩ ⟨rfl, trivial⟩ rfl rfl)
  · refine W_sees hs ?_
    refine W_seq ?_
    refine W_region mixed rfl ?_
    refine r_move (.p rfl) rfl ?_
    refine r_assign (.p rfl) rfl ?_
    refine r_end ?_
    obtain rfl := Option.some.inj h
    refine W_sees (sees_mk (rn [(1000, 2002)]) [(4, .e (.one (.own 1000)))] [(1000, .vec 3 (v2.map eApiConflict))] ⟨rfl, trivial⟩ ⟨rfl, trivial⟩ rfl rfl) (W_ret ?_)
    exact ⟨⟨[_], ⟨.tmp _ _ rfl, trivial⟩, rfl⟩, ⟨rfl, trivial⟩⟩

set_option maxRecDepth 10000 in
theorem sheavelaw36_MixConflicts_c (N : Nat) (p0 : Sheaveref35Draft) (p1 : Sheaveref36Draft) (r : Bool) (h : Sh.sheavelaw36_MixConflicts N p0 p1 = some r) : Contract Try.prog 3 [.e (.agg [.pure (.sl (p0.fVersions.map eU8)), .pure (.sl (p0.fNow.map eU8)), .pure (.sl (p0.fTarget.map eU8)), .pure (.sl (p0.fLinks.map eSheaveref35Link))]), .e (.agg [.pure (.sl (p1.fBase.map eU8)), .pure (.sl (p1.fNext.map eU8)), .pure (.sl (p1.fHeld.map eU8))])] [] (.e (.one (.pure (.val (.bool r))))) := by
  unfold Sh.sheavelaw36_MixConflicts at h
  refine contract_of_W (n := 61) (rs := [.tmp 4]) Try.func3 rfl rfl rfl (leb rfl) rfl fun w0 S0 => ?_
  refine W_seq ?_
  refine W_region mixed rfl ?_
  refine r_box (.p rfl) rfl rfl ?_
  refine r_box (.p rfl) rfl rfl ?_
  refine r_assign (.p rfl) rfl ?_
  refine r_end ?_
  refine W_seq ?_
  refine W_region mixed rfl ?_
  refine r_loadN (.p rfl) rfl ag25 sz25 rfl rfl rfl ?_
  obtain ⟨v1, a1, h⟩ := bind_some h
  refine r_call (ds0 := [_]) [2001, 2002, 2003, 2004] (sheaveref35_Of_c N p0 v1 a1) (.p rfl) gd11 rfl ⟨rfl, trivial⟩ rfl rfl rfl (nodupB_spec rfl) ⟨rfl, rfl, rfl, rfl, trivial⟩ rfl ?_
  refine r_move (.p rfl) rfl ?_
  refine r_extract (.p rfl) rfl rfl ?_
  refine r_extract (.p rfl) rfl rfl ?_
  refine r_alloc (.p rfl) zv31 rfl rfl rfl ?_
  refine r_store rfl rfl rfl rfl sz31 rfl (leb rfl) rfl ?_
  refine r_assign (.p rfl) rfl ?_
  refine r_end ?_
  refine W_seq ?_
  refine W_join h (fun v2 => mk [(3, .e (.one (.ptr 3 0))), (5, .e (.one (.ptr 5 0))), (23, .e (.one (.pure (.val (.bool v2)))))] [(3, .box [.pure (.sl (p1.fBase.map eU8)), .pure (.sl (p1.fNext.map eU8)), .pure (.sl (p1.fHeld.map eU8))]), (5, .box [.own 2005, .own 2006, .own 2007, .own 2008]), (2005, .vec 1 (v1.1.fVersions.map eI64)), (2006, .vec 1 (v1.1.fNow.map eI64)), (2007, .vec 1 (v1.1.fTarget.map eI64)), (2008, .vec 6 (v1.1.fTables.map eApiTable))]) (fun j2 h => ?_) (fun v2 h => ?_)
  · refine W_region mixed rfl ?_
    obtain ⟨v3, a3, h⟩ := bind_some h
    refine r_call (ds0 := []) [] (sheavelaw36_awake_c N v3 a3) (.p rfl) gd12 rfl trivial rfl rfl rfl (nodupB_spec rfl) trivial rfl ?_
    refine r_un (.p rfl) rfl (un_not _) rfl ?_
    refine r_move (.p rfl) rfl ?_
    refine r_split (t := 20) rfl (fun c4 => ?_) (fun c4 => ?_)
    · have h := cnd_t c4 h
      refine r_notB rfl rfl ?_
      refine r_notB rfl rfl ?_
      refine r_pick (.p rfl) rfl rfl rfl ?_
      refine r_end ?_
      exact sink true h (sees_mk (rn [(2005, 2001), (2006, 2002), (2007, 2003), (2008, 2004)]) _ _ ⟨rfl, rfl, rfl, trivial⟩ ⟨rfl, rfl, rfl, rfl, rfl, rfl, trivial⟩ rfl rfl)
    · have h := cnd_f c4 h
      refine r_move (.g rfl rfl) rfl ?_
      refine r_un (.g rfl rfl) rfl (un_not _) rfl ?_
      refine r_pick (.p rfl) rfl rfl rfl ?_
      refine r_end ?_
      exact sink (!v1.2) h (sees_mk (rn [(2005, 2001), (2006, 2002), (2007, 2003), (2008, 2004)]) _ _ ⟨rfl, rfl, rfl, trivial⟩ ⟨rfl, rfl, rfl, rfl, rfl, rfl, trivial⟩ rfl rfl)
  · refine W_cond rfl (fun c5 => ?_) (fun c5 => ?_)
    · have h := cnd_t c5 h
      refine W_seq ?_
      refine W_region mixed rfl ?_
      obtain ⟨v6, a6, h⟩ := bind_some h
      refine r_call (ds0 := []) [] (sheavelaw36_awake_c N v6 a6) (.p rfl) gd12 rfl trivial rfl rfl rfl (nodupB_spec rfl) trivial rfl ?_
      refine r_assign (.p rfl) rfl ?_
      refine r_end ?_
      obtain rfl := Option.some.inj h
      refine W_sees (sees_mk (rn []) [(4, .e (.one (.pure (.val (.bool v6)))))] [] ⟨rfl, trivial⟩ trivial rfl rfl) (W_ret ?_)
      exact ⟨⟨[_], ⟨.tmp _ _ rfl, trivial⟩, rfl⟩, trivial⟩
    · have h := cnd_f c5 h
      refine W_skip ?_
      refine W_seq ?_
      refine W_region mixed rfl ?_
      refine r_loadN (.p rfl) rfl ag31 sz31 rfl rfl rfl ?_
      refine r_loadN (.p rfl) rfl ag27 sz27 rfl rfl rfl ?_
      obtain ⟨v7, a7, h⟩ := bind_some h
      refine r_callL (ds0 := [_, _]) [2009, 2010, 2011] [(2005, _), (2006, _), (2007, _), (2008, _)] (sheaveref36_Of_c N v1.1 p1 v7 a7) (.p rfl) gd13 rfl ⟨rfl, rfl, trivial⟩ ⟨rfl, rfl, rfl, rfl, trivial⟩ rfl rfl rfl (nodupB_spec rfl) ⟨rfl, rfl, rfl, trivial⟩ rfl (flatV_cons (fun _ => rfl) (flatV_cons (fun _ => rfl) (flatV_cons (fun _ => rfl) flatV_nil))) rfl ?_
      refine r_alloc (.p rfl) zv37 rfl rfl rfl ?_
      refine r_store rfl rfl rfl rfl sz37 rfl (leb rfl) rfl ?_
      refine r_end ?_
      refine W_seq ?_
      refine W_region mixed rfl ?_
      refine r_loadN (.p rfl) rfl ag31 sz31 rfl rfl rfl ?_
      refine r_loadN (.p rfl) rfl ag37 sz37 rfl rfl rfl ?_
      obtain ⟨v8, a8, h⟩ := bind_some h
      refine r_callL (ds0 := [_, _]) [2012] [(2005, _), (2006, _), (2007, _), (2008, _), (2009, _), (2010, _), (2011, _)] (mix_Conflicts_c N v1.1 v7 v8 a8) (.p rfl) gd14 rfl ⟨rfl, rfl, trivial⟩ ⟨rfl, rfl, rfl, rfl, rfl, rfl, rfl, trivial⟩ rfl rfl rfl (nodupB_spec rfl) ⟨rfl, trivial⟩ rfl (flatV_cons (fun _ => rfl) flatV_nil) rfl ?_
      refine r_move (.p rfl) rfl ?_
      refine r_extract (.p rfl) rfl rfl ?_
      refine r_extract (.p rfl) rfl rfl ?_
      refine r_assign (.p rfl) rfl ?_
      refine r_assign (.p rfl) rfl ?_
      refine r_end ?_
      refine W_seq ?_
      refine W_region mixed rfl ?_
      refine r_loadN (.p rfl) rfl ag31 sz31 rfl rfl rfl ?_
      refine r_loadN (.p rfl) rfl ag37 sz37 rfl rfl rfl ?_
      obtain ⟨v9, a9, h⟩ := bind_some h
      refine r_callL (ds0 := [_, _]) [] [(2005, _), (2006, _), (2007, _), (2008, _), (2009, _), (2010, _), (2011, _)] (mix_Safe_c N v1.1 v7 v9 a9) (.p rfl) gd15 rfl ⟨rfl, rfl, trivial⟩ ⟨rfl, rfl, rfl, rfl, rfl, rfl, rfl, trivial⟩ rfl rfl rfl (nodupB_spec rfl) trivial rfl flatV_nil rfl ?_
      refine r_move (.p rfl) rfl ?_
      refine r_extract (.p rfl) rfl rfl ?_
      refine r_extract (.p rfl) rfl rfl ?_
      refine r_assign (.p rfl) rfl ?_
      refine r_assign (.p rfl) rfl ?_
      refine r_end ?_
      refine W_seq ?_
      refine W_region mixed rfl ?_
      refine r_loadN (.p rfl) rfl ag31 sz31 rfl rfl rfl ?_
      refine r_loadN (.p rfl) rfl ag37 sz37 rfl rfl rfl ?_
      obtain ⟨v10, a10, h⟩ := bind_some h
      refine r_callL (ds0 := [_, _]) [2013] [(2005, _), (2006, _), (2007, _), (2008, _), (2009, _), (2010, _), (2011, _)] (sheaveref36_Found_c N v1.1 v7 v10 a10) (.p rfl) gd16 rfl ⟨rfl, rfl, trivial⟩ ⟨rfl, rfl, rfl, rfl, rfl, rfl, rfl, trivial⟩ rfl rfl rfl (nodupB_spec rfl) ⟨rfl, trivial⟩ rfl (flatV_cons (fun _ => rfl) flatV_nil) rfl ?_
      refine r_assign (.p rfl) rfl ?_
      refine r_end ?_
      refine W_join h (fun v11 => mk [(4, .e (.one (.pure (.val (.bool v11)))))] []) (fun j11 h => ?_) (fun v11 h => ?_)
      · refine W_region mixed rfl ?_
        refine r_move (.p rfl) rfl ?_
        refine r_bin (.p rfl) rfl rfl (bin_eql _ _ _ _ _ _) rfl ?_
        refine r_move (.p rfl) rfl ?_
        refine r_split (t := 45) rfl (fun c12 => ?_) (fun c12 => ?_)
        · have h := cnd_t c12 h
          refine r_move (.g rfl rfl) rfl ?_
          refine r_bin (.g rfl rfl) rfl rfl (bin_eql _ _ _ _ _ _) rfl ?_
          refine r_pick (.p rfl) rfl rfl rfl ?_
          refine r_move (.p rfl) rfl ?_
          refine r_split (t := 49) rfl (fun c13 => ?_) (fun c13 => ?_)
          · have h := cnd_t c13 h
            refine r_move (.g rfl rfl) rfl ?_
            refine r_move (.g rfl rfl) rfl ?_
            obtain ⟨v14, a14, h⟩ := bind_some h
            refine r_callL (ds0 := [_, _]) [] [(2012, _), (2013, _)] (sheaveref36_Conflicted_c N v8.1 v10 v14 a14) (.g rfl rfl) gd17 rfl ⟨rfl, rfl, trivial⟩ ⟨rfl, rfl, trivial⟩ rfl rfl rfl (nodupB_spec rfl) trivial rfl flatV_nil rfl ?_
            refine r_pick (.p rfl) rfl rfl rfl ?_
            refine r_move (.p rfl) rfl ?_
            refine r_split (t := 54) rfl (fun c15 => ?_) (fun c15 => ?_)
            · have h := cnd_t c15 h
              refine r_move (.g rfl rfl) rfl ?_
              refine r_move (.g rfl rfl) rfl ?_
              refine r_len (.g rfl rfl) rfl (.own _ _ _) ⟨rfl, trivial⟩ (List.length_map _) slc39 ?_
              refine r_bin (.g rfl rfl) rfl rfl (bin_eql _ _ _ _ _ _) rfl ?_
              refine r_bin (.g rfl rfl) rfl rfl (bin_eqlB _ _ _ _ bo4) rfl ?_
              refine r_pick (.p rfl) rfl rfl rfl ?_
              refine r_assign (.p rfl) rfl ?_
              refine r_end ?_
              exact sink (v9.1 == ((v10.length : Int) == 0)) h (sees_mk (rn []) _ _ ⟨rfl, trivial⟩ trivial rfl rfl)
            · have h := cnd_f c15 h
              refine r_notB rfl rfl ?_
              refine r_notB rfl rfl ?_
              refine r_notB rfl rfl ?_
              refine r_notB rfl rfl ?_
              refine r_notB rfl rfl ?_
              refine r_pick (.p rfl) rfl rfl rfl ?_
              refine r_assign (.p rfl) rfl ?_
              refine r_end ?_
              exact sink false h (sees_mk (rn []) _ _ ⟨rfl, trivial⟩ trivial rfl rfl)
          · have h := cnd_f c13 h
            refine r_notB rfl rfl ?_
            refine r_notB rfl rfl ?_
            refine r_notB rfl rfl ?_
            refine r_pick (.p rfl) rfl rfl rfl ?_
            refine r_move (.p rfl) rfl ?_
            refine r_notB rfl rfl ?_
            refine r_notB rfl rfl ?_
            refine r_notB rfl rfl ?_
            refine r_notB rfl rfl ?_
            refine r_notB rfl rfl ?_
            refine r_pick (.p rfl) rfl rfl rfl ?_
            refine r_assign (.p rfl) rfl ?_
            refine r_end ?_
            exact sink false h (sees_mk (rn []) _ _ ⟨rfl, trivial⟩ trivial rfl rfl)
        · have h := cnd_f c12 h
          refine r_notB rfl rfl ?_
          refine r_notB rfl rfl ?_
          refine r_pick (.p rfl) rfl rfl rfl ?_
          refine r_move (.p rfl) rfl ?_
          refine r_notB rfl rfl ?_
          refine r_notB rfl rfl ?_
          refine r_notB rfl rfl ?_
          refine r_pick (.p rfl) rfl rfl rfl ?_
          refine r_move (.p rfl) rfl ?_
          refine r_notB rfl rfl ?_
          refine r_notB rfl rfl ?_
          refine r_notB rfl rfl ?_
          refine r_notB rfl rfl ?_
          refine r_notB rfl rfl ?_
          refine r_pick (.p rfl) rfl rfl rfl ?_
          refine r_assign (.p rfl) rfl ?_
          refine r_end ?_
          exact sink false h (sees_mk (rn []) _ _ ⟨rfl, trivial⟩ trivial rfl rfl)
      · obtain rfl := Option.some.inj h
        refine W_sees (sees_mk (rn []) [(4, .e (.one (.pure (.val (.bool v11)))))] [] ⟨rfl, trivial⟩ trivial rfl rfl) (W_ret ?_)
        exact ⟨⟨[_], ⟨.tmp _ _ rfl, trivial⟩, rfl⟩, trivial⟩

set_option maxRecDepth 10000 in
theorem sheaveref35_square_c (N : Nat) (p0 : List (List Bool)) (p1 : Int) (p2 : Int) (r : Bool) (h : Sh.sheaveref35_square N p0 p1 p2 = some r) : Contract Try.prog 72 [.e (.one (.pure (.sl (p0.map (eSl eB))))), .e (.one (.pure (.val (.int .i64 p1)))), .e (.one (.pure (.val (.int .i64 p2))))] [] (.e (.one (.pure (.val (.bool r))))) := by
  unfold Sh.sheaveref35_square at h
  refine contract_of_W (n := 24) (rs := [.tmp 6]) Try.func72 rfl rfl rfl (leb rfl) rfl fun w0 S0 => ?_
  refine W_seq ?_
  refine W_region mixed rfl ?_
  refine r_assign (.p rfl) rfl ?_
  refine r_end ?_
  refine W_seq ?_
  refine W_seq ?_
  refine W_region mixed rfl ?_
  refine r_move (.p rfl) rfl ?_
  refine r_len (.p rfl) rfl (.sl _) trivial (List.length_map _) slc59 ?_
  refine r_move (.p rfl) rfl ?_
  refine r_bin (.p rfl) rfl rfl (bin_neq _ _ _ _ _ _) rfl ?_
  refine r_end ?_
  refine W_cond rfl (fun c1 => ?_) (fun c1 => ?_)
  · have h := cnd_t c1 h
    refine W_seq ?_
    refine W_region mixed rfl ?_
    refine r_assign (.p rfl) rfl ?_
    refine r_end ?_
    obtain rfl := Option.some.inj h
    refine W_sees (sees_mk (rn []) [(6, .e (.one (.pure (.val (.bool false)))))] [] ⟨rfl, trivial⟩ trivial rfl rfl) (W_ret ?_)
    exact ⟨⟨[_], ⟨.tmp _ _ rfl, trivial⟩, rfl⟩, trivial⟩
  · have h := cnd_f c1 h
    refine W_skip ?_
    refine W_seq ?_
    refine W_seq ?_
    refine W_region mixed rfl ?_
    refine r_assign (.p rfl) rfl ?_
    refine r_end ?_
    refine W_whileE (L := Sh.sheaveref35_square_L2 N p0 p1 p2) h (fun v2 => mk [(0, .e (.one (.pure (.sl (p0.map (eSl eB)))))), (1, .e (.one (.pure (.val (.int .i64 p1))))), (2, .e (.one (.pure (.val (.int .i64 p2))))), (7, .e (.one (.pure (.val (.int .i64 v2)))))] []) (fun v3 => mk [] []) (fun _ _ => rfl) (sees_mk (rn []) _ _ ⟨rfl, rfl, rfl, rfl, trivial⟩ trivial rfl rfl) (fun j2 n2 v2 h => ?_) (fun v3 s h hs => ?_)
    · unfold Sh.sheaveref35_square_L2 at h
      refine W_seq ?_
      refine W_seq ?_
      refine W_region mixed rfl ?_
      refine r_move (.p rfl) rfl ?_
      refine r_move (.p rfl) rfl ?_
      refine r_bin (.p rfl) rfl rfl (bin_lss _ _ _ _ _ _) rfl ?_
      refine r_end ?_
      refine W_cond rfl (fun c4 => ?_) (fun c4 => ?_)
      · have h := cnd_t c4 h
        refine W_skip ?_
        refine W_seq ?_
        refine W_block ?_
        refine W_seq ?_
        refine W_region mixed rfl ?_
        refine r_move (.p rfl) rfl ?_
        refine r_move (.p rfl) rfl ?_
        obtain ⟨v5, a5, b5, h⟩ := idx_bind h
        refine r_index (.p rfl) rfl rfl slc59 sz65 a5 (map_get b5) rfl ?_
        refine r_loadr1 (.p rfl) rfl ag65 rfl ?_
        refine r_len (.p rfl) rfl (.sl _) trivial (List.length_map _) slc65 ?_
        refine r_move (.p rfl) rfl ?_
        refine r_bin (.p rfl) rfl rfl (bin_neq _ _ _ _ _ _) rfl ?_
        refine r_end ?_
        refine W_cond rfl (fun c6 => ?_) (fun c6 => ?_)
        · have h := cnd_t c6 h
          refine W_seq ?_
          refine W_region mixed rfl ?_
          refine r_assign (.p rfl) rfl ?_
          refine r_end ?_
          obtain rfl := Option.some.inj h
          refine W_sees (sees_mk (rn []) [(6, .e (.one (.pure (.val (.bool false)))))] [] ⟨rfl, trivial⟩ trivial rfl rfl) (W_ret ?_)
          exact ⟨⟨[_], ⟨.tmp _ _ rfl, trivial⟩, rfl⟩, trivial⟩
        · have h := cnd_f c6 h
          refine W_skip ?_
          refine W_region mixed rfl ?_
          refine r_move (.p rfl) rfl ?_
          refine r_bin (.p rfl) rfl rfl (bin_add _ _ _ _ _ _) rfl ?_
          refine r_assign (.p rfl) rfl ?_
          refine r_end ?_
          exact sink (IntKind.wrap .i64 (v2 + 1)) h (sees_mk (rn []) _ _ ⟨rfl, rfl, rfl, rfl, trivial⟩ trivial rfl rfl)
      · have h := cnd_f c4 h
        refine W_exit ?_
        exact sink () h (sees_mk (rn []) _ _ trivial trivial rfl rfl)
    · refine W_sees hs ?_
      refine W_seq ?_
      refine W_region mixed rfl ?_
      refine r_assign (.p rfl) rfl ?_
      refine r_end ?_
      obtain rfl := Option.some.inj h
      refine W_sees (sees_mk (rn []) [(6, .e (.one (.pure (.val (.bool true)))))] [] ⟨rfl, trivial⟩ trivial rfl rfl) (W_ret ?_)
      exact ⟨⟨[_], ⟨.tmp _ _ rfl, trivial⟩, rfl⟩, trivial⟩

set_option maxRecDepth 10000 in
theorem sheaveref35_table_c (N : Nat) (p0 : ApiProblem) (p1 : ApiTable) (r : Int) (h : Sh.sheaveref35_table N p0 p1 = some r) : Contract Try.prog 64 [.e (.agg [.pure (.sl (p0.fVersions.map eI64)), .pure (.sl (p0.fNow.map eI64)), .pure (.sl (p0.fTarget.map eI64)), .pure (.sl (p0.fTables.map eApiTable))]), .e (.agg [.pure (.val (.int .i64 p1.fKind)), .pure (.val (.int .i64 p1.fFrom)), .pure (.val (.int .i64 p1.fTo)), .pure (.val (.bool p1.fAware)), .pure (.sl (p1.fOK.map (eSl eB))), .pure (.sl (p1.fRewrite.map (eSl eB)))])] [] (.e (.one (.pure (.val (.int .i64 r))))) := by
  unfold Sh.sheaveref35_table at h
  refine contract_of_W (n := 101) (rs := [.tmp 4]) Try.func64 rfl rfl rfl (leb rfl) rfl fun w0 S0 => ?_
  refine W_seq ?_
  refine W_region mixed rfl ?_
  refine r_box (.p rfl) rfl rfl ?_
  refine r_box (.p rfl) rfl rfl ?_
  refine r_assign (.p rfl) rfl ?_
  refine r_end ?_
  refine W_seq ?_
  refine W_join h (fun v1 => mk [(2, .e (.one (.ptr 2 0))), (3, .e (.one (.ptr 3 0))), (22, .e (.one (.pure (.val (.bool v1)))))] [(2, .box [.pure (.sl (p0.fVersions.map eI64)), .pure (.sl (p0.fNow.map eI64)), .pure (.sl (p0.fTarget.map eI64)), .pure (.sl (p0.fTables.map eApiTable))]), (3, .box [.pure (.val (.int .i64 p1.fKind)), .pure (.val (.int .i64 p1.fFrom)), .pure (.val (.int .i64 p1.fTo)), .pure (.val (.bool p1.fAware)), .pure (.sl (p1.fOK.map (eSl eB))), .pure (.sl (p1.fRewrite.map (eSl eB)))])]) (fun j1 h => ?_) (fun v1 h => ?_)
  · refine W_region mixed rfl ?_
    refine r_fieldAddr (.p rfl) rfl fld61_0 ?_
    refine r_load1 (.p rfl) rfl ag3 rfl rfl ?_
    refine r_bin (.p rfl) rfl rfl (bin_lss _ _ _ _ _ _) rfl ?_
    refine r_move (.p rfl) rfl ?_
    refine r_split (t := 10) rfl (fun c2 => ?_) (fun c2 => ?_)
    · have h := cnd_t c2 h
      refine r_notB rfl rfl ?_
      refine r_notB rfl rfl ?_
      refine r_notB rfl rfl ?_
      refine r_pick (.p rfl) rfl rfl rfl ?_
      refine r_move (.p rfl) rfl ?_
      refine r_notB rfl rfl ?_
      refine r_notB rfl rfl ?_
      refine r_notB rfl rfl ?_
      refine r_notU rfl rfl ?_
      refine r_notU rfl rfl ?_
      refine r_notB rfl rfl ?_
      refine r_pick (.p rfl) rfl rfl rfl ?_
      refine r_end ?_
      exact sink true h (sees_mk (rn []) _ _ ⟨rfl, rfl, rfl, trivial⟩ ⟨rfl, rfl, trivial⟩ rfl rfl)
    · have h := cnd_f c2 h
      refine r_fieldAddr (.g rfl rfl) rfl fld61_0 ?_
      refine r_load1 (.g rfl rfl) rfl ag3 rfl rfl ?_
      refine r_bin (.g rfl rfl) rfl rfl (bin_gtr _ _ _ _ _ _) rfl ?_
      refine r_pick (.p rfl) rfl rfl rfl ?_
      refine r_move (.p rfl) rfl ?_
      refine r_split (t := 15) rfl (fun c3 => ?_) (fun c3 => ?_)
      · have h := cnd_t c3 h
        refine r_notB rfl rfl ?_
        refine r_notB rfl rfl ?_
        refine r_notB rfl rfl ?_
        refine r_notU rfl rfl ?_
        refine r_notU rfl rfl ?_
        refine r_notB rfl rfl ?_
        refine r_pick (.p rfl) rfl rfl rfl ?_
        refine r_end ?_
        exact sink true h (sees_mk (rn []) _ _ ⟨rfl, rfl, rfl, trivial⟩ ⟨rfl, rfl, trivial⟩ rfl rfl)
      · have h := cnd_f c3 h
        refine r_fieldAddr (.g rfl rfl) rfl fld61_3 ?_
        refine r_load1 (.g rfl rfl) rfl ag4 rfl rfl ?_
        refine r_move (.g rfl rfl) rfl ?_
        refine r_split (t := 18) rfl (fun c4 => ?_) (fun c4 => ?_)
        · have h := cnd_t c4 h
          refine r_loadN (.g rfl rfl) rfl ag61 sz61 rfl rfl rfl ?_
          obtain ⟨v5, a5, h⟩ := bind_some h
          refine r_call (ds0 := [_]) [] (sheaveref35_Stored_c N p1 v5 a5) (.g rfl rfl) gd38 rfl ⟨rfl, trivial⟩ rfl rfl rfl (nodupB_spec rfl) trivial rfl ?_
          refine r_pick (.g rfl rfl) rfl rfl rfl ?_
          refine r_pick (.p rfl) rfl rfl rfl ?_
          refine r_end ?_
          exact sink v5 h (sees_mk (rn []) _ _ ⟨rfl, rfl, rfl, trivial⟩ ⟨rfl, rfl, trivial⟩ rfl rfl)
        · have h := cnd_f c4 h
          refine r_notB rfl rfl ?_
          refine r_notB rfl rfl ?_
          refine r_pick (.g rfl rfl) rfl rfl rfl ?_
          refine r_pick (.p rfl) rfl rfl rfl ?_
          refine r_end ?_
          exact sink false h (sees_mk (rn []) _ _ ⟨rfl, rfl, rfl, trivial⟩ ⟨rfl, rfl, trivial⟩ rfl rfl)
  · refine W_cond rfl (fun c6 => ?_) (fun c6 => ?_)
    · have h := cnd_t c6 h
      refine W_seq ?_
      refine W_region mixed rfl ?_
      refine r_assign (.p rfl) rfl ?_
      refine r_end ?_
      obtain rfl := Option.some.inj h
      refine W_sees (sees_mk (rn []) [(4, .e (.one (.pure (.val (.int .i64 1)))))] [] ⟨rfl, trivial⟩ trivial rfl rfl) (W_ret ?_)
      exact ⟨⟨[_], ⟨.tmp _ _ rfl, trivial⟩, rfl⟩, trivial⟩
    · have h := cnd_f c6 h
      refine W_skip ?_
      refine W_seq ?_
      refine W_region mixed rfl ?_
      refine r_fieldAddr (.p rfl) rfl fld31_0 ?_
      refine r_load1 (.p rfl) rfl ag28 rfl rfl ?_
      refine r_len (.p rfl) rfl (.sl _) trivial (List.length_map _) slc28 ?_
      refine r_assign (.p rfl) rfl ?_
      refine r_end ?_
      refine W_seq ?_
      refine W_join h (fun v7 => mk [(2, .e (.one (.ptr 2 0))), (3, .e (.one (.ptr 3 0))), (45, .e (.one (.pure (.val (.bool v7)))))] [(2, .box [.pure (.sl (p0.fVersions.map eI64)), .pure (.sl (p0.fNow.map eI64)), .pure (.sl (p0.fTarget.map eI64)), .pure (.sl (p0.fTables.map eApiTable))]), (3, .box [.pure (.val (.int .i64 p1.fKind)), .pure (.val (.int .i64 p1.fFrom)), .pure (.val (.int .i64 p1.fTo)), .pure (.val (.bool p1.fAware)), .pure (.sl (p1.fOK.map (eSl eB))), .pure (.sl (p1.fRewrite.map (eSl eB)))])]) (fun j7 h => ?_) (fun v7 h => ?_)
      · refine W_region mixed rfl ?_
        refine r_fieldAddr (.p rfl) rfl fld61_1 ?_
        refine r_load1 (.p rfl) rfl ag3 rfl rfl ?_
        refine r_bin (.p rfl) rfl rfl (bin_lss _ _ _ _ _ _) rfl ?_
        refine r_move (.p rfl) rfl ?_
        refine r_split (t := 29) rfl (fun c8 => ?_) (fun c8 => ?_)
        · have h := cnd_t c8 h
          refine r_notB rfl rfl ?_
          refine r_notB rfl rfl ?_
          refine r_notB rfl rfl ?_
          refine r_notB rfl rfl ?_
          refine r_pick (.p rfl) rfl rfl rfl ?_
          refine r_move (.p rfl) rfl ?_
          refine r_notB rfl rfl ?_
          refine r_notB rfl rfl ?_
          refine r_notB rfl rfl ?_
          refine r_pick (.p rfl) rfl rfl rfl ?_
          refine r_move (.p rfl) rfl ?_
          refine r_notB rfl rfl ?_
          refine r_notB rfl rfl ?_
          refine r_notB rfl rfl ?_
          refine r_notB rfl rfl ?_
          refine r_pick (.p rfl) rfl rfl rfl ?_
          refine r_end ?_
          exact sink true h (sees_mk (rn []) _ _ ⟨rfl, rfl, rfl, trivial⟩ ⟨rfl, rfl, trivial⟩ rfl rfl)
        · have h := cnd_f c8 h
          refine r_fieldAddr (.g rfl rfl) rfl fld61_1 ?_
          refine r_load1 (.g rfl rfl) rfl ag3 rfl rfl ?_
          refine r_move (.g rfl rfl) rfl ?_
          refine r_bin (.g rfl rfl) rfl rfl (bin_geq _ _ _ _ _ _) rfl ?_
          refine r_pick (.p rfl) rfl rfl rfl ?_
          refine r_move (.p rfl) rfl ?_
          refine r_split (t := 35) rfl (fun c9 => ?_) (fun c9 => ?_)
          · have h := cnd_t c9 h
            refine r_notB rfl rfl ?_
            refine r_notB rfl rfl ?_
            refine r_notB rfl rfl ?_
            refine r_pick (.p rfl) rfl rfl rfl ?_
            refine r_move (.p rfl) rfl ?_
            refine r_notB rfl rfl ?_
            refine r_notB rfl rfl ?_
            refine r_notB rfl rfl ?_
            refine r_notB rfl rfl ?_
            refine r_pick (.p rfl) rfl rfl rfl ?_
            refine r_end ?_
            exact sink true h (sees_mk (rn []) _ _ ⟨rfl, rfl, rfl, trivial⟩ ⟨rfl, rfl, trivial⟩ rfl rfl)
          · have h := cnd_f c9 h
            refine r_fieldAddr (.g rfl rfl) rfl fld61_2 ?_
            refine r_load1 (.g rfl rfl) rfl ag3 rfl rfl ?_
            refine r_bin (.g rfl rfl) rfl rfl (bin_lss _ _ _ _ _ _) rfl ?_
            refine r_pick (.p rfl) rfl rfl rfl ?_
            refine r_move (.p rfl) rfl ?_
            refine r_split (t := 40) rfl (fun c10 => ?_) (fun c10 => ?_)
            · have h := cnd_t c10 h
              refine r_notB rfl rfl ?_
              refine r_notB rfl rfl ?_
              refine r_notB rfl rfl ?_
              refine r_notB rfl rfl ?_
              refine r_pick (.p rfl) rfl rfl rfl ?_
              refine r_end ?_
              exact sink true h (sees_mk (rn []) _ _ ⟨rfl, rfl, rfl, trivial⟩ ⟨rfl, rfl, trivial⟩ rfl rfl)
            · have h := cnd_f c10 h
              refine r_fieldAddr (.g rfl rfl) rfl fld61_2 ?_
              refine r_load1 (.g rfl rfl) rfl ag3 rfl rfl ?_
              refine r_move (.g rfl rfl) rfl ?_
              refine r_bin (.g rfl rfl) rfl rfl (bin_geq _ _ _ _ _ _) rfl ?_
              refine r_pick (.p rfl) rfl rfl rfl ?_
              refine r_end ?_
              exact sink (decide ((p0.fVersions.length : Int) ≤ p1.fTo)) h (sees_mk (rn []) _ _ ⟨rfl, rfl, rfl, trivial⟩ ⟨rfl, rfl, trivial⟩ rfl rfl)
      · refine W_cond rfl (fun c11 => ?_) (fun c11 => ?_)
        · have h := cnd_t c11 h
          refine W_seq ?_
          refine W_region mixed rfl ?_
          refine r_assign (.p rfl) rfl ?_
          refine r_end ?_
          obtain rfl := Option.some.inj h
          refine W_sees (sees_mk (rn []) [(4, .e (.one (.pure (.val (.int .i64 4)))))] [] ⟨rfl, trivial⟩ trivial rfl rfl) (W_ret ?_)
          exact ⟨⟨[_], ⟨.tmp _ _ rfl, trivial⟩, rfl⟩, trivial⟩
        · have h := cnd_f c11 h
          refine W_skip ?_
          refine W_seq ?_
          refine W_seq ?_
          refine W_region mixed rfl ?_
          refine r_fieldAddr (.p rfl) rfl fld61_4 ?_
          refine r_load1 (.p rfl) rfl ag59 rfl rfl ?_
          refine r_fieldAddr (.p rfl) rfl fld31_0 ?_
          refine r_load1 (.p rfl) rfl ag28 rfl rfl ?_
          refine r_fieldAddr (.p rfl) rfl fld61_1 ?_
          refine r_load1 (.p rfl) rfl ag3 rfl rfl ?_
          obtain ⟨v12, a12, b12, h⟩ := idx_bind h
          refine r_index (.p rfl) rfl rfl slc28 sz3 a12 (map_get b12) rfl ?_
          refine r_loadr1 (.p rfl) rfl ag3 rfl ?_
          refine r_fieldAddr (.p rfl) rfl fld31_0 ?_
          refine r_load1 (.p rfl) rfl ag28 rfl rfl ?_
          refine r_fieldAddr (.p rfl) rfl fld61_2 ?_
          refine r_load1 (.p rfl) rfl ag3 rfl rfl ?_
          obtain ⟨v13, a13, b13, h⟩ := idx_bind h
          refine r_index (.p rfl) rfl rfl slc28 sz3 a13 (map_get b13) rfl ?_
          refine r_loadr1 (.p rfl) rfl ag3 rfl ?_
          obtain ⟨v14, a14, h⟩ := bind_some h
          refine r_call (ds0 := [_, _, _]) [] (sheaveref35_square_c N p1.fOK v12 v13 v14 a14) (.p rfl) gd72 rfl ⟨rfl, rfl, rfl, trivial⟩ rfl rfl rfl (nodupB_spec rfl) trivial rfl ?_
          refine r_un (.p rfl) rfl (un_not _) rfl ?_
          refine r_endD (by kernel_rfl) ?_
          refine W_cond rfl (fun c15 => ?_) (fun c15 => ?_)
          · have h := cnd_t c15 h
            refine W_seq ?_
            refine W_region mixed rfl ?_
            refine r_assign (.p rfl) rfl ?_
            refine r_end ?_
            obtain rfl := Option.some.inj h
            refine W_sees (sees_mk (rn []) [(4, .e (.one (.pure (.val (.int .i64 6)))))] [] ⟨rfl, trivial⟩ trivial rfl rfl) (W_ret ?_)
            exact ⟨⟨[_], ⟨.tmp _ _ rfl, trivial⟩, rfl⟩, trivial⟩
          · have h := cnd_f c15 h
            refine W_skip ?_
            refine W_seq ?_
            refine W_seq ?_
            refine W_region mixed rfl ?_
            refine r_fieldAddr (.p rfl) rfl fld61_0 ?_
            refine r_load1 (.p rfl) rfl ag3 rfl rfl ?_
            refine r_bin (.p rfl) rfl rfl (bin_neq _ _ _ _ _ _) rfl ?_
            refine r_end ?_
            refine W_cond rfl (fun c16 => ?_) (fun c16 => ?_)
            · have h := cnd_t c16 h
              refine W_seq ?_
              refine W_seq ?_
              refine W_region mixed rfl ?_
              refine r_fieldAddr (.p rfl) rfl fld61_5 ?_
              refine r_load1 (.p rfl) rfl ag59 rfl rfl ?_
              refine r_len (.p rfl) rfl (.sl _) trivial (List.length_map _) slc59 ?_
              refine r_bin (.p rfl) rfl rfl (bin_neq _ _ _ _ _ _) rfl ?_
              refine r_end ?_
              refine W_cond rfl (fun c17 => ?_) (fun c17 => ?_)
              · have h := cnd_t c17 h
                refine W_seq ?_
                refine W_region mixed rfl ?_
                refine r_assign (.p rfl) rfl ?_
                refine r_end ?_
                obtain rfl := Option.some.inj h
                refine W_sees (sees_mk (rn []) [(4, .e (.one (.pure (.val (.int .i64 6)))))] [] ⟨rfl, trivial⟩ trivial rfl rfl) (W_ret ?_)
                exact ⟨⟨[_], ⟨.tmp _ _ rfl, trivial⟩, rfl⟩, trivial⟩
              · have h := cnd_f c17 h
                refine W_skip ?_
                refine W_seq ?_
                refine W_region mixed rfl ?_
                refine r_assign (.p rfl) rfl ?_
                refine r_end ?_
                obtain rfl := Option.some.inj h
                refine W_sees (sees_mk (rn []) [(4, .e (.one (.pure (.val (.int .i64 0)))))] [] ⟨rfl, trivial⟩ trivial rfl rfl) (W_ret ?_)
                exact ⟨⟨[_], ⟨.tmp _ _ rfl, trivial⟩, rfl⟩, trivial⟩
            · have h := cnd_f c16 h
              refine W_skip ?_
              refine W_seq ?_
              refine W_seq ?_
              refine W_region mixed rfl ?_
              refine r_fieldAddr (.p rfl) rfl fld61_5 ?_
              refine r_load1 (.p rfl) rfl ag59 rfl rfl ?_
              refine r_fieldAddr (.p rfl) rfl fld31_0 ?_
              refine r_load1 (.p rfl) rfl ag28 rfl rfl ?_
              refine r_fieldAddr (.p rfl) rfl fld61_1 ?_
              refine r_load1 (.p rfl) rfl ag3 rfl rfl ?_
              obtain ⟨v18, a18, b18, h⟩ := idx_bind h
              refine r_index (.p rfl) rfl rfl slc28 sz3 a18 (map_get b18) rfl ?_
              refine r_loadr1 (.p rfl) rfl ag3 rfl ?_
              refine r_fieldAddr (.p rfl) rfl fld31_0 ?_
              refine r_load1 (.p rfl) rfl ag28 rfl rfl ?_
              refine r_fieldAddr (.p rfl) rfl fld61_1 ?_
              refine r_load1 (.p rfl) rfl ag3 rfl rfl ?_
              obtain ⟨v19, a19, b19, h⟩ := idx_bind h
              refine r_index (.p rfl) rfl rfl slc28 sz3 a19 (map_get b19) rfl ?_
              refine r_loadr1 (.p rfl) rfl ag3 rfl ?_
              obtain ⟨v20, a20, h⟩ := bind_some h
              refine r_call (ds0 := [_, _, _]) [] (sheaveref35_square_c N p1.fRewrite v18 v19 v20 a20) (.p rfl) gd72 rfl ⟨rfl, rfl, rfl, trivial⟩ rfl rfl rfl (nodupB_spec rfl) trivial rfl ?_
              refine r_un (.p rfl) rfl (un_not _) rfl ?_
              refine r_endD (by kernel_rfl) ?_
              refine W_cond rfl (fun c21 => ?_) (fun c21 => ?_)
              · have h := cnd_t c21 h
                refine W_seq ?_
                refine W_region mixed rfl ?_
                refine r_assign (.p rfl) rfl ?_
                refine r_end ?_
                obtain rfl := Option.some.inj h
                refine W_sees (sees_mk (rn []) [(4, .e (.one (.pure (.val (.int .i64 6)))))] [] ⟨rfl, trivial⟩ trivial rfl rfl) (W_ret ?_)
                exact ⟨⟨[_], ⟨.tmp _ _ rfl, trivial⟩, rfl⟩, trivial⟩
              · have h := cnd_f c21 h
                refine W_skip ?_
                refine W_seq ?_
                refine W_seq ?_
                refine W_region mixed rfl ?_
                refine r_assign (.p rfl) rfl ?_
                refine r_end ?_
                refine W_whileE (L := Sh.sheaveref35_table_L22 N p1) h (fun v22 => mk [(3, .e (.one (.ptr 3 0))), (6, .e (.one (.pure (.val (.int .i64 v22)))))] [(3, .box [.pure (.val (.int .i64 p1.fKind)), .pure (.val (.int .i64 p1.fFrom)), .pure (.val (.int .i64 p1.fTo)), .pure (.val (.bool p1.fAware)), .pure (.sl (p1.fOK.map (eSl eB))), .pure (.sl (p1.fRewrite.map (eSl eB)))])]) (fun v23 => mk [] []) (fun _ _ => rfl) (sees_mk (rn []) _ _ ⟨rfl, rfl, trivial⟩ ⟨rfl, trivial⟩ rfl rfl) (fun j22 n22 v22 h => ?_) (fun v23 s h hs => ?_)
                · unfold Sh.sheaveref35_table_L22 at h
                  refine W_seq ?_
                  refine W_seq ?_
                  refine W_region mixed rfl ?_
                  refine r_move (.p rfl) rfl ?_
                  refine r_fieldAddr (.p rfl) rfl fld61_5 ?_
                  refine r_load1 (.p rfl) rfl ag59 rfl rfl ?_
                  refine r_len (.p rfl) rfl (.sl _) trivial (List.length_map _) slc59 ?_
                  refine r_bin (.p rfl) rfl rfl (bin_lss _ _ _ _ _ _) rfl ?_
                  refine r_end ?_
                  refine W_cond rfl (fun c24 => ?_) (fun c24 => ?_)
                  · have h := cnd_t c24 h
                    refine W_skip ?_
                    refine W_seq ?_
                    refine W_block ?_
                    refine W_seq ?_
                    refine W_region mixed rfl ?_
                    refine r_fieldAddr (.p rfl) rfl fld61_5 ?_
                    refine r_load1 (.p rfl) rfl ag59 rfl rfl ?_
                    refine r_move (.p rfl) rfl ?_
                    obtain ⟨v25, a25, b25, h⟩ := idx_bind h
                    refine r_index (.p rfl) rfl rfl slc59 sz65 a25 (map_get b25) rfl ?_
                    refine r_loadr1 (.p rfl) rfl ag65 rfl ?_
                    refine r_move (.p rfl) rfl ?_
                    obtain ⟨v26, a26, b26, h⟩ := idx_bind h
                    refine r_index (.p rfl) rfl rfl slc65 sz4 a26 (map_get b26) rfl ?_
                    refine r_loadr1 (.p rfl) rfl ag4 rfl ?_
                    refine r_un (.p rfl) rfl (un_not _) rfl ?_
                    refine r_end ?_
                    refine W_cond rfl (fun c27 => ?_) (fun c27 => ?_)
                    · have h := cnd_t c27 h
                      refine W_seq ?_
                      refine W_region mixed rfl ?_
                      refine r_assign (.p rfl) rfl ?_
                      refine r_end ?_
                      obtain rfl := Option.some.inj h
                      refine W_sees (sees_mk (rn []) [(4, .e (.one (.pure (.val (.int .i64 1)))))] [] ⟨rfl, trivial⟩ trivial rfl rfl) (W_ret ?_)
                      exact ⟨⟨[_], ⟨.tmp _ _ rfl, trivial⟩, rfl⟩, trivial⟩
                    · have h := cnd_f c27 h
                      refine W_skip ?_
                      refine W_region mixed rfl ?_
                      refine r_move (.p rfl) rfl ?_
                      refine r_bin (.p rfl) rfl rfl (bin_add _ _ _ _ _ _) rfl ?_
                      refine r_assign (.p rfl) rfl ?_
                      refine r_end ?_
                      exact sink (IntKind.wrap .i64 (v22 + 1)) h (sees_mk (rn []) _ _ ⟨rfl, rfl, trivial⟩ ⟨rfl, trivial⟩ rfl rfl)
                  · have h := cnd_f c24 h
                    refine W_exit ?_
                    exact sink () h (sees_mk (rn []) _ _ trivial trivial rfl rfl)
                · refine W_sees hs ?_
                  refine W_seq ?_
                  refine W_region mixed rfl ?_
                  refine r_assign (.p rfl) rfl ?_
                  refine r_end ?_
                  obtain rfl := Option.some.inj h
                  refine W_sees (sees_mk (rn []) [(4, .e (.one (.pure (.val (.int .i64 0)))))] [] ⟨rfl, trivial⟩ trivial rfl rfl) (W_ret ?_)
                  exact ⟨⟨[_], ⟨.tmp _ _ rfl, trivial⟩, rfl⟩, trivial⟩

set_option maxRecDepth 10000 in
theorem sheaveref35_ValidProblem_c (N : Nat) (p0 : ApiProblem) (r : Int) (h : Sh.sheaveref35_ValidProblem N p0 = some r) : Contract Try.prog 50 [.e (.agg [.pure (.sl (p0.fVersions.map eI64)), .pure (.sl (p0.fNow.map eI64)), .pure (.sl (p0.fTarget.map eI64)), .pure (.sl (p0.fTables.map eApiTable))])] [] (.e (.one (.pure (.val (.int .i64 r))))) := by
  unfold Sh.sheaveref35_ValidProblem at h
  refine contract_of_W (n := 102) (rs := [.tmp 2]) Try.func50 rfl rfl rfl (leb rfl) rfl fun w0 S0 => ?_
  refine W_seq ?_
  refine W_region mixed rfl ?_
  refine r_box (.p rfl) rfl rfl ?_
  refine r_assign (.p rfl) rfl ?_
  refine r_end ?_
  refine W_seq ?_
  refine W_join h (fun v1 => mk [(1, .e (.one (.ptr 1 0))), (16, .e (.one (.pure (.val (.bool v1)))))] [(1, .box [.pure (.sl (p0.fVersions.map eI64)), .pure (.sl (p0.fNow.map eI64)), .pure (.sl (p0.fTarget.map eI64)), .pure (.sl (p0.fTables.map eApiTable))])]) (fun j1 h => ?_) (fun v1 h => ?_)
  · refine W_region mixed rfl ?_
    refine r_fieldAddr (.p rfl) rfl fld31_0 ?_
    refine r_load1 (.p rfl) rfl ag28 rfl rfl ?_
    refine r_len (.p rfl) rfl (.sl _) trivial (List.length_map _) slc28 ?_
    refine r_bin (.p rfl) rfl rfl (bin_gtr _ _ _ _ _ _) rfl ?_
    refine r_move (.p rfl) rfl ?_
    refine r_split (t := 11) rfl (fun c2 => ?_) (fun c2 => ?_)
    · have h := cnd_t c2 h
      refine r_notB rfl rfl ?_
      refine r_notB rfl rfl ?_
      refine r_notB rfl rfl ?_
      refine r_notB rfl rfl ?_
      refine r_pick (.p rfl) rfl rfl rfl ?_
      refine r_end ?_
      exact sink true h (sees_mk (rn []) _ _ ⟨rfl, rfl, trivial⟩ ⟨rfl, trivial⟩ rfl rfl)
    · have h := cnd_f c2 h
      refine r_fieldAddr (.g rfl rfl) rfl fld31_3 ?_
      refine r_load1 (.g rfl rfl) rfl ag29 rfl rfl ?_
      refine r_len (.g rfl rfl) rfl (.sl _) trivial (List.length_map _) slc29 ?_
      refine r_bin (.g rfl rfl) rfl rfl (bin_gtr _ _ _ _ _ _) rfl ?_
      refine r_pick (.p rfl) rfl rfl rfl ?_
      refine r_end ?_
      exact sink (decide (12 < (p0.fTables.length : Int))) h (sees_mk (rn []) _ _ ⟨rfl, rfl, trivial⟩ ⟨rfl, trivial⟩ rfl rfl)
  · refine W_cond rfl (fun c3 => ?_) (fun c3 => ?_)
    · have h := cnd_t c3 h
      refine W_seq ?_
      refine W_region mixed rfl ?_
      refine r_assign (.p rfl) rfl ?_
      refine r_end ?_
      obtain rfl := Option.some.inj h
      refine W_sees (sees_mk (rn []) [(2, .e (.one (.pure (.val (.int .i64 3)))))] [] ⟨rfl, trivial⟩ trivial rfl rfl) (W_ret ?_)
      exact ⟨⟨[_], ⟨.tmp _ _ rfl, trivial⟩, rfl⟩, trivial⟩
    · have h := cnd_f c3 h
      refine W_skip ?_
      refine W_seq ?_
      refine W_join h (fun v4 => mk [(1, .e (.one (.ptr 1 0))), (32, .e (.one (.pure (.val (.bool v4)))))] [(1, .box [.pure (.sl (p0.fVersions.map eI64)), .pure (.sl (p0.fNow.map eI64)), .pure (.sl (p0.fTarget.map eI64)), .pure (.sl (p0.fTables.map eApiTable))])]) (fun j4 h => ?_) (fun v4 h => ?_)
      · refine W_region mixed rfl ?_
        refine r_fieldAddr (.p rfl) rfl fld31_1 ?_
        refine r_load1 (.p rfl) rfl ag28 rfl rfl ?_
        refine r_len (.p rfl) rfl (.sl _) trivial (List.length_map _) slc28 ?_
        refine r_fieldAddr (.p rfl) rfl fld31_0 ?_
        refine r_load1 (.p rfl) rfl ag28 rfl rfl ?_
        refine r_len (.p rfl) rfl (.sl _) trivial (List.length_map _) slc28 ?_
        refine r_bin (.p rfl) rfl rfl (bin_neq _ _ _ _ _ _) rfl ?_
        refine r_move (.p rfl) rfl ?_
        refine r_split (t := 24) rfl (fun c5 => ?_) (fun c5 => ?_)
        · have h := cnd_t c5 h
          refine r_notB rfl rfl ?_
          refine r_notB rfl rfl ?_
          refine r_notB rfl rfl ?_
          refine r_notB rfl rfl ?_
          refine r_notB rfl rfl ?_
          refine r_notB rfl rfl ?_
          refine r_notB rfl rfl ?_
          refine r_pick (.p rfl) rfl rfl rfl ?_
          refine r_end ?_
          exact sink true h (sees_mk (rn []) _ _ ⟨rfl, rfl, trivial⟩ ⟨rfl, trivial⟩ rfl rfl)
        · have h := cnd_f c5 h
          refine r_fieldAddr (.g rfl rfl) rfl fld31_2 ?_
          refine r_load1 (.g rfl rfl) rfl ag28 rfl rfl ?_
          refine r_len (.g rfl rfl) rfl (.sl _) trivial (List.length_map _) slc28 ?_
          refine r_fieldAddr (.g rfl rfl) rfl fld31_0 ?_
          refine r_load1 (.g rfl rfl) rfl ag28 rfl rfl ?_
          refine r_len (.g rfl rfl) rfl (.sl _) trivial (List.length_map _) slc28 ?_
          refine r_bin (.g rfl rfl) rfl rfl (bin_neq _ _ _ _ _ _) rfl ?_
          refine r_pick (.p rfl) rfl rfl rfl ?_
          refine r_end ?_
          exact sink ((p0.fTarget.length : Int) != (p0.fVersions.length : Int)) h (sees_mk (rn []) _ _ ⟨rfl, rfl, trivial⟩ ⟨rfl, trivial⟩ rfl rfl)
      · refine W_cond rfl (fun c6 => ?_) (fun c6 => ?_)
        · have h := cnd_t c6 h
          refine W_seq ?_
          refine W_region mixed rfl ?_
          refine r_assign (.p rfl) rfl ?_
          refine r_end ?_
          obtain rfl := Option.some.inj h
          refine W_sees (sees_mk (rn []) [(2, .e (.one (.pure (.val (.int .i64 6)))))] [] ⟨rfl, trivial⟩ trivial rfl rfl) (W_ret ?_)
          exact ⟨⟨[_], ⟨.tmp _ _ rfl, trivial⟩, rfl⟩, trivial⟩
        · have h := cnd_f c6 h
          refine W_skip ?_
          refine W_seq ?_
          refine W_seq ?_
          refine W_region mixed rfl ?_
          refine r_assign (.p rfl) rfl ?_
          refine r_end ?_
          refine W_whileE (L := Sh.sheaveref35_ValidProblem_L7 N p0) h (fun v7 => mk [(1, .e (.one (.ptr 1 0))), (3, .e (.one (.pure (.val (.int .i64 v7)))))] [(1, .box [.pure (.sl (p0.fVersions.map eI64)), .pure (.sl (p0.fNow.map eI64)), .pure (.sl (p0.fTarget.map eI64)), .pure (.sl (p0.fTables.map eApiTable))])]) (fun v8 => mk [(1, .e (.one (.ptr 1 0)))] [(1, .box [.pure (.sl (p0.fVersions.map eI64)), .pure (.sl (p0.fNow.map eI64)), .pure (.sl (p0.fTarget.map eI64)), .pure (.sl (p0.fTables.map eApiTable))])]) (fun _ _ => rfl) (sees_mk (rn []) _ _ ⟨rfl, rfl, trivial⟩ ⟨rfl, trivial⟩ rfl rfl) (fun j7 n7 v7 h => ?_) (fun v8 s h hs => ?_)
          · unfold Sh.sheaveref35_ValidProblem_L7 at h
            refine W_seq ?_
            refine W_seq ?_
            refine W_region mixed rfl ?_
            refine r_move (.p rfl) rfl ?_
            refine r_fieldAddr (.p rfl) rfl fld31_0 ?_
            refine r_load1 (.p rfl) rfl ag28 rfl rfl ?_
            refine r_len (.p rfl) rfl (.sl _) trivial (List.length_map _) slc28 ?_
            refine r_bin (.p rfl) rfl rfl (bin_lss _ _ _ _ _ _) rfl ?_
            refine r_end ?_
            refine W_cond rfl (fun c9 => ?_) (fun c9 => ?_)
            · have h := cnd_t c9 h
              refine W_skip ?_
              refine W_seq ?_
              refine W_block ?_
              refine W_seq ?_
              refine W_region mixed rfl ?_
              refine r_fieldAddr (.p rfl) rfl fld31_0 ?_
              refine r_load1 (.p rfl) rfl ag28 rfl rfl ?_
              refine r_move (.p rfl) rfl ?_
              obtain ⟨v10, a10, b10, h⟩ := idx_bind h
              refine r_index (.p rfl) rfl rfl slc28 sz3 a10 (map_get b10) rfl ?_
              refine r_loadr1 (.p rfl) rfl ag3 rfl ?_
              refine r_assign (.p rfl) rfl ?_
              refine r_end ?_
              refine W_join h (fun v11 => mk [(1, .e (.one (.ptr 1 0))), (3, .e (.one (.pure (.val (.int .i64 v7))))), (84, .e (.one (.pure (.val (.bool v11)))))] [(1, .box [.pure (.sl (p0.fVersions.map eI64)), .pure (.sl (p0.fNow.map eI64)), .pure (.sl (p0.fTarget.map eI64)), .pure (.sl (p0.fTables.map eApiTable))])]) (fun j11 h => ?_) (fun v11 h => ?_)
              · refine W_region mixed rfl ?_
                refine r_move (.p rfl) rfl ?_
                refine r_bin (.p rfl) rfl rfl (bin_lss _ _ _ _ _ _) rfl ?_
                refine r_move (.p rfl) rfl ?_
                refine r_split (t := 47) rfl (fun c12 => ?_) (fun c12 => ?_)
                · have h := cnd_t c12 h
                  refine r_notB rfl rfl ?_
                  refine r_notB rfl rfl ?_
                  refine r_pick (.p rfl) rfl rfl rfl ?_
                  refine r_move (.p rfl) rfl ?_
                  refine r_notB rfl rfl ?_
                  refine r_notB rfl rfl ?_
                  refine r_notB rfl rfl ?_
                  refine r_notB rfl rfl ?_
                  refine r_notB rfl rfl ?_
                  refine r_notB rfl rfl ?_
                  refine r_pick (.p rfl) rfl rfl rfl ?_
                  refine r_move (.p rfl) rfl ?_
                  refine r_notB rfl rfl ?_
                  refine r_notB rfl rfl ?_
                  refine r_notB rfl rfl ?_
                  refine r_notB rfl rfl ?_
                  refine r_notB rfl rfl ?_
                  refine r_notB rfl rfl ?_
                  refine r_notB rfl rfl ?_
                  refine r_pick (.p rfl) rfl rfl rfl ?_
                  refine r_move (.p rfl) rfl ?_
                  refine r_notB rfl rfl ?_
                  refine r_notB rfl rfl ?_
                  refine r_notB rfl rfl ?_
                  refine r_notB rfl rfl ?_
                  refine r_notB rfl rfl ?_
                  refine r_notB rfl rfl ?_
                  refine r_pick (.p rfl) rfl rfl rfl ?_
                  refine r_move (.p rfl) rfl ?_
                  refine r_notB rfl rfl ?_
                  refine r_notB rfl rfl ?_
                  refine r_notB rfl rfl ?_
                  refine r_notB rfl rfl ?_
                  refine r_notB rfl rfl ?_
                  refine r_notB rfl rfl ?_
                  refine r_notB rfl rfl ?_
                  refine r_pick (.p rfl) rfl rfl rfl ?_
                  refine r_end ?_
                  exact sink true h (sees_mk (rn []) _ _ ⟨rfl, rfl, rfl, trivial⟩ ⟨rfl, trivial⟩ rfl rfl)
                · have h := cnd_f c12 h
                  refine r_move (.g rfl rfl) rfl ?_
                  refine r_bin (.g rfl rfl) rfl rfl (bin_gtr _ _ _ _ _ _) rfl ?_
                  refine r_pick (.p rfl) rfl rfl rfl ?_
                  refine r_move (.p rfl) rfl ?_
                  refine r_split (t := 51) rfl (fun c13 => ?_) (fun c13 => ?_)
                  · have h := cnd_t c13 h
                    refine r_notB rfl rfl ?_
                    refine r_notB rfl rfl ?_
                    refine r_notB rfl rfl ?_
                    refine r_notB rfl rfl ?_
                    refine r_notB rfl rfl ?_
                    refine r_notB rfl rfl ?_
                    refine r_pick (.p rfl) rfl rfl rfl ?_
                    refine r_move (.p rfl) rfl ?_
                    refine r_notB rfl rfl ?_
                    refine r_notB rfl rfl ?_
                    refine r_notB rfl rfl ?_
                    refine r_notB rfl rfl ?_
                    refine r_notB rfl rfl ?_
                    refine r_notB rfl rfl ?_
                    refine r_notB rfl rfl ?_
                    refine r_pick (.p rfl) rfl rfl rfl ?_
                    refine r_move (.p rfl) rfl ?_
                    refine r_notB rfl rfl ?_
                    refine r_notB rfl rfl ?_
                    refine r_notB rfl rfl ?_
                    refine r_notB rfl rfl ?_
                    refine r_notB rfl rfl ?_
                    refine r_notB rfl rfl ?_
                    refine r_pick (.p rfl) rfl rfl rfl ?_
                    refine r_move (.p rfl) rfl ?_
                    refine r_notB rfl rfl ?_
                    refine r_notB rfl rfl ?_
                    refine r_notB rfl rfl ?_
                    refine r_notB rfl rfl ?_
                    refine r_notB rfl rfl ?_
                    refine r_notB rfl rfl ?_
                    refine r_notB rfl rfl ?_
                    refine r_pick (.p rfl) rfl rfl rfl ?_
                    refine r_end ?_
                    exact sink true h (sees_mk (rn []) _ _ ⟨rfl, rfl, rfl, trivial⟩ ⟨rfl, trivial⟩ rfl rfl)
                  · have h := cnd_f c13 h
                    refine r_fieldAddr (.g rfl rfl) rfl fld31_1 ?_
                    refine r_load1 (.g rfl rfl) rfl ag28 rfl rfl ?_
                    refine r_move (.g rfl rfl) rfl ?_
                    obtain ⟨v14, a14, b14, h⟩ := idx_bind h
                    refine r_index (.g rfl rfl) rfl rfl slc28 sz3 a14 (map_get b14) rfl ?_
                    refine r_loadr1 (.g rfl rfl) rfl ag3 rfl ?_
                    refine r_bin (.g rfl rfl) rfl rfl (bin_lss _ _ _ _ _ _) rfl ?_
                    refine r_pick (.p rfl) rfl rfl rfl ?_
                    refine r_move (.p rfl) rfl ?_
                    refine r_split (t := 59) rfl (fun c15 => ?_) (fun c15 => ?_)
                    · have h := cnd_t c15 h
                      refine r_notB rfl rfl ?_
                      refine r_notB rfl rfl ?_
                      refine r_notB rfl rfl ?_
                      refine r_notB rfl rfl ?_
                      refine r_notB rfl rfl ?_
                      refine r_notB rfl rfl ?_
                      refine r_notB rfl rfl ?_
                      refine r_pick (.p rfl) rfl rfl rfl ?_
                      refine r_move (.p rfl) rfl ?_
                      refine r_notB rfl rfl ?_
                      refine r_notB rfl rfl ?_
                      refine r_notB rfl rfl ?_
                      refine r_notB rfl rfl ?_
                      refine r_notB rfl rfl ?_
                      refine r_notB rfl rfl ?_
                      refine r_pick (.p rfl) rfl rfl rfl ?_
                      refine r_move (.p rfl) rfl ?_
                      refine r_notB rfl rfl ?_
                      refine r_notB rfl rfl ?_
                      refine r_notB rfl rfl ?_
                      refine r_notB rfl rfl ?_
                      refine r_notB rfl rfl ?_
                      refine r_notB rfl rfl ?_
                      refine r_notB rfl rfl ?_
                      refine r_pick (.p rfl) rfl rfl rfl ?_
                      refine r_end ?_
                      exact sink true h (sees_mk (rn []) _ _ ⟨rfl, rfl, rfl, trivial⟩ ⟨rfl, trivial⟩ rfl rfl)
                    · have h := cnd_f c15 h
                      refine r_fieldAddr (.g rfl rfl) rfl fld31_1 ?_
                      refine r_load1 (.g rfl rfl) rfl ag28 rfl rfl ?_
                      refine r_move (.g rfl rfl) rfl ?_
                      obtain ⟨v16, a16, b16, h⟩ := idx_bind h
                      refine r_index (.g rfl rfl) rfl rfl slc28 sz3 a16 (map_get b16) rfl ?_
                      refine r_loadr1 (.g rfl rfl) rfl ag3 rfl ?_
                      refine r_move (.g rfl rfl) rfl ?_
                      refine r_bin (.g rfl rfl) rfl rfl (bin_geq _ _ _ _ _ _) rfl ?_
                      refine r_pick (.p rfl) rfl rfl rfl ?_
                      refine r_move (.p rfl) rfl ?_
                      refine r_split (t := 68) rfl (fun c17 => ?_) (fun c17 => ?_)
                      · have h := cnd_t c17 h
                        refine r_notB rfl rfl ?_
                        refine r_notB rfl rfl ?_
                        refine r_notB rfl rfl ?_
                        refine r_notB rfl rfl ?_
                        refine r_notB rfl rfl ?_
                        refine r_notB rfl rfl ?_
                        refine r_pick (.p rfl) rfl rfl rfl ?_
                        refine r_move (.p rfl) rfl ?_
                        refine r_notB rfl rfl ?_
                        refine r_notB rfl rfl ?_
                        refine r_notB rfl rfl ?_
                        refine r_notB rfl rfl ?_
                        refine r_notB rfl rfl ?_
                        refine r_notB rfl rfl ?_
                        refine r_notB rfl rfl ?_
                        refine r_pick (.p rfl) rfl rfl rfl ?_
                        refine r_end ?_
                        exact sink true h (sees_mk (rn []) _ _ ⟨rfl, rfl, rfl, trivial⟩ ⟨rfl, trivial⟩ rfl rfl)
                      · have h := cnd_f c17 h
                        refine r_fieldAddr (.g rfl rfl) rfl fld31_2 ?_
                        refine r_load1 (.g rfl rfl) rfl ag28 rfl rfl ?_
                        refine r_move (.g rfl rfl) rfl ?_
                        obtain ⟨v18, a18, b18, h⟩ := idx_bind h
                        refine r_index (.g rfl rfl) rfl rfl slc28 sz3 a18 (map_get b18) rfl ?_
                        refine r_loadr1 (.g rfl rfl) rfl ag3 rfl ?_
                        refine r_bin (.g rfl rfl) rfl rfl (bin_lss _ _ _ _ _ _) rfl ?_
                        refine r_pick (.p rfl) rfl rfl rfl ?_
                        refine r_move (.p rfl) rfl ?_
                        refine r_split (t := 76) rfl (fun c19 => ?_) (fun c19 => ?_)
                        · have h := cnd_t c19 h
                          refine r_notB rfl rfl ?_
                          refine r_notB rfl rfl ?_
                          refine r_notB rfl rfl ?_
                          refine r_notB rfl rfl ?_
                          refine r_notB rfl rfl ?_
                          refine r_notB rfl rfl ?_
                          refine r_notB rfl rfl ?_
                          refine r_pick (.p rfl) rfl rfl rfl ?_
                          refine r_end ?_
                          exact sink true h (sees_mk (rn []) _ _ ⟨rfl, rfl, rfl, trivial⟩ ⟨rfl, trivial⟩ rfl rfl)
                        · have h := cnd_f c19 h
                          refine r_fieldAddr (.g rfl rfl) rfl fld31_2 ?_
                          refine r_load1 (.g rfl rfl) rfl ag28 rfl rfl ?_
                          refine r_move (.g rfl rfl) rfl ?_
                          obtain ⟨v20, a20, b20, h⟩ := idx_bind h
                          refine r_index (.g rfl rfl) rfl rfl slc28 sz3 a20 (map_get b20) rfl ?_
                          refine r_loadr1 (.g rfl rfl) rfl ag3 rfl ?_
                          refine r_move (.g rfl rfl) rfl ?_
                          refine r_bin (.g rfl rfl) rfl rfl (bin_geq _ _ _ _ _ _) rfl ?_
                          refine r_pick (.p rfl) rfl rfl rfl ?_
                          refine r_end ?_
                          exact sink (decide (v10 ≤ v20)) h (sees_mk (rn []) _ _ ⟨rfl, rfl, rfl, trivial⟩ ⟨rfl, trivial⟩ rfl rfl)
              · refine W_cond rfl (fun c21 => ?_) (fun c21 => ?_)
                · have h := cnd_t c21 h
                  refine W_seq ?_
                  refine W_region mixed rfl ?_
                  refine r_assign (.p rfl) rfl ?_
                  refine r_end ?_
                  obtain rfl := Option.some.inj h
                  refine W_sees (sees_mk (rn []) [(2, .e (.one (.pure (.val (.int .i64 7)))))] [] ⟨rfl, trivial⟩ trivial rfl rfl) (W_ret ?_)
                  exact ⟨⟨[_], ⟨.tmp _ _ rfl, trivial⟩, rfl⟩, trivial⟩
                · have h := cnd_f c21 h
                  refine W_skip ?_
                  refine W_region mixed rfl ?_
                  refine r_move (.p rfl) rfl ?_
                  refine r_bin (.p rfl) rfl rfl (bin_add _ _ _ _ _ _) rfl ?_
                  refine r_assign (.p rfl) rfl ?_
                  refine r_end ?_
                  exact sink (IntKind.wrap .i64 (v7 + 1)) h (sees_mk (rn []) _ _ ⟨rfl, rfl, trivial⟩ ⟨rfl, trivial⟩ rfl rfl)
            · have h := cnd_f c9 h
              refine W_exit ?_
              exact sink () h (sees_mk (rn []) _ _ ⟨rfl, trivial⟩ ⟨rfl, trivial⟩ rfl rfl)
          · refine W_sees hs ?_
            refine W_seq ?_
            refine W_seq ?_
            refine W_region mixed rfl ?_
            refine r_assign (.p rfl) rfl ?_
            refine r_end ?_
            refine W_whileE (L := Sh.sheaveref35_ValidProblem_L22 N p0) h (fun v22 => mk [(1, .e (.one (.ptr 1 0))), (5, .e (.one (.pure (.val (.int .i64 v22)))))] [(1, .box [.pure (.sl (p0.fVersions.map eI64)), .pure (.sl (p0.fNow.map eI64)), .pure (.sl (p0.fTarget.map eI64)), .pure (.sl (p0.fTables.map eApiTable))])]) (fun v23 => mk [] []) (fun _ _ => rfl) (sees_mk (rn []) _ _ ⟨rfl, rfl, trivial⟩ ⟨rfl, trivial⟩ rfl rfl) (fun j22 n22 v22 h => ?_) (fun v23 s h hs => ?_)
            · unfold Sh.sheaveref35_ValidProblem_L22 at h
              refine W_seq ?_
              refine W_seq ?_
              refine W_region mixed rfl ?_
              refine r_move (.p rfl) rfl ?_
              refine r_fieldAddr (.p rfl) rfl fld31_3 ?_
              refine r_load1 (.p rfl) rfl ag29 rfl rfl ?_
              refine r_len (.p rfl) rfl (.sl _) trivial (List.length_map _) slc29 ?_
              refine r_bin (.p rfl) rfl rfl (bin_lss _ _ _ _ _ _) rfl ?_
              refine r_end ?_
              refine W_cond rfl (fun c24 => ?_) (fun c24 => ?_)
              · have h := cnd_t c24 h
                refine W_skip ?_
                refine W_seq ?_
                refine W_block ?_
                refine W_seq ?_
                refine W_region mixed rfl ?_
                refine r_loadN (.p rfl) rfl ag31 sz31 rfl rfl rfl ?_
                refine r_fieldAddr (.p rfl) rfl fld31_3 ?_
                refine r_load1 (.p rfl) rfl ag29 rfl rfl ?_
                refine r_move (.p rfl) rfl ?_
                obtain ⟨v25, a25, b25, h⟩ := idx_bind h
                refine r_index (.p rfl) rfl rfl slc29 sz61 a25 (map_get b25) rfl ?_
                refine r_loadrN (.p rfl) rfl ag61 sz61 rfl rfl ?_
                obtain ⟨v26, a26, h⟩ := bind_some h
                refine r_call (ds0 := [_, _]) [] (sheaveref35_table_c N p0 v25 v26 a26) (.p rfl) gd64 rfl ⟨rfl, rfl, trivial⟩ rfl rfl rfl (nodupB_spec rfl) trivial rfl ?_
                refine r_assign (.p rfl) rfl ?_
                refine r_endD (by kernel_rfl) ?_
                refine W_seq ?_
                refine W_region mixed rfl ?_
                refine r_move (.p rfl) rfl ?_
                refine r_bin (.p rfl) rfl rfl (bin_neq _ _ _ _ _ _) rfl ?_
                refine r_end ?_
                refine W_cond rfl (fun c27 => ?_) (fun c27 => ?_)
                · have h := cnd_t c27 h
                  refine W_seq ?_
                  refine W_region mixed rfl ?_
                  refine r_move (.p rfl) rfl ?_
                  refine r_assign (.p rfl) rfl ?_
                  refine r_end ?_
                  obtain rfl := Option.some.inj h
                  refine W_sees (sees_mk (rn []) [(2, .e (.one (.pure (.val (.int .i64 v26)))))] [] ⟨rfl, trivial⟩ trivial rfl rfl) (W_ret ?_)
                  exact ⟨⟨[_], ⟨.tmp _ _ rfl, trivial⟩, rfl⟩, trivial⟩
                · have h := cnd_f c27 h
                  refine W_skip ?_
                  refine W_region mixed rfl ?_
                  refine r_move (.p rfl) rfl ?_
                  refine r_bin (.p rfl) rfl rfl (bin_add _ _ _ _ _ _) rfl ?_
                  refine r_assign (.p rfl) rfl ?_
                  refine r_end ?_
                  exact sink (IntKind.wrap .i64 (v22 + 1)) h (sees_mk (rn []) _ _ ⟨rfl, rfl, trivial⟩ ⟨rfl, trivial⟩ rfl rfl)
              · have h := cnd_f c24 h
                refine W_exit ?_
                exact sink () h (sees_mk (rn []) _ _ trivial trivial rfl rfl)
            · refine W_sees hs ?_
              refine W_seq ?_
              refine W_region mixed rfl ?_
              refine r_assign (.p rfl) rfl ?_
              refine r_end ?_
              obtain rfl := Option.some.inj h
              refine W_sees (sees_mk (rn []) [(2, .e (.one (.pure (.val (.int .i64 0)))))] [] ⟨rfl, trivial⟩ trivial rfl rfl) (W_ret ?_)
              exact ⟨⟨[_], ⟨.tmp _ _ rfl, trivial⟩, rfl⟩, trivial⟩

set_option maxRecDepth 10000 in
theorem sheaveref36_Valid_c (N : Nat) (p0 : ApiProblem) (p1 : ApiMix) (r : Int) (h : Sh.sheaveref36_Valid N p0 p1 = some r) : Contract Try.prog 29 [.e (.agg [.pure (.sl (p0.fVersions.map eI64)), .pure (.sl (p0.fNow.map eI64)), .pure (.sl (p0.fTarget.map eI64)), .pure (.sl (p0.fTables.map eApiTable))]), .e (.agg [.pure (.sl (p1.fBase.map eI64)), .pure (.sl (p1.fNext.map eI64)), .pure (.sl (p1.fHeld.map eU8))])] [] (.e (.one (.pure (.val (.int .i64 r))))) := by
  unfold Sh.sheaveref36_Valid at h
  refine contract_of_W (n := 154) (rs := [.tmp 4]) Try.func29 rfl rfl rfl (leb rfl) rfl fun w0 S0 => ?_
  refine W_seq ?_
  refine W_region mixed rfl ?_
  refine r_box (.p rfl) rfl rfl ?_
  refine r_box (.p rfl) rfl rfl ?_
  refine r_assign (.p rfl) rfl ?_
  refine r_end ?_
  refine W_seq ?_
  refine W_seq ?_
  refine W_region mixed rfl ?_
  refine r_loadN (.p rfl) rfl ag31 sz31 rfl rfl rfl ?_
  obtain ⟨v1, a1, h⟩ := bind_some h
  refine r_call (ds0 := [_]) [] (sheaveref35_ValidProblem_c N p0 v1 a1) (.p rfl) gd50 rfl ⟨rfl, trivial⟩ rfl rfl rfl (nodupB_spec rfl) trivial rfl ?_
  refine r_assign (.p rfl) rfl ?_
  refine r_end ?_
  refine W_seq ?_
  refine W_region mixed rfl ?_
  refine r_move (.p rfl) rfl ?_
  refine r_bin (.p rfl) rfl rfl (bin_neq _ _ _ _ _ _) rfl ?_
  refine r_end ?_
  refine W_cond rfl (fun c2 => ?_) (fun c2 => ?_)
  · have h := cnd_t c2 h
    refine W_seq ?_
    refine W_region mixed rfl ?_
    refine r_move (.p rfl) rfl ?_
    refine r_assign (.p rfl) rfl ?_
    refine r_end ?_
    obtain rfl := Option.some.inj h
    refine W_sees (sees_mk (rn []) [(4, .e (.one (.pure (.val (.int .i64 v1)))))] [] ⟨rfl, trivial⟩ trivial rfl rfl) (W_ret ?_)
    exact ⟨⟨[_], ⟨.tmp _ _ rfl, trivial⟩, rfl⟩, trivial⟩
  · have h := cnd_f c2 h
    refine W_skip ?_
    refine W_seq ?_
    refine W_region mixed rfl ?_
    refine r_fieldAddr (.p rfl) rfl fld31_0 ?_
    refine r_load1 (.p rfl) rfl ag28 rfl rfl ?_
    refine r_len (.p rfl) rfl (.sl _) trivial (List.length_map _) slc28 ?_
    refine r_assign (.p rfl) rfl ?_
    refine r_end ?_
    refine W_seq ?_
    refine W_join h (fun v3 => mk [(2, .e (.one (.ptr 2 0))), (3, .e (.one (.ptr 3 0))), (6, .e (.one (.pure (.val (.int .i64 ((p0.fVersions.length : Int))))))), (39, .e (.one (.pure (.val (.bool v3)))))] [(2, .box [.pure (.sl (p0.fVersions.map eI64)), .pure (.sl (p0.fNow.map eI64)), .pure (.sl (p0.fTarget.map eI64)), .pure (.sl (p0.fTables.map eApiTable))]), (3, .box [.pure (.sl (p1.fBase.map eI64)), .pure (.sl (p1.fNext.map eI64)), .pure (.sl (p1.fHeld.map eU8))])]) (fun j3 h => ?_) (fun v3 h => ?_)
    · refine W_region mixed rfl ?_
      refine r_fieldAddr (.p rfl) rfl fld37_0 ?_
      refine r_load1 (.p rfl) rfl ag28 rfl rfl ?_
      refine r_len (.p rfl) rfl (.sl _) trivial (List.length_map _) slc28 ?_
      refine r_move (.p rfl) rfl ?_
      refine r_bin (.p rfl) rfl rfl (bin_neq _ _ _ _ _ _) rfl ?_
      refine r_move (.p rfl) rfl ?_
      refine r_split (t := 24) rfl (fun c4 => ?_) (fun c4 => ?_)
      · have h := cnd_t c4 h
        refine r_notB rfl rfl ?_
        refine r_notB rfl rfl ?_
        refine r_notB rfl rfl ?_
        refine r_notB rfl rfl ?_
        refine r_notB rfl rfl ?_
        refine r_pick (.p rfl) rfl rfl rfl ?_
        refine r_move (.p rfl) rfl ?_
        refine r_notB rfl rfl ?_
        refine r_notB rfl rfl ?_
        refine r_notB rfl rfl ?_
        refine r_notB rfl rfl ?_
        refine r_notB rfl rfl ?_
        refine r_notB rfl rfl ?_
        refine r_notB rfl rfl ?_
        refine r_pick (.p rfl) rfl rfl rfl ?_
        refine r_end ?_
        exact sink true h (sees_mk (rn []) _ _ ⟨rfl, rfl, rfl, rfl, trivial⟩ ⟨rfl, rfl, trivial⟩ rfl rfl)
      · have h := cnd_f c4 h
        refine r_fieldAddr (.g rfl rfl) rfl fld37_1 ?_
        refine r_load1 (.g rfl rfl) rfl ag28 rfl rfl ?_
        refine r_len (.g rfl rfl) rfl (.sl _) trivial (List.length_map _) slc28 ?_
        refine r_move (.g rfl rfl) rfl ?_
        refine r_bin (.g rfl rfl) rfl rfl (bin_neq _ _ _ _ _ _) rfl ?_
        refine r_pick (.p rfl) rfl rfl rfl ?_
        refine r_move (.p rfl) rfl ?_
        refine r_split (t := 31) rfl (fun c5 => ?_) (fun c5 => ?_)
        · have h := cnd_t c5 h
          refine r_notB rfl rfl ?_
          refine r_notB rfl rfl ?_
          refine r_notB rfl rfl ?_
          refine r_notB rfl rfl ?_
          refine r_notB rfl rfl ?_
          refine r_notB rfl rfl ?_
          refine r_notB rfl rfl ?_
          refine r_pick (.p rfl) rfl rfl rfl ?_
          refine r_end ?_
          exact sink true h (sees_mk (rn []) _ _ ⟨rfl, rfl, rfl, rfl, trivial⟩ ⟨rfl, rfl, trivial⟩ rfl rfl)
        · have h := cnd_f c5 h
          refine r_fieldAddr (.g rfl rfl) rfl fld37_2 ?_
          refine r_load1 (.g rfl rfl) rfl ag35 rfl rfl ?_
          refine r_len (.g rfl rfl) rfl (.sl _) trivial (List.length_map _) slc35 ?_
          refine r_fieldAddr (.g rfl rfl) rfl fld31_3 ?_
          refine r_load1 (.g rfl rfl) rfl ag29 rfl rfl ?_
          refine r_len (.g rfl rfl) rfl (.sl _) trivial (List.length_map _) slc29 ?_
          refine r_bin (.g rfl rfl) rfl rfl (bin_neq _ _ _ _ _ _) rfl ?_
          refine r_pick (.p rfl) rfl rfl rfl ?_
          refine r_end ?_
          exact sink ((p1.fHeld.length : Int) != (p0.fTables.length : Int)) h (sees_mk (rn []) _ _ ⟨rfl, rfl, rfl, rfl, trivial⟩ ⟨rfl, rfl, trivial⟩ rfl rfl)
    · refine W_cond rfl (fun c6 => ?_) (fun c6 => ?_)
      · have h := cnd_t c6 h
        refine W_seq ?_
        refine W_region mixed rfl ?_
        refine r_assign (.p rfl) rfl ?_
        refine r_end ?_
        obtain rfl := Option.some.inj h
        refine W_sees (sees_mk (rn []) [(4, .e (.one (.pure (.val (.int .i64 6)))))] [] ⟨rfl, trivial⟩ trivial rfl rfl) (W_ret ?_)
        exact ⟨⟨[_], ⟨.tmp _ _ rfl, trivial⟩, rfl⟩, trivial⟩
      · have h := cnd_f c6 h
        refine W_skip ?_
        refine W_seq ?_
        refine W_seq ?_
        refine W_region mixed rfl ?_
        refine r_assign (.p rfl) rfl ?_
        refine r_end ?_
        refine W_whileE (L := Sh.sheaveref36_Valid_L7 N p0 p1) h (fun v7 => mk [(2, .e (.one (.ptr 2 0))), (3, .e (.one (.ptr 3 0))), (6, .e (.one (.pure (.val (.int .i64 ((p0.fVersions.length : Int))))))), (7, .e (.one (.pure (.val (.int .i64 v7)))))] [(2, .box [.pure (.sl (p0.fVersions.map eI64)), .pure (.sl (p0.fNow.map eI64)), .pure (.sl (p0.fTarget.map eI64)), .pure (.sl (p0.fTables.map eApiTable))]), (3, .box [.pure (.sl (p1.fBase.map eI64)), .pure (.sl (p1.fNext.map eI64)), .pure (.sl (p1.fHeld.map eU8))])]) (fun v8 => mk [(2, .e (.one (.ptr 2 0))), (3, .e (.one (.ptr 3 0)))] [(2, .box [.pure (.sl (p0.fVersions.map eI64)), .pure (.sl (p0.fNow.map eI64)), .pure (.sl (p0.fTarget.map eI64)), .pure (.sl (p0.fTables.map eApiTable))]), (3, .box [.pure (.sl (p1.fBase.map eI64)), .pure (.sl (p1.fNext.map eI64)), .pure (.sl (p1.fHeld.map eU8))])]) (fun _ _ => rfl) (sees_mk (rn []) _ _ ⟨rfl, rfl, rfl, rfl, trivial⟩ ⟨rfl, rfl, trivial⟩ rfl rfl) (fun j7 n7 v7 h => ?_) (fun v8 s h hs => ?_)
        · unfold Sh.sheaveref36_Valid_L7 at h
          refine W_seq ?_
          refine W_seq ?_
          refine W_region mixed rfl ?_
          refine r_move (.p rfl) rfl ?_
          refine r_move (.p rfl) rfl ?_
          refine r_bin (.p rfl) rfl rfl (bin_lss _ _ _ _ _ _) rfl ?_
          refine r_end ?_
          refine W_cond rfl (fun c9 => ?_) (fun c9 => ?_)
          · have h := cnd_t c9 h
            refine W_skip ?_
            refine W_seq ?_
            refine W_block ?_
            refine W_seq ?_
            refine W_join h (fun v10 => mk [(2, .e (.one (.ptr 2 0))), (3, .e (.one (.ptr 3 0))), (6, .e (.one (.pure (.val (.int .i64 ((p0.fVersions.length : Int))))))), (7, .e (.one (.pure (.val (.int .i64 v7))))), (84, .e (.one (.pure (.val (.bool v10)))))] [(2, .box [.pure (.sl (p0.fVersions.map eI64)), .pure (.sl (p0.fNow.map eI64)), .pure (.sl (p0.fTarget.map eI64)), .pure (.sl (p0.fTables.map eApiTable))]), (3, .box [.pure (.sl (p1.fBase.map eI64)), .pure (.sl (p1.fNext.map eI64)), .pure (.sl (p1.fHeld.map eU8))])]) (fun j10 h => ?_) (fun v10 h => ?_)
            · refine W_region mixed rfl ?_
              refine r_fieldAddr (.p rfl) rfl fld37_0 ?_
              refine r_load1 (.p rfl) rfl ag28 rfl rfl ?_
              refine r_move (.p rfl) rfl ?_
              obtain ⟨v11, a11, b11, h⟩ := idx_bind h
              refine r_index (.p rfl) rfl rfl slc28 sz3 a11 (map_get b11) rfl ?_
              refine r_loadr1 (.p rfl) rfl ag3 rfl ?_
              refine r_bin (.p rfl) rfl rfl (bin_lss _ _ _ _ _ _) rfl ?_
              refine r_move (.p rfl) rfl ?_
              refine r_split (t := 51) rfl (fun c12 => ?_) (fun c12 => ?_)
              · have h := cnd_t c12 h
                refine r_notB rfl rfl ?_
                refine r_notB rfl rfl ?_
                refine r_notB rfl rfl ?_
                refine r_notB rfl rfl ?_
                refine r_notB rfl rfl ?_
                refine r_notB rfl rfl ?_
                refine r_notB rfl rfl ?_
                refine r_notB rfl rfl ?_
                refine r_notB rfl rfl ?_
                refine r_notB rfl rfl ?_
                refine r_notB rfl rfl ?_
                refine r_pick (.p rfl) rfl rfl rfl ?_
                refine r_move (.p rfl) rfl ?_
                refine r_notB rfl rfl ?_
                refine r_notB rfl rfl ?_
                refine r_notB rfl rfl ?_
                refine r_notB rfl rfl ?_
                refine r_notB rfl rfl ?_
                refine r_notB rfl rfl ?_
                refine r_pick (.p rfl) rfl rfl rfl ?_
                refine r_move (.p rfl) rfl ?_
                refine r_notB rfl rfl ?_
                refine r_notB rfl rfl ?_
                refine r_notB rfl rfl ?_
                refine r_notB rfl rfl ?_
                refine r_notB rfl rfl ?_
                refine r_notB rfl rfl ?_
                refine r_notB rfl rfl ?_
                refine r_notB rfl rfl ?_
                refine r_notB rfl rfl ?_
                refine r_notB rfl rfl ?_
                refine r_notB rfl rfl ?_
                refine r_pick (.p rfl) rfl rfl rfl ?_
                refine r_endD (by kernel_rfl) ?_
                exact sink true h (sees_mk (rn []) _ _ ⟨rfl, rfl, rfl, rfl, rfl, trivial⟩ ⟨rfl, rfl, trivial⟩ rfl rfl)
              · have h := cnd_f c12 h
                refine r_fieldAddr (.g rfl rfl) rfl fld37_0 ?_
                refine r_load1 (.g rfl rfl) rfl ag28 rfl rfl ?_
                refine r_move (.g rfl rfl) rfl ?_
                obtain ⟨v13, a13, b13, h⟩ := idx_bind h
                refine r_index (.g rfl rfl) rfl rfl slc28 sz3 a13 (map_get b13) rfl ?_
                refine r_loadr1 (.g rfl rfl) rfl ag3 rfl ?_
                refine r_fieldAddr (.g rfl rfl) rfl fld31_0 ?_
                refine r_load1 (.g rfl rfl) rfl ag28 rfl rfl ?_
                refine r_move (.g rfl rfl) rfl ?_
                obtain ⟨v14, a14, b14, h⟩ := idx_bind h
                refine r_index (.g rfl rfl) rfl rfl slc28 sz3 a14 (map_get b14) rfl ?_
                refine r_loadr1 (.g rfl rfl) rfl ag3 rfl ?_
                refine r_bin (.g rfl rfl) rfl rfl (bin_geq _ _ _ _ _ _) rfl ?_
                refine r_pick (.p rfl) rfl rfl rfl ?_
                refine r_move (.p rfl) rfl ?_
                refine r_split (t := 64) rfl (fun c15 => ?_) (fun c15 => ?_)
                · have h := cnd_t c15 h
                  refine r_notB rfl rfl ?_
                  refine r_notB rfl rfl ?_
                  refine r_notB rfl rfl ?_
                  refine r_notB rfl rfl ?_
                  refine r_notB rfl rfl ?_
                  refine r_notB rfl rfl ?_
                  refine r_pick (.p rfl) rfl rfl rfl ?_
                  refine r_move (.p rfl) rfl ?_
                  refine r_notB rfl rfl ?_
                  refine r_notB rfl rfl ?_
                  refine r_notB rfl rfl ?_
                  refine r_notB rfl rfl ?_
                  refine r_notB rfl rfl ?_
                  refine r_notB rfl rfl ?_
                  refine r_notB rfl rfl ?_
                  refine r_notB rfl rfl ?_
                  refine r_notB rfl rfl ?_
                  refine r_notB rfl rfl ?_
                  refine r_notB rfl rfl ?_
                  refine r_pick (.p rfl) rfl rfl rfl ?_
                  refine r_endD (by kernel_rfl) ?_
                  exact sink true h (sees_mk (rn []) _ _ ⟨rfl, rfl, rfl, rfl, rfl, trivial⟩ ⟨rfl, rfl, trivial⟩ rfl rfl)
                · have h := cnd_f c15 h
                  refine r_fieldAddr (.g rfl rfl) rfl fld37_1 ?_
                  refine r_load1 (.g rfl rfl) rfl ag28 rfl rfl ?_
                  refine r_move (.g rfl rfl) rfl ?_
                  obtain ⟨v16, a16, b16, h⟩ := idx_bind h
                  refine r_index (.g rfl rfl) rfl rfl slc28 sz3 a16 (map_get b16) rfl ?_
                  refine r_loadr1 (.g rfl rfl) rfl ag3 rfl ?_
                  refine r_bin (.g rfl rfl) rfl rfl (bin_lss _ _ _ _ _ _) rfl ?_
                  refine r_pick (.p rfl) rfl rfl rfl ?_
                  refine r_move (.p rfl) rfl ?_
                  refine r_split (t := 72) rfl (fun c17 => ?_) (fun c17 => ?_)
                  · have h := cnd_t c17 h
                    refine r_notB rfl rfl ?_
                    refine r_notB rfl rfl ?_
                    refine r_notB rfl rfl ?_
                    refine r_notB rfl rfl ?_
                    refine r_notB rfl rfl ?_
                    refine r_notB rfl rfl ?_
                    refine r_notB rfl rfl ?_
                    refine r_notB rfl rfl ?_
                    refine r_notB rfl rfl ?_
                    refine r_notB rfl rfl ?_
                    refine r_notB rfl rfl ?_
                    refine r_pick (.p rfl) rfl rfl rfl ?_
                    refine r_endD (by kernel_rfl) ?_
                    exact sink true h (sees_mk (rn []) _ _ ⟨rfl, rfl, rfl, rfl, rfl, trivial⟩ ⟨rfl, rfl, trivial⟩ rfl rfl)
                  · have h := cnd_f c17 h
                    refine r_fieldAddr (.g rfl rfl) rfl fld37_1 ?_
                    refine r_load1 (.g rfl rfl) rfl ag28 rfl rfl ?_
                    refine r_move (.g rfl rfl) rfl ?_
                    obtain ⟨v18, a18, b18, h⟩ := idx_bind h
                    refine r_index (.g rfl rfl) rfl rfl slc28 sz3 a18 (map_get b18) rfl ?_
                    refine r_loadr1 (.g rfl rfl) rfl ag3 rfl ?_
                    refine r_fieldAddr (.g rfl rfl) rfl fld31_0 ?_
                    refine r_load1 (.g rfl rfl) rfl ag28 rfl rfl ?_
                    refine r_move (.g rfl rfl) rfl ?_
                    obtain ⟨v19, a19, b19, h⟩ := idx_bind h
                    refine r_index (.g rfl rfl) rfl rfl slc28 sz3 a19 (map_get b19) rfl ?_
                    refine r_loadr1 (.g rfl rfl) rfl ag3 rfl ?_
                    refine r_bin (.g rfl rfl) rfl rfl (bin_geq _ _ _ _ _ _) rfl ?_
                    refine r_pick (.p rfl) rfl rfl rfl ?_
                    refine r_endD (by kernel_rfl) ?_
                    exact sink (decide (v19 ≤ v18)) h (sees_mk (rn []) _ _ ⟨rfl, rfl, rfl, rfl, rfl, trivial⟩ ⟨rfl, rfl, trivial⟩ rfl rfl)
            · refine W_cond rfl (fun c20 => ?_) (fun c20 => ?_)
              · have h := cnd_t c20 h
                refine W_seq ?_
                refine W_region mixed rfl ?_
                refine r_assign (.p rfl) rfl ?_
                refine r_end ?_
                obtain rfl := Option.some.inj h
                refine W_sees (sees_mk (rn []) [(4, .e (.one (.pure (.val (.int .i64 7)))))] [] ⟨rfl, trivial⟩ trivial rfl rfl) (W_ret ?_)
                exact ⟨⟨[_], ⟨.tmp _ _ rfl, trivial⟩, rfl⟩, trivial⟩
              · have h := cnd_f c20 h
                refine W_skip ?_
                refine W_seq ?_
                refine W_region mixed rfl ?_
                refine r_fieldAddr (.p rfl) rfl fld37_0 ?_
                refine r_load1 (.p rfl) rfl ag28 rfl rfl ?_
                refine r_move (.p rfl) rfl ?_
                obtain ⟨v21, a21, b21, h⟩ := idx_bind h
                refine r_index (.p rfl) rfl rfl slc28 sz3 a21 (map_get b21) rfl ?_
                refine r_loadr1 (.p rfl) rfl ag3 rfl ?_
                refine r_fieldAddr (.p rfl) rfl fld37_1 ?_
                refine r_load1 (.p rfl) rfl ag28 rfl rfl ?_
                refine r_move (.p rfl) rfl ?_
                obtain ⟨v22, a22, b22, h⟩ := idx_bind h
                refine r_index (.p rfl) rfl rfl slc28 sz3 a22 (map_get b22) rfl ?_
                refine r_loadr1 (.p rfl) rfl ag3 rfl ?_
                refine r_bin (.p rfl) rfl rfl (bin_eql _ _ _ _ _ _) rfl ?_
                refine r_endD (by kernel_rfl) ?_
                refine W_cond rfl (fun c23 => ?_) (fun c23 => ?_)
                · have h := cnd_t c23 h
                  refine W_seq ?_
                  refine W_region mixed rfl ?_
                  refine r_assign (.p rfl) rfl ?_
                  refine r_end ?_
                  obtain rfl := Option.some.inj h
                  refine W_sees (sees_mk (rn []) [(4, .e (.one (.pure (.val (.int .i64 1)))))] [] ⟨rfl, trivial⟩ trivial rfl rfl) (W_ret ?_)
                  exact ⟨⟨[_], ⟨.tmp _ _ rfl, trivial⟩, rfl⟩, trivial⟩
                · have h := cnd_f c23 h
                  refine W_skip ?_
                  refine W_region mixed rfl ?_
                  refine r_move (.p rfl) rfl ?_
                  refine r_bin (.p rfl) rfl rfl (bin_add _ _ _ _ _ _) rfl ?_
                  refine r_assign (.p rfl) rfl ?_
                  refine r_end ?_
                  exact sink (IntKind.wrap .i64 (v7 + 1)) h (sees_mk (rn []) _ _ ⟨rfl, rfl, rfl, rfl, trivial⟩ ⟨rfl, rfl, trivial⟩ rfl rfl)
          · have h := cnd_f c9 h
            refine W_exit ?_
            exact sink () h (sees_mk (rn []) _ _ ⟨rfl, rfl, trivial⟩ ⟨rfl, rfl, trivial⟩ rfl rfl)
        · refine W_sees hs ?_
          refine W_seq ?_
          refine W_seq ?_
          refine W_region mixed rfl ?_
          refine r_assign (.p rfl) rfl ?_
          refine r_end ?_
          refine W_whileE (L := Sh.sheaveref36_Valid_L24 N p0 p1) h (fun v24 => mk [(2, .e (.one (.ptr 2 0))), (3, .e (.one (.ptr 3 0))), (8, .e (.one (.pure (.val (.int .i64 v24)))))] [(2, .box [.pure (.sl (p0.fVersions.map eI64)), .pure (.sl (p0.fNow.map eI64)), .pure (.sl (p0.fTarget.map eI64)), .pure (.sl (p0.fTables.map eApiTable))]), (3, .box [.pure (.sl (p1.fBase.map eI64)), .pure (.sl (p1.fNext.map eI64)), .pure (.sl (p1.fHeld.map eU8))])]) (fun v25 => mk [] []) (fun _ _ => rfl) (sees_mk (rn []) _ _ ⟨rfl, rfl, rfl, trivial⟩ ⟨rfl, rfl, trivial⟩ rfl rfl) (fun j24 n24 v24 h => ?_) (fun v25 s h hs => ?_)
          · unfold Sh.sheaveref36_Valid_L24 at h
            refine W_seq ?_
            refine W_seq ?_
            refine W_region mixed rfl ?_
            refine r_move (.p rfl) rfl ?_
            refine r_fieldAddr (.p rfl) rfl fld31_3 ?_
            refine r_load1 (.p rfl) rfl ag29 rfl rfl ?_
            refine r_len (.p rfl) rfl (.sl _) trivial (List.length_map _) slc29 ?_
            refine r_bin (.p rfl) rfl rfl (bin_lss _ _ _ _ _ _) rfl ?_
            refine r_end ?_
            refine W_cond rfl (fun c26 => ?_) (fun c26 => ?_)
            · have h := cnd_t c26 h
              refine W_skip ?_
              refine W_seq ?_
              refine W_block ?_
              refine W_seq ?_
              refine W_region mixed rfl ?_
              refine r_fieldAddr (.p rfl) rfl fld31_3 ?_
              refine r_load1 (.p rfl) rfl ag29 rfl rfl ?_
              refine r_move (.p rfl) rfl ?_
              obtain ⟨v27, a27, b27, h⟩ := idx_bind h
              refine r_index (.p rfl) rfl rfl slc29 sz61 a27 (map_get b27) rfl ?_
              refine r_loadrN (.p rfl) rfl ag61 sz61 rfl rfl ?_
              refine r_alloc (.p rfl) zv61 rfl rfl rfl ?_
              refine r_store rfl rfl rfl rfl sz61 rfl (leb rfl) rfl ?_
              refine r_end ?_
              refine W_seq ?_
              refine W_region mixed rfl ?_
              refine r_fieldAddr (.p rfl) rfl fld31_0 ?_
              refine r_load1 (.p rfl) rfl ag28 rfl rfl ?_
              refine r_fieldAddr (.p rfl) rfl fld61_1 ?_
              refine r_load1 (.p rfl) rfl ag3 rfl rfl ?_
              obtain ⟨v28, a28, b28, h⟩ := idx_bind h
              refine r_index (.p rfl) rfl rfl slc28 sz3 a28 (map_get b28) rfl ?_
              refine r_loadr1 (.p rfl) rfl ag3 rfl ?_
              obtain ⟨c29, h⟩ := chk_bind h
              refine r_bin (.p rfl) rfl rfl (bin_shl _ _ _ _ _ _ _ c29) rfl ?_
              refine r_bin (.p rfl) rfl rfl (bin_sub _ _ _ _ _ _) rfl ?_
              refine r_assign (.p rfl) rfl ?_
              refine r_end ?_
              refine W_join h (fun v30 => mk [(2, .e (.one (.ptr 2 0))), (3, .e (.one (.ptr 3 0))), (8, .e (.one (.pure (.val (.int .i64 v24))))), (153, .e (.one (.pure (.val (.bool v30)))))] [(2, .box [.pure (.sl (p0.fVersions.map eI64)), .pure (.sl (p0.fNow.map eI64)), .pure (.sl (p0.fTarget.map eI64)), .pure (.sl (p0.fTables.map eApiTable))]), (3, .box [.pure (.sl (p1.fBase.map eI64)), .pure (.sl (p1.fNext.map eI64)), .pure (.sl (p1.fHeld.map eU8))])]) (fun j30 h => ?_) (fun v30 h => ?_)
              · refine W_region mixed rfl ?_
                refine r_loadN (.p rfl) rfl ag61 sz61 rfl rfl rfl ?_
                obtain ⟨v31, a31, h⟩ := bind_some h
                refine r_call (ds0 := [_]) [] (sheaveref35_Stored_c N v27 v31 a31) (.p rfl) gd38 rfl ⟨rfl, trivial⟩ rfl rfl rfl (nodupB_spec rfl) trivial rfl ?_
                refine r_un (.p rfl) rfl (un_not _) rfl ?_
                refine r_move (.p rfl) rfl ?_
                refine r_split (t := 119) rfl (fun c32 => ?_) (fun c32 => ?_)
                · have h := cnd_t c32 h
                  refine r_fieldAddr (.g rfl rfl) rfl fld37_2 ?_
                  refine r_load1 (.g rfl rfl) rfl ag35 rfl rfl ?_
                  refine r_move (.g rfl rfl) rfl ?_
                  obtain ⟨v33, a33, b33, h⟩ := idx_bind h
                  refine r_index (.g rfl rfl) rfl rfl slc35 sz80 a33 (map_get b33) rfl ?_
                  refine r_loadr1 (.g rfl rfl) rfl ag80 rfl ?_
                  refine r_bin (.g rfl rfl) rfl rfl (bin_neq _ _ _ _ _ _) rfl ?_
                  refine r_pick (.p rfl) rfl rfl rfl ?_
                  refine r_move (.p rfl) rfl ?_
                  refine r_split (t := 127) rfl (fun c34 => ?_) (fun c34 => ?_)
                  · have h := cnd_t c34 h
                    refine r_notB rfl rfl ?_
                    refine r_notB rfl rfl ?_
                    refine r_notB rfl rfl ?_
                    refine r_notU rfl rfl ?_
                    refine r_notU rfl rfl ?_
                    refine r_notU rfl rfl ?_
                    refine r_notU rfl rfl ?_
                    refine r_notU rfl rfl ?_
                    refine r_notU rfl rfl ?_
                    refine r_notU rfl rfl ?_
                    refine r_notU rfl rfl ?_
                    refine r_notU rfl rfl ?_
                    refine r_notU rfl rfl ?_
                    refine r_notU rfl rfl ?_
                    refine r_notU rfl rfl ?_
                    refine r_notU rfl rfl ?_
                    refine r_notU rfl rfl ?_
                    refine r_notU rfl rfl ?_
                    refine r_notU rfl rfl ?_
                    refine r_notU rfl rfl ?_
                    refine r_notU rfl rfl ?_
                    refine r_notU rfl rfl ?_
                    refine r_notU rfl rfl ?_
                    refine r_notU rfl rfl ?_
                    refine r_notB rfl rfl ?_
                    refine r_pick (.p rfl) rfl rfl rfl ?_
                    refine r_endD (by kernel_rfl) ?_
                    exact sink true h (sees_mk (rn []) _ _ ⟨rfl, rfl, rfl, rfl, trivial⟩ ⟨rfl, rfl, trivial⟩ rfl rfl)
                  · have h := cnd_f c34 h
                    refine r_loadN (.g rfl rfl) rfl ag61 sz61 rfl rfl rfl ?_
                    obtain ⟨v35, a35, h⟩ := bind_some h
                    refine r_call (ds0 := [_]) [] (sheaveref35_Stored_c N v27 v35 a35) (.g rfl rfl) gd38 rfl ⟨rfl, trivial⟩ rfl rfl rfl (nodupB_spec rfl) trivial rfl ?_
                    refine r_move (.g rfl rfl) rfl ?_
                    refine r_split (t := 130) rfl (fun c36 => ?_) (fun c36 => ?_)
                    · have h := cnd_t c36 h
                      refine r_fieldAddr (.g rfl rfl) rfl fld37_2 ?_
                      refine r_load1 (.g rfl rfl) rfl ag35 rfl rfl ?_
                      refine r_move (.g rfl rfl) rfl ?_
                      obtain ⟨v37, a37, b37, h⟩ := idx_bind h
                      refine r_index (.g rfl rfl) rfl rfl slc35 sz80 a37 (map_get b37) rfl ?_
                      refine r_loadr1 (.g rfl rfl) rfl ag80 rfl ?_
                      refine r_move (.g rfl rfl) rfl ?_
                      refine r_bin (.g rfl rfl) rfl rfl (bin_andNot _ _ _ _ _ _) rfl ?_
                      refine r_bin (.g rfl rfl) rfl rfl (bin_neq _ _ _ _ _ _) rfl ?_
                      refine r_move (.g rfl rfl) rfl ?_
                      refine r_split (t := 139) rfl (fun c38 => ?_) (fun c38 => ?_)
                      · have h := cnd_t c38 h
                        refine r_notB rfl rfl ?_
                        refine r_notB rfl rfl ?_
                        refine r_notB rfl rfl ?_
                        refine r_notB rfl rfl ?_
                        refine r_notB rfl rfl ?_
                        refine r_notB rfl rfl ?_
                        refine r_notB rfl rfl ?_
                        refine r_notB rfl rfl ?_
                        refine r_notB rfl rfl ?_
                        refine r_notB rfl rfl ?_
                        refine r_notB rfl rfl ?_
                        refine r_pick (.g rfl rfl) rfl rfl rfl ?_
                        refine r_pick (.g rfl rfl) rfl rfl rfl ?_
                        refine r_pick (.p rfl) rfl rfl rfl ?_
                        refine r_endD (by kernel_rfl) ?_
                        exact sink true h (sees_mk (rn []) _ _ ⟨rfl, rfl, rfl, rfl, trivial⟩ ⟨rfl, rfl, trivial⟩ rfl rfl)
                      · have h := cnd_f c38 h
                        refine r_loadN (.g rfl rfl) rfl ag37 sz37 rfl rfl rfl ?_
                        refine r_fieldAddr (.g rfl rfl) rfl fld61_1 ?_
                        refine r_load1 (.g rfl rfl) rfl ag3 rfl rfl ?_
                        obtain ⟨v39, a39, h⟩ := bind_some h
                        refine r_call (ds0 := [_, _]) [] (sheaveref36_Running_c N p1 v27.fFrom v39 a39) (.g rfl rfl) gd42 rfl ⟨rfl, rfl, trivial⟩ rfl rfl rfl (nodupB_spec rfl) trivial rfl ?_
                        refine r_fieldAddr (.g rfl rfl) rfl fld37_2 ?_
                        refine r_load1 (.g rfl rfl) rfl ag35 rfl rfl ?_
                        refine r_move (.g rfl rfl) rfl ?_
                        obtain ⟨v40, a40, b40, h⟩ := idx_bind h
                        refine r_index (.g rfl rfl) rfl rfl slc35 sz80 a40 (map_get b40) rfl ?_
                        refine r_loadr1 (.g rfl rfl) rfl ag80 rfl ?_
                        refine r_bin (.g rfl rfl) rfl rfl (bin_andNot _ _ _ _ _ _) rfl ?_
                        refine r_bin (.g rfl rfl) rfl rfl (bin_neq _ _ _ _ _ _) rfl ?_
                        refine r_pick (.g rfl rfl) rfl rfl rfl ?_
                        refine r_pick (.g rfl rfl) rfl rfl rfl ?_
                        refine r_pick (.p rfl) rfl rfl rfl ?_
                        refine r_endD (by kernel_rfl) ?_
                        exact sink ((andNotI .u8 v39 v40) != 0) h (sees_mk (rn []) _ _ ⟨rfl, rfl, rfl, rfl, trivial⟩ ⟨rfl, rfl, trivial⟩ rfl rfl)
                    · have h := cnd_f c36 h
                      refine r_notB rfl rfl ?_
                      refine r_notB rfl rfl ?_
                      refine r_notB rfl rfl ?_
                      refine r_notB rfl rfl ?_
                      refine r_notB rfl rfl ?_
                      refine r_notB rfl rfl ?_
                      refine r_notB rfl rfl ?_
                      refine r_notB rfl rfl ?_
                      refine r_notB rfl rfl ?_
                      refine r_notU rfl rfl ?_
                      refine r_notU rfl rfl ?_
                      refine r_notU rfl rfl ?_
                      refine r_notU rfl rfl ?_
                      refine r_notU rfl rfl ?_
                      refine r_notU rfl rfl ?_
                      refine r_notU rfl rfl ?_
                      refine r_notU rfl rfl ?_
                      refine r_notU rfl rfl ?_
                      refine r_notU rfl rfl ?_
                      refine r_notU rfl rfl ?_
                      refine r_notB rfl rfl ?_
                      refine r_pick (.g rfl rfl) rfl rfl rfl ?_
                      refine r_pick (.p rfl) rfl rfl rfl ?_
                      refine r_endD (by kernel_rfl) ?_
                      exact sink false h (sees_mk (rn []) _ _ ⟨rfl, rfl, rfl, rfl, trivial⟩ ⟨rfl, rfl, trivial⟩ rfl rfl)
                · have h := cnd_f c32 h
                  refine r_notB rfl rfl ?_
                  refine r_notB rfl rfl ?_
                  refine r_notB rfl rfl ?_
                  refine r_notB rfl rfl ?_
                  refine r_notB rfl rfl ?_
                  refine r_notB rfl rfl ?_
                  refine r_pick (.p rfl) rfl rfl rfl ?_
                  refine r_move (.p rfl) rfl ?_
                  refine r_loadN (.g rfl rfl) rfl ag61 sz61 rfl rfl rfl ?_
                  obtain ⟨v41, a41, h⟩ := bind_some h
                  refine r_call (ds0 := [_]) [] (sheaveref35_Stored_c N v27 v41 a41) (.g rfl rfl) gd38 rfl ⟨rfl, trivial⟩ rfl rfl rfl (nodupB_spec rfl) trivial rfl ?_
                  refine r_move (.g rfl rfl) rfl ?_
                  refine r_split (t := 130) rfl (fun c42 => ?_) (fun c42 => ?_)
                  · have h := cnd_t c42 h
                    refine r_fieldAddr (.g rfl rfl) rfl fld37_2 ?_
                    refine r_load1 (.g rfl rfl) rfl ag35 rfl rfl ?_
                    refine r_move (.g rfl rfl) rfl ?_
                    obtain ⟨v43, a43, b43, h⟩ := idx_bind h
                    refine r_index (.g rfl rfl) rfl rfl slc35 sz80 a43 (map_get b43) rfl ?_
                    refine r_loadr1 (.g rfl rfl) rfl ag80 rfl ?_
                    refine r_move (.g rfl rfl) rfl ?_
                    refine r_bin (.g rfl rfl) rfl rfl (bin_andNot _ _ _ _ _ _) rfl ?_
                    refine r_bin (.g rfl rfl) rfl rfl (bin_neq _ _ _ _ _ _) rfl ?_
                    refine r_move (.g rfl rfl) rfl ?_
                    refine r_split (t := 139) rfl (fun c44 => ?_) (fun c44 => ?_)
                    · have h := cnd_t c44 h
                      refine r_notB rfl rfl ?_
                      refine r_notB rfl rfl ?_
                      refine r_notB rfl rfl ?_
                      refine r_notB rfl rfl ?_
                      refine r_notB rfl rfl ?_
                      refine r_notB rfl rfl ?_
                      refine r_notB rfl rfl ?_
                      refine r_notB rfl rfl ?_
                      refine r_notB rfl rfl ?_
                      refine r_notB rfl rfl ?_
                      refine r_notB rfl rfl ?_
                      refine r_pick (.g rfl rfl) rfl rfl rfl ?_
                      refine r_pick (.g rfl rfl) rfl rfl rfl ?_
                      refine r_pick (.p rfl) rfl rfl rfl ?_
                      refine r_endD (by kernel_rfl) ?_
                      exact sink true h (sees_mk (rn []) _ _ ⟨rfl, rfl, rfl, rfl, trivial⟩ ⟨rfl, rfl, trivial⟩ rfl rfl)
                    · have h := cnd_f c44 h
                      refine r_loadN (.g rfl rfl) rfl ag37 sz37 rfl rfl rfl ?_
                      refine r_fieldAddr (.g rfl rfl) rfl fld61_1 ?_
                      refine r_load1 (.g rfl rfl) rfl ag3 rfl rfl ?_
                      obtain ⟨v45, a45, h⟩ := bind_some h
                      refine r_call (ds0 := [_, _]) [] (sheaveref36_Running_c N p1 v27.fFrom v45 a45) (.g rfl rfl) gd42 rfl ⟨rfl, rfl, trivial⟩ rfl rfl rfl (nodupB_spec rfl) trivial rfl ?_
                      refine r_fieldAddr (.g rfl rfl) rfl fld37_2 ?_
                      refine r_load1 (.g rfl rfl) rfl ag35 rfl rfl ?_
                      refine r_move (.g rfl rfl) rfl ?_
                      obtain ⟨v46, a46, b46, h⟩ := idx_bind h
                      refine r_index (.g rfl rfl) rfl rfl slc35 sz80 a46 (map_get b46) rfl ?_
                      refine r_loadr1 (.g rfl rfl) rfl ag80 rfl ?_
                      refine r_bin (.g rfl rfl) rfl rfl (bin_andNot _ _ _ _ _ _) rfl ?_
                      refine r_bin (.g rfl rfl) rfl rfl (bin_neq _ _ _ _ _ _) rfl ?_
                      refine r_pick (.g rfl rfl) rfl rfl rfl ?_
                      refine r_pick (.g rfl rfl) rfl rfl rfl ?_
                      refine r_pick (.p rfl) rfl rfl rfl ?_
                      refine r_endD (by kernel_rfl) ?_
                      exact sink ((andNotI .u8 v45 v46) != 0) h (sees_mk (rn []) _ _ ⟨rfl, rfl, rfl, rfl, trivial⟩ ⟨rfl, rfl, trivial⟩ rfl rfl)
                  · have h := cnd_f c42 h
                    refine r_notB rfl rfl ?_
                    refine r_notB rfl rfl ?_
                    refine r_notB rfl rfl ?_
                    refine r_notB rfl rfl ?_
                    refine r_notB rfl rfl ?_
                    refine r_notB rfl rfl ?_
                    refine r_notB rfl rfl ?_
                    refine r_notB rfl rfl ?_
                    refine r_notB rfl rfl ?_
                    refine r_notU rfl rfl ?_
                    refine r_notU rfl rfl ?_
                    refine r_notU rfl rfl ?_
                    refine r_notU rfl rfl ?_
                    refine r_notU rfl rfl ?_
                    refine r_notU rfl rfl ?_
                    refine r_notU rfl rfl ?_
                    refine r_notU rfl rfl ?_
                    refine r_notU rfl rfl ?_
                    refine r_notU rfl rfl ?_
                    refine r_notU rfl rfl ?_
                    refine r_notB rfl rfl ?_
                    refine r_pick (.g rfl rfl) rfl rfl rfl ?_
                    refine r_pick (.p rfl) rfl rfl rfl ?_
                    refine r_endD (by kernel_rfl) ?_
                    exact sink false h (sees_mk (rn []) _ _ ⟨rfl, rfl, rfl, rfl, trivial⟩ ⟨rfl, rfl, trivial⟩ rfl rfl)
              · refine W_cond rfl (fun c47 => ?_) (fun c47 => ?_)
                · have h := cnd_t c47 h
                  refine W_seq ?_
                  refine W_region mixed rfl ?_
                  refine r_assign (.p rfl) rfl ?_
                  refine r_end ?_
                  obtain rfl := Option.some.inj h
                  refine W_sees (sees_mk (rn []) [(4, .e (.one (.pure (.val (.int .i64 1)))))] [] ⟨rfl, trivial⟩ trivial rfl rfl) (W_ret ?_)
                  exact ⟨⟨[_], ⟨.tmp _ _ rfl, trivial⟩, rfl⟩, trivial⟩
                · have h := cnd_f c47 h
                  refine W_skip ?_
                  refine W_region mixed rfl ?_
                  refine r_move (.p rfl) rfl ?_
                  refine r_bin (.p rfl) rfl rfl (bin_add _ _ _ _ _ _) rfl ?_
                  refine r_assign (.p rfl) rfl ?_
                  refine r_end ?_
                  exact sink (IntKind.wrap .i64 (v24 + 1)) h (sees_mk (rn []) _ _ ⟨rfl, rfl, rfl, trivial⟩ ⟨rfl, rfl, trivial⟩ rfl rfl)
            · have h := cnd_f c26 h
              refine W_exit ?_
              exact sink () h (sees_mk (rn []) _ _ trivial trivial rfl rfl)
          · refine W_sees hs ?_
            refine W_seq ?_
            refine W_region mixed rfl ?_
            refine r_assign (.p rfl) rfl ?_
            refine r_end ?_
            obtain rfl := Option.some.inj h
            refine W_sees (sees_mk (rn []) [(4, .e (.one (.pure (.val (.int .i64 0)))))] [] ⟨rfl, trivial⟩ trivial rfl rfl) (W_ret ?_)
            exact ⟨⟨[_], ⟨.tmp _ _ rfl, trivial⟩, rfl⟩, trivial⟩

set_option maxRecDepth 10000 in
theorem sheaveref36_copied_c (N : Nat) (p0 : ApiMix) (r : ApiMix) (h : Sh.sheaveref36_copied N p0 = some r) : Contract Try.prog 48 [.e (.agg [.pure (.sl (p0.fBase.map eI64)), .pure (.sl (p0.fNext.map eI64)), .pure (.sl (p0.fHeld.map eU8))])] [(1, r.fBase.map eI64), (1, r.fNext.map eI64), (1, r.fHeld.map eU8)] (.e (.agg [.own 0, .own 1, .own 2])) := by
  unfold Sh.sheaveref36_copied at h
  refine contract_of_W (n := 16) (rs := [.cell 2 37]) Try.func48 rfl rfl rfl (leb rfl) rfl fun w0 S0 => ?_
  refine W_seq ?_
  refine W_region mixed rfl ?_
  refine r_box (.p rfl) rfl rfl ?_
  refine r_alloc (.p rfl) zv37 rfl rfl rfl ?_
  refine r_end ?_
  refine W_seq ?_
  refine W_region mixed rfl ?_
  refine r_buildSlice [] (.p rfl) rfl trivial rfl slc28 sz3 zv3 rfl rfl (leb rfl) rfl rfl ?_
  refine r_fieldAddr (.p rfl) rfl fld37_0 ?_
  refine r_load1 (.p rfl) rfl ag28 rfl rfl ?_
  obtain ⟨c1, h⟩ := chk_bind h
  refine r_append (.p rfl) rfl (.own _ _ _) ⟨rfl, trivial⟩ rfl (.sl _ _ (map_rows (f := eI64) (n := 1) (fun _ => rfl) _)) trivial rfl slc28 slc28 sz3 byt3 (leb rfl) zv3 rfl (len_lim (f := eI64) (g := eI64) (xs := (([] : List Int))) (ys := p0.fBase) c1) (map_app eI64 (([] : List Int)) p0.fBase) ?_
  refine r_buildSlice [] (.p rfl) rfl trivial rfl slc28 sz3 zv3 rfl rfl (leb rfl) rfl rfl ?_
  refine r_fieldAddr (.p rfl) rfl fld37_1 ?_
  refine r_load1 (.p rfl) rfl ag28 rfl rfl ?_
  obtain ⟨c2, h⟩ := chk_bind h
  refine r_append (.p rfl) rfl (.own _ _ _) ⟨rfl, trivial⟩ rfl (.sl _ _ (map_rows (f := eI64) (n := 1) (fun _ => rfl) _)) trivial rfl slc28 slc28 sz3 byt3 (leb rfl) zv3 rfl (len_lim (f := eI64) (g := eI64) (xs := (([] : List Int))) (ys := p0.fNext) c2) (map_app eI64 (([] : List Int)) p0.fNext) ?_
  refine r_buildSlice [] (.p rfl) rfl trivial rfl slc35 sz80 zv80 rfl rfl (leb rfl) rfl rfl ?_
  refine r_fieldAddr (.p rfl) rfl fld37_2 ?_
  refine r_load1 (.p rfl) rfl ag35 rfl rfl ?_
  obtain ⟨c3, h⟩ := chk_bind h
  refine r_append (.p rfl) rfl (.own _ _ _) ⟨rfl, trivial⟩ rfl (.sl _ _ (map_rows (f := eU8) (n := 1) (fun _ => rfl) _)) trivial rfl slc35 slc35 sz80 byt80 (leb rfl) zv80 rfl (len_lim (f := eU8) (g := eU8) (xs := (([] : List Int))) (ys := p0.fHeld) c3) (map_app eU8 (([] : List Int)) p0.fHeld) ?_
  refine r_build [(0, .tmp 6, _), (1, .tmp 10, _), (2, .tmp 14, _)] (.p rfl) rfl ⟨rfl, rfl, rfl, trivial⟩ zv37 rfl rfl pl37 rfl ?_
  refine r_store rfl rfl rfl rfl sz37 rfl (leb rfl) rfl ?_
  refine r_endD (by kernel_rfl) ?_
  obtain rfl := Option.some.inj h
  refine W_sees (sees_mk (rn [(1000, 6), (1001, 10), (1002, 14)]) [(2, .e (.one (.ptr 2 0)))] [(2, .box [.own 1000, .own 1001, .own 1002]), (1000, .vec 1 (((([] : List Int)) ++ p0.fBase).map eI64)), (1001, .vec 1 (((([] : List Int)) ++ p0.fNext).map eI64)), (1002, .vec 1 (((([] : List Int)) ++ p0.fHeld).map eU8))] ⟨rfl, trivial⟩ ⟨rfl, rfl, rfl, rfl, trivial⟩ rfl rfl) (W_ret ?_)
  exact ⟨⟨[_], ⟨.cellN _ _ _ _ _ _ _ rfl rfl ag37 sz37 rfl rfl (ltb rfl), trivial⟩, rfl⟩, ⟨rfl, rfl, rfl, trivial⟩⟩

set_option maxRecDepth 10000 in
theorem sheaveref36_All_c (N : Nat) (p0 : ApiMix) (r : (List ApiMix)) (h : Sh.sheaveref36_All N p0 = some r) : Contract Try.prog 23 [.e (.agg [.pure (.sl (p0.fBase.map eI64)), .pure (.sl (p0.fNext.map eI64)), .pure (.sl (p0.fHeld.map eU8))])] [(3, r.map eApiMix)] (.e (.one (.own 0))) := by
  unfold Sh.sheaveref36_All at h
  refine contract_of_W (n := 62) (rs := [.tmp 2]) Try.func23 rfl rfl rfl (leb rfl) rfl fun w0 S0 => ?_
  refine W_seq ?_
  refine W_region mixed rfl ?_
  refine r_box (.p rfl) rfl rfl ?_
  refine r_assign (.p rfl) rfl ?_
  refine r_end ?_
  refine W_seq ?_
  refine W_region mixed rfl ?_
  refine r_assign (.p rfl) rfl ?_
  refine r_end ?_
  refine W_seq ?_
  refine W_seq ?_
  refine W_region mixed rfl ?_
  refine r_assign (.p rfl) rfl ?_
  refine r_end ?_
  refine W_whileE (L := Sh.sheaveref36_All_L1 N p0) h (fun v1 => mk [(1, .e (.one (.ptr 1 0))), (3, .e (.one (.pure (.val (.int .i64 v1.1))))), (4, .e (.one (.pure (.val (.int .i64 v1.2)))))] [(1, .box [.pure (.sl (p0.fBase.map eI64)), .pure (.sl (p0.fNext.map eI64)), .pure (.sl (p0.fHeld.map eU8))])]) (fun v2 => mk [(1, .e (.one (.ptr 1 0))), (3, .e (.one (.pure (.val (.int .i64 v2)))))] [(1, .box [.pure (.sl (p0.fBase.map eI64)), .pure (.sl (p0.fNext.map eI64)), .pure (.sl (p0.fHeld.map eU8))])]) (fun _ _ => rfl) (sees_mk (rn []) _ _ ⟨rfl, rfl, rfl, trivial⟩ ⟨rfl, trivial⟩ rfl rfl) (fun j1 n1 v1 h => ?_) (fun v2 s h hs => ?_)
  · unfold Sh.sheaveref36_All_L1 at h
    refine W_seq ?_
    refine W_seq ?_
    refine W_region mixed rfl ?_
    refine r_move (.p rfl) rfl ?_
    refine r_fieldAddr (.p rfl) rfl fld37_1 ?_
    refine r_load1 (.p rfl) rfl ag28 rfl rfl ?_
    refine r_len (.p rfl) rfl (.sl _) trivial (List.length_map _) slc28 ?_
    refine r_bin (.p rfl) rfl rfl (bin_lss _ _ _ _ _ _) rfl ?_
    refine r_end ?_
    refine W_cond rfl (fun c3 => ?_) (fun c3 => ?_)
    · have h := cnd_t c3 h
      refine W_skip ?_
      refine W_join h (fun v4 => mk [(1, .e (.one (.ptr 1 0))), (3, .e (.one (.pure (.val (.int .i64 v4))))), (4, .e (.one (.pure (.val (.int .i64 v1.2)))))] [(1, .box [.pure (.sl (p0.fBase.map eI64)), .pure (.sl (p0.fNext.map eI64)), .pure (.sl (p0.fHeld.map eU8))])]) (fun j4 h => ?_) (fun v4 h => ?_)
      · refine W_block ?_
        refine W_seq ?_
        refine W_region mixed rfl ?_
        refine r_fieldAddr (.p rfl) rfl fld37_1 ?_
        refine r_load1 (.p rfl) rfl ag28 rfl rfl ?_
        refine r_move (.p rfl) rfl ?_
        obtain ⟨v5, a5, b5, h⟩ := idx_bind h
        refine r_index (.p rfl) rfl rfl slc28 sz3 a5 (map_get b5) rfl ?_
        refine r_loadr1 (.p rfl) rfl ag3 rfl ?_
        refine r_bin (.p rfl) rfl rfl (bin_geq _ _ _ _ _ _) rfl ?_
        refine r_end ?_
        refine W_cond rfl (fun c6 => ?_) (fun c6 => ?_)
        · have h := cnd_t c6 h
          refine W_region mixed rfl ?_
          refine r_move (.p rfl) rfl ?_
          refine r_bin (.p rfl) rfl rfl (bin_add _ _ _ _ _ _) rfl ?_
          refine r_assign (.p rfl) rfl ?_
          refine r_end ?_
          exact sink (IntKind.wrap .i64 (v1.1 + 1)) h (sees_mk (rn []) _ _ ⟨rfl, rfl, rfl, trivial⟩ ⟨rfl, trivial⟩ rfl rfl)
        · have h := cnd_f c6 h
          refine W_skip ?_
          exact sink v1.1 h (sees_mk (rn []) _ _ ⟨rfl, rfl, rfl, trivial⟩ ⟨rfl, trivial⟩ rfl rfl)
      · refine W_region mixed rfl ?_
        refine r_move (.p rfl) rfl ?_
        refine r_bin (.p rfl) rfl rfl (bin_add _ _ _ _ _ _) rfl ?_
        refine r_assign (.p rfl) rfl ?_
        refine r_end ?_
        exact sink (v4, (IntKind.wrap .i64 (v1.2 + 1))) h (sees_mk (rn []) _ _ ⟨rfl, rfl, rfl, trivial⟩ ⟨rfl, trivial⟩ rfl rfl)
    · have h := cnd_f c3 h
      refine W_exit ?_
      exact sink v1.1 h (sees_mk (rn []) _ _ ⟨rfl, rfl, trivial⟩ ⟨rfl, trivial⟩ rfl rfl)
  · refine W_sees hs ?_
    refine W_seq ?_
    refine W_region mixed rfl ?_
    refine r_assign (.p rfl) rfl ?_
    refine r_end ?_
    refine W_seq ?_
    refine W_seq ?_
    refine W_region mixed rfl ?_
    refine r_assign (.p rfl) rfl ?_
    refine r_end ?_
    refine W_whileE (L := Sh.sheaveref36_All_L7 N p0 v2) h (fun v7 => mk [(1, .e (.one (.ptr 1 0))), (3, .e (.one (.pure (.val (.int .i64 v2))))), (5, .e (.one (.own 2001))), (6, .e (.one (.pure (.val (.int .i64 v7.2)))))] [(1, .box [.pure (.sl (p0.fBase.map eI64)), .pure (.sl (p0.fNext.map eI64)), .pure (.sl (p0.fHeld.map eU8))]), (2001, .vec 3 (v7.1.map eApiMix))]) (fun v8 => mk [(5, .e (.one (.own 2002)))] [(2002, .vec 3 (v8.map eApiMix))]) (fun _ _ => rfl) ((sees_adopt 5 2022 3 rfl rfl).trans (sees_mk (rn [(2001, 2022)]) _ _ ⟨rfl, rfl, rfl, rfl, trivial⟩ ⟨rfl, rfl, trivial⟩ rfl rfl)) (fun j7 n7 v7 h => ?_) (fun v8 s h hs => ?_)
    · unfold Sh.sheaveref36_All_L7 at h
      refine W_seq ?_
      refine W_seq ?_
      refine W_region mixed rfl ?_
      refine r_move (.p rfl) rfl ?_
      refine r_move (.p rfl) rfl ?_
      obtain ⟨c9, h⟩ := chk_bind h
      refine r_bin (.p rfl) rfl rfl (bin_shl _ _ _ _ _ _ _ c9) rfl ?_
      refine r_bin (.p rfl) rfl rfl (bin_lss _ _ _ _ _ _) rfl ?_
      refine r_end ?_
      refine W_cond rfl (fun c10 => ?_) (fun c10 => ?_)
      · have h := cnd_t c10 h
        refine W_skip ?_
        refine W_seq ?_
        refine W_block ?_
        refine W_seq ?_
        refine W_region mixed rfl ?_
        refine r_loadN (.p rfl) rfl ag37 sz37 rfl rfl rfl ?_
        obtain ⟨v11, a11, h⟩ := bind_some h
        refine r_call (ds0 := [_]) [2003, 2004, 2005] (sheaveref36_copied_c N p0 v11 a11) (.p rfl) gd48 rfl ⟨rfl, trivial⟩ rfl rfl rfl (nodupB_spec rfl) ⟨rfl, rfl, rfl, trivial⟩ rfl ?_
        refine r_alloc (.p rfl) zv37 rfl rfl rfl ?_
        refine r_store rfl rfl rfl rfl sz37 rfl (leb rfl) rfl ?_
        refine r_end ?_
        refine W_seq ?_
        refine W_region mixed rfl ?_
        refine r_assign (.p rfl) rfl ?_
        refine r_end ?_
        refine W_seq ?_
        refine W_seq ?_
        refine W_region mixed rfl ?_
        refine r_assign (.p rfl) rfl ?_
        refine r_end ?_
        refine W_whileE (L := Sh.sheaveref36_All_L12 N p0 v7) h (fun v12 => mk [(1, .e (.one (.ptr 1 0))), (3, .e (.one (.pure (.val (.int .i64 v2))))), (5, .e (.one (.own 2009))), (6, .e (.one (.pure (.val (.int .i64 v7.2))))), (7, .e (.one (.ptr 7 0))), (8, .e (.one (.pure (.val (.int .i64 v12.2.1))))), (9, .e (.one (.pure (.val (.int .i64 v12.2.2)))))] [(1, .box [.pure (.sl (p0.fBase.map eI64)), .pure (.sl (p0.fNext.map eI64)), .pure (.sl (p0.fHeld.map eU8))]), (7, .box [.own 2006, .own 2007, .own 2008]), (2006, .vec 1 (v11.fBase.map eI64)), (2007, .vec 1 (v12.1.map eI64)), (2008, .vec 1 (v11.fHeld.map eU8)), (2009, .vec 3 (v7.1.map eApiMix))]) (fun v13 => mk [(1, .e (.one (.ptr 1 0))), (3, .e (.one (.pure (.val (.int .i64 v2))))), (5, .e (.one (.own 2013))), (6, .e (.one (.pure (.val (.int .i64 v7.2))))), (7, .e (.one (.ptr 7 0)))] [(1, .box [.pure (.sl (p0.fBase.map eI64)), .pure (.sl (p0.fNext.map eI64)), .pure (.sl (p0.fHeld.map eU8))]), (7, .box [.own 2010, .own 2011, .own 2012]), (2010, .vec 1 (v11.fBase.map eI64)), (2011, .vec 1 (v13.map eI64)), (2012, .vec 1 (v11.fHeld.map eU8)), (2013, .vec 3 (v7.1.map eApiMix))]) (fun _ _ => rfl) (sees_mk (rn [(2006, 2003), (2007, 2004), (2008, 2005), (2009, 2001)]) _ _ ⟨rfl, rfl, rfl, rfl, rfl, rfl, rfl, trivial⟩ ⟨rfl, rfl, rfl, rfl, rfl, rfl, trivial⟩ rfl rfl) (fun j12 n12 v12 h => ?_) (fun v13 s h hs => ?_)
        · unfold Sh.sheaveref36_All_L12 at h
          refine W_seq ?_
          refine W_seq ?_
          refine W_region mixed rfl ?_
          refine r_move (.p rfl) rfl ?_
          refine r_fieldAddr (.p rfl) rfl fld37_1 ?_
          refine r_load1 (.p rfl) rfl ag28 rfl rfl ?_
          refine r_len (.p rfl) rfl (.sl _) trivial (List.length_map _) slc28 ?_
          refine r_bin (.p rfl) rfl rfl (bin_lss _ _ _ _ _ _) rfl ?_
          refine r_end ?_
          refine W_cond rfl (fun c14 => ?_) (fun c14 => ?_)
          · have h := cnd_t c14 h
            refine W_skip ?_
            refine W_join h (fun v15 => mk [(1, .e (.one (.ptr 1 0))), (3, .e (.one (.pure (.val (.int .i64 v2))))), (5, .e (.one (.own 2017))), (6, .e (.one (.pure (.val (.int .i64 v7.2))))), (7, .e (.one (.ptr 7 0))), (8, .e (.one (.pure (.val (.int .i64 v15.2))))), (9, .e (.one (.pure (.val (.int .i64 v12.2.2)))))] [(1, .box [.pure (.sl (p0.fBase.map eI64)), .pure (.sl (p0.fNext.map eI64)), .pure (.sl (p0.fHeld.map eU8))]), (7, .box [.own 2014, .own 2015, .own 2016]), (2014, .vec 1 (v11.fBase.map eI64)), (2015, .vec 1 (v15.1.map eI64)), (2016, .vec 1 (v11.fHeld.map eU8)), (2017, .vec 3 (v7.1.map eApiMix))]) (fun j15 h => ?_) (fun v15 h => ?_)
            · refine W_block ?_
              refine W_seq ?_
              refine W_seq ?_
              refine W_region mixed rfl ?_
              refine r_fieldAddr (.p rfl) rfl fld37_1 ?_
              refine r_load1 (.p rfl) rfl ag28 rfl rfl ?_
              refine r_move (.p rfl) rfl ?_
              obtain ⟨v16, a16, b16, h⟩ := idx_bind h
              refine r_index (.p rfl) rfl rfl slc28 sz3 a16 (map_get b16) rfl ?_
              refine r_loadr1 (.p rfl) rfl ag3 rfl ?_
              refine r_bin (.p rfl) rfl rfl (bin_lss _ _ _ _ _ _) rfl ?_
              refine r_end ?_
              refine W_cond rfl (fun c17 => ?_) (fun c17 => ?_)
              · have h := cnd_t c17 h
                refine W_exit ?_
                exact sink (v12.1, v12.2.1) h (sees_mk (rn [(2014, 2006), (2015, 2007), (2016, 2008), (2017, 2009)]) _ _ ⟨rfl, rfl, rfl, rfl, rfl, rfl, rfl, trivial⟩ ⟨rfl, rfl, rfl, rfl, rfl, rfl, trivial⟩ rfl rfl)
              · have h := cnd_f c17 h
                refine W_skip ?_
                refine W_join h (fun v18 => mk [(1, .e (.one (.ptr 1 0))), (3, .e (.one (.pure (.val (.int .i64 v2))))), (5, .e (.one (.own 2021))), (6, .e (.one (.pure (.val (.int .i64 v7.2))))), (7, .e (.one (.ptr 7 0))), (8, .e (.one (.pure (.val (.int .i64 v12.2.1))))), (9, .e (.one (.pure (.val (.int .i64 v12.2.2)))))] [(1, .box [.pure (.sl (p0.fBase.map eI64)), .pure (.sl (p0.fNext.map eI64)), .pure (.sl (p0.fHeld.map eU8))]), (7, .box [.own 2018, .own 2019, .own 2020]), (2018, .vec 1 (v11.fBase.map eI64)), (2019, .vec 1 (v18.map eI64)), (2020, .vec 1 (v11.fHeld.map eU8)), (2021, .vec 3 (v7.1.map eApiMix))]) (fun j18 h => ?_) (fun v18 h => ?_)
                · refine W_seq ?_
                  refine W_region mixed rfl ?_
                  refine r_move (.p rfl) rfl ?_
                  refine r_move (.p rfl) rfl ?_
                  obtain ⟨c19, h⟩ := chk_bind h
                  refine r_bin (.p rfl) rfl rfl (bin_shr _ _ _ _ _ _ _ c19) rfl ?_
                  refine r_bin (.p rfl) rfl rfl (bin_rem _ _ _ _ _ _ (by decide)) rfl ?_
                  refine r_bin (.p rfl) rfl rfl (bin_eql _ _ _ _ _ _) rfl ?_
                  refine r_end ?_
                  refine W_cond rfl (fun c20 => ?_) (fun c20 => ?_)
                  · have h := cnd_t c20 h
                    refine W_region mixed rfl ?_
                    refine r_fieldAddr (.p rfl) rfl fld37_1 ?_
                    refine r_load1 (.p rfl) rfl ag28 rfl rfl ?_
                    refine r_move (.p rfl) rfl ?_
                    obtain ⟨v21, a21, b21, h⟩ := idx_bind h
                    refine r_indexo (.p rfl) rfl rfl rfl slc28 sz3 a21 (map_get b21) ?_
                    refine r_storee rfl rfl rfl rfl (map_get b21) rfl sz3 rfl (leb rfl) (map_setv eI64 v12.1 _ ((-1))) ?_
                    refine r_end ?_
                    exact sink (v12.1.set (v12.2.2).toNat ((-1))) h (sees_mk (rn [(2018, 2006), (2019, 2007), (2020, 2008), (2021, 2009)]) _ _ ⟨rfl, rfl, rfl, rfl, rfl, rfl, rfl, trivial⟩ ⟨rfl, rfl, rfl, rfl, rfl, rfl, trivial⟩ rfl rfl)
                  · have h := cnd_f c20 h
                    refine W_skip ?_
                    exact sink v12.1 h (sees_mk (rn [(2018, 2006), (2019, 2007), (2020, 2008), (2021, 2009)]) _ _ ⟨rfl, rfl, rfl, rfl, rfl, rfl, rfl, trivial⟩ ⟨rfl, rfl, rfl, rfl, rfl, rfl, trivial⟩ rfl rfl)
                · refine W_region mixed rfl ?_
                  refine r_move (.p rfl) rfl ?_
                  refine r_bin (.p rfl) rfl rfl (bin_add _ _ _ _ _ _) rfl ?_
                  refine r_assign (.p rfl) rfl ?_
                  refine r_end ?_
                  exact sink (v18, (IntKind.wrap .i64 (v12.2.1 + 1))) h (sees_mk (rn [(2014, 2018), (2015, 2019), (2016, 2020), (2017, 2021)]) _ _ ⟨rfl, rfl, rfl, rfl, rfl, rfl, rfl, trivial⟩ ⟨rfl, rfl, rfl, rfl, rfl, rfl, trivial⟩ rfl rfl)
            · refine W_region mixed rfl ?_
              refine r_move (.p rfl) rfl ?_
              refine r_bin (.p rfl) rfl rfl (bin_add _ _ _ _ _ _) rfl ?_
              refine r_assign (.p rfl) rfl ?_
              refine r_end ?_
              exact sink (v15.1, v15.2, (IntKind.wrap .i64 (v12.2.2 + 1))) h (sees_mk (rn [(2006, 2014), (2007, 2015), (2008, 2016), (2009, 2017)]) _ _ ⟨rfl, rfl, rfl, rfl, rfl, rfl, rfl, trivial⟩ ⟨rfl, rfl, rfl, rfl, rfl, rfl, trivial⟩ rfl rfl)
          · have h := cnd_f c14 h
            refine W_exit ?_
            exact sink v12.1 h (sees_mk (rn [(2010, 2006), (2011, 2007), (2012, 2008), (2013, 2009)]) _ _ ⟨rfl, rfl, rfl, rfl, rfl, trivial⟩ ⟨rfl, rfl, rfl, rfl, rfl, rfl, trivial⟩ rfl rfl)
        · refine W_sees hs ?_
          refine W_region mixed rfl ?_
          refine r_move (.p rfl) rfl ?_
          refine r_loadN (.p rfl) rfl ag37 sz37 rfl rfl rfl ?_
          refine r_see (sees_frz 2010 _ _ rfl) ?_
          refine r_see (sees_frz 2011 _ _ rfl) ?_
          refine r_see (sees_frz 2012 _ _ rfl) ?_
          refine r_buildSlice [(0, .tmp 58, _)] (.p rfl) rfl ⟨rfl, trivial⟩ rfl slc48 sz37 zv37 rfl rfl (leb rfl) rfl rfl ?_
          obtain ⟨c22, h⟩ := chk_bind h
          refine r_append (.p rfl) rfl (.own _ _ _) ⟨rfl, trivial⟩ rfl (.own _ _ _) ⟨rfl, trivial⟩ rfl slc48 slc48 sz37 byt37 (leb rfl) zv37 rfl (len_lim (f := eApiMix) (g := eApiMix) (xs := v7.1) (ys := (([(ApiMix.mk v11.fBase v13 v11.fHeld)] : List ApiMix))) c22) (map_app eApiMix v7.1 (([(ApiMix.mk v11.fBase v13 v11.fHeld)] : List ApiMix))) ?_
          refine r_assign (.p rfl) rfl ?_
          refine r_end ?_
          refine W_region mixed rfl ?_
          refine r_move (.p rfl) rfl ?_
          refine r_bin (.p rfl) rfl rfl (bin_add _ _ _ _ _ _) rfl ?_
          refine r_assign (.p rfl) rfl ?_
          refine r_end ?_
          exact sink (v7.1 ++ (([(ApiMix.mk v11.fBase v13 v11.fHeld)] : List ApiMix)), (IntKind.wrap .i64 (v7.2 + 1))) h (sees_mk (rn [(2001, 60)]) _ _ ⟨rfl, rfl, rfl, rfl, trivial⟩ ⟨rfl, rfl, trivial⟩ rfl rfl)
      · have h := cnd_f c10 h
        refine W_exit ?_
        exact sink v7.1 h (sees_mk (rn [(2002, 2001)]) _ _ ⟨rfl, trivial⟩ ⟨rfl, trivial⟩ rfl rfl)
    · refine W_sees hs ?_
      refine W_seq ?_
      refine W_region mixed rfl ?_
      refine r_move (.p rfl) rfl ?_
      refine r_assign (.p rfl) rfl ?_
      refine r_end ?_
      obtain rfl := Option.some.inj h
      refine W_sees (sees_mk (rn [(1000, 2002)]) [(2, .e (.one (.own 1000)))] [(1000, .vec 3 (v8.map eApiMix))] ⟨rfl, trivial⟩ ⟨rfl, trivial⟩ rfl rfl) (W_ret ?_)
      exact ⟨⟨[_], ⟨.tmp _ _ rfl, trivial⟩, rfl⟩, ⟨rfl, trivial⟩⟩

set_option maxRecDepth 10000 in
theorem sheaveref36_Aborts_c (N : Nat) (p0 : ApiProblem) (p1 : ApiMix) (r : (List ApiMix) × Int) (h : Sh.sheaveref36_Aborts N p0 p1 = some r) : Contract Try.prog 47 [.e (.agg [.pure (.sl (p0.fVersions.map eI64)), .pure (.sl (p0.fNow.map eI64)), .pure (.sl (p0.fTarget.map eI64)), .pure (.sl (p0.fTables.map eApiTable))]), .e (.agg [.pure (.sl (p1.fBase.map eI64)), .pure (.sl (p1.fNext.map eI64)), .pure (.sl (p1.fHeld.map eU8))])] [(3, r.1.map eApiMix)] (.tup [.one (.own 0), .one (.pure (.val (.int .i64 r.2)))]) := by
  unfold Sh.sheaveref36_Aborts at h
  refine contract_of_W (n := 15) (rs := [.tmp 4, .tmp 5]) Try.func47 rfl rfl rfl (leb rfl) rfl fun w0 S0 => ?_
  refine W_seq ?_
  refine W_region mixed rfl ?_
  refine r_box (.p rfl) rfl rfl ?_
  refine r_box (.p rfl) rfl rfl ?_
  refine r_assign (.p rfl) rfl ?_
  refine r_assign (.p rfl) rfl ?_
  refine r_end ?_
  refine W_seq ?_
  refine W_seq ?_
  refine W_region mixed rfl ?_
  refine r_loadN (.p rfl) rfl ag31 sz31 rfl rfl rfl ?_
  refine r_loadN (.p rfl) rfl ag37 sz37 rfl rfl rfl ?_
  obtain ⟨v1, a1, h⟩ := bind_some h
  refine r_call (ds0 := [_, _]) [] (sheaveref36_Valid_c N p0 p1 v1 a1) (.p rfl) gd29 rfl ⟨rfl, rfl, trivial⟩ rfl rfl rfl (nodupB_spec rfl) trivial rfl ?_
  refine r_assign (.p rfl) rfl ?_
  refine r_end ?_
  refine W_seq ?_
  refine W_region mixed rfl ?_
  refine r_move (.p rfl) rfl ?_
  refine r_bin (.p rfl) rfl rfl (bin_neq _ _ _ _ _ _) rfl ?_
  refine r_end ?_
  refine W_cond rfl (fun c2 => ?_) (fun c2 => ?_)
  · have h := cnd_t c2 h
    refine W_seq ?_
    refine W_region mixed rfl ?_
    refine r_move (.p rfl) rfl ?_
    refine r_assign (.p rfl) rfl ?_
    refine r_assign (.p rfl) rfl ?_
    refine r_end ?_
    obtain rfl := Option.some.inj h
    refine W_sees ((sees_adopt 4 2001 3 rfl rfl).trans (sees_mk (rn [(1000, 2001)]) [(4, .e (.one (.own 1000))), (5, .e (.one (.pure (.val (.int .i64 v1)))))] [(1000, .vec 3 ((([] : List ApiMix)).map eApiMix))] ⟨rfl, rfl, trivial⟩ ⟨rfl, trivial⟩ rfl rfl)) (W_ret ?_)
    exact ⟨⟨[_, _], ⟨.tmp _ _ rfl, ⟨.tmp _ _ rfl, trivial⟩⟩, rfl⟩, ⟨rfl, trivial⟩⟩
  · have h := cnd_f c2 h
    refine W_skip ?_
    refine W_seq ?_
    refine W_region mixed rfl ?_
    refine r_loadN (.p rfl) rfl ag37 sz37 rfl rfl rfl ?_
    obtain ⟨v3, a3, h⟩ := bind_some h
    refine r_call (ds0 := [_]) [2002] (sheaveref36_All_c N p1 v3 a3) (.p rfl) gd23 rfl ⟨rfl, trivial⟩ rfl rfl rfl (nodupB_spec rfl) ⟨rfl, trivial⟩ rfl ?_
    refine r_assign (.p rfl) rfl ?_
    refine r_assign (.p rfl) rfl ?_
    refine r_end ?_
    obtain rfl := Option.some.inj h
    refine W_sees (sees_mk (rn [(1000, 2002)]) [(4, .e (.one (.own 1000))), (5, .e (.one (.pure (.val (.int .i64 0)))))] [(1000, .vec 3 (v3.map eApiMix))] ⟨rfl, rfl, trivial⟩ ⟨rfl, trivial⟩ rfl rfl) (W_ret ?_)
    exact ⟨⟨[_, _], ⟨.tmp _ _ rfl, ⟨.tmp _ _ rfl, trivial⟩⟩, rfl⟩, ⟨rfl, trivial⟩⟩

set_option maxRecDepth 10000 in
theorem sheaveref36_Blame_c (N : Nat) (p0 : ApiProblem) (p1 : ApiMix) (r : ApiMix × ApiConflict × Int) (h : Sh.sheaveref36_Blame N p0 p1 = some r) : Contract Try.prog 21 [.e (.agg [.pure (.sl (p0.fVersions.map eI64)), .pure (.sl (p0.fNow.map eI64)), .pure (.sl (p0.fTarget.map eI64)), .pure (.sl (p0.fTables.map eApiTable))]), .e (.agg [.pure (.sl (p1.fBase.map eI64)), .pure (.sl (p1.fNext.map eI64)), .pure (.sl (p1.fHeld.map eU8))])] [] (.tup [.agg [.pure (.sl (r.1.fBase.map eI64)), .pure (.sl (r.1.fNext.map eI64)), .pure (.sl (r.1.fHeld.map eU8))], .agg [.pure (.val (.int .i64 r.2.1.fTable)), .pure (.val (.int .i64 r.2.1.fWriter)), .pure (.val (.int .i64 r.2.1.fReader))], .one (.pure (.val (.int .i64 r.2.2)))]) := by
  unfold Sh.sheaveref36_Blame at h
  refine contract_of_W (n := 46) (rs := [.cell 4 37, .cell 5 52, .tmp 6]) Try.func21 rfl rfl rfl (leb rfl) rfl fun w0 S0 => ?_
  refine W_seq ?_
  refine W_region mixed rfl ?_
  refine r_box (.p rfl) rfl rfl ?_
  refine r_box (.p rfl) rfl rfl ?_
  refine r_alloc (.p rfl) zv37 rfl rfl rfl ?_
  refine r_alloc (.p rfl) zv52 rfl rfl rfl ?_
  refine r_assign (.p rfl) rfl ?_
  refine r_end ?_
  refine W_seq ?_
  refine W_region mixed rfl ?_
  refine r_loadN (.p rfl) rfl ag31 sz31 rfl rfl rfl ?_
  refine r_loadN (.p rfl) rfl ag37 sz37 rfl rfl rfl ?_
  obtain ⟨v1, a1, h⟩ := bind_some h
  refine r_call (ds0 := [_, _]) [2001] (sheaveref36_Aborts_c N p0 p1 v1 a1) (.p rfl) gd47 rfl ⟨rfl, rfl, trivial⟩ rfl rfl rfl (nodupB_spec rfl) ⟨rfl, trivial⟩ rfl ?_
  refine r_move (.p rfl) rfl ?_
  refine r_extract (.p rfl) rfl rfl ?_
  refine r_extract (.p rfl) rfl rfl ?_
  refine r_assign (.p rfl) rfl ?_
  refine r_assign (.p rfl) rfl ?_
  refine r_end ?_
  refine W_seq ?_
  refine W_seq ?_
  refine W_region mixed rfl ?_
  refine r_move (.p rfl) rfl ?_
  refine r_bin (.p rfl) rfl rfl (bin_neq _ _ _ _ _ _) rfl ?_
  refine r_end ?_
  refine W_cond rfl (fun c2 => ?_) (fun c2 => ?_)
  · have h := cnd_t c2 h
    refine W_seq ?_
    refine W_region mixed rfl ?_
    refine r_build [] (.p rfl) rfl trivial zv37 rfl rfl pl37 rfl ?_
    refine r_build [] (.p rfl) rfl trivial zv52 rfl rfl pl52 rfl ?_
    refine r_move (.p rfl) rfl ?_
    refine r_store rfl rfl rfl rfl sz37 rfl (leb rfl) rfl ?_
    refine r_store rfl rfl rfl rfl sz52 rfl (leb rfl) rfl ?_
    refine r_assign (.p rfl) rfl ?_
    refine r_end ?_
    obtain rfl := Option.some.inj h
    refine W_sees ((sees_nrmB 4 _ rfl).trans (sees_mk (rn []) [(4, .e (.one (.ptr 4 0))), (5, .e (.one (.ptr 5 0))), (6, .e (.one (.pure (.val (.int .i64 v1.2)))))] [(4, .box [.pure (.sl ((([] : List Int)).map eI64)), .pure (.sl ((([] : List Int)).map eI64)), .pure (.sl ((([] : List Int)).map eU8))]), (5, .box [.pure (.val (.int .i64 0)), .pure (.val (.int .i64 0)), .pure (.val (.int .i64 0))])] ⟨rfl, rfl, rfl, trivial⟩ ⟨rfl, rfl, trivial⟩ rfl rfl)) (W_ret ?_)
    exact ⟨⟨[_, _, _], ⟨.cellN _ _ _ _ _ _ _ rfl rfl ag37 sz37 rfl rfl (ltb rfl), ⟨.cellN _ _ _ _ _ _ _ rfl rfl ag52 sz52 rfl rfl (ltb rfl), ⟨.tmp _ _ rfl, trivial⟩⟩⟩, rfl⟩, trivial⟩
  · have h := cnd_f c2 h
    refine W_skip ?_
    refine W_seq ?_
    refine W_seq ?_
    refine W_region mixed rfl ?_
    refine r_assign (.p rfl) rfl ?_
    refine r_end ?_
    refine W_whileE (L := Sh.sheaveref36_Blame_L3 N p0 v1) h (fun v3 => mk [(2, .e (.one (.ptr 2 0))), (4, .e (.one (.ptr 4 0))), (5, .e (.one (.ptr 5 0))), (7, .e (.one (.own 2002))), (9, .e (.one (.pure (.val (.int .i64 v3)))))] [(2, .box [.pure (.sl (p0.fVersions.map eI64)), .pure (.sl (p0.fNow.map eI64)), .pure (.sl (p0.fTarget.map eI64)), .pure (.sl (p0.fTables.map eApiTable))]), (4, .box [.pure (.nil0), .pure (.nil0), .pure (.nil0)]), (5, .box [.pure (.val (.int .i64 0)), .pure (.val (.int .i64 0)), .pure (.val (.int .i64 0))]), (2002, .vec 3 (v1.1.map eApiMix))]) (fun v4 => mk [(4, .e (.one (.ptr 4 0))), (5, .e (.one (.ptr 5 0)))] [(4, .box [.pure (.nil0), .pure (.nil0), .pure (.nil0)]), (5, .box [.pure (.val (.int .i64 0)), .pure (.val (.int .i64 0)), .pure (.val (.int .i64 0))])]) (fun _ _ => rfl) (sees_mk (rn [(2002, 2001)]) _ _ ⟨rfl, rfl, rfl, rfl, rfl, trivial⟩ ⟨rfl, rfl, rfl, rfl, trivial⟩ rfl rfl) (fun j3 n3 v3 h => ?_) (fun v4 s h hs => ?_)
    · unfold Sh.sheaveref36_Blame_L3 at h
      refine W_seq ?_
      refine W_seq ?_
      refine W_region mixed rfl ?_
      refine r_move (.p rfl) rfl ?_
      refine r_move (.p rfl) rfl ?_
      refine r_len (.p rfl) rfl (.own _ _ _) ⟨rfl, trivial⟩ (List.length_map _) slc48 ?_
      refine r_bin (.p rfl) rfl rfl (bin_lss _ _ _ _ _ _) rfl ?_
      refine r_end ?_
      refine W_cond rfl (fun c5 => ?_) (fun c5 => ?_)
      · have h := cnd_t c5 h
        refine W_skip ?_
        refine W_seq ?_
        refine W_block ?_
        refine W_seq ?_
        refine W_region mixed rfl ?_
        refine r_loadN (.p rfl) rfl ag31 sz31 rfl rfl rfl ?_
        refine r_move (.p rfl) rfl ?_
        refine r_move (.p rfl) rfl ?_
        obtain ⟨v6, a6, b6, h⟩ := idx_bind h
        refine r_indexo (.p rfl) rfl rfl rfl slc48 sz37 a6 (map_get b6) ?_
        refine r_loadeN (.p rfl) rfl ag37 sz37 rfl (map_get b6) ?_
        obtain ⟨v7, a7, h⟩ := bind_some h
        refine r_call (ds0 := [_, _]) [2003] (sheaveref36_Found_c N p0 v6 v7 a7) (.p rfl) gd16 rfl ⟨rfl, rfl, trivial⟩ rfl rfl rfl (nodupB_spec rfl) ⟨rfl, trivial⟩ rfl ?_
        refine r_assign (.p rfl) rfl ?_
        refine r_endD (by kernel_rfl) ?_
        refine W_seq ?_
        refine W_region mixed rfl ?_
        refine r_move (.p rfl) rfl ?_
        refine r_len (.p rfl) rfl (.own _ _ _) ⟨rfl, trivial⟩ (List.length_map _) slc39 ?_
        refine r_bin (.p rfl) rfl rfl (bin_gtr _ _ _ _ _ _) rfl ?_
        refine r_end ?_
        refine W_cond rfl (fun c8 => ?_) (fun c8 => ?_)
        · have h := cnd_t c8 h
          refine W_seq ?_
          refine W_region mixed rfl ?_
          refine r_move (.p rfl) rfl ?_
          refine r_move (.p rfl) rfl ?_
          obtain ⟨v9, a9, b9, h⟩ := idx_bind h
          refine r_indexo (.p rfl) rfl rfl rfl slc48 sz37 a9 (map_get b9) ?_
          refine r_loadeN (.p rfl) rfl ag37 sz37 rfl (map_get b9) ?_
          refine r_move (.p rfl) rfl ?_
          obtain ⟨v10, a10, b10, h⟩ := idx_bind h
          refine r_indexo (.p rfl) rfl rfl rfl slc39 sz52 a10 (map_get b10) ?_
          refine r_loadeN (.p rfl) rfl ag52 sz52 rfl (map_get b10) ?_
          refine r_store rfl rfl rfl rfl sz37 rfl (leb rfl) rfl ?_
          refine r_store rfl rfl rfl rfl sz52 rfl (leb rfl) rfl ?_
          refine r_assign (.p rfl) rfl ?_
          refine r_endD (by kernel_rfl) ?_
          obtain rfl := Option.some.inj h
          refine W_sees (sees_mk (rn []) [(4, .e (.one (.ptr 4 0))), (5, .e (.one (.ptr 5 0))), (6, .e (.one (.pure (.val (.int .i64 0)))))] [(4, .box [.pure (.sl (v9.fBase.map eI64)), .pure (.sl (v9.fNext.map eI64)), .pure (.sl (v9.fHeld.map eU8))]), (5, .box [.pure (.val (.int .i64 v10.fTable)), .pure (.val (.int .i64 v10.fWriter)), .pure (.val (.int .i64 v10.fReader))])] ⟨rfl, rfl, rfl, trivial⟩ ⟨rfl, rfl, trivial⟩ rfl rfl) (W_ret ?_)
          exact ⟨⟨[_, _, _], ⟨.cellN _ _ _ _ _ _ _ rfl rfl ag37 sz37 rfl rfl (ltb rfl), ⟨.cellN _ _ _ _ _ _ _ rfl rfl ag52 sz52 rfl rfl (ltb rfl), ⟨.tmp _ _ rfl, trivial⟩⟩⟩, rfl⟩, trivial⟩
        · have h := cnd_f c8 h
          refine W_skip ?_
          refine W_region mixed rfl ?_
          refine r_move (.p rfl) rfl ?_
          refine r_bin (.p rfl) rfl rfl (bin_add _ _ _ _ _ _) rfl ?_
          refine r_assign (.p rfl) rfl ?_
          refine r_end ?_
          exact sink (IntKind.wrap .i64 (v3 + 1)) h (sees_mk (rn []) _ _ ⟨rfl, rfl, rfl, rfl, rfl, trivial⟩ ⟨rfl, rfl, rfl, rfl, trivial⟩ rfl rfl)
      · have h := cnd_f c5 h
        refine W_exit ?_
        exact sink () h (sees_mk (rn []) _ _ ⟨rfl, rfl, trivial⟩ ⟨rfl, rfl, trivial⟩ rfl rfl)
    · refine W_sees hs ?_
      refine W_seq ?_
      refine W_region mixed rfl ?_
      refine r_build [] (.p rfl) rfl trivial zv37 rfl rfl pl37 rfl ?_
      refine r_build [] (.p rfl) rfl trivial zv52 rfl rfl pl52 rfl ?_
      refine r_store rfl rfl rfl rfl sz37 rfl (leb rfl) rfl ?_
      refine r_store rfl rfl rfl rfl sz52 rfl (leb rfl) rfl ?_
      refine r_assign (.p rfl) rfl ?_
      refine r_end ?_
      obtain rfl := Option.some.inj h
      refine W_sees ((sees_nrmB 4 _ rfl).trans (sees_mk (rn []) [(4, .e (.one (.ptr 4 0))), (5, .e (.one (.ptr 5 0))), (6, .e (.one (.pure (.val (.int .i64 15)))))] [(4, .box [.pure (.sl ((([] : List Int)).map eI64)), .pure (.sl ((([] : List Int)).map eI64)), .pure (.sl ((([] : List Int)).map eU8))]), (5, .box [.pure (.val (.int .i64 0)), .pure (.val (.int .i64 0)), .pure (.val (.int .i64 0))])] ⟨rfl, rfl, rfl, trivial⟩ ⟨rfl, rfl, trivial⟩ rfl rfl)) (W_ret ?_)
      exact ⟨⟨[_, _, _], ⟨.cellN _ _ _ _ _ _ _ rfl rfl ag37 sz37 rfl rfl (ltb rfl), ⟨.cellN _ _ _ _ _ _ _ rfl rfl ag52 sz52 rfl rfl (ltb rfl), ⟨.tmp _ _ rfl, trivial⟩⟩⟩, rfl⟩, trivial⟩

set_option maxRecDepth 10000 in
theorem sheaveref36_Same_c (N : Nat) (p0 : List ApiMix) (p1 : List ApiMix) (r : Bool) (h : Sh.sheaveref36_Same N p0 p1 = some r) : Contract Try.prog 22 [.e (.one (.pure (.sl (p0.map eApiMix)))), .e (.one (.pure (.sl (p1.map eApiMix))))] [] (.e (.one (.pure (.val (.bool r))))) := by
  unfold Sh.sheaveref36_Same at h
  refine contract_of_W (n := 27) (rs := [.tmp 4]) Try.func22 rfl rfl rfl (leb rfl) rfl fun w0 S0 => ?_
  refine W_seq ?_
  refine W_region mixed rfl ?_
  refine r_assign (.p rfl) rfl ?_
  refine r_end ?_
  refine W_seq ?_
  refine W_seq ?_
  refine W_region mixed rfl ?_
  refine r_move (.p rfl) rfl ?_
  refine r_len (.p rfl) rfl (.sl _) trivial (List.length_map _) slc48 ?_
  refine r_move (.p rfl) rfl ?_
  refine r_len (.p rfl) rfl (.sl _) trivial (List.length_map _) slc48 ?_
  refine r_bin (.p rfl) rfl rfl (bin_neq _ _ _ _ _ _) rfl ?_
  refine r_end ?_
  refine W_cond rfl (fun c1 => ?_) (fun c1 => ?_)
  · have h := cnd_t c1 h
    refine W_seq ?_
    refine W_region mixed rfl ?_
    refine r_assign (.p rfl) rfl ?_
    refine r_end ?_
    obtain rfl := Option.some.inj h
    refine W_sees (sees_mk (rn []) [(4, .e (.one (.pure (.val (.bool false)))))] [] ⟨rfl, trivial⟩ trivial rfl rfl) (W_ret ?_)
    exact ⟨⟨[_], ⟨.tmp _ _ rfl, trivial⟩, rfl⟩, trivial⟩
  · have h := cnd_f c1 h
    refine W_skip ?_
    refine W_seq ?_
    refine W_seq ?_
    refine W_region mixed rfl ?_
    refine r_assign (.p rfl) rfl ?_
    refine r_end ?_
    refine W_whileE (L := Sh.sheaveref36_Same_L2 N p0 p1) h (fun v2 => mk [(0, .e (.one (.pure (.sl (p0.map eApiMix))))), (1, .e (.one (.pure (.sl (p1.map eApiMix))))), (5, .e (.one (.pure (.val (.int .i64 v2)))))] []) (fun v3 => mk [] []) (fun _ _ => rfl) (sees_mk (rn []) _ _ ⟨rfl, rfl, rfl, trivial⟩ trivial rfl rfl) (fun j2 n2 v2 h => ?_) (fun v3 s h hs => ?_)
    · unfold Sh.sheaveref36_Same_L2 at h
      refine W_seq ?_
      refine W_seq ?_
      refine W_region mixed rfl ?_
      refine r_move (.p rfl) rfl ?_
      refine r_move (.p rfl) rfl ?_
      refine r_len (.p rfl) rfl (.sl _) trivial (List.length_map _) slc48 ?_
      refine r_bin (.p rfl) rfl rfl (bin_lss _ _ _ _ _ _) rfl ?_
      refine r_end ?_
      refine W_cond rfl (fun c4 => ?_) (fun c4 => ?_)
      · have h := cnd_t c4 h
        refine W_skip ?_
        refine W_seq ?_
        refine W_block ?_
        refine W_seq ?_
        refine W_region mixed rfl ?_
        refine r_move (.p rfl) rfl ?_
        refine r_move (.p rfl) rfl ?_
        obtain ⟨v5, a5, b5, h⟩ := idx_bind h
        refine r_index (.p rfl) rfl rfl slc48 sz37 a5 (map_get b5) rfl ?_
        refine r_loadrN (.p rfl) rfl ag37 sz37 rfl rfl ?_
        refine r_move (.p rfl) rfl ?_
        refine r_move (.p rfl) rfl ?_
        obtain ⟨v6, a6, b6, h⟩ := idx_bind h
        refine r_index (.p rfl) rfl rfl slc48 sz37 a6 (map_get b6) rfl ?_
        refine r_loadrN (.p rfl) rfl ag37 sz37 rfl rfl ?_
        obtain ⟨v7, a7, h⟩ := bind_some h
        refine r_call (ds0 := [_, _]) [] (sheaveref36_Equal_c N v5 v6 v7 a7) (.p rfl) gd25 rfl ⟨rfl, rfl, trivial⟩ rfl rfl rfl (nodupB_spec rfl) trivial rfl ?_
        refine r_un (.p rfl) rfl (un_not _) rfl ?_
        refine r_endD (by kernel_rfl) ?_
        refine W_cond rfl (fun c8 => ?_) (fun c8 => ?_)
        · have h := cnd_t c8 h
          refine W_seq ?_
          refine W_region mixed rfl ?_
          refine r_assign (.p rfl) rfl ?_
          refine r_end ?_
          obtain rfl := Option.some.inj h
          refine W_sees (sees_mk (rn []) [(4, .e (.one (.pure (.val (.bool false)))))] [] ⟨rfl, trivial⟩ trivial rfl rfl) (W_ret ?_)
          exact ⟨⟨[_], ⟨.tmp _ _ rfl, trivial⟩, rfl⟩, trivial⟩
        · have h := cnd_f c8 h
          refine W_skip ?_
          refine W_region mixed rfl ?_
          refine r_move (.p rfl) rfl ?_
          refine r_bin (.p rfl) rfl rfl (bin_add _ _ _ _ _ _) rfl ?_
          refine r_assign (.p rfl) rfl ?_
          refine r_end ?_
          exact sink (IntKind.wrap .i64 (v2 + 1)) h (sees_mk (rn []) _ _ ⟨rfl, rfl, rfl, trivial⟩ trivial rfl rfl)
      · have h := cnd_f c4 h
        refine W_exit ?_
        exact sink () h (sees_mk (rn []) _ _ trivial trivial rfl rfl)
    · refine W_sees hs ?_
      refine W_seq ?_
      refine W_region mixed rfl ?_
      refine r_assign (.p rfl) rfl ?_
      refine r_end ?_
      obtain rfl := Option.some.inj h
      refine W_sees (sees_mk (rn []) [(4, .e (.one (.pure (.val (.bool true)))))] [] ⟨rfl, trivial⟩ trivial rfl rfl) (W_ret ?_)
      exact ⟨⟨[_], ⟨.tmp _ _ rfl, trivial⟩, rfl⟩, trivial⟩

set_option maxRecDepth 10000 in
theorem sheaveref36_IsSafe_c (N : Nat) (p0 : ApiProblem) (p1 : ApiMix) (r : Bool) (h : Sh.sheaveref36_IsSafe N p0 p1 = some r) : Contract Try.prog 49 [.e (.agg [.pure (.sl (p0.fVersions.map eI64)), .pure (.sl (p0.fNow.map eI64)), .pure (.sl (p0.fTarget.map eI64)), .pure (.sl (p0.fTables.map eApiTable))]), .e (.agg [.pure (.sl (p1.fBase.map eI64)), .pure (.sl (p1.fNext.map eI64)), .pure (.sl (p1.fHeld.map eU8))])] [] (.e (.one (.pure (.val (.bool r))))) := by
  unfold Sh.sheaveref36_IsSafe at h
  refine contract_of_W (n := 10) (rs := [.tmp 4]) Try.func49 rfl rfl rfl (leb rfl) rfl fun w0 S0 => ?_
  refine W_seq ?_
  refine W_region mixed rfl ?_
  refine r_box (.p rfl) rfl rfl ?_
  refine r_box (.p rfl) rfl rfl ?_
  refine r_assign (.p rfl) rfl ?_
  refine r_end ?_
  refine W_seq ?_
  refine W_region mixed rfl ?_
  refine r_loadN (.p rfl) rfl ag31 sz31 rfl rfl rfl ?_
  refine r_loadN (.p rfl) rfl ag37 sz37 rfl rfl rfl ?_
  obtain ⟨v1, a1, h⟩ := bind_some h
  refine r_call (ds0 := [_, _]) [2001] (sheaveref36_Found_c N p0 p1 v1 a1) (.p rfl) gd16 rfl ⟨rfl, rfl, trivial⟩ rfl rfl rfl (nodupB_spec rfl) ⟨rfl, trivial⟩ rfl ?_
  refine r_len (.p rfl) rfl (.own _ _ _) ⟨rfl, trivial⟩ (List.length_map _) slc39 ?_
  refine r_bin (.p rfl) rfl rfl (bin_eql _ _ _ _ _ _) rfl ?_
  refine r_assign (.p rfl) rfl ?_
  refine r_end ?_
  obtain rfl := Option.some.inj h
  refine W_sees (sees_mk (rn []) [(4, .e (.one (.pure (.val (.bool (((v1.length : Int) == 0)))))))] [] ⟨rfl, trivial⟩ trivial rfl rfl) (W_ret ?_)
  exact ⟨⟨[_], ⟨.tmp _ _ rfl, trivial⟩, rfl⟩, trivial⟩

set_option maxRecDepth 10000 in
theorem sheaveref36_IsRobust_c (N : Nat) (p0 : ApiProblem) (p1 : ApiMix) (r : Bool) (h : Sh.sheaveref36_IsRobust N p0 p1 = some r) : Contract Try.prog 24 [.e (.agg [.pure (.sl (p0.fVersions.map eI64)), .pure (.sl (p0.fNow.map eI64)), .pure (.sl (p0.fTarget.map eI64)), .pure (.sl (p0.fTables.map eApiTable))]), .e (.agg [.pure (.sl (p1.fBase.map eI64)), .pure (.sl (p1.fNext.map eI64)), .pure (.sl (p1.fHeld.map eU8))])] [] (.e (.one (.pure (.val (.bool r))))) := by
  unfold Sh.sheaveref36_IsRobust at h
  refine contract_of_W (n := 22) (rs := [.tmp 4]) Try.func24 rfl rfl rfl (leb rfl) rfl fun w0 S0 => ?_
  refine W_seq ?_
  refine W_region mixed rfl ?_
  refine r_box (.p rfl) rfl rfl ?_
  refine r_box (.p rfl) rfl rfl ?_
  refine r_assign (.p rfl) rfl ?_
  refine r_end ?_
  refine W_seq ?_
  refine W_region mixed rfl ?_
  refine r_loadN (.p rfl) rfl ag37 sz37 rfl rfl rfl ?_
  obtain ⟨v1, a1, h⟩ := bind_some h
  refine r_call (ds0 := [_]) [2001] (sheaveref36_All_c N p1 v1 a1) (.p rfl) gd23 rfl ⟨rfl, trivial⟩ rfl rfl rfl (nodupB_spec rfl) ⟨rfl, trivial⟩ rfl ?_
  refine r_assign (.p rfl) rfl ?_
  refine r_end ?_
  refine W_seq ?_
  refine W_seq ?_
  refine W_region mixed rfl ?_
  refine r_assign (.p rfl) rfl ?_
  refine r_end ?_
  refine W_whileE (L := Sh.sheaveref36_IsRobust_L2 N p0 v1) h (fun v2 => mk [(2, .e (.one (.ptr 2 0))), (5, .e (.one (.own 2002))), (6, .e (.one (.pure (.val (.int .i64 v2)))))] [(2, .box [.pure (.sl (p0.fVersions.map eI64)), .pure (.sl (p0.fNow.map eI64)), .pure (.sl (p0.fTarget.map eI64)), .pure (.sl (p0.fTables.map eApiTable))]), (2002, .vec 3 (v1.map eApiMix))]) (fun v3 => mk [] []) (fun _ _ => rfl) (sees_mk (rn [(2002, 2001)]) _ _ ⟨rfl, rfl, rfl, trivial⟩ ⟨rfl, rfl, trivial⟩ rfl rfl) (fun j2 n2 v2 h => ?_) (fun v3 s h hs => ?_)
  · unfold Sh.sheaveref36_IsRobust_L2 at h
    refine W_seq ?_
    refine W_seq ?_
    refine W_region mixed rfl ?_
    refine r_move (.p rfl) rfl ?_
    refine r_move (.p rfl) rfl ?_
    refine r_len (.p rfl) rfl (.own _ _ _) ⟨rfl, trivial⟩ (List.length_map _) slc48 ?_
    refine r_bin (.p rfl) rfl rfl (bin_lss _ _ _ _ _ _) rfl ?_
    refine r_end ?_
    refine W_cond rfl (fun c4 => ?_) (fun c4 => ?_)
    · have h := cnd_t c4 h
      refine W_skip ?_
      refine W_seq ?_
      refine W_block ?_
      refine W_seq ?_
      refine W_region mixed rfl ?_
      refine r_loadN (.p rfl) rfl ag31 sz31 rfl rfl rfl ?_
      refine r_move (.p rfl) rfl ?_
      refine r_move (.p rfl) rfl ?_
      obtain ⟨v5, a5, b5, h⟩ := idx_bind h
      refine r_indexo (.p rfl) rfl rfl rfl slc48 sz37 a5 (map_get b5) ?_
      refine r_loadeN (.p rfl) rfl ag37 sz37 rfl (map_get b5) ?_
      obtain ⟨v6, a6, h⟩ := bind_some h
      refine r_call (ds0 := [_, _]) [] (sheaveref36_IsSafe_c N p0 v5 v6 a6) (.p rfl) gd49 rfl ⟨rfl, rfl, trivial⟩ rfl rfl rfl (nodupB_spec rfl) trivial rfl ?_
      refine r_un (.p rfl) rfl (un_not _) rfl ?_
      refine r_endD (by kernel_rfl) ?_
      refine W_cond rfl (fun c7 => ?_) (fun c7 => ?_)
      · have h := cnd_t c7 h
        refine W_seq ?_
        refine W_region mixed rfl ?_
        refine r_assign (.p rfl) rfl ?_
        refine r_end ?_
        obtain rfl := Option.some.inj h
        refine W_sees (sees_mk (rn []) [(4, .e (.one (.pure (.val (.bool false)))))] [] ⟨rfl, trivial⟩ trivial rfl rfl) (W_ret ?_)
        exact ⟨⟨[_], ⟨.tmp _ _ rfl, trivial⟩, rfl⟩, trivial⟩
      · have h := cnd_f c7 h
        refine W_skip ?_
        refine W_region mixed rfl ?_
        refine r_move (.p rfl) rfl ?_
        refine r_bin (.p rfl) rfl rfl (bin_add _ _ _ _ _ _) rfl ?_
        refine r_assign (.p rfl) rfl ?_
        refine r_end ?_
        exact sink (IntKind.wrap .i64 (v2 + 1)) h (sees_mk (rn []) _ _ ⟨rfl, rfl, rfl, trivial⟩ ⟨rfl, rfl, trivial⟩ rfl rfl)
    · have h := cnd_f c4 h
      refine W_exit ?_
      exact sink () h (sees_mk (rn []) _ _ trivial trivial rfl rfl)
  · refine W_sees hs ?_
    refine W_seq ?_
    refine W_region mixed rfl ?_
    refine r_assign (.p rfl) rfl ?_
    refine r_end ?_
    obtain rfl := Option.some.inj h
    refine W_sees (sees_mk (rn []) [(4, .e (.one (.pure (.val (.bool true)))))] [] ⟨rfl, trivial⟩ trivial rfl rfl) (W_ret ?_)
    exact ⟨⟨[_], ⟨.tmp _ _ rfl, trivial⟩, rfl⟩, trivial⟩

set_option maxRecDepth 10000 in
theorem sheavelaw36_MixAborts_c (N : Nat) (p0 : Sheaveref35Draft) (p1 : Sheaveref36Draft) (r : Bool) (h : Sh.sheavelaw36_MixAborts N p0 p1 = some r) : Contract Try.prog 4 [.e (.agg [.pure (.sl (p0.fVersions.map eU8)), .pure (.sl (p0.fNow.map eU8)), .pure (.sl (p0.fTarget.map eU8)), .pure (.sl (p0.fLinks.map eSheaveref35Link))]), .e (.agg [.pure (.sl (p1.fBase.map eU8)), .pure (.sl (p1.fNext.map eU8)), .pure (.sl (p1.fHeld.map eU8))])] [] (.e (.one (.pure (.val (.bool r))))) := by
  unfold Sh.sheavelaw36_MixAborts at h
  refine contract_of_W (n := 93) (rs := [.tmp 4]) Try.func4 rfl rfl rfl (leb rfl) rfl fun w0 S0 => ?_
  refine W_seq ?_
  refine W_region mixed rfl ?_
  refine r_box (.p rfl) rfl rfl ?_
  refine r_box (.p rfl) rfl rfl ?_
  refine r_assign (.p rfl) rfl ?_
  refine r_end ?_
  refine W_seq ?_
  refine W_region mixed rfl ?_
  refine r_loadN (.p rfl) rfl ag25 sz25 rfl rfl rfl ?_
  obtain ⟨v1, a1, h⟩ := bind_some h
  refine r_call (ds0 := [_]) [2001, 2002, 2003, 2004] (sheaveref35_Of_c N p0 v1 a1) (.p rfl) gd11 rfl ⟨rfl, trivial⟩ rfl rfl rfl (nodupB_spec rfl) ⟨rfl, rfl, rfl, rfl, trivial⟩ rfl ?_
  refine r_move (.p rfl) rfl ?_
  refine r_extract (.p rfl) rfl rfl ?_
  refine r_extract (.p rfl) rfl rfl ?_
  refine r_alloc (.p rfl) zv31 rfl rfl rfl ?_
  refine r_store rfl rfl rfl rfl sz31 rfl (leb rfl) rfl ?_
  refine r_assign (.p rfl) rfl ?_
  refine r_end ?_
  refine W_seq ?_
  refine W_join h (fun v2 => mk [(3, .e (.one (.ptr 3 0))), (5, .e (.one (.ptr 5 0))), (28, .e (.one (.pure (.val (.bool v2)))))] [(3, .box [.pure (.sl (p1.fBase.map eU8)), .pure (.sl (p1.fNext.map eU8)), .pure (.sl (p1.fHeld.map eU8))]), (5, .box [.own 2005, .own 2006, .own 2007, .own 2008]), (2005, .vec 1 (v1.1.fVersions.map eI64)), (2006, .vec 1 (v1.1.fNow.map eI64)), (2007, .vec 1 (v1.1.fTarget.map eI64)), (2008, .vec 6 (v1.1.fTables.map eApiTable))]) (fun j2 h => ?_) (fun v2 h => ?_)
  · refine W_region mixed rfl ?_
    obtain ⟨v3, a3, h⟩ := bind_some h
    refine r_call (ds0 := []) [] (sheavelaw36_awake_c N v3 a3) (.p rfl) gd12 rfl trivial rfl rfl rfl (nodupB_spec rfl) trivial rfl ?_
    refine r_un (.p rfl) rfl (un_not _) rfl ?_
    refine r_move (.p rfl) rfl ?_
    refine r_split (t := 25) rfl (fun c4 => ?_) (fun c4 => ?_)
    · have h := cnd_t c4 h
      refine r_notB rfl rfl ?_
      refine r_notB rfl rfl ?_
      refine r_pick (.p rfl) rfl rfl rfl ?_
      refine r_end ?_
      exact sink true h (sees_mk (rn [(2005, 2001), (2006, 2002), (2007, 2003), (2008, 2004)]) _ _ ⟨rfl, rfl, rfl, trivial⟩ ⟨rfl, rfl, rfl, rfl, rfl, rfl, trivial⟩ rfl rfl)
    · have h := cnd_f c4 h
      refine r_move (.g rfl rfl) rfl ?_
      refine r_un (.g rfl rfl) rfl (un_not _) rfl ?_
      refine r_pick (.p rfl) rfl rfl rfl ?_
      refine r_end ?_
      exact sink (!v1.2) h (sees_mk (rn [(2005, 2001), (2006, 2002), (2007, 2003), (2008, 2004)]) _ _ ⟨rfl, rfl, rfl, trivial⟩ ⟨rfl, rfl, rfl, rfl, rfl, rfl, trivial⟩ rfl rfl)
  · refine W_cond rfl (fun c5 => ?_) (fun c5 => ?_)
    · have h := cnd_t c5 h
      refine W_seq ?_
      refine W_region mixed rfl ?_
      obtain ⟨v6, a6, h⟩ := bind_some h
      refine r_call (ds0 := []) [] (sheavelaw36_awake_c N v6 a6) (.p rfl) gd12 rfl trivial rfl rfl rfl (nodupB_spec rfl) trivial rfl ?_
      refine r_assign (.p rfl) rfl ?_
      refine r_end ?_
      obtain rfl := Option.some.inj h
      refine W_sees (sees_mk (rn []) [(4, .e (.one (.pure (.val (.bool v6)))))] [] ⟨rfl, trivial⟩ trivial rfl rfl) (W_ret ?_)
      exact ⟨⟨[_], ⟨.tmp _ _ rfl, trivial⟩, rfl⟩, trivial⟩
    · have h := cnd_f c5 h
      refine W_skip ?_
      refine W_seq ?_
      refine W_region mixed rfl ?_
      refine r_loadN (.p rfl) rfl ag31 sz31 rfl rfl rfl ?_
      refine r_loadN (.p rfl) rfl ag27 sz27 rfl rfl rfl ?_
      obtain ⟨v7, a7, h⟩ := bind_some h
      refine r_callL (ds0 := [_, _]) [2009, 2010, 2011] [(2005, _), (2006, _), (2007, _), (2008, _)] (sheaveref36_Of_c N v1.1 p1 v7 a7) (.p rfl) gd13 rfl ⟨rfl, rfl, trivial⟩ ⟨rfl, rfl, rfl, rfl, trivial⟩ rfl rfl rfl (nodupB_spec rfl) ⟨rfl, rfl, rfl, trivial⟩ rfl (flatV_cons (fun _ => rfl) (flatV_cons (fun _ => rfl) (flatV_cons (fun _ => rfl) flatV_nil))) rfl ?_
      refine r_alloc (.p rfl) zv37 rfl rfl rfl ?_
      refine r_store rfl rfl rfl rfl sz37 rfl (leb rfl) rfl ?_
      refine r_end ?_
      refine W_seq ?_
      refine W_region mixed rfl ?_
      refine r_loadN (.p rfl) rfl ag31 sz31 rfl rfl rfl ?_
      refine r_loadN (.p rfl) rfl ag37 sz37 rfl rfl rfl ?_
      refine r_see (sees_frz 2005 _ _ rfl) ?_
      refine r_see (sees_frz 2006 _ _ rfl) ?_
      refine r_see (sees_frz 2007 _ _ rfl) ?_
      refine r_see (sees_frz 2008 _ _ rfl) ?_
      refine r_see (sees_frz 2009 _ _ rfl) ?_
      refine r_see (sees_frz 2010 _ _ rfl) ?_
      refine r_see (sees_frz 2011 _ _ rfl) ?_
      obtain ⟨v8, a8, h⟩ := bind_some h
      refine r_call (ds0 := [_, _]) [2012] (mix_Aborts_c N v1.1 v7 v8 a8) (.p rfl) gd18 rfl ⟨rfl, rfl, trivial⟩ rfl rfl rfl (nodupB_spec rfl) ⟨rfl, trivial⟩ rfl ?_
      refine r_move (.p rfl) rfl ?_
      refine r_extract (.p rfl) rfl rfl ?_
      refine r_extract (.p rfl) rfl rfl ?_
      refine r_assign (.p rfl) rfl ?_
      refine r_assign (.p rfl) rfl ?_
      refine r_end ?_
      refine W_seq ?_
      refine W_region mixed rfl ?_
      refine r_loadN (.p rfl) rfl ag31 sz31 rfl rfl rfl ?_
      refine r_loadN (.p rfl) rfl ag37 sz37 rfl rfl rfl ?_
      obtain ⟨v9, a9, h⟩ := bind_some h
      refine r_call (ds0 := [_, _]) [] (mix_Robust_c N v1.1 v7 v9 a9) (.p rfl) gd19 rfl ⟨rfl, rfl, trivial⟩ rfl rfl rfl (nodupB_spec rfl) trivial rfl ?_
      refine r_move (.p rfl) rfl ?_
      refine r_extract (.p rfl) rfl rfl ?_
      refine r_extract (.p rfl) rfl rfl ?_
      refine r_assign (.p rfl) rfl ?_
      refine r_assign (.p rfl) rfl ?_
      refine r_end ?_
      refine W_seq ?_
      refine W_region mixed rfl ?_
      refine r_loadN (.p rfl) rfl ag31 sz31 rfl rfl rfl ?_
      refine r_loadN (.p rfl) rfl ag37 sz37 rfl rfl rfl ?_
      obtain ⟨v10, a10, h⟩ := bind_some h
      refine r_call (ds0 := [_, _]) [] (mix_Blame_c N v1.1 v7 v10 a10) (.p rfl) gd20 rfl ⟨rfl, rfl, trivial⟩ rfl rfl rfl (nodupB_spec rfl) trivial rfl ?_
      refine r_move (.p rfl) rfl ?_
      refine r_extract (.p rfl) rfl rfl ?_
      refine r_extract (.p rfl) rfl rfl ?_
      refine r_extract (.p rfl) rfl rfl ?_
      refine r_alloc (.p rfl) zv37 rfl rfl rfl ?_
      refine r_alloc (.p rfl) zv52 rfl rfl rfl ?_
      refine r_store rfl rfl rfl rfl sz37 rfl (leb rfl) rfl ?_
      refine r_store rfl rfl rfl rfl sz52 rfl (leb rfl) rfl ?_
      refine r_assign (.p rfl) rfl ?_
      refine r_end ?_
      refine W_seq ?_
      refine W_region mixed rfl ?_
      refine r_loadN (.p rfl) rfl ag31 sz31 rfl rfl rfl ?_
      refine r_loadN (.p rfl) rfl ag37 sz37 rfl rfl rfl ?_
      obtain ⟨v11, a11, h⟩ := bind_some h
      refine r_call (ds0 := [_, _]) [] (sheaveref36_Blame_c N v1.1 v7 v11 a11) (.p rfl) gd21 rfl ⟨rfl, rfl, trivial⟩ rfl rfl rfl (nodupB_spec rfl) trivial rfl ?_
      refine r_move (.p rfl) rfl ?_
      refine r_extract (.p rfl) rfl rfl ?_
      refine r_extract (.p rfl) rfl rfl ?_
      refine r_extract (.p rfl) rfl rfl ?_
      refine r_alloc (.p rfl) zv37 rfl rfl rfl ?_
      refine r_alloc (.p rfl) zv52 rfl rfl rfl ?_
      refine r_store rfl rfl rfl rfl sz37 rfl (leb rfl) rfl ?_
      refine r_store rfl rfl rfl rfl sz52 rfl (leb rfl) rfl ?_
      refine r_assign (.p rfl) rfl ?_
      refine r_end ?_
      refine W_join h (fun v12 => mk [(4, .e (.one (.pure (.val (.bool v12)))))] []) (fun j12 h => ?_) (fun v12 h => ?_)
      · refine W_region mixed rfl ?_
        refine r_move (.p rfl) rfl ?_
        refine r_bin (.p rfl) rfl rfl (bin_eql _ _ _ _ _ _) rfl ?_
        refine r_move (.p rfl) rfl ?_
        refine r_split (t := 61) rfl (fun c13 => ?_) (fun c13 => ?_)
        · have h := cnd_t c13 h
          refine r_move (.g rfl rfl) rfl ?_
          refine r_bin (.g rfl rfl) rfl rfl (bin_eql _ _ _ _ _ _) rfl ?_
          refine r_pick (.p rfl) rfl rfl rfl ?_
          refine r_move (.p rfl) rfl ?_
          refine r_split (t := 65) rfl (fun c14 => ?_) (fun c14 => ?_)
          · have h := cnd_t c14 h
            refine r_move (.g rfl rfl) rfl ?_
            refine r_loadN (.g rfl rfl) rfl ag37 sz37 rfl rfl rfl ?_
            obtain ⟨v15, a15, h⟩ := bind_some h
            refine r_call (ds0 := [_]) [2013] (sheaveref36_All_c N v7 v15 a15) (.g rfl rfl) gd23 rfl ⟨rfl, trivial⟩ rfl rfl rfl (nodupB_spec rfl) ⟨rfl, trivial⟩ rfl ?_
            obtain ⟨v16, a16, h⟩ := bind_some h
            refine r_callL (ds0 := [_, _]) [] [(2012, _), (2013, _)] (sheaveref36_Same_c N v8.1 v15 v16 a16) (.g rfl rfl) gd22 rfl ⟨rfl, rfl, trivial⟩ ⟨rfl, rfl, trivial⟩ rfl rfl rfl (nodupB_spec rfl) trivial rfl flatV_nil rfl ?_
            refine r_pick (.p rfl) rfl rfl rfl ?_
            refine r_move (.p rfl) rfl ?_
            refine r_split (t := 71) rfl (fun c17 => ?_) (fun c17 => ?_)
            · have h := cnd_t c17 h
              refine r_move (.g rfl rfl) rfl ?_
              refine r_loadN (.g rfl rfl) rfl ag31 sz31 rfl rfl rfl ?_
              refine r_loadN (.g rfl rfl) rfl ag37 sz37 rfl rfl rfl ?_
              obtain ⟨v18, a18, h⟩ := bind_some h
              refine r_call (ds0 := [_, _]) [] (sheaveref36_IsRobust_c N v1.1 v7 v18 a18) (.g rfl rfl) gd24 rfl ⟨rfl, rfl, trivial⟩ rfl rfl rfl (nodupB_spec rfl) trivial rfl ?_
              refine r_bin (.g rfl rfl) rfl rfl (bin_eqlB _ _ _ _ bo4) rfl ?_
              refine r_pick (.p rfl) rfl rfl rfl ?_
              refine r_move (.p rfl) rfl ?_
              refine r_split (t := 78) rfl (fun c19 => ?_) (fun c19 => ?_)
              · have h := cnd_t c19 h
                refine r_loadN (.g rfl rfl) rfl ag37 sz37 rfl rfl rfl ?_
                refine r_loadN (.g rfl rfl) rfl ag37 sz37 rfl rfl rfl ?_
                obtain ⟨v20, a20, h⟩ := bind_some h
                refine r_call (ds0 := [_, _]) [] (sheaveref36_Equal_c N v10.1 v11.1 v20 a20) (.g rfl rfl) gd25 rfl ⟨rfl, rfl, trivial⟩ rfl rfl rfl (nodupB_spec rfl) trivial rfl ?_
                refine r_pick (.p rfl) rfl rfl rfl ?_
                refine r_move (.p rfl) rfl ?_
                refine r_split (t := 83) rfl (fun c21 => ?_) (fun c21 => ?_)
                · have h := cnd_t c21 h
                  refine r_loadN (.g rfl rfl) rfl ag52 sz52 rfl rfl rfl ?_
                  refine r_loadN (.g rfl rfl) rfl ag52 sz52 rfl rfl rfl ?_
                  refine r_eqA [.int .i64 v10.2.1.fTable, .int .i64 v10.2.1.fWriter, .int .i64 v10.2.1.fReader] [.int .i64 v11.2.1.fTable, .int .i64 v11.2.1.fWriter, .int .i64 v11.2.1.fReader] (.g rfl rfl) rfl rfl seq52 rfl ?_
                  refine r_pick (.p rfl) rfl rfl rfl ?_
                  refine r_move (.p rfl) rfl ?_
                  refine r_split (t := 88) rfl (fun c22 => ?_) (fun c22 => ?_)
                  · have h := cnd_t c22 h
                    refine r_move (.g rfl rfl) rfl ?_
                    refine r_move (.g rfl rfl) rfl ?_
                    refine r_bin (.g rfl rfl) rfl rfl (bin_eql _ _ _ _ _ _) rfl ?_
                    refine r_pick (.p rfl) rfl rfl rfl ?_
                    refine r_assign (.p rfl) rfl ?_
                    refine r_end ?_
                    exact sink (v10.2.2 == v11.2.2) h (sees_mk (rn []) _ _ ⟨rfl, trivial⟩ trivial rfl rfl)
                  · have h := cnd_f c22 h
                    refine r_notB rfl rfl ?_
                    refine r_notB rfl rfl ?_
                    refine r_notB rfl rfl ?_
                    refine r_pick (.p rfl) rfl rfl rfl ?_
                    refine r_assign (.p rfl) rfl ?_
                    refine r_end ?_
                    exact sink false h (sees_mk (rn []) _ _ ⟨rfl, trivial⟩ trivial rfl rfl)
                · have h := cnd_f c21 h
                  refine r_notB rfl rfl ?_
                  refine r_notB rfl rfl ?_
                  refine r_notB rfl rfl ?_
                  refine r_pick (.p rfl) rfl rfl rfl ?_
                  refine r_move (.p rfl) rfl ?_
                  refine r_notB rfl rfl ?_
                  refine r_notB rfl rfl ?_
                  refine r_notB rfl rfl ?_
                  refine r_pick (.p rfl) rfl rfl rfl ?_
                  refine r_assign (.p rfl) rfl ?_
                  refine r_end ?_
                  exact sink false h (sees_mk (rn []) _ _ ⟨rfl, trivial⟩ trivial rfl rfl)
              · have h := cnd_f c19 h
                refine r_notB rfl rfl ?_
                refine r_notB rfl rfl ?_
                refine r_notB rfl rfl ?_
                refine r_pick (.p rfl) rfl rfl rfl ?_
                refine r_move (.p rfl) rfl ?_
                refine r_notB rfl rfl ?_
                refine r_notB rfl rfl ?_
                refine r_notB rfl rfl ?_
                refine r_pick (.p rfl) rfl rfl rfl ?_
                refine r_move (.p rfl) rfl ?_
                refine r_notB rfl rfl ?_
                refine r_notB rfl rfl ?_
                refine r_notB rfl rfl ?_
                refine r_pick (.p rfl) rfl rfl rfl ?_
                refine r_assign (.p rfl) rfl ?_
                refine r_end ?_
                exact sink false h (sees_mk (rn []) _ _ ⟨rfl, trivial⟩ trivial rfl rfl)
            · have h := cnd_f c17 h
              refine r_notB rfl rfl ?_
              refine r_notB rfl rfl ?_
              refine r_notB rfl rfl ?_
              refine r_notB rfl rfl ?_
              refine r_notB rfl rfl ?_
              refine r_pick (.p rfl) rfl rfl rfl ?_
              refine r_move (.p rfl) rfl ?_
              refine r_notB rfl rfl ?_
              refine r_notB rfl rfl ?_
              refine r_notB rfl rfl ?_
              refine r_pick (.p rfl) rfl rfl rfl ?_
              refine r_move (.p rfl) rfl ?_
              refine r_notB rfl rfl ?_
              refine r_notB rfl rfl ?_
              refine r_notB rfl rfl ?_
              refine r_pick (.p rfl) rfl rfl rfl ?_
              refine r_move (.p rfl) rfl ?_
              refine r_notB rfl rfl ?_
              refine r_notB rfl rfl ?_
              refine r_notB rfl rfl ?_
              refine r_pick (.p rfl) rfl rfl rfl ?_
              refine r_assign (.p rfl) rfl ?_
              refine r_end ?_
              exact sink false h (sees_mk (rn []) _ _ ⟨rfl, trivial⟩ trivial rfl rfl)
          · have h := cnd_f c14 h
            refine r_notB rfl rfl ?_
            refine r_notB rfl rfl ?_
            refine r_notB rfl rfl ?_
            refine r_notB rfl rfl ?_
            refine r_pick (.p rfl) rfl rfl rfl ?_
            refine r_move (.p rfl) rfl ?_
            refine r_notB rfl rfl ?_
            refine r_notB rfl rfl ?_
            refine r_notB rfl rfl ?_
            refine r_notB rfl rfl ?_
            refine r_notB rfl rfl ?_
            refine r_pick (.p rfl) rfl rfl rfl ?_
            refine r_move (.p rfl) rfl ?_
            refine r_notB rfl rfl ?_
            refine r_notB rfl rfl ?_
            refine r_notB rfl rfl ?_
            refine r_pick (.p rfl) rfl rfl rfl ?_
            refine r_move (.p rfl) rfl ?_
            refine r_notB rfl rfl ?_
            refine r_notB rfl rfl ?_
            refine r_notB rfl rfl ?_
            refine r_pick (.p rfl) rfl rfl rfl ?_
            refine r_move (.p rfl) rfl ?_
            refine r_notB rfl rfl ?_
            refine r_notB rfl rfl ?_
            refine r_notB rfl rfl ?_
            refine r_pick (.p rfl) rfl rfl rfl ?_
            refine r_assign (.p rfl) rfl ?_
            refine r_end ?_
            exact sink false h (sees_mk (rn []) _ _ ⟨rfl, trivial⟩ trivial rfl rfl)
        · have h := cnd_f c13 h
          refine r_notB rfl rfl ?_
          refine r_notB rfl rfl ?_
          refine r_pick (.p rfl) rfl rfl rfl ?_
          refine r_move (.p rfl) rfl ?_
          refine r_notB rfl rfl ?_
          refine r_notB rfl rfl ?_
          refine r_notB rfl rfl ?_
          refine r_notB rfl rfl ?_
          refine r_pick (.p rfl) rfl rfl rfl ?_
          refine r_move (.p rfl) rfl ?_
          refine r_notB rfl rfl ?_
          refine r_notB rfl rfl ?_
          refine r_notB rfl rfl ?_
          refine r_notB rfl rfl ?_
          refine r_notB rfl rfl ?_
          refine r_pick (.p rfl) rfl rfl rfl ?_
          refine r_move (.p rfl) rfl ?_
          refine r_notB rfl rfl ?_
          refine r_notB rfl rfl ?_
          refine r_notB rfl rfl ?_
          refine r_pick (.p rfl) rfl rfl rfl ?_
          refine r_move (.p rfl) rfl ?_
          refine r_notB rfl rfl ?_
          refine r_notB rfl rfl ?_
          refine r_notB rfl rfl ?_
          refine r_pick (.p rfl) rfl rfl rfl ?_
          refine r_move (.p rfl) rfl ?_
          refine r_notB rfl rfl ?_
          refine r_notB rfl rfl ?_
          refine r_notB rfl rfl ?_
          refine r_pick (.p rfl) rfl rfl rfl ?_
          refine r_assign (.p rfl) rfl ?_
          refine r_end ?_
          exact sink false h (sees_mk (rn []) _ _ ⟨rfl, trivial⟩ trivial rfl rfl)
      · obtain rfl := Option.some.inj h
        refine W_sees (sees_mk (rn []) [(4, .e (.one (.pure (.val (.bool v12)))))] [] ⟨rfl, trivial⟩ trivial rfl rfl) (W_ret ?_)
        exact ⟨⟨[_], ⟨.tmp _ _ rfl, trivial⟩, rfl⟩, trivial⟩

end Go.Lift
