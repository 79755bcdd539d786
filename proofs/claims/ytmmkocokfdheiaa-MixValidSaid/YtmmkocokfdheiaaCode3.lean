/- Lemmas for MixValidSaid, which YtmmkocokfdheiaaFin7 proves. -/
/- That the code does what the shallow programs do, function by function. Written by a program (gen.py). -/
import Derived.Test.YtmmkocokfdheiaaCode2
namespace Go.Lift
open Go.RowKit
open Go.Proofs
set_option maxRecDepth 10000 in
theorem sheavelaw36_MixAborted_c (N : Nat) (p0 : Sheaveref35Draft) (p1 : Sheaveref36Draft) (r : Bool) (h : Sh.sheavelaw36_MixAborted N p0 p1 = some r) : Contract Try.prog 5 [.e (.agg [.pure (.sl (p0.fVersions.map eU8)), .pure (.sl (p0.fNow.map eU8)), .pure (.sl (p0.fTarget.map eU8)), .pure (.sl (p0.fLinks.map eSheaveref35Link))]), .e (.agg [.pure (.sl (p1.fBase.map eU8)), .pure (.sl (p1.fNext.map eU8)), .pure (.sl (p1.fHeld.map eU8))])] [] (.e (.one (.pure (.val (.bool r))))) := by
  unfold Sh.sheavelaw36_MixAborted at h
  refine contract_of_W (n := 105) (rs := [.tmp 4]) Try.func5 rfl rfl rfl (leb rfl) rfl fun w0 S0 => ?_
  refine W_seq ?_
  refine W_region mixed rfl ?_
  refine r_box (.p rfl) rfl rfl ?_
  refine r_box (.p rfl) rfl rfl ?_
  refine r_assign (.p rfl) rfl ?_
  refine r_end ?_
  refine W_seq ?_
  refine W_region mixed rfl ?_
  refine r_loadN (.p rfl) rfl ag25 sz25 rfl rfl rfl ?_
  obtain ⟨v1, a1, h⟩ := bind_some h
  refine r_call (ds0 := [_]) [2001, 2002, 2003, 2004] (sheaveref35_Of_c N p0 v1 a1) (.p rfl) gd11 rfl ⟨rfl, trivial⟩ rfl rfl rfl (nodupB_spec rfl) ⟨rfl, rfl, rfl, rfl, trivial⟩ rfl ?_
  refine r_move (.p rfl) rfl ?_
  refine r_extract (.p rfl) rfl rfl ?_
  refine r_extract (.p rfl) rfl rfl ?_
  refine r_alloc (.p rfl) zv31 rfl rfl rfl ?_
  refine r_store rfl rfl rfl rfl sz31 rfl (leb rfl) rfl ?_
  refine r_assign (.p rfl) rfl ?_
  refine r_end ?_
  refine W_seq ?_
  refine W_join h (fun v2 => mk [(3, .e (.one (.ptr 3 0))), (5, .e (.one (.ptr 5 0))), (30, .e (.one (.pure (.val (.bool v2)))))] [(3, .box [.pure (.sl (p1.fBase.map eU8)), .pure (.sl (p1.fNext.map eU8)), .pure (.sl (p1.fHeld.map eU8))]), (5, .box [.own 2005, .own 2006, .own 2007, .own 2008]), (2005, .vec 1 (v1.1.fVersions.map eI64)), (2006, .vec 1 (v1.1.fNow.map eI64)), (2007, .vec 1 (v1.1.fTarget.map eI64)), (2008, .vec 6 (v1.1.fTables.map eApiTable))]) (fun j2 h => ?_) (fun v2 h => ?_)
  · refine W_region mixed rfl ?_
    obtain ⟨v3, a3, h⟩ := bind_some h
    refine r_call (ds0 := []) [] (sheavelaw36_awake_c N v3 a3) (.p rfl) gd12 rfl trivial rfl rfl rfl (nodupB_spec rfl) trivial rfl ?_
    refine r_un (.p rfl) rfl (un_not _) rfl ?_
    refine r_move (.p rfl) rfl ?_
    refine r_split (t := 27) rfl (fun c4 => ?_) (fun c4 => ?_)
    · have h := cnd_t c4 h
      refine r_notB rfl rfl ?_
      refine r_notB rfl rfl ?_
      refine r_pick (.p rfl) rfl rfl rfl ?_
      refine r_end ?_
      exact sink true h (sees_mk (rn [(2005, 2001), (2006, 2002), (2007, 2003), (2008, 2004)]) _ _ ⟨rfl, rfl, rfl, trivial⟩ ⟨rfl, rfl, rfl, rfl, rfl, rfl, trivial⟩ rfl rfl)
    · have h := cnd_f c4 h
      refine r_move (.g rfl rfl) rfl ?_
      refine r_un (.g rfl rfl) rfl (un_not _) rfl ?_
      refine r_pick (.p rfl) rfl rfl rfl ?_
      refine r_end ?_
      exact sink (!v1.2) h (sees_mk (rn [(2005, 2001), (2006, 2002), (2007, 2003), (2008, 2004)]) _ _ ⟨rfl, rfl, rfl, trivial⟩ ⟨rfl, rfl, rfl, rfl, rfl, rfl, trivial⟩ rfl rfl)
  · refine W_cond rfl (fun c5 => ?_) (fun c5 => ?_)
    · have h := cnd_t c5 h
      refine W_seq ?_
      refine W_region mixed rfl ?_
      obtain ⟨v6, a6, h⟩ := bind_some h
      refine r_call (ds0 := []) [] (sheavelaw36_awake_c N v6 a6) (.p rfl) gd12 rfl trivial rfl rfl rfl (nodupB_spec rfl) trivial rfl ?_
      refine r_assign (.p rfl) rfl ?_
      refine r_end ?_
      obtain rfl := Option.some.inj h
      refine W_sees (sees_mk (rn []) [(4, .e (.one (.pure (.val (.bool v6)))))] [] ⟨rfl, trivial⟩ trivial rfl rfl) (W_ret ?_)
      exact ⟨⟨[_], ⟨.tmp _ _ rfl, trivial⟩, rfl⟩, trivial⟩
    · have h := cnd_f c5 h
      refine W_skip ?_
      refine W_seq ?_
      refine W_region mixed rfl ?_
      refine r_loadN (.p rfl) rfl ag31 sz31 rfl rfl rfl ?_
      refine r_loadN (.p rfl) rfl ag27 sz27 rfl rfl rfl ?_
      obtain ⟨v7, a7, h⟩ := bind_some h
      refine r_callL (ds0 := [_, _]) [2009, 2010, 2011] [(2005, _), (2006, _), (2007, _), (2008, _)] (sheaveref36_Of_c N v1.1 p1 v7 a7) (.p rfl) gd13 rfl ⟨rfl, rfl, trivial⟩ ⟨rfl, rfl, rfl, rfl, trivial⟩ rfl rfl rfl (nodupB_spec rfl) ⟨rfl, rfl, rfl, trivial⟩ rfl (flatV_cons (fun _ => rfl) (flatV_cons (fun _ => rfl) (flatV_cons (fun _ => rfl) flatV_nil))) rfl ?_
      refine r_alloc (.p rfl) zv37 rfl rfl rfl ?_
      refine r_store rfl rfl rfl rfl sz37 rfl (leb rfl) rfl ?_
      refine r_end ?_
      refine W_seq ?_
      refine W_region mixed rfl ?_
      refine r_loadN (.p rfl) rfl ag31 sz31 rfl rfl rfl ?_
      refine r_loadN (.p rfl) rfl ag37 sz37 rfl rfl rfl ?_
      obtain ⟨v8, a8, h⟩ := bind_some h
      refine r_callL (ds0 := [_, _]) [] [(2005, _), (2006, _), (2007, _), (2008, _), (2009, _), (2010, _), (2011, _)] (mix_Safe_c N v1.1 v7 v8 a8) (.p rfl) gd15 rfl ⟨rfl, rfl, trivial⟩ ⟨rfl, rfl, rfl, rfl, rfl, rfl, rfl, trivial⟩ rfl rfl rfl (nodupB_spec rfl) trivial rfl flatV_nil rfl ?_
      refine r_move (.p rfl) rfl ?_
      refine r_extract (.p rfl) rfl rfl ?_
      refine r_extract (.p rfl) rfl rfl ?_
      refine r_assign (.p rfl) rfl ?_
      refine r_assign (.p rfl) rfl ?_
      refine r_end ?_
      refine W_seq ?_
      refine W_region mixed rfl ?_
      refine r_loadN (.p rfl) rfl ag31 sz31 rfl rfl rfl ?_
      refine r_loadN (.p rfl) rfl ag37 sz37 rfl rfl rfl ?_
      obtain ⟨v9, a9, h⟩ := bind_some h
      refine r_callL (ds0 := [_, _]) [] [(2005, _), (2006, _), (2007, _), (2008, _), (2009, _), (2010, _), (2011, _)] (mix_Robust_c N v1.1 v7 v9 a9) (.p rfl) gd19 rfl ⟨rfl, rfl, trivial⟩ ⟨rfl, rfl, rfl, rfl, rfl, rfl, rfl, trivial⟩ rfl rfl rfl (nodupB_spec rfl) trivial rfl flatV_nil rfl ?_
      refine r_move (.p rfl) rfl ?_
      refine r_extract (.p rfl) rfl rfl ?_
      refine r_extract (.p rfl) rfl rfl ?_
      refine r_assign (.p rfl) rfl ?_
      refine r_assign (.p rfl) rfl ?_
      refine r_end ?_
      refine W_seq ?_
      refine W_region mixed rfl ?_
      refine r_loadN (.p rfl) rfl ag31 sz31 rfl rfl rfl ?_
      refine r_loadN (.p rfl) rfl ag37 sz37 rfl rfl rfl ?_
      refine r_see (sees_frz 2005 _ _ rfl) ?_
      refine r_see (sees_frz 2006 _ _ rfl) ?_
      refine r_see (sees_frz 2007 _ _ rfl) ?_
      refine r_see (sees_frz 2008 _ _ rfl) ?_
      refine r_see (sees_frz 2009 _ _ rfl) ?_
      refine r_see (sees_frz 2010 _ _ rfl) ?_
      refine r_see (sees_frz 2011 _ _ rfl) ?_
      obtain ⟨v10, a10, h⟩ := bind_some h
      refine r_call (ds0 := [_, _]) [2012] (mix_Aborts_c N v1.1 v7 v10 a10) (.p rfl) gd18 rfl ⟨rfl, rfl, trivial⟩ rfl rfl rfl (nodupB_spec rfl) ⟨rfl, trivial⟩ rfl ?_
      refine r_move (.p rfl) rfl ?_
      refine r_extract (.p rfl) rfl rfl ?_
      refine r_extract (.p rfl) rfl rfl ?_
      refine r_assign (.p rfl) rfl ?_
      refine r_assign (.p rfl) rfl ?_
      refine r_end ?_
      refine W_seq ?_
      refine W_join h (fun v11 => mk [(5, .e (.one (.ptr 5 0))), (8, .e (.one (.pure (.val (.bool v8.1))))), (10, .e (.one (.pure (.val (.bool v9.1))))), (12, .e (.one (.own 2013))), (69, .e (.one (.pure (.val (.bool v11)))))] [(5, .box [.pure (.sl (v1.1.fVersions.map eI64)), .pure (.sl (v1.1.fNow.map eI64)), .pure (.sl (v1.1.fTarget.map eI64)), .pure (.sl (v1.1.fTables.map eApiTable))]), (2013, .vec 3 (v10.1.map eApiMix))]) (fun j11 h => ?_) (fun v11 h => ?_)
      · refine W_region mixed rfl ?_
        refine r_move (.p rfl) rfl ?_
        refine r_bin (.p rfl) rfl rfl (bin_neq _ _ _ _ _ _) rfl ?_
        refine r_move (.p rfl) rfl ?_
        refine r_split (t := 55) rfl (fun c12 => ?_) (fun c12 => ?_)
        · have h := cnd_t c12 h
          refine r_notB rfl rfl ?_
          refine r_notB rfl rfl ?_
          refine r_pick (.p rfl) rfl rfl rfl ?_
          refine r_move (.p rfl) rfl ?_
          refine r_notB rfl rfl ?_
          refine r_notB rfl rfl ?_
          refine r_pick (.p rfl) rfl rfl rfl ?_
          refine r_move (.p rfl) rfl ?_
          refine r_notB rfl rfl ?_
          refine r_notB rfl rfl ?_
          refine r_notU rfl rfl ?_
          refine r_notU rfl rfl ?_
          refine r_notB rfl rfl ?_
          refine r_pick (.p rfl) rfl rfl rfl ?_
          refine r_end ?_
          exact sink true h (sees_mk (rn [(2013, 2012)]) _ _ ⟨rfl, rfl, rfl, rfl, rfl, trivial⟩ ⟨rfl, rfl, trivial⟩ rfl rfl)
        · have h := cnd_f c12 h
          refine r_move (.g rfl rfl) rfl ?_
          refine r_bin (.g rfl rfl) rfl rfl (bin_neq _ _ _ _ _ _) rfl ?_
          refine r_pick (.p rfl) rfl rfl rfl ?_
          refine r_move (.p rfl) rfl ?_
          refine r_split (t := 59) rfl (fun c13 => ?_) (fun c13 => ?_)
          · have h := cnd_t c13 h
            refine r_notB rfl rfl ?_
            refine r_notB rfl rfl ?_
            refine r_pick (.p rfl) rfl rfl rfl ?_
            refine r_move (.p rfl) rfl ?_
            refine r_notB rfl rfl ?_
            refine r_notB rfl rfl ?_
            refine r_notU rfl rfl ?_
            refine r_notU rfl rfl ?_
            refine r_notB rfl rfl ?_
            refine r_pick (.p rfl) rfl rfl rfl ?_
            refine r_end ?_
            exact sink true h (sees_mk (rn [(2013, 2012)]) _ _ ⟨rfl, rfl, rfl, rfl, rfl, trivial⟩ ⟨rfl, rfl, trivial⟩ rfl rfl)
          · have h := cnd_f c13 h
            refine r_move (.g rfl rfl) rfl ?_
            refine r_bin (.g rfl rfl) rfl rfl (bin_neq _ _ _ _ _ _) rfl ?_
            refine r_pick (.p rfl) rfl rfl rfl ?_
            refine r_move (.p rfl) rfl ?_
            refine r_split (t := 63) rfl (fun c14 => ?_) (fun c14 => ?_)
            · have h := cnd_t c14 h
              refine r_notB rfl rfl ?_
              refine r_notB rfl rfl ?_
              refine r_notU rfl rfl ?_
              refine r_notU rfl rfl ?_
              refine r_notB rfl rfl ?_
              refine r_pick (.p rfl) rfl rfl rfl ?_
              refine r_end ?_
              exact sink true h (sees_mk (rn [(2013, 2012)]) _ _ ⟨rfl, rfl, rfl, rfl, rfl, trivial⟩ ⟨rfl, rfl, trivial⟩ rfl rfl)
            · have h := cnd_f c14 h
              refine r_move (.g rfl rfl) rfl ?_
              refine r_move (.g rfl rfl) rfl ?_
              refine r_split (t := 65) rfl (fun c15 => ?_) (fun c15 => ?_)
              · have h := cnd_t c15 h
                refine r_move (.g rfl rfl) rfl ?_
                refine r_un (.g rfl rfl) rfl (un_not _) rfl ?_
                refine r_pick (.g rfl rfl) rfl rfl rfl ?_
                refine r_pick (.p rfl) rfl rfl rfl ?_
                refine r_end ?_
                exact sink (!v8.1) h (sees_mk (rn [(2013, 2012)]) _ _ ⟨rfl, rfl, rfl, rfl, rfl, trivial⟩ ⟨rfl, rfl, trivial⟩ rfl rfl)
              · have h := cnd_f c15 h
                refine r_notB rfl rfl ?_
                refine r_notB rfl rfl ?_
                refine r_pick (.g rfl rfl) rfl rfl rfl ?_
                refine r_pick (.p rfl) rfl rfl rfl ?_
                refine r_end ?_
                exact sink false h (sees_mk (rn [(2013, 2012)]) _ _ ⟨rfl, rfl, rfl, rfl, rfl, trivial⟩ ⟨rfl, rfl, trivial⟩ rfl rfl)
      · refine W_cond rfl (fun c16 => ?_) (fun c16 => ?_)
        · have h := cnd_t c16 h
          refine W_seq ?_
          refine W_region mixed rfl ?_
          refine r_assign (.p rfl) rfl ?_
          refine r_end ?_
          obtain rfl := Option.some.inj h
          refine W_sees (sees_mk (rn []) [(4, .e (.one (.pure (.val (.bool false)))))] [] ⟨rfl, trivial⟩ trivial rfl rfl) (W_ret ?_)
          exact ⟨⟨[_], ⟨.tmp _ _ rfl, trivial⟩, rfl⟩, trivial⟩
        · have h := cnd_f c16 h
          refine W_skip ?_
          refine W_seq ?_
          refine W_seq ?_
          refine W_region mixed rfl ?_
          refine r_move (.p rfl) rfl ?_
          refine r_len (.p rfl) rfl (.own _ _ _) ⟨rfl, trivial⟩ (List.length_map _) slc48 ?_
          refine r_move (.p rfl) rfl ?_
          refine r_end ?_
          refine W_whileE (L := Sh.sheavelaw36_MixAborted_L17 N v1 v9 v10) h (fun v17 => mk [(5, .e (.one (.ptr 5 0))), (8, .e (.one (.pure (.val (.bool v8.1))))), (10, .e (.one (.pure (.val (.bool v9.1))))), (70, .e (.one (.own 2014))), (71, .e (.one (.pure (.val (.int .i64 ((v10.1.length : Int))))))), (72, .e (.one (.pure (.val (.int .i64 v17)))))] [(5, .box [.pure (.sl (v1.1.fVersions.map eI64)), .pure (.sl (v1.1.fNow.map eI64)), .pure (.sl (v1.1.fTarget.map eI64)), .pure (.sl (v1.1.fTables.map eApiTable))]), (2014, .vec 3 (v10.1.map eApiMix))]) (fun v18 => mk [(5, .e (.one (.ptr 5 0))), (8, .e (.one (.pure (.val (.bool v8.1))))), (10, .e (.one (.pure (.val (.bool v9.1)))))] [(5, .box [.pure (.sl (v1.1.fVersions.map eI64)), .pure (.sl (v1.1.fNow.map eI64)), .pure (.sl (v1.1.fTarget.map eI64)), .pure (.sl (v1.1.fTables.map eApiTable))])]) (fun _ _ => rfl) (sees_mk (rn [(2014, 2013)]) _ _ ⟨rfl, rfl, rfl, rfl, rfl, rfl, trivial⟩ ⟨rfl, rfl, trivial⟩ rfl rfl) (fun j17 n17 v17 h => ?_) (fun v18 s h hs => ?_)
          · unfold Sh.sheavelaw36_MixAborted_L17 at h
            refine W_seq ?_
            refine W_region mixed rfl ?_
            refine r_bin (.p rfl) rfl rfl (bin_lss _ _ _ _ _ _) rfl ?_
            refine r_end ?_
            refine W_seq ?_
            refine W_cond rfl (fun c19 => ?_) (fun c19 => ?_)
            · have h := cnd_t c19 h
              refine W_skip ?_
              refine W_seq ?_
              refine W_block ?_
              refine W_seq ?_
              refine W_region mixed rfl ?_
              obtain ⟨v20, a20, b20, h⟩ := idx_bind h
              refine r_indexo (.p rfl) rfl rfl rfl slc48 sz37 a20 (map_get b20) ?_
              refine r_loadeN (.p rfl) rfl ag37 sz37 rfl (map_get b20) ?_
              refine r_alloc (.p rfl) zv37 rfl rfl rfl ?_
              refine r_store rfl rfl rfl rfl sz37 rfl (leb rfl) rfl ?_
              refine r_end ?_
              refine W_seq ?_
              refine W_region mixed rfl ?_
              refine r_loadN (.p rfl) rfl ag31 sz31 rfl rfl rfl ?_
              refine r_loadN (.p rfl) rfl ag37 sz37 rfl rfl rfl ?_
              obtain ⟨v21, a21, h⟩ := bind_some h
              refine r_call (ds0 := [_, _]) [] (mix_Robust_c N v1.1 v20 v21 a21) (.p rfl) gd19 rfl ⟨rfl, rfl, trivial⟩ rfl rfl rfl (nodupB_spec rfl) trivial rfl ?_
              refine r_move (.p rfl) rfl ?_
              refine r_extract (.p rfl) rfl rfl ?_
              refine r_extract (.p rfl) rfl rfl ?_
              refine r_assign (.p rfl) rfl ?_
              refine r_assign (.p rfl) rfl ?_
              refine r_end ?_
              refine W_join h (fun v22 => mk [(5, .e (.one (.ptr 5 0))), (8, .e (.one (.pure (.val (.bool v8.1))))), (10, .e (.one (.pure (.val (.bool v9.1))))), (70, .e (.one (.own 2015))), (71, .e (.one (.pure (.val (.int .i64 ((v10.1.length : Int))))))), (72, .e (.one (.pure (.val (.int .i64 v17))))), (90, .e (.one (.pure (.val (.bool v22)))))] [(5, .box [.pure (.sl (v1.1.fVersions.map eI64)), .pure (.sl (v1.1.fNow.map eI64)), .pure (.sl (v1.1.fTarget.map eI64)), .pure (.sl (v1.1.fTables.map eApiTable))]), (2015, .vec 3 (v10.1.map eApiMix))]) (fun j22 h => ?_) (fun v22 h => ?_)
              · refine W_region mixed rfl ?_
                refine r_move (.p rfl) rfl ?_
                refine r_bin (.p rfl) rfl rfl (bin_neq _ _ _ _ _ _) rfl ?_
                refine r_move (.p rfl) rfl ?_
                refine r_split (t := 84) rfl (fun c23 => ?_) (fun c23 => ?_)
                · have h := cnd_t c23 h
                  refine r_notB rfl rfl ?_
                  refine r_notB rfl rfl ?_
                  refine r_notU rfl rfl ?_
                  refine r_notU rfl rfl ?_
                  refine r_notB rfl rfl ?_
                  refine r_pick (.p rfl) rfl rfl rfl ?_
                  refine r_end ?_
                  exact sink true h (sees_mk (rn [(2015, 2014)]) _ _ ⟨rfl, rfl, rfl, rfl, rfl, rfl, rfl, trivial⟩ ⟨rfl, rfl, trivial⟩ rfl rfl)
                · have h := cnd_f c23 h
                  refine r_move (.g rfl rfl) rfl ?_
                  refine r_move (.g rfl rfl) rfl ?_
                  refine r_split (t := 86) rfl (fun c24 => ?_) (fun c24 => ?_)
                  · have h := cnd_t c24 h
                    refine r_move (.g rfl rfl) rfl ?_
                    refine r_un (.g rfl rfl) rfl (un_not _) rfl ?_
                    refine r_pick (.g rfl rfl) rfl rfl rfl ?_
                    refine r_pick (.p rfl) rfl rfl rfl ?_
                    refine r_end ?_
                    exact sink (!v21.1) h (sees_mk (rn [(2015, 2014)]) _ _ ⟨rfl, rfl, rfl, rfl, rfl, rfl, rfl, trivial⟩ ⟨rfl, rfl, trivial⟩ rfl rfl)
                  · have h := cnd_f c24 h
                    refine r_notB rfl rfl ?_
                    refine r_notB rfl rfl ?_
                    refine r_pick (.g rfl rfl) rfl rfl rfl ?_
                    refine r_pick (.p rfl) rfl rfl rfl ?_
                    refine r_end ?_
                    exact sink false h (sees_mk (rn [(2015, 2014)]) _ _ ⟨rfl, rfl, rfl, rfl, rfl, rfl, rfl, trivial⟩ ⟨rfl, rfl, trivial⟩ rfl rfl)
              · refine W_cond rfl (fun c25 => ?_) (fun c25 => ?_)
                · have h := cnd_t c25 h
                  refine W_seq ?_
                  refine W_region mixed rfl ?_
                  refine r_assign (.p rfl) rfl ?_
                  refine r_end ?_
                  obtain rfl := Option.some.inj h
                  refine W_sees (sees_mk (rn []) [(4, .e (.one (.pure (.val (.bool false)))))] [] ⟨rfl, trivial⟩ trivial rfl rfl) (W_ret ?_)
                  exact ⟨⟨[_], ⟨.tmp _ _ rfl, trivial⟩, rfl⟩, trivial⟩
                · have h := cnd_f c25 h
                  refine W_skip ?_
                  refine W_region mixed rfl ?_
                  refine r_bin (.p rfl) rfl rfl (bin_add _ _ _ _ _ _) rfl ?_
                  refine r_move (.p rfl) rfl ?_
                  refine r_end ?_
                  exact sink (IntKind.wrap .i64 (v17 + 1)) h (sees_mk (rn [(2014, 2015)]) _ _ ⟨rfl, rfl, rfl, rfl, rfl, rfl, trivial⟩ ⟨rfl, rfl, trivial⟩ rfl rfl)
            · have h := cnd_f c19 h
              refine W_exit ?_
              exact sink () h (sees_mk (rn []) _ _ ⟨rfl, rfl, rfl, trivial⟩ ⟨rfl, trivial⟩ rfl rfl)
          · refine W_sees hs ?_
            refine W_seq ?_
            refine W_seq ?_
            refine W_region mixed rfl ?_
            refine r_fieldAddr (.p rfl) rfl fld31_3 ?_
            refine r_load1 (.p rfl) rfl ag29 rfl rfl ?_
            refine r_len (.p rfl) rfl (.sl _) trivial (List.length_map _) slc29 ?_
            refine r_move (.p rfl) rfl ?_
            refine r_end ?_
            refine W_whileE (L := Sh.sheavelaw36_MixAborted_L26 N v1) h (fun v26 => mk [(8, .e (.one (.pure (.val (.bool v8.1))))), (10, .e (.one (.pure (.val (.bool v9.1))))), (93, .e (.one (.pure (.sl (v1.1.fTables.map eApiTable))))), (94, .e (.one (.pure (.val (.int .i64 ((v1.1.fTables.length : Int))))))), (95, .e (.one (.pure (.val (.int .i64 v26)))))] []) (fun v27 => mk [(8, .e (.one (.pure (.val (.bool v8.1))))), (10, .e (.one (.pure (.val (.bool v9.1)))))] []) (fun _ _ => rfl) (sees_mk (rn []) _ _ ⟨rfl, rfl, rfl, rfl, rfl, trivial⟩ trivial rfl rfl) (fun j26 n26 v26 h => ?_) (fun v27 s h hs => ?_)
            · unfold Sh.sheavelaw36_MixAborted_L26 at h
              refine W_seq ?_
              refine W_region mixed rfl ?_
              refine r_bin (.p rfl) rfl rfl (bin_lss _ _ _ _ _ _) rfl ?_
              refine r_end ?_
              refine W_seq ?_
              refine W_cond rfl (fun c28 => ?_) (fun c28 => ?_)
              · have h := cnd_t c28 h
                refine W_skip ?_
                refine W_seq ?_
                refine W_block ?_
                refine W_seq ?_
                refine W_region mixed rfl ?_
                obtain ⟨v29, a29, b29, h⟩ := idx_bind h
                refine r_index (.p rfl) rfl rfl slc29 sz61 a29 (map_get b29) rfl ?_
                refine r_loadrN (.p rfl) rfl ag61 sz61 rfl rfl ?_
                refine r_alloc (.p rfl) zv61 rfl rfl rfl ?_
                refine r_store rfl rfl rfl rfl sz61 rfl (leb rfl) rfl ?_
                refine r_end ?_
                refine W_seq ?_
                refine W_region mixed rfl ?_
                refine r_fieldAddr (.p rfl) rfl fld61_3 ?_
                refine r_load1 (.p rfl) rfl ag4 rfl rfl ?_
                refine r_end ?_
                refine W_cond rfl (fun c30 => ?_) (fun c30 => ?_)
                · have h := cnd_t c30 h
                  refine W_seq ?_
                  refine W_region mixed rfl ?_
                  refine r_assign (.p rfl) rfl ?_
                  refine r_end ?_
                  obtain rfl := Option.some.inj h
                  refine W_sees (sees_mk (rn []) [(4, .e (.one (.pure (.val (.bool true)))))] [] ⟨rfl, trivial⟩ trivial rfl rfl) (W_ret ?_)
                  exact ⟨⟨[_], ⟨.tmp _ _ rfl, trivial⟩, rfl⟩, trivial⟩
                · have h := cnd_f c30 h
                  refine W_skip ?_
                  refine W_region mixed rfl ?_
                  refine r_bin (.p rfl) rfl rfl (bin_add _ _ _ _ _ _) rfl ?_
                  refine r_move (.p rfl) rfl ?_
                  refine r_end ?_
                  exact sink (IntKind.wrap .i64 (v26 + 1)) h (sees_mk (rn []) _ _ ⟨rfl, rfl, rfl, rfl, rfl, trivial⟩ trivial rfl rfl)
              · have h := cnd_f c28 h
                refine W_exit ?_
                exact sink () h (sees_mk (rn []) _ _ ⟨rfl, rfl, trivial⟩ trivial rfl rfl)
            · refine W_sees hs ?_
              refine W_seq ?_
              refine W_region mixed rfl ?_
              refine r_move (.p rfl) rfl ?_
              refine r_move (.p rfl) rfl ?_
              refine r_bin (.p rfl) rfl rfl (bin_eqlB _ _ _ _ bo4) rfl ?_
              refine r_assign (.p rfl) rfl ?_
              refine r_end ?_
              obtain rfl := Option.some.inj h
              refine W_sees (sees_mk (rn []) [(4, .e (.one (.pure (.val (.bool ((v9.1 == v8.1)))))))] [] ⟨rfl, trivial⟩ trivial rfl rfl) (W_ret ?_)
              exact ⟨⟨[_], ⟨.tmp _ _ rfl, trivial⟩, rfl⟩, trivial⟩

set_option maxRecDepth 10000 in
theorem sheaveref35_Few_c (N : Nat) (p0 : ApiProblem) (r : Bool) (h : Sh.sheaveref35_Few N p0 = some r) : Contract Try.prog 27 [.e (.agg [.pure (.sl (p0.fVersions.map eI64)), .pure (.sl (p0.fNow.map eI64)), .pure (.sl (p0.fTarget.map eI64)), .pure (.sl (p0.fTables.map eApiTable))])] [] (.e (.one (.pure (.val (.bool r))))) := by
  unfold Sh.sheaveref35_Few at h
  refine contract_of_W (n := 97) (rs := [.tmp 2]) Try.func27 rfl rfl rfl (leb rfl) rfl fun w0 S0 => ?_
  refine W_seq ?_
  refine W_region mixed rfl ?_
  refine r_box (.p rfl) rfl rfl ?_
  refine r_assign (.p rfl) rfl ?_
  refine r_end ?_
  refine W_seq ?_
  refine W_join h (fun v1 => mk [(1, .e (.one (.ptr 1 0))), (27, .e (.one (.pure (.val (.bool v1)))))] [(1, .box [.pure (.sl (p0.fVersions.map eI64)), .pure (.sl (p0.fNow.map eI64)), .pure (.sl (p0.fTarget.map eI64)), .pure (.sl (p0.fTables.map eApiTable))])]) (fun j1 h => ?_) (fun v1 h => ?_)
  · refine W_region mixed rfl ?_
    refine r_fieldAddr (.p rfl) rfl fld31_0 ?_
    refine r_load1 (.p rfl) rfl ag28 rfl rfl ?_
    refine r_len (.p rfl) rfl (.sl _) trivial (List.length_map _) slc28 ?_
    refine r_bin (.p rfl) rfl rfl (bin_gtr _ _ _ _ _ _) rfl ?_
    refine r_move (.p rfl) rfl ?_
    refine r_split (t := 10) rfl (fun c2 => ?_) (fun c2 => ?_)
    · have h := cnd_t c2 h
      refine r_notB rfl rfl ?_
      refine r_notB rfl rfl ?_
      refine r_notB rfl rfl ?_
      refine r_notB rfl rfl ?_
      refine r_pick (.p rfl) rfl rfl rfl ?_
      refine r_move (.p rfl) rfl ?_
      refine r_notB rfl rfl ?_
      refine r_notB rfl rfl ?_
      refine r_notB rfl rfl ?_
      refine r_notB rfl rfl ?_
      refine r_pick (.p rfl) rfl rfl rfl ?_
      refine r_move (.p rfl) rfl ?_
      refine r_notB rfl rfl ?_
      refine r_notB rfl rfl ?_
      refine r_notB rfl rfl ?_
      refine r_notB rfl rfl ?_
      refine r_pick (.p rfl) rfl rfl rfl ?_
      refine r_end ?_
      exact sink true h (sees_mk (rn []) _ _ ⟨rfl, rfl, trivial⟩ ⟨rfl, trivial⟩ rfl rfl)
    · have h := cnd_f c2 h
      refine r_fieldAddr (.g rfl rfl) rfl fld31_1 ?_
      refine r_load1 (.g rfl rfl) rfl ag28 rfl rfl ?_
      refine r_len (.g rfl rfl) rfl (.sl _) trivial (List.length_map _) slc28 ?_
      refine r_bin (.g rfl rfl) rfl rfl (bin_gtr _ _ _ _ _ _) rfl ?_
      refine r_pick (.p rfl) rfl rfl rfl ?_
      refine r_move (.p rfl) rfl ?_
      refine r_split (t := 16) rfl (fun c3 => ?_) (fun c3 => ?_)
      · have h := cnd_t c3 h
        refine r_notB rfl rfl ?_
        refine r_notB rfl rfl ?_
        refine r_notB rfl rfl ?_
        refine r_notB rfl rfl ?_
        refine r_pick (.p rfl) rfl rfl rfl ?_
        refine r_move (.p rfl) rfl ?_
        refine r_notB rfl rfl ?_
        refine r_notB rfl rfl ?_
        refine r_notB rfl rfl ?_
        refine r_notB rfl rfl ?_
        refine r_pick (.p rfl) rfl rfl rfl ?_
        refine r_end ?_
        exact sink true h (sees_mk (rn []) _ _ ⟨rfl, rfl, trivial⟩ ⟨rfl, trivial⟩ rfl rfl)
      · have h := cnd_f c3 h
        refine r_fieldAddr (.g rfl rfl) rfl fld31_2 ?_
        refine r_load1 (.g rfl rfl) rfl ag28 rfl rfl ?_
        refine r_len (.g rfl rfl) rfl (.sl _) trivial (List.length_map _) slc28 ?_
        refine r_bin (.g rfl rfl) rfl rfl (bin_gtr _ _ _ _ _ _) rfl ?_
        refine r_pick (.p rfl) rfl rfl rfl ?_
        refine r_move (.p rfl) rfl ?_
        refine r_split (t := 22) rfl (fun c4 => ?_) (fun c4 => ?_)
        · have h := cnd_t c4 h
          refine r_notB rfl rfl ?_
          refine r_notB rfl rfl ?_
          refine r_notB rfl rfl ?_
          refine r_notB rfl rfl ?_
          refine r_pick (.p rfl) rfl rfl rfl ?_
          refine r_end ?_
          exact sink true h (sees_mk (rn []) _ _ ⟨rfl, rfl, trivial⟩ ⟨rfl, trivial⟩ rfl rfl)
        · have h := cnd_f c4 h
          refine r_fieldAddr (.g rfl rfl) rfl fld31_3 ?_
          refine r_load1 (.g rfl rfl) rfl ag29 rfl rfl ?_
          refine r_len (.g rfl rfl) rfl (.sl _) trivial (List.length_map _) slc29 ?_
          refine r_bin (.g rfl rfl) rfl rfl (bin_gtr _ _ _ _ _ _) rfl ?_
          refine r_pick (.p rfl) rfl rfl rfl ?_
          refine r_end ?_
          exact sink (decide (14 < (p0.fTables.length : Int))) h (sees_mk (rn []) _ _ ⟨rfl, rfl, trivial⟩ ⟨rfl, trivial⟩ rfl rfl)
  · refine W_cond rfl (fun c5 => ?_) (fun c5 => ?_)
    · have h := cnd_t c5 h
      refine W_seq ?_
      refine W_region mixed rfl ?_
      refine r_assign (.p rfl) rfl ?_
      refine r_end ?_
      obtain rfl := Option.some.inj h
      refine W_sees (sees_mk (rn []) [(2, .e (.one (.pure (.val (.bool false)))))] [] ⟨rfl, trivial⟩ trivial rfl rfl) (W_ret ?_)
      exact ⟨⟨[_], ⟨.tmp _ _ rfl, trivial⟩, rfl⟩, trivial⟩
    · have h := cnd_f c5 h
      refine W_skip ?_
      refine W_seq ?_
      refine W_seq ?_
      refine W_region mixed rfl ?_
      refine r_assign (.p rfl) rfl ?_
      refine r_end ?_
      refine W_whileE (L := Sh.sheaveref35_Few_L6 N p0) h (fun v6 => mk [(1, .e (.one (.ptr 1 0))), (3, .e (.one (.pure (.val (.int .i64 v6)))))] [(1, .box [.pure (.sl (p0.fVersions.map eI64)), .pure (.sl (p0.fNow.map eI64)), .pure (.sl (p0.fTarget.map eI64)), .pure (.sl (p0.fTables.map eApiTable))])]) (fun v7 => mk [] []) (fun _ _ => rfl) (sees_mk (rn []) _ _ ⟨rfl, rfl, trivial⟩ ⟨rfl, trivial⟩ rfl rfl) (fun j6 n6 v6 h => ?_) (fun v7 s h hs => ?_)
      · unfold Sh.sheaveref35_Few_L6 at h
        refine W_seq ?_
        refine W_seq ?_
        refine W_region mixed rfl ?_
        refine r_move (.p rfl) rfl ?_
        refine r_fieldAddr (.p rfl) rfl fld31_3 ?_
        refine r_load1 (.p rfl) rfl ag29 rfl rfl ?_
        refine r_len (.p rfl) rfl (.sl _) trivial (List.length_map _) slc29 ?_
        refine r_bin (.p rfl) rfl rfl (bin_lss _ _ _ _ _ _) rfl ?_
        refine r_end ?_
        refine W_cond rfl (fun c8 => ?_) (fun c8 => ?_)
        · have h := cnd_t c8 h
          refine W_skip ?_
          refine W_seq ?_
          refine W_block ?_
          refine W_seq ?_
          refine W_join h (fun v9 => mk [(1, .e (.one (.ptr 1 0))), (3, .e (.one (.pure (.val (.int .i64 v6))))), (52, .e (.one (.pure (.val (.bool v9)))))] [(1, .box [.pure (.sl (p0.fVersions.map eI64)), .pure (.sl (p0.fNow.map eI64)), .pure (.sl (p0.fTarget.map eI64)), .pure (.sl (p0.fTables.map eApiTable))])]) (fun j9 h => ?_) (fun v9 h => ?_)
          · refine W_region mixed rfl ?_
            refine r_fieldAddr (.p rfl) rfl fld31_3 ?_
            refine r_load1 (.p rfl) rfl ag29 rfl rfl ?_
            refine r_move (.p rfl) rfl ?_
            obtain ⟨v10, a10, b10, h⟩ := idx_bind h
            refine r_index (.p rfl) rfl rfl slc29 sz61 a10 (map_get b10) rfl ?_
            refine r_fieldAddrr (.p rfl) rfl fld61_4 (leb rfl) rfl ?_
            refine r_loadr1 (.p rfl) rfl ag59 rfl ?_
            refine r_len (.p rfl) rfl (.sl _) trivial (List.length_map _) slc59 ?_
            refine r_bin (.p rfl) rfl rfl (bin_gtr _ _ _ _ _ _) rfl ?_
            refine r_move (.p rfl) rfl ?_
            refine r_split (t := 43) rfl (fun c11 => ?_) (fun c11 => ?_)
            · have h := cnd_t c11 h
              refine r_notB rfl rfl ?_
              refine r_notB rfl rfl ?_
              refine r_notB rfl rfl ?_
              refine r_notB rfl rfl ?_
              refine r_notB rfl rfl ?_
              refine r_notB rfl rfl ?_
              refine r_notB rfl rfl ?_
              refine r_notB rfl rfl ?_
              refine r_pick (.p rfl) rfl rfl rfl ?_
              refine r_end ?_
              exact sink true h (sees_mk (rn []) _ _ ⟨rfl, rfl, rfl, trivial⟩ ⟨rfl, trivial⟩ rfl rfl)
            · have h := cnd_f c11 h
              refine r_fieldAddr (.g rfl rfl) rfl fld31_3 ?_
              refine r_load1 (.g rfl rfl) rfl ag29 rfl rfl ?_
              refine r_move (.g rfl rfl) rfl ?_
              obtain ⟨v12, a12, b12, h⟩ := idx_bind h
              refine r_index (.g rfl rfl) rfl rfl slc29 sz61 a12 (map_get b12) rfl ?_
              refine r_fieldAddrr (.g rfl rfl) rfl fld61_5 (leb rfl) rfl ?_
              refine r_loadr1 (.g rfl rfl) rfl ag59 rfl ?_
              refine r_len (.g rfl rfl) rfl (.sl _) trivial (List.length_map _) slc59 ?_
              refine r_bin (.g rfl rfl) rfl rfl (bin_gtr _ _ _ _ _ _) rfl ?_
              refine r_pick (.p rfl) rfl rfl rfl ?_
              refine r_end ?_
              exact sink (decide (8 < (v12.fRewrite.length : Int))) h (sees_mk (rn []) _ _ ⟨rfl, rfl, rfl, trivial⟩ ⟨rfl, trivial⟩ rfl rfl)
          · refine W_cond rfl (fun c13 => ?_) (fun c13 => ?_)
            · have h := cnd_t c13 h
              refine W_seq ?_
              refine W_region mixed rfl ?_
              refine r_assign (.p rfl) rfl ?_
              refine r_end ?_
              obtain rfl := Option.some.inj h
              refine W_sees (sees_mk (rn []) [(2, .e (.one (.pure (.val (.bool false)))))] [] ⟨rfl, trivial⟩ trivial rfl rfl) (W_ret ?_)
              exact ⟨⟨[_], ⟨.tmp _ _ rfl, trivial⟩, rfl⟩, trivial⟩
            · have h := cnd_f c13 h
              refine W_skip ?_
              refine W_seq ?_
              refine W_seq ?_
              refine W_region mixed rfl ?_
              refine r_assign (.p rfl) rfl ?_
              refine r_end ?_
              refine W_whileE (L := Sh.sheaveref35_Few_L14 N p0 v6) h (fun v14 => mk [(1, .e (.one (.ptr 1 0))), (3, .e (.one (.pure (.val (.int .i64 v6))))), (4, .e (.one (.pure (.val (.int .i64 v14)))))] [(1, .box [.pure (.sl (p0.fVersions.map eI64)), .pure (.sl (p0.fNow.map eI64)), .pure (.sl (p0.fTarget.map eI64)), .pure (.sl (p0.fTables.map eApiTable))])]) (fun v15 => mk [(1, .e (.one (.ptr 1 0))), (3, .e (.one (.pure (.val (.int .i64 v6)))))] [(1, .box [.pure (.sl (p0.fVersions.map eI64)), .pure (.sl (p0.fNow.map eI64)), .pure (.sl (p0.fTarget.map eI64)), .pure (.sl (p0.fTables.map eApiTable))])]) (fun _ _ => rfl) (sees_mk (rn []) _ _ ⟨rfl, rfl, rfl, trivial⟩ ⟨rfl, trivial⟩ rfl rfl) (fun j14 n14 v14 h => ?_) (fun v15 s h hs => ?_)
              · unfold Sh.sheaveref35_Few_L14 at h
                refine W_seq ?_
                refine W_seq ?_
                refine W_region mixed rfl ?_
                refine r_move (.p rfl) rfl ?_
                refine r_fieldAddr (.p rfl) rfl fld31_3 ?_
                refine r_load1 (.p rfl) rfl ag29 rfl rfl ?_
                refine r_move (.p rfl) rfl ?_
                obtain ⟨v16, a16, b16, h⟩ := idx_bind h
                refine r_index (.p rfl) rfl rfl slc29 sz61 a16 (map_get b16) rfl ?_
                refine r_fieldAddrr (.p rfl) rfl fld61_4 (leb rfl) rfl ?_
                refine r_loadr1 (.p rfl) rfl ag59 rfl ?_
                refine r_len (.p rfl) rfl (.sl _) trivial (List.length_map _) slc59 ?_
                refine r_bin (.p rfl) rfl rfl (bin_lss _ _ _ _ _ _) rfl ?_
                refine r_end ?_
                refine W_cond rfl (fun c17 => ?_) (fun c17 => ?_)
                · have h := cnd_t c17 h
                  refine W_skip ?_
                  refine W_seq ?_
                  refine W_block ?_
                  refine W_seq ?_
                  refine W_region mixed rfl ?_
                  refine r_fieldAddr (.p rfl) rfl fld31_3 ?_
                  refine r_load1 (.p rfl) rfl ag29 rfl rfl ?_
                  refine r_move (.p rfl) rfl ?_
                  obtain ⟨v18, a18, b18, h⟩ := idx_bind h
                  refine r_index (.p rfl) rfl rfl slc29 sz61 a18 (map_get b18) rfl ?_
                  refine r_fieldAddrr (.p rfl) rfl fld61_4 (leb rfl) rfl ?_
                  refine r_loadr1 (.p rfl) rfl ag59 rfl ?_
                  refine r_move (.p rfl) rfl ?_
                  obtain ⟨v19, a19, b19, h⟩ := idx_bind h
                  refine r_index (.p rfl) rfl rfl slc59 sz65 a19 (map_get b19) rfl ?_
                  refine r_loadr1 (.p rfl) rfl ag65 rfl ?_
                  refine r_len (.p rfl) rfl (.sl _) trivial (List.length_map _) slc65 ?_
                  refine r_bin (.p rfl) rfl rfl (bin_gtr _ _ _ _ _ _) rfl ?_
                  refine r_end ?_
                  refine W_cond rfl (fun c20 => ?_) (fun c20 => ?_)
                  · have h := cnd_t c20 h
                    refine W_seq ?_
                    refine W_region mixed rfl ?_
                    refine r_assign (.p rfl) rfl ?_
                    refine r_end ?_
                    obtain rfl := Option.some.inj h
                    refine W_sees (sees_mk (rn []) [(2, .e (.one (.pure (.val (.bool false)))))] [] ⟨rfl, trivial⟩ trivial rfl rfl) (W_ret ?_)
                    exact ⟨⟨[_], ⟨.tmp _ _ rfl, trivial⟩, rfl⟩, trivial⟩
                  · have h := cnd_f c20 h
                    refine W_skip ?_
                    refine W_region mixed rfl ?_
                    refine r_move (.p rfl) rfl ?_
                    refine r_bin (.p rfl) rfl rfl (bin_add _ _ _ _ _ _) rfl ?_
                    refine r_assign (.p rfl) rfl ?_
                    refine r_end ?_
                    exact sink (IntKind.wrap .i64 (v14 + 1)) h (sees_mk (rn []) _ _ ⟨rfl, rfl, rfl, trivial⟩ ⟨rfl, trivial⟩ rfl rfl)
                · have h := cnd_f c17 h
                  refine W_exit ?_
                  exact sink () h (sees_mk (rn []) _ _ ⟨rfl, rfl, trivial⟩ ⟨rfl, trivial⟩ rfl rfl)
              · refine W_sees hs ?_
                refine W_seq ?_
                refine W_region mixed rfl ?_
                refine r_assign (.p rfl) rfl ?_
                refine r_end ?_
                refine W_whileE (L := Sh.sheaveref35_Few_L21 N p0 v6) h (fun v21 => mk [(1, .e (.one (.ptr 1 0))), (3, .e (.one (.pure (.val (.int .i64 v6))))), (5, .e (.one (.pure (.val (.int .i64 v21)))))] [(1, .box [.pure (.sl (p0.fVersions.map eI64)), .pure (.sl (p0.fNow.map eI64)), .pure (.sl (p0.fTarget.map eI64)), .pure (.sl (p0.fTables.map eApiTable))])]) (fun v22 => mk [(1, .e (.one (.ptr 1 0))), (3, .e (.one (.pure (.val (.int .i64 v6)))))] [(1, .box [.pure (.sl (p0.fVersions.map eI64)), .pure (.sl (p0.fNow.map eI64)), .pure (.sl (p0.fTarget.map eI64)), .pure (.sl (p0.fTables.map eApiTable))])]) (fun _ _ => rfl) (sees_mk (rn []) _ _ ⟨rfl, rfl, rfl, trivial⟩ ⟨rfl, trivial⟩ rfl rfl) (fun j21 n21 v21 h => ?_) (fun v22 s h hs => ?_)
                · unfold Sh.sheaveref35_Few_L21 at h
                  refine W_seq ?_
                  refine W_seq ?_
                  refine W_region mixed rfl ?_
                  refine r_move (.p rfl) rfl ?_
                  refine r_fieldAddr (.p rfl) rfl fld31_3 ?_
                  refine r_load1 (.p rfl) rfl ag29 rfl rfl ?_
                  refine r_move (.p rfl) rfl ?_
                  obtain ⟨v23, a23, b23, h⟩ := idx_bind h
                  refine r_index (.p rfl) rfl rfl slc29 sz61 a23 (map_get b23) rfl ?_
                  refine r_fieldAddrr (.p rfl) rfl fld61_5 (leb rfl) rfl ?_
                  refine r_loadr1 (.p rfl) rfl ag59 rfl ?_
                  refine r_len (.p rfl) rfl (.sl _) trivial (List.length_map _) slc59 ?_
                  refine r_bin (.p rfl) rfl rfl (bin_lss _ _ _ _ _ _) rfl ?_
                  refine r_end ?_
                  refine W_cond rfl (fun c24 => ?_) (fun c24 => ?_)
                  · have h := cnd_t c24 h
                    refine W_skip ?_
                    refine W_seq ?_
                    refine W_block ?_
                    refine W_seq ?_
                    refine W_region mixed rfl ?_
                    refine r_fieldAddr (.p rfl) rfl fld31_3 ?_
                    refine r_load1 (.p rfl) rfl ag29 rfl rfl ?_
                    refine r_move (.p rfl) rfl ?_
                    obtain ⟨v25, a25, b25, h⟩ := idx_bind h
                    refine r_index (.p rfl) rfl rfl slc29 sz61 a25 (map_get b25) rfl ?_
                    refine r_fieldAddrr (.p rfl) rfl fld61_5 (leb rfl) rfl ?_
                    refine r_loadr1 (.p rfl) rfl ag59 rfl ?_
                    refine r_move (.p rfl) rfl ?_
                    obtain ⟨v26, a26, b26, h⟩ := idx_bind h
                    refine r_index (.p rfl) rfl rfl slc59 sz65 a26 (map_get b26) rfl ?_
                    refine r_loadr1 (.p rfl) rfl ag65 rfl ?_
                    refine r_len (.p rfl) rfl (.sl _) trivial (List.length_map _) slc65 ?_
                    refine r_bin (.p rfl) rfl rfl (bin_gtr _ _ _ _ _ _) rfl ?_
                    refine r_end ?_
                    refine W_cond rfl (fun c27 => ?_) (fun c27 => ?_)
                    · have h := cnd_t c27 h
                      refine W_seq ?_
                      refine W_region mixed rfl ?_
                      refine r_assign (.p rfl) rfl ?_
                      refine r_end ?_
                      obtain rfl := Option.some.inj h
                      refine W_sees (sees_mk (rn []) [(2, .e (.one (.pure (.val (.bool false)))))] [] ⟨rfl, trivial⟩ trivial rfl rfl) (W_ret ?_)
                      exact ⟨⟨[_], ⟨.tmp _ _ rfl, trivial⟩, rfl⟩, trivial⟩
                    · have h := cnd_f c27 h
                      refine W_skip ?_
                      refine W_region mixed rfl ?_
                      refine r_move (.p rfl) rfl ?_
                      refine r_bin (.p rfl) rfl rfl (bin_add _ _ _ _ _ _) rfl ?_
                      refine r_assign (.p rfl) rfl ?_
                      refine r_end ?_
                      exact sink (IntKind.wrap .i64 (v21 + 1)) h (sees_mk (rn []) _ _ ⟨rfl, rfl, rfl, trivial⟩ ⟨rfl, trivial⟩ rfl rfl)
                  · have h := cnd_f c24 h
                    refine W_exit ?_
                    exact sink () h (sees_mk (rn []) _ _ ⟨rfl, rfl, trivial⟩ ⟨rfl, trivial⟩ rfl rfl)
                · refine W_sees hs ?_
                  refine W_region mixed rfl ?_
                  refine r_move (.p rfl) rfl ?_
                  refine r_bin (.p rfl) rfl rfl (bin_add _ _ _ _ _ _) rfl ?_
                  refine r_assign (.p rfl) rfl ?_
                  refine r_end ?_
                  exact sink (IntKind.wrap .i64 (v6 + 1)) h (sees_mk (rn []) _ _ ⟨rfl, rfl, trivial⟩ ⟨rfl, trivial⟩ rfl rfl)
        · have h := cnd_f c8 h
          refine W_exit ?_
          exact sink () h (sees_mk (rn []) _ _ trivial trivial rfl rfl)
      · refine W_sees hs ?_
        refine W_seq ?_
        refine W_region mixed rfl ?_
        refine r_assign (.p rfl) rfl ?_
        refine r_end ?_
        obtain rfl := Option.some.inj h
        refine W_sees (sees_mk (rn []) [(2, .e (.one (.pure (.val (.bool true)))))] [] ⟨rfl, trivial⟩ trivial rfl rfl) (W_ret ?_)
        exact ⟨⟨[_], ⟨.tmp _ _ rfl, trivial⟩, rfl⟩, trivial⟩

set_option maxRecDepth 10000 in
theorem sheaveref36_Few_c (N : Nat) (p0 : ApiMix) (r : Bool) (h : Sh.sheaveref36_Few N p0 = some r) : Contract Try.prog 28 [.e (.agg [.pure (.sl (p0.fBase.map eI64)), .pure (.sl (p0.fNext.map eI64)), .pure (.sl (p0.fHeld.map eU8))])] [] (.e (.one (.pure (.val (.bool r))))) := by
  unfold Sh.sheaveref36_Few at h
  refine contract_of_W (n := 19) (rs := [.tmp 2]) Try.func28 rfl rfl rfl (leb rfl) rfl fun w0 S0 => ?_
  refine W_seq ?_
  refine W_region mixed rfl ?_
  refine r_box (.p rfl) rfl rfl ?_
  refine r_assign (.p rfl) rfl ?_
  refine r_end ?_
  refine W_join h (fun v1 => mk [(2, .e (.one (.pure (.val (.bool v1)))))] []) (fun j1 h => ?_) (fun v1 h => ?_)
  · refine W_region mixed rfl ?_
    refine r_fieldAddr (.p rfl) rfl fld37_0 ?_
    refine r_load1 (.p rfl) rfl ag28 rfl rfl ?_
    refine r_len (.p rfl) rfl (.sl _) trivial (List.length_map _) slc28 ?_
    refine r_bin (.p rfl) rfl rfl (bin_leq _ _ _ _ _ _) rfl ?_
    refine r_move (.p rfl) rfl ?_
    refine r_split (t := 7) rfl (fun c2 => ?_) (fun c2 => ?_)
    · have h := cnd_t c2 h
      refine r_fieldAddr (.g rfl rfl) rfl fld37_1 ?_
      refine r_load1 (.g rfl rfl) rfl ag28 rfl rfl ?_
      refine r_len (.g rfl rfl) rfl (.sl _) trivial (List.length_map _) slc28 ?_
      refine r_bin (.g rfl rfl) rfl rfl (bin_leq _ _ _ _ _ _) rfl ?_
      refine r_pick (.p rfl) rfl rfl rfl ?_
      refine r_move (.p rfl) rfl ?_
      refine r_split (t := 13) rfl (fun c3 => ?_) (fun c3 => ?_)
      · have h := cnd_t c3 h
        refine r_fieldAddr (.g rfl rfl) rfl fld37_2 ?_
        refine r_load1 (.g rfl rfl) rfl ag35 rfl rfl ?_
        refine r_len (.g rfl rfl) rfl (.sl _) trivial (List.length_map _) slc35 ?_
        refine r_bin (.g rfl rfl) rfl rfl (bin_leq _ _ _ _ _ _) rfl ?_
        refine r_pick (.p rfl) rfl rfl rfl ?_
        refine r_assign (.p rfl) rfl ?_
        refine r_end ?_
        exact sink (decide ((p0.fHeld.length : Int) ≤ 14)) h (sees_mk (rn []) _ _ ⟨rfl, trivial⟩ trivial rfl rfl)
      · have h := cnd_f c3 h
        refine r_notB rfl rfl ?_
        refine r_notB rfl rfl ?_
        refine r_notB rfl rfl ?_
        refine r_notB rfl rfl ?_
        refine r_pick (.p rfl) rfl rfl rfl ?_
        refine r_assign (.p rfl) rfl ?_
        refine r_end ?_
        exact sink false h (sees_mk (rn []) _ _ ⟨rfl, trivial⟩ trivial rfl rfl)
    · have h := cnd_f c2 h
      refine r_notB rfl rfl ?_
      refine r_notB rfl rfl ?_
      refine r_notB rfl rfl ?_
      refine r_notB rfl rfl ?_
      refine r_pick (.p rfl) rfl rfl rfl ?_
      refine r_move (.p rfl) rfl ?_
      refine r_notB rfl rfl ?_
      refine r_notB rfl rfl ?_
      refine r_notB rfl rfl ?_
      refine r_notB rfl rfl ?_
      refine r_pick (.p rfl) rfl rfl rfl ?_
      refine r_assign (.p rfl) rfl ?_
      refine r_end ?_
      exact sink false h (sees_mk (rn []) _ _ ⟨rfl, trivial⟩ trivial rfl rfl)
  · obtain rfl := Option.some.inj h
    refine W_sees (sees_mk (rn []) [(2, .e (.one (.pure (.val (.bool v1)))))] [] ⟨rfl, trivial⟩ trivial rfl rfl) (W_ret ?_)
    exact ⟨⟨[_], ⟨.tmp _ _ rfl, trivial⟩, rfl⟩, trivial⟩

set_option maxRecDepth 10000 in
theorem slices_Equal_int_int_c (N : Nat) (p0 : List Int) (p1 : List Int) (r : Bool) (h : Sh.slices_Equal_int_int N p0 p1 = some r) : Contract Try.prog 55 [.e (.one (.pure (.sl (p0.map eI64)))), .e (.one (.pure (.sl (p1.map eI64))))] [] (.e (.one (.pure (.val (.bool r))))) := by
  unfold Sh.slices_Equal_int_int at h
  refine contract_of_W (n := 26) (rs := [.tmp 4]) Try.func55 rfl rfl rfl (leb rfl) rfl fun w0 S0 => ?_
  refine W_seq ?_
  refine W_region mixed rfl ?_
  refine r_assign (.p rfl) rfl ?_
  refine r_end ?_
  refine W_seq ?_
  refine W_seq ?_
  refine W_region mixed rfl ?_
  refine r_move (.p rfl) rfl ?_
  refine r_len (.p rfl) rfl (.sl _) trivial (List.length_map _) slc28 ?_
  refine r_move (.p rfl) rfl ?_
  refine r_len (.p rfl) rfl (.sl _) trivial (List.length_map _) slc28 ?_
  refine r_bin (.p rfl) rfl rfl (bin_neq _ _ _ _ _ _) rfl ?_
  refine r_end ?_
  refine W_cond rfl (fun c1 => ?_) (fun c1 => ?_)
  · have h := cnd_t c1 h
    refine W_seq ?_
    refine W_region mixed rfl ?_
    refine r_assign (.p rfl) rfl ?_
    refine r_end ?_
    obtain rfl := Option.some.inj h
    refine W_sees (sees_mk (rn []) [(4, .e (.one (.pure (.val (.bool false)))))] [] ⟨rfl, trivial⟩ trivial rfl rfl) (W_ret ?_)
    exact ⟨⟨[_], ⟨.tmp _ _ rfl, trivial⟩, rfl⟩, trivial⟩
  · have h := cnd_f c1 h
    refine W_skip ?_
    refine W_seq ?_
    refine W_seq ?_
    refine W_region mixed rfl ?_
    refine r_move (.p rfl) rfl ?_
    refine r_len (.p rfl) rfl (.sl _) trivial (List.length_map _) slc28 ?_
    refine r_move (.p rfl) rfl ?_
    refine r_end ?_
    refine W_whileE (L := Sh.slices_Equal_int_int_L2 N p0 p1) h (fun v2 => mk [(0, .e (.one (.pure (.sl (p0.map eI64))))), (1, .e (.one (.pure (.sl (p1.map eI64))))), (12, .e (.one (.pure (.val (.int .i64 ((p0.length : Int))))))), (13, .e (.one (.pure (.val (.int .i64 v2)))))] []) (fun v3 => mk [] []) (fun _ _ => rfl) (sees_mk (rn []) _ _ ⟨rfl, rfl, rfl, rfl, trivial⟩ trivial rfl rfl) (fun j2 n2 v2 h => ?_) (fun v3 s h hs => ?_)
    · unfold Sh.slices_Equal_int_int_L2 at h
      refine W_seq ?_
      refine W_region mixed rfl ?_
      refine r_bin (.p rfl) rfl rfl (bin_lss _ _ _ _ _ _) rfl ?_
      refine r_end ?_
      refine W_seq ?_
      refine W_cond rfl (fun c4 => ?_) (fun c4 => ?_)
      · have h := cnd_t c4 h
        refine W_skip ?_
        refine W_seq ?_
        refine W_block ?_
        refine W_seq ?_
        refine W_region mixed rfl ?_
        refine r_move (.p rfl) rfl ?_
        refine r_assign (.p rfl) rfl ?_
        refine r_end ?_
        refine W_seq ?_
        refine W_region mixed rfl ?_
        refine r_move (.p rfl) rfl ?_
        refine r_move (.p rfl) rfl ?_
        obtain ⟨v5, a5, b5, h⟩ := idx_bind h
        refine r_index (.p rfl) rfl rfl slc28 sz3 a5 (map_get b5) rfl ?_
        refine r_loadr1 (.p rfl) rfl ag3 rfl ?_
        refine r_move (.p rfl) rfl ?_
        refine r_move (.p rfl) rfl ?_
        obtain ⟨v6, a6, b6, h⟩ := idx_bind h
        refine r_index (.p rfl) rfl rfl slc28 sz3 a6 (map_get b6) rfl ?_
        refine r_loadr1 (.p rfl) rfl ag3 rfl ?_
        refine r_bin (.p rfl) rfl rfl (bin_neq _ _ _ _ _ _) rfl ?_
        refine r_endD (by kernel_rfl) ?_
        refine W_cond rfl (fun c7 => ?_) (fun c7 => ?_)
        · have h := cnd_t c7 h
          refine W_seq ?_
          refine W_region mixed rfl ?_
          refine r_assign (.p rfl) rfl ?_
          refine r_end ?_
          obtain rfl := Option.some.inj h
          refine W_sees (sees_mk (rn []) [(4, .e (.one (.pure (.val (.bool false)))))] [] ⟨rfl, trivial⟩ trivial rfl rfl) (W_ret ?_)
          exact ⟨⟨[_], ⟨.tmp _ _ rfl, trivial⟩, rfl⟩, trivial⟩
        · have h := cnd_f c7 h
          refine W_skip ?_
          refine W_region mixed rfl ?_
          refine r_bin (.p rfl) rfl rfl (bin_add _ _ _ _ _ _) rfl ?_
          refine r_move (.p rfl) rfl ?_
          refine r_end ?_
          exact sink (IntKind.wrap .i64 (v2 + 1)) h (sees_mk (rn []) _ _ ⟨rfl, rfl, rfl, rfl, trivial⟩ trivial rfl rfl)
      · have h := cnd_f c4 h
        refine W_exit ?_
        exact sink () h (sees_mk (rn []) _ _ trivial trivial rfl rfl)
    · refine W_sees hs ?_
      refine W_seq ?_
      refine W_region mixed rfl ?_
      refine r_assign (.p rfl) rfl ?_
      refine r_end ?_
      obtain rfl := Option.some.inj h
      refine W_sees (sees_mk (rn []) [(4, .e (.one (.pure (.val (.bool true)))))] [] ⟨rfl, trivial⟩ trivial rfl rfl) (W_ret ?_)
      exact ⟨⟨[_], ⟨.tmp _ _ rfl, trivial⟩, rfl⟩, trivial⟩

set_option maxRecDepth 10000 in
theorem slices_IndexFunc_int_int_c (N : Nat) (p0 : List Int) (p1 : Int → Option Bool) (r : Int) (h : Sh.slices_IndexFunc_int_int N p0 p1 = some r) : Contract Try.prog 68 [.e (.one (.pure (.sl (p0.map eI64)))), .e (.one (.clo (cloG (ea1 false eI64) tB p1)))] [] (.e (.one (.pure (.val (.int .i64 r))))) := by
  unfold Sh.slices_IndexFunc_int_int at h
  refine contract_of_W (n := 19) (rs := [.tmp 4]) Try.func68 rfl rfl rfl (leb rfl) rfl fun w0 S0 => ?_
  refine W_seq ?_
  refine W_region mixed rfl ?_
  refine r_assign (.p rfl) rfl ?_
  refine r_end ?_
  refine W_seq ?_
  refine W_seq ?_
  refine W_region mixed rfl ?_
  refine r_move (.p rfl) rfl ?_
  refine r_len (.p rfl) rfl (.sl _) trivial (List.length_map _) slc28 ?_
  refine r_move (.p rfl) rfl ?_
  refine r_end ?_
  refine W_whileE (L := Sh.slices_IndexFunc_int_int_L1 N p0 p1) h (fun v1 => mk [(0, .e (.one (.pure (.sl (p0.map eI64))))), (1, .e (.one (.clo (cloG (ea1 false eI64) tB p1)))), (7, .e (.one (.pure (.val (.int .i64 ((p0.length : Int))))))), (8, .e (.one (.pure (.val (.int .i64 v1)))))] []) (fun v2 => mk [] []) (fun _ _ => rfl) (sees_mk (rn []) _ _ ⟨rfl, rfl, rfl, rfl, trivial⟩ trivial rfl rfl) (fun j1 n1 v1 h => ?_) (fun v2 s h hs => ?_)
  · unfold Sh.slices_IndexFunc_int_int_L1 at h
    refine W_seq ?_
    refine W_region mixed rfl ?_
    refine r_bin (.p rfl) rfl rfl (bin_lss _ _ _ _ _ _) rfl ?_
    refine r_end ?_
    refine W_seq ?_
    refine W_cond rfl (fun c3 => ?_) (fun c3 => ?_)
    · have h := cnd_t c3 h
      refine W_skip ?_
      refine W_seq ?_
      refine W_block ?_
      refine W_seq ?_
      refine W_region mixed rfl ?_
      refine r_move (.p rfl) rfl ?_
      refine r_assign (.p rfl) rfl ?_
      refine r_end ?_
      refine W_seq ?_
      refine W_region mixed rfl ?_
      refine r_move (.p rfl) rfl ?_
      refine r_move (.p rfl) rfl ?_
      refine r_move (.p rfl) rfl ?_
      obtain ⟨v4, a4, b4, h⟩ := idx_bind h
      refine r_index (.p rfl) rfl rfl slc28 sz3 a4 (map_get b4) rfl ?_
      refine r_loadr1 (.p rfl) rfl ag3 rfl ?_
      obtain ⟨v5, a5, h⟩ := bind_some h
      refine r_callv (ds0 := [_]) (ar := (ea1 false eI64) v4) (.p rfl) rfl rfl ⟨rfl, trivial⟩ rfl rfl rfl (cloG_at (inj_ea1 _ _ injI64) a5) ?_
      refine r_end ?_
      refine W_cond rfl (fun c6 => ?_) (fun c6 => ?_)
      · have h := cnd_t c6 h
        refine W_seq ?_
        refine W_region mixed rfl ?_
        refine r_move (.p rfl) rfl ?_
        refine r_assign (.p rfl) rfl ?_
        refine r_end ?_
        obtain rfl := Option.some.inj h
        refine W_sees (sees_mk (rn []) [(4, .e (.one (.pure (.val (.int .i64 v1)))))] [] ⟨rfl, trivial⟩ trivial rfl rfl) (W_ret ?_)
        exact ⟨⟨[_], ⟨.tmp _ _ rfl, trivial⟩, rfl⟩, trivial⟩
      · have h := cnd_f c6 h
        refine W_skip ?_
        refine W_region mixed rfl ?_
        refine r_bin (.p rfl) rfl rfl (bin_add _ _ _ _ _ _) rfl ?_
        refine r_move (.p rfl) rfl ?_
        refine r_end ?_
        exact sink (IntKind.wrap .i64 (v1 + 1)) h (sees_mk (rn []) _ _ ⟨rfl, rfl, rfl, rfl, trivial⟩ trivial rfl rfl)
    · have h := cnd_f c3 h
      refine W_exit ?_
      exact sink () h (sees_mk (rn []) _ _ trivial trivial rfl rfl)
  · refine W_sees hs ?_
    refine W_seq ?_
    refine W_region mixed rfl ?_
    refine r_assign (.p rfl) rfl ?_
    refine r_end ?_
    obtain rfl := Option.some.inj h
    refine W_sees (sees_mk (rn []) [(4, .e (.one (.pure (.val (.int .i64 ((-1)))))))] [] ⟨rfl, trivial⟩ trivial rfl rfl) (W_ret ?_)
    exact ⟨⟨[_], ⟨.tmp _ _ rfl, trivial⟩, rfl⟩, trivial⟩

set_option maxRecDepth 10000 in
theorem slices_ContainsFunc_int_int_c (N : Nat) (p0 : List Int) (p1 : Int → Option Bool) (r : Bool) (h : Sh.slices_ContainsFunc_int_int N p0 p1 = some r) : Contract Try.prog 56 [.e (.one (.pure (.sl (p0.map eI64)))), .e (.one (.clo (cloG (ea1 false eI64) tB p1)))] [] (.e (.one (.pure (.val (.bool r))))) := by
  unfold Sh.slices_ContainsFunc_int_int at h
  refine contract_of_W (n := 9) (rs := [.tmp 4]) Try.func56 rfl rfl rfl (leb rfl) rfl fun w0 S0 => ?_
  refine W_seq ?_
  refine W_region mixed rfl ?_
  refine r_assign (.p rfl) rfl ?_
  refine r_end ?_
  refine W_seq ?_
  refine W_region mixed rfl ?_
  refine r_move (.p rfl) rfl ?_
  refine r_move (.p rfl) rfl ?_
  obtain ⟨v1, a1, h⟩ := bind_some h
  refine r_call (ds0 := [_, _]) [] (slices_IndexFunc_int_int_c N p0 p1 v1 a1) (.p rfl) gd68 rfl ⟨rfl, rfl, trivial⟩ rfl rfl rfl (nodupB_spec rfl) trivial rfl ?_
  refine r_bin (.p rfl) rfl rfl (bin_geq _ _ _ _ _ _) rfl ?_
  refine r_assign (.p rfl) rfl ?_
  refine r_end ?_
  obtain rfl := Option.some.inj h
  refine W_sees (sees_mk (rn []) [(4, .e (.one (.pure (.val (.bool ((decide (0 ≤ v1))))))))] [] ⟨rfl, trivial⟩ trivial rfl rfl) (W_ret ?_)
  exact ⟨⟨[_], ⟨.tmp _ _ rfl, trivial⟩, rfl⟩, trivial⟩

set_option maxRecDepth 10000 in
theorem mix_Goal_1_c (N : Nat) (p0 : Int) (r : Bool) (h : Sh.mix_Goal_1 N p0 = some r) : Contract Try.prog 57 [.e (.one (.pure (.val (.int .i64 p0))))] [] (.e (.one (.pure (.val (.bool r))))) := by
  unfold Sh.mix_Goal_1 at h
  refine contract_of_W (n := 5) (rs := [.tmp 2]) Try.func57 rfl rfl rfl (leb rfl) rfl fun w0 S0 => ?_
  refine W_seq ?_
  refine W_region mixed rfl ?_
  refine r_assign (.p rfl) rfl ?_
  refine r_end ?_
  refine W_seq ?_
  refine W_region mixed rfl ?_
  refine r_move (.p rfl) rfl ?_
  refine r_bin (.p rfl) rfl rfl (bin_geq _ _ _ _ _ _) rfl ?_
  refine r_assign (.p rfl) rfl ?_
  refine r_end ?_
  obtain rfl := Option.some.inj h
  refine W_sees (sees_mk (rn []) [(2, .e (.one (.pure (.val (.bool ((decide (0 ≤ p0))))))))] [] ⟨rfl, trivial⟩ trivial rfl rfl) (W_ret ?_)
  exact ⟨⟨[_], ⟨.tmp _ _ rfl, trivial⟩, rfl⟩, trivial⟩

set_option maxRecDepth 10000 in
theorem mix_Goal_c (N : Nat) (p0 : ApiProblem) (p1 : ApiMix) (r : Bool) (h : Sh.mix_Goal N p0 p1 = some r) : Contract Try.prog 31 [.e (.agg [.pure (.sl (p0.fVersions.map eI64)), .pure (.sl (p0.fNow.map eI64)), .pure (.sl (p0.fTarget.map eI64)), .pure (.sl (p0.fTables.map eApiTable))]), .e (.agg [.pure (.sl (p1.fBase.map eI64)), .pure (.sl (p1.fNext.map eI64)), .pure (.sl (p1.fHeld.map eU8))])] [] (.e (.one (.pure (.val (.bool r))))) := by
  unfold Sh.mix_Goal at h
  refine contract_of_W (n := 22) (rs := [.tmp 4]) Try.func31 rfl rfl rfl (leb rfl) rfl fun w0 S0 => ?_
  refine W_seq ?_
  refine W_region mixed rfl ?_
  refine r_box (.p rfl) rfl rfl ?_
  refine r_box (.p rfl) rfl rfl ?_
  refine r_assign (.p rfl) rfl ?_
  refine r_end ?_
  refine W_join h (fun v1 => mk [(4, .e (.one (.pure (.val (.bool v1)))))] []) (fun j1 h => ?_) (fun v1 h => ?_)
  · refine W_region mixed rfl ?_
    refine r_loadN (.p rfl) rfl ag31 sz31 rfl rfl rfl ?_
    refine r_loadN (.p rfl) rfl ag37 sz37 rfl rfl rfl ?_
    obtain ⟨v2, a2, h⟩ := bind_some h
    refine r_call (ds0 := [_, _]) [] (mix_Valid_c N p0 p1 v2 a2) (.p rfl) gd30 rfl ⟨rfl, rfl, trivial⟩ rfl rfl rfl (nodupB_spec rfl) trivial rfl ?_
    refine r_bin (.p rfl) rfl rfl (bin_eql _ _ _ _ _ _) rfl ?_
    refine r_move (.p rfl) rfl ?_
    refine r_split (t := 9) rfl (fun c3 => ?_) (fun c3 => ?_)
    · have h := cnd_t c3 h
      refine r_fieldAddr (.g rfl rfl) rfl fld37_0 ?_
      refine r_load1 (.g rfl rfl) rfl ag28 rfl rfl ?_
      refine r_fieldAddr (.g rfl rfl) rfl fld31_2 ?_
      refine r_load1 (.g rfl rfl) rfl ag28 rfl rfl ?_
      obtain ⟨v4, a4, h⟩ := bind_some h
      refine r_call (ds0 := [_, _]) [] (slices_Equal_int_int_c N p1.fBase p0.fTarget v4 a4) (.g rfl rfl) gd55 rfl ⟨rfl, rfl, trivial⟩ rfl rfl rfl (nodupB_spec rfl) trivial rfl ?_
      refine r_pick (.p rfl) rfl rfl rfl ?_
      refine r_move (.p rfl) rfl ?_
      refine r_split (t := 16) rfl (fun c5 => ?_) (fun c5 => ?_)
      · have h := cnd_t c5 h
        refine r_fieldAddr (.g rfl rfl) rfl fld37_1 ?_
        refine r_load1 (.g rfl rfl) rfl ag28 rfl rfl ?_
        obtain ⟨v6, a6, h⟩ := bind_some h
        refine r_call (ds0 := [_, _]) [] (Contract.weak (ds' := [.e (.one (.pure (.sl (p1.fNext.map eI64)))), .e (.one (.fnc 57))]) (slices_ContainsFunc_int_int_c N p1.fNext ((fun (x : Int) => Sh.mix_Goal_1 N x)) v6 a6) ⟨(fun _ _ _ hh => hh), (fun _ _ _ hh => fnc_clo gd57 (fun ar t ht => by obtain ⟨x, r, rfl, hq, rfl⟩ := cloG_some ht; exact mix_Goal_1_c N x r hq) hh), trivial⟩) (.g rfl rfl) gd56 rfl ⟨rfl, rfl, trivial⟩ rfl rfl rfl (nodupB_spec rfl) trivial rfl ?_
        refine r_un (.g rfl rfl) rfl (un_not _) rfl ?_
        refine r_pick (.p rfl) rfl rfl rfl ?_
        refine r_assign (.p rfl) rfl ?_
        refine r_end ?_
        exact sink (!v6) h (sees_mk (rn []) _ _ ⟨rfl, trivial⟩ trivial rfl rfl)
      · have h := cnd_f c5 h
        refine r_notB rfl rfl ?_
        refine r_notB rfl rfl ?_
        refine r_notB rfl rfl ?_
        refine r_notB rfl rfl ?_
        refine r_pick (.p rfl) rfl rfl rfl ?_
        refine r_assign (.p rfl) rfl ?_
        refine r_end ?_
        exact sink false h (sees_mk (rn []) _ _ ⟨rfl, trivial⟩ trivial rfl rfl)
    · have h := cnd_f c3 h
      refine r_notB rfl rfl ?_
      refine r_notB rfl rfl ?_
      refine r_notB rfl rfl ?_
      refine r_notB rfl rfl ?_
      refine r_notB rfl rfl ?_
      refine r_pick (.p rfl) rfl rfl rfl ?_
      refine r_move (.p rfl) rfl ?_
      refine r_notB rfl rfl ?_
      refine r_notB rfl rfl ?_
      refine r_notB rfl rfl ?_
      refine r_notB rfl rfl ?_
      refine r_pick (.p rfl) rfl rfl rfl ?_
      refine r_assign (.p rfl) rfl ?_
      refine r_end ?_
      exact sink false h (sees_mk (rn []) _ _ ⟨rfl, trivial⟩ trivial rfl rfl)
  · obtain rfl := Option.some.inj h
    refine W_sees (sees_mk (rn []) [(4, .e (.one (.pure (.val (.bool v1)))))] [] ⟨rfl, trivial⟩ trivial rfl rfl) (W_ret ?_)
    exact ⟨⟨[_], ⟨.tmp _ _ rfl, trivial⟩, rfl⟩, trivial⟩

set_option maxRecDepth 10000 in
theorem sheavelaw36_MixValid_c (N : Nat) (p0 : ApiProblem) (p1 : ApiMix) (r : Bool) (h : Sh.sheavelaw36_MixValid N p0 p1 = some r) : Contract Try.prog 7 [.e (.agg [.pure (.sl (p0.fVersions.map eI64)), .pure (.sl (p0.fNow.map eI64)), .pure (.sl (p0.fTarget.map eI64)), .pure (.sl (p0.fTables.map eApiTable))]), .e (.agg [.pure (.sl (p1.fBase.map eI64)), .pure (.sl (p1.fNext.map eI64)), .pure (.sl (p1.fHeld.map eU8))])] [] (.e (.one (.pure (.val (.bool r))))) := by
  unfold Sh.sheavelaw36_MixValid at h
  refine contract_of_W (n := 133) (rs := [.tmp 4]) Try.func7 rfl rfl rfl (leb rfl) rfl fun w0 S0 => ?_
  refine W_seq ?_
  refine W_region mixed rfl ?_
  refine r_box (.p rfl) rfl rfl ?_
  refine r_box (.p rfl) rfl rfl ?_
  refine r_assign (.p rfl) rfl ?_
  refine r_end ?_
  refine W_seq ?_
  refine W_join h (fun v1 => mk [(2, .e (.one (.ptr 2 0))), (3, .e (.one (.ptr 3 0))), (29, .e (.one (.pure (.val (.bool v1)))))] [(2, .box [.pure (.sl (p0.fVersions.map eI64)), .pure (.sl (p0.fNow.map eI64)), .pure (.sl (p0.fTarget.map eI64)), .pure (.sl (p0.fTables.map eApiTable))]), (3, .box [.pure (.sl (p1.fBase.map eI64)), .pure (.sl (p1.fNext.map eI64)), .pure (.sl (p1.fHeld.map eU8))])]) (fun j1 h => ?_) (fun v1 h => ?_)
  · refine W_region mixed rfl ?_
    obtain ⟨v2, a2, h⟩ := bind_some h
    refine r_call (ds0 := []) [] (sheavelaw36_awake_c N v2 a2) (.p rfl) gd12 rfl trivial rfl rfl rfl (nodupB_spec rfl) trivial rfl ?_
    refine r_un (.p rfl) rfl (un_not _) rfl ?_
    refine r_move (.p rfl) rfl ?_
    refine r_split (t := 20) rfl (fun c3 => ?_) (fun c3 => ?_)
    · have h := cnd_t c3 h
      refine r_notB rfl rfl ?_
      refine r_notB rfl rfl ?_
      refine r_notB rfl rfl ?_
      refine r_pick (.p rfl) rfl rfl rfl ?_
      refine r_move (.p rfl) rfl ?_
      refine r_notB rfl rfl ?_
      refine r_notB rfl rfl ?_
      refine r_notB rfl rfl ?_
      refine r_pick (.p rfl) rfl rfl rfl ?_
      refine r_end ?_
      exact sink true h (sees_mk (rn []) _ _ ⟨rfl, rfl, rfl, trivial⟩ ⟨rfl, rfl, trivial⟩ rfl rfl)
    · have h := cnd_f c3 h
      refine r_loadN (.g rfl rfl) rfl ag31 sz31 rfl rfl rfl ?_
      obtain ⟨v4, a4, h⟩ := bind_some h
      refine r_call (ds0 := [_]) [] (sheaveref35_Few_c N p0 v4 a4) (.g rfl rfl) gd27 rfl ⟨rfl, trivial⟩ rfl rfl rfl (nodupB_spec rfl) trivial rfl ?_
      refine r_un (.g rfl rfl) rfl (un_not _) rfl ?_
      refine r_pick (.p rfl) rfl rfl rfl ?_
      refine r_move (.p rfl) rfl ?_
      refine r_split (t := 25) rfl (fun c5 => ?_) (fun c5 => ?_)
      · have h := cnd_t c5 h
        refine r_notB rfl rfl ?_
        refine r_notB rfl rfl ?_
        refine r_notB rfl rfl ?_
        refine r_pick (.p rfl) rfl rfl rfl ?_
        refine r_end ?_
        exact sink true h (sees_mk (rn []) _ _ ⟨rfl, rfl, rfl, trivial⟩ ⟨rfl, rfl, trivial⟩ rfl rfl)
      · have h := cnd_f c5 h
        refine r_loadN (.g rfl rfl) rfl ag37 sz37 rfl rfl rfl ?_
        obtain ⟨v6, a6, h⟩ := bind_some h
        refine r_call (ds0 := [_]) [] (sheaveref36_Few_c N p1 v6 a6) (.g rfl rfl) gd28 rfl ⟨rfl, trivial⟩ rfl rfl rfl (nodupB_spec rfl) trivial rfl ?_
        refine r_un (.g rfl rfl) rfl (un_not _) rfl ?_
        refine r_pick (.p rfl) rfl rfl rfl ?_
        refine r_end ?_
        exact sink (!v6) h (sees_mk (rn []) _ _ ⟨rfl, rfl, rfl, trivial⟩ ⟨rfl, rfl, trivial⟩ rfl rfl)
  · refine W_cond rfl (fun c7 => ?_) (fun c7 => ?_)
    · have h := cnd_t c7 h
      refine W_seq ?_
      refine W_region mixed rfl ?_
      obtain ⟨v8, a8, h⟩ := bind_some h
      refine r_call (ds0 := []) [] (sheavelaw36_awake_c N v8 a8) (.p rfl) gd12 rfl trivial rfl rfl rfl (nodupB_spec rfl) trivial rfl ?_
      refine r_assign (.p rfl) rfl ?_
      refine r_end ?_
      obtain rfl := Option.some.inj h
      refine W_sees (sees_mk (rn []) [(4, .e (.one (.pure (.val (.bool v8)))))] [] ⟨rfl, trivial⟩ trivial rfl rfl) (W_ret ?_)
      exact ⟨⟨[_], ⟨.tmp _ _ rfl, trivial⟩, rfl⟩, trivial⟩
    · have h := cnd_f c7 h
      refine W_skip ?_
      refine W_seq ?_
      refine W_region mixed rfl ?_
      refine r_loadN (.p rfl) rfl ag31 sz31 rfl rfl rfl ?_
      refine r_loadN (.p rfl) rfl ag37 sz37 rfl rfl rfl ?_
      obtain ⟨v9, a9, h⟩ := bind_some h
      refine r_call (ds0 := [_, _]) [] (sheaveref36_Valid_c N p0 p1 v9 a9) (.p rfl) gd29 rfl ⟨rfl, rfl, trivial⟩ rfl rfl rfl (nodupB_spec rfl) trivial rfl ?_
      refine r_assign (.p rfl) rfl ?_
      refine r_end ?_
      refine W_seq ?_
      refine W_seq ?_
      refine W_region mixed rfl ?_
      refine r_loadN (.p rfl) rfl ag31 sz31 rfl rfl rfl ?_
      refine r_loadN (.p rfl) rfl ag37 sz37 rfl rfl rfl ?_
      obtain ⟨v10, a10, h⟩ := bind_some h
      refine r_call (ds0 := [_, _]) [] (mix_Valid_c N p0 p1 v10 a10) (.p rfl) gd30 rfl ⟨rfl, rfl, trivial⟩ rfl rfl rfl (nodupB_spec rfl) trivial rfl ?_
      refine r_assign (.p rfl) rfl ?_
      refine r_end ?_
      refine W_join h (fun v11 => mk [(2, .e (.one (.ptr 2 0))), (3, .e (.one (.ptr 3 0))), (5, .e (.one (.pure (.val (.int .i64 v9))))), (6, .e (.one (.pure (.val (.int .i64 v10))))), (43, .e (.one (.pure (.val (.bool v11)))))] [(2, .box [.pure (.sl (p0.fVersions.map eI64)), .pure (.sl (p0.fNow.map eI64)), .pure (.sl (p0.fTarget.map eI64)), .pure (.sl (p0.fTables.map eApiTable))]), (3, .box [.pure (.sl (p1.fBase.map eI64)), .pure (.sl (p1.fNext.map eI64)), .pure (.sl (p1.fHeld.map eU8))])]) (fun j11 h => ?_) (fun v11 h => ?_)
      · refine W_region mixed rfl ?_
        refine r_move (.p rfl) rfl ?_
        refine r_move (.p rfl) rfl ?_
        refine r_bin (.p rfl) rfl rfl (bin_neq _ _ _ _ _ _) rfl ?_
        refine r_move (.p rfl) rfl ?_
        refine r_split (t := 40) rfl (fun c12 => ?_) (fun c12 => ?_)
        · have h := cnd_t c12 h
          refine r_notB rfl rfl ?_
          refine r_notB rfl rfl ?_
          refine r_pick (.p rfl) rfl rfl rfl ?_
          refine r_end ?_
          exact sink true h (sees_mk (rn []) _ _ ⟨rfl, rfl, rfl, rfl, rfl, trivial⟩ ⟨rfl, rfl, trivial⟩ rfl rfl)
        · have h := cnd_f c12 h
          refine r_move (.g rfl rfl) rfl ?_
          refine r_bin (.g rfl rfl) rfl rfl (bin_eql _ _ _ _ _ _) rfl ?_
          refine r_pick (.p rfl) rfl rfl rfl ?_
          refine r_end ?_
          exact sink (v10 == 0) h (sees_mk (rn []) _ _ ⟨rfl, rfl, rfl, rfl, rfl, trivial⟩ ⟨rfl, rfl, trivial⟩ rfl rfl)
      · refine W_cond rfl (fun c13 => ?_) (fun c13 => ?_)
        · have h := cnd_t c13 h
          refine W_seq ?_
          refine W_region mixed rfl ?_
          refine r_move (.p rfl) rfl ?_
          refine r_move (.p rfl) rfl ?_
          refine r_bin (.p rfl) rfl rfl (bin_eql _ _ _ _ _ _) rfl ?_
          refine r_assign (.p rfl) rfl ?_
          refine r_end ?_
          obtain rfl := Option.some.inj h
          refine W_sees (sees_mk (rn []) [(4, .e (.one (.pure (.val (.bool ((v10 == v9)))))))] [] ⟨rfl, trivial⟩ trivial rfl rfl) (W_ret ?_)
          exact ⟨⟨[_], ⟨.tmp _ _ rfl, trivial⟩, rfl⟩, trivial⟩
        · have h := cnd_f c13 h
          refine W_skip ?_
          refine W_seq ?_
          refine W_region mixed rfl ?_
          refine r_loadN (.p rfl) rfl ag31 sz31 rfl rfl rfl ?_
          refine r_loadN (.p rfl) rfl ag37 sz37 rfl rfl rfl ?_
          obtain ⟨v14, a14, h⟩ := bind_some h
          refine r_call (ds0 := [_, _]) [2001] (mix_Conflicts_c N p0 p1 v14 a14) (.p rfl) gd14 rfl ⟨rfl, rfl, trivial⟩ rfl rfl rfl (nodupB_spec rfl) ⟨rfl, trivial⟩ rfl ?_
          refine r_move (.p rfl) rfl ?_
          refine r_extract (.p rfl) rfl rfl ?_
          refine r_extract (.p rfl) rfl rfl ?_
          refine r_assign (.p rfl) rfl ?_
          refine r_assign (.p rfl) rfl ?_
          refine r_end ?_
          refine W_seq ?_
          refine W_region mixed rfl ?_
          refine r_loadN (.p rfl) rfl ag31 sz31 rfl rfl rfl ?_
          refine r_loadN (.p rfl) rfl ag37 sz37 rfl rfl rfl ?_
          obtain ⟨v15, a15, h⟩ := bind_some h
          refine r_call (ds0 := [_, _]) [] (mix_Safe_c N p0 p1 v15 a15) (.p rfl) gd15 rfl ⟨rfl, rfl, trivial⟩ rfl rfl rfl (nodupB_spec rfl) trivial rfl ?_
          refine r_move (.p rfl) rfl ?_
          refine r_extract (.p rfl) rfl rfl ?_
          refine r_extract (.p rfl) rfl rfl ?_
          refine r_assign (.p rfl) rfl ?_
          refine r_assign (.p rfl) rfl ?_
          refine r_end ?_
          refine W_seq ?_
          refine W_region mixed rfl ?_
          refine r_loadN (.p rfl) rfl ag31 sz31 rfl rfl rfl ?_
          refine r_loadN (.p rfl) rfl ag37 sz37 rfl rfl rfl ?_
          obtain ⟨v16, a16, h⟩ := bind_some h
          refine r_call (ds0 := [_, _]) [2002] (mix_Aborts_c N p0 p1 v16 a16) (.p rfl) gd18 rfl ⟨rfl, rfl, trivial⟩ rfl rfl rfl (nodupB_spec rfl) ⟨rfl, trivial⟩ rfl ?_
          refine r_move (.p rfl) rfl ?_
          refine r_extract (.p rfl) rfl rfl ?_
          refine r_extract (.p rfl) rfl rfl ?_
          refine r_assign (.p rfl) rfl ?_
          refine r_assign (.p rfl) rfl ?_
          refine r_end ?_
          refine W_seq ?_
          refine W_region mixed rfl ?_
          refine r_loadN (.p rfl) rfl ag31 sz31 rfl rfl rfl ?_
          refine r_loadN (.p rfl) rfl ag37 sz37 rfl rfl rfl ?_
          obtain ⟨v17, a17, h⟩ := bind_some h
          refine r_call (ds0 := [_, _]) [] (mix_Robust_c N p0 p1 v17 a17) (.p rfl) gd19 rfl ⟨rfl, rfl, trivial⟩ rfl rfl rfl (nodupB_spec rfl) trivial rfl ?_
          refine r_move (.p rfl) rfl ?_
          refine r_extract (.p rfl) rfl rfl ?_
          refine r_extract (.p rfl) rfl rfl ?_
          refine r_assign (.p rfl) rfl ?_
          refine r_assign (.p rfl) rfl ?_
          refine r_end ?_
          refine W_seq ?_
          refine W_region mixed rfl ?_
          refine r_loadN (.p rfl) rfl ag31 sz31 rfl rfl rfl ?_
          refine r_loadN (.p rfl) rfl ag37 sz37 rfl rfl rfl ?_
          obtain ⟨v18, a18, h⟩ := bind_some h
          refine r_call (ds0 := [_, _]) [] (mix_Blame_c N p0 p1 v18 a18) (.p rfl) gd20 rfl ⟨rfl, rfl, trivial⟩ rfl rfl rfl (nodupB_spec rfl) trivial rfl ?_
          refine r_move (.p rfl) rfl ?_
          refine r_extract (.p rfl) rfl rfl ?_
          refine r_extract (.p rfl) rfl rfl ?_
          refine r_extract (.p rfl) rfl rfl ?_
          refine r_alloc (.p rfl) zv37 rfl rfl rfl ?_
          refine r_alloc (.p rfl) zv52 rfl rfl rfl ?_
          refine r_store rfl rfl rfl rfl sz37 rfl (leb rfl) rfl ?_
          refine r_store rfl rfl rfl rfl sz52 rfl (leb rfl) rfl ?_
          refine r_assign (.p rfl) rfl ?_
          refine r_end ?_
          refine W_join h (fun v19 => mk [(4, .e (.one (.pure (.val (.bool v19)))))] []) (fun j19 h => ?_) (fun v19 h => ?_)
          · refine W_region mixed rfl ?_
            refine r_move (.p rfl) rfl ?_
            refine r_move (.p rfl) rfl ?_
            refine r_bin (.p rfl) rfl rfl (bin_eql _ _ _ _ _ _) rfl ?_
            refine r_move (.p rfl) rfl ?_
            refine r_split (t := 81) rfl (fun c20 => ?_) (fun c20 => ?_)
            · have h := cnd_t c20 h
              refine r_move (.g rfl rfl) rfl ?_
              refine r_move (.g rfl rfl) rfl ?_
              refine r_bin (.g rfl rfl) rfl rfl (bin_eql _ _ _ _ _ _) rfl ?_
              refine r_pick (.p rfl) rfl rfl rfl ?_
              refine r_move (.p rfl) rfl ?_
              refine r_split (t := 86) rfl (fun c21 => ?_) (fun c21 => ?_)
              · have h := cnd_t c21 h
                refine r_move (.g rfl rfl) rfl ?_
                refine r_move (.g rfl rfl) rfl ?_
                refine r_bin (.g rfl rfl) rfl rfl (bin_eql _ _ _ _ _ _) rfl ?_
                refine r_pick (.p rfl) rfl rfl rfl ?_
                refine r_move (.p rfl) rfl ?_
                refine r_split (t := 91) rfl (fun c22 => ?_) (fun c22 => ?_)
                · have h := cnd_t c22 h
                  refine r_move (.g rfl rfl) rfl ?_
                  refine r_move (.g rfl rfl) rfl ?_
                  refine r_bin (.g rfl rfl) rfl rfl (bin_eql _ _ _ _ _ _) rfl ?_
                  refine r_pick (.p rfl) rfl rfl rfl ?_
                  refine r_move (.p rfl) rfl ?_
                  refine r_split (t := 96) rfl (fun c23 => ?_) (fun c23 => ?_)
                  · have h := cnd_t c23 h
                    refine r_move (.g rfl rfl) rfl ?_
                    refine r_move (.g rfl rfl) rfl ?_
                    refine r_bin (.g rfl rfl) rfl rfl (bin_eql _ _ _ _ _ _) rfl ?_
                    refine r_pick (.p rfl) rfl rfl rfl ?_
                    refine r_move (.p rfl) rfl ?_
                    refine r_split (t := 101) rfl (fun c24 => ?_) (fun c24 => ?_)
                    · have h := cnd_t c24 h
                      refine r_move (.g rfl rfl) rfl ?_
                      refine r_len (.g rfl rfl) rfl (.own _ _ _) ⟨rfl, trivial⟩ (List.length_map _) slc39 ?_
                      refine r_move (.g rfl rfl) rfl ?_
                      refine r_len (.g rfl rfl) rfl (.own _ _ _) ⟨rfl, trivial⟩ (List.length_map _) slc48 ?_
                      refine r_bin (.g rfl rfl) rfl rfl (bin_add _ _ _ _ _ _) rfl ?_
                      refine r_bin (.g rfl rfl) rfl rfl (bin_eql _ _ _ _ _ _) rfl ?_
                      refine r_pick (.p rfl) rfl rfl rfl ?_
                      refine r_move (.p rfl) rfl ?_
                      refine r_split (t := 109) rfl (fun c25 => ?_) (fun c25 => ?_)
                      · have h := cnd_t c25 h
                        refine r_move (.g rfl rfl) rfl ?_
                        refine r_un (.g rfl rfl) rfl (un_not _) rfl ?_
                        refine r_pick (.p rfl) rfl rfl rfl ?_
                        refine r_move (.p rfl) rfl ?_
                        refine r_split (t := 113) rfl (fun c26 => ?_) (fun c26 => ?_)
                        · have h := cnd_t c26 h
                          refine r_move (.g rfl rfl) rfl ?_
                          refine r_un (.g rfl rfl) rfl (un_not _) rfl ?_
                          refine r_pick (.p rfl) rfl rfl rfl ?_
                          refine r_move (.p rfl) rfl ?_
                          refine r_split (t := 117) rfl (fun c27 => ?_) (fun c27 => ?_)
                          · have h := cnd_t c27 h
                            refine r_loadN (.g rfl rfl) rfl ag37 sz37 rfl rfl rfl ?_
                            refine r_build [] (.g rfl rfl) rfl trivial zv37 rfl rfl pl37 rfl ?_
                            obtain ⟨v28, a28, h⟩ := bind_some h
                            refine r_call (ds0 := [_, _]) [] (sheaveref36_Equal_c N v18.1 ((ApiMix.mk (([] : List Int)) (([] : List Int)) (([] : List Int)))) v28 a28) (.g rfl rfl) gd25 rfl ⟨rfl, rfl, trivial⟩ rfl rfl rfl (nodupB_spec rfl) trivial rfl ?_
                            refine r_pick (.p rfl) rfl rfl rfl ?_
                            refine r_move (.p rfl) rfl ?_
                            refine r_split (t := 122) rfl (fun c29 => ?_) (fun c29 => ?_)
                            · have h := cnd_t c29 h
                              refine r_loadN (.g rfl rfl) rfl ag52 sz52 rfl rfl rfl ?_
                              refine r_build [] (.g rfl rfl) rfl trivial zv52 rfl rfl pl52 rfl ?_
                              refine r_eqA [.int .i64 v18.2.1.fTable, .int .i64 v18.2.1.fWriter, .int .i64 v18.2.1.fReader] [.int .i64 0, .int .i64 0, .int .i64 0] (.g rfl rfl) rfl rfl seq52 rfl ?_
                              refine r_pick (.p rfl) rfl rfl rfl ?_
                              refine r_move (.p rfl) rfl ?_
                              refine r_split (t := 127) rfl (fun c30 => ?_) (fun c30 => ?_)
                              · have h := cnd_t c30 h
                                refine r_loadN (.g rfl rfl) rfl ag31 sz31 rfl rfl rfl ?_
                                refine r_loadN (.g rfl rfl) rfl ag37 sz37 rfl rfl rfl ?_
                                obtain ⟨v31, a31, h⟩ := bind_some h
                                refine r_call (ds0 := [_, _]) [] (mix_Goal_c N p0 p1 v31 a31) (.g rfl rfl) gd31 rfl ⟨rfl, rfl, trivial⟩ rfl rfl rfl (nodupB_spec rfl) trivial rfl ?_
                                refine r_un (.g rfl rfl) rfl (un_not _) rfl ?_
                                refine r_pick (.p rfl) rfl rfl rfl ?_
                                refine r_assign (.p rfl) rfl ?_
                                refine r_end ?_
                                exact sink (!v31) h (sees_mk (rn []) _ _ ⟨rfl, trivial⟩ trivial rfl rfl)
                              · have h := cnd_f c30 h
                                refine r_notB rfl rfl ?_
                                refine r_notB rfl rfl ?_
                                refine r_notB rfl rfl ?_
                                refine r_notB rfl rfl ?_
                                refine r_pick (.p rfl) rfl rfl rfl ?_
                                refine r_assign (.p rfl) rfl ?_
                                refine r_end ?_
                                exact sink false h (sees_mk (rn []) _ _ ⟨rfl, trivial⟩ trivial rfl rfl)
                            · have h := cnd_f c29 h
                              refine r_notB rfl rfl ?_
                              refine r_notB rfl rfl ?_
                              refine r_notB rfl rfl ?_
                              refine r_pick (.p rfl) rfl rfl rfl ?_
                              refine r_move (.p rfl) rfl ?_
                              refine r_notB rfl rfl ?_
                              refine r_notB rfl rfl ?_
                              refine r_notB rfl rfl ?_
                              refine r_notB rfl rfl ?_
                              refine r_pick (.p rfl) rfl rfl rfl ?_
                              refine r_assign (.p rfl) rfl ?_
                              refine r_end ?_
                              exact sink false h (sees_mk (rn []) _ _ ⟨rfl, trivial⟩ trivial rfl rfl)
                          · have h := cnd_f c27 h
                            refine r_notB rfl rfl ?_
                            refine r_notB rfl rfl ?_
                            refine r_notB rfl rfl ?_
                            refine r_pick (.p rfl) rfl rfl rfl ?_
                            refine r_move (.p rfl) rfl ?_
                            refine r_notB rfl rfl ?_
                            refine r_notB rfl rfl ?_
                            refine r_notB rfl rfl ?_
                            refine r_pick (.p rfl) rfl rfl rfl ?_
                            refine r_move (.p rfl) rfl ?_
                            refine r_notB rfl rfl ?_
                            refine r_notB rfl rfl ?_
                            refine r_notB rfl rfl ?_
                            refine r_notB rfl rfl ?_
                            refine r_pick (.p rfl) rfl rfl rfl ?_
                            refine r_assign (.p rfl) rfl ?_
                            refine r_end ?_
                            exact sink false h (sees_mk (rn []) _ _ ⟨rfl, trivial⟩ trivial rfl rfl)
                        · have h := cnd_f c26 h
                          refine r_notB rfl rfl ?_
                          refine r_notB rfl rfl ?_
                          refine r_pick (.p rfl) rfl rfl rfl ?_
                          refine r_move (.p rfl) rfl ?_
                          refine r_notB rfl rfl ?_
                          refine r_notB rfl rfl ?_
                          refine r_notB rfl rfl ?_
                          refine r_pick (.p rfl) rfl rfl rfl ?_
                          refine r_move (.p rfl) rfl ?_
                          refine r_notB rfl rfl ?_
                          refine r_notB rfl rfl ?_
                          refine r_notB rfl rfl ?_
                          refine r_pick (.p rfl) rfl rfl rfl ?_
                          refine r_move (.p rfl) rfl ?_
                          refine r_notB rfl rfl ?_
                          refine r_notB rfl rfl ?_
                          refine r_notB rfl rfl ?_
                          refine r_notB rfl rfl ?_
                          refine r_pick (.p rfl) rfl rfl rfl ?_
                          refine r_assign (.p rfl) rfl ?_
                          refine r_end ?_
                          exact sink false h (sees_mk (rn []) _ _ ⟨rfl, trivial⟩ trivial rfl rfl)
                      · have h := cnd_f c25 h
                        refine r_notB rfl rfl ?_
                        refine r_notB rfl rfl ?_
                        refine r_pick (.p rfl) rfl rfl rfl ?_
                        refine r_move (.p rfl) rfl ?_
                        refine r_notB rfl rfl ?_
                        refine r_notB rfl rfl ?_
                        refine r_pick (.p rfl) rfl rfl rfl ?_
                        refine r_move (.p rfl) rfl ?_
                        refine r_notB rfl rfl ?_
                        refine r_notB rfl rfl ?_
                        refine r_notB rfl rfl ?_
                        refine r_pick (.p rfl) rfl rfl rfl ?_
                        refine r_move (.p rfl) rfl ?_
                        refine r_notB rfl rfl ?_
                        refine r_notB rfl rfl ?_
                        refine r_notB rfl rfl ?_
                        refine r_pick (.p rfl) rfl rfl rfl ?_
                        refine r_move (.p rfl) rfl ?_
                        refine r_notB rfl rfl ?_
                        refine r_notB rfl rfl ?_
                        refine r_notB rfl rfl ?_
                        refine r_notB rfl rfl ?_
                        refine r_pick (.p rfl) rfl rfl rfl ?_
                        refine r_assign (.p rfl) rfl ?_
                        refine r_end ?_
                        exact sink false h (sees_mk (rn []) _ _ ⟨rfl, trivial⟩ trivial rfl rfl)
                    · have h := cnd_f c24 h
                      refine r_notB rfl rfl ?_
                      refine r_notB rfl rfl ?_
                      refine r_notB rfl rfl ?_
                      refine r_notB rfl rfl ?_
                      refine r_notB rfl rfl ?_
                      refine r_notB rfl rfl ?_
                      refine r_pick (.p rfl) rfl rfl rfl ?_
                      refine r_move (.p rfl) rfl ?_
                      refine r_notB rfl rfl ?_
                      refine r_notB rfl rfl ?_
                      refine r_pick (.p rfl) rfl rfl rfl ?_
                      refine r_move (.p rfl) rfl ?_
                      refine r_notB rfl rfl ?_
                      refine r_notB rfl rfl ?_
                      refine r_pick (.p rfl) rfl rfl rfl ?_
                      refine r_move (.p rfl) rfl ?_
                      refine r_notB rfl rfl ?_
                      refine r_notB rfl rfl ?_
                      refine r_notB rfl rfl ?_
                      refine r_pick (.p rfl) rfl rfl rfl ?_
                      refine r_move (.p rfl) rfl ?_
                      refine r_notB rfl rfl ?_
                      refine r_notB rfl rfl ?_
                      refine r_notB rfl rfl ?_
                      refine r_pick (.p rfl) rfl rfl rfl ?_
                      refine r_move (.p rfl) rfl ?_
                      refine r_notB rfl rfl ?_
                      refine r_notB rfl rfl ?_
                      refine r_notB rfl rfl ?_
                      refine r_notB rfl rfl ?_
                      refine r_pick (.p rfl) rfl rfl rfl ?_
                      refine r_assign (.p rfl) rfl ?_
                      refine r_end ?_
                      exact sink false h (sees_mk (rn []) _ _ ⟨rfl, trivial⟩ trivial rfl rfl)
                  · have h := cnd_f c23 h
                    refine r_notB rfl rfl ?_
                    refine r_notB rfl rfl ?_
                    refine r_notB rfl rfl ?_
                    refine r_pick (.p rfl) rfl rfl rfl ?_
                    refine r_move (.p rfl) rfl ?_
                    refine r_notB rfl rfl ?_
                    refine r_notB rfl rfl ?_
                    refine r_notB rfl rfl ?_
                    refine r_notB rfl rfl ?_
                    refine r_notB rfl rfl ?_
                    refine r_notB rfl rfl ?_
                    refine r_pick (.p rfl) rfl rfl rfl ?_
                    refine r_move (.p rfl) rfl ?_
                    refine r_notB rfl rfl ?_
                    refine r_notB rfl rfl ?_
                    refine r_pick (.p rfl) rfl rfl rfl ?_
                    refine r_move (.p rfl) rfl ?_
                    refine r_notB rfl rfl ?_
                    refine r_notB rfl rfl ?_
                    refine r_pick (.p rfl) rfl rfl rfl ?_
                    refine r_move (.p rfl) rfl ?_
                    refine r_notB rfl rfl ?_
                    refine r_notB rfl rfl ?_
                    refine r_notB rfl rfl ?_
                    refine r_pick (.p rfl) rfl rfl rfl ?_
                    refine r_move (.p rfl) rfl ?_
                    refine r_notB rfl rfl ?_
                    refine r_notB rfl rfl ?_
                    refine r_notB rfl rfl ?_
                    refine r_pick (.p rfl) rfl rfl rfl ?_
                    refine r_move (.p rfl) rfl ?_
                    refine r_notB rfl rfl ?_
                    refine r_notB rfl rfl ?_
                    refine r_notB rfl rfl ?_
                    refine r_notB rfl rfl ?_
                    refine r_pick (.p rfl) rfl rfl rfl ?_
                    refine r_assign (.p rfl) rfl ?_
                    refine r_end ?_
                    exact sink false h (sees_mk (rn []) _ _ ⟨rfl, trivial⟩ trivial rfl rfl)
                · have h := cnd_f c22 h
                  refine r_notB rfl rfl ?_
                  refine r_notB rfl rfl ?_
                  refine r_notB rfl rfl ?_
                  refine r_pick (.p rfl) rfl rfl rfl ?_
                  refine r_move (.p rfl) rfl ?_
                  refine r_notB rfl rfl ?_
                  refine r_notB rfl rfl ?_
                  refine r_notB rfl rfl ?_
                  refine r_pick (.p rfl) rfl rfl rfl ?_
                  refine r_move (.p rfl) rfl ?_
                  refine r_notB rfl rfl ?_
                  refine r_notB rfl rfl ?_
                  refine r_notB rfl rfl ?_
                  refine r_notB rfl rfl ?_
                  refine r_notB rfl rfl ?_
                  refine r_notB rfl rfl ?_
                  refine r_pick (.p rfl) rfl rfl rfl ?_
                  refine r_move (.p rfl) rfl ?_
                  refine r_notB rfl rfl ?_
                  refine r_notB rfl rfl ?_
                  refine r_pick (.p rfl) rfl rfl rfl ?_
                  refine r_move (.p rfl) rfl ?_
                  refine r_notB rfl rfl ?_
                  refine r_notB rfl rfl ?_
                  refine r_pick (.p rfl) rfl rfl rfl ?_
                  refine r_move (.p rfl) rfl ?_
                  refine r_notB rfl rfl ?_
                  refine r_notB rfl rfl ?_
                  refine r_notB rfl rfl ?_
                  refine r_pick (.p rfl) rfl rfl rfl ?_
                  refine r_move (.p rfl) rfl ?_
                  refine r_notB rfl rfl ?_
                  refine r_notB rfl rfl ?_
                  refine r_notB rfl rfl ?_
                  refine r_pick (.p rfl) rfl rfl rfl ?_
                  refine r_move (.p rfl) rfl ?_
                  refine r_notB rfl rfl ?_
                  refine r_notB rfl rfl ?_
                  refine r_notB rfl rfl ?_
                  refine r_notB rfl rfl ?_
                  refine r_pick (.p rfl) rfl rfl rfl ?_
                  refine r_assign (.p rfl) rfl ?_
                  refine r_end ?_
                  exact sink false h (sees_mk (rn []) _ _ ⟨rfl, trivial⟩ trivial rfl rfl)
              · have h := cnd_f c21 h
                refine r_notB rfl rfl ?_
                refine r_notB rfl rfl ?_
                refine r_notB rfl rfl ?_
                refine r_pick (.p rfl) rfl rfl rfl ?_
                refine r_move (.p rfl) rfl ?_
                refine r_notB rfl rfl ?_
                refine r_notB rfl rfl ?_
                refine r_notB rfl rfl ?_
                refine r_pick (.p rfl) rfl rfl rfl ?_
                refine r_move (.p rfl) rfl ?_
                refine r_notB rfl rfl ?_
                refine r_notB rfl rfl ?_
                refine r_notB rfl rfl ?_
                refine r_pick (.p rfl) rfl rfl rfl ?_
                refine r_move (.p rfl) rfl ?_
                refine r_notB rfl rfl ?_
                refine r_notB rfl rfl ?_
                refine r_notB rfl rfl ?_
                refine r_notB rfl rfl ?_
                refine r_notB rfl rfl ?_
                refine r_notB rfl rfl ?_
                refine r_pick (.p rfl) rfl rfl rfl ?_
                refine r_move (.p rfl) rfl ?_
                refine r_notB rfl rfl ?_
                refine r_notB rfl rfl ?_
                refine r_pick (.p rfl) rfl rfl rfl ?_
                refine r_move (.p rfl) rfl ?_
                refine r_notB rfl rfl ?_
                refine r_notB rfl rfl ?_
                refine r_pick (.p rfl) rfl rfl rfl ?_
                refine r_move (.p rfl) rfl ?_
                refine r_notB rfl rfl ?_
                refine r_notB rfl rfl ?_
                refine r_notB rfl rfl ?_
                refine r_pick (.p rfl) rfl rfl rfl ?_
                refine r_move (.p rfl) rfl ?_
                refine r_notB rfl rfl ?_
                refine r_notB rfl rfl ?_
                refine r_notB rfl rfl ?_
                refine r_pick (.p rfl) rfl rfl rfl ?_
                refine r_move (.p rfl) rfl ?_
                refine r_notB rfl rfl ?_
                refine r_notB rfl rfl ?_
                refine r_notB rfl rfl ?_
                refine r_notB rfl rfl ?_
                refine r_pick (.p rfl) rfl rfl rfl ?_
                refine r_assign (.p rfl) rfl ?_
                refine r_end ?_
                exact sink false h (sees_mk (rn []) _ _ ⟨rfl, trivial⟩ trivial rfl rfl)
            · have h := cnd_f c20 h
              refine r_notB rfl rfl ?_
              refine r_notB rfl rfl ?_
              refine r_notB rfl rfl ?_
              refine r_pick (.p rfl) rfl rfl rfl ?_
              refine r_move (.p rfl) rfl ?_
              refine r_notB rfl rfl ?_
              refine r_notB rfl rfl ?_
              refine r_notB rfl rfl ?_
              refine r_pick (.p rfl) rfl rfl rfl ?_
              refine r_move (.p rfl) rfl ?_
              refine r_notB rfl rfl ?_
              refine r_notB rfl rfl ?_
              refine r_notB rfl rfl ?_
              refine r_pick (.p rfl) rfl rfl rfl ?_
              refine r_move (.p rfl) rfl ?_
              refine r_notB rfl rfl ?_
              refine r_notB rfl rfl ?_
              refine r_notB rfl rfl ?_
              refine r_pick (.p rfl) rfl rfl rfl ?_
              refine r_move (.p rfl) rfl ?_
              refine r_notB rfl rfl ?_
              refine r_notB rfl rfl ?_
              refine r_notB rfl rfl ?_
              refine r_notB rfl rfl ?_
              refine r_notB rfl rfl ?_
              refine r_notB rfl rfl ?_
              refine r_pick (.p rfl) rfl rfl rfl ?_
              refine r_move (.p rfl) rfl ?_
              refine r_notB rfl rfl ?_
              refine r_notB rfl rfl ?_
              refine r_pick (.p rfl) rfl rfl rfl ?_
              refine r_move (.p rfl) rfl ?_
              refine r_notB rfl rfl ?_
              refine r_notB rfl rfl ?_
              refine r_pick (.p rfl) rfl rfl rfl ?_
              refine r_move (.p rfl) rfl ?_
              refine r_notB rfl rfl ?_
              refine r_notB rfl rfl ?_
              refine r_notB rfl rfl ?_
              refine r_pick (.p rfl) rfl rfl rfl ?_
              refine r_move (.p rfl) rfl ?_
              refine r_notB rfl rfl ?_
              refine r_notB rfl rfl ?_
              refine r_notB rfl rfl ?_
              refine r_pick (.p rfl) rfl rfl rfl ?_
              refine r_move (.p rfl) rfl ?_
              refine r_notB rfl rfl ?_
              refine r_notB rfl rfl ?_
              refine r_notB rfl rfl ?_
              refine r_notB rfl rfl ?_
              refine r_pick (.p rfl) rfl rfl rfl ?_
              refine r_assign (.p rfl) rfl ?_
              refine r_end ?_
              exact sink false h (sees_mk (rn []) _ _ ⟨rfl, trivial⟩ trivial rfl rfl)
          · obtain rfl := Option.some.inj h
            refine W_sees (sees_mk (rn []) [(4, .e (.one (.pure (.val (.bool v19)))))] [] ⟨rfl, trivial⟩ trivial rfl rfl) (W_ret ?_)
            exact ⟨⟨[_], ⟨.tmp _ _ rfl, trivial⟩, rfl⟩, trivial⟩

set_option maxRecDepth 10000 in
theorem sheaveref36_Goal_c (N : Nat) (p0 : ApiProblem) (p1 : ApiMix) (r : Bool) (h : Sh.sheaveref36_Goal N p0 p1 = some r) : Contract Try.prog 32 [.e (.agg [.pure (.sl (p0.fVersions.map eI64)), .pure (.sl (p0.fNow.map eI64)), .pure (.sl (p0.fTarget.map eI64)), .pure (.sl (p0.fTables.map eApiTable))]), .e (.agg [.pure (.sl (p1.fBase.map eI64)), .pure (.sl (p1.fNext.map eI64)), .pure (.sl (p1.fHeld.map eU8))])] [] (.e (.one (.pure (.val (.bool r))))) := by
  unfold Sh.sheaveref36_Goal at h
  refine contract_of_W (n := 36) (rs := [.tmp 4]) Try.func32 rfl rfl rfl (leb rfl) rfl fun w0 S0 => ?_
  refine W_seq ?_
  refine W_region mixed rfl ?_
  refine r_box (.p rfl) rfl rfl ?_
  refine r_box (.p rfl) rfl rfl ?_
  refine r_assign (.p rfl) rfl ?_
  refine r_end ?_
  refine W_seq ?_
  refine W_seq ?_
  refine W_region mixed rfl ?_
  refine r_loadN (.p rfl) rfl ag31 sz31 rfl rfl rfl ?_
  refine r_loadN (.p rfl) rfl ag37 sz37 rfl rfl rfl ?_
  obtain ⟨v1, a1, h⟩ := bind_some h
  refine r_call (ds0 := [_, _]) [] (sheaveref36_Valid_c N p0 p1 v1 a1) (.p rfl) gd29 rfl ⟨rfl, rfl, trivial⟩ rfl rfl rfl (nodupB_spec rfl) trivial rfl ?_
  refine r_bin (.p rfl) rfl rfl (bin_neq _ _ _ _ _ _) rfl ?_
  refine r_end ?_
  refine W_cond rfl (fun c2 => ?_) (fun c2 => ?_)
  · have h := cnd_t c2 h
    refine W_seq ?_
    refine W_region mixed rfl ?_
    refine r_assign (.p rfl) rfl ?_
    refine r_end ?_
    obtain rfl := Option.some.inj h
    refine W_sees (sees_mk (rn []) [(4, .e (.one (.pure (.val (.bool false)))))] [] ⟨rfl, trivial⟩ trivial rfl rfl) (W_ret ?_)
    exact ⟨⟨[_], ⟨.tmp _ _ rfl, trivial⟩, rfl⟩, trivial⟩
  · have h := cnd_f c2 h
    refine W_skip ?_
    refine W_seq ?_
    refine W_seq ?_
    refine W_region mixed rfl ?_
    refine r_assign (.p rfl) rfl ?_
    refine r_end ?_
    refine W_whileE (L := Sh.sheaveref36_Goal_L3 N p0 p1) h (fun v3 => mk [(2, .e (.one (.ptr 2 0))), (3, .e (.one (.ptr 3 0))), (5, .e (.one (.pure (.val (.int .i64 v3)))))] [(2, .box [.pure (.sl (p0.fVersions.map eI64)), .pure (.sl (p0.fNow.map eI64)), .pure (.sl (p0.fTarget.map eI64)), .pure (.sl (p0.fTables.map eApiTable))]), (3, .box [.pure (.sl (p1.fBase.map eI64)), .pure (.sl (p1.fNext.map eI64)), .pure (.sl (p1.fHeld.map eU8))])]) (fun v4 => mk [] []) (fun _ _ => rfl) (sees_mk (rn []) _ _ ⟨rfl, rfl, rfl, trivial⟩ ⟨rfl, rfl, trivial⟩ rfl rfl) (fun j3 n3 v3 h => ?_) (fun v4 s h hs => ?_)
    · unfold Sh.sheaveref36_Goal_L3 at h
      refine W_seq ?_
      refine W_seq ?_
      refine W_region mixed rfl ?_
      refine r_move (.p rfl) rfl ?_
      refine r_fieldAddr (.p rfl) rfl fld37_0 ?_
      refine r_load1 (.p rfl) rfl ag28 rfl rfl ?_
      refine r_len (.p rfl) rfl (.sl _) trivial (List.length_map _) slc28 ?_
      refine r_bin (.p rfl) rfl rfl (bin_lss _ _ _ _ _ _) rfl ?_
      refine r_end ?_
      refine W_cond rfl (fun c5 => ?_) (fun c5 => ?_)
      · have h := cnd_t c5 h
        refine W_skip ?_
        refine W_seq ?_
        refine W_block ?_
        refine W_join h (fun v6 => mk [(2, .e (.one (.ptr 2 0))), (3, .e (.one (.ptr 3 0))), (5, .e (.one (.pure (.val (.int .i64 v3))))), (35, .e (.one (.pure (.val (.bool v6)))))] [(2, .box [.pure (.sl (p0.fVersions.map eI64)), .pure (.sl (p0.fNow.map eI64)), .pure (.sl (p0.fTarget.map eI64)), .pure (.sl (p0.fTables.map eApiTable))]), (3, .box [.pure (.sl (p1.fBase.map eI64)), .pure (.sl (p1.fNext.map eI64)), .pure (.sl (p1.fHeld.map eU8))])]) (fun j6 h => ?_) (fun v6 h => ?_)
        · refine W_region mixed rfl ?_
          refine r_fieldAddr (.p rfl) rfl fld37_1 ?_
          refine r_load1 (.p rfl) rfl ag28 rfl rfl ?_
          refine r_move (.p rfl) rfl ?_
          obtain ⟨v7, a7, b7, h⟩ := idx_bind h
          refine r_index (.p rfl) rfl rfl slc28 sz3 a7 (map_get b7) rfl ?_
          refine r_loadr1 (.p rfl) rfl ag3 rfl ?_
          refine r_bin (.p rfl) rfl rfl (bin_geq _ _ _ _ _ _) rfl ?_
          refine r_move (.p rfl) rfl ?_
          refine r_split (t := 23) rfl (fun c8 => ?_) (fun c8 => ?_)
          · have h := cnd_t c8 h
            refine r_notB rfl rfl ?_
            refine r_notB rfl rfl ?_
            refine r_notB rfl rfl ?_
            refine r_notB rfl rfl ?_
            refine r_notB rfl rfl ?_
            refine r_notB rfl rfl ?_
            refine r_notB rfl rfl ?_
            refine r_notB rfl rfl ?_
            refine r_notB rfl rfl ?_
            refine r_notB rfl rfl ?_
            refine r_notB rfl rfl ?_
            refine r_pick (.p rfl) rfl rfl rfl ?_
            refine r_endD (by kernel_rfl) ?_
            exact sink true h (sees_mk (rn []) _ _ ⟨rfl, rfl, rfl, rfl, trivial⟩ ⟨rfl, rfl, trivial⟩ rfl rfl)
          · have h := cnd_f c8 h
            refine r_fieldAddr (.g rfl rfl) rfl fld37_0 ?_
            refine r_load1 (.g rfl rfl) rfl ag28 rfl rfl ?_
            refine r_move (.g rfl rfl) rfl ?_
            obtain ⟨v9, a9, b9, h⟩ := idx_bind h
            refine r_index (.g rfl rfl) rfl rfl slc28 sz3 a9 (map_get b9) rfl ?_
            refine r_loadr1 (.g rfl rfl) rfl ag3 rfl ?_
            refine r_fieldAddr (.g rfl rfl) rfl fld31_2 ?_
            refine r_load1 (.g rfl rfl) rfl ag28 rfl rfl ?_
            refine r_move (.g rfl rfl) rfl ?_
            obtain ⟨v10, a10, b10, h⟩ := idx_bind h
            refine r_index (.g rfl rfl) rfl rfl slc28 sz3 a10 (map_get b10) rfl ?_
            refine r_loadr1 (.g rfl rfl) rfl ag3 rfl ?_
            refine r_bin (.g rfl rfl) rfl rfl (bin_neq _ _ _ _ _ _) rfl ?_
            refine r_pick (.p rfl) rfl rfl rfl ?_
            refine r_endD (by kernel_rfl) ?_
            exact sink (v9 != v10) h (sees_mk (rn []) _ _ ⟨rfl, rfl, rfl, rfl, trivial⟩ ⟨rfl, rfl, trivial⟩ rfl rfl)
        · refine W_cond rfl (fun c11 => ?_) (fun c11 => ?_)
          · have h := cnd_t c11 h
            refine W_seq ?_
            refine W_region mixed rfl ?_
            refine r_assign (.p rfl) rfl ?_
            refine r_end ?_
            obtain rfl := Option.some.inj h
            refine W_sees (sees_mk (rn []) [(4, .e (.one (.pure (.val (.bool false)))))] [] ⟨rfl, trivial⟩ trivial rfl rfl) (W_ret ?_)
            exact ⟨⟨[_], ⟨.tmp _ _ rfl, trivial⟩, rfl⟩, trivial⟩
          · have h := cnd_f c11 h
            refine W_skip ?_
            refine W_region mixed rfl ?_
            refine r_move (.p rfl) rfl ?_
            refine r_bin (.p rfl) rfl rfl (bin_add _ _ _ _ _ _) rfl ?_
            refine r_assign (.p rfl) rfl ?_
            refine r_end ?_
            exact sink (IntKind.wrap .i64 (v3 + 1)) h (sees_mk (rn []) _ _ ⟨rfl, rfl, rfl, trivial⟩ ⟨rfl, rfl, trivial⟩ rfl rfl)
      · have h := cnd_f c5 h
        refine W_exit ?_
        exact sink () h (sees_mk (rn []) _ _ trivial trivial rfl rfl)
    · refine W_sees hs ?_
      refine W_seq ?_
      refine W_region mixed rfl ?_
      refine r_assign (.p rfl) rfl ?_
      refine r_end ?_
      obtain rfl := Option.some.inj h
      refine W_sees (sees_mk (rn []) [(4, .e (.one (.pure (.val (.bool true)))))] [] ⟨rfl, trivial⟩ trivial rfl rfl) (W_ret ?_)
      exact ⟨⟨[_], ⟨.tmp _ _ rfl, trivial⟩, rfl⟩, trivial⟩

set_option maxRecDepth 10000 in
theorem sheavelaw36_MixGoal_c (N : Nat) (p0 : Sheaveref35Draft) (p1 : Sheaveref36Draft) (r : Bool) (h : Sh.sheavelaw36_MixGoal N p0 p1 = some r) : Contract Try.prog 8 [.e (.agg [.pure (.sl (p0.fVersions.map eU8)), .pure (.sl (p0.fNow.map eU8)), .pure (.sl (p0.fTarget.map eU8)), .pure (.sl (p0.fLinks.map eSheaveref35Link))]), .e (.agg [.pure (.sl (p1.fBase.map eU8)), .pure (.sl (p1.fNext.map eU8)), .pure (.sl (p1.fHeld.map eU8))])] [] (.e (.one (.pure (.val (.bool r))))) := by
  unfold Sh.sheavelaw36_MixGoal at h
  refine contract_of_W (n := 64) (rs := [.tmp 4]) Try.func8 rfl rfl rfl (leb rfl) rfl fun w0 S0 => ?_
  refine W_seq ?_
  refine W_region mixed rfl ?_
  refine r_box (.p rfl) rfl rfl ?_
  refine r_box (.p rfl) rfl rfl ?_
  refine r_assign (.p rfl) rfl ?_
  refine r_end ?_
  refine W_seq ?_
  refine W_region mixed rfl ?_
  refine r_loadN (.p rfl) rfl ag25 sz25 rfl rfl rfl ?_
  obtain ⟨v1, a1, h⟩ := bind_some h
  refine r_call (ds0 := [_]) [2001, 2002, 2003, 2004] (sheaveref35_Of_c N p0 v1 a1) (.p rfl) gd11 rfl ⟨rfl, trivial⟩ rfl rfl rfl (nodupB_spec rfl) ⟨rfl, rfl, rfl, rfl, trivial⟩ rfl ?_
  refine r_move (.p rfl) rfl ?_
  refine r_extract (.p rfl) rfl rfl ?_
  refine r_extract (.p rfl) rfl rfl ?_
  refine r_alloc (.p rfl) zv31 rfl rfl rfl ?_
  refine r_store rfl rfl rfl rfl sz31 rfl (leb rfl) rfl ?_
  refine r_assign (.p rfl) rfl ?_
  refine r_end ?_
  refine W_seq ?_
  refine W_join h (fun v2 => mk [(2, .e (.one (.ptr 2 0))), (3, .e (.one (.ptr 3 0))), (5, .e (.one (.ptr 5 0))), (20, .e (.one (.pure (.val (.bool v2)))))] [(2, .box [.pure (.sl (p0.fVersions.map eU8)), .pure (.sl (p0.fNow.map eU8)), .pure (.sl (p0.fTarget.map eU8)), .pure (.sl (p0.fLinks.map eSheaveref35Link))]), (3, .box [.pure (.sl (p1.fBase.map eU8)), .pure (.sl (p1.fNext.map eU8)), .pure (.sl (p1.fHeld.map eU8))]), (5, .box [.own 2005, .own 2006, .own 2007, .own 2008]), (2005, .vec 1 (v1.1.fVersions.map eI64)), (2006, .vec 1 (v1.1.fNow.map eI64)), (2007, .vec 1 (v1.1.fTarget.map eI64)), (2008, .vec 6 (v1.1.fTables.map eApiTable))]) (fun j2 h => ?_) (fun v2 h => ?_)
  · refine W_region mixed rfl ?_
    obtain ⟨v3, a3, h⟩ := bind_some h
    refine r_call (ds0 := []) [] (sheavelaw36_awake_c N v3 a3) (.p rfl) gd12 rfl trivial rfl rfl rfl (nodupB_spec rfl) trivial rfl ?_
    refine r_un (.p rfl) rfl (un_not _) rfl ?_
    refine r_move (.p rfl) rfl ?_
    refine r_split (t := 17) rfl (fun c4 => ?_) (fun c4 => ?_)
    · have h := cnd_t c4 h
      refine r_notB rfl rfl ?_
      refine r_notB rfl rfl ?_
      refine r_pick (.p rfl) rfl rfl rfl ?_
      refine r_end ?_
      exact sink true h (sees_mk (rn [(2005, 2001), (2006, 2002), (2007, 2003), (2008, 2004)]) _ _ ⟨rfl, rfl, rfl, rfl, trivial⟩ ⟨rfl, rfl, rfl, rfl, rfl, rfl, rfl, trivial⟩ rfl rfl)
    · have h := cnd_f c4 h
      refine r_move (.g rfl rfl) rfl ?_
      refine r_un (.g rfl rfl) rfl (un_not _) rfl ?_
      refine r_pick (.p rfl) rfl rfl rfl ?_
      refine r_end ?_
      exact sink (!v1.2) h (sees_mk (rn [(2005, 2001), (2006, 2002), (2007, 2003), (2008, 2004)]) _ _ ⟨rfl, rfl, rfl, rfl, trivial⟩ ⟨rfl, rfl, rfl, rfl, rfl, rfl, rfl, trivial⟩ rfl rfl)
  · refine W_cond rfl (fun c5 => ?_) (fun c5 => ?_)
    · have h := cnd_t c5 h
      refine W_seq ?_
      refine W_region mixed rfl ?_
      obtain ⟨v6, a6, h⟩ := bind_some h
      refine r_call (ds0 := []) [] (sheavelaw36_awake_c N v6 a6) (.p rfl) gd12 rfl trivial rfl rfl rfl (nodupB_spec rfl) trivial rfl ?_
      refine r_assign (.p rfl) rfl ?_
      refine r_end ?_
      obtain rfl := Option.some.inj h
      refine W_sees (sees_mk (rn []) [(4, .e (.one (.pure (.val (.bool v6)))))] [] ⟨rfl, trivial⟩ trivial rfl rfl) (W_ret ?_)
      exact ⟨⟨[_], ⟨.tmp _ _ rfl, trivial⟩, rfl⟩, trivial⟩
    · have h := cnd_f c5 h
      refine W_skip ?_
      refine W_seq ?_
      refine W_region mixed rfl ?_
      refine r_loadN (.p rfl) rfl ag31 sz31 rfl rfl rfl ?_
      refine r_loadN (.p rfl) rfl ag27 sz27 rfl rfl rfl ?_
      obtain ⟨v7, a7, h⟩ := bind_some h
      refine r_callL (ds0 := [_, _]) [2009, 2010, 2011] [(2005, _), (2006, _), (2007, _), (2008, _)] (sheaveref36_Of_c N v1.1 p1 v7 a7) (.p rfl) gd13 rfl ⟨rfl, rfl, trivial⟩ ⟨rfl, rfl, rfl, rfl, trivial⟩ rfl rfl rfl (nodupB_spec rfl) ⟨rfl, rfl, rfl, trivial⟩ rfl (flatV_cons (fun _ => rfl) (flatV_cons (fun _ => rfl) (flatV_cons (fun _ => rfl) flatV_nil))) rfl ?_
      refine r_alloc (.p rfl) zv37 rfl rfl rfl ?_
      refine r_store rfl rfl rfl rfl sz37 rfl (leb rfl) rfl ?_
      refine r_end ?_
      refine W_seq ?_
      refine W_region mixed rfl ?_
      refine r_loadN (.p rfl) rfl ag31 sz31 rfl rfl rfl ?_
      refine r_fieldAddr (.p rfl) rfl fld25_2 ?_
      refine r_load1 (.p rfl) rfl ag22 rfl rfl ?_
      refine r_fieldAddr (.p rfl) rfl fld27_2 ?_
      refine r_load1 (.p rfl) rfl ag22 rfl rfl ?_
      refine r_build [(0, .tmp 27, _), (2, .tmp 29, _)] (.p rfl) rfl ⟨rfl, rfl, trivial⟩ zv27 rfl rfl pl27 rfl ?_
      obtain ⟨v8, a8, h⟩ := bind_some h
      refine r_callL (ds0 := [_, _]) [2012, 2013, 2014] [(2005, _), (2006, _), (2007, _), (2008, _)] (sheaveref36_Of_c N v1.1 ((Sheaveref36Draft.mk p0.fTarget (([] : List Int)) p1.fHeld)) v8 a8) (.p rfl) gd13 rfl ⟨rfl, rfl, trivial⟩ ⟨rfl, rfl, rfl, rfl, trivial⟩ rfl rfl rfl (nodupB_spec rfl) ⟨rfl, rfl, rfl, trivial⟩ rfl (flatV_cons (fun _ => rfl) (flatV_cons (fun _ => rfl) (flatV_cons (fun _ => rfl) flatV_nil))) rfl ?_
      refine r_alloc (.p rfl) zv37 rfl rfl rfl ?_
      refine r_store rfl rfl rfl rfl sz37 rfl (leb rfl) rfl ?_
      refine r_end ?_
      refine W_seq ?_
      refine W_seq ?_
      refine W_region mixed rfl ?_
      refine r_fieldAddr (.p rfl) rfl fld31_2 ?_
      refine r_load1 (.p rfl) rfl ag28 rfl rfl ?_
      refine r_len (.p rfl) rfl (.own _ _ _) ⟨rfl, trivial⟩ (List.length_map _) slc28 ?_
      refine r_move (.p rfl) rfl ?_
      refine r_end ?_
      refine W_whileE (L := Sh.sheavelaw36_MixGoal_L9 N v1) h (fun v9 => mk [(5, .e (.one (.ptr 5 0))), (7, .e (.one (.ptr 7 0))), (8, .e (.one (.ptr 8 0))), (34, .e (.one (.pure (.val (.int .i64 ((v1.1.fTarget.length : Int))))))), (35, .e (.one (.pure (.val (.int .i64 v9.2)))))] [(5, .box [.own 2015, .own 2016, .own 2017, .own 2018]), (7, .box [.own 2019, .own 2020, .own 2021]), (8, .box [.own 2022, .own 2023, .own 2024]), (2015, .vec 1 (v1.1.fVersions.map eI64)), (2016, .vec 1 (v1.1.fNow.map eI64)), (2017, .vec 1 (v1.1.fTarget.map eI64)), (2018, .vec 6 (v1.1.fTables.map eApiTable)), (2019, .vec 1 (v7.fBase.map eI64)), (2020, .vec 1 (v7.fNext.map eI64)), (2021, .vec 1 (v7.fHeld.map eU8)), (2022, .vec 1 (v9.1.map eI64)), (2023, .vec 1 (v8.fNext.map eI64)), (2024, .vec 1 (v8.fHeld.map eU8))]) (fun v10 => mk [(5, .e (.one (.ptr 5 0))), (7, .e (.one (.ptr 7 0))), (8, .e (.one (.ptr 8 0)))] [(5, .box [.own 2025, .own 2026, .own 2027, .own 2028]), (7, .box [.own 2029, .own 2030, .own 2031]), (8, .box [.own 2032, .own 2033, .own 2034]), (2025, .vec 1 (v1.1.fVersions.map eI64)), (2026, .vec 1 (v1.1.fNow.map eI64)), (2027, .vec 1 (v1.1.fTarget.map eI64)), (2028, .vec 6 (v1.1.fTables.map eApiTable)), (2029, .vec 1 (v7.fBase.map eI64)), (2030, .vec 1 (v7.fNext.map eI64)), (2031, .vec 1 (v7.fHeld.map eU8)), (2032, .vec 1 (v10.map eI64)), (2033, .vec 1 (v8.fNext.map eI64)), (2034, .vec 1 (v8.fHeld.map eU8))]) (fun _ _ => rfl) (sees_mk (rn [(2015, 2005), (2016, 2006), (2017, 2007), (2018, 2008), (2019, 2009), (2020, 2010), (2021, 2011), (2022, 2012), (2023, 2013), (2024, 2014)]) _ _ ⟨rfl, rfl, rfl, rfl, rfl, trivial⟩ ⟨rfl, rfl, rfl, rfl, rfl, rfl, rfl, rfl, rfl, rfl, rfl, rfl, rfl, trivial⟩ rfl rfl) (fun j9 n9 v9 h => ?_) (fun v10 s h hs => ?_)
      · unfold Sh.sheavelaw36_MixGoal_L9 at h
        refine W_seq ?_
        refine W_region mixed rfl ?_
        refine r_bin (.p rfl) rfl rfl (bin_lss _ _ _ _ _ _) rfl ?_
        refine r_end ?_
        refine W_seq ?_
        refine W_cond rfl (fun c11 => ?_) (fun c11 => ?_)
        · have h := cnd_t c11 h
          refine W_skip ?_
          refine W_seq ?_
          refine W_block ?_
          refine W_seq ?_
          refine W_region mixed rfl ?_
          refine r_move (.p rfl) rfl ?_
          refine r_assign (.p rfl) rfl ?_
          refine r_end ?_
          refine W_region mixed rfl ?_
          refine r_fieldAddr (.p rfl) rfl fld37_0 ?_
          refine r_load1 (.p rfl) rfl ag28 rfl rfl ?_
          refine r_move (.p rfl) rfl ?_
          refine r_fieldAddr (.p rfl) rfl fld31_2 ?_
          refine r_load1 (.p rfl) rfl ag28 rfl rfl ?_
          refine r_move (.p rfl) rfl ?_
          obtain ⟨v12, a12, b12, h⟩ := idx_bind h
          refine r_indexo (.p rfl) rfl rfl rfl slc28 sz3 a12 (map_get b12) ?_
          refine r_loade1 (.p rfl) rfl ag3 rfl (map_get b12) rfl ?_
          obtain ⟨v13, a13, b13, h⟩ := idx_bind h
          refine r_indexo (.p rfl) rfl rfl rfl slc28 sz3 a13 (map_get b13) ?_
          refine r_storee rfl rfl rfl rfl (map_get b13) rfl sz3 rfl (leb rfl) (map_setv eI64 v9.1 _ v12) ?_
          refine r_endD (by kernel_rfl) ?_
          refine W_region mixed rfl ?_
          refine r_bin (.p rfl) rfl rfl (bin_add _ _ _ _ _ _) rfl ?_
          refine r_move (.p rfl) rfl ?_
          refine r_end ?_
          exact sink (v9.1.set (v9.2).toNat v12, (IntKind.wrap .i64 (v9.2 + 1))) h (sees_mk (rn []) _ _ ⟨rfl, rfl, rfl, rfl, rfl, trivial⟩ ⟨rfl, rfl, rfl, rfl, rfl, rfl, rfl, rfl, rfl, rfl, rfl, rfl, rfl, trivial⟩ rfl rfl)
        · have h := cnd_f c11 h
          refine W_exit ?_
          exact sink v9.1 h (sees_mk (rn [(2025, 2015), (2026, 2016), (2027, 2017), (2028, 2018), (2029, 2019), (2030, 2020), (2031, 2021), (2032, 2022), (2033, 2023), (2034, 2024)]) _ _ ⟨rfl, rfl, rfl, trivial⟩ ⟨rfl, rfl, rfl, rfl, rfl, rfl, rfl, rfl, rfl, rfl, rfl, rfl, rfl, trivial⟩ rfl rfl)
      · refine W_sees hs ?_
        refine W_join h (fun v14 => mk [(4, .e (.one (.pure (.val (.bool v14)))))] []) (fun j14 h => ?_) (fun v14 h => ?_)
        · refine W_region mixed rfl ?_
          refine r_loadN (.p rfl) rfl ag31 sz31 rfl rfl rfl ?_
          refine r_loadN (.p rfl) rfl ag37 sz37 rfl rfl rfl ?_
          obtain ⟨v15, a15, h⟩ := bind_some h
          refine r_callL (ds0 := [_, _]) [] [(2025, _), (2026, _), (2027, _), (2028, _), (2029, _), (2030, _), (2031, _)] (mix_Goal_c N v1.1 v7 v15 a15) (.p rfl) gd31 rfl ⟨rfl, rfl, trivial⟩ ⟨rfl, rfl, rfl, rfl, rfl, rfl, rfl, trivial⟩ rfl rfl rfl (nodupB_spec rfl) trivial rfl flatV_nil rfl ?_
          refine r_loadN (.p rfl) rfl ag31 sz31 rfl rfl rfl ?_
          refine r_loadN (.p rfl) rfl ag37 sz37 rfl rfl rfl ?_
          obtain ⟨v16, a16, h⟩ := bind_some h
          refine r_callL (ds0 := [_, _]) [] [(2025, _), (2026, _), (2027, _), (2028, _), (2029, _), (2030, _), (2031, _)] (sheaveref36_Goal_c N v1.1 v7 v16 a16) (.p rfl) gd32 rfl ⟨rfl, rfl, trivial⟩ ⟨rfl, rfl, rfl, rfl, rfl, rfl, rfl, trivial⟩ rfl rfl rfl (nodupB_spec rfl) trivial rfl flatV_nil rfl ?_
          refine r_bin (.p rfl) rfl rfl (bin_eqlB _ _ _ _ bo4) rfl ?_
          refine r_move (.p rfl) rfl ?_
          refine r_split (t := 55) rfl (fun c17 => ?_) (fun c17 => ?_)
          · have h := cnd_t c17 h
            refine r_loadN (.g rfl rfl) rfl ag31 sz31 rfl rfl rfl ?_
            refine r_loadN (.g rfl rfl) rfl ag37 sz37 rfl rfl rfl ?_
            obtain ⟨v18, a18, h⟩ := bind_some h
            refine r_callL (ds0 := [_, _]) [] [(2025, _), (2026, _), (2027, _), (2028, _), (2032, _), (2033, _), (2034, _)] (mix_Goal_c N v1.1 ((ApiMix.mk v10 v8.fNext v8.fHeld)) v18 a18) (.g rfl rfl) gd31 rfl ⟨rfl, rfl, trivial⟩ ⟨rfl, rfl, rfl, rfl, rfl, rfl, rfl, trivial⟩ rfl rfl rfl (nodupB_spec rfl) trivial rfl flatV_nil rfl ?_
            refine r_loadN (.g rfl rfl) rfl ag31 sz31 rfl rfl rfl ?_
            refine r_loadN (.g rfl rfl) rfl ag37 sz37 rfl rfl rfl ?_
            obtain ⟨v19, a19, h⟩ := bind_some h
            refine r_callL (ds0 := [_, _]) [] [(2025, _), (2026, _), (2027, _), (2028, _), (2032, _), (2033, _), (2034, _)] (sheaveref36_Goal_c N v1.1 ((ApiMix.mk v10 v8.fNext v8.fHeld)) v19 a19) (.g rfl rfl) gd32 rfl ⟨rfl, rfl, trivial⟩ ⟨rfl, rfl, rfl, rfl, rfl, rfl, rfl, trivial⟩ rfl rfl rfl (nodupB_spec rfl) trivial rfl flatV_nil rfl ?_
            refine r_bin (.g rfl rfl) rfl rfl (bin_eqlB _ _ _ _ bo4) rfl ?_
            refine r_pick (.p rfl) rfl rfl rfl ?_
            refine r_assign (.p rfl) rfl ?_
            refine r_endD (by kernel_rfl) ?_
            exact sink (v18 == v19) h (sees_mk (rn []) _ _ ⟨rfl, trivial⟩ trivial rfl rfl)
          · have h := cnd_f c17 h
            refine r_notB rfl rfl ?_
            refine r_notB rfl rfl ?_
            refine r_notB rfl rfl ?_
            refine r_notB rfl rfl ?_
            refine r_notB rfl rfl ?_
            refine r_notB rfl rfl ?_
            refine r_notB rfl rfl ?_
            refine r_pick (.p rfl) rfl rfl rfl ?_
            refine r_assign (.p rfl) rfl ?_
            refine r_endD (by kernel_rfl) ?_
            exact sink false h (sees_mk (rn []) _ _ ⟨rfl, trivial⟩ trivial rfl rfl)
        · obtain rfl := Option.some.inj h
          refine W_sees (sees_mk (rn []) [(4, .e (.one (.pure (.val (.bool v14)))))] [] ⟨rfl, trivial⟩ trivial rfl rfl) (W_ret ?_)
          exact ⟨⟨[_], ⟨.tmp _ _ rfl, trivial⟩, rfl⟩, trivial⟩

set_option maxRecDepth 10000 in
theorem cmp_isNaN_int_c (N : Nat) (p0 : Int) (r : Bool) (h : Sh.cmp_isNaN_int N p0 = some r) : Contract Try.prog 75 [.e (.one (.pure (.val (.int .i64 p0))))] [] (.e (.one (.pure (.val (.bool r))))) := by
  unfold Sh.cmp_isNaN_int at h
  refine contract_of_W (n := 6) (rs := [.tmp 2]) Try.func75 rfl rfl rfl (leb rfl) rfl fun w0 S0 => ?_
  refine W_seq ?_
  refine W_region mixed rfl ?_
  refine r_assign (.p rfl) rfl ?_
  refine r_end ?_
  refine W_seq ?_
  refine W_region mixed rfl ?_
  refine r_move (.p rfl) rfl ?_
  refine r_move (.p rfl) rfl ?_
  refine r_bin (.p rfl) rfl rfl (bin_neq _ _ _ _ _ _) rfl ?_
  refine r_assign (.p rfl) rfl ?_
  refine r_end ?_
  obtain rfl := Option.some.inj h
  refine W_sees (sees_mk (rn []) [(2, .e (.one (.pure (.val (.bool ((p0 != p0)))))))] [] ⟨rfl, trivial⟩ trivial rfl rfl) (W_ret ?_)
  exact ⟨⟨[_], ⟨.tmp _ _ rfl, trivial⟩, rfl⟩, trivial⟩

set_option maxRecDepth 10000 in
theorem cmp_Compare_int_c (N : Nat) (p0 : Int) (p1 : Int) (r : Int) (h : Sh.cmp_Compare_int N p0 p1 = some r) : Contract Try.prog 69 [.e (.one (.pure (.val (.int .i64 p0)))), .e (.one (.pure (.val (.int .i64 p1))))] [] (.e (.one (.pure (.val (.int .i64 r))))) := by
  unfold Sh.cmp_Compare_int at h
  refine contract_of_W (n := 20) (rs := [.tmp 4]) Try.func69 rfl rfl rfl (leb rfl) rfl fun w0 S0 => ?_
  refine W_seq ?_
  refine W_region mixed rfl ?_
  refine r_assign (.p rfl) rfl ?_
  refine r_end ?_
  refine W_seq ?_
  refine W_region mixed rfl ?_
  refine r_move (.p rfl) rfl ?_
  obtain ⟨v1, a1, h⟩ := bind_some h
  refine r_call (ds0 := [_]) [] (cmp_isNaN_int_c N p0 v1 a1) (.p rfl) gd75 rfl ⟨rfl, trivial⟩ rfl rfl rfl (nodupB_spec rfl) trivial rfl ?_
  refine r_assign (.p rfl) rfl ?_
  refine r_end ?_
  refine W_seq ?_
  refine W_region mixed rfl ?_
  refine r_move (.p rfl) rfl ?_
  obtain ⟨v2, a2, h⟩ := bind_some h
  refine r_call (ds0 := [_]) [] (cmp_isNaN_int_c N p1 v2 a2) (.p rfl) gd75 rfl ⟨rfl, trivial⟩ rfl rfl rfl (nodupB_spec rfl) trivial rfl ?_
  refine r_assign (.p rfl) rfl ?_
  refine r_end ?_
  refine W_seq ?_
  refine W_seq ?_
  refine W_region mixed rfl ?_
  refine r_move (.p rfl) rfl ?_
  refine r_end ?_
  refine W_cond rfl (fun c3 => ?_) (fun c3 => ?_)
  · have h := cnd_t c3 h
    refine W_seq ?_
    refine W_seq ?_
    refine W_region mixed rfl ?_
    refine r_move (.p rfl) rfl ?_
    refine r_end ?_
    refine W_cond rfl (fun c4 => ?_) (fun c4 => ?_)
    · have h := cnd_t c4 h
      refine W_seq ?_
      refine W_region mixed rfl ?_
      refine r_assign (.p rfl) rfl ?_
      refine r_end ?_
      obtain rfl := Option.some.inj h
      refine W_sees (sees_mk (rn []) [(4, .e (.one (.pure (.val (.int .i64 0)))))] [] ⟨rfl, trivial⟩ trivial rfl rfl) (W_ret ?_)
      exact ⟨⟨[_], ⟨.tmp _ _ rfl, trivial⟩, rfl⟩, trivial⟩
    · have h := cnd_f c4 h
      refine W_skip ?_
      refine W_seq ?_
      refine W_region mixed rfl ?_
      refine r_assign (.p rfl) rfl ?_
      refine r_end ?_
      obtain rfl := Option.some.inj h
      refine W_sees (sees_mk (rn []) [(4, .e (.one (.pure (.val (.int .i64 ((-1)))))))] [] ⟨rfl, trivial⟩ trivial rfl rfl) (W_ret ?_)
      exact ⟨⟨[_], ⟨.tmp _ _ rfl, trivial⟩, rfl⟩, trivial⟩
  · have h := cnd_f c3 h
    refine W_skip ?_
    refine W_seq ?_
    refine W_seq ?_
    refine W_region mixed rfl ?_
    refine r_move (.p rfl) rfl ?_
    refine r_end ?_
    refine W_cond rfl (fun c5 => ?_) (fun c5 => ?_)
    · have h := cnd_t c5 h
      refine W_seq ?_
      refine W_region mixed rfl ?_
      refine r_assign (.p rfl) rfl ?_
      refine r_end ?_
      obtain rfl := Option.some.inj h
      refine W_sees (sees_mk (rn []) [(4, .e (.one (.pure (.val (.int .i64 1)))))] [] ⟨rfl, trivial⟩ trivial rfl rfl) (W_ret ?_)
      exact ⟨⟨[_], ⟨.tmp _ _ rfl, trivial⟩, rfl⟩, trivial⟩
    · have h := cnd_f c5 h
      refine W_skip ?_
      refine W_seq ?_
      refine W_seq ?_
      refine W_region mixed rfl ?_
      refine r_move (.p rfl) rfl ?_
      refine r_move (.p rfl) rfl ?_
      refine r_bin (.p rfl) rfl rfl (bin_lss _ _ _ _ _ _) rfl ?_
      refine r_end ?_
      refine W_cond rfl (fun c6 => ?_) (fun c6 => ?_)
      · have h := cnd_t c6 h
        refine W_seq ?_
        refine W_region mixed rfl ?_
        refine r_assign (.p rfl) rfl ?_
        refine r_end ?_
        obtain rfl := Option.some.inj h
        refine W_sees (sees_mk (rn []) [(4, .e (.one (.pure (.val (.int .i64 ((-1)))))))] [] ⟨rfl, trivial⟩ trivial rfl rfl) (W_ret ?_)
        exact ⟨⟨[_], ⟨.tmp _ _ rfl, trivial⟩, rfl⟩, trivial⟩
      · have h := cnd_f c6 h
        refine W_skip ?_
        refine W_seq ?_
        refine W_seq ?_
        refine W_region mixed rfl ?_
        refine r_move (.p rfl) rfl ?_
        refine r_move (.p rfl) rfl ?_
        refine r_bin (.p rfl) rfl rfl (bin_gtr _ _ _ _ _ _) rfl ?_
        refine r_end ?_
        refine W_cond rfl (fun c7 => ?_) (fun c7 => ?_)
        · have h := cnd_t c7 h
          refine W_seq ?_
          refine W_region mixed rfl ?_
          refine r_assign (.p rfl) rfl ?_
          refine r_end ?_
          obtain rfl := Option.some.inj h
          refine W_sees (sees_mk (rn []) [(4, .e (.one (.pure (.val (.int .i64 1)))))] [] ⟨rfl, trivial⟩ trivial rfl rfl) (W_ret ?_)
          exact ⟨⟨[_], ⟨.tmp _ _ rfl, trivial⟩, rfl⟩, trivial⟩
        · have h := cnd_f c7 h
          refine W_skip ?_
          refine W_seq ?_
          refine W_region mixed rfl ?_
          refine r_assign (.p rfl) rfl ?_
          refine r_end ?_
          obtain rfl := Option.some.inj h
          refine W_sees (sees_mk (rn []) [(4, .e (.one (.pure (.val (.int .i64 0)))))] [] ⟨rfl, trivial⟩ trivial rfl rfl) (W_ret ?_)
          exact ⟨⟨[_], ⟨.tmp _ _ rfl, trivial⟩, rfl⟩, trivial⟩

set_option maxRecDepth 10000 in
theorem slices_Compare_int_int_c (N : Nat) (p0 : List Int) (p1 : List Int) (r : Int) (h : Sh.slices_Compare_int_int N p0 p1 = some r) : Contract Try.prog 59 [.e (.one (.pure (.sl (p0.map eI64)))), .e (.one (.pure (.sl (p1.map eI64))))] [] (.e (.one (.pure (.val (.int .i64 r))))) := by
  unfold Sh.slices_Compare_int_int at h
  refine contract_of_W (n := 36) (rs := [.tmp 4]) Try.func59 rfl rfl rfl (leb rfl) rfl fun w0 S0 => ?_
  refine W_seq ?_
  refine W_region mixed rfl ?_
  refine r_assign (.p rfl) rfl ?_
  refine r_end ?_
  refine W_seq ?_
  refine W_seq ?_
  refine W_region mixed rfl ?_
  refine r_move (.p rfl) rfl ?_
  refine r_len (.p rfl) rfl (.sl _) trivial (List.length_map _) slc28 ?_
  refine r_move (.p rfl) rfl ?_
  refine r_end ?_
  refine W_whileE (L := Sh.slices_Compare_int_int_L1 N p0 p1) h (fun v1 => mk [(0, .e (.one (.pure (.sl (p0.map eI64))))), (1, .e (.one (.pure (.sl (p1.map eI64))))), (9, .e (.one (.pure (.sl (p0.map eI64))))), (10, .e (.one (.pure (.val (.int .i64 ((p0.length : Int))))))), (11, .e (.one (.pure (.val (.int .i64 v1)))))] []) (fun v2 => mk [(0, .e (.one (.pure (.sl (p0.map eI64))))), (1, .e (.one (.pure (.sl (p1.map eI64)))))] []) (fun _ _ => rfl) (sees_mk (rn []) _ _ ⟨rfl, rfl, rfl, rfl, rfl, trivial⟩ trivial rfl rfl) (fun j1 n1 v1 h => ?_) (fun v2 s h hs => ?_)
  · unfold Sh.slices_Compare_int_int_L1 at h
    refine W_seq ?_
    refine W_region mixed rfl ?_
    refine r_bin (.p rfl) rfl rfl (bin_lss _ _ _ _ _ _) rfl ?_
    refine r_end ?_
    refine W_seq ?_
    refine W_cond rfl (fun c3 => ?_) (fun c3 => ?_)
    · have h := cnd_t c3 h
      refine W_skip ?_
      refine W_seq ?_
      refine W_block ?_
      refine W_seq ?_
      refine W_region mixed rfl ?_
      refine r_move (.p rfl) rfl ?_
      obtain ⟨v4, a4, b4, h⟩ := idx_bind h
      refine r_index (.p rfl) rfl rfl slc28 sz3 a4 (map_get b4) rfl ?_
      refine r_loadr1 (.p rfl) rfl ag3 rfl ?_
      refine r_assign (.p rfl) rfl ?_
      refine r_assign (.p rfl) rfl ?_
      refine r_end ?_
      refine W_seq ?_
      refine W_seq ?_
      refine W_region mixed rfl ?_
      refine r_move (.p rfl) rfl ?_
      refine r_move (.p rfl) rfl ?_
      refine r_len (.p rfl) rfl (.sl _) trivial (List.length_map _) slc28 ?_
      refine r_bin (.p rfl) rfl rfl (bin_geq _ _ _ _ _ _) rfl ?_
      refine r_end ?_
      refine W_cond rfl (fun c5 => ?_) (fun c5 => ?_)
      · have h := cnd_t c5 h
        refine W_seq ?_
        refine W_region mixed rfl ?_
        refine r_assign (.p rfl) rfl ?_
        refine r_end ?_
        obtain rfl := Option.some.inj h
        refine W_sees (sees_mk (rn []) [(4, .e (.one (.pure (.val (.int .i64 1)))))] [] ⟨rfl, trivial⟩ trivial rfl rfl) (W_ret ?_)
        exact ⟨⟨[_], ⟨.tmp _ _ rfl, trivial⟩, rfl⟩, trivial⟩
      · have h := cnd_f c5 h
        refine W_skip ?_
        refine W_seq ?_
        refine W_region mixed rfl ?_
        refine r_move (.p rfl) rfl ?_
        refine r_move (.p rfl) rfl ?_
        obtain ⟨v6, a6, b6, h⟩ := idx_bind h
        refine r_index (.p rfl) rfl rfl slc28 sz3 a6 (map_get b6) rfl ?_
        refine r_loadr1 (.p rfl) rfl ag3 rfl ?_
        refine r_assign (.p rfl) rfl ?_
        refine r_end ?_
        refine W_seq ?_
        refine W_region mixed rfl ?_
        refine r_move (.p rfl) rfl ?_
        refine r_move (.p rfl) rfl ?_
        obtain ⟨v7, a7, h⟩ := bind_some h
        refine r_call (ds0 := [_, _]) [] (cmp_Compare_int_c N v4 v6 v7 a7) (.p rfl) gd69 rfl ⟨rfl, rfl, trivial⟩ rfl rfl rfl (nodupB_spec rfl) trivial rfl ?_
        refine r_assign (.p rfl) rfl ?_
        refine r_end ?_
        refine W_seq ?_
        refine W_region mixed rfl ?_
        refine r_move (.p rfl) rfl ?_
        refine r_bin (.p rfl) rfl rfl (bin_neq _ _ _ _ _ _) rfl ?_
        refine r_end ?_
        refine W_cond rfl (fun c8 => ?_) (fun c8 => ?_)
        · have h := cnd_t c8 h
          refine W_seq ?_
          refine W_region mixed rfl ?_
          refine r_move (.p rfl) rfl ?_
          refine r_assign (.p rfl) rfl ?_
          refine r_end ?_
          obtain rfl := Option.some.inj h
          refine W_sees (sees_mk (rn []) [(4, .e (.one (.pure (.val (.int .i64 v7)))))] [] ⟨rfl, trivial⟩ trivial rfl rfl) (W_ret ?_)
          exact ⟨⟨[_], ⟨.tmp _ _ rfl, trivial⟩, rfl⟩, trivial⟩
        · have h := cnd_f c8 h
          refine W_skip ?_
          refine W_region mixed rfl ?_
          refine r_bin (.p rfl) rfl rfl (bin_add _ _ _ _ _ _) rfl ?_
          refine r_move (.p rfl) rfl ?_
          refine r_end ?_
          exact sink (IntKind.wrap .i64 (v1 + 1)) h (sees_mk (rn []) _ _ ⟨rfl, rfl, rfl, rfl, rfl, trivial⟩ trivial rfl rfl)
    · have h := cnd_f c3 h
      refine W_exit ?_
      exact sink () h (sees_mk (rn []) _ _ ⟨rfl, rfl, trivial⟩ trivial rfl rfl)
  · refine W_sees hs ?_
    refine W_seq ?_
    refine W_seq ?_
    refine W_region mixed rfl ?_
    refine r_move (.p rfl) rfl ?_
    refine r_len (.p rfl) rfl (.sl _) trivial (List.length_map _) slc28 ?_
    refine r_move (.p rfl) rfl ?_
    refine r_len (.p rfl) rfl (.sl _) trivial (List.length_map _) slc28 ?_
    refine r_bin (.p rfl) rfl rfl (bin_lss _ _ _ _ _ _) rfl ?_
    refine r_end ?_
    refine W_cond rfl (fun c9 => ?_) (fun c9 => ?_)
    · have h := cnd_t c9 h
      refine W_seq ?_
      refine W_region mixed rfl ?_
      refine r_assign (.p rfl) rfl ?_
      refine r_end ?_
      obtain rfl := Option.some.inj h
      refine W_sees (sees_mk (rn []) [(4, .e (.one (.pure (.val (.int .i64 ((-1)))))))] [] ⟨rfl, trivial⟩ trivial rfl rfl) (W_ret ?_)
      exact ⟨⟨[_], ⟨.tmp _ _ rfl, trivial⟩, rfl⟩, trivial⟩
    · have h := cnd_f c9 h
      refine W_skip ?_
      refine W_seq ?_
      refine W_region mixed rfl ?_
      refine r_assign (.p rfl) rfl ?_
      refine r_end ?_
      obtain rfl := Option.some.inj h
      refine W_sees (sees_mk (rn []) [(4, .e (.one (.pure (.val (.int .i64 0)))))] [] ⟨rfl, trivial⟩ trivial rfl rfl) (W_ret ?_)
      exact ⟨⟨[_], ⟨.tmp _ _ rfl, trivial⟩, rfl⟩, trivial⟩

set_option maxRecDepth 10000 in
theorem cmp_isNaN_api_Set_c (N : Nat) (p0 : Int) (r : Bool) (h : Sh.cmp_isNaN_api_Set N p0 = some r) : Contract Try.prog 76 [.e (.one (.pure (.val (.int .u8 p0))))] [] (.e (.one (.pure (.val (.bool r))))) := by
  unfold Sh.cmp_isNaN_api_Set at h
  refine contract_of_W (n := 6) (rs := [.tmp 2]) Try.func76 rfl rfl rfl (leb rfl) rfl fun w0 S0 => ?_
  refine W_seq ?_
  refine W_region mixed rfl ?_
  refine r_assign (.p rfl) rfl ?_
  refine r_end ?_
  refine W_seq ?_
  refine W_region mixed rfl ?_
  refine r_move (.p rfl) rfl ?_
  refine r_move (.p rfl) rfl ?_
  refine r_bin (.p rfl) rfl rfl (bin_neq _ _ _ _ _ _) rfl ?_
  refine r_assign (.p rfl) rfl ?_
  refine r_end ?_
  obtain rfl := Option.some.inj h
  refine W_sees (sees_mk (rn []) [(2, .e (.one (.pure (.val (.bool ((p0 != p0)))))))] [] ⟨rfl, trivial⟩ trivial rfl rfl) (W_ret ?_)
  exact ⟨⟨[_], ⟨.tmp _ _ rfl, trivial⟩, rfl⟩, trivial⟩

set_option maxRecDepth 10000 in
theorem cmp_Compare_api_Set_c (N : Nat) (p0 : Int) (p1 : Int) (r : Int) (h : Sh.cmp_Compare_api_Set N p0 p1 = some r) : Contract Try.prog 70 [.e (.one (.pure (.val (.int .u8 p0)))), .e (.one (.pure (.val (.int .u8 p1))))] [] (.e (.one (.pure (.val (.int .i64 r))))) := by
  unfold Sh.cmp_Compare_api_Set at h
  refine contract_of_W (n := 20) (rs := [.tmp 4]) Try.func70 rfl rfl rfl (leb rfl) rfl fun w0 S0 => ?_
  refine W_seq ?_
  refine W_region mixed rfl ?_
  refine r_assign (.p rfl) rfl ?_
  refine r_end ?_
  refine W_seq ?_
  refine W_region mixed rfl ?_
  refine r_move (.p rfl) rfl ?_
  obtain ⟨v1, a1, h⟩ := bind_some h
  refine r_call (ds0 := [_]) [] (cmp_isNaN_api_Set_c N p0 v1 a1) (.p rfl) gd76 rfl ⟨rfl, trivial⟩ rfl rfl rfl (nodupB_spec rfl) trivial rfl ?_
  refine r_assign (.p rfl) rfl ?_
  refine r_end ?_
  refine W_seq ?_
  refine W_region mixed rfl ?_
  refine r_move (.p rfl) rfl ?_
  obtain ⟨v2, a2, h⟩ := bind_some h
  refine r_call (ds0 := [_]) [] (cmp_isNaN_api_Set_c N p1 v2 a2) (.p rfl) gd76 rfl ⟨rfl, trivial⟩ rfl rfl rfl (nodupB_spec rfl) trivial rfl ?_
  refine r_assign (.p rfl) rfl ?_
  refine r_end ?_
  refine W_seq ?_
  refine W_seq ?_
  refine W_region mixed rfl ?_
  refine r_move (.p rfl) rfl ?_
  refine r_end ?_
  refine W_cond rfl (fun c3 => ?_) (fun c3 => ?_)
  · have h := cnd_t c3 h
    refine W_seq ?_
    refine W_seq ?_
    refine W_region mixed rfl ?_
    refine r_move (.p rfl) rfl ?_
    refine r_end ?_
    refine W_cond rfl (fun c4 => ?_) (fun c4 => ?_)
    · have h := cnd_t c4 h
      refine W_seq ?_
      refine W_region mixed rfl ?_
      refine r_assign (.p rfl) rfl ?_
      refine r_end ?_
      obtain rfl := Option.some.inj h
      refine W_sees (sees_mk (rn []) [(4, .e (.one (.pure (.val (.int .i64 0)))))] [] ⟨rfl, trivial⟩ trivial rfl rfl) (W_ret ?_)
      exact ⟨⟨[_], ⟨.tmp _ _ rfl, trivial⟩, rfl⟩, trivial⟩
    · have h := cnd_f c4 h
      refine W_skip ?_
      refine W_seq ?_
      refine W_region mixed rfl ?_
      refine r_assign (.p rfl) rfl ?_
      refine r_end ?_
      obtain rfl := Option.some.inj h
      refine W_sees (sees_mk (rn []) [(4, .e (.one (.pure (.val (.int .i64 ((-1)))))))] [] ⟨rfl, trivial⟩ trivial rfl rfl) (W_ret ?_)
      exact ⟨⟨[_], ⟨.tmp _ _ rfl, trivial⟩, rfl⟩, trivial⟩
  · have h := cnd_f c3 h
    refine W_skip ?_
    refine W_seq ?_
    refine W_seq ?_
    refine W_region mixed rfl ?_
    refine r_move (.p rfl) rfl ?_
    refine r_end ?_
    refine W_cond rfl (fun c5 => ?_) (fun c5 => ?_)
    · have h := cnd_t c5 h
      refine W_seq ?_
      refine W_region mixed rfl ?_
      refine r_assign (.p rfl) rfl ?_
      refine r_end ?_
      obtain rfl := Option.some.inj h
      refine W_sees (sees_mk (rn []) [(4, .e (.one (.pure (.val (.int .i64 1)))))] [] ⟨rfl, trivial⟩ trivial rfl rfl) (W_ret ?_)
      exact ⟨⟨[_], ⟨.tmp _ _ rfl, trivial⟩, rfl⟩, trivial⟩
    · have h := cnd_f c5 h
      refine W_skip ?_
      refine W_seq ?_
      refine W_seq ?_
      refine W_region mixed rfl ?_
      refine r_move (.p rfl) rfl ?_
      refine r_move (.p rfl) rfl ?_
      refine r_bin (.p rfl) rfl rfl (bin_lss _ _ _ _ _ _) rfl ?_
      refine r_end ?_
      refine W_cond rfl (fun c6 => ?_) (fun c6 => ?_)
      · have h := cnd_t c6 h
        refine W_seq ?_
        refine W_region mixed rfl ?_
        refine r_assign (.p rfl) rfl ?_
        refine r_end ?_
        obtain rfl := Option.some.inj h
        refine W_sees (sees_mk (rn []) [(4, .e (.one (.pure (.val (.int .i64 ((-1)))))))] [] ⟨rfl, trivial⟩ trivial rfl rfl) (W_ret ?_)
        exact ⟨⟨[_], ⟨.tmp _ _ rfl, trivial⟩, rfl⟩, trivial⟩
      · have h := cnd_f c6 h
        refine W_skip ?_
        refine W_seq ?_
        refine W_seq ?_
        refine W_region mixed rfl ?_
        refine r_move (.p rfl) rfl ?_
        refine r_move (.p rfl) rfl ?_
        refine r_bin (.p rfl) rfl rfl (bin_gtr _ _ _ _ _ _) rfl ?_
        refine r_end ?_
        refine W_cond rfl (fun c7 => ?_) (fun c7 => ?_)
        · have h := cnd_t c7 h
          refine W_seq ?_
          refine W_region mixed rfl ?_
          refine r_assign (.p rfl) rfl ?_
          refine r_end ?_
          obtain rfl := Option.some.inj h
          refine W_sees (sees_mk (rn []) [(4, .e (.one (.pure (.val (.int .i64 1)))))] [] ⟨rfl, trivial⟩ trivial rfl rfl) (W_ret ?_)
          exact ⟨⟨[_], ⟨.tmp _ _ rfl, trivial⟩, rfl⟩, trivial⟩
        · have h := cnd_f c7 h
          refine W_skip ?_
          refine W_seq ?_
          refine W_region mixed rfl ?_
          refine r_assign (.p rfl) rfl ?_
          refine r_end ?_
          obtain rfl := Option.some.inj h
          refine W_sees (sees_mk (rn []) [(4, .e (.one (.pure (.val (.int .i64 0)))))] [] ⟨rfl, trivial⟩ trivial rfl rfl) (W_ret ?_)
          exact ⟨⟨[_], ⟨.tmp _ _ rfl, trivial⟩, rfl⟩, trivial⟩

set_option maxRecDepth 10000 in
theorem slices_Compare_api_Set_api_Set_c (N : Nat) (p0 : List Int) (p1 : List Int) (r : Int) (h : Sh.slices_Compare_api_Set_api_Set N p0 p1 = some r) : Contract Try.prog 60 [.e (.one (.pure (.sl (p0.map eU8)))), .e (.one (.pure (.sl (p1.map eU8))))] [] (.e (.one (.pure (.val (.int .i64 r))))) := by
  unfold Sh.slices_Compare_api_Set_api_Set at h
  refine contract_of_W (n := 36) (rs := [.tmp 4]) Try.func60 rfl rfl rfl (leb rfl) rfl fun w0 S0 => ?_
  refine W_seq ?_
  refine W_region mixed rfl ?_
  refine r_assign (.p rfl) rfl ?_
  refine r_end ?_
  refine W_seq ?_
  refine W_seq ?_
  refine W_region mixed rfl ?_
  refine r_move (.p rfl) rfl ?_
  refine r_len (.p rfl) rfl (.sl _) trivial (List.length_map _) slc35 ?_
  refine r_move (.p rfl) rfl ?_
  refine r_end ?_
  refine W_whileE (L := Sh.slices_Compare_api_Set_api_Set_L1 N p0 p1) h (fun v1 => mk [(0, .e (.one (.pure (.sl (p0.map eU8))))), (1, .e (.one (.pure (.sl (p1.map eU8))))), (9, .e (.one (.pure (.sl (p0.map eU8))))), (10, .e (.one (.pure (.val (.int .i64 ((p0.length : Int))))))), (11, .e (.one (.pure (.val (.int .i64 v1)))))] []) (fun v2 => mk [(0, .e (.one (.pure (.sl (p0.map eU8))))), (1, .e (.one (.pure (.sl (p1.map eU8)))))] []) (fun _ _ => rfl) (sees_mk (rn []) _ _ ⟨rfl, rfl, rfl, rfl, rfl, trivial⟩ trivial rfl rfl) (fun j1 n1 v1 h => ?_) (fun v2 s h hs => ?_)
  · unfold Sh.slices_Compare_api_Set_api_Set_L1 at h
    refine W_seq ?_
    refine W_region mixed rfl ?_
    refine r_bin (.p rfl) rfl rfl (bin_lss _ _ _ _ _ _) rfl ?_
    refine r_end ?_
    refine W_seq ?_
    refine W_cond rfl (fun c3 => ?_) (fun c3 => ?_)
    · have h := cnd_t c3 h
      refine W_skip ?_
      refine W_seq ?_
      refine W_block ?_
      refine W_seq ?_
      refine W_region mixed rfl ?_
      refine r_move (.p rfl) rfl ?_
      obtain ⟨v4, a4, b4, h⟩ := idx_bind h
      refine r_index (.p rfl) rfl rfl slc35 sz80 a4 (map_get b4) rfl ?_
      refine r_loadr1 (.p rfl) rfl ag80 rfl ?_
      refine r_assign (.p rfl) rfl ?_
      refine r_assign (.p rfl) rfl ?_
      refine r_end ?_
      refine W_seq ?_
      refine W_seq ?_
      refine W_region mixed rfl ?_
      refine r_move (.p rfl) rfl ?_
      refine r_move (.p rfl) rfl ?_
      refine r_len (.p rfl) rfl (.sl _) trivial (List.length_map _) slc35 ?_
      refine r_bin (.p rfl) rfl rfl (bin_geq _ _ _ _ _ _) rfl ?_
      refine r_end ?_
      refine W_cond rfl (fun c5 => ?_) (fun c5 => ?_)
      · have h := cnd_t c5 h
        refine W_seq ?_
        refine W_region mixed rfl ?_
        refine r_assign (.p rfl) rfl ?_
        refine r_end ?_
        obtain rfl := Option.some.inj h
        refine W_sees (sees_mk (rn []) [(4, .e (.one (.pure (.val (.int .i64 1)))))] [] ⟨rfl, trivial⟩ trivial rfl rfl) (W_ret ?_)
        exact ⟨⟨[_], ⟨.tmp _ _ rfl, trivial⟩, rfl⟩, trivial⟩
      · have h := cnd_f c5 h
        refine W_skip ?_
        refine W_seq ?_
        refine W_region mixed rfl ?_
        refine r_move (.p rfl) rfl ?_
        refine r_move (.p rfl) rfl ?_
        obtain ⟨v6, a6, b6, h⟩ := idx_bind h
        refine r_index (.p rfl) rfl rfl slc35 sz80 a6 (map_get b6) rfl ?_
        refine r_loadr1 (.p rfl) rfl ag80 rfl ?_
        refine r_assign (.p rfl) rfl ?_
        refine r_end ?_
        refine W_seq ?_
        refine W_region mixed rfl ?_
        refine r_move (.p rfl) rfl ?_
        refine r_move (.p rfl) rfl ?_
        obtain ⟨v7, a7, h⟩ := bind_some h
        refine r_call (ds0 := [_, _]) [] (cmp_Compare_api_Set_c N v4 v6 v7 a7) (.p rfl) gd70 rfl ⟨rfl, rfl, trivial⟩ rfl rfl rfl (nodupB_spec rfl) trivial rfl ?_
        refine r_assign (.p rfl) rfl ?_
        refine r_end ?_
        refine W_seq ?_
        refine W_region mixed rfl ?_
        refine r_move (.p rfl) rfl ?_
        refine r_bin (.p rfl) rfl rfl (bin_neq _ _ _ _ _ _) rfl ?_
        refine r_end ?_
        refine W_cond rfl (fun c8 => ?_) (fun c8 => ?_)
        · have h := cnd_t c8 h
          refine W_seq ?_
          refine W_region mixed rfl ?_
          refine r_move (.p rfl) rfl ?_
          refine r_assign (.p rfl) rfl ?_
          refine r_end ?_
          obtain rfl := Option.some.inj h
          refine W_sees (sees_mk (rn []) [(4, .e (.one (.pure (.val (.int .i64 v7)))))] [] ⟨rfl, trivial⟩ trivial rfl rfl) (W_ret ?_)
          exact ⟨⟨[_], ⟨.tmp _ _ rfl, trivial⟩, rfl⟩, trivial⟩
        · have h := cnd_f c8 h
          refine W_skip ?_
          refine W_region mixed rfl ?_
          refine r_bin (.p rfl) rfl rfl (bin_add _ _ _ _ _ _) rfl ?_
          refine r_move (.p rfl) rfl ?_
          refine r_end ?_
          exact sink (IntKind.wrap .i64 (v1 + 1)) h (sees_mk (rn []) _ _ ⟨rfl, rfl, rfl, rfl, rfl, trivial⟩ trivial rfl rfl)
    · have h := cnd_f c3 h
      refine W_exit ?_
      exact sink () h (sees_mk (rn []) _ _ ⟨rfl, rfl, trivial⟩ trivial rfl rfl)
  · refine W_sees hs ?_
    refine W_seq ?_
    refine W_seq ?_
    refine W_region mixed rfl ?_
    refine r_move (.p rfl) rfl ?_
    refine r_len (.p rfl) rfl (.sl _) trivial (List.length_map _) slc35 ?_
    refine r_move (.p rfl) rfl ?_
    refine r_len (.p rfl) rfl (.sl _) trivial (List.length_map _) slc35 ?_
    refine r_bin (.p rfl) rfl rfl (bin_lss _ _ _ _ _ _) rfl ?_
    refine r_end ?_
    refine W_cond rfl (fun c9 => ?_) (fun c9 => ?_)
    · have h := cnd_t c9 h
      refine W_seq ?_
      refine W_region mixed rfl ?_
      refine r_assign (.p rfl) rfl ?_
      refine r_end ?_
      obtain rfl := Option.some.inj h
      refine W_sees (sees_mk (rn []) [(4, .e (.one (.pure (.val (.int .i64 ((-1)))))))] [] ⟨rfl, trivial⟩ trivial rfl rfl) (W_ret ?_)
      exact ⟨⟨[_], ⟨.tmp _ _ rfl, trivial⟩, rfl⟩, trivial⟩
    · have h := cnd_f c9 h
      refine W_skip ?_
      refine W_seq ?_
      refine W_region mixed rfl ?_
      refine r_assign (.p rfl) rfl ?_
      refine r_end ?_
      obtain rfl := Option.some.inj h
      refine W_sees (sees_mk (rn []) [(4, .e (.one (.pure (.val (.int .i64 0)))))] [] ⟨rfl, trivial⟩ trivial rfl rfl) (W_ret ?_)
      exact ⟨⟨[_], ⟨.tmp _ _ rfl, trivial⟩, rfl⟩, trivial⟩

set_option maxRecDepth 10000 in
theorem cmp_Or_int_c (N : Nat) (p0 : List Int) (r : Int) (h : Sh.cmp_Or_int N p0 = some r) : Contract Try.prog 58 [.e (.one (.pure (.sl (p0.map eI64))))] [] (.e (.one (.pure (.val (.int .i64 r))))) := by
  unfold Sh.cmp_Or_int at h
  refine contract_of_W (n := 18) (rs := [.tmp 2]) Try.func58 rfl rfl rfl (leb rfl) rfl fun w0 S0 => ?_
  refine W_seq ?_
  refine W_region mixed rfl ?_
  refine r_assign (.p rfl) rfl ?_
  refine r_end ?_
  refine W_seq ?_
  refine W_region mixed rfl ?_
  refine r_assign (.p rfl) rfl ?_
  refine r_end ?_
  refine W_seq ?_
  refine W_seq ?_
  refine W_region mixed rfl ?_
  refine r_move (.p rfl) rfl ?_
  refine r_len (.p rfl) rfl (.sl _) trivial (List.length_map _) slc28 ?_
  refine r_move (.p rfl) rfl ?_
  refine r_end ?_
  refine W_whileE (L := Sh.cmp_Or_int_L1 N p0) h (fun v1 => mk [(3, .e (.one (.pure (.val (.int .i64 0))))), (6, .e (.one (.pure (.sl (p0.map eI64))))), (7, .e (.one (.pure (.val (.int .i64 ((p0.length : Int))))))), (8, .e (.one (.pure (.val (.int .i64 v1)))))] []) (fun v2 => mk [(3, .e (.one (.pure (.val (.int .i64 0)))))] []) (fun _ _ => rfl) (sees_mk (rn []) _ _ ⟨rfl, rfl, rfl, rfl, trivial⟩ trivial rfl rfl) (fun j1 n1 v1 h => ?_) (fun v2 s h hs => ?_)
  · unfold Sh.cmp_Or_int_L1 at h
    refine W_seq ?_
    refine W_region mixed rfl ?_
    refine r_bin (.p rfl) rfl rfl (bin_lss _ _ _ _ _ _) rfl ?_
    refine r_end ?_
    refine W_seq ?_
    refine W_cond rfl (fun c3 => ?_) (fun c3 => ?_)
    · have h := cnd_t c3 h
      refine W_skip ?_
      refine W_seq ?_
      refine W_block ?_
      refine W_seq ?_
      refine W_region mixed rfl ?_
      obtain ⟨v4, a4, b4, h⟩ := idx_bind h
      refine r_index (.p rfl) rfl rfl slc28 sz3 a4 (map_get b4) rfl ?_
      refine r_loadr1 (.p rfl) rfl ag3 rfl ?_
      refine r_assign (.p rfl) rfl ?_
      refine r_end ?_
      refine W_seq ?_
      refine W_region mixed rfl ?_
      refine r_move (.p rfl) rfl ?_
      refine r_move (.p rfl) rfl ?_
      refine r_bin (.p rfl) rfl rfl (bin_neq _ _ _ _ _ _) rfl ?_
      refine r_end ?_
      refine W_cond rfl (fun c5 => ?_) (fun c5 => ?_)
      · have h := cnd_t c5 h
        refine W_seq ?_
        refine W_region mixed rfl ?_
        refine r_move (.p rfl) rfl ?_
        refine r_assign (.p rfl) rfl ?_
        refine r_end ?_
        obtain rfl := Option.some.inj h
        refine W_sees (sees_mk (rn []) [(2, .e (.one (.pure (.val (.int .i64 v4)))))] [] ⟨rfl, trivial⟩ trivial rfl rfl) (W_ret ?_)
        exact ⟨⟨[_], ⟨.tmp _ _ rfl, trivial⟩, rfl⟩, trivial⟩
      · have h := cnd_f c5 h
        refine W_skip ?_
        refine W_region mixed rfl ?_
        refine r_bin (.p rfl) rfl rfl (bin_add _ _ _ _ _ _) rfl ?_
        refine r_move (.p rfl) rfl ?_
        refine r_end ?_
        exact sink (IntKind.wrap .i64 (v1 + 1)) h (sees_mk (rn []) _ _ ⟨rfl, rfl, rfl, rfl, trivial⟩ trivial rfl rfl)
    · have h := cnd_f c3 h
      refine W_exit ?_
      exact sink () h (sees_mk (rn []) _ _ ⟨rfl, trivial⟩ trivial rfl rfl)
  · refine W_sees hs ?_
    refine W_seq ?_
    refine W_region mixed rfl ?_
    refine r_move (.p rfl) rfl ?_
    refine r_assign (.p rfl) rfl ?_
    refine r_end ?_
    obtain rfl := Option.some.inj h
    refine W_sees (sees_mk (rn []) [(2, .e (.one (.pure (.val (.int .i64 0)))))] [] ⟨rfl, trivial⟩ trivial rfl rfl) (W_ret ?_)
    exact ⟨⟨[_], ⟨.tmp _ _ rfl, trivial⟩, rfl⟩, trivial⟩

set_option maxRecDepth 10000 in
theorem mix_Compare_c (N : Nat) (p0 : ApiMix) (p1 : ApiMix) (r : Int) (h : Sh.mix_Compare N p0 p1 = some r) : Contract Try.prog 33 [.e (.agg [.pure (.sl (p0.fBase.map eI64)), .pure (.sl (p0.fNext.map eI64)), .pure (.sl (p0.fHeld.map eU8))]), .e (.agg [.pure (.sl (p1.fBase.map eI64)), .pure (.sl (p1.fNext.map eI64)), .pure (.sl (p1.fHeld.map eU8))])] [] (.e (.one (.pure (.val (.int .i64 r))))) := by
  unfold Sh.mix_Compare at h
  refine contract_of_W (n := 22) (rs := [.tmp 4]) Try.func33 rfl rfl rfl (leb rfl) rfl fun w0 S0 => ?_
  refine W_seq ?_
  refine W_region mixed rfl ?_
  refine r_box (.p rfl) rfl rfl ?_
  refine r_box (.p rfl) rfl rfl ?_
  refine r_assign (.p rfl) rfl ?_
  refine r_end ?_
  refine W_seq ?_
  refine W_region mixed rfl ?_
  refine r_fieldAddr (.p rfl) rfl fld37_0 ?_
  refine r_load1 (.p rfl) rfl ag28 rfl rfl ?_
  refine r_fieldAddr (.p rfl) rfl fld37_0 ?_
  refine r_load1 (.p rfl) rfl ag28 rfl rfl ?_
  obtain ⟨v1, a1, h⟩ := bind_some h
  refine r_call (ds0 := [_, _]) [] (slices_Compare_int_int_c N p0.fBase p1.fBase v1 a1) (.p rfl) gd59 rfl ⟨rfl, rfl, trivial⟩ rfl rfl rfl (nodupB_spec rfl) trivial rfl ?_
  refine r_fieldAddr (.p rfl) rfl fld37_1 ?_
  refine r_load1 (.p rfl) rfl ag28 rfl rfl ?_
  refine r_fieldAddr (.p rfl) rfl fld37_1 ?_
  refine r_load1 (.p rfl) rfl ag28 rfl rfl ?_
  obtain ⟨v2, a2, h⟩ := bind_some h
  refine r_call (ds0 := [_, _]) [] (slices_Compare_int_int_c N p0.fNext p1.fNext v2 a2) (.p rfl) gd59 rfl ⟨rfl, rfl, trivial⟩ rfl rfl rfl (nodupB_spec rfl) trivial rfl ?_
  refine r_fieldAddr (.p rfl) rfl fld37_2 ?_
  refine r_load1 (.p rfl) rfl ag35 rfl rfl ?_
  refine r_fieldAddr (.p rfl) rfl fld37_2 ?_
  refine r_load1 (.p rfl) rfl ag35 rfl rfl ?_
  obtain ⟨v3, a3, h⟩ := bind_some h
  refine r_call (ds0 := [_, _]) [] (slices_Compare_api_Set_api_Set_c N p0.fHeld p1.fHeld v3 a3) (.p rfl) gd60 rfl ⟨rfl, rfl, trivial⟩ rfl rfl rfl (nodupB_spec rfl) trivial rfl ?_
  refine r_buildSlice [(0, .tmp 9, _), (1, .tmp 14, _), (2, .tmp 19, _)] (.p rfl) rfl ⟨rfl, rfl, rfl, trivial⟩ rfl slc28 sz3 zv3 rfl rfl (leb rfl) rfl rfl ?_
  obtain ⟨v4, a4, h⟩ := bind_some h
  refine r_callL (ds0 := [_]) [] [(20, _)] (cmp_Or_int_c N (([v1, v2, v3] : List Int)) v4 a4) (.p rfl) gd58 rfl ⟨rfl, trivial⟩ ⟨rfl, trivial⟩ rfl rfl rfl (nodupB_spec rfl) trivial rfl flatV_nil rfl ?_
  refine r_assign (.p rfl) rfl ?_
  refine r_endD (by kernel_rfl) ?_
  obtain rfl := Option.some.inj h
  refine W_sees (sees_mk (rn []) [(4, .e (.one (.pure (.val (.int .i64 v4)))))] [] ⟨rfl, trivial⟩ trivial rfl rfl) (W_ret ?_)
  exact ⟨⟨[_], ⟨.tmp _ _ rfl, trivial⟩, rfl⟩, trivial⟩

set_option maxRecDepth 10000 in
theorem sheavelaw36_MixCompare_c (N : Nat) (p0 : ApiMix) (p1 : ApiMix) (p2 : ApiMix) (r : Bool) (h : Sh.sheavelaw36_MixCompare N p0 p1 p2 = some r) : Contract Try.prog 9 [.e (.agg [.pure (.sl (p0.fBase.map eI64)), .pure (.sl (p0.fNext.map eI64)), .pure (.sl (p0.fHeld.map eU8))]), .e (.agg [.pure (.sl (p1.fBase.map eI64)), .pure (.sl (p1.fNext.map eI64)), .pure (.sl (p1.fHeld.map eU8))]), .e (.agg [.pure (.sl (p2.fBase.map eI64)), .pure (.sl (p2.fNext.map eI64)), .pure (.sl (p2.fHeld.map eU8))])] [] (.e (.one (.pure (.val (.bool r))))) := by
  unfold Sh.sheavelaw36_MixCompare at h
  refine contract_of_W (n := 68) (rs := [.tmp 6]) Try.func9 rfl rfl rfl (leb rfl) rfl fun w0 S0 => ?_
  refine W_seq ?_
  refine W_region mixed rfl ?_
  refine r_box (.p rfl) rfl rfl ?_
  refine r_box (.p rfl) rfl rfl ?_
  refine r_box (.p rfl) rfl rfl ?_
  refine r_assign (.p rfl) rfl ?_
  refine r_end ?_
  refine W_seq ?_
  refine W_join h (fun v1 => mk [(3, .e (.one (.ptr 3 0))), (4, .e (.one (.ptr 4 0))), (5, .e (.one (.ptr 5 0))), (26, .e (.one (.pure (.val (.bool v1)))))] [(3, .box [.pure (.sl (p0.fBase.map eI64)), .pure (.sl (p0.fNext.map eI64)), .pure (.sl (p0.fHeld.map eU8))]), (4, .box [.pure (.sl (p1.fBase.map eI64)), .pure (.sl (p1.fNext.map eI64)), .pure (.sl (p1.fHeld.map eU8))]), (5, .box [.pure (.sl (p2.fBase.map eI64)), .pure (.sl (p2.fNext.map eI64)), .pure (.sl (p2.fHeld.map eU8))])]) (fun j1 h => ?_) (fun v1 h => ?_)
  · refine W_region mixed rfl ?_
    obtain ⟨v2, a2, h⟩ := bind_some h
    refine r_call (ds0 := []) [] (sheavelaw36_awake_c N v2 a2) (.p rfl) gd12 rfl trivial rfl rfl rfl (nodupB_spec rfl) trivial rfl ?_
    refine r_un (.p rfl) rfl (un_not _) rfl ?_
    refine r_move (.p rfl) rfl ?_
    refine r_split (t := 12) rfl (fun c3 => ?_) (fun c3 => ?_)
    · have h := cnd_t c3 h
      refine r_notB rfl rfl ?_
      refine r_notB rfl rfl ?_
      refine r_notB rfl rfl ?_
      refine r_pick (.p rfl) rfl rfl rfl ?_
      refine r_move (.p rfl) rfl ?_
      refine r_notB rfl rfl ?_
      refine r_notB rfl rfl ?_
      refine r_notB rfl rfl ?_
      refine r_pick (.p rfl) rfl rfl rfl ?_
      refine r_move (.p rfl) rfl ?_
      refine r_notB rfl rfl ?_
      refine r_notB rfl rfl ?_
      refine r_notB rfl rfl ?_
      refine r_pick (.p rfl) rfl rfl rfl ?_
      refine r_end ?_
      exact sink true h (sees_mk (rn []) _ _ ⟨rfl, rfl, rfl, rfl, trivial⟩ ⟨rfl, rfl, rfl, trivial⟩ rfl rfl)
    · have h := cnd_f c3 h
      refine r_loadN (.g rfl rfl) rfl ag37 sz37 rfl rfl rfl ?_
      obtain ⟨v4, a4, h⟩ := bind_some h
      refine r_call (ds0 := [_]) [] (sheaveref36_Few_c N p0 v4 a4) (.g rfl rfl) gd28 rfl ⟨rfl, trivial⟩ rfl rfl rfl (nodupB_spec rfl) trivial rfl ?_
      refine r_un (.g rfl rfl) rfl (un_not _) rfl ?_
      refine r_pick (.p rfl) rfl rfl rfl ?_
      refine r_move (.p rfl) rfl ?_
      refine r_split (t := 17) rfl (fun c5 => ?_) (fun c5 => ?_)
      · have h := cnd_t c5 h
        refine r_notB rfl rfl ?_
        refine r_notB rfl rfl ?_
        refine r_notB rfl rfl ?_
        refine r_pick (.p rfl) rfl rfl rfl ?_
        refine r_move (.p rfl) rfl ?_
        refine r_notB rfl rfl ?_
        refine r_notB rfl rfl ?_
        refine r_notB rfl rfl ?_
        refine r_pick (.p rfl) rfl rfl rfl ?_
        refine r_end ?_
        exact sink true h (sees_mk (rn []) _ _ ⟨rfl, rfl, rfl, rfl, trivial⟩ ⟨rfl, rfl, rfl, trivial⟩ rfl rfl)
      · have h := cnd_f c5 h
        refine r_loadN (.g rfl rfl) rfl ag37 sz37 rfl rfl rfl ?_
        obtain ⟨v6, a6, h⟩ := bind_some h
        refine r_call (ds0 := [_]) [] (sheaveref36_Few_c N p1 v6 a6) (.g rfl rfl) gd28 rfl ⟨rfl, trivial⟩ rfl rfl rfl (nodupB_spec rfl) trivial rfl ?_
        refine r_un (.g rfl rfl) rfl (un_not _) rfl ?_
        refine r_pick (.p rfl) rfl rfl rfl ?_
        refine r_move (.p rfl) rfl ?_
        refine r_split (t := 22) rfl (fun c7 => ?_) (fun c7 => ?_)
        · have h := cnd_t c7 h
          refine r_notB rfl rfl ?_
          refine r_notB rfl rfl ?_
          refine r_notB rfl rfl ?_
          refine r_pick (.p rfl) rfl rfl rfl ?_
          refine r_end ?_
          exact sink true h (sees_mk (rn []) _ _ ⟨rfl, rfl, rfl, rfl, trivial⟩ ⟨rfl, rfl, rfl, trivial⟩ rfl rfl)
        · have h := cnd_f c7 h
          refine r_loadN (.g rfl rfl) rfl ag37 sz37 rfl rfl rfl ?_
          obtain ⟨v8, a8, h⟩ := bind_some h
          refine r_call (ds0 := [_]) [] (sheaveref36_Few_c N p2 v8 a8) (.g rfl rfl) gd28 rfl ⟨rfl, trivial⟩ rfl rfl rfl (nodupB_spec rfl) trivial rfl ?_
          refine r_un (.g rfl rfl) rfl (un_not _) rfl ?_
          refine r_pick (.p rfl) rfl rfl rfl ?_
          refine r_end ?_
          exact sink (!v8) h (sees_mk (rn []) _ _ ⟨rfl, rfl, rfl, rfl, trivial⟩ ⟨rfl, rfl, rfl, trivial⟩ rfl rfl)
  · refine W_cond rfl (fun c9 => ?_) (fun c9 => ?_)
    · have h := cnd_t c9 h
      refine W_seq ?_
      refine W_region mixed rfl ?_
      obtain ⟨v10, a10, h⟩ := bind_some h
      refine r_call (ds0 := []) [] (sheavelaw36_awake_c N v10 a10) (.p rfl) gd12 rfl trivial rfl rfl rfl (nodupB_spec rfl) trivial rfl ?_
      refine r_assign (.p rfl) rfl ?_
      refine r_end ?_
      obtain rfl := Option.some.inj h
      refine W_sees (sees_mk (rn []) [(6, .e (.one (.pure (.val (.bool v10)))))] [] ⟨rfl, trivial⟩ trivial rfl rfl) (W_ret ?_)
      exact ⟨⟨[_], ⟨.tmp _ _ rfl, trivial⟩, rfl⟩, trivial⟩
    · have h := cnd_f c9 h
      refine W_skip ?_
      refine W_seq ?_
      refine W_region mixed rfl ?_
      refine r_loadN (.p rfl) rfl ag37 sz37 rfl rfl rfl ?_
      refine r_loadN (.p rfl) rfl ag37 sz37 rfl rfl rfl ?_
      obtain ⟨v11, a11, h⟩ := bind_some h
      refine r_call (ds0 := [_, _]) [] (mix_Compare_c N p0 p1 v11 a11) (.p rfl) gd33 rfl ⟨rfl, rfl, trivial⟩ rfl rfl rfl (nodupB_spec rfl) trivial rfl ?_
      refine r_loadN (.p rfl) rfl ag37 sz37 rfl rfl rfl ?_
      refine r_loadN (.p rfl) rfl ag37 sz37 rfl rfl rfl ?_
      obtain ⟨v12, a12, h⟩ := bind_some h
      refine r_call (ds0 := [_, _]) [] (mix_Compare_c N p1 p2 v12 a12) (.p rfl) gd33 rfl ⟨rfl, rfl, trivial⟩ rfl rfl rfl (nodupB_spec rfl) trivial rfl ?_
      refine r_loadN (.p rfl) rfl ag37 sz37 rfl rfl rfl ?_
      refine r_loadN (.p rfl) rfl ag37 sz37 rfl rfl rfl ?_
      obtain ⟨v13, a13, h⟩ := bind_some h
      refine r_call (ds0 := [_, _]) [] (mix_Compare_c N p0 p2 v13 a13) (.p rfl) gd33 rfl ⟨rfl, rfl, trivial⟩ rfl rfl rfl (nodupB_spec rfl) trivial rfl ?_
      refine r_assign (.p rfl) rfl ?_
      refine r_assign (.p rfl) rfl ?_
      refine r_assign (.p rfl) rfl ?_
      refine r_endD (by kernel_rfl) ?_
      refine W_join h (fun v14 => mk [(6, .e (.one (.pure (.val (.bool v14)))))] []) (fun j14 h => ?_) (fun v14 h => ?_)
      · refine W_region mixed rfl ?_
        refine r_move (.p rfl) rfl ?_
        refine r_loadN (.p rfl) rfl ag37 sz37 rfl rfl rfl ?_
        refine r_loadN (.p rfl) rfl ag37 sz37 rfl rfl rfl ?_
        obtain ⟨v15, a15, h⟩ := bind_some h
        refine r_call (ds0 := [_, _]) [] (sheaveref36_Compare_c N p0 p1 v15 a15) (.p rfl) gd34 rfl ⟨rfl, rfl, trivial⟩ rfl rfl rfl (nodupB_spec rfl) trivial rfl ?_
        refine r_bin (.p rfl) rfl rfl (bin_eql _ _ _ _ _ _) rfl ?_
        refine r_move (.p rfl) rfl ?_
        refine r_split (t := 42) rfl (fun c16 => ?_) (fun c16 => ?_)
        · have h := cnd_t c16 h
          refine r_loadN (.g rfl rfl) rfl ag37 sz37 rfl rfl rfl ?_
          refine r_loadN (.g rfl rfl) rfl ag37 sz37 rfl rfl rfl ?_
          obtain ⟨v17, a17, h⟩ := bind_some h
          refine r_call (ds0 := [_, _]) [] (mix_Compare_c N p1 p0 v17 a17) (.g rfl rfl) gd33 rfl ⟨rfl, rfl, trivial⟩ rfl rfl rfl (nodupB_spec rfl) trivial rfl ?_
          refine r_move (.g rfl rfl) rfl ?_
          refine r_un (.g rfl rfl) rfl (un_neg _ _) rfl ?_
          refine r_bin (.g rfl rfl) rfl rfl (bin_eql _ _ _ _ _ _) rfl ?_
          refine r_pick (.p rfl) rfl rfl rfl ?_
          refine r_move (.p rfl) rfl ?_
          refine r_split (t := 50) rfl (fun c18 => ?_) (fun c18 => ?_)
          · have h := cnd_t c18 h
            refine r_loadN (.g rfl rfl) rfl ag37 sz37 rfl rfl rfl ?_
            refine r_loadN (.g rfl rfl) rfl ag37 sz37 rfl rfl rfl ?_
            obtain ⟨v19, a19, h⟩ := bind_some h
            refine r_call (ds0 := [_, _]) [] (mix_Compare_c N p0 p0 v19 a19) (.g rfl rfl) gd33 rfl ⟨rfl, rfl, trivial⟩ rfl rfl rfl (nodupB_spec rfl) trivial rfl ?_
            refine r_bin (.g rfl rfl) rfl rfl (bin_eql _ _ _ _ _ _) rfl ?_
            refine r_pick (.p rfl) rfl rfl rfl ?_
            refine r_move (.p rfl) rfl ?_
            refine r_split (t := 56) rfl (fun c20 => ?_) (fun c20 => ?_)
            · have h := cnd_t c20 h
              refine r_move (.g rfl rfl) rfl ?_
              refine r_bin (.g rfl rfl) rfl rfl (bin_gtr _ _ _ _ _ _) rfl ?_
              refine r_move (.g rfl rfl) rfl ?_
              refine r_split (t := 59) rfl (fun c21 => ?_) (fun c21 => ?_)
              · have h := cnd_t c21 h
                refine r_notB rfl rfl ?_
                refine r_notB rfl rfl ?_
                refine r_pick (.g rfl rfl) rfl rfl rfl ?_
                refine r_move (.g rfl rfl) rfl ?_
                refine r_notB rfl rfl ?_
                refine r_notB rfl rfl ?_
                refine r_pick (.g rfl rfl) rfl rfl rfl ?_
                refine r_pick (.p rfl) rfl rfl rfl ?_
                refine r_assign (.p rfl) rfl ?_
                refine r_end ?_
                exact sink true h (sees_mk (rn []) _ _ ⟨rfl, trivial⟩ trivial rfl rfl)
              · have h := cnd_f c21 h
                refine r_move (.g rfl rfl) rfl ?_
                refine r_bin (.g rfl rfl) rfl rfl (bin_gtr _ _ _ _ _ _) rfl ?_
                refine r_pick (.g rfl rfl) rfl rfl rfl ?_
                refine r_move (.g rfl rfl) rfl ?_
                refine r_split (t := 63) rfl (fun c22 => ?_) (fun c22 => ?_)
                · have h := cnd_t c22 h
                  refine r_notB rfl rfl ?_
                  refine r_notB rfl rfl ?_
                  refine r_pick (.g rfl rfl) rfl rfl rfl ?_
                  refine r_pick (.p rfl) rfl rfl rfl ?_
                  refine r_assign (.p rfl) rfl ?_
                  refine r_end ?_
                  exact sink true h (sees_mk (rn []) _ _ ⟨rfl, trivial⟩ trivial rfl rfl)
                · have h := cnd_f c22 h
                  refine r_move (.g rfl rfl) rfl ?_
                  refine r_bin (.g rfl rfl) rfl rfl (bin_leq _ _ _ _ _ _) rfl ?_
                  refine r_pick (.g rfl rfl) rfl rfl rfl ?_
                  refine r_pick (.p rfl) rfl rfl rfl ?_
                  refine r_assign (.p rfl) rfl ?_
                  refine r_end ?_
                  exact sink (decide (v13 ≤ 0)) h (sees_mk (rn []) _ _ ⟨rfl, trivial⟩ trivial rfl rfl)
            · have h := cnd_f c20 h
              refine r_notB rfl rfl ?_
              refine r_notB rfl rfl ?_
              refine r_notB rfl rfl ?_
              refine r_notU rfl rfl ?_
              refine r_notU rfl rfl ?_
              refine r_notB rfl rfl ?_
              refine r_notB rfl rfl ?_
              refine r_notU rfl rfl ?_
              refine r_notU rfl rfl ?_
              refine r_notB rfl rfl ?_
              refine r_pick (.p rfl) rfl rfl rfl ?_
              refine r_assign (.p rfl) rfl ?_
              refine r_end ?_
              exact sink false h (sees_mk (rn []) _ _ ⟨rfl, trivial⟩ trivial rfl rfl)
          · have h := cnd_f c18 h
            refine r_notB rfl rfl ?_
            refine r_notB rfl rfl ?_
            refine r_notB rfl rfl ?_
            refine r_notB rfl rfl ?_
            refine r_pick (.p rfl) rfl rfl rfl ?_
            refine r_move (.p rfl) rfl ?_
            refine r_notB rfl rfl ?_
            refine r_notB rfl rfl ?_
            refine r_notB rfl rfl ?_
            refine r_notU rfl rfl ?_
            refine r_notU rfl rfl ?_
            refine r_notB rfl rfl ?_
            refine r_notB rfl rfl ?_
            refine r_notU rfl rfl ?_
            refine r_notU rfl rfl ?_
            refine r_notB rfl rfl ?_
            refine r_pick (.p rfl) rfl rfl rfl ?_
            refine r_assign (.p rfl) rfl ?_
            refine r_end ?_
            exact sink false h (sees_mk (rn []) _ _ ⟨rfl, trivial⟩ trivial rfl rfl)
        · have h := cnd_f c16 h
          refine r_notB rfl rfl ?_
          refine r_notB rfl rfl ?_
          refine r_notB rfl rfl ?_
          refine r_notB rfl rfl ?_
          refine r_notB rfl rfl ?_
          refine r_notB rfl rfl ?_
          refine r_pick (.p rfl) rfl rfl rfl ?_
          refine r_move (.p rfl) rfl ?_
          refine r_notB rfl rfl ?_
          refine r_notB rfl rfl ?_
          refine r_notB rfl rfl ?_
          refine r_notB rfl rfl ?_
          refine r_pick (.p rfl) rfl rfl rfl ?_
          refine r_move (.p rfl) rfl ?_
          refine r_notB rfl rfl ?_
          refine r_notB rfl rfl ?_
          refine r_notB rfl rfl ?_
          refine r_notU rfl rfl ?_
          refine r_notU rfl rfl ?_
          refine r_notB rfl rfl ?_
          refine r_notB rfl rfl ?_
          refine r_notU rfl rfl ?_
          refine r_notU rfl rfl ?_
          refine r_notB rfl rfl ?_
          refine r_pick (.p rfl) rfl rfl rfl ?_
          refine r_assign (.p rfl) rfl ?_
          refine r_end ?_
          exact sink false h (sees_mk (rn []) _ _ ⟨rfl, trivial⟩ trivial rfl rfl)
      · obtain rfl := Option.some.inj h
        refine W_sees (sees_mk (rn []) [(6, .e (.one (.pure (.val (.bool v14)))))] [] ⟨rfl, trivial⟩ trivial rfl rfl) (W_ret ?_)
        exact ⟨⟨[_], ⟨.tmp _ _ rfl, trivial⟩, rfl⟩, trivial⟩

end Go.Lift
