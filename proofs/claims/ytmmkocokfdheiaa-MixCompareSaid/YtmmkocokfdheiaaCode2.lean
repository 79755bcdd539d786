/- Lemmas for MixCompareSaid, which YtmmkocokfdheiaaFin9 proves. -/
/- That the code does what the shallow programs do, function by function. Written by a program (gen.py). -/
import Derived.Test.YtmmkocokfdheiaaCode1
namespace Go.Lift
open Go.RowKit
open Go.Proofs
set_option maxRecDepth 10000 in
theorem sheavelaw36_MixCompare_c (N : Nat) (p0 : ApiMix) (p1 : ApiMix) (p2 : ApiMix) (r : Bool) (h : Sh.sheavelaw36_MixCompare N p0 p1 p2 = some r) : Contract Try.prog 9 [.e (.agg [.pure (.sl (p0.fBase.map eI64)), .pure (.sl (p0.fNext.map eI64)), .pure (.sl (p0.fHeld.map eU8))]), .e (.agg [.pure (.sl (p1.fBase.map eI64)), .pure (.sl (p1.fNext.map eI64)), .pure (.sl (p1.fHeld.map eU8))]), .e (.agg [.pure (.sl (p2.fBase.map eI64)), .pure (.sl (p2.fNext.map eI64)), .pure (.sl (p2.fHeld.map eU8))])] [] (.e (.one (.pure (.val (.bool r))))) := by
  unfold Sh.sheavelaw36_MixCompare at h
  refine contract_of_W (n := 68) (rs := [.tmp 6]) Try.func9 rfl rfl rfl (leb rfl) rfl fun w0 S0 => ?_
  refine W_seq ?_
  refine W_region mixed rfl ?_
  refine r_box (.p rfl) rfl rfl ?_
  refine r_box (.p rfl) rfl rfl ?_
  refine r_box (.p rfl) rfl rfl ?_
  refine r_assign (.p rfl) rfl ?_
  refine r_end ?_
  refine W_seq ?_
  refine W_join h (fun v1 => mk [(3, .e (.one (.ptr 3 0))), (4, .e (.one (.ptr 4 0))), (5, .e (.one (.ptr 5 0))), (26, .e (.one (.pure (.val (.bool v1)))))] [(3, .box [.pure (.sl (p0.fBase.map eI64)), .pure (.sl (p0.fNext.map eI64)), .pure (.sl (p0.fHeld.map eU8))]), (4, .box [.pure (.sl (p1.fBase.map eI64)), .pure (.sl (p1.fNext.map eI64)), .pure (.sl (p1.fHeld.map eU8))]), (5, .box [.pure (.sl (p2.fBase.map eI64)), .pure (.sl (p2.fNext.map eI64)), .pure (.sl (p2.fHeld.map eU8))])]) (fun j1 h => ?_) (fun v1 h => ?_)
  · refine W_region mixed rfl ?_
    obtain ⟨v2, a2, h⟩ := bind_some h
    refine r_call (ds0 := []) [] (sheavelaw36_awake_c N v2 a2) (.p rfl) gd12 rfl trivial rfl rfl rfl (nodupB_spec rfl) trivial rfl ?_
    refine r_un (.p rfl) rfl (un_not _) rfl ?_
    refine r_move (.p rfl) rfl ?_
    refine r_split (t := 12) rfl (fun c3 => ?_) (fun c3 => ?_)
    · have h := cnd_t c3 h
      refine r_notB rfl rfl ?_
      refine r_notB rfl rfl ?_
      refine r_notB rfl rfl ?_
      refine r_pick (.p rfl) rfl rfl rfl ?_
      refine r_move (.p rfl) rfl ?_
      refine r_notB rfl rfl ?_
      refine r_notB rfl rfl ?_
      refine r_notB rfl rfl ?_
      refine r_pick (.p rfl) rfl rfl rfl ?_
      refine r_move (.p rfl) rfl ?_
      refine r_notB rfl rfl ?_
      refine r_notB rfl rfl ?_
      refine r_notB rfl rfl ?_
      refine r_pick (.p rfl) rfl rfl rfl ?_
      refine r_end ?_
      exact sink true h (sees_mk (rn []) _ _ ⟨rfl, rfl, rfl, rfl, trivial⟩ ⟨rfl, rfl, rfl, trivial⟩ rfl rfl)
    · have h := cnd_f c3 h
      refine r_loadN (.g rfl rfl) rfl ag37 sz37 rfl rfl rfl ?_
      obtain ⟨v4, a4, h⟩ := bind_some h
      refine r_call (ds0 := [_]) [] (sheaveref36_Few_c N p0 v4 a4) (.g rfl rfl) gd28 rfl ⟨rfl, trivial⟩ rfl rfl rfl (nodupB_spec rfl) trivial rfl ?_
      refine r_un (.g rfl rfl) rfl (un_not _) rfl ?_
      refine r_pick (.p rfl) rfl rfl rfl ?_
      refine r_move (.p rfl) rfl ?_
      refine r_split (t := 17) rfl (fun c5 => ?_) (fun c5 => ?_)
      · have h := cnd_t c5 h
        refine r_notB rfl rfl ?_
        refine r_notB rfl rfl ?_
        refine r_notB rfl rfl ?_
        refine r_pick (.p rfl) rfl rfl rfl ?_
        refine r_move (.p rfl) rfl ?_
        refine r_notB rfl rfl ?_
        refine r_notB rfl rfl ?_
        refine r_notB rfl rfl ?_
        refine r_pick (.p rfl) rfl rfl rfl ?_
        refine r_end ?_
        exact sink true h (sees_mk (rn []) _ _ ⟨rfl, rfl, rfl, rfl, trivial⟩ ⟨rfl, rfl, rfl, trivial⟩ rfl rfl)
      · have h := cnd_f c5 h
        refine r_loadN (.g rfl rfl) rfl ag37 sz37 rfl rfl rfl ?_
        obtain ⟨v6, a6, h⟩ := bind_some h
        refine r_call (ds0 := [_]) [] (sheaveref36_Few_c N p1 v6 a6) (.g rfl rfl) gd28 rfl ⟨rfl, trivial⟩ rfl rfl rfl (nodupB_spec rfl) trivial rfl ?_
        refine r_un (.g rfl rfl) rfl (un_not _) rfl ?_
        refine r_pick (.p rfl) rfl rfl rfl ?_
        refine r_move (.p rfl) rfl ?_
        refine r_split (t := 22) rfl (fun c7 => ?_) (fun c7 => ?_)
        · have h := cnd_t c7 h
          refine r_notB rfl rfl ?_
          refine r_notB rfl rfl ?_
          refine r_notB rfl rfl ?_
          refine r_pick (.p rfl) rfl rfl rfl ?_
          refine r_end ?_
          exact sink true h (sees_mk (rn []) _ _ ⟨rfl, rfl, rfl, rfl, trivial⟩ ⟨rfl, rfl, rfl, trivial⟩ rfl rfl)
        · have h := cnd_f c7 h
          refine r_loadN (.g rfl rfl) rfl ag37 sz37 rfl rfl rfl ?_
          obtain ⟨v8, a8, h⟩ := bind_some h
          refine r_call (ds0 := [_]) [] (sheaveref36_Few_c N p2 v8 a8) (.g rfl rfl) gd28 rfl ⟨rfl, trivial⟩ rfl rfl rfl (nodupB_spec rfl) trivial rfl ?_
          refine r_un (.g rfl rfl) rfl (un_not _) rfl ?_
          refine r_pick (.p rfl) rfl rfl rfl ?_
          refine r_end ?_
          exact sink (!v8) h (sees_mk (rn []) _ _ ⟨rfl, rfl, rfl, rfl, trivial⟩ ⟨rfl, rfl, rfl, trivial⟩ rfl rfl)
  · refine W_cond rfl (fun c9 => ?_) (fun c9 => ?_)
    · have h := cnd_t c9 h
      refine W_seq ?_
      refine W_region mixed rfl ?_
      obtain ⟨v10, a10, h⟩ := bind_some h
      refine r_call (ds0 := []) [] (sheavelaw36_awake_c N v10 a10) (.p rfl) gd12 rfl trivial rfl rfl rfl (nodupB_spec rfl) trivial rfl ?_
      refine r_assign (.p rfl) rfl ?_
      refine r_end ?_
      obtain rfl := Option.some.inj h
      refine W_sees (sees_mk (rn []) [(6, .e (.one (.pure (.val (.bool v10)))))] [] ⟨rfl, trivial⟩ trivial rfl rfl) (W_ret ?_)
      exact ⟨⟨[_], ⟨.tmp _ _ rfl, trivial⟩, rfl⟩, trivial⟩
    · have h := cnd_f c9 h
      refine W_skip ?_
      refine W_seq ?_
      refine W_region mixed rfl ?_
      refine r_loadN (.p rfl) rfl ag37 sz37 rfl rfl rfl ?_
      refine r_loadN (.p rfl) rfl ag37 sz37 rfl rfl rfl ?_
      obtain ⟨v11, a11, h⟩ := bind_some h
      refine r_call (ds0 := [_, _]) [] (mix_Compare_c N p0 p1 v11 a11) (.p rfl) gd33 rfl ⟨rfl, rfl, trivial⟩ rfl rfl rfl (nodupB_spec rfl) trivial rfl ?_
      refine r_loadN (.p rfl) rfl ag37 sz37 rfl rfl rfl ?_
      refine r_loadN (.p rfl) rfl ag37 sz37 rfl rfl rfl ?_
      obtain ⟨v12, a12, h⟩ := bind_some h
      refine r_call (ds0 := [_, _]) [] (mix_Compare_c N p1 p2 v12 a12) (.p rfl) gd33 rfl ⟨rfl, rfl, trivial⟩ rfl rfl rfl (nodupB_spec rfl) trivial rfl ?_
      refine r_loadN (.p rfl) rfl ag37 sz37 rfl rfl rfl ?_
      refine r_loadN (.p rfl) rfl ag37 sz37 rfl rfl rfl ?_
      obtain ⟨v13, a13, h⟩ := bind_some h
      refine r_call (ds0 := [_, _]) [] (mix_Compare_c N p0 p2 v13 a13) (.p rfl) gd33 rfl ⟨rfl, rfl, trivial⟩ rfl rfl rfl (nodupB_spec rfl) trivial rfl ?_
      refine r_assign (.p rfl) rfl ?_
      refine r_assign (.p rfl) rfl ?_
      refine r_assign (.p rfl) rfl ?_
      refine r_endD (by kernel_rfl) ?_
      refine W_join h (fun v14 => mk [(6, .e (.one (.pure (.val (.bool v14)))))] []) (fun j14 h => ?_) (fun v14 h => ?_)
      · refine W_region mixed rfl ?_
        refine r_move (.p rfl) rfl ?_
        refine r_loadN (.p rfl) rfl ag37 sz37 rfl rfl rfl ?_
        refine r_loadN (.p rfl) rfl ag37 sz37 rfl rfl rfl ?_
        obtain ⟨v15, a15, h⟩ := bind_some h
        refine r_call (ds0 := [_, _]) [] (sheaveref36_Compare_c N p0 p1 v15 a15) (.p rfl) gd34 rfl ⟨rfl, rfl, trivial⟩ rfl rfl rfl (nodupB_spec rfl) trivial rfl ?_
        refine r_bin (.p rfl) rfl rfl (bin_eql _ _ _ _ _ _) rfl ?_
        refine r_move (.p rfl) rfl ?_
        refine r_split (t := 42) rfl (fun c16 => ?_) (fun c16 => ?_)
        · have h := cnd_t c16 h
          refine r_loadN (.g rfl rfl) rfl ag37 sz37 rfl rfl rfl ?_
          refine r_loadN (.g rfl rfl) rfl ag37 sz37 rfl rfl rfl ?_
          obtain ⟨v17, a17, h⟩ := bind_some h
          refine r_call (ds0 := [_, _]) [] (mix_Compare_c N p1 p0 v17 a17) (.g rfl rfl) gd33 rfl ⟨rfl, rfl, trivial⟩ rfl rfl rfl (nodupB_spec rfl) trivial rfl ?_
          refine r_move (.g rfl rfl) rfl ?_
          refine r_un (.g rfl rfl) rfl (un_neg _ _) rfl ?_
          refine r_bin (.g rfl rfl) rfl rfl (bin_eql _ _ _ _ _ _) rfl ?_
          refine r_pick (.p rfl) rfl rfl rfl ?_
          refine r_move (.p rfl) rfl ?_
          refine r_split (t := 50) rfl (fun c18 => ?_) (fun c18 => ?_)
          · have h := cnd_t c18 h
            refine r_loadN (.g rfl rfl) rfl ag37 sz37 rfl rfl rfl ?_
            refine r_loadN (.g rfl rfl) rfl ag37 sz37 rfl rfl rfl ?_
            obtain ⟨v19, a19, h⟩ := bind_some h
            refine r_call (ds0 := [_, _]) [] (mix_Compare_c N p0 p0 v19 a19) (.g rfl rfl) gd33 rfl ⟨rfl, rfl, trivial⟩ rfl rfl rfl (nodupB_spec rfl) trivial rfl ?_
            refine r_bin (.g rfl rfl) rfl rfl (bin_eql _ _ _ _ _ _) rfl ?_
            refine r_pick (.p rfl) rfl rfl rfl ?_
            refine r_move (.p rfl) rfl ?_
            refine r_split (t := 56) rfl (fun c20 => ?_) (fun c20 => ?_)
            · have h := cnd_t c20 h
              refine r_move (.g rfl rfl) rfl ?_
              refine r_bin (.g rfl rfl) rfl rfl (bin_gtr _ _ _ _ _ _) rfl ?_
              refine r_move (.g rfl rfl) rfl ?_
              refine r_split (t := 59) rfl (fun c21 => ?_) (fun c21 => ?_)
              · have h := cnd_t c21 h
                refine r_notB rfl rfl ?_
                refine r_notB rfl rfl ?_
                refine r_pick (.g rfl rfl) rfl rfl rfl ?_
                refine r_move (.g rfl rfl) rfl ?_
                refine r_notB rfl rfl ?_
                refine r_notB rfl rfl ?_
                refine r_pick (.g rfl rfl) rfl rfl rfl ?_
                refine r_pick (.p rfl) rfl rfl rfl ?_
                refine r_assign (.p rfl) rfl ?_
                refine r_end ?_
                exact sink true h (sees_mk (rn []) _ _ ⟨rfl, trivial⟩ trivial rfl rfl)
              · have h := cnd_f c21 h
                refine r_move (.g rfl rfl) rfl ?_
                refine r_bin (.g rfl rfl) rfl rfl (bin_gtr _ _ _ _ _ _) rfl ?_
                refine r_pick (.g rfl rfl) rfl rfl rfl ?_
                refine r_move (.g rfl rfl) rfl ?_
                refine r_split (t := 63) rfl (fun c22 => ?_) (fun c22 => ?_)
                · have h := cnd_t c22 h
                  refine r_notB rfl rfl ?_
                  refine r_notB rfl rfl ?_
                  refine r_pick (.g rfl rfl) rfl rfl rfl ?_
                  refine r_pick (.p rfl) rfl rfl rfl ?_
                  refine r_assign (.p rfl) rfl ?_
                  refine r_end ?_
                  exact sink true h (sees_mk (rn []) _ _ ⟨rfl, trivial⟩ trivial rfl rfl)
                · have h := cnd_f c22 h
                  refine r_move (.g rfl rfl) rfl ?_
                  refine r_bin (.g rfl rfl) rfl rfl (bin_leq _ _ _ _ _ _) rfl ?_
                  refine r_pick (.g rfl rfl) rfl rfl rfl ?_
                  refine r_pick (.p rfl) rfl rfl rfl ?_
                  refine r_assign (.p rfl) rfl ?_
                  refine r_end ?_
                  exact sink (decide (v13 ≤ 0)) h (sees_mk (rn []) _ _ ⟨rfl, trivial⟩ trivial rfl rfl)
            · have h := cnd_f c20 h
              refine r_notB rfl rfl ?_
              refine r_notB rfl rfl ?_
              refine r_notB rfl rfl ?_
              refine r_notU rfl rfl ?_
              refine r_notU rfl rfl ?_
              refine r_notB rfl rfl ?_
              refine r_notB rfl rfl ?_
              refine r_notU rfl rfl ?_
              refine r_notU rfl rfl ?_
              refine r_notB rfl rfl ?_
              refine r_pick (.p rfl) rfl rfl rfl ?_
              refine r_assign (.p rfl) rfl ?_
              refine r_end ?_
              exact sink false h (sees_mk (rn []) _ _ ⟨rfl, trivial⟩ trivial rfl rfl)
          · have h := cnd_f c18 h
            refine r_notB rfl rfl ?_
            refine r_notB rfl rfl ?_
            refine r_notB rfl rfl ?_
            refine r_notB rfl rfl ?_
            refine r_pick (.p rfl) rfl rfl rfl ?_
            refine r_move (.p rfl) rfl ?_
            refine r_notB rfl rfl ?_
            refine r_notB rfl rfl ?_
            refine r_notB rfl rfl ?_
            refine r_notU rfl rfl ?_
            refine r_notU rfl rfl ?_
            refine r_notB rfl rfl ?_
            refine r_notB rfl rfl ?_
            refine r_notU rfl rfl ?_
            refine r_notU rfl rfl ?_
            refine r_notB rfl rfl ?_
            refine r_pick (.p rfl) rfl rfl rfl ?_
            refine r_assign (.p rfl) rfl ?_
            refine r_end ?_
            exact sink false h (sees_mk (rn []) _ _ ⟨rfl, trivial⟩ trivial rfl rfl)
        · have h := cnd_f c16 h
          refine r_notB rfl rfl ?_
          refine r_notB rfl rfl ?_
          refine r_notB rfl rfl ?_
          refine r_notB rfl rfl ?_
          refine r_notB rfl rfl ?_
          refine r_notB rfl rfl ?_
          refine r_pick (.p rfl) rfl rfl rfl ?_
          refine r_move (.p rfl) rfl ?_
          refine r_notB rfl rfl ?_
          refine r_notB rfl rfl ?_
          refine r_notB rfl rfl ?_
          refine r_notB rfl rfl ?_
          refine r_pick (.p rfl) rfl rfl rfl ?_
          refine r_move (.p rfl) rfl ?_
          refine r_notB rfl rfl ?_
          refine r_notB rfl rfl ?_
          refine r_notB rfl rfl ?_
          refine r_notU rfl rfl ?_
          refine r_notU rfl rfl ?_
          refine r_notB rfl rfl ?_
          refine r_notB rfl rfl ?_
          refine r_notU rfl rfl ?_
          refine r_notU rfl rfl ?_
          refine r_notB rfl rfl ?_
          refine r_pick (.p rfl) rfl rfl rfl ?_
          refine r_assign (.p rfl) rfl ?_
          refine r_end ?_
          exact sink false h (sees_mk (rn []) _ _ ⟨rfl, trivial⟩ trivial rfl rfl)
      · obtain rfl := Option.some.inj h
        refine W_sees (sees_mk (rn []) [(6, .e (.one (.pure (.val (.bool v14)))))] [] ⟨rfl, trivial⟩ trivial rfl rfl) (W_ret ?_)
        exact ⟨⟨[_], ⟨.tmp _ _ rfl, trivial⟩, rfl⟩, trivial⟩

end Go.Lift
