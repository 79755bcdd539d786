/- Lemmas for AuditFirstCardSaid, which YtfgobbnahihlfaaGreatDoorFinA3 proves. -/
import Derived.Test.YtfgobbnahihlfaaGreatDoorCode3
open List renaming length_map → zY
open Go.Proofs.Tryz renaming prog → zA
namespace Go.Lift
set_option maxRecDepth 10000
open Go.RowKit
open Go.Proofs
theorem I8 (N : Nat) (p0 : Aa) (r : AL) (h : D7 N p0 = some r) : Ar zA 36 [.e (.agg (Ak p0))] [(1, r.fe.fh.map As), (1, r.fe.ff.map As), (1, r.fe.fg.map Dm)] (.e (.agg [iC r.fi, .pure (.val (.bool r.fK)), .pure (.val (.bool r.fJ)), .own 0, .own 1, .own 2])) := by
 unfold D7 at h
 refine cw (n := 12) (rs := [.cell 2 73]) Tryz.func36 fun w0 S0 => ?_
 refine wq rfl (qb rfl (qz R3 rfl (Ab (wq rfl (qL DG DA rfl ?_)))))
 refine B4 h fun v1 a1 h => Av [2001, 2002, 2003] (GN N p0 v1 a1) Wj rfl (qm rfl (qx rfl (qx rfl (qz Dj rfl (qs AU rfl (qa rfl (Ab (wq rfl (qL B0 AU rfl (Bq R3 WS rfl (qs HT rfl (Ab ?_))))))))))))
 obtain rfl := sj h
 refine Af (sm [(1000, 2001), (1001, 2002), (1002, 2003)] [(2, oD (.ptr 2 0))] [(2, .box [iC 0, .pure (.val (.bool false)), .pure (.val (.bool false)), .own 1000, .own 1001, .own 1002]), (1000, .vec 1 (v1.1.fh.map As)), (1001, .vec 1 (v1.1.ff.map As)), (1002, .vec 1 (v1.1.fg.map Dm))] rfl rfl) (Aq ?_)
 exact ⟨⟨[_], ⟨.cellN _ _ _ _ _ _ _ rfl rfl Lf HT rfl rfl (HQ rfl), tv⟩, rfl⟩, ⟨rfl, rfl, rfl, tv⟩⟩
theorem Gm (N : Nat) (p0 : Ac) (r : Bool) (h : CZ N p0 = some r) : Ar zA 75 [.e (.agg (AM p0))] [] (bD r) := by
 unfold CZ at h
 refine cw (n := 11) (rs := [.tmp 2]) Tryz.func75 fun w0 S0 => ?_
 refine wq rfl (qb rfl (qe rfl ?_))
 refine AF h (fun v1 => mk [(2, bD v1)] []) (fun j1 h => ?_) (fun v1 h => ?_)
 ·refine Aj Aw rfl (qf B8 rfl (ql AW rfl (C9 rfl (qm rfl ?_))))
  refine Cp 6 h rfl (fun h => ?_) fun h => ?_
  ·refine qf B8 rfl (ql AW rfl (KT rfl (qp rfl (qe rfl ?_))))
   exact sn [] h
  ·refine qw 3 rfl (qp rfl (qe rfl ?_))
   exact sn [] h
 ·obtain rfl := sj h
  refine Af (sm [] [(2, bD v1)] [] rfl rfl) (Aq ?_)
  exact ⟨⟨[_], tm, rfl⟩, tv⟩
theorem Jm (N : Nat) (p0 : Aa) (p1 : List Am) (p2 : AL) (p3 : Ac) (r : AL × Bool) (h : CP N p0 p1 p2 p3 = some r) : Ar zA 37 [.e (.agg (Ak p0)), pD (.sl (p1.map AP)), .e (.agg (AQ p2)), .e (.agg (AM p3))] [] (.tup [.agg (AQ r.1), .one (.pure (.val (.bool r.2)))]) := by
 unfold CP at h
 refine cw (n := 122) (rs := [.cell 8 73, .tmp 9]) Tryz.func37 fun w0 S0 => ?_
 refine wq rfl (qb rfl (qb rfl (qb rfl (qz R3 rfl (qa rfl (Ab (wp rfl (qL E9 CY rfl ?_))))))))
 refine B4 h fun v1 a1 h => Av [] (Gm N p3 v1 a1) UZ rfl (B9 rfl (Ab ?_))
 refine Bb h (fun h => ?_) fun h => ?_
 ·refine wq rfl (qL Lf HT rfl (qs HT rfl (qe rfl ?_)))
  obtain rfl := sj h
  refine Af (sm [] [(8, oD (.ptr 8 0)), (9, bD true)] [(8, .box (AQ p2))] rfl rfl) (Aq ?_)
  exact ⟨⟨[_, _], ⟨.cellN _ _ _ _ _ _ _ rfl rfl Lf HT rfl rfl (HQ rfl), tm⟩, rfl⟩, tv⟩
 ·refine Ap (AR ?_)
  refine AF h (fun v3 => mk [(1, pD (.sl (p1.map AP))), (4, oD (.ptr 4 0)), (6, oD (.ptr 6 0)), (7, oD (.ptr 7 0)), (8, oD (.ptr 8 0)), (26, bD v3)] [(4, .box (Ak p0)), (6, .box (AQ p2)), (7, .box (AM p3)), (8, .box [iC 0, .pure (.val (.bool false)), .pure (.val (.bool false)), .pure (.nil0), .pure (.nil0), .pure (.nil0)])]) (fun j3 h => ?_) (fun v3 h => ?_)
  ·refine Aj Aw rfl (qf IW rfl (ql AW rfl (qf JV rfl (ql AW rfl (BG rfl (qm rfl ?_))))))
   refine Cp 20 h rfl (fun h => ?_) fun h => ?_
   ·refine qw 5 rfl (qp rfl (Ab ?_))
    exact sn [] h
   ·refine qf JV rfl (ql AW rfl (qm rfl (AH GB rfl (C9 rfl (qp rfl (Ab ?_))))))
    exact sn [] h
  ·refine Bb h (fun h => ?_) fun h => ?_
   ·refine wq rfl (qL Lf HT rfl (qs HT rfl (qe rfl ?_)))
    obtain rfl := sj h
    refine Af (sm [] [(8, oD (.ptr 8 0)), (9, bD false)] [(8, .box (AQ p2))] rfl rfl) (Aq ?_)
    exact ⟨⟨[_, _], ⟨.cellN _ _ _ _ _ _ _ rfl rfl Lf HT rfl rfl (HQ rfl), tm⟩, rfl⟩, tv⟩
   ·refine Ap (wq rfl (qm rfl (qf JV rfl (ql AW rfl ?_))))
    refine BN h fun v6 a6 b6 h => qi GB FR a6 (Ag b6) rfl (qK In FR rfl (qz OH rfl (qs FR rfl (Ab ?_))))
    refine AF h (fun v7 => mk [(6, oD (.ptr 6 0)), (8, oD (.ptr 8 0))] [(6, .box [iC v7.1, .pure (.val (.bool v7.2.1)), .pure (.val (.bool v7.2.2.1)), sC (v7.2.2.2.1.map As), sC (v7.2.2.2.2.1.map As), sC (v7.2.2.2.2.2.map Dm)]), (8, .box [iC 0, .pure (.val (.bool false)), .pure (.val (.bool false)), .pure (.nil0), .pure (.nil0), .pure (.nil0)])]) (fun j7 h => ?_) (fun v7 h => ?_)
    ·refine AT ?_
     refine AF h (fun v8 => mk [(4, oD (.ptr 4 0)), (6, oD (.ptr 6 0)), (7, oD (.ptr 7 0)), (8, oD (.ptr 8 0)), (10, oD (.ptr 10 0)), (34, bD v8)] [(4, .box (Ak p0)), (6, .box (AQ p2)), (7, .box (AM p3)), (8, .box [iC 0, .pure (.val (.bool false)), .pure (.val (.bool false)), .pure (.nil0), .pure (.nil0), .pure (.nil0)]), (10, .box (BQ v6))]) (fun j8 h => ?_) (fun v8 h => ?_)
     ·refine Aj Aw rfl (qf B8 rfl (ql AW rfl (AN rfl (qm rfl ?_))))
      refine Cp 38 h rfl (fun h => ?_) fun h => ?_
      ·refine qf I5 rfl (ql Qd rfl (B9 rfl (qp rfl (qm rfl ?_))))
       refine Cp 43 h rfl (fun h => ?_) fun h => ?_
       ·refine qf Lh rfl (ql Qd rfl (B9 rfl (qp rfl (qe rfl ?_))))
        exact sn [] h
       ·refine qw 3 rfl (qp rfl (qe rfl ?_))
        exact sn [] h
      ·refine qw 3 rfl (qp rfl (qw 4 rfl (qp rfl (qe rfl ?_))))
       exact sn [] h
     ·refine Bb h (fun h => ?_) fun h => ?_
      ·refine wq rfl (qf I5 rfl (qs Rm rfl (Ab (wq rfl (qf C0 rfl (ql AW rfl (AN rfl (Ab ?_))))))))
       refine Bb h (fun h => ?_) fun h => ?_
       ·refine Aj Aw rfl (qL DG DA rfl (qf Gt rfl (qL B0 AU rfl (qL In FR rfl ?_))))
        refine B4 h fun v13 a13 h => Av [2001, 2002, 2003] (Eh N p0 ((Ae.mk p2.fe.fh p2.fe.ff p2.fe.fg)) v6 v13 a13) TO rfl (qm rfl (qx rfl (qx rfl (qf Gt rfl (qs AU rfl (Ab ?_))))))
        exact S9 _ h ((Bi 2001 _ _ rfl rfl).trans ((Bi 2002 _ _ rfl rfl).trans ((Bi 2003 _ _ rfl rfl).trans (sm [] _ _ rfl rfl))))
       ·refine Ap ?_
        exact sn [] h
      ·refine AF h (fun v14 => mk [(4, oD (.ptr 4 0)), (6, oD (.ptr 6 0)), (7, oD (.ptr 7 0)), (8, oD (.ptr 8 0)), (10, oD (.ptr 10 0)), (61, bD v14)] [(4, .box (Ak p0)), (6, .box (AQ p2)), (7, .box (AM p3)), (8, .box [iC 0, .pure (.val (.bool false)), .pure (.val (.bool false)), .pure (.nil0), .pure (.nil0), .pure (.nil0)]), (10, .box (BQ v6))]) (fun j14 h => ?_) (fun v14 h => ?_)
       ·refine Aj Aw rfl (qf B8 rfl (ql AW rfl (AN rfl (qm rfl ?_))))
        refine Cp 65 h rfl (fun h => ?_) fun h => ?_
        ·refine qf I5 rfl (ql Qd rfl (qp rfl (qe rfl ?_)))
         exact sn [] h
        ·refine qw 2 rfl (qp rfl (qe rfl ?_))
         exact sn [] h
       ·refine Bb h (fun h => ?_) fun h => ?_
        ·refine wq rfl (qf I5 rfl (qs Rm rfl (Ab (wq rfl (qf JV rfl (ql AW rfl (Cl rfl (qf JV rfl (qs CK rfl (Ab (wq rfl (qf C0 rfl (ql AW rfl (BG rfl (Ab ?_)))))))))))))))
         refine Bb h (fun h => ?_) fun h => ?_
         ·refine Aj Aw rfl (qL DG DA rfl (qf Gt rfl (qL B0 AU rfl (qL In FR rfl ?_))))
          refine B4 h fun v18 a18 h => Av [2004, 2005, 2006] (Eh N p0 ((Ae.mk p2.fe.fh p2.fe.ff p2.fe.fg)) v6 v18 a18) TO rfl (qm rfl (qx rfl (qx rfl (qf Gt rfl (qs AU rfl (Ab ?_))))))
          exact S9 _ h ((Bi 2004 _ _ rfl rfl).trans ((Bi 2005 _ _ rfl rfl).trans ((Bi 2006 _ _ rfl rfl).trans (sm [] _ _ rfl rfl))))
         ·refine Ap ?_
          exact sn [] h
        ·refine AF h (fun v19 => mk [(4, oD (.ptr 4 0)), (6, oD (.ptr 6 0)), (7, oD (.ptr 7 0)), (8, oD (.ptr 8 0)), (10, oD (.ptr 10 0)), (86, bD v19)] [(4, .box (Ak p0)), (6, .box (AQ p2)), (7, .box (AM p3)), (8, .box [iC 0, .pure (.val (.bool false)), .pure (.val (.bool false)), .pure (.nil0), .pure (.nil0), .pure (.nil0)]), (10, .box (BQ v6))]) (fun j19 h => ?_) (fun v19 h => ?_)
         ·refine Aj Aw rfl (qf B8 rfl (ql AW rfl (AN rfl (qm rfl ?_))))
          refine Cp 90 h rfl (fun h => ?_) fun h => ?_
          ·refine qf I5 rfl (ql Qd rfl (qp rfl (qm rfl ?_)))
           refine Cp 94 h rfl (fun h => ?_) fun h => ?_
           ·refine qf C0 rfl (ql AW rfl (AN rfl (qp rfl (qe rfl ?_))))
            exact sn [] h
           ·refine qw 3 rfl (qp rfl (qe rfl ?_))
            exact sn [] h
          ·refine qw 2 rfl (qp rfl (qw 4 rfl (qp rfl (qe rfl ?_))))
           exact sn [] h
         ·refine Bb h (fun h => ?_) fun h => ?_
          ·refine Aj Aw rfl (qf I5 rfl (qs Rm rfl (qf Lh rfl (qs Rm rfl (Ab ?_)))))
           exact sn [] h
          ·refine AF h (fun v23 => mk [(4, oD (.ptr 4 0)), (6, oD (.ptr 6 0)), (8, oD (.ptr 8 0)), (10, oD (.ptr 10 0)), (101, bD v23)] [(4, .box (Ak p0)), (6, .box (AQ p2)), (8, .box [iC 0, .pure (.val (.bool false)), .pure (.val (.bool false)), .pure (.nil0), .pure (.nil0), .pure (.nil0)]), (10, .box (BQ v6))]) (fun j23 h => ?_) (fun v23 h => ?_)
           ·refine Aj Aw rfl (qf B8 rfl (ql AW rfl (AN rfl (qm rfl ?_))))
            refine Cp 105 h rfl (fun h => ?_) fun h => ?_
            ·refine qf Lh rfl (ql Qd rfl (qp rfl (qe rfl ?_)))
             exact sn [] h
            ·refine qw 2 rfl (qp rfl (qe rfl ?_))
             exact sn [] h
           ·refine Bb h (fun h => ?_) fun h => ?_
            ·refine wq rfl (qf Lh rfl (qs Rm rfl (Ab (Aj Aw rfl (qL DG DA rfl (qf Gt rfl (qL B0 AU rfl (qf DK rfl (ql AW rfl (Bq OH TF rfl ?_))))))))))
             refine B4 h fun v26 a26 h => Av [2007, 2008, 2009] (Eh N p0 ((Ae.mk p2.fe.fh p2.fe.ff p2.fe.fg)) ((Am.mk 4 v6.fm 0)) v26 a26) TO rfl (qm rfl (qx rfl (qx rfl (qf Gt rfl (qs AU rfl (Ab ?_))))))
             exact S9 _ h ((Bi 2007 _ _ rfl rfl).trans ((Bi 2008 _ _ rfl rfl).trans ((Bi 2009 _ _ rfl rfl).trans (sm [] _ _ rfl rfl))))
            ·refine wq rfl (qL Lf HT rfl (qs HT rfl (qe rfl ?_)))
             obtain rfl := sj h
             refine Af (sm [] [(8, oD (.ptr 8 0)), (9, bD false)] [(8, .box (AQ p2))] rfl rfl) (Aq ?_)
             exact ⟨⟨[_, _], ⟨.cellN _ _ _ _ _ _ _ rfl rfl Lf HT rfl rfl (HQ rfl), tm⟩, rfl⟩, tv⟩
    ·refine wq rfl (qL Lf HT rfl (qs HT rfl (qe rfl ?_)))
     obtain rfl := sj h
     refine Af (sm [] [(8, oD (.ptr 8 0)), (9, bD true)] [(8, .box [iC v7.1, .pure (.val (.bool v7.2.1)), .pure (.val (.bool v7.2.2.1)), sC (v7.2.2.2.1.map As), sC (v7.2.2.2.2.1.map As), sC (v7.2.2.2.2.2.map Dm)])] rfl rfl) (Aq ?_)
     exact ⟨⟨[_, _], ⟨.cellN _ _ _ _ _ _ _ rfl rfl Lf HT rfl rfl (HQ rfl), tm⟩, rfl⟩, tv⟩
theorem JL (N : Nat) (p0 : Aa) (p1 : Ac) (r : Bool) (h : Cu N p0 p1 = some r) : Ar zA 63 [.e (.agg (Ak p0)), .e (.agg (AM p1))] [] (bD r) := by
 unfold Cu at h
 refine cw (n := 54) (rs := [.tmp 4]) Tryz.func63 fun w0 S0 => ?_
 refine wq rfl (qb rfl (qb rfl (qa rfl (Ab (wp rfl (qf B8 rfl (ql AW rfl (BG rfl (Ab ?_)))))))))
 refine Bb h (fun h => ?_) fun h => ?_
 ·refine wq rfl (qe rfl ?_)
  obtain rfl := sj h
  refine Af (sm [] [(4, bD false)] [] rfl rfl) (Aq ?_)
  exact ⟨⟨[_], tm, rfl⟩, tv⟩
 ·refine Ap (wp rfl (qf Fs rfl (ql AW rfl (qf BA rfl (ql EK rfl (AH CR rfl (C9 rfl (Ab ?_))))))))
  refine Bb h (fun h => ?_) fun h => ?_
  ·refine wq rfl (qe rfl ?_)
   obtain rfl := sj h
   refine Af (sm [] [(4, bD true)] [] rfl rfl) (Aq ?_)
   exact ⟨⟨[_], tm, rfl⟩, tv⟩
  ·refine Ap (wq rfl (qf BA rfl (ql EK rfl (qf Fs rfl (ql AW rfl ?_)))))
   refine BN h fun v3 a3 b3 h => qi CR BK a3 (Ag b3) rfl (qK Eu BK rfl (qz IC rfl (qs BK rfl (Ab ?_))))
   refine AF h (fun v4 => mk [(4, bD v4)] []) (fun j4 h => ?_) (fun v4 h => ?_)
   ·refine Aj Aw rfl (qf Fp rfl (ql AW rfl (qf BB rfl (ql Bd rfl (qf Cc rfl (ql AW rfl ?_))))))
    refine BN h fun v5 a5 b5 h => qi AA CK a5 (Ag b5) rfl (qk AW rfl (C9 rfl (qm rfl ?_)))
    refine Cp 30 h rfl (fun h => ?_) fun h => ?_
    ·refine qw 9 rfl (qp rfl (qw 12 rfl (qp rfl (qa rfl (AE (by kernel_rfl) ?_)))))
     exact sn [] h
    ·refine qf Gp rfl (ql AW rfl (qf BB rfl (ql Bd rfl (qf FU rfl (ql AW rfl ?_)))))
     refine BN h fun v7 a7 b7 h => qi AA CK a7 (Ag b7) rfl (qk AW rfl (C9 rfl (qp rfl (qm rfl ?_))))
     refine Cp 41 h rfl (fun h => ?_) fun h => ?_
     ·refine qw 11 rfl (qp rfl (qa rfl (AE (by kernel_rfl) ?_)))
      exact sn [] h
     ·refine qf Gx rfl (ql Fa rfl (qf Fp rfl (ql AW rfl ?_)))
      refine BN h fun v9 a9 b9 h => qi DW Jz a9 (Ag b9) rfl (qk Jv rfl (qf Gp rfl (ql AW rfl ?_)))
      refine BN h fun v10 a10 b10 h => qi HI Rm a10 (Ag b10) rfl (qk Qd rfl (B9 rfl (qp rfl (qa rfl (AE (by kernel_rfl) ?_)))))
      exact sn [] h
   ·obtain rfl := sj h
    refine Af (sm [] [(4, bD v4)] [] rfl rfl) (Aq ?_)
    exact ⟨⟨[_], tm, rfl⟩, tv⟩
theorem Jd (N : Nat) (p0 : List Ac) (p1 : Ac) (r : Bool) (h : Dq N p0 p1 = some r) : Ar zA 67 [pD (.sl (p0.map AG)), .e (.agg (AM p1))] [] (bD r) := by
 unfold Dq at h
 refine cw (n := 67) (rs := [.tmp 4]) Tryz.func67 fun w0 S0 => ?_
 refine wq rfl (qb rfl (qa rfl (Ab (wp rfl (qe rfl ?_)))))
 refine A5 (L := Cf N p0 p1) h (fun v1 => mk [(0, pD (.sl (p0.map AG))), (3, oD (.ptr 3 0)), (5, iD v1)] [(3, .box (AM p1))]) (fun v2 => mk [] []) (fun _ _ => rfl) (sm [] _ _ rfl rfl) (fun j1 n1 v1 h => ?_) (fun v2 s h hs => ?_)
 ·unfold Cf at h
  refine wp rfl (qw 2 rfl (AH D0 rfl (A4 rfl (Ab ?_))))
  refine Bb h (fun h => ?_) fun h => ?_
  ·refine Ap (AR (AT (wq rfl (qw 2 rfl ?_))))
   refine BN h fun v4 a4 b4 h => qi D0 CY a4 (Ag b4) rfl (qK E9 CY rfl (qz IR rfl (qs CY rfl (Ab (AR ?_)))))
   refine AF h (fun v5 => mk [(0, pD (.sl (p0.map AG))), (3, oD (.ptr 3 0)), (5, iD v1), (6, oD (.ptr 6 0)), (29, bD v5)] [(3, .box (AM p1)), (6, .box (AM v4))]) (fun j5 h => ?_) (fun v5 h => ?_)
   ·refine Aj Aw rfl (qL E9 CY rfl ?_)
    refine B4 h fun v6 a6 h => Av [] (Gm N v4 v6 a6) UZ rfl (qm rfl ?_)
    refine Cp 19 h rfl (fun h => ?_) fun h => ?_
    ·refine qL E9 CY rfl ?_
     refine B4 h fun v8 a8 h => Av [] (Gm N p1 v8 a8) UZ rfl (qp rfl (qm rfl ?_))
     refine Cp 23 h rfl (fun h => ?_) fun h => ?_
     ·refine qf Eg rfl (ql Ho rfl (qf Eg rfl (ql Ho rfl (A4 rfl (qp rfl (Ab ?_))))))
      exact sn [] h
     ·refine qw 5 rfl (qp rfl (Ab ?_))
      exact sn [] h
    ·refine qw 2 rfl (qp rfl (qw 6 rfl (qp rfl (Ab ?_))))
     exact sn [] h
   ·refine Bb h (fun h => ?_) fun h => ?_
    ·refine wq rfl (qe rfl ?_)
     obtain rfl := sj h
     refine Af (sm [] [(4, bD true)] [] rfl rfl) (Aq ?_)
     exact ⟨⟨[_], tm, rfl⟩, tv⟩
    ·refine Ap (AR ?_)
     refine AF h (fun v11 => mk [(0, pD (.sl (p0.map AG))), (3, oD (.ptr 3 0)), (5, iD v1), (6, oD (.ptr 6 0)), (51, bD v11)] [(3, .box (AM p1)), (6, .box (AM v4))]) (fun j11 h => ?_) (fun v11 h => ?_)
     ·refine Aj Aw rfl (qf B8 rfl (ql AW rfl (AN rfl (qm rfl ?_))))
      refine Cp 33 h rfl (fun h => ?_) fun h => ?_
      ·refine qf B8 rfl (ql AW rfl (AN rfl (qp rfl (qm rfl ?_))))
       refine Cp 38 h rfl (fun h => ?_) fun h => ?_
       ·refine qf Gn rfl (ql AW rfl (qf Gn rfl (ql AW rfl (AN rfl (qp rfl (qm rfl ?_))))))
        refine Cp 45 h rfl (fun h => ?_) fun h => ?_
        ·refine qf Hx rfl (ql AW rfl (qf Hx rfl (ql AW rfl (A4 rfl (qp rfl (Ab ?_))))))
         exact sn [] h
        ·refine qw 5 rfl (qp rfl (Ab ?_))
         exact sn [] h
       ·refine qw 5 rfl (qp rfl (qw 6 rfl (qp rfl (Ab ?_))))
        exact sn [] h
      ·refine qw 3 rfl (qp rfl (qw 6 rfl (qp rfl (qw 6 rfl (qp rfl (Ab ?_))))))
       exact sn [] h
     ·refine Bb h (fun h => ?_) fun h => ?_
      ·refine wq rfl (qe rfl ?_)
       obtain rfl := sj h
       refine Af (sm [] [(4, bD true)] [] rfl rfl) (Aq ?_)
       exact ⟨⟨[_], tm, rfl⟩, tv⟩
      ·refine Ap ?_
       refine AF h (fun v16 => mk [(0, pD (.sl (p0.map AG))), (3, oD (.ptr 3 0)), (5, iD v1), (66, bD v16)] [(3, .box (AM p1))]) (fun j16 h => ?_) (fun v16 h => ?_)
       ·refine Aj Aw rfl (qf B8 rfl (ql AW rfl (AN rfl (qm rfl ?_))))
        refine Cp 55 h rfl (fun h => ?_) fun h => ?_
        ·refine qf B8 rfl (ql AW rfl (AN rfl (qp rfl (qm rfl ?_))))
         refine Cp 60 h rfl (fun h => ?_) fun h => ?_
         ·refine qf Eg rfl (ql Ho rfl (qf Eg rfl (ql Ho rfl (KT rfl (qp rfl (Ab ?_))))))
          exact sn [] h
         ·refine qw 5 rfl (qp rfl (Ab ?_))
          exact sn [] h
        ·refine qw 3 rfl (qp rfl (qw 6 rfl (qp rfl (Ab ?_))))
         exact sn [] h
       ·refine Bb h (fun h => ?_) fun h => ?_
        ·refine wq rfl (qe rfl ?_)
         obtain rfl := sj h
         refine Af (sm [] [(4, bD true)] [] rfl rfl) (Aq ?_)
         exact ⟨⟨[_], tm, rfl⟩, tv⟩
        ·refine Ap (Aj Aw rfl (qm rfl (Cl rfl (qe rfl ?_))))
         exact sn [] h
  ·refine BZ ?_
   exact sn [] h
 ·refine Af hs (wq rfl (qe rfl ?_))
  obtain rfl := sj h
  refine Af (sm [] [(4, bD false)] [] rfl rfl) (Aq ?_)
  exact ⟨⟨[_], tm, rfl⟩, tv⟩
theorem Im (N : Nat) (p0 : List Int) (p1 : Int) (r : Int) (h : Cq N p0 p1 = some r) : Ar zA 77 [pD (.sl (p0.map As)), iD p1] [] (iD r) := by
 unfold Cq at h
 refine cw (n := 25) (rs := [.tmp 4]) Tryz.func77 fun w0 S0 => ?_
 refine wq rfl (qa rfl (Ab (wp rfl (qe rfl ?_))))
 refine A5 (L := B2 N p0) h (fun v1 => mk [(0, pD (.sl (p0.map As))), (1, iD v1.1), (5, iD v1.2)] []) (fun v2 => mk [] []) (fun _ _ => rfl) (sm [] _ _ rfl rfl) (fun j1 n1 v1 h => ?_) (fun v2 s h hs => ?_)
 ·unfold B2 at h
  refine wp rfl (qw 2 rfl (AH AA rfl (A4 rfl (Ab ?_))))
  refine Bb h (fun h => ?_) fun h => ?_
  ·refine Ap (AR (AT (wp rfl (qw 3 rfl ?_))))
   refine BN h fun v4 a4 b4 h => qi AA CK a4 (Ag b4) rfl (qk AW rfl (A4 rfl (Ab ?_)))
   refine Bb h (fun h => ?_) fun h => ?_
   ·refine wq rfl (qm rfl (qe rfl ?_))
    obtain rfl := sj h
    refine Af (sm [] [(4, iD v1.2)] [] rfl rfl) (Aq ?_)
    exact ⟨⟨[_], tm, rfl⟩, tv⟩
   ·refine Ap (Aj Aw rfl (qw 3 rfl ?_))
    refine BN h fun v6 a6 b6 h => qi AA CK a6 (Ag b6) rfl (qk AW rfl (J9 rfl (qa rfl (Ab (Aj Aw rfl (qm rfl (Cl rfl (qe rfl ?_))))))))
    exact sn [] h
  ·refine BZ ?_
   exact sn [] h
 ·refine Af hs (wq rfl (qe rfl ?_))
  obtain rfl := sj h
  refine Af (sm [] [(4, iD ((-1)))] [] rfl rfl) (Aq ?_)
  exact ⟨⟨[_], tm, rfl⟩, tv⟩
theorem EN (N : Nat) (p0 : Ae) (p1 : Int) (p2 : Int) (r : Bool) (h : Bg N p0 p1 p2 = some r) : Ar zA 78 [.e (.agg (Bh p0)), iD p1, iD p2] [] (bD r) := by
 unfold Bg at h
 refine cw (n := 27) (rs := [.tmp 6]) Tryz.func78 fun w0 S0 => ?_
 refine wq rfl (qb rfl (qe rfl ?_))
 refine AF h (fun v1 => mk [(6, bD v1)] []) (fun j1 h => ?_) (fun v1 h => ?_)
 ·refine Aj Aw rfl (qm rfl (C9 rfl (qm rfl ?_)))
  refine Cp 9 h rfl (fun h => ?_) fun h => ?_
  ·refine qm rfl (qf C4 rfl (ql Bd rfl (qm rfl ?_)))
   refine BN h fun v3 a3 b3 h => qi AA CK a3 (Ag b3) rfl (qk AW rfl (AN rfl (qm rfl ?_)))
   refine Cp 17 h rfl (fun h => ?_) fun h => ?_
   ·refine qw 7 rfl (qp rfl (qp rfl (qe rfl ?_)))
    exact sn [] h
   ·refine qm rfl (qf BT rfl (ql Bd rfl (qm rfl ?_)))
    refine BN h fun v5 a5 b5 h => qi AA CK a5 (Ag b5) rfl (qk AW rfl (AN rfl (qp rfl (qp rfl (qe rfl ?_)))))
    exact sn [] h
  ·refine qw 8 rfl (qu rfl (qu rfl (qu rfl (qu rfl (qu rfl (qu rfl (qu rfl (qn rfl (qp rfl (qe rfl ?_))))))))))
   exact sn [] h
 ·obtain rfl := sj h
  refine Af (sm [] [(6, bD v1)] [] rfl rfl) (Aq ?_)
  exact ⟨⟨[_], tm, rfl⟩, tv⟩
theorem JC (N : Nat) (p0 : Aa) (p1 : List Int) (p2 : AL) (p3 : Bool) (p4 : List Ac) (p5 : Ac) (r : Int) (h : C5 N p0 p1 p2 p3 p4 p5 = some r) : Ar zA 38 [.e (.agg (Ak p0)), pD (.sl (p1.map As)), .e (.agg (AQ p2)), bD p3, pD (.sl (p4.map AG)), .e (.agg (AM p5))] [] (iD r) := by
 unfold C5 at h
 refine cw (n := 82) (rs := [.tmp 12]) Tryz.func38 fun w0 S0 => ?_
 refine wq rfl (qb rfl (qb rfl (qb rfl (qa rfl (Ab (wp rfl (qL DG DA rfl (qL E9 CY rfl ?_))))))))
 refine B4 h fun v1 a1 h => Av [] (JL N p0 p5 v1 a1) Xh rfl (Ab ?_)
 refine Bb h (fun h => ?_) fun h => ?_
 ·refine wq rfl (qe rfl ?_)
  obtain rfl := sj h
  refine Af (sm [] [(12, iD 1)] [] rfl rfl) (Aq ?_)
  exact ⟨⟨[_], tm, rfl⟩, tv⟩
 ·refine Ap (wp rfl (qm rfl (B9 rfl (Ab ?_))))
  refine Bb h (fun h => ?_) fun h => ?_
  ·refine wq rfl (qe rfl ?_)
   obtain rfl := sj h
   refine Af (sm [] [(12, iD 2)] [] rfl rfl) (Aq ?_)
   exact ⟨⟨[_], tm, rfl⟩, tv⟩
  ·refine Ap (wp rfl (qm rfl (qL E9 CY rfl ?_)))
   refine B4 h fun v4 a4 h => Av [] (Jd N p4 p5 v4 a4) WT rfl (Ab ?_)
   refine Bb h (fun h => ?_) fun h => ?_
   ·refine wq rfl (qe rfl ?_)
    obtain rfl := sj h
    refine Af (sm [] [(12, iD 3)] [] rfl rfl) (Aq ?_)
    exact ⟨⟨[_], tm, rfl⟩, tv⟩
   ·refine Ap ?_
    refine AF h (fun v6 => mk [(6, oD (.ptr 6 0)), (8, oD (.ptr 8 0)), (11, oD (.ptr 11 0))] [(6, .box (Ak p0)), (8, .box (AQ p2)), (11, .box (AM p5))]) (fun j6 h => ?_) (fun v6 h => ?_)
    ·refine wq rfl (qf B8 rfl (ql AW rfl (AN rfl (Ab ?_))))
     refine Bb h (fun h => ?_) fun h => ?_
     ·refine wq rfl (qm rfl (qf Gn rfl (ql AW rfl ?_)))
      refine B4 h fun v8 a8 h => Av [] (Im N p1 p5.ft v8 a8) WQ rfl (qe rfl ?_)
      refine AF h (fun v9 => mk [(6, oD (.ptr 6 0)), (8, oD (.ptr 8 0)), (11, oD (.ptr 11 0)), (41, bD v9)] [(6, .box (Ak p0)), (8, .box (AQ p2)), (11, .box (AM p5))]) (fun j9 h => ?_) (fun v9 h => ?_)
      ·refine Aj Aw rfl (qm rfl (A4 rfl (qm rfl ?_)))
       refine Cp 33 h rfl (fun h => ?_) fun h => ?_
       ·refine qw 7 rfl (qp rfl (Ab ?_))
        exact sn [] h
       ·refine qf Gt rfl (qL B0 AU rfl (qm rfl (qf IX rfl (ql AW rfl ?_))))
        refine B4 h fun v11 a11 h => Av [] (EN N ((Ae.mk p2.fe.fh p2.fe.ff p2.fe.fg)) v8 p5.fq v11 a11) U0 rfl (B9 rfl (qp rfl (Ab ?_)))
        exact sn [] h
      ·refine Bb h (fun h => ?_) fun h => ?_
       ·refine wq rfl (qe rfl ?_)
        obtain rfl := sj h
        refine Af (sm [] [(12, iD 4)] [] rfl rfl) (Aq ?_)
        exact ⟨⟨[_], tm, rfl⟩, tv⟩
       ·refine Ap ?_
        exact sn [] h
     ·refine Ap ?_
      exact sn [] h
    ·refine AF h (fun v13 => mk [] []) (fun j13 h => ?_) (fun v13 h => ?_)
     ·refine wq rfl (qf B8 rfl (ql AW rfl (AN rfl (Ab ?_))))
      refine Bb h (fun h => ?_) fun h => ?_
      ·refine wq rfl (qf BA rfl (ql EK rfl (qf Fs rfl (ql AW rfl ?_))))
       refine BN h fun v15 a15 b15 h => qi CR BK a15 (Ag b15) rfl (qK Eu BK rfl (qz IC rfl (qs BK rfl (Ab (wq rfl (qf Gt rfl (qL B0 AU rfl (qf Cc rfl (ql AW rfl (qf Fp rfl (ql AW rfl ?_)))))))))))
       refine B4 h fun v16 a16 h => Av [] (EN N ((Ae.mk p2.fe.fh p2.fe.ff p2.fe.fg)) v15.fj p5.fw v16 a16) U0 rfl (qe rfl ?_)
       refine AF h (fun v17 => mk [(8, oD (.ptr 8 0)), (11, oD (.ptr 11 0)), (14, oD (.ptr 14 0)), (15, bD v17)] [(8, .box (AQ p2)), (11, .box (AM p5)), (14, .box (CC v15))]) (fun j17 h => ?_) (fun v17 h => ?_)
       ·refine wq rfl (qL Eu BK rfl ?_)
        refine B4 h fun v18 a18 h => Av [] (B1 N v15 v18 a18) OW rfl (Ab ?_)
        refine Bb h (fun h => ?_) fun h => ?_
        ·refine Aj Aw rfl (qf Gt rfl (qf CF rfl (ql GV rfl (qf Fs rfl (ql AW rfl ?_)))))
         refine BN h fun v20 a20 b20 h => qi DQ DR a20 (Ag b20) rfl (qk Hl rfl (qf Fp rfl (ql AW rfl ?_)))
         refine B4 h fun v21 a21 h => Av [] (zFS N v20 p5.fw v21 a21) UN rfl (qa rfl (AE (by kernel_rfl) ?_))
         exact sn [] h
        ·refine Ap ?_
         exact sn [] h
       ·refine AF h (fun v22 => mk [(81, bD v22)] []) (fun j22 h => ?_) (fun v22 h => ?_)
        ·refine Aj Aw rfl (qm rfl (B9 rfl (qm rfl ?_)))
         refine Cp 72 h rfl (fun h => ?_) fun h => ?_
         ·refine qw 8 rfl (qp rfl (Ab ?_))
          exact sn [] h
         ·refine qf Gt rfl (qL B0 AU rfl (qf FU rfl (ql AW rfl (qf Gp rfl (ql AW rfl ?_)))))
          refine B4 h fun v24 a24 h => Av [] (EN N ((Ae.mk p2.fe.fh p2.fe.ff p2.fe.fg)) v15.fA p5.fC v24 a24) U0 rfl (B9 rfl (qp rfl (Ab ?_)))
          exact sn [] h
        ·refine Bb h (fun h => ?_) fun h => ?_
         ·refine wq rfl (qe rfl ?_)
          obtain rfl := sj h
          refine Af (sm [] [(12, iD 5)] [] rfl rfl) (Aq ?_)
          exact ⟨⟨[_], tm, rfl⟩, tv⟩
         ·refine Ap ?_
          exact sn [] h
      ·refine Ap ?_
       exact sn [] h
     ·refine wq rfl (qe rfl ?_)
      obtain rfl := sj h
      refine Af (sm [] [(12, iD 0)] [] rfl rfl) (Aq ?_)
      exact ⟨⟨[_], tm, rfl⟩, tv⟩
theorem Je (N : Nat) (p0 : Aa) (p1 : List Int) (p2 : List Am) (p3 : List Ac) (r : Int × Int × Int) (h : CT N p0 p1 p2 p3 = some r) : Ar zA 15 [.e (.agg (Ak p0)), pD (.sl (p1.map As)), pD (.sl (p2.map AP)), pD (.sl (p3.map AG))] [] (.tup [.one (iC r.1), .one (iC r.2.1), .one (iC r.2.2)]) := by
 unfold CT at h
 refine cw (n := 61) (rs := [.tmp 8, .tmp 9, .tmp 10]) Tryz.func15 fun w0 S0 => ?_
 refine wq rfl (qb rfl (qa rfl (qa rfl (qa rfl (Ab (wp rfl (qL DG DA rfl (qw 3 rfl ?_))))))))
 refine B4 h fun v1 a1 h => Av [] (Jf N p0 p1 p2 p3 v1 a1) W5 rfl (qa rfl (Ab (wq rfl (qm rfl (BG rfl (Ab ?_))))))
 refine Bb h (fun h => ?_) fun h => ?_
 ·refine wq rfl (qm rfl (qa rfl (qa rfl (qe rfl ?_))))
  obtain rfl := sj h
  refine Af (sm [] [(8, iD 0), (9, iD 0), (10, iD v1)] [] rfl rfl) (Aq ?_)
  exact ⟨⟨[_, _, _], ⟨.tmp _ _ rfl, ⟨.tmp _ _ rfl, tm⟩⟩, rfl⟩, tv⟩
 ·refine Ap (wq rfl (qL DG DA rfl ?_))
  refine B4 h fun v3 a3 h => Av [2001, 2002, 2003] (I8 N p0 v3 a3) W6 rfl (qz R3 rfl (qs HT rfl (Ab (wp rfl (qe rfl ?_)))))
  refine A5 (L := Cd N p0 p1 p2 p3) h (fun v4 => mk [(1, pD (.sl (p1.map As))), (2, pD (.sl (p2.map AP))), (3, pD (.sl (p3.map AG))), (4, oD (.ptr 4 0)), (12, oD (.ptr 12 0)), (13, iD v4.2.2.2.2.2.2)] [(4, .box (Ak p0)), (12, .box [iC v4.1, .pure (.val (.bool v4.2.1)), .pure (.val (.bool v4.2.2.1)), sC (v4.2.2.2.1.map As), sC (v4.2.2.2.2.1.map As), sC (v4.2.2.2.2.2.1.map Dm)])]) (fun v5 => mk [] []) (fun _ _ => rfl) ((Bi 2001 _ _ rfl rfl).trans ((Bi 2002 _ _ rfl rfl).trans ((Bi 2003 _ _ rfl rfl).trans (sm [] _ _ rfl rfl)))) (fun j4 n4 v4 h => ?_) (fun v5 s h hs => ?_)
  ·unfold Cd at h
   refine wp rfl (qw 2 rfl (AH D0 rfl (A4 rfl (Ab ?_))))
   refine Bb h (fun h => ?_) fun h => ?_
   ·refine Ap (AR (AT (wq rfl (qL DG DA rfl (qm rfl (qL Lf HT rfl (qw 2 rfl ?_)))))))
    refine BN h fun v7 a7 b7 h => qi D0 CY a7 (Ag b7) rfl (qK E9 CY rfl ?_)
    refine B4 h fun v8 a8 h => Av [] (Jm N p0 p2 ((AL.mk v4.1 v4.2.1 v4.2.2.1 ((Ae.mk v4.2.2.2.1 v4.2.2.2.2.1 v4.2.2.2.2.2.1)))) v7 v8 a8) WM rfl (qm rfl (qx rfl (qx rfl (qz R3 rfl (qs HT rfl (qa rfl (AE (by kernel_rfl) (wp rfl (qL DG DA rfl (qm rfl (qL Lf HT rfl (qw 3 rfl ?_))))))))))))
    refine HL h fun c9 h => Lj (.p rfl) rfl D0 CY (HO (f := AG) (n := 11) (fun _ => rfl) _) (.none _) (.some _ _ _ _ c9.1) tv ⟨rfl, tv⟩ (by have := c9.2.1; (try simp only [zY]); omega) (by have := c9.2.2; (try simp only [zY]); omega) (Kh AG p3 _ _ ((v4.2.2.2.2.2.2).toNat - 0) rfl) ?_
    refine qw 2 rfl ?_
    refine BN h fun v10 a10 b10 h => qi D0 CY a10 (Ag b10) rfl (qK E9 CY rfl ?_)
    refine B4 h fun v11 a11 h => Av [] (JC N p0 p1 ((AL.mk v4.1 v4.2.1 v4.2.2.1 ((Ae.mk v4.2.2.2.1 v4.2.2.2.2.1 v4.2.2.2.2.2.1)))) v8.2 (((p3.drop 0).take ((v4.2.2.2.2.2.2).toNat - 0))) v10 v11 a11) WY rfl (qa rfl (AE (by kernel_rfl) (wq rfl (qm rfl (BG rfl (Ab ?_))))))
    refine Bb h (fun h => ?_) fun h => ?_
    ·refine wq rfl (qw 2 rfl (qa rfl (qa rfl (qe rfl ?_))))
     obtain rfl := sj h
     refine Af (sm [] [(8, iD v4.2.2.2.2.2.2), (9, iD v11), (10, iD 0)] [] rfl rfl) (Aq ?_)
     exact ⟨⟨[_, _, _], ⟨.tmp _ _ rfl, ⟨.tmp _ _ rfl, tm⟩⟩, rfl⟩, tv⟩
    ·refine Ap (Aj Aw rfl (qL Lf HT rfl (qs HT rfl (Ab (Aj Aw rfl (qm rfl (Cl rfl (qe rfl ?_))))))))
     exact sn [] h
   ·refine BZ ?_
    exact sn [] h
  ·refine Af hs (wq rfl (qa rfl (qa rfl (qe rfl ?_))))
   obtain rfl := sj h
   refine Af (sm [] [(8, iD 0), (9, iD 0), (10, iD 15)] [] rfl rfl) (Aq ?_)
   exact ⟨⟨[_, _, _], ⟨.tmp _ _ rfl, ⟨.tmp _ _ rfl, tm⟩⟩, rfl⟩, tv⟩
theorem HB (N : Nat) (p0 : BU) (r : Bool) (h : Cs N p0 = some r) : Ar zA 3 [.e (.agg (GF p0))] [] (bD r) := by
 unfold Cs at h
 refine cw (n := 57) (rs := [.tmp 2]) Tryz.func3 fun w0 S0 => ?_
 refine wq rfl (qb rfl (qa rfl (Ab (AR ?_))))
 refine AF h (fun v1 => mk [(1, oD (.ptr 1 0)), (15, bD v1)] [(1, .box (GF p0))]) (fun j1 h => ?_) (fun v1 h => ?_)
 ·refine Aj Aw rfl ?_
  refine B4 h fun v2 a2 h => Av [] (GQ N v2 a2) VH rfl (B9 rfl (qm rfl ?_))
  refine Cp 11 h rfl (fun h => ?_) fun h => ?_
  ·refine qw 3 rfl (qp rfl (Ab ?_))
   exact sn [] h
  ·refine qL Xt WZ rfl ?_
   refine B4 h fun v4 a4 h => Av [] (Kf N ((BU.mk ((Aa.mk p0.fd.fb p0.fd.fk p0.fd.fp p0.fd.fc)) p0.fQ p0.fr p0.fO)) v4 a4) Xf rfl (B9 rfl (qp rfl (Ab ?_)))
   exact sn [] h
 ·refine Bb h (fun h => ?_) fun h => ?_
  ·refine wq rfl ?_
   refine B4 h fun v6 a6 h => Av [] (GQ N v6 a6) VH rfl (qe rfl ?_)
   obtain rfl := sj h
   refine Af (sm [] [(2, bD v6)] [] rfl rfl) (Aq ?_)
   exact ⟨⟨[_], tm, rfl⟩, tv⟩
  ·refine Ap (wq rfl (qf NY rfl (qL DG DA rfl (qf N0 rfl (ql Bd rfl (qf NU rfl (ql Rh rfl (qf NN rfl (ql U5 rfl ?_)))))))))
   refine B4 h fun v7 a7 h => Av [2001] (Fv N p0.fO v7 a7) Xd rfl ?_
   refine B4 h fun v8 a8 h => Hw [] [2001] (Hz N ((Aa.mk p0.fd.fb p0.fd.fk p0.fd.fp p0.fd.fc)) p0.fQ p0.fr v7 v8 a8) UP FD rfl (qm rfl (qx rfl (qx rfl (qx rfl (qa rfl (qa rfl (qa rfl (AE (by kernel_rfl) (wq rfl (qf NY rfl (qL DG DA rfl (qf N0 rfl (ql Bd rfl (qf NU rfl (ql Rh rfl (qf NN rfl (ql U5 rfl ?_)))))))))))))))))
   refine B4 h fun v9 a9 h => Av [] (Je N ((Aa.mk p0.fd.fb p0.fd.fk p0.fd.fp p0.fd.fc)) p0.fQ p0.fr p0.fO v9 a9) W9 rfl (qm rfl (qx rfl (qx rfl (qx rfl (qa rfl (qa rfl (qe rfl ?_)))))))
   refine AF h (fun v10 => mk [(2, bD v10)] []) (fun j10 h => ?_) (fun v10 h => ?_)
   ·refine Aj Aw rfl (qw 2 rfl (AN rfl (qm rfl ?_)))
    refine Cp 47 h rfl (fun h => ?_) fun h => ?_
    ·refine qw 2 rfl (AN rfl (qp rfl (qm rfl ?_)))
     refine Cp 52 h rfl (fun h => ?_) fun h => ?_
     ·refine qw 2 rfl (AN rfl (qp rfl (qe rfl ?_)))
      exact sn [] h
     ·refine qw 3 rfl (qp rfl (qe rfl ?_))
      exact sn [] h
    ·refine qw 3 rfl (qp rfl (qw 4 rfl (qp rfl (qe rfl ?_))))
     exact sn [] h
   ·obtain rfl := sj h
    refine Af (sm [] [(2, bD v10)] [] rfl rfl) (Aq ?_)
    exact ⟨⟨[_], tm, rfl⟩, tv⟩
end Go.Lift
