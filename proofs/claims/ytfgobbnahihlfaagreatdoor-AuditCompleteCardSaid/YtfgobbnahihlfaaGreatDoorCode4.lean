/- Lemmas for AuditCompleteCardSaid, which YtfgobbnahihlfaaGreatDoorFinA8 proves. -/
import Derived.Test.YtfgobbnahihlfaaGreatDoorCode3
open List renaming length_map → zY
open Go.Proofs.Tryz renaming prog → zA
namespace Go.Lift
set_option maxRecDepth 10000
open Go.RowKit
open Go.Proofs
theorem Jo (N : Nat) (p0 : Aa) (p1 : List Int) (p2 : List Al) (p3 : List Ab) (r : Int) (h : Dv N p0 p1 p2 p3 = some r) : Ar zA 23 [.e (.agg (Ak p0)), pD (.sl (p1.map As)), pD (.sl (p2.map AN)), pD (.sl (p3.map AD))] [] (iD r) := by
 unfold Dv at h
 refine cw (n := 25) (rs := [.tmp 8]) Tryz.func23 fun w0 S0 => ?_
 refine wq rfl (qb rfl (qa rfl (Ac (wp rfl (qL Dg C8 rfl (qm rfl ?_))))))
 refine B0 h fun v1 a1 h => Aw [] (IC N p0 p1 v1 a1) Xk rfl (qa rfl (Ac (wq rfl (qm rfl (BE rfl (Ac ?_))))))
 refine Bb h (fun h => ?_) fun h => ?_
 ·refine wq rfl (qm rfl (qe rfl ?_))
  obtain rfl := sj h
  refine Af (sm [] [(8, iD v1)] [] rfl rfl) (Aq ?_)
  exact ⟨⟨[_], tm, rfl⟩, tv⟩
 ·refine Ap (wp rfl (qL Dg C8 rfl (qm rfl ?_)))
  refine B0 h fun v3 a3 h => Aw [] (Jp N p0 p2 v3 a3) W7 rfl (qa rfl (Ac (wq rfl (qm rfl (BE rfl (Ac ?_))))))
  refine Bb h (fun h => ?_) fun h => ?_
  ·refine wq rfl (qm rfl (qe rfl ?_))
   obtain rfl := sj h
   refine Af (sm [] [(8, iD v3)] [] rfl rfl) (Aq ?_)
   exact ⟨⟨[_], tm, rfl⟩, tv⟩
  ·refine Ap (wq rfl (qm rfl ?_))
   refine B0 h fun v5 a5 h => Aw [] (Jq N p3 v5 a5) XJ rfl (qe rfl ?_)
   obtain rfl := sj h
   refine Af (sm [] [(8, iD v5)] [] rfl rfl) (Aq ?_)
   exact ⟨⟨[_], tm, rfl⟩, tv⟩
theorem GS (N : Nat) (p0 : Aa) (r : Av) (h : CS N p0 = some r) : Ar zA 36 [.e (.agg (Ak p0))] [(1, r.fd.fh.map As), (1, r.fd.ff.map As), (1, r.fd.fg.map Dq)] (.e (.agg [iC r.fi, .pure (.val (.bool r.fJ)), .pure (.val (.bool r.fG)), .own 0, .own 1, .own 2])) := by
 unfold CS at h
 refine cw (n := 12) (rs := [.cell 2 73]) Tryz.func36 fun w0 S0 => ?_
 refine wq rfl (qb rfl (qz Ot rfl (Ac (wq rfl (qL Dg C8 rfl ?_)))))
 refine B0 h fun v1 a1 h => Aw [2001, 2002, 2003] (GY N p0 v1 a1) VI rfl (qm rfl (qx rfl (qx rfl (qz Do rfl (qs AV rfl (qa rfl (Ac (wq rfl (qL B1 AV rfl (Bs Ot W9 rfl (qs Fr rfl (Ac ?_))))))))))))
 obtain rfl := sj h
 refine Af (sm [(1000, 2001), (1001, 2002), (1002, 2003)] [(2, oD (.ptr 2 0))] [(2, .box [iC 0, .pure (.val (.bool false)), .pure (.val (.bool false)), .own 1000, .own 1001, .own 1002]), (1000, .vec 1 (v1.1.fh.map As)), (1001, .vec 1 (v1.1.ff.map As)), (1002, .vec 1 (v1.1.fg.map Dq))] rfl rfl) (Aq ?_)
 exact ⟨⟨[_], ⟨.cellN _ _ _ _ _ _ _ rfl rfl IA Fr rfl rfl (HL rfl), tv⟩, rfl⟩, ⟨rfl, rfl, rfl, tv⟩⟩
theorem Gn (N : Nat) (p0 : Ab) (r : Bool) (h : C6 N p0 = some r) : Ar zA 75 [.e (.agg (AO p0))] [] (bD r) := by
 unfold C6 at h
 refine cw (n := 11) (rs := [.tmp 2]) Tryz.func75 fun w0 S0 => ?_
 refine wq rfl (qb rfl (qe rfl ?_))
 refine AI h (fun v1 => mk [(2, bD v1)] []) (fun j1 h => ?_) (fun v1 h => ?_)
 ·refine Aj Ax rfl (qf Ca rfl (ql AX rfl (Da rfl (qm rfl ?_))))
  refine Cv 6 h rfl (fun h => ?_) fun h => ?_
  ·refine qf Ca rfl (ql AX rfl (Lf rfl (qp rfl (qe rfl ?_))))
   exact sn [] h
  ·refine qw 3 rfl (qp rfl (qe rfl ?_))
   exact sn [] h
 ·obtain rfl := sj h
  refine Af (sm [] [(2, bD v1)] [] rfl rfl) (Aq ?_)
  exact ⟨⟨[_], tm, rfl⟩, tv⟩
theorem GW (N : Nat) (p0 : Aa) (p1 : List Al) (p2 : Av) (p3 : Ab) (r : Av × Bool) (h : B2 N p0 p1 p2 p3 = some r) : Ar zA 37 [.e (.agg (Ak p0)), pD (.sl (p1.map AN)), .e (.agg (AM p2)), .e (.agg (AO p3))] [] (.tup [.agg (AM r.1), .one (.pure (.val (.bool r.2)))]) := by
 unfold B2 at h
 refine cw (n := 122) (rs := [.cell 8 73, .tmp 9]) Tryz.func37 fun w0 S0 => ?_
 refine wq rfl (qb rfl (qb rfl (qb rfl (qz Ot rfl (qa rfl (Ac (wp rfl (qL E7 CV rfl ?_))))))))
 refine B0 h fun v1 a1 h => Aw [] (Gn N p3 v1 a1) UH rfl (Cb rfl (Ac ?_))
 refine Bb h (fun h => ?_) fun h => ?_
 ·refine wq rfl (qL IA Fr rfl (qs Fr rfl (qe rfl ?_)))
  obtain rfl := sj h
  refine Af (sm [] [(8, oD (.ptr 8 0)), (9, bD true)] [(8, .box (AM p2))] rfl rfl) (Aq ?_)
  exact ⟨⟨[_, _], ⟨.cellN _ _ _ _ _ _ _ rfl rfl IA Fr rfl rfl (HL rfl), tm⟩, rfl⟩, tv⟩
 ·refine Ap (AS ?_)
  refine AI h (fun v3 => mk [(1, pD (.sl (p1.map AN))), (4, oD (.ptr 4 0)), (6, oD (.ptr 6 0)), (7, oD (.ptr 7 0)), (8, oD (.ptr 8 0)), (26, bD v3)] [(4, .box (Ak p0)), (6, .box (AM p2)), (7, .box (AO p3)), (8, .box [iC 0, .pure (.val (.bool false)), .pure (.val (.bool false)), .pure (.nil0), .pure (.nil0), .pure (.nil0)])]) (fun j3 h => ?_) (fun v3 h => ?_)
  ·refine Aj Ax rfl (qf Ja rfl (ql AX rfl (qf Jb rfl (ql AX rfl (BE rfl (qm rfl ?_))))))
   refine Cv 20 h rfl (fun h => ?_) fun h => ?_
   ·refine qw 5 rfl (qp rfl (Ac ?_))
    exact sn [] h
   ·refine qf Jb rfl (ql AX rfl (qm rfl (AH F4 rfl (Da rfl (qp rfl (Ac ?_))))))
    exact sn [] h
  ·refine Bb h (fun h => ?_) fun h => ?_
   ·refine wq rfl (qL IA Fr rfl (qs Fr rfl (qe rfl ?_)))
    obtain rfl := sj h
    refine Af (sm [] [(8, oD (.ptr 8 0)), (9, bD false)] [(8, .box (AM p2))] rfl rfl) (Aq ?_)
    exact ⟨⟨[_, _], ⟨.cellN _ _ _ _ _ _ _ rfl rfl IA Fr rfl rfl (HL rfl), tm⟩, rfl⟩, tv⟩
   ·refine Ap (wq rfl (qm rfl (qf Jb rfl (ql AX rfl ?_))))
    refine BK h fun v6 a6 b6 h => qi F4 FR a6 (Ah b6) rfl (qK Iw FR rfl (qz Pz rfl (qs FR rfl (Ac ?_))))
    refine AI h (fun v7 => mk [(6, oD (.ptr 6 0)), (8, oD (.ptr 8 0))] [(6, .box [iC v7.1, .pure (.val (.bool v7.2.1)), .pure (.val (.bool v7.2.2.1)), sC (v7.2.2.2.1.map As), sC (v7.2.2.2.2.1.map As), sC (v7.2.2.2.2.2.map Dq)]), (8, .box [iC 0, .pure (.val (.bool false)), .pure (.val (.bool false)), .pure (.nil0), .pure (.nil0), .pure (.nil0)])]) (fun j7 h => ?_) (fun v7 h => ?_)
    ·refine AR ?_
     refine AI h (fun v8 => mk [(4, oD (.ptr 4 0)), (6, oD (.ptr 6 0)), (7, oD (.ptr 7 0)), (8, oD (.ptr 8 0)), (10, oD (.ptr 10 0)), (34, bD v8)] [(4, .box (Ak p0)), (6, .box (AM p2)), (7, .box (AO p3)), (8, .box [iC 0, .pure (.val (.bool false)), .pure (.val (.bool false)), .pure (.nil0), .pure (.nil0), .pure (.nil0)]), (10, .box (BR v6))]) (fun j8 h => ?_) (fun v8 h => ?_)
     ·refine Aj Ax rfl (qf Ca rfl (ql AX rfl (AP rfl (qm rfl ?_))))
      refine Cv 38 h rfl (fun h => ?_) fun h => ?_
      ·refine qf Jd rfl (ql Q2 rfl (Cb rfl (qp rfl (qm rfl ?_))))
       refine Cv 43 h rfl (fun h => ?_) fun h => ?_
       ·refine qf Lv rfl (ql Q2 rfl (Cb rfl (qp rfl (qe rfl ?_))))
        exact sn [] h
       ·refine qw 3 rfl (qp rfl (qe rfl ?_))
        exact sn [] h
      ·refine qw 3 rfl (qp rfl (qw 4 rfl (qp rfl (qe rfl ?_))))
       exact sn [] h
     ·refine Bb h (fun h => ?_) fun h => ?_
      ·refine wq rfl (qf Jd rfl (qs RH rfl (Ac (wq rfl (qf C5 rfl (ql AX rfl (AP rfl (Ac ?_))))))))
       refine Bb h (fun h => ?_) fun h => ?_
       ·refine Aj Ax rfl (qL Dg C8 rfl (qf Gx rfl (qL B1 AV rfl (qL Iw FR rfl ?_))))
        refine B0 h fun v13 a13 h => Aw [2001, 2002, 2003] (Ek N p0 ((Ae.mk p2.fd.fh p2.fd.ff p2.fd.fg)) v6 v13 a13) Tm rfl (qm rfl (qx rfl (qx rfl (qf Gx rfl (qs AV rfl (Ac ?_))))))
        exact Tr _ h ((A8 2001 _ _ rfl rfl).trans ((A8 2002 _ _ rfl rfl).trans ((A8 2003 _ _ rfl rfl).trans (sm [] _ _ rfl rfl))))
       ·refine Ap ?_
        exact sn [] h
      ·refine AI h (fun v14 => mk [(4, oD (.ptr 4 0)), (6, oD (.ptr 6 0)), (7, oD (.ptr 7 0)), (8, oD (.ptr 8 0)), (10, oD (.ptr 10 0)), (61, bD v14)] [(4, .box (Ak p0)), (6, .box (AM p2)), (7, .box (AO p3)), (8, .box [iC 0, .pure (.val (.bool false)), .pure (.val (.bool false)), .pure (.nil0), .pure (.nil0), .pure (.nil0)]), (10, .box (BR v6))]) (fun j14 h => ?_) (fun v14 h => ?_)
       ·refine Aj Ax rfl (qf Ca rfl (ql AX rfl (AP rfl (qm rfl ?_))))
        refine Cv 65 h rfl (fun h => ?_) fun h => ?_
        ·refine qf Jd rfl (ql Q2 rfl (qp rfl (qe rfl ?_)))
         exact sn [] h
        ·refine qw 2 rfl (qp rfl (qe rfl ?_))
         exact sn [] h
       ·refine Bb h (fun h => ?_) fun h => ?_
        ·refine wq rfl (qf Jd rfl (qs RH rfl (Ac (wq rfl (qf Jb rfl (ql AX rfl (Cl rfl (qf Jb rfl (qs CL rfl (Ac (wq rfl (qf C5 rfl (ql AX rfl (BE rfl (Ac ?_)))))))))))))))
         refine Bb h (fun h => ?_) fun h => ?_
         ·refine Aj Ax rfl (qL Dg C8 rfl (qf Gx rfl (qL B1 AV rfl (qL Iw FR rfl ?_))))
          refine B0 h fun v18 a18 h => Aw [2004, 2005, 2006] (Ek N p0 ((Ae.mk p2.fd.fh p2.fd.ff p2.fd.fg)) v6 v18 a18) Tm rfl (qm rfl (qx rfl (qx rfl (qf Gx rfl (qs AV rfl (Ac ?_))))))
          exact Tr _ h ((A8 2004 _ _ rfl rfl).trans ((A8 2005 _ _ rfl rfl).trans ((A8 2006 _ _ rfl rfl).trans (sm [] _ _ rfl rfl))))
         ·refine Ap ?_
          exact sn [] h
        ·refine AI h (fun v19 => mk [(4, oD (.ptr 4 0)), (6, oD (.ptr 6 0)), (7, oD (.ptr 7 0)), (8, oD (.ptr 8 0)), (10, oD (.ptr 10 0)), (86, bD v19)] [(4, .box (Ak p0)), (6, .box (AM p2)), (7, .box (AO p3)), (8, .box [iC 0, .pure (.val (.bool false)), .pure (.val (.bool false)), .pure (.nil0), .pure (.nil0), .pure (.nil0)]), (10, .box (BR v6))]) (fun j19 h => ?_) (fun v19 h => ?_)
         ·refine Aj Ax rfl (qf Ca rfl (ql AX rfl (AP rfl (qm rfl ?_))))
          refine Cv 90 h rfl (fun h => ?_) fun h => ?_
          ·refine qf Jd rfl (ql Q2 rfl (qp rfl (qm rfl ?_)))
           refine Cv 94 h rfl (fun h => ?_) fun h => ?_
           ·refine qf C5 rfl (ql AX rfl (AP rfl (qp rfl (qe rfl ?_))))
            exact sn [] h
           ·refine qw 3 rfl (qp rfl (qe rfl ?_))
            exact sn [] h
          ·refine qw 2 rfl (qp rfl (qw 4 rfl (qp rfl (qe rfl ?_))))
           exact sn [] h
         ·refine Bb h (fun h => ?_) fun h => ?_
          ·refine Aj Ax rfl (qf Jd rfl (qs RH rfl (qf Lv rfl (qs RH rfl (Ac ?_)))))
           exact sn [] h
          ·refine AI h (fun v23 => mk [(4, oD (.ptr 4 0)), (6, oD (.ptr 6 0)), (8, oD (.ptr 8 0)), (10, oD (.ptr 10 0)), (101, bD v23)] [(4, .box (Ak p0)), (6, .box (AM p2)), (8, .box [iC 0, .pure (.val (.bool false)), .pure (.val (.bool false)), .pure (.nil0), .pure (.nil0), .pure (.nil0)]), (10, .box (BR v6))]) (fun j23 h => ?_) (fun v23 h => ?_)
           ·refine Aj Ax rfl (qf Ca rfl (ql AX rfl (AP rfl (qm rfl ?_))))
            refine Cv 105 h rfl (fun h => ?_) fun h => ?_
            ·refine qf Lv rfl (ql Q2 rfl (qp rfl (qe rfl ?_)))
             exact sn [] h
            ·refine qw 2 rfl (qp rfl (qe rfl ?_))
             exact sn [] h
           ·refine Bb h (fun h => ?_) fun h => ?_
            ·refine wq rfl (qf Lv rfl (qs RH rfl (Ac (Aj Ax rfl (qL Dg C8 rfl (qf Gx rfl (qL B1 AV rfl (qf DK rfl (ql AX rfl (Bs Pz TD rfl ?_))))))))))
             refine B0 h fun v26 a26 h => Aw [2007, 2008, 2009] (Ek N p0 ((Ae.mk p2.fd.fh p2.fd.ff p2.fd.fg)) ((Al.mk 4 v6.fm 0)) v26 a26) Tm rfl (qm rfl (qx rfl (qx rfl (qf Gx rfl (qs AV rfl (Ac ?_))))))
             exact Tr _ h ((A8 2007 _ _ rfl rfl).trans ((A8 2008 _ _ rfl rfl).trans ((A8 2009 _ _ rfl rfl).trans (sm [] _ _ rfl rfl))))
            ·refine wq rfl (qL IA Fr rfl (qs Fr rfl (qe rfl ?_)))
             obtain rfl := sj h
             refine Af (sm [] [(8, oD (.ptr 8 0)), (9, bD false)] [(8, .box (AM p2))] rfl rfl) (Aq ?_)
             exact ⟨⟨[_, _], ⟨.cellN _ _ _ _ _ _ _ rfl rfl IA Fr rfl rfl (HL rfl), tm⟩, rfl⟩, tv⟩
    ·refine wq rfl (qL IA Fr rfl (qs Fr rfl (qe rfl ?_)))
     obtain rfl := sj h
     refine Af (sm [] [(8, oD (.ptr 8 0)), (9, bD true)] [(8, .box [iC v7.1, .pure (.val (.bool v7.2.1)), .pure (.val (.bool v7.2.2.1)), sC (v7.2.2.2.1.map As), sC (v7.2.2.2.2.1.map As), sC (v7.2.2.2.2.2.map Dq)])] rfl rfl) (Aq ?_)
     exact ⟨⟨[_, _], ⟨.cellN _ _ _ _ _ _ _ rfl rfl IA Fr rfl rfl (HL rfl), tm⟩, rfl⟩, tv⟩
theorem JW (N : Nat) (p0 : Aa) (p1 : Ab) (r : Bool) (h : Cw N p0 p1 = some r) : Ar zA 63 [.e (.agg (Ak p0)), .e (.agg (AO p1))] [] (bD r) := by
 unfold Cw at h
 refine cw (n := 54) (rs := [.tmp 4]) Tryz.func63 fun w0 S0 => ?_
 refine wq rfl (qb rfl (qb rfl (qa rfl (Ac (wp rfl (qf Ca rfl (ql AX rfl (BE rfl (Ac ?_)))))))))
 refine Bb h (fun h => ?_) fun h => ?_
 ·refine wq rfl (qe rfl ?_)
  obtain rfl := sj h
  refine Af (sm [] [(4, bD false)] [] rfl rfl) (Aq ?_)
  exact ⟨⟨[_], tm, rfl⟩, tv⟩
 ·refine Ap (wp rfl (qf Fw rfl (ql AX rfl (qf BA rfl (ql EU rfl (AH CR rfl (Da rfl (Ac ?_))))))))
  refine Bb h (fun h => ?_) fun h => ?_
  ·refine wq rfl (qe rfl ?_)
   obtain rfl := sj h
   refine Af (sm [] [(4, bD true)] [] rfl rfl) (Aq ?_)
   exact ⟨⟨[_], tm, rfl⟩, tv⟩
  ·refine Ap (wq rfl (qf BA rfl (ql EU rfl (qf Fw rfl (ql AX rfl ?_)))))
   refine BK h fun v3 a3 b3 h => qi CR BM a3 (Ah b3) rfl (qK Ey BM rfl (qz I6 rfl (qs BM rfl (Ac ?_))))
   refine AI h (fun v4 => mk [(4, bD v4)] []) (fun j4 h => ?_) (fun v4 h => ?_)
   ·refine Aj Ax rfl (qf Ft rfl (ql AX rfl (qf BB rfl (ql Bf rfl (qf Ce rfl (ql AX rfl ?_))))))
    refine BK h fun v5 a5 b5 h => qi AB CL a5 (Ah b5) rfl (qk AX rfl (Da rfl (qm rfl ?_)))
    refine Cv 30 h rfl (fun h => ?_) fun h => ?_
    ·refine qw 9 rfl (qp rfl (qw 12 rfl (qp rfl (qa rfl (AG (by kernel_rfl) ?_)))))
     exact sn [] h
    ·refine qf Gy rfl (ql AX rfl (qf BB rfl (ql Bf rfl (qf FV rfl (ql AX rfl ?_)))))
     refine BK h fun v7 a7 b7 h => qi AB CL a7 (Ah b7) rfl (qk AX rfl (Da rfl (qp rfl (qm rfl ?_))))
     refine Cv 41 h rfl (fun h => ?_) fun h => ?_
     ·refine qw 11 rfl (qp rfl (qa rfl (AG (by kernel_rfl) ?_)))
      exact sn [] h
     ·refine qf GE rfl (ql Fd rfl (qf Ft rfl (ql AX rfl ?_)))
      refine BK h fun v9 a9 b9 h => qi D2 JA a9 (Ah b9) rfl (qk JF rfl (qf Gy rfl (ql AX rfl ?_)))
      refine BK h fun v10 a10 b10 h => qi HR RH a10 (Ah b10) rfl (qk Q2 rfl (Cb rfl (qp rfl (qa rfl (AG (by kernel_rfl) ?_)))))
      exact sn [] h
   ·obtain rfl := sj h
    refine Af (sm [] [(4, bD v4)] [] rfl rfl) (Aq ?_)
    exact ⟨⟨[_], tm, rfl⟩, tv⟩
theorem Jr (N : Nat) (p0 : List Ab) (p1 : Ab) (r : Bool) (h : DB N p0 p1 = some r) : Ar zA 67 [pD (.sl (p0.map AD)), .e (.agg (AO p1))] [] (bD r) := by
 unfold DB at h
 refine cw (n := 67) (rs := [.tmp 4]) Tryz.func67 fun w0 S0 => ?_
 refine wq rfl (qb rfl (qa rfl (Ac (wp rfl (qe rfl ?_)))))
 refine A5 (L := Ci N p0 p1) h (fun v1 => mk [(0, pD (.sl (p0.map AD))), (3, oD (.ptr 3 0)), (5, iD v1)] [(3, .box (AO p1))]) (fun v2 => mk [] []) (fun _ _ => rfl) (sm [] _ _ rfl rfl) (fun j1 n1 v1 h => ?_) (fun v2 s h hs => ?_)
 ·unfold Ci at h
  refine wp rfl (qw 2 rfl (AH DV rfl (A2 rfl (Ac ?_))))
  refine Bb h (fun h => ?_) fun h => ?_
  ·refine Ap (AS (AR (wq rfl (qw 2 rfl ?_))))
   refine BK h fun v4 a4 b4 h => qi DV CV a4 (Ah b4) rfl (qK E7 CV rfl (qz IF rfl (qs CV rfl (Ac (AS ?_)))))
   refine AI h (fun v5 => mk [(0, pD (.sl (p0.map AD))), (3, oD (.ptr 3 0)), (5, iD v1), (6, oD (.ptr 6 0)), (29, bD v5)] [(3, .box (AO p1)), (6, .box (AO v4))]) (fun j5 h => ?_) (fun v5 h => ?_)
   ·refine Aj Ax rfl (qL E7 CV rfl ?_)
    refine B0 h fun v6 a6 h => Aw [] (Gn N v4 v6 a6) UH rfl (qm rfl ?_)
    refine Cv 19 h rfl (fun h => ?_) fun h => ?_
    ·refine qL E7 CV rfl ?_
     refine B0 h fun v8 a8 h => Aw [] (Gn N p1 v8 a8) UH rfl (qp rfl (qm rfl ?_))
     refine Cv 23 h rfl (fun h => ?_) fun h => ?_
     ·refine qf Ej rfl (ql Hx rfl (qf Ej rfl (ql Hx rfl (A2 rfl (qp rfl (Ac ?_))))))
      exact sn [] h
     ·refine qw 5 rfl (qp rfl (Ac ?_))
      exact sn [] h
    ·refine qw 2 rfl (qp rfl (qw 6 rfl (qp rfl (Ac ?_))))
     exact sn [] h
   ·refine Bb h (fun h => ?_) fun h => ?_
    ·refine wq rfl (qe rfl ?_)
     obtain rfl := sj h
     refine Af (sm [] [(4, bD true)] [] rfl rfl) (Aq ?_)
     exact ⟨⟨[_], tm, rfl⟩, tv⟩
    ·refine Ap (AS ?_)
     refine AI h (fun v11 => mk [(0, pD (.sl (p0.map AD))), (3, oD (.ptr 3 0)), (5, iD v1), (6, oD (.ptr 6 0)), (51, bD v11)] [(3, .box (AO p1)), (6, .box (AO v4))]) (fun j11 h => ?_) (fun v11 h => ?_)
     ·refine Aj Ax rfl (qf Ca rfl (ql AX rfl (AP rfl (qm rfl ?_))))
      refine Cv 33 h rfl (fun h => ?_) fun h => ?_
      ·refine qf Ca rfl (ql AX rfl (AP rfl (qp rfl (qm rfl ?_))))
       refine Cv 38 h rfl (fun h => ?_) fun h => ?_
       ·refine qf Gw rfl (ql AX rfl (qf Gw rfl (ql AX rfl (AP rfl (qp rfl (qm rfl ?_))))))
        refine Cv 45 h rfl (fun h => ?_) fun h => ?_
        ·refine qf HI rfl (ql AX rfl (qf HI rfl (ql AX rfl (A2 rfl (qp rfl (Ac ?_))))))
         exact sn [] h
        ·refine qw 5 rfl (qp rfl (Ac ?_))
         exact sn [] h
       ·refine qw 5 rfl (qp rfl (qw 6 rfl (qp rfl (Ac ?_))))
        exact sn [] h
      ·refine qw 3 rfl (qp rfl (qw 6 rfl (qp rfl (qw 6 rfl (qp rfl (Ac ?_))))))
       exact sn [] h
     ·refine Bb h (fun h => ?_) fun h => ?_
      ·refine wq rfl (qe rfl ?_)
       obtain rfl := sj h
       refine Af (sm [] [(4, bD true)] [] rfl rfl) (Aq ?_)
       exact ⟨⟨[_], tm, rfl⟩, tv⟩
      ·refine Ap ?_
       refine AI h (fun v16 => mk [(0, pD (.sl (p0.map AD))), (3, oD (.ptr 3 0)), (5, iD v1), (66, bD v16)] [(3, .box (AO p1))]) (fun j16 h => ?_) (fun v16 h => ?_)
       ·refine Aj Ax rfl (qf Ca rfl (ql AX rfl (AP rfl (qm rfl ?_))))
        refine Cv 55 h rfl (fun h => ?_) fun h => ?_
        ·refine qf Ca rfl (ql AX rfl (AP rfl (qp rfl (qm rfl ?_))))
         refine Cv 60 h rfl (fun h => ?_) fun h => ?_
         ·refine qf Ej rfl (ql Hx rfl (qf Ej rfl (ql Hx rfl (Lf rfl (qp rfl (Ac ?_))))))
          exact sn [] h
         ·refine qw 5 rfl (qp rfl (Ac ?_))
          exact sn [] h
        ·refine qw 3 rfl (qp rfl (qw 6 rfl (qp rfl (Ac ?_))))
         exact sn [] h
       ·refine Bb h (fun h => ?_) fun h => ?_
        ·refine wq rfl (qe rfl ?_)
         obtain rfl := sj h
         refine Af (sm [] [(4, bD true)] [] rfl rfl) (Aq ?_)
         exact ⟨⟨[_], tm, rfl⟩, tv⟩
        ·refine Ap (Aj Ax rfl (qm rfl (Cl rfl (qe rfl ?_))))
         exact sn [] h
  ·refine BS ?_
   exact sn [] h
 ·refine Af hs (wq rfl (qe rfl ?_))
  obtain rfl := sj h
  refine Af (sm [] [(4, bD false)] [] rfl rfl) (Aq ?_)
  exact ⟨⟨[_], tm, rfl⟩, tv⟩
theorem Iy (N : Nat) (p0 : List Int) (p1 : Int) (r : Int) (h : Cq N p0 p1 = some r) : Ar zA 77 [pD (.sl (p0.map As)), iD p1] [] (iD r) := by
 unfold Cq at h
 refine cw (n := 25) (rs := [.tmp 4]) Tryz.func77 fun w0 S0 => ?_
 refine wq rfl (qa rfl (Ac (wp rfl (qe rfl ?_))))
 refine A5 (L := B5 N p0) h (fun v1 => mk [(0, pD (.sl (p0.map As))), (1, iD v1.1), (5, iD v1.2)] []) (fun v2 => mk [] []) (fun _ _ => rfl) (sm [] _ _ rfl rfl) (fun j1 n1 v1 h => ?_) (fun v2 s h hs => ?_)
 ·unfold B5 at h
  refine wp rfl (qw 2 rfl (AH AB rfl (A2 rfl (Ac ?_))))
  refine Bb h (fun h => ?_) fun h => ?_
  ·refine Ap (AS (AR (wp rfl (qw 3 rfl ?_))))
   refine BK h fun v4 a4 b4 h => qi AB CL a4 (Ah b4) rfl (qk AX rfl (A2 rfl (Ac ?_)))
   refine Bb h (fun h => ?_) fun h => ?_
   ·refine wq rfl (qm rfl (qe rfl ?_))
    obtain rfl := sj h
    refine Af (sm [] [(4, iD v1.2)] [] rfl rfl) (Aq ?_)
    exact ⟨⟨[_], tm, rfl⟩, tv⟩
   ·refine Ap (Aj Ax rfl (qw 3 rfl ?_))
    refine BK h fun v6 a6 b6 h => qi AB CL a6 (Ah b6) rfl (qk AX rfl (J1 rfl (qa rfl (Ac (Aj Ax rfl (qm rfl (Cl rfl (qe rfl ?_))))))))
    exact sn [] h
  ·refine BS ?_
   exact sn [] h
 ·refine Af hs (wq rfl (qe rfl ?_))
  obtain rfl := sj h
  refine Af (sm [] [(4, iD ((-1)))] [] rfl rfl) (Aq ?_)
  exact ⟨⟨[_], tm, rfl⟩, tv⟩
theorem EQ (N : Nat) (p0 : Ae) (p1 : Int) (p2 : Int) (r : Bool) (h : Bh N p0 p1 p2 = some r) : Ar zA 78 [.e (.agg (Bi p0)), iD p1, iD p2] [] (bD r) := by
 unfold Bh at h
 refine cw (n := 27) (rs := [.tmp 6]) Tryz.func78 fun w0 S0 => ?_
 refine wq rfl (qb rfl (qe rfl ?_))
 refine AI h (fun v1 => mk [(6, bD v1)] []) (fun j1 h => ?_) (fun v1 h => ?_)
 ·refine Aj Ax rfl (qm rfl (Da rfl (qm rfl ?_)))
  refine Cv 9 h rfl (fun h => ?_) fun h => ?_
  ·refine qm rfl (qf C3 rfl (ql Bf rfl (qm rfl ?_)))
   refine BK h fun v3 a3 b3 h => qi AB CL a3 (Ah b3) rfl (qk AX rfl (AP rfl (qm rfl ?_)))
   refine Cv 17 h rfl (fun h => ?_) fun h => ?_
   ·refine qw 7 rfl (qp rfl (qp rfl (qe rfl ?_)))
    exact sn [] h
   ·refine qm rfl (qf BU rfl (ql Bf rfl (qm rfl ?_)))
    refine BK h fun v5 a5 b5 h => qi AB CL a5 (Ah b5) rfl (qk AX rfl (AP rfl (qp rfl (qp rfl (qe rfl ?_)))))
    exact sn [] h
  ·refine qw 8 rfl (qu rfl (qu rfl (qu rfl (qu rfl (qu rfl (qu rfl (qu rfl (qn rfl (qp rfl (qe rfl ?_))))))))))
   exact sn [] h
 ·obtain rfl := sj h
  refine Af (sm [] [(6, bD v1)] [] rfl rfl) (Aq ?_)
  exact ⟨⟨[_], tm, rfl⟩, tv⟩
theorem JS (N : Nat) (p0 : Aa) (p1 : List Int) (p2 : Av) (p3 : Bool) (p4 : List Ab) (p5 : Ab) (r : Int) (h : C7 N p0 p1 p2 p3 p4 p5 = some r) : Ar zA 38 [.e (.agg (Ak p0)), pD (.sl (p1.map As)), .e (.agg (AM p2)), bD p3, pD (.sl (p4.map AD)), .e (.agg (AO p5))] [] (iD r) := by
 unfold C7 at h
 refine cw (n := 82) (rs := [.tmp 12]) Tryz.func38 fun w0 S0 => ?_
 refine wq rfl (qb rfl (qb rfl (qb rfl (qa rfl (Ac (wp rfl (qL Dg C8 rfl (qL E7 CV rfl ?_))))))))
 refine B0 h fun v1 a1 h => Aw [] (JW N p0 p5 v1 a1) Xn rfl (Ac ?_)
 refine Bb h (fun h => ?_) fun h => ?_
 ·refine wq rfl (qe rfl ?_)
  obtain rfl := sj h
  refine Af (sm [] [(12, iD 1)] [] rfl rfl) (Aq ?_)
  exact ⟨⟨[_], tm, rfl⟩, tv⟩
 ·refine Ap (wp rfl (qm rfl (Cb rfl (Ac ?_))))
  refine Bb h (fun h => ?_) fun h => ?_
  ·refine wq rfl (qe rfl ?_)
   obtain rfl := sj h
   refine Af (sm [] [(12, iD 2)] [] rfl rfl) (Aq ?_)
   exact ⟨⟨[_], tm, rfl⟩, tv⟩
  ·refine Ap (wp rfl (qm rfl (qL E7 CV rfl ?_)))
   refine B0 h fun v4 a4 h => Aw [] (Jr N p4 p5 v4 a4) Xc rfl (Ac ?_)
   refine Bb h (fun h => ?_) fun h => ?_
   ·refine wq rfl (qe rfl ?_)
    obtain rfl := sj h
    refine Af (sm [] [(12, iD 3)] [] rfl rfl) (Aq ?_)
    exact ⟨⟨[_], tm, rfl⟩, tv⟩
   ·refine Ap ?_
    refine AI h (fun v6 => mk [(6, oD (.ptr 6 0)), (8, oD (.ptr 8 0)), (11, oD (.ptr 11 0))] [(6, .box (Ak p0)), (8, .box (AM p2)), (11, .box (AO p5))]) (fun j6 h => ?_) (fun v6 h => ?_)
    ·refine wq rfl (qf Ca rfl (ql AX rfl (AP rfl (Ac ?_))))
     refine Bb h (fun h => ?_) fun h => ?_
     ·refine wq rfl (qm rfl (qf Gw rfl (ql AX rfl ?_)))
      refine B0 h fun v8 a8 h => Aw [] (Iy N p1 p5.ft v8 a8) XA rfl (qe rfl ?_)
      refine AI h (fun v9 => mk [(6, oD (.ptr 6 0)), (8, oD (.ptr 8 0)), (11, oD (.ptr 11 0)), (41, bD v9)] [(6, .box (Ak p0)), (8, .box (AM p2)), (11, .box (AO p5))]) (fun j9 h => ?_) (fun v9 h => ?_)
      ·refine Aj Ax rfl (qm rfl (A2 rfl (qm rfl ?_)))
       refine Cv 33 h rfl (fun h => ?_) fun h => ?_
       ·refine qw 7 rfl (qp rfl (Ac ?_))
        exact sn [] h
       ·refine qf Gx rfl (qL B1 AV rfl (qm rfl (qf Ji rfl (ql AX rfl ?_))))
        refine B0 h fun v11 a11 h => Aw [] (EQ N ((Ae.mk p2.fd.fh p2.fd.ff p2.fd.fg)) v8 p5.fq v11 a11) Vm rfl (Cb rfl (qp rfl (Ac ?_)))
        exact sn [] h
      ·refine Bb h (fun h => ?_) fun h => ?_
       ·refine wq rfl (qe rfl ?_)
        obtain rfl := sj h
        refine Af (sm [] [(12, iD 4)] [] rfl rfl) (Aq ?_)
        exact ⟨⟨[_], tm, rfl⟩, tv⟩
       ·refine Ap ?_
        exact sn [] h
     ·refine Ap ?_
      exact sn [] h
    ·refine AI h (fun v13 => mk [] []) (fun j13 h => ?_) (fun v13 h => ?_)
     ·refine wq rfl (qf Ca rfl (ql AX rfl (AP rfl (Ac ?_))))
      refine Bb h (fun h => ?_) fun h => ?_
      ·refine wq rfl (qf BA rfl (ql EU rfl (qf Fw rfl (ql AX rfl ?_))))
       refine BK h fun v15 a15 b15 h => qi CR BM a15 (Ah b15) rfl (qK Ey BM rfl (qz I6 rfl (qs BM rfl (Ac (wq rfl (qf Gx rfl (qL B1 AV rfl (qf Ce rfl (ql AX rfl (qf Ft rfl (ql AX rfl ?_)))))))))))
       refine B0 h fun v16 a16 h => Aw [] (EQ N ((Ae.mk p2.fd.fh p2.fd.ff p2.fd.fg)) v15.fj p5.fw v16 a16) Vm rfl (qe rfl ?_)
       refine AI h (fun v17 => mk [(8, oD (.ptr 8 0)), (11, oD (.ptr 11 0)), (14, oD (.ptr 14 0)), (15, bD v17)] [(8, .box (AM p2)), (11, .box (AO p5)), (14, .box (CA v15))]) (fun j17 h => ?_) (fun v17 h => ?_)
       ·refine wq rfl (qL Ey BM rfl ?_)
        refine B0 h fun v18 a18 h => Aw [] (B3 N v15 v18 a18) OL rfl (Ac ?_)
        refine Bb h (fun h => ?_) fun h => ?_
        ·refine Aj Ax rfl (qf Gx rfl (qf CI rfl (ql G6 rfl (qf Fw rfl (ql AX rfl ?_)))))
         refine BK h fun v20 a20 b20 h => qi DT DW a20 (Ah b20) rfl (qk Hu rfl (qf Ft rfl (ql AX rfl ?_)))
         refine B0 h fun v21 a21 h => Aw [] (Ga N v20 p5.fw v21 a21) UJ rfl (qa rfl (AG (by kernel_rfl) ?_))
         exact sn [] h
        ·refine Ap ?_
         exact sn [] h
       ·refine AI h (fun v22 => mk [(81, bD v22)] []) (fun j22 h => ?_) (fun v22 h => ?_)
        ·refine Aj Ax rfl (qm rfl (Cb rfl (qm rfl ?_)))
         refine Cv 72 h rfl (fun h => ?_) fun h => ?_
         ·refine qw 8 rfl (qp rfl (Ac ?_))
          exact sn [] h
         ·refine qf Gx rfl (qL B1 AV rfl (qf FV rfl (ql AX rfl (qf Gy rfl (ql AX rfl ?_)))))
          refine B0 h fun v24 a24 h => Aw [] (EQ N ((Ae.mk p2.fd.fh p2.fd.ff p2.fd.fg)) v15.fA p5.fC v24 a24) Vm rfl (Cb rfl (qp rfl (Ac ?_)))
          exact sn [] h
        ·refine Bb h (fun h => ?_) fun h => ?_
         ·refine wq rfl (qe rfl ?_)
          obtain rfl := sj h
          refine Af (sm [] [(12, iD 5)] [] rfl rfl) (Aq ?_)
          exact ⟨⟨[_], tm, rfl⟩, tv⟩
         ·refine Ap ?_
          exact sn [] h
      ·refine Ap ?_
       exact sn [] h
     ·refine wq rfl (qe rfl ?_)
      obtain rfl := sj h
      refine Af (sm [] [(12, iD 0)] [] rfl rfl) (Aq ?_)
      exact ⟨⟨[_], tm, rfl⟩, tv⟩
theorem Jk (N : Nat) (p0 : Aa) (p1 : List Int) (p2 : List Al) (p3 : List Ab) (r : Int × Int × Int) (h : Dy N p0 p1 p2 p3 = some r) : Ar zA 15 [.e (.agg (Ak p0)), pD (.sl (p1.map As)), pD (.sl (p2.map AN)), pD (.sl (p3.map AD))] [] (.tup [.one (iC r.1), .one (iC r.2.1), .one (iC r.2.2)]) := by
 unfold Dy at h
 refine cw (n := 61) (rs := [.tmp 8, .tmp 9, .tmp 10]) Tryz.func15 fun w0 S0 => ?_
 refine wq rfl (qb rfl (qa rfl (qa rfl (qa rfl (Ac (wp rfl (qL Dg C8 rfl (qw 3 rfl ?_))))))))
 refine B0 h fun v1 a1 h => Aw [] (Jo N p0 p1 p2 p3 v1 a1) Xm rfl (qa rfl (Ac (wq rfl (qm rfl (BE rfl (Ac ?_))))))
 refine Bb h (fun h => ?_) fun h => ?_
 ·refine wq rfl (qm rfl (qa rfl (qa rfl (qe rfl ?_))))
  obtain rfl := sj h
  refine Af (sm [] [(8, iD 0), (9, iD 0), (10, iD v1)] [] rfl rfl) (Aq ?_)
  exact ⟨⟨[_, _, _], ⟨.tmp _ _ rfl, ⟨.tmp _ _ rfl, tm⟩⟩, rfl⟩, tv⟩
 ·refine Ap (wq rfl (qL Dg C8 rfl ?_))
  refine B0 h fun v3 a3 h => Aw [2001, 2002, 2003] (GS N p0 v3 a3) Wj rfl (qz Ot rfl (qs Fr rfl (Ac (wp rfl (qe rfl ?_)))))
  refine A5 (L := Cf N p0 p1 p2 p3) h (fun v4 => mk [(1, pD (.sl (p1.map As))), (2, pD (.sl (p2.map AN))), (3, pD (.sl (p3.map AD))), (4, oD (.ptr 4 0)), (12, oD (.ptr 12 0)), (13, iD v4.2.2.2.2.2.2)] [(4, .box (Ak p0)), (12, .box [iC v4.1, .pure (.val (.bool v4.2.1)), .pure (.val (.bool v4.2.2.1)), sC (v4.2.2.2.1.map As), sC (v4.2.2.2.2.1.map As), sC (v4.2.2.2.2.2.1.map Dq)])]) (fun v5 => mk [] []) (fun _ _ => rfl) ((A8 2001 _ _ rfl rfl).trans ((A8 2002 _ _ rfl rfl).trans ((A8 2003 _ _ rfl rfl).trans (sm [] _ _ rfl rfl)))) (fun j4 n4 v4 h => ?_) (fun v5 s h hs => ?_)
  ·unfold Cf at h
   refine wp rfl (qw 2 rfl (AH DV rfl (A2 rfl (Ac ?_))))
   refine Bb h (fun h => ?_) fun h => ?_
   ·refine Ap (AS (AR (wq rfl (qL Dg C8 rfl (qm rfl (qL IA Fr rfl (qw 2 rfl ?_)))))))
    refine BK h fun v7 a7 b7 h => qi DV CV a7 (Ah b7) rfl (qK E7 CV rfl ?_)
    refine B0 h fun v8 a8 h => Aw [] (GW N p0 p2 ((Av.mk v4.1 v4.2.1 v4.2.2.1 ((Ae.mk v4.2.2.2.1 v4.2.2.2.2.1 v4.2.2.2.2.2.1)))) v7 v8 a8) WD rfl (qm rfl (qx rfl (qx rfl (qz Ot rfl (qs Fr rfl (qa rfl (AG (by kernel_rfl) (wp rfl (qL Dg C8 rfl (qm rfl (qL IA Fr rfl (qw 3 rfl ?_))))))))))))
    refine HS h fun c9 h => Lx (.p rfl) rfl DV CV (H1 (f := AD) (n := 11) (fun _ => rfl) _) (.none _) (.some _ _ _ _ c9.1) tv ⟨rfl, tv⟩ (by have := c9.2.1; (try simp only [zY]); omega) (by have := c9.2.2; (try simp only [zY]); omega) (Kw AD p3 _ _ ((v4.2.2.2.2.2.2).toNat - 0) rfl) ?_
    refine qw 2 rfl ?_
    refine BK h fun v10 a10 b10 h => qi DV CV a10 (Ah b10) rfl (qK E7 CV rfl ?_)
    refine B0 h fun v11 a11 h => Aw [] (JS N p0 p1 ((Av.mk v4.1 v4.2.1 v4.2.2.1 ((Ae.mk v4.2.2.2.1 v4.2.2.2.2.1 v4.2.2.2.2.2.1)))) v8.2 (((p3.drop 0).take ((v4.2.2.2.2.2.2).toNat - 0))) v10 v11 a11) W5 rfl (qa rfl (AG (by kernel_rfl) (wq rfl (qm rfl (BE rfl (Ac ?_))))))
    refine Bb h (fun h => ?_) fun h => ?_
    ·refine wq rfl (qw 2 rfl (qa rfl (qa rfl (qe rfl ?_))))
     obtain rfl := sj h
     refine Af (sm [] [(8, iD v4.2.2.2.2.2.2), (9, iD v11), (10, iD 0)] [] rfl rfl) (Aq ?_)
     exact ⟨⟨[_, _, _], ⟨.tmp _ _ rfl, ⟨.tmp _ _ rfl, tm⟩⟩, rfl⟩, tv⟩
    ·refine Ap (Aj Ax rfl (qL IA Fr rfl (qs Fr rfl (Ac (Aj Ax rfl (qm rfl (Cl rfl (qe rfl ?_))))))))
     exact sn [] h
   ·refine BS ?_
    exact sn [] h
  ·refine Af hs (wq rfl (qa rfl (qa rfl (qe rfl ?_))))
   obtain rfl := sj h
   refine Af (sm [] [(8, iD 0), (9, iD 0), (10, iD 15)] [] rfl rfl) (Aq ?_)
   exact ⟨⟨[_, _, _], ⟨.tmp _ _ rfl, ⟨.tmp _ _ rfl, tm⟩⟩, rfl⟩, tv⟩
theorem JO (N : Nat) (p0 : Aa) (p1 : List Al) (p2 : List Ab) (r : Av × Int) (h : DU N p0 p1 p2 = some r) : Ar zA 41 [.e (.agg (Ak p0)), pD (.sl (p1.map AN)), pD (.sl (p2.map AD))] [] (.tup [.agg (AM r.1), .one (iC r.2)]) := by
 unfold DU at h
 refine cw (n := 37) (rs := [.cell 6 73, .tmp 7]) Tryz.func41 fun w0 S0 => ?_
 refine wq rfl (qb rfl (qz Ot rfl (qa rfl (Ac (wq rfl (qL Dg C8 rfl ?_))))))
 refine B0 h fun v1 a1 h => Aw [2001, 2002, 2003] (GS N p0 v1 a1) Wj rfl (qz Ot rfl (qs Fr rfl (Ac (wp rfl (qe rfl ?_)))))
 refine A5 (L := Cp N p0 p1 p2) h (fun v2 => mk [(1, pD (.sl (p1.map AN))), (2, pD (.sl (p2.map AD))), (3, oD (.ptr 3 0)), (6, oD (.ptr 6 0)), (8, oD (.ptr 8 0)), (9, iD v2.2.2.2.2.2.2)] [(3, .box (Ak p0)), (6, .box [iC 0, .pure (.val (.bool false)), .pure (.val (.bool false)), .pure (.nil0), .pure (.nil0), .pure (.nil0)]), (8, .box [iC v2.1, .pure (.val (.bool v2.2.1)), .pure (.val (.bool v2.2.2.1)), sC (v2.2.2.2.1.map As), sC (v2.2.2.2.2.1.map As), sC (v2.2.2.2.2.2.1.map Dq)])]) (fun v3 => mk [(6, oD (.ptr 6 0)), (8, oD (.ptr 8 0))] [(6, .box [iC 0, .pure (.val (.bool false)), .pure (.val (.bool false)), .pure (.nil0), .pure (.nil0), .pure (.nil0)]), (8, .box (AM v3))]) (fun _ _ => rfl) ((A8 2001 _ _ rfl rfl).trans ((A8 2002 _ _ rfl rfl).trans ((A8 2003 _ _ rfl rfl).trans (sm [] _ _ rfl rfl)))) (fun j2 n2 v2 h => ?_) (fun v3 s h hs => ?_)
 ·unfold Cp at h
  refine wp rfl (qw 2 rfl (AH DV rfl (A2 rfl (Ac ?_))))
  refine Bb h (fun h => ?_) fun h => ?_
  ·refine Ap (AS (AR (wq rfl (qL Dg C8 rfl (qm rfl (qL IA Fr rfl (qw 2 rfl ?_)))))))
   refine BK h fun v5 a5 b5 h => qi DV CV a5 (Ah b5) rfl (qK E7 CV rfl ?_)
   refine B0 h fun v6 a6 h => Aw [] (GW N p0 p1 ((Av.mk v2.1 v2.2.1 v2.2.2.1 ((Ae.mk v2.2.2.2.1 v2.2.2.2.2.1 v2.2.2.2.2.2.1)))) v5 v6 a6) WD rfl (qm rfl (qx rfl (qx rfl (qz Ot rfl (qs Fr rfl (qa rfl (AG (by kernel_rfl) (wp rfl (qm rfl (Cb rfl (Ac ?_)))))))))))
   refine Bb h (fun h => ?_) fun h => ?_
   ·refine wq rfl (qL IA Fr rfl (qm rfl (qs Fr rfl (qe rfl ?_))))
    obtain rfl := sj h
    refine Af (sm [] [(6, oD (.ptr 6 0)), (7, iD v2.2.2.2.2.2.2)] [(6, .box [iC v2.1, .pure (.val (.bool v2.2.1)), .pure (.val (.bool v2.2.2.1)), sC (v2.2.2.2.1.map As), sC (v2.2.2.2.2.1.map As), sC (v2.2.2.2.2.2.1.map Dq)])] rfl rfl) (Aq ?_)
    exact ⟨⟨[_, _], ⟨.cellN _ _ _ _ _ _ _ rfl rfl IA Fr rfl rfl (HL rfl), tm⟩, rfl⟩, tv⟩
   ·refine Ap (Aj Ax rfl (qL IA Fr rfl (qs Fr rfl (Ac (Aj Ax rfl (qm rfl (Cl rfl (qe rfl ?_))))))))
    exact sn [] h
  ·refine BS ?_
   exact sn [] h
 ·refine Af hs (wq rfl (qL IA Fr rfl (qs Fr rfl (qe rfl ?_))))
  obtain rfl := sj h
  refine Af (sm [] [(6, oD (.ptr 6 0)), (7, iD ((-1)))] [(6, .box (AM v3))] rfl rfl) (Aq ?_)
  exact ⟨⟨[_, _], ⟨.cellN _ _ _ _ _ _ _ rfl rfl IA Fr rfl rfl (HL rfl), tm⟩, rfl⟩, tv⟩
theorem Ip (N : Nat) (p0 : Aa) (p1 : List Int) (p2 : List Al) (p3 : List Ab) (r : Bool) (h : Cj N p0 p1 p2 p3 = some r) : Ar zA 25 [.e (.agg (Ak p0)), pD (.sl (p1.map As)), pD (.sl (p2.map AN)), pD (.sl (p3.map AD))] [] (bD r) := by
 unfold Cj at h
 refine cw (n := 37) (rs := [.tmp 8]) Tryz.func25 fun w0 S0 => ?_
 refine wq rfl (qb rfl (qa rfl (Ac (wq rfl (qL Dg C8 rfl (qw 3 rfl ?_))))))
 refine B0 h fun v1 a1 h => Aw [] (Jk N p0 p1 p2 p3 v1 a1) Xw rfl (qm rfl (qx rfl (qx rfl (qx rfl (qa rfl (qa rfl (qa rfl (Ac (wp rfl (qm rfl (BE rfl (Ac ?_))))))))))))
 refine Bb h (fun h => ?_) fun h => ?_
 ·refine wq rfl (qe rfl ?_)
  obtain rfl := sj h
  refine Af (sm [] [(8, bD false)] [] rfl rfl) (Aq ?_)
  exact ⟨⟨[_], tm, rfl⟩, tv⟩
 ·refine Ap (wq rfl (qL Dg C8 rfl (qw 2 rfl ?_)))
  refine B0 h fun v3 a3 h => Aw [] (JO N p0 p2 p3 v3 a3) Xl rfl (qm rfl (qx rfl (qx rfl (qz Ot rfl (qs Fr rfl (qa rfl (Ac (wq rfl (qf Jb rfl (ql AX rfl (qm rfl (AH F4 rfl (AP rfl (qe rfl ?_))))))))))))))
  obtain rfl := sj h
  refine Af (sm [] [(8, bD ((v3.1.fi == (p2.length : Int))))] [] rfl rfl) (Aq ?_)
  exact ⟨⟨[_], tm, rfl⟩, tv⟩
theorem G9 (N : Nat) (p0 : BZ) (r : Bool) (h : B9 N p0 = some r) : Ar zA 8 [.e (.agg (GQ p0))] [] (bD r) := by
 unfold B9 at h
 refine cw (n := 31) (rs := [.tmp 2]) Tryz.func8 fun w0 S0 => ?_
 refine wq rfl (qb rfl (qa rfl (Ac (AS ?_))))
 refine AI h (fun v1 => mk [(1, oD (.ptr 1 0)), (9, bD v1)] [(1, .box (GQ p0))]) (fun j1 h => ?_) (fun v1 h => ?_)
 ·refine Aj Ax rfl ?_
  refine B0 h fun v2 a2 h => Aw [] (GU N v2 a2) VA rfl (Cb rfl (qm rfl ?_))
  refine Cv 5 h rfl (fun h => ?_) fun h => ?_
  ·refine qw 3 rfl (qp rfl (Ac ?_))
   exact sn [] h
  ·refine qL Xu XG rfl ?_
   refine B0 h fun v4 a4 h => Aw [] (J8 N ((BZ.mk ((Aa.mk p0.fc.fb p0.fc.fk p0.fc.fp p0.fc.fe)) p0.fO p0.fr p0.fM)) v4 a4) W4 rfl (Cb rfl (qp rfl (Ac ?_)))
   exact sn [] h
 ·refine Bb h (fun h => ?_) fun h => ?_
  ·refine wq rfl ?_
   refine B0 h fun v6 a6 h => Aw [] (GU N v6 a6) VA rfl (qe rfl ?_)
   obtain rfl := sj h
   refine Af (sm [] [(2, bD v6)] [] rfl rfl) (Aq ?_)
   exact ⟨⟨[_], tm, rfl⟩, tv⟩
  ·refine Ap (wq rfl (qf NS rfl (qL Dg C8 rfl (qf Oa rfl (ql Bf rfl (qf NI rfl (ql Re rfl (qf Oi rfl (ql Vo rfl ?_)))))))))
   refine B0 h fun v7 a7 h => Aw [2001] (FC N p0.fM v7 a7) XH rfl ?_
   refine B0 h fun v8 a8 h => HF [] [2001] (KS N ((Aa.mk p0.fc.fb p0.fc.fk p0.fc.fp p0.fc.fe)) p0.fO p0.fr v7 v8 a8) Xi FI rfl (qf NS rfl (qL Dg C8 rfl (qf Oa rfl (ql Bf rfl (qf NI rfl (ql Re rfl (qf Oi rfl (ql Vo rfl ?_))))))))
   refine B0 h fun v9 a9 h => Aw [] (Ip N ((Aa.mk p0.fc.fb p0.fc.fk p0.fc.fp p0.fc.fe)) p0.fO p0.fr p0.fM v9 a9) Xv rfl ?_
   refine Es (.p rfl) rfl rfl (SS _ _ _ _ XT) rfl ?_
   refine qa rfl (AG (by kernel_rfl) ?_)
   obtain rfl := sj h
   refine Af (sm [] [(2, bD ((v8 == v9)))] [] rfl rfl) (Aq ?_)
   exact ⟨⟨[_], tm, rfl⟩, tv⟩
end Go.Lift
