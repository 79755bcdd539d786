/- Lemmas for AuditCorrectCardSaid, which YtfgobbnahihlfaaGreatDoorFinA6 proves. -/
import Derived.Test.YtfgobbnahihlfaaGreatDoorCode4
open Int renaming tdiv → y5, tmod → zJ
open Go.Proofs.Tryz renaming prog → zA
namespace Go.Lift
open IntKind renaming wrap → wI
set_option maxRecDepth 10000
open Go.RowKit
open Go.Proofs
theorem JP (N : Nat) (p0 : Aa) (p1 : List Int) (p2 : Ak) (p3 : Ct) (r : Ak × (List Bk)) (h : A6 N p0 p1 p2 p3 = some r) : Au zA 98 [.e (.agg (Ag p0)), pD (.sl (p1.map Aq)), .e (.agg (AM p2)), .e (.agg (Gi p3))] [(10, r.2.map Cj)] (.tup [.agg (AM r.1), .one (.own 0)]) := by
 unfold A6 at h
 refine cw (n := 217) (rs := [.cell 8 91, .tmp 9]) Tryz.func98 fun w0 S0 => ?_
 refine wq rfl (qb rfl (qb rfl (qb rfl (qz KF rfl (qa rfl (Ac (wp rfl (qf Jn rfl (ql A8 rfl (AN rfl (Ac ?_)))))))))))
 refine Bb h (fun h => ?_) fun h => ?_
 ·refine wp rfl (qf VL rfl (ql Lq rfl (qf IJ rfl (ql Lq rfl (TR rfl (Ac ?_))))))
  refine Bb h (fun h => ?_) fun h => ?_
  ·refine wq rfl (qL Dx B1 rfl (qs B1 rfl (qe rfl ?_)))
   obtain rfl := sj h
   refine Ah ((Bl 9 2001 10 rfl rfl rfl).trans (sm [(1000, 2001)] [(8, oD (.ptr 8 0)), (9, oD (.own 1000))] [(8, .box (AM p2)), (1000, .vec 10 ((([] : List Bk)).map Cj))] rfl rfl)) (As ?_)
   exact ⟨⟨[_, _], ⟨.cellN _ _ _ _ _ _ _ rfl rfl Dx B1 rfl rfl (E1 rfl), tm⟩, rfl⟩, ⟨rfl, tv⟩⟩
  ·refine Al (wq rfl (qf VL rfl (ql Lq rfl (qf IJ rfl (qs Pg rfl (Ac (wq rfl (qL BZ BB rfl (qm rfl (qL Dx B1 rfl ?_))))))))))
   refine BF h fun v3 a3 h => Av [2002] (Jt N p0 p1 ((Ak.mk p2.gT p2.gE p2.gQ p2.gO p2.gP p3.gN ((Ab.mk p2.gB.gI p2.gB.gF p2.gB.gG)))) v3 a3) bq rfl (qx rfl (qx rfl (qs B1 rfl (qe rfl ?_))))
   obtain rfl := sj h
   refine Ah (sm [(1000, 2002)] [(8, oD (.ptr 8 0)), (9, oD (.own 1000))] [(8, .box (AM v3.1)), (1000, .vec 10 (v3.2.map Cj))] rfl rfl) (As ?_)
   exact ⟨⟨[_, _], ⟨.cellN _ _ _ _ _ _ _ rfl rfl Dx B1 rfl rfl (E1 rfl), tm⟩, rfl⟩, ⟨rfl, tv⟩⟩
 ·refine Al (wp rfl (qf IJ rfl (ql Lq rfl (AN rfl (Ac ?_)))))
  refine Bb h (fun h => ?_) fun h => ?_
  ·refine wq rfl (qL Dx B1 rfl (qs B1 rfl (qe rfl ?_)))
   obtain rfl := sj h
   refine Ah ((Bl 9 2003 10 rfl rfl rfl).trans (sm [(1000, 2003)] [(8, oD (.ptr 8 0)), (9, oD (.own 1000))] [(8, .box (AM p2)), (1000, .vec 10 ((([] : List Bk)).map Cj))] rfl rfl)) (As ?_)
   exact ⟨⟨[_, _], ⟨.cellN _ _ _ _ _ _ _ rfl rfl Dx B1 rfl rfl (E1 rfl), tm⟩, rfl⟩, ⟨rfl, tv⟩⟩
  ·refine Al (wq rfl (qf Vx rfl (ql A8 rfl (qf Jf rfl (ql A8 rfl (AN rfl (qe rfl ?_)))))))
   refine AI h (fun v5 => mk [(6, oD (.ptr 6 0)), (8, oD (.ptr 8 0))] [(6, .box [sC (p2.gT.map Ax), iC p2.gE, iC p2.gQ, iC p2.gO, iC p2.gP, iC v5, sC (p2.gB.gI.map Aq), sC (p2.gB.gF.map Aq), sC (p2.gB.gG.map Cy)]), (8, .box [.pure (.nil0), iC 0, iC 0, iC 0, iC 0, iC 0, .pure (.nil0), .pure (.nil0), .pure (.nil0)])]) (fun j5 h => ?_) (fun v5 h => ?_)
   ·refine AX (wq rfl (qf Jn rfl (ql A8 rfl (AN rfl (qe rfl ?_)))))
    refine Bb h (fun h => ?_) fun h => ?_
    ·refine Ai Aw rfl (qf IJ rfl (qs Pg rfl (Ac ?_)))
     exact sn [] h
    ·refine wq rfl (qf Jn rfl (ql A8 rfl (AN rfl (qe rfl ?_))))
     refine Bb h (fun h => ?_) fun h => ?_
     ·refine wq rfl (qL BZ BB rfl (qm rfl (qL Dx B1 rfl ?_)))
      refine BF h fun v8 a8 h => Av [2004] (Jt N p0 p1 ((Ak.mk p2.gT p2.gE p2.gQ p2.gO p2.gP p2.gN ((Ab.mk p2.gB.gI p2.gB.gF p2.gB.gG)))) v8 a8) bq rfl (qx rfl (qx rfl (qs B1 rfl (qe rfl ?_))))
      obtain rfl := sj h
      refine Ah (sm [(1000, 2004)] [(8, oD (.ptr 8 0)), (9, oD (.own 1000))] [(8, .box (AM v8.1)), (1000, .vec 10 (v8.2.map Cj))] rfl rfl) (As ?_)
      exact ⟨⟨[_, _], ⟨.cellN _ _ _ _ _ _ _ rfl rfl Dx B1 rfl rfl (E1 rfl), tm⟩, rfl⟩, ⟨rfl, tv⟩⟩
     ·refine AI h (fun v9 => mk [(1, pD (.sl (p1.map Aq))), (4, oD (.ptr 4 0)), (6, oD (.ptr 6 0)), (7, oD (.ptr 7 0)), (8, oD (.ptr 8 0)), (10, bD ((p3.gP == p2.gP))), (58, bD v9)] [(4, .box (Ag p0)), (6, .box (AM p2)), (7, .box (Gi p3)), (8, .box [.pure (.nil0), iC 0, iC 0, iC 0, iC 0, iC 0, .pure (.nil0), .pure (.nil0), .pure (.nil0)])]) (fun j9 h => ?_) (fun v9 h => ?_)
      ·refine Ai Aw rfl (qf Jn rfl (ql A8 rfl (AN rfl (qm rfl ?_))))
       refine Dc 62 h rfl (fun h => ?_) fun h => ?_
       ·refine qm rfl (qp rfl (qm rfl ?_))
        refine Dc 65 h rfl (fun h => ?_) fun h => ?_
        ·refine qf DT rfl (ql A8 rfl (AN rfl (qm rfl ?_)))
         refine Dc 69 h rfl (fun h => ?_) fun h => ?_
         ·refine qw 3 rfl (qp rfl (qp rfl (qe rfl ?_)))
          exact sn [] h
         ·refine qf DT rfl (ql A8 rfl (AN rfl (qp rfl (qp rfl (qe rfl ?_)))))
          exact sn [] h
        ·refine qw 4 rfl (qu rfl (qu rfl (qu rfl (qn rfl (qp rfl (qe rfl ?_))))))
         exact sn [] h
       ·refine qn rfl (qp rfl (qw 5 rfl (qu rfl (qu rfl (qu rfl (qn rfl (qp rfl (qe rfl ?_))))))))
        exact sn [] h
      ·refine Bb h (fun h => ?_) fun h => ?_
       ·refine A5 ?_
        refine AI h (fun v14 => mk [(1, pD (.sl (p1.map Aq))), (4, oD (.ptr 4 0)), (6, oD (.ptr 6 0)), (8, oD (.ptr 8 0)), (86, bD v14)] [(4, .box (Ag p0)), (6, .box (AM p2)), (8, .box [.pure (.nil0), iC 0, iC 0, iC 0, iC 0, iC 0, .pure (.nil0), .pure (.nil0), .pure (.nil0)])]) (fun j14 h => ?_) (fun v14 h => ?_)
        ·refine Ai Aw rfl (qf Vm rfl (ql A8 rfl (qf HD rfl (ql A8 rfl (BH rfl (qm rfl ?_))))))
         refine Dc 80 h rfl (fun h => ?_) fun h => ?_
         ·refine qw 5 rfl (qp rfl (AJ (by kernel_rfl) ?_))
          exact sn [] h
         ·refine qf Vj rfl (ql A8 rfl (qL Dx B1 rfl ?_))
          refine BF h fun v16 a16 h => Av [] (FJ N ((Ak.mk p2.gT p2.gE p2.gQ p2.gO p2.gP p2.gN ((Ab.mk p2.gB.gI p2.gB.gF p2.gB.gG)))) v16 a16) V8 rfl (BH rfl (qp rfl (AJ (by kernel_rfl) ?_)))
          exact sn [] h
        ·refine Bb h (fun h => ?_) fun h => ?_
         ·refine wq rfl (qL Dx B1 rfl (qs B1 rfl (qe rfl ?_)))
          obtain rfl := sj h
          refine Ah ((Bl 9 2005 10 rfl rfl rfl).trans (sm [(1000, 2005)] [(8, oD (.ptr 8 0)), (9, oD (.own 1000))] [(8, .box (AM p2)), (1000, .vec 10 ((([] : List Bk)).map Cj))] rfl rfl)) (As ?_)
          exact ⟨⟨[_, _], ⟨.cellN _ _ _ _ _ _ _ rfl rfl Dx B1 rfl rfl (E1 rfl), tm⟩, rfl⟩, ⟨rfl, tv⟩⟩
         ·refine Al (wq rfl (qf F0 rfl (ql KW rfl (qf E5 rfl (ql A8 rfl ?_)))))
          refine BY h fun v18 a18 b18 h => qi DB Ea a18 (Aj b18) rfl (qK IE Ea rfl (qz KU rfl (qs Ea rfl (Ac (wp rfl (qf DT rfl (ql A8 rfl (AN rfl (Ac ?_)))))))))
          refine Bb h (fun h => ?_) fun h => ?_
          ·refine wq rfl (qL BZ BB rfl (qf F0 rfl (ql KW rfl (qf E5 rfl (ql A8 rfl ?_)))))
           refine BF h fun v20 a20 h => Av [2006, 2007, 2008] (GM N p0 p2.gT p2.gE v20 a20) Xf rfl (qf IL rfl (qs AQ rfl (Ac (wq rfl (qf DT rfl (qs CQ rfl (qf HD rfl (qs CQ rfl (Ac (wq rfl (qL Dx B1 rfl (qs B1 rfl (qe rfl ?_)))))))))))))
           obtain rfl := sj h
           refine Ah ((Bl 9 2009 10 rfl rfl rfl).trans ((AV 2006 _ _ rfl rfl).trans ((AV 2007 _ _ rfl rfl).trans ((AV 2008 _ _ rfl rfl).trans (sm [(1000, 2009)] [(8, oD (.ptr 8 0)), (9, oD (.own 1000))] [(8, .box [sC (p2.gT.map Ax), iC p2.gE, iC 5, iC 0, iC p2.gP, iC p2.gN, sC (v20.gI.map Aq), sC (v20.gF.map Aq), sC (v20.gG.map Cy)]), (1000, .vec 10 ((([] : List Bk)).map Cj))] rfl rfl))))) (As ?_)
           exact ⟨⟨[_, _], ⟨.cellN _ _ _ _ _ _ _ rfl rfl Dx B1 rfl rfl (E1 rfl), tm⟩, rfl⟩, ⟨rfl, tv⟩⟩
          ·refine Al (wp rfl (qf DK rfl (ql A8 rfl (AN rfl (Ac ?_)))))
           refine Bb h (fun h => ?_) fun h => ?_
           ·refine wq rfl (qf DT rfl (qs CQ rfl (Ac (wq rfl (qL Dx B1 rfl (qL Dx B1 rfl ?_))))))
            refine BF h fun v22 a22 h => Av [2010] (En N ((Ak.mk p2.gT p2.gE 2 p2.gO p2.gP p2.gN ((Ab.mk p2.gB.gI p2.gB.gF p2.gB.gG)))) v22 a22) Uc rfl (qs B1 rfl (qa rfl (AJ (by kernel_rfl) ?_)))
            obtain rfl := sj h
            refine Ah (sm [(1000, 2010)] [(8, oD (.ptr 8 0)), (9, oD (.own 1000))] [(8, .box [sC (p2.gT.map Ax), iC p2.gE, iC 2, iC p2.gO, iC p2.gP, iC p2.gN, sC (p2.gB.gI.map Aq), sC (p2.gB.gF.map Aq), sC (p2.gB.gG.map Cy)]), (1000, .vec 10 (v22.map Cj))] rfl rfl) (As ?_)
            exact ⟨⟨[_, _], ⟨.cellN _ _ _ _ _ _ _ rfl rfl Dx B1 rfl rfl (E1 rfl), tm⟩, rfl⟩, ⟨rfl, tv⟩⟩
           ·refine Al (wp rfl (qf HD rfl (ql A8 rfl (qm rfl (qf Db rfl (ql A8 rfl ?_))))))
            refine BF h fun v23 a23 h => Av [] (Hl N p1 v18.gL v23 a23) XQ rfl (qm rfl (qf Db rfl (ql A8 rfl ?_)))
            refine BY h fun v24 a24 b24 h => qi AF CQ a24 (Aj b24) rfl (qk A8 rfl (Bp rfl (Kx rfl (AN rfl (AJ (by kernel_rfl) ?_)))))
            refine Bb h (fun h => ?_) fun h => ?_
            ·refine wq rfl (qL BZ BB rfl (qL Dx B1 rfl ?_))
             refine BF h fun v26 a26 h => Av [2011] (HL N p0 ((Ak.mk p2.gT p2.gE p2.gQ p2.gO p2.gP p2.gN ((Ab.mk p2.gB.gI p2.gB.gF p2.gB.gG)))) v26 a26) Yi rfl (qx rfl (qx rfl (qs B1 rfl (qe rfl ?_))))
             obtain rfl := sj h
             refine Ah (sm [(1000, 2011)] [(8, oD (.ptr 8 0)), (9, oD (.own 1000))] [(8, .box (AM v26.1)), (1000, .vec 10 (v26.2.map Cj))] rfl rfl) (As ?_)
             exact ⟨⟨[_, _], ⟨.cellN _ _ _ _ _ _ _ rfl rfl Dx B1 rfl rfl (E1 rfl), tm⟩, rfl⟩, ⟨rfl, tv⟩⟩
            ·refine Al (wq rfl (qf HD rfl (ql A8 rfl (Bp rfl (qf HD rfl (qs CQ rfl (Ac (wq rfl (qL Dx B1 rfl (qL Dx B1 rfl ?_))))))))))
             refine BF h fun v27 a27 h => Av [2012] (En N ((Ak.mk p2.gT p2.gE p2.gQ ((wI .i64 (p2.gO + 1))) p2.gP p2.gN ((Ab.mk p2.gB.gI p2.gB.gF p2.gB.gG)))) v27 a27) Uc rfl (qs B1 rfl (qa rfl (AJ (by kernel_rfl) ?_)))
             obtain rfl := sj h
             refine Ah (sm [(1000, 2012)] [(8, oD (.ptr 8 0)), (9, oD (.own 1000))] [(8, .box [sC (p2.gT.map Ax), iC p2.gE, iC p2.gQ, iC ((wI .i64 (p2.gO + 1))), iC p2.gP, iC p2.gN, sC (p2.gB.gI.map Aq), sC (p2.gB.gF.map Aq), sC (p2.gB.gG.map Cy)]), (1000, .vec 10 (v27.map Cj))] rfl rfl) (As ?_)
             exact ⟨⟨[_, _], ⟨.cellN _ _ _ _ _ _ _ rfl rfl Dx B1 rfl rfl (E1 rfl), tm⟩, rfl⟩, ⟨rfl, tv⟩⟩
       ·refine AI h (fun v28 => mk [(4, oD (.ptr 4 0)), (6, oD (.ptr 6 0)), (7, oD (.ptr 7 0)), (8, oD (.ptr 8 0)), (10, bD ((p3.gP == p2.gP))), (140, bD v28)] [(4, .box (Ag p0)), (6, .box (AM p2)), (7, .box (Gi p3)), (8, .box [.pure (.nil0), iC 0, iC 0, iC 0, iC 0, iC 0, .pure (.nil0), .pure (.nil0), .pure (.nil0)])]) (fun j28 h => ?_) (fun v28 h => ?_)
        ·refine Ai Aw rfl (qf Jn rfl (ql A8 rfl (AN rfl (qm rfl ?_))))
         refine Dc 144 h rfl (fun h => ?_) fun h => ?_
         ·refine qm rfl (qp rfl (qm rfl ?_))
          refine Dc 147 h rfl (fun h => ?_) fun h => ?_
          ·refine qf DT rfl (ql A8 rfl (AN rfl (qp rfl (qe rfl ?_))))
           exact sn [] h
          ·refine qw 3 rfl (qp rfl (qe rfl ?_))
           exact sn [] h
         ·refine qn rfl (qp rfl (qw 4 rfl (qp rfl (qe rfl ?_))))
          exact sn [] h
        ·refine Bb h (fun h => ?_) fun h => ?_
         ·refine wp rfl (qf Vo rfl (ql Uw rfl (Ac ?_)))
          refine Bb h (fun h => ?_) fun h => ?_
          ·refine wq rfl (qL BZ BB rfl (qL Dx B1 rfl ?_))
           refine BF h fun v33 a33 h => Av [2013] (HL N p0 ((Ak.mk p2.gT p2.gE p2.gQ p2.gO p2.gP p2.gN ((Ab.mk p2.gB.gI p2.gB.gF p2.gB.gG)))) v33 a33) Yi rfl (qx rfl (qx rfl (qs B1 rfl (qe rfl ?_))))
           obtain rfl := sj h
           refine Ah (sm [(1000, 2013)] [(8, oD (.ptr 8 0)), (9, oD (.own 1000))] [(8, .box (AM v33.1)), (1000, .vec 10 (v33.2.map Cj))] rfl rfl) (As ?_)
           exact ⟨⟨[_, _], ⟨.cellN _ _ _ _ _ _ _ rfl rfl Dx B1 rfl rfl (E1 rfl), tm⟩, rfl⟩, ⟨rfl, tv⟩⟩
          ·refine Al (wq rfl (qL Dx B1 rfl ?_))
           refine BF h fun v34 a34 h => Av [2014] (F1 N ((Ak.mk p2.gT p2.gE p2.gQ p2.gO p2.gP p2.gN ((Ab.mk p2.gB.gI p2.gB.gF p2.gB.gG)))) 3 v34 a34) V6 rfl (qm rfl (qx rfl (qx rfl (qz KF rfl (qs B1 rfl (qa rfl (Ac (wq rfl (qf DT rfl (qs CQ rfl (Ac (wq rfl (qL Dx B1 rfl (qm rfl (qL Dx B1 rfl ?_)))))))))))))))
           refine BF h fun v35 a35 h => Av [2015] (En N ((Ak.mk v34.1.gT v34.1.gE 3 v34.1.gO v34.1.gP v34.1.gN ((Ab.mk v34.1.gB.gI v34.1.gB.gF v34.1.gB.gG)))) v35 a35) Uc rfl ?_
           refine GJ h fun c36 h => EL (f := Cj) Mg Mg LT XH Lv c36 rfl (qs B1 rfl (qa rfl (AJ (by kernel_rfl) ?_)))
           obtain rfl := sj h
           refine Ah (sm [(1000, 169)] [(8, oD (.ptr 8 0)), (9, oD (.own 1000))] [(8, .box [sC (v34.1.gT.map Ax), iC v34.1.gE, iC 3, iC v34.1.gO, iC v34.1.gP, iC v34.1.gN, sC (v34.1.gB.gI.map Aq), sC (v34.1.gB.gF.map Aq), sC (v34.1.gB.gG.map Cy)]), (1000, .vec 10 ((v34.2 ++ v35).map Cj))] rfl rfl) (As ?_)
           exact ⟨⟨[_, _], ⟨.cellN _ _ _ _ _ _ _ rfl rfl Dx B1 rfl rfl (E1 rfl), tm⟩, rfl⟩, ⟨rfl, tv⟩⟩
         ·refine AI h (fun v37 => mk [(4, oD (.ptr 4 0)), (6, oD (.ptr 6 0)), (7, oD (.ptr 7 0)), (8, oD (.ptr 8 0)), (170, bD v37)] [(4, .box (Ag p0)), (6, .box (AM p2)), (7, .box (Gi p3)), (8, .box [.pure (.nil0), iC 0, iC 0, iC 0, iC 0, iC 0, .pure (.nil0), .pure (.nil0), .pure (.nil0)])]) (fun j37 h => ?_) (fun v37 h => ?_)
          ·refine Ai Aw rfl (qf Jn rfl (ql A8 rfl (AN rfl (qm rfl ?_))))
           refine Dc 174 h rfl (fun h => ?_) fun h => ?_
           ·refine qm rfl (qp rfl (qm rfl ?_))
            refine Dc 177 h rfl (fun h => ?_) fun h => ?_
            ·refine qf DT rfl (ql A8 rfl (AN rfl (qp rfl (qm rfl ?_))))
             refine Dc 182 h rfl (fun h => ?_) fun h => ?_
             ·refine qf Y9 rfl (ql A8 rfl (qf F0 rfl (ql KW rfl (qf E5 rfl (ql A8 rfl ?_)))))
              refine BY h fun v41 a41 b41 h => qi DB Ea a41 (Aj b41) rfl (qg Db rfl (qk A8 rfl (AN rfl (qp rfl (qa rfl (AJ (by kernel_rfl) ?_))))))
              exact sn [] h
             ·refine qw 10 rfl (qp rfl (qa rfl (AJ (by kernel_rfl) ?_)))
              exact sn [] h
            ·refine qw 3 rfl (qp rfl (qw 11 rfl (qp rfl (qa rfl (AJ (by kernel_rfl) ?_)))))
             exact sn [] h
           ·refine qn rfl (qp rfl (qw 4 rfl (qp rfl (qw 11 rfl (qp rfl (qa rfl (AJ (by kernel_rfl) ?_)))))))
            exact sn [] h
          ·refine Bb h (fun h => ?_) fun h => ?_
           ·refine wq rfl (qL BZ BB rfl (qL Dx B1 rfl ?_))
            refine BF h fun v43 a43 h => Av [2016] (HL N p0 ((Ak.mk p2.gT p2.gE p2.gQ p2.gO p2.gP p2.gN ((Ab.mk p2.gB.gI p2.gB.gF p2.gB.gG)))) v43 a43) Yi rfl (qx rfl (qx rfl (qs B1 rfl (qe rfl ?_))))
            obtain rfl := sj h
            refine Ah (sm [(1000, 2016)] [(8, oD (.ptr 8 0)), (9, oD (.own 1000))] [(8, .box (AM v43.1)), (1000, .vec 10 (v43.2.map Cj))] rfl rfl) (As ?_)
            exact ⟨⟨[_, _], ⟨.cellN _ _ _ _ _ _ _ rfl rfl Dx B1 rfl rfl (E1 rfl), tm⟩, rfl⟩, ⟨rfl, tv⟩⟩
           ·refine AI h (fun v44 => mk [(6, oD (.ptr 6 0)), (8, oD (.ptr 8 0)), (199, bD v44)] [(6, .box (AM p2)), (8, .box [.pure (.nil0), iC 0, iC 0, iC 0, iC 0, iC 0, .pure (.nil0), .pure (.nil0), .pure (.nil0)])]) (fun j44 h => ?_) (fun v44 h => ?_)
            ·refine Ai Aw rfl (qf Jn rfl (ql A8 rfl (AN rfl (qm rfl ?_))))
             refine Dc 203 h rfl (fun h => ?_) fun h => ?_
             ·refine qf DT rfl (ql A8 rfl (AN rfl (qp rfl (qe rfl ?_))))
              exact sn [] h
             ·refine qw 3 rfl (qp rfl (qe rfl ?_))
              exact sn [] h
            ·refine Bb h (fun h => ?_) fun h => ?_
             ·refine wq rfl (qL Dx B1 rfl ?_)
              refine BF h fun v47 a47 h => Av [2017] (F1 N ((Ak.mk p2.gT p2.gE p2.gQ p2.gO p2.gP p2.gN ((Ab.mk p2.gB.gI p2.gB.gF p2.gB.gG)))) 4 v47 a47) V6 rfl (qm rfl (qx rfl (qx rfl (qz KF rfl (qs B1 rfl (qa rfl (Ac (wq rfl (qf DT rfl (qs CQ rfl (Ac (wq rfl (qL Dx B1 rfl (qm rfl (qs B1 rfl (qe rfl ?_))))))))))))))))
              obtain rfl := sj h
              refine Ah (sm [(1000, 2017)] [(8, oD (.ptr 8 0)), (9, oD (.own 1000))] [(8, .box [sC (v47.1.gT.map Ax), iC v47.1.gE, iC 0, iC v47.1.gO, iC v47.1.gP, iC v47.1.gN, sC (v47.1.gB.gI.map Aq), sC (v47.1.gB.gF.map Aq), sC (v47.1.gB.gG.map Cy)]), (1000, .vec 10 (v47.2.map Cj))] rfl rfl) (As ?_)
              exact ⟨⟨[_, _], ⟨.cellN _ _ _ _ _ _ _ rfl rfl Dx B1 rfl rfl (E1 rfl), tm⟩, rfl⟩, ⟨rfl, tv⟩⟩
             ·refine Al ?_
              exact sn [] h
   ·refine wq rfl (qL Dx B1 rfl (qs B1 rfl (qe rfl ?_)))
    obtain rfl := sj h
    refine Ah ((Bl 9 2018 10 rfl rfl rfl).trans (sm [(1000, 2018)] [(8, oD (.ptr 8 0)), (9, oD (.own 1000))] [(8, .box [sC (p2.gT.map Ax), iC p2.gE, iC p2.gQ, iC p2.gO, iC p2.gP, iC v5, sC (p2.gB.gI.map Aq), sC (p2.gB.gF.map Aq), sC (p2.gB.gG.map Cy)]), (1000, .vec 10 ((([] : List Bk)).map Cj))] rfl rfl)) (As ?_)
    exact ⟨⟨[_, _], ⟨.cellN _ _ _ _ _ _ _ rfl rfl Dx B1 rfl rfl (E1 rfl), tm⟩, rfl⟩, ⟨rfl, tv⟩⟩
set_option maxHeartbeats 2000000 in
theorem Ov (N : Nat) (p0 : Bz) (r : Aa × (List Int) × Ak × Bool) (h : E7 N p0 = some r) : Au zA 50 [.e (.agg (DA p0))] [] (.tup [.agg (Ag r.1), .one (sC (r.2.1.map Aq)), .agg (AM r.2.2.1), .one (.pure (.val (.bool r.2.2.2)))]) := by
 unfold E7 at h
 refine cw (n := 102) (rs := [.cell 2 25, .tmp 3, .cell 4 91, .tmp 5]) Tryz.func50 fun w0 S0 => ?_
 refine wq rfl (qb rfl (qz QM rfl (qa rfl (qz KF rfl (qa rfl (Ac (wq rfl (qf Y6 rfl (qL fI fK rfl ?_)))))))))
 refine BF h fun v1 a1 h => Av [2001, 2002, 2003, 2004] (Ou N ((BG.mk p0.gK.gH p0.gK.gR p0.gK.gU p0.gK.qy)) v1 a1) fT rfl (qm rfl (qx rfl (qx rfl (qz QM rfl (qs BB rfl (qa rfl (Ac (A5 ?_))))))))
 refine AI h (fun v2 => mk [(1, oD (.ptr 1 0)), (2, oD (.ptr 2 0)), (4, oD (.ptr 4 0)), (6, oD (.ptr 6 0)), (33, bD v2)] [(1, .box (DA p0)), (2, .box [.pure (.nil0), .pure (.nil0), .pure (.nil0), .pure (.nil0)]), (4, .box [.pure (.nil0), iC 0, iC 0, iC 0, iC 0, iC 0, .pure (.nil0), .pure (.nil0), .pure (.nil0)]), (6, .box [.own 2005, .own 2006, .own 2007, .own 2008]), (2005, .vec 1 (v1.1.gH.map Aq)), (2006, .vec 1 (v1.1.gR.map Aq)), (2007, .vec 1 (v1.1.gU.map Aq)), (2008, .vec 6 (v1.1.gJ.map Bs))]) (fun j2 h => ?_) (fun v2 h => ?_)
 ·refine Ai Aw rfl (qm rfl (CL rfl (qm rfl ?_)))
  refine Dc 23 h rfl (fun h => ?_) fun h => ?_
  ·refine qw 4 rfl (qp rfl (qw 4 rfl (qp rfl (Ac ?_))))
   exact sn [(2005, 2001), (2006, 2002), (2007, 2003), (2008, 2004)] h
  ·refine qf Pl rfl (ql QX rfl (AU KA rfl (FQ rfl (qp rfl (qm rfl ?_)))))
   refine Dc 29 h rfl (fun h => ?_) fun h => ?_
   ·refine qw 3 rfl (qp rfl (Ac ?_))
    exact sn [(2005, 2001), (2006, 2002), (2007, 2003), (2008, 2004)] h
   ·refine qL BZ BB rfl ?_
    refine BF h fun v5 a5 h => FN [] [2001, 2002, 2003, 2004] (Ms N v1.1 120 v5 a5) fU Eb rfl (CL rfl (qp rfl (Ac ?_)))
    exact sn [(2005, 2001), (2006, 2002), (2007, 2003), (2008, 2004)] h
 ·refine Bb h (fun h => ?_) fun h => ?_
  ·refine wq rfl (qL BZ BB rfl (AS KF Wo rfl (qs BB rfl (qa rfl (qs B1 rfl (qe rfl ?_))))))
   obtain rfl := sj h
   refine Ah ((AV 2005 _ _ rfl rfl).trans ((AV 2006 _ _ rfl rfl).trans ((AV 2007 _ _ rfl rfl).trans ((AV 2008 _ _ rfl rfl).trans ((D4 4 _ rfl).trans ((Nu 3 _ rfl).trans (sm [] [(2, oD (.ptr 2 0)), (3, pD (.sl ((([] : List Int)).map Aq))), (4, oD (.ptr 4 0)), (5, bD false)] [(2, .box (Ag v1.1)), (4, .box [sC ((([] : List Ae)).map Ax), iC 0, iC 0, iC 0, iC 0, iC 0, sC ((([] : List Int)).map Aq), sC ((([] : List Int)).map Aq), sC ((([] : List Int)).map Cy)])] rfl rfl))))))) (As ?_)
   exact ⟨⟨[_, _, _, _], ⟨.cellN _ _ _ _ _ _ _ rfl rfl BZ BB rfl rfl (E1 rfl), ⟨.tmp _ _ rfl, ⟨.cellN _ _ _ _ _ _ _ rfl rfl Dx B1 rfl rfl (E1 rfl), tm⟩⟩⟩, rfl⟩, tv⟩
  ·refine Al (wq rfl (qL BZ BB rfl ?_))
   refine BF h fun v7 a7 h => FN [2009] [2005, 2006, 2007, 2008] (MZ N v1.1 v7 a7) f9 (G4 (fun _ => rfl) Eb) rfl (qm rfl (qx rfl (qx rfl (qa rfl (qa rfl (Ac (wp rfl (qm rfl (BH rfl (Ac ?_))))))))))
   refine Bb h (fun h => ?_) fun h => ?_
   ·refine wq rfl (qL BZ BB rfl (AS KF Wo rfl (qs BB rfl (qa rfl (qs B1 rfl (qe rfl ?_))))))
    obtain rfl := sj h
    refine Ah ((AV 2005 _ _ rfl rfl).trans ((AV 2006 _ _ rfl rfl).trans ((AV 2007 _ _ rfl rfl).trans ((AV 2008 _ _ rfl rfl).trans ((D4 4 _ rfl).trans ((Nu 3 _ rfl).trans (sm [] [(2, oD (.ptr 2 0)), (3, pD (.sl ((([] : List Int)).map Aq))), (4, oD (.ptr 4 0)), (5, bD false)] [(2, .box (Ag v1.1)), (4, .box [sC ((([] : List Ae)).map Ax), iC 0, iC 0, iC 0, iC 0, iC 0, sC ((([] : List Int)).map Aq), sC ((([] : List Int)).map Aq), sC ((([] : List Int)).map Cy)])] rfl rfl))))))) (As ?_)
    exact ⟨⟨[_, _, _, _], ⟨.cellN _ _ _ _ _ _ _ rfl rfl BZ BB rfl rfl (E1 rfl), ⟨.tmp _ _ rfl, ⟨.cellN _ _ _ _ _ _ _ rfl rfl Dx B1 rfl rfl (E1 rfl), tm⟩⟩⟩, rfl⟩, tv⟩
   ·refine Al (wq rfl (qa rfl (Ac (wp rfl (qe rfl ?_)))))
    refine AY (L := Du N p0 v1) h (fun v9 => mk [(1, oD (.ptr 1 0)), (2, oD (.ptr 2 0)), (4, oD (.ptr 4 0)), (6, oD (.ptr 6 0)), (8, oD (.own 2014)), (10, oD (.own 2015)), (11, iD v9.2)] [(1, .box (DA p0)), (2, .box [.pure (.nil0), .pure (.nil0), .pure (.nil0), .pure (.nil0)]), (4, .box [.pure (.nil0), iC 0, iC 0, iC 0, iC 0, iC 0, .pure (.nil0), .pure (.nil0), .pure (.nil0)]), (6, .box [.own 2010, .own 2011, .own 2012, .own 2013]), (2010, .vec 1 (v1.1.gH.map Aq)), (2011, .vec 1 (v1.1.gR.map Aq)), (2012, .vec 1 (v1.1.gU.map Aq)), (2013, .vec 6 (v1.1.gJ.map Bs)), (2014, .vec 3 (v7.1.map Ax)), (2015, .vec 1 (v9.1.map Aq))]) (fun v10 => mk [(1, oD (.ptr 1 0)), (2, oD (.ptr 2 0)), (4, oD (.ptr 4 0)), (6, oD (.ptr 6 0)), (8, oD (.own 2020)), (10, oD (.own 2021))] [(1, .box (DA p0)), (2, .box [.pure (.nil0), .pure (.nil0), .pure (.nil0), .pure (.nil0)]), (4, .box [.pure (.nil0), iC 0, iC 0, iC 0, iC 0, iC 0, .pure (.nil0), .pure (.nil0), .pure (.nil0)]), (6, .box [.own 2016, .own 2017, .own 2018, .own 2019]), (2016, .vec 1 (v1.1.gH.map Aq)), (2017, .vec 1 (v1.1.gR.map Aq)), (2018, .vec 1 (v1.1.gU.map Aq)), (2019, .vec 6 (v1.1.gJ.map Bs)), (2020, .vec 3 (v7.1.map Ax)), (2021, .vec 1 (v10.map Aq))]) (fun _ _ => rfl) ((Bl 10 2028 1 rfl rfl rfl).trans (sm [(2010, 2005), (2011, 2006), (2012, 2007), (2013, 2008), (2014, 2009), (2015, 2028)] _ _ rfl rfl)) (fun j9 n9 v9 h => ?_) (fun v10 s h hs => ?_)
    ·unfold Du at h
     refine wp rfl (qm rfl (qf Bx rfl (ql Bi rfl (GG AF rfl (A9 rfl (Ac ?_))))))
     refine Bb h (fun h => ?_) fun h => ?_
     ·refine Al (A5 (AX (wq rfl (qe rfl ?_))))
      refine AI h (fun v12 => mk [(1, oD (.ptr 1 0)), (2, oD (.ptr 2 0)), (4, oD (.ptr 4 0)), (6, oD (.ptr 6 0)), (8, oD (.own 2026)), (10, oD (.own 2027)), (11, iD v9.2), (12, iD v12)] [(1, .box (DA p0)), (2, .box [.pure (.nil0), .pure (.nil0), .pure (.nil0), .pure (.nil0)]), (4, .box [.pure (.nil0), iC 0, iC 0, iC 0, iC 0, iC 0, .pure (.nil0), .pure (.nil0), .pure (.nil0)]), (6, .box [.own 2022, .own 2023, .own 2024, .own 2025]), (2022, .vec 1 (v1.1.gH.map Aq)), (2023, .vec 1 (v1.1.gR.map Aq)), (2024, .vec 1 (v1.1.gU.map Aq)), (2025, .vec 6 (v1.1.gJ.map Bs)), (2026, .vec 3 (v7.1.map Ax)), (2027, .vec 1 (v9.1.map Aq))]) (fun j12 h => ?_) (fun v12 h => ?_)
      ·refine wq rfl (qm rfl (qf Vr rfl (ql QX rfl (AU KA rfl (A9 rfl (Ac ?_))))))
       refine Bb h (fun h => ?_) fun h => ?_
       ·refine Ai Aw rfl (qf Vr rfl (ql QX rfl (qm rfl ?_)))
        refine BY h fun v14 a14 b14 h => qi KA ej a14 (Aj b14) rfl (qk bb rfl (H3 rfl (by decide) (JN W7 Xt rfl (Bp rfl (qe rfl ?_)))))
        exact sn [(2022, 2010), (2023, 2011), (2024, 2012), (2025, 2013), (2026, 2014), (2027, 2015)] h
       ·refine Al ?_
        exact sn [(2022, 2010), (2023, 2011), (2024, 2012), (2025, 2013), (2026, 2014), (2027, 2015)] h
      ·refine Ai Aw rfl (qw 2 rfl (EB AF CQ MD rfl ?_))
       refine GJ h fun c15 h => EL (f := Aq) AF AF CQ Ok MD c15 rfl (qa rfl (Ac (Ai Aw rfl (qm rfl (Bp rfl (qe rfl ?_))))))
       exact sn [(2010, 2022), (2011, 2023), (2012, 2024), (2013, 2025), (2014, 2026), (2015, 68)] h
     ·refine Bh ?_
      exact sn [(2016, 2010), (2017, 2011), (2018, 2012), (2019, 2013), (2020, 2014), (2021, 2015)] h
    ·refine Ah hs (wq rfl (qL BZ BB rfl (qw 2 rfl ?_)))
     refine BF h fun v16 a16 h => FN [2029, 2030, 2031, 2032] [2016, 2017, 2018, 2019, 2021, 2020] (NR N v1.1 v10 v7.1 v16 a16) gh (G4 (fun _ => rfl) (G4 (fun _ => rfl) (G4 (fun _ => rfl) (G4 (fun _ => rfl) Eb)))) rfl (qm rfl (qx rfl (qx rfl (qz KF rfl (qs B1 rfl (qa rfl (Ac (wp rfl (qe rfl ?_)))))))))
     refine AY (L := Di N p0) h (fun v17 => mk [(1, oD (.ptr 1 0)), (2, oD (.ptr 2 0)), (4, oD (.ptr 4 0)), (6, oD (.ptr 6 0)), (9, iD v16.2), (10, pD (.sl (v17.2.2.2.2.2.2.2.2.2.2.2.2.2.1.map Aq))), (13, oD (.ptr 13 0)), (14, iD v17.2.2.2.2.2.2.2.2.2.2.2.2.2.2)] [(1, .box (DA p0)), (2, .box [.pure (.nil0), .pure (.nil0), .pure (.nil0), .pure (.nil0)]), (4, .box [.pure (.nil0), iC 0, iC 0, iC 0, iC 0, iC 0, .pure (.nil0), .pure (.nil0), .pure (.nil0)]), (6, .box [sC (v17.1.map Aq), sC (v17.2.1.map Aq), sC (v17.2.2.1.map Aq), sC (v17.2.2.2.1.map Bs)]), (13, .box [sC (v17.2.2.2.2.1.map Ax), iC v17.2.2.2.2.2.1, iC v17.2.2.2.2.2.2.1, iC v17.2.2.2.2.2.2.2.1, iC v17.2.2.2.2.2.2.2.2.1, iC v17.2.2.2.2.2.2.2.2.2.1, sC (v17.2.2.2.2.2.2.2.2.2.2.1.map Aq), sC (v17.2.2.2.2.2.2.2.2.2.2.2.1.map Aq), sC (v17.2.2.2.2.2.2.2.2.2.2.2.2.1.map Cy)])]) (fun v18 => mk [(2, oD (.ptr 2 0)), (4, oD (.ptr 4 0)), (6, oD (.ptr 6 0)), (9, iD v16.2), (10, pD (.sl (v18.2.2.map Aq))), (13, oD (.ptr 13 0))] [(2, .box [.pure (.nil0), .pure (.nil0), .pure (.nil0), .pure (.nil0)]), (4, .box [.pure (.nil0), iC 0, iC 0, iC 0, iC 0, iC 0, .pure (.nil0), .pure (.nil0), .pure (.nil0)]), (6, .box (Ag v18.1)), (13, .box (AM v18.2.1))]) (fun _ _ => rfl) ((AV 2016 _ _ rfl rfl).trans ((AV 2017 _ _ rfl rfl).trans ((AV 2018 _ _ rfl rfl).trans ((AV 2019 _ _ rfl rfl).trans ((AV 2029 _ _ rfl rfl).trans ((AV 2030 _ _ rfl rfl).trans ((AV 2031 _ _ rfl rfl).trans ((AV 2032 _ _ rfl rfl).trans ((AV 2021 _ _ rfl rfl).trans (sm [] _ _ rfl rfl)))))))))) (fun j17 n17 v17 h => ?_) (fun v18 s h hs => ?_)
     ·unfold Di at h
      refine wp rfl (qm rfl (qf Pl rfl (ql QX rfl (AU KA rfl (A9 rfl (Ac ?_))))))
      refine Bb h (fun h => ?_) fun h => ?_
      ·refine Al (A5 (AX (Ai Aw rfl (qL BZ BB rfl (qm rfl (qL Dx B1 rfl (qL Dx B1 rfl (qf Pl rfl (ql QX rfl (qm rfl ?_))))))))))
       refine BY h fun v20 a20 b20 h => qi KA ej a20 (Aj b20) rfl (qk bb rfl ?_)
       refine BF h fun v21 a21 h => Av [] (IS N ((Ak.mk v17.2.2.2.2.1 v17.2.2.2.2.2.1 v17.2.2.2.2.2.2.1 v17.2.2.2.2.2.2.2.1 v17.2.2.2.2.2.2.2.2.1 v17.2.2.2.2.2.2.2.2.2.1 ((Ab.mk v17.2.2.2.2.2.2.2.2.2.2.1 v17.2.2.2.2.2.2.2.2.2.2.2.1 v17.2.2.2.2.2.2.2.2.2.2.2.2.1)))) v20 v21 a21) fq rfl ?_
       refine BF h fun v22 a22 h => Av [2033] (JP N ((Aa.mk v17.1 v17.2.1 v17.2.2.1 v17.2.2.2.1)) v17.2.2.2.2.2.2.2.2.2.2.2.2.2.1 ((Ak.mk v17.2.2.2.2.1 v17.2.2.2.2.2.1 v17.2.2.2.2.2.2.1 v17.2.2.2.2.2.2.2.1 v17.2.2.2.2.2.2.2.2.1 v17.2.2.2.2.2.2.2.2.2.1 ((Ab.mk v17.2.2.2.2.2.2.2.2.2.2.1 v17.2.2.2.2.2.2.2.2.2.2.2.1 v17.2.2.2.2.2.2.2.2.2.2.2.2.1)))) v21 v22 a22) eC rfl (qm rfl (qx rfl (qx rfl (qs B1 rfl (AJ (by kernel_rfl) (Ai Aw rfl (qm rfl (Bp rfl (qe rfl ?_)))))))))
       exact sn [] h
      ·refine Bh ?_
       exact sn [] h
     ·refine Ah hs (wq rfl (qL BZ BB rfl (qm rfl (qL Dx B1 rfl (qm rfl (AN rfl (qs BB rfl (qa rfl (qs B1 rfl (qa rfl (AJ (by kernel_rfl) ?_)))))))))))
      obtain rfl := sj h
      refine Ah (sm [] [(2, oD (.ptr 2 0)), (3, pD (.sl (v18.2.2.map Aq))), (4, oD (.ptr 4 0)), (5, bD ((v16.2 == 0)))] [(2, .box (Ag v18.1)), (4, .box (AM v18.2.1))] rfl rfl) (As ?_)
      exact ⟨⟨[_, _, _, _], ⟨.cellN _ _ _ _ _ _ _ rfl rfl BZ BB rfl rfl (E1 rfl), ⟨.tmp _ _ rfl, ⟨.cellN _ _ _ _ _ _ _ rfl rfl Dx B1 rfl rfl (E1 rfl), tm⟩⟩⟩, rfl⟩, tv⟩
theorem Im (N : Nat) (p0 : Ab) (p1 : Int) (p2 : Int) (r : Bool) (h : Da N p0 p1 p2 = some r) : Au zA 78 [.e (.agg (AH p0)), iD p1, iD p2] [] (bD r) := by
 unfold Da at h
 refine cw (n := 27) (rs := [.tmp 6]) Tryz.func78 fun w0 S0 => ?_
 refine wq rfl (qb rfl (qe rfl ?_))
 refine AI h (fun v1 => mk [(6, bD v1)] []) (fun j1 h => ?_) (fun v1 h => ?_)
 ·refine Ai Aw rfl (qm rfl (Eh rfl (qm rfl ?_)))
  refine Dc 9 h rfl (fun h => ?_) fun h => ?_
  ·refine qm rfl (qf Dj rfl (ql Bi rfl (qm rfl ?_)))
   refine BY h fun v3 a3 b3 h => qi AF CQ a3 (Aj b3) rfl (qk A8 rfl (AN rfl (qm rfl ?_)))
   refine Dc 17 h rfl (fun h => ?_) fun h => ?_
   ·refine qw 7 rfl (qp rfl (qp rfl (qe rfl ?_)))
    exact sn [] h
   ·refine qm rfl (qf BU rfl (ql Bi rfl (qm rfl ?_)))
    refine BY h fun v5 a5 b5 h => qi AF CQ a5 (Aj b5) rfl (qk A8 rfl (AN rfl (qp rfl (qp rfl (qe rfl ?_)))))
    exact sn [] h
  ·refine qw 8 rfl (qu rfl (qu rfl (qu rfl (qu rfl (qu rfl (qu rfl (qu rfl (qn rfl (qp rfl (qe rfl ?_))))))))))
   exact sn [] h
 ·obtain rfl := sj h
  refine Ah (sm [] [(6, bD v1)] [] rfl rfl) (As ?_)
  exact ⟨⟨[_], tm, rfl⟩, tv⟩
theorem KN (N : Nat) (p0 : Aa) (p1 : Ab) (r : (List Ad)) (h : D2 N p0 p1 = some r) : Au zA 51 [.e (.agg (Ag p0)), .e (.agg (AH p1))] [(11, r.map AO)] (oD (.own 0)) := by
 unfold D2 at h
 refine cw (n := 83) (rs := [.tmp 4]) Tryz.func51 fun w0 S0 => ?_
 refine wq rfl (qb rfl (qb rfl (qa rfl (Ac (wq rfl (qa rfl (Ac (wp rfl (qe rfl ?_)))))))))
 refine AY (L := Cn N p0 p1) h (fun v1 => mk [(2, oD (.ptr 2 0)), (3, oD (.ptr 3 0)), (5, oD (.own 2001)), (6, iD v1.2)] [(2, .box (Ag p0)), (3, .box (AH p1)), (2001, .vec 11 (v1.1.map AO))]) (fun v2 => mk [(5, oD (.own 2002))] [(2002, .vec 11 (v2.map AO))]) (fun _ _ => rfl) ((Bl 5 2010 11 rfl rfl rfl).trans (sm [(2001, 2010)] _ _ rfl rfl)) (fun j1 n1 v1 h => ?_) (fun v2 s h hs => ?_)
 ·unfold Cn at h
  refine wp rfl (qm rfl (qf CS rfl (ql Hy rfl (AU Ev rfl (A9 rfl (Ac ?_))))))
  refine Bb h (fun h => ?_) fun h => ?_
  ·refine Al (A5 (AX (wq rfl (qf CS rfl (ql Hy rfl (qm rfl ?_))))))
   refine BY h fun v4 a4 b4 h => qi Ev CG a4 (Aj b4) rfl (qK FK CG rfl (qz JD rfl (qs CG rfl (Ac (wq rfl (qe rfl ?_))))))
   refine AY (L := Ck N p0 p1 v1 v4) h (fun v5 => mk [(2, oD (.ptr 2 0)), (3, oD (.ptr 3 0)), (5, oD (.own 2003)), (6, iD v1.2), (7, oD (.ptr 7 0)), (8, iD v5.2)] [(2, .box (Ag p0)), (3, .box (AH p1)), (7, .box (BJ v4)), (2003, .vec 11 (v5.1.map AO))]) (fun v6 => mk [(2, oD (.ptr 2 0)), (3, oD (.ptr 3 0)), (5, oD (.own 2004)), (6, iD v1.2)] [(2, .box (Ag p0)), (3, .box (AH p1)), (2004, .vec 11 (v6.map AO))]) (fun _ _ => rfl) (sm [(2003, 2001)] _ _ rfl rfl) (fun j5 n5 v5 h => ?_) (fun v6 s h hs => ?_)
   ·unfold Ck at h
    refine wp rfl (qm rfl (qf Bx rfl (ql Bi rfl (qf CB rfl (ql A8 rfl ?_)))))
    refine BY h fun v7 a7 b7 h => qi AF CQ a7 (Aj b7) rfl (qk A8 rfl (A9 rfl (Ac ?_)))
    refine Bb h (fun h => ?_) fun h => ?_
    ·refine Al (A5 (AX (wq rfl (qe rfl ?_))))
     refine AY (L := B0 N p0 p1 v1 v4 v5) h (fun v9 => mk [(2, oD (.ptr 2 0)), (3, oD (.ptr 3 0)), (5, oD (.own 2005)), (6, iD v1.2), (7, oD (.ptr 7 0)), (8, iD v5.2), (9, iD v9.2)] [(2, .box (Ag p0)), (3, .box (AH p1)), (7, .box (BJ v4)), (2005, .vec 11 (v9.1.map AO))]) (fun v10 => mk [(2, oD (.ptr 2 0)), (3, oD (.ptr 3 0)), (5, oD (.own 2006)), (6, iD v1.2), (7, oD (.ptr 7 0)), (8, iD v5.2)] [(2, .box (Ag p0)), (3, .box (AH p1)), (7, .box (BJ v4)), (2006, .vec 11 (v10.map AO))]) (fun _ _ => rfl) (sm [(2005, 2003)] _ _ rfl rfl) (fun j9 n9 v9 h => ?_) (fun v10 s h hs => ?_)
     ·unfold B0 at h
      refine wp rfl (qm rfl (qf Bx rfl (ql Bi rfl (qf Gx rfl (ql A8 rfl ?_)))))
      refine BY h fun v11 a11 b11 h => qi AF CQ a11 (Aj b11) rfl (qk A8 rfl (A9 rfl (Ac ?_)))
      refine Bb h (fun h => ?_) fun h => ?_
      ·refine Al ?_
       refine AI h (fun v13 => mk [(2, oD (.ptr 2 0)), (3, oD (.ptr 3 0)), (5, oD (.own 2007)), (6, iD v1.2), (7, oD (.ptr 7 0)), (8, iD v5.2), (9, iD v9.2)] [(2, .box (Ag p0)), (3, .box (AH p1)), (7, .box (BJ v4)), (2007, .vec 11 (v13.map AO))]) (fun j13 h => ?_) (fun v13 h => ?_)
       ·refine AX (wq rfl (qL Bf AQ rfl (qf CB rfl (ql A8 rfl (qm rfl ?_)))))
        refine BF h fun v14 a14 h => Av [] (Im N p1 v4.gM v5.2 v14 a14) ep rfl (qe rfl ?_)
        refine AI h (fun v15 => mk [(2, oD (.ptr 2 0)), (3, oD (.ptr 3 0)), (5, oD (.own 2008)), (6, iD v1.2), (7, oD (.ptr 7 0)), (8, iD v5.2), (9, iD v9.2), (10, bD v15)] [(2, .box (Ag p0)), (3, .box (AH p1)), (7, .box (BJ v4)), (2008, .vec 11 (v9.1.map AO))]) (fun j15 h => ?_) (fun v15 h => ?_)
        ·refine wq rfl (qL FK CG rfl ?_)
         refine BF h fun v16 a16 h => Av [] (Cc N v4 v16 a16) QL rfl (Ac ?_)
         refine Bb h (fun h => ?_) fun h => ?_
         ·refine Ai Aw rfl (qf Dm rfl (ql Il rfl (qm rfl ?_)))
          refine BY h fun v18 a18 b18 h => qi Ei EP a18 (Aj b18) rfl (qk IN rfl (qm rfl ?_))
          refine BF h fun v19 a19 h => Av [] (FG N v18 v5.2 v19 a19) Yk rfl (qe rfl ?_)
          exact sn [(2008, 2005)] h
         ·refine Al ?_
          exact sn [(2008, 2005)] h
        ·refine AI h (fun v20 => mk [(2, oD (.ptr 2 0)), (3, oD (.ptr 3 0)), (5, oD (.own 2009)), (6, iD v1.2), (7, oD (.ptr 7 0)), (8, iD v5.2), (9, iD v9.2), (74, bD v20)] [(2, .box (Ag p0)), (3, .box (AH p1)), (7, .box (BJ v4)), (2009, .vec 11 (v9.1.map AO))]) (fun j20 h => ?_) (fun v20 h => ?_)
         ·refine Ai Aw rfl (qw 2 rfl ?_)
          refine Dc 58 h rfl (fun h => ?_) fun h => ?_
          ·refine qL Bf AQ rfl (qf Gx rfl (ql A8 rfl (qm rfl ?_)))
           refine BF h fun v22 a22 h => Av [] (Im N p1 v4.gW v9.2 v22 a22) ep rfl (qp rfl (qm rfl ?_))
           refine Dc 65 h rfl (fun h => ?_) fun h => ?_
           ·refine qf IP rfl (ql In rfl (qm rfl ?_))
            refine BY h fun v24 a24 b24 h => qi FA Lf a24 (Aj b24) rfl (qk MK rfl (qm rfl ?_))
            refine BY h fun v25 a25 b25 h => qi Gl S6 a25 (Aj b25) rfl (qk Uw rfl (qp rfl (Ac ?_)))
            exact sn [(2009, 2008)] h
           ·refine qw 8 rfl (qp rfl (Ac ?_))
            exact sn [(2009, 2008)] h
          ·refine qw 5 rfl (qp rfl (qw 9 rfl (qp rfl (Ac ?_))))
           exact sn [(2009, 2008)] h
         ·refine Bb h (fun h => ?_) fun h => ?_
          ·refine Ai Aw rfl (qw 4 rfl (AS Iu Sg rfl (EB E9 ER Iu rfl ?_)))
           refine GJ h fun c27 h => EL (f := AO) E9 E9 ER VF Iu c27 rfl (qe rfl ?_)
           exact sn [(2007, 81)] h
          ·refine Al ?_
           exact sn [(2007, 2009)] h
       ·refine Ai Aw rfl (qm rfl (Bp rfl (qe rfl ?_)))
        exact sn [(2005, 2007)] h
      ·refine Bh ?_
       exact sn [(2006, 2005)] h
     ·refine Ah hs (Ai Aw rfl (qm rfl (Bp rfl (qe rfl ?_))))
      exact sn [(2003, 2006)] h
    ·refine Bh ?_
     exact sn [(2004, 2003)] h
   ·refine Ah hs (Ai Aw rfl (qm rfl (Bp rfl (qe rfl ?_))))
    exact sn [(2001, 2004)] h
  ·refine Bh ?_
   exact sn [(2002, 2001)] h
 ·refine Ah hs (wq rfl (qm rfl (qe rfl ?_)))
  obtain rfl := sj h
  refine Ah (sm [(1000, 2002)] [(4, oD (.own 1000))] [(1000, .vec 11 (v2.map AO))] rfl rfl) (As ?_)
  exact ⟨⟨[_], tm, rfl⟩, ⟨rfl, tv⟩⟩
theorem Ls (N : Nat) (p0 : Ak) (p1 : Int) (p2 : Int) (r : Ct × (List Ad)) (h : CN N p0 p1 p2 = some r) : Au zA 52 [.e (.agg (AM p0)), pD (.val (.int .u8 p1)), iD p2] [(11, r.2.map AO)] (.tup [.agg (Gi r.1), .one (.own 0)]) := by
 unfold CN at h
 refine cw (n := 46) (rs := [.cell 6 96, .tmp 7]) Tryz.func52 fun w0 S0 => ?_
 refine wq rfl (qb rfl (qz Nc rfl (qa rfl (Ac (wp rfl (qf IJ rfl (ql Lq rfl (AN rfl (Ac ?_)))))))))
 refine Bb h (fun h => ?_) fun h => ?_
 ·refine wq rfl (qm rfl (AS Nc Qe rfl (qm rfl (H3 rfl (by decide) (JN W7 Xt rfl (qm rfl (AS Iu Sg rfl (EB E9 ER Iu rfl (qs Ht rfl (qe rfl ?_))))))))))
  obtain rfl := sj h
  refine Ah (sm [(1000, 19)] [(6, oD (.ptr 6 0)), (7, oD (.own 1000))] [(6, .box [iC 1, iC p2, iC 0, iC 0, iC 0, .pure (.val (.bool false)), iC 0]), (1000, .vec 11 ((([(Ad.mk 0 7 0 0 0 0 p2 0 0 0 ((wI .i64 ((zJ p1 2)))))] : List Ad)).map AO))] rfl rfl) (As ?_)
  exact ⟨⟨[_, _], ⟨.cellN _ _ _ _ _ _ _ rfl rfl LZ Ht rfl rfl (E1 rfl), tm⟩, rfl⟩, ⟨rfl, tv⟩⟩
 ·refine Al (wp rfl (qm rfl (H3 rfl (by decide) (AN rfl (Ac ?_)))))
  refine Bb h (fun h => ?_) fun h => ?_
  ·refine wq rfl (AS Nc Qe rfl (qs Ht rfl (qe rfl ?_)))
   obtain rfl := sj h
   refine Ah ((Bl 7 2001 11 rfl rfl rfl).trans (sm [(1000, 2001)] [(6, oD (.ptr 6 0)), (7, oD (.own 1000))] [(6, .box [iC 2, iC 0, iC 0, iC 0, iC 0, .pure (.val (.bool false)), iC 0]), (1000, .vec 11 ((([] : List Ad)).map AO))] rfl rfl)) (As ?_)
   exact ⟨⟨[_, _], ⟨.cellN _ _ _ _ _ _ _ rfl rfl LZ Ht rfl rfl (E1 rfl), tm⟩, rfl⟩, ⟨rfl, tv⟩⟩
  ·refine Al (wq rfl (qL Dx B1 rfl ?_))
   refine BF h fun v3 a3 h => Av [] (IS N ((Ak.mk p0.gT p0.gE p0.gQ p0.gO p0.gP p0.gN ((Ab.mk p0.gB.gI p0.gB.gF p0.gB.gG)))) 0 v3 a3) fq rfl (qz Nc rfl (qs Ht rfl (Ac ?_)))
   refine AI h (fun v4 => mk [(6, oD (.ptr 6 0)), (8, oD (.ptr 8 0))] [(6, .box [iC 0, iC 0, iC 0, iC 0, iC 0, .pure (.val (.bool false)), iC 0]), (8, .box [iC v3.gD, iC v3.gN, iC v3.gP, iC v3.gO, iC v3.gV, .pure (.val (.bool v4)), iC v3.gX])]) (fun j4 h => ?_) (fun v4 h => ?_)
   ·refine wq rfl (qf Jn rfl (ql A8 rfl (AN rfl (Ac ?_))))
    refine Bb h (fun h => ?_) fun h => ?_
    ·refine Ai Aw rfl (qm rfl (H3 rfl (by decide) (BH rfl (qf Vo rfl (qs S6 rfl (Ac ?_))))))
     exact sn [] h
    ·refine Al ?_
     exact sn [] h
   ·refine wp rfl (qf Jn rfl (ql A8 rfl (AN rfl (Ac ?_))))
    refine Bb h (fun h => ?_) fun h => ?_
    ·refine wq rfl (qL LZ Ht rfl (qf Vm rfl (ql A8 rfl (qf Vj rfl (ql A8 rfl (qf Vx rfl (ql A8 rfl (AS Iu Sg rfl (EB E9 ER Iu rfl (qs Ht rfl (qa rfl (AJ (by kernel_rfl) ?_))))))))))))
     obtain rfl := sj h
     refine Ah (sm [(1000, 44)] [(6, oD (.ptr 6 0)), (7, oD (.own 1000))] [(6, .box [iC v3.gD, iC v3.gN, iC v3.gP, iC v3.gO, iC v3.gV, .pure (.val (.bool v4)), iC v3.gX]), (1000, .vec 11 ((([(Ad.mk 0 6 0 0 0 0 0 v3.gP v3.gO v3.gV 0)] : List Ad)).map AO))] rfl rfl) (As ?_)
     exact ⟨⟨[_, _], ⟨.cellN _ _ _ _ _ _ _ rfl rfl LZ Ht rfl rfl (E1 rfl), tm⟩, rfl⟩, ⟨rfl, tv⟩⟩
    ·refine Al (wq rfl (qL LZ Ht rfl (qs Ht rfl (qe rfl ?_))))
     obtain rfl := sj h
     refine Ah ((Bl 7 2002 11 rfl rfl rfl).trans (sm [(1000, 2002)] [(6, oD (.ptr 6 0)), (7, oD (.own 1000))] [(6, .box [iC v3.gD, iC v3.gN, iC v3.gP, iC v3.gO, iC v3.gV, .pure (.val (.bool v4)), iC v3.gX]), (1000, .vec 11 ((([] : List Ad)).map AO))] rfl rfl)) (As ?_)
     exact ⟨⟨[_, _], ⟨.cellN _ _ _ _ _ _ _ rfl rfl LZ Ht rfl rfl (E1 rfl), tm⟩, rfl⟩, ⟨rfl, tv⟩⟩
theorem JO (N : Nat) (p0 : List Ae) (p1 : Int) (r : Int) (h : Cv N p0 p1 = some r) : Au zA 172 [pD (.sl (p0.map Ax)), iD p1] [] (iD r) := by
 unfold Cv at h
 refine cw (n := 14) (rs := [.tmp 4]) Tryz.func172 fun w0 S0 => ?_
 refine wq rfl (qa rfl (Ac (wp rfl (qw 2 rfl (AU DB rfl (A9 rfl (Ac ?_)))))))
 refine Bb h (fun h => ?_) fun h => ?_
 ·refine wq rfl (qw 2 rfl ?_)
  refine BY h fun v2 a2 b2 h => qi DB Ea a2 (Aj b2) rfl (qg DK rfl (qk A8 rfl (qe rfl ?_)))
  obtain rfl := sj h
  refine Ah (sm [] [(4, iD v2.gD)] [] rfl rfl) (As ?_)
  exact ⟨⟨[_], tm, rfl⟩, tv⟩
 ·refine Al (wq rfl (qe rfl ?_))
  obtain rfl := sj h
  refine Ah (sm [] [(4, iD 0)] [] rfl rfl) (As ?_)
  exact ⟨⟨[_], tm, rfl⟩, tv⟩
theorem Ld (N : Nat) (p0 : Aa) (p1 : List Ae) (p2 : Int) (p3 : Int) (r : Ab × Int) (h : CT N p0 p1 p2 p3 = some r) : Au zA 171 [.e (.agg (Ag p0)), pD (.sl (p1.map Ax)), iD p2, iD p3] [] (.tup [.agg (AH r.1), .one (iC r.2)]) := by
 unfold CT at h
 refine cw (n := 107) (rs := [.cell 8 40, .tmp 9]) Tryz.func171 fun w0 S0 => ?_
 refine wq rfl (qb rfl (qz CM rfl (qa rfl (Ac (wp rfl (qL BZ BB rfl ?_))))))
 refine BF h fun v1 a1 h => Av [] (Em N p0 v1 a1) Y4 rfl (qa rfl (Ac (wq rfl (qm rfl (BH rfl (Ac ?_))))))
 refine Bb h (fun h => ?_) fun h => ?_
 ·refine wq rfl (AS CM G1 rfl (qm rfl (qs AQ rfl (qe rfl ?_))))
  obtain rfl := sj h
  refine Ah ((D4 8 _ rfl).trans (sm [] [(8, oD (.ptr 8 0)), (9, iD v1)] [(8, .box [sC ((([] : List Int)).map Aq), sC ((([] : List Int)).map Aq), sC ((([] : List Int)).map Cy)])] rfl rfl)) (As ?_)
  exact ⟨⟨[_, _], ⟨.cellN _ _ _ _ _ _ _ rfl rfl Bf AQ rfl rfl (E1 rfl), tm⟩, rfl⟩, tv⟩
 ·refine Al (wp rfl (qL BZ BB rfl (qm rfl ?_)))
  refine BF h fun v3 a3 h => Av [] (I3 N p0 p1 v3 a3) bm rfl (CL rfl (Ac ?_))
  refine Bb h (fun h => ?_) fun h => ?_
  ·refine wq rfl (AS CM G1 rfl (qs AQ rfl (qe rfl ?_)))
   obtain rfl := sj h
   refine Ah ((D4 8 _ rfl).trans (sm [] [(8, oD (.ptr 8 0)), (9, iD 13)] [(8, .box [sC ((([] : List Int)).map Aq), sC ((([] : List Int)).map Aq), sC ((([] : List Int)).map Cy)])] rfl rfl)) (As ?_)
   exact ⟨⟨[_, _], ⟨.cellN _ _ _ _ _ _ _ rfl rfl Bf AQ rfl rfl (E1 rfl), tm⟩, rfl⟩, tv⟩
  ·refine Al (A5 ?_)
   refine AI h (fun v5 => mk [(1, pD (.sl (p1.map Ax))), (2, iD p2), (3, iD p3), (4, oD (.ptr 4 0)), (8, oD (.ptr 8 0)), (40, bD v5)] [(4, .box (Ag p0)), (8, .box [.pure (.nil0), .pure (.nil0), .pure (.nil0)])]) (fun j5 h => ?_) (fun v5 h => ?_)
   ·refine Ai Aw rfl (qm rfl (A9 rfl (qm rfl ?_)))
    refine Dc 26 h rfl (fun h => ?_) fun h => ?_
    ·refine qw 4 rfl (qp rfl (qw 8 rfl (qp rfl (Ac ?_))))
     exact sn [] h
    ·refine qw 2 rfl (AU DB rfl (FQ rfl (qp rfl (qm rfl ?_))))
     refine Dc 32 h rfl (fun h => ?_) fun h => ?_
     ·refine qw 7 rfl (qp rfl (Ac ?_))
      exact sn [] h
     ·refine qm rfl (AN rfl (qw 2 rfl (AU DB rfl (AN rfl ?_))))
      refine FM (.g rfl rfl) rfl rfl (XW _ _ _ _ gA) rfl ?_
      refine qp rfl (Ac ?_)
      exact sn [] h
   ·refine Bb h (fun h => ?_) fun h => ?_
    ·refine wq rfl (AS CM G1 rfl (qs AQ rfl (qe rfl ?_)))
     obtain rfl := sj h
     refine Ah ((D4 8 _ rfl).trans (sm [] [(8, oD (.ptr 8 0)), (9, iD 7)] [(8, .box [sC ((([] : List Int)).map Aq), sC ((([] : List Int)).map Aq), sC ((([] : List Int)).map Cy)])] rfl rfl)) (As ?_)
     exact ⟨⟨[_, _], ⟨.cellN _ _ _ _ _ _ _ rfl rfl Bf AQ rfl rfl (E1 rfl), tm⟩, rfl⟩, tv⟩
    ·refine Al (wq rfl (qL BZ BB rfl (qm rfl ?_)))
     refine BF h fun v9 a9 h => Av [2001] (Je N p0 p1 v9 a9) aA rfl (qw 2 rfl ?_)
     refine BF h fun v10 a10 h => Av [] (JO N p1 p2 v10 a10) bk rfl (qa rfl (qa rfl (Ac (A5 (AX ?_)))))
     refine AI h (fun v11 => mk [(1, pD (.sl (p1.map Ax))), (2, iD p2), (3, iD p3), (4, oD (.ptr 4 0)), (8, oD (.ptr 8 0)), (11, oD (.own 2002)), (12, iD v10), (48, bD v11)] [(4, .box (Ag p0)), (8, .box [.pure (.nil0), .pure (.nil0), .pure (.nil0)]), (2002, .vec 3 (v9.map CZ))]) (fun j11 h => ?_) (fun v11 h => ?_)
     ·refine Ai Aw rfl (qm rfl (AN rfl (qm rfl ?_)))
      refine Dc 51 h rfl (fun h => ?_) fun h => ?_
      ·refine qw 2 rfl (qp rfl (qw 4 rfl (qu rfl (qu rfl (qn rfl (qp rfl (qw 4 rfl (qu rfl (qu rfl (qn rfl (qp rfl (qe rfl ?_))))))))))))
       exact sn [(2002, 2001)] h
      ·refine qm rfl (AN rfl (qp rfl (qm rfl ?_)))
       refine Dc 55 h rfl (fun h => ?_) fun h => ?_
       ·refine qw 3 rfl (qu rfl (qu rfl (qn rfl (qp rfl (qw 4 rfl (qu rfl (qu rfl (qn rfl (qp rfl (qe rfl ?_))))))))))
        exact sn [(2002, 2001)] h
       ·refine qm rfl (AN rfl (qm rfl ?_))
        refine Dc 58 h rfl (fun h => ?_) fun h => ?_
        ·refine qm rfl (AN rfl (qp rfl (qp rfl (qm rfl ?_))))
         refine Dc 63 h rfl (fun h => ?_) fun h => ?_
         ·refine qw 3 rfl (qu rfl (qu rfl (qn rfl (qp rfl (qe rfl ?_)))))
          exact sn [(2002, 2001)] h
         ·refine qm rfl (AN rfl (qm rfl ?_))
          refine Dc 66 h rfl (fun h => ?_) fun h => ?_
          ·refine qm rfl (AN rfl (qp rfl (qp rfl (qe rfl ?_))))
           exact sn [(2002, 2001)] h
          ·refine qw 2 rfl (qp rfl (qp rfl (qe rfl ?_)))
           exact sn [(2002, 2001)] h
        ·refine qw 2 rfl (qp rfl (qp rfl (qw 2 rfl (AN rfl (qm rfl ?_)))))
         refine Dc 66 h rfl (fun h => ?_) fun h => ?_
         ·refine qm rfl (AN rfl (qp rfl (qp rfl (qe rfl ?_))))
          exact sn [(2002, 2001)] h
         ·refine qw 2 rfl (qp rfl (qp rfl (qe rfl ?_)))
          exact sn [(2002, 2001)] h
     ·refine Bb h (fun h => ?_) fun h => ?_
      ·refine wq rfl (qw 2 rfl ?_)
       refine BY h fun v19 a19 b19 h => qI FV AQ a19 (Aj b19) rfl (qJ Bf AQ (Aj b19) rfl (qs AQ rfl (qe rfl ?_)))
       obtain rfl := sj h
       refine Ah (sm [] [(8, oD (.ptr 8 0)), (9, iD 0)] [(8, .box (AH v19))] rfl rfl) (As ?_)
       exact ⟨⟨[_, _], ⟨.cellN _ _ _ _ _ _ _ rfl rfl Bf AQ rfl rfl (E1 rfl), tm⟩, rfl⟩, tv⟩
      ·refine AI h (fun v20 => mk [(1, pD (.sl (p1.map Ax))), (2, iD p2), (3, iD p3), (4, oD (.ptr 4 0)), (8, oD (.ptr 8 0)), (11, oD (.own 2003)), (12, iD v10), (75, bD v20)] [(4, .box (Ag p0)), (8, .box [.pure (.nil0), .pure (.nil0), .pure (.nil0)]), (2003, .vec 3 (v9.map CZ))]) (fun j20 h => ?_) (fun v20 h => ?_)
       ·refine Ai Aw rfl (qm rfl (AN rfl (qm rfl ?_)))
        refine Dc 78 h rfl (fun h => ?_) fun h => ?_
        ·refine qw 2 rfl (qp rfl (qw 3 rfl (qp rfl (qw 2 rfl (AN rfl (qp rfl (qe rfl ?_)))))))
         exact sn [(2003, 2002)] h
        ·refine qm rfl (AN rfl (qp rfl (qm rfl ?_)))
         refine Dc 82 h rfl (fun h => ?_) fun h => ?_
         ·refine qw 2 rfl (qp rfl (qw 2 rfl (AN rfl (qp rfl (qe rfl ?_)))))
          exact sn [(2003, 2002)] h
         ·refine qm rfl (AN rfl (qp rfl (qm rfl ?_)))
          refine Dc 86 h rfl (fun h => ?_) fun h => ?_
          ·refine qm rfl (AN rfl (qp rfl (qe rfl ?_)))
           exact sn [(2003, 2002)] h
          ·refine qw 2 rfl (qp rfl (qe rfl ?_))
           exact sn [(2003, 2002)] h
       ·refine Bb h (fun h => ?_) fun h => ?_
        ·refine wq rfl (qw 2 rfl (Bp rfl ?_))
         refine BY h fun v25 a25 b25 h => qI FV AQ a25 (Aj b25) rfl (qJ Bf AQ (Aj b25) rfl (qs AQ rfl (qe rfl ?_)))
         obtain rfl := sj h
         refine Ah (sm [] [(8, oD (.ptr 8 0)), (9, iD 0)] [(8, .box (AH v25))] rfl rfl) (As ?_)
         exact ⟨⟨[_, _], ⟨.cellN _ _ _ _ _ _ _ rfl rfl Bf AQ rfl rfl (E1 rfl), tm⟩, rfl⟩, tv⟩
        ·refine AI h (fun v26 => mk [(1, pD (.sl (p1.map Ax))), (2, iD p2), (4, oD (.ptr 4 0)), (8, oD (.ptr 8 0)), (95, bD v26)] [(4, .box (Ag p0)), (8, .box [.pure (.nil0), .pure (.nil0), .pure (.nil0)])]) (fun j26 h => ?_) (fun v26 h => ?_)
         ·refine Ai Aw rfl (qm rfl (AN rfl (qm rfl ?_)))
          refine Dc 98 h rfl (fun h => ?_) fun h => ?_
          ·refine qm rfl (AN rfl (qp rfl (qe rfl ?_)))
           exact sn [] h
          ·refine qw 2 rfl (qp rfl (qe rfl ?_))
           exact sn [] h
         ·refine Bb h (fun h => ?_) fun h => ?_
          ·refine wq rfl (qL BZ BB rfl (qw 2 rfl ?_))
           refine BF h fun v29 a29 h => Av [2004, 2005, 2006] (GM N p0 p1 p2 v29 a29) Xf rfl (qs AQ rfl (qe rfl ?_))
           obtain rfl := sj h
           refine Ah ((AV 2004 _ _ rfl rfl).trans ((AV 2005 _ _ rfl rfl).trans ((AV 2006 _ _ rfl rfl).trans (sm [] [(8, oD (.ptr 8 0)), (9, iD 0)] [(8, .box (AH v29))] rfl rfl)))) (As ?_)
           exact ⟨⟨[_, _], ⟨.cellN _ _ _ _ _ _ _ rfl rfl Bf AQ rfl rfl (E1 rfl), tm⟩, rfl⟩, tv⟩
          ·refine Al (wq rfl (AS CM G1 rfl (qs AQ rfl (qe rfl ?_))))
           obtain rfl := sj h
           refine Ah ((D4 8 _ rfl).trans (sm [] [(8, oD (.ptr 8 0)), (9, iD 7)] [(8, .box [sC ((([] : List Int)).map Aq), sC ((([] : List Int)).map Aq), sC ((([] : List Int)).map Cy)])] rfl rfl)) (As ?_)
           exact ⟨⟨[_, _], ⟨.cellN _ _ _ _ _ _ _ rfl rfl Bf AQ rfl rfl (E1 rfl), tm⟩, rfl⟩, tv⟩
theorem Mv (N : Nat) (p0 : Aa) (p1 : List Int) (p2 : Ak) (r : Bool) (h : D9 N p0 p1 p2 = some r) : Au zA 142 [.e (.agg (Ag p0)), pD (.sl (p1.map Aq)), .e (.agg (AM p2))] [] (bD r) := by
 unfold D9 at h
 refine cw (n := 142) (rs := [.tmp 6]) Tryz.func142 fun w0 S0 => ?_
 refine wq rfl (qb rfl (qb rfl (qa rfl (Ac (A5 ?_)))))
 refine AI h (fun v1 => mk [(1, pD (.sl (p1.map Aq))), (3, oD (.ptr 3 0)), (5, oD (.ptr 5 0)), (22, bD v1)] [(3, .box (Ag p0)), (5, .box (AM p2))]) (fun j1 h => ?_) (fun v1 h => ?_)
 ·refine Ai Aw rfl (qL BZ BB rfl (qm rfl ?_))
  refine BF h fun v2 a2 h => Av [] (GO N p0 p1 v2 a2) cC rfl (BH rfl (qm rfl ?_))
  refine Dc 18 h rfl (fun h => ?_) fun h => ?_
  ·refine qw 3 rfl (qp rfl (Ac ?_))
   exact sn [] h
  ·refine qf IJ rfl (ql Lq rfl (A9 rfl (qp rfl (Ac ?_))))
   exact sn [] h
 ·refine Bb h (fun h => ?_) fun h => ?_
  ·refine wq rfl (qe rfl ?_)
   obtain rfl := sj h
   refine Ah (sm [] [(6, bD false)] [] rfl rfl) (As ?_)
   exact ⟨⟨[_], tm, rfl⟩, tv⟩
  ·refine Al (wq rfl (qL BZ BB rfl (qf F0 rfl (ql KW rfl (qf E5 rfl (ql A8 rfl (qf DT rfl (ql A8 rfl ?_))))))))
   refine BF h fun v5 a5 h => Av [] (Ld N p0 p2.gT p2.gE p2.gQ v5 a5) dq rfl (qm rfl (qx rfl (qx rfl (qz CM rfl (qs AQ rfl (qa rfl (Ac (wp rfl (qm rfl (BH rfl (Ac ?_)))))))))))
   refine Bb h (fun h => ?_) fun h => ?_
   ·refine wq rfl (qe rfl ?_)
    obtain rfl := sj h
    refine Ah (sm [] [(6, bD false)] [] rfl rfl) (As ?_)
    exact ⟨⟨[_], tm, rfl⟩, tv⟩
   ·refine Al (wq rfl (qa rfl (qa rfl (qe rfl ?_))))
    refine AI h (fun v7 => mk [(1, pD (.sl (p1.map Aq))), (3, oD (.ptr 3 0)), (5, oD (.ptr 5 0)), (7, oD (.ptr 7 0)), (9, iD v7), (10, iD 0), (11, iD 0)] [(3, .box (Ag p0)), (5, .box (AM p2)), (7, .box (AH v5.1))]) (fun j7 h => ?_) (fun v7 h => ?_)
    ·refine wq rfl (qf DT rfl (ql A8 rfl (Ac (AX ?_))))
     refine AI h (fun v8 => mk [(1, pD (.sl (p1.map Aq))), (3, oD (.ptr 3 0)), (5, oD (.ptr 5 0)), (7, oD (.ptr 7 0)), (9, iD 0), (10, iD 0), (11, iD 0), (37, iD p2.gQ), (38, bD v8)] [(3, .box (Ag p0)), (5, .box (AM p2)), (7, .box (AH v5.1))]) (fun j8 h => ?_) (fun v8 h => ?_)
     ·refine wq rfl (AN rfl (qe rfl ?_))
      refine Bb h (fun h => ?_) fun h => ?_
      ·refine Al ?_
       exact sn [] h
      ·refine Ai Aw rfl (AN rfl (qe rfl ?_))
       exact sn [] h
     ·refine Bb h (fun h => ?_) fun h => ?_
      ·refine Ai Aw rfl (qe rfl ?_)
       exact sn [] h
      ·refine AI h (fun v11 => mk [(1, pD (.sl (p1.map Aq))), (3, oD (.ptr 3 0)), (5, oD (.ptr 5 0)), (7, oD (.ptr 7 0)), (9, iD 0), (10, iD 0), (11, iD 0), (37, iD p2.gQ), (41, bD v11)] [(3, .box (Ag p0)), (5, .box (AM p2)), (7, .box (AH v5.1))]) (fun j11 h => ?_) (fun v11 h => ?_)
       ·refine wq rfl (AN rfl (qe rfl ?_))
        refine Bb h (fun h => ?_) fun h => ?_
        ·refine Al ?_
         exact sn [] h
        ·refine Ai Aw rfl (AN rfl (qe rfl ?_))
         exact sn [] h
       ·refine Bb h (fun h => ?_) fun h => ?_
        ·refine Ai Aw rfl (qe rfl ?_)
         exact sn [] h
        ·refine wq rfl (AN rfl (qe rfl ?_))
         refine Bb h (fun h => ?_) fun h => ?_
         ·refine Ai Aw rfl (qe rfl ?_)
          exact sn [] h
         ·refine Al ?_
          exact sn [] h
    ·refine AI h (fun v15 => mk [(3, oD (.ptr 3 0)), (5, oD (.ptr 5 0)), (7, oD (.ptr 7 0)), (9, iD v7), (10, iD v15.1), (11, iD v15.2)] [(3, .box (Ag p0)), (5, .box (AM p2)), (7, .box (AH v5.1))]) (fun j15 h => ?_) (fun v15 h => ?_)
     ·refine AI h (fun v16 => mk [(1, pD (.sl (p1.map Aq))), (3, oD (.ptr 3 0)), (5, oD (.ptr 5 0)), (7, oD (.ptr 7 0)), (9, iD v7), (10, iD 0), (11, iD 0), (58, bD v16)] [(3, .box (Ag p0)), (5, .box (AM p2)), (7, .box (AH v5.1))]) (fun j16 h => ?_) (fun v16 h => ?_)
      ·refine Ai Aw rfl (qf DT rfl (ql A8 rfl (AN rfl (qm rfl ?_))))
       refine Dc 49 h rfl (fun h => ?_) fun h => ?_
       ·refine qw 3 rfl (qp rfl (qw 4 rfl (qp rfl (Ac ?_))))
        exact sn [] h
       ·refine qf DT rfl (ql A8 rfl (AN rfl (qp rfl (qm rfl ?_))))
        refine Dc 54 h rfl (fun h => ?_) fun h => ?_
        ·refine qw 3 rfl (qp rfl (Ac ?_))
         exact sn [] h
        ·refine qf DT rfl (ql A8 rfl (AN rfl (qp rfl (Ac ?_))))
         exact sn [] h
      ·refine Bb h (fun h => ?_) fun h => ?_
       ·refine wq rfl (qf F0 rfl (ql KW rfl (qf E5 rfl (ql A8 rfl ?_))))
        refine BY h fun v20 a20 b20 h => qi DB Ea a20 (Aj b20) rfl (qK IE Ea rfl (qz KU rfl (qs Ea rfl (Ac (wq rfl (qm rfl (qf Db rfl (ql A8 rfl ?_))))))))
        refine BF h fun v21 a21 h => Av [] (Hl N p1 v20.gL v21 a21) XQ rfl (qa rfl (Ac (wq rfl (qm rfl (qa rfl (Ac (wq rfl (qf DK rfl (ql A8 rfl (AN rfl (Ac ?_)))))))))))
        refine Bb h (fun h => ?_) fun h => ?_
        ·refine Ai Aw rfl (qw 2 rfl (qf Db rfl (ql A8 rfl ?_)))
         refine BY h fun v23 a23 b23 h => qi AF CQ a23 (Aj b23) rfl (qk A8 rfl (Bp rfl (Kx rfl (qe rfl ?_))))
         exact sn [] h
        ·refine Al ?_
         exact sn [] h
       ·refine Al ?_
        exact sn [] h
     ·refine wp rfl (qf Jf rfl (ql A8 rfl (qf E5 rfl (ql A8 rfl (MN rfl (qm rfl (Bp rfl (A9 rfl (Ac ?_)))))))))
      refine Bb h (fun h => ?_) fun h => ?_
      ·refine wq rfl (qe rfl ?_)
       obtain rfl := sj h
       refine Ah (sm [] [(6, bD false)] [] rfl rfl) (As ?_)
       exact ⟨⟨[_], tm, rfl⟩, tv⟩
      ·refine Al (wq rfl (qf Jf rfl (ql A8 rfl (qf E5 rfl (ql A8 rfl (MN rfl (Kx rfl (qm rfl (Kx rfl (qa rfl (Ac (A5 ?_))))))))))))
       refine AI h (fun v25 => mk [(3, oD (.ptr 3 0)), (5, oD (.ptr 5 0)), (7, oD (.ptr 7 0)), (13, iD ((wI .i64 ((wI .i64 (p2.gP - (wI .i64 (2 * p2.gE)))) - v7)))), (111, bD v25)] [(3, .box (Ag p0)), (5, .box (AM p2)), (7, .box (AH v5.1))]) (fun j25 h => ?_) (fun v25 h => ?_)
       ·refine Ai Aw rfl (qm rfl (H3 rfl (by decide) (BH rfl (qm rfl ?_))))
        refine Dc 100 h rfl (fun h => ?_) fun h => ?_
        ·refine qw 4 rfl (qp rfl (qw 5 rfl (qp rfl (Ac ?_))))
         exact sn [] h
        ·refine qf HD rfl (ql A8 rfl (qm rfl (A9 rfl (qp rfl (qm rfl ?_)))))
         refine Dc 106 h rfl (fun h => ?_) fun h => ?_
         ·refine qw 4 rfl (qp rfl (Ac ?_))
          exact sn [] h
         ·refine qf HD rfl (ql A8 rfl (qm rfl (FQ rfl (qp rfl (Ac ?_)))))
          exact sn [] h
       ·refine Bb h (fun h => ?_) fun h => ?_
        ·refine wq rfl (qe rfl ?_)
         obtain rfl := sj h
         refine Ah (sm [] [(6, bD false)] [] rfl rfl) (As ?_)
         exact ⟨⟨[_], tm, rfl⟩, tv⟩
        ·refine Al (wp rfl (qf IL rfl (qL Bf AQ rfl (qL Bf AQ rfl ?_))))
         refine BF h fun v29 a29 h => Av [] (Hj N ((Ab.mk p2.gB.gI p2.gB.gF p2.gB.gG)) v5.1 v29 a29) cl rfl (Ac ?_)
         refine Bb h (fun h => ?_) fun h => ?_
         ·refine wq rfl (qe rfl ?_)
          obtain rfl := sj h
          refine Ah (sm [] [(6, bD true)] [] rfl rfl) (As ?_)
          exact ⟨⟨[_], tm, rfl⟩, tv⟩
         ·refine Al ?_
          refine AI h (fun v31 => mk [(6, bD v31)] []) (fun j31 h => ?_) (fun v31 h => ?_)
          ·refine Ai Aw rfl (qf DT rfl (ql A8 rfl (AN rfl (qm rfl ?_))))
           refine Dc 119 h rfl (fun h => ?_) fun h => ?_
           ·refine qf F0 rfl (ql KW rfl (qf E5 rfl (ql A8 rfl ?_)))
            refine BF h fun v33 a33 h => Av [] (JO N p2.gT p2.gE v33 a33) bk rfl (AN rfl (qp rfl (qm rfl ?_)))
            refine Dc 127 h rfl (fun h => ?_) fun h => ?_
            ·refine qm rfl (Eh rfl (qp rfl (qm rfl ?_)))
             refine Dc 131 h rfl (fun h => ?_) fun h => ?_
             ·refine qf IL rfl (qL Bf AQ rfl (qL BZ BB rfl (qf F0 rfl (ql KW rfl (qf E5 rfl (ql A8 rfl ?_))))))
              refine BF h fun v36 a36 h => Av [2001, 2002, 2003] (GM N p0 p2.gT p2.gE v36 a36) Xf rfl ?_
              refine BF h fun v37 a37 h => FN [] [2001, 2002, 2003] (Hj N ((Ab.mk p2.gB.gI p2.gB.gF p2.gB.gG)) v36 v37 a37) cl Eb rfl (qp rfl (qa rfl (AJ (by kernel_rfl) ?_)))
              exact sn [] h
             ·refine qw 9 rfl (qp rfl (qa rfl (AJ (by kernel_rfl) ?_)))
              exact sn [] h
            ·refine qw 2 rfl (qp rfl (qw 10 rfl (qp rfl (qa rfl (AJ (by kernel_rfl) ?_)))))
             exact sn [] h
           ·refine qw 6 rfl (qp rfl (qw 3 rfl (qp rfl (qw 10 rfl (qp rfl (qa rfl (AJ (by kernel_rfl) ?_)))))))
            exact sn [] h
          ·obtain rfl := sj h
           refine Ah (sm [] [(6, bD v31)] [] rfl rfl) (As ?_)
           exact ⟨⟨[_], tm, rfl⟩, tv⟩
theorem ME (N : Nat) (p0 : Aa) (p1 : List Int) (p2 : Ak) (r : Int) (h : FI N p0 p1 p2 = some r) : Au zA 100 [.e (.agg (Ag p0)), pD (.sl (p1.map Aq)), .e (.agg (AM p2))] [] (iD r) := by
 unfold FI at h
 refine cw (n := 19) (rs := [.tmp 6]) Tryz.func100 fun w0 S0 => ?_
 refine wq rfl (qb rfl (qb rfl (qa rfl (Ac (wp rfl (qL BZ BB rfl (qm rfl ?_)))))))
 refine BF h fun v1 a1 h => Av [] (GO N p0 p1 v1 a1) cC rfl (qa rfl (Ac (wq rfl (qm rfl (BH rfl (Ac ?_))))))
 refine Bb h (fun h => ?_) fun h => ?_
 ·refine wq rfl (qm rfl (qe rfl ?_))
  obtain rfl := sj h
  refine Ah (sm [] [(6, iD v1)] [] rfl rfl) (As ?_)
  exact ⟨⟨[_], tm, rfl⟩, tv⟩
 ·refine Al (wp rfl (qL BZ BB rfl (qm rfl (qL Dx B1 rfl ?_))))
  refine BF h fun v3 a3 h => Av [] (Mv N p0 p1 ((Ak.mk p2.gT p2.gE p2.gQ p2.gO p2.gP p2.gN ((Ab.mk p2.gB.gI p2.gB.gF p2.gB.gG)))) v3 a3) dI rfl (CL rfl (Ac ?_))
  refine Bb h (fun h => ?_) fun h => ?_
  ·refine wq rfl (qe rfl ?_)
   obtain rfl := sj h
   refine Ah (sm [] [(6, iD 1)] [] rfl rfl) (As ?_)
   exact ⟨⟨[_], tm, rfl⟩, tv⟩
  ·refine Al (wq rfl (qe rfl ?_))
   obtain rfl := sj h
   refine Ah (sm [] [(6, iD 0)] [] rfl rfl) (As ?_)
   exact ⟨⟨[_], tm, rfl⟩, tv⟩
theorem M0 (N : Nat) (p0 : Aa) (p1 : List Int) (p2 : Ak) (p3 : Ct) (r : Ak × (List Bk) × Int) (h : Dg N p0 p1 p2 p3 = some r) : Au zA 53 [.e (.agg (Ag p0)), pD (.sl (p1.map Aq)), .e (.agg (AM p2)), .e (.agg (Gi p3))] [(10, r.2.1.map Cj)] (.tup [.agg (AM r.1), .one (.own 0), .one (iC r.2.2)]) := by
 unfold Dg at h
 refine cw (n := 32) (rs := [.cell 8 91, .tmp 9, .tmp 10]) Tryz.func53 fun w0 S0 => ?_
 refine wq rfl (qb rfl (qb rfl (qb rfl (qz KF rfl (qa rfl (qa rfl (Ac (wp rfl (qL BZ BB rfl (qm rfl (qL Dx B1 rfl ?_)))))))))))
 refine BF h fun v1 a1 h => Av [] (ME N p0 p1 ((Ak.mk p2.gT p2.gE p2.gQ p2.gO p2.gP p2.gN ((Ab.mk p2.gB.gI p2.gB.gF p2.gB.gG)))) v1 a1) fd rfl (qa rfl (Ac (wq rfl (qm rfl (BH rfl (Ac ?_))))))
 refine Bb h (fun h => ?_) fun h => ?_
 ·refine wq rfl (AS KF Wo rfl (qm rfl (qs B1 rfl (qa rfl (qe rfl ?_)))))
  obtain rfl := sj h
  refine Ah ((Bl 9 2001 10 rfl rfl rfl).trans ((D4 8 _ rfl).trans (sm [(1000, 2001)] [(8, oD (.ptr 8 0)), (9, oD (.own 1000)), (10, iD v1)] [(8, .box [sC ((([] : List Ae)).map Ax), iC 0, iC 0, iC 0, iC 0, iC 0, sC ((([] : List Int)).map Aq), sC ((([] : List Int)).map Aq), sC ((([] : List Int)).map Cy)]), (1000, .vec 10 ((([] : List Bk)).map Cj))] rfl rfl))) (As ?_)
  exact ⟨⟨[_, _, _], ⟨.cellN _ _ _ _ _ _ _ rfl rfl Dx B1 rfl rfl (E1 rfl), ⟨.tmp _ _ rfl, tm⟩⟩, rfl⟩, ⟨rfl, tv⟩⟩
 ·refine Al (wq rfl (qL BZ BB rfl (qm rfl (qL Dx B1 rfl (qL LZ Ht rfl ?_)))))
  refine BF h fun v3 a3 h => Av [2002] (JP N p0 p1 ((Ak.mk p2.gT p2.gE p2.gQ p2.gO p2.gP p2.gN ((Ab.mk p2.gB.gI p2.gB.gF p2.gB.gG)))) p3 v3 a3) eC rfl (qm rfl (qx rfl (qx rfl (qz KF rfl (qs B1 rfl (qa rfl (Ac (wq rfl (qL Dx B1 rfl (qm rfl (qs B1 rfl (qa rfl (qe rfl ?_)))))))))))))
  obtain rfl := sj h
  refine Ah (sm [(1000, 2002)] [(8, oD (.ptr 8 0)), (9, oD (.own 1000)), (10, iD 0)] [(8, .box (AM v3.1)), (1000, .vec 10 (v3.2.map Cj))] rfl rfl) (As ?_)
  exact ⟨⟨[_, _, _], ⟨.cellN _ _ _ _ _ _ _ rfl rfl Dx B1 rfl rfl (E1 rfl), ⟨.tmp _ _ rfl, tm⟩⟩, rfl⟩, ⟨rfl, tv⟩⟩
theorem MB (N : Nat) (p0 : Int) (p1 : Bk) (r : Ad) (h : D1 N p0 p1 = some r) : Au zA 54 [iD p0, .e (.agg (Y8 p1))] [] (.e (.agg (C3 r))) := by
 unfold D1 at h
 refine cw (n := 22) (rs := [.cell 4 37]) Tryz.func54 fun w0 S0 => ?_
 refine wq rfl (qb rfl (qz Iu rfl (Ac (wq rfl (EB AF CQ MD rfl (qf PN rfl (qf X6 rfl (ql A8 rfl (Kx rfl ?_)))))))))
 refine BY h fun v1 a1 b1 h => Pu (.p rfl) rfl rfl rfl AF CQ a1 (Aj (f := Aq) b1) ?_
 refine Qc (.p rfl) rfl A8 rfl (Aj (f := Aq) b1) rfl ?_
 refine qa rfl (Ac (wq rfl (qw 2 rfl (qf PN rfl (qf Xh rfl (ql A8 rfl (qf PN rfl (qf Xi rfl (ql Lq rfl (AS Iu Sg rfl (qs ER rfl (Ac ?_))))))))))))
 obtain rfl := sj h
 refine Ah (sm [] [(4, oD (.ptr 4 0))] [(4, .box [iC p0, iC v1, iC 0, iC 0, iC 0, iC p1.qt.gL, iC p1.qt.gN, iC 0, iC 0, iC 0, iC 0])] rfl rfl) (As ?_)
 exact ⟨⟨[_], ⟨.cellN _ _ _ _ _ _ _ rfl rfl I0 ER rfl rfl (E1 rfl), tv⟩, rfl⟩, tv⟩
theorem Mu (N : Nat) (p0 : Bz) (p1 : List Int) (r : Aa × (List Int) × (List Ae) × (List Ad) × Bool) (h : C0 N p0 p1 = some r) : Au zA 21 [.e (.agg (DA p0)), pD (.sl (p1.map Cy))] [(11, r.2.2.2.1.map AO)] (.tup [.agg (Ag r.1), .one (sC (r.2.1.map Aq)), .one (sC (r.2.2.1.map Ax)), .one (.own 0), .one (.pure (.val (.bool r.2.2.2.2)))]) := by
 unfold C0 at h
 refine cw (n := 143) (rs := [.cell 4 25, .tmp 5, .tmp 6, .tmp 7, .tmp 8]) Tryz.func21 fun w0 S0 => ?_
 refine wq rfl (qb rfl (qz QM rfl (qa rfl (qa rfl (qa rfl (qa rfl (Ac (wq rfl (qf Pl rfl (qs fA rfl (Ac (wq rfl (qL d5 dE rfl ?_)))))))))))))
 refine BF h fun v1 a1 h => Av [] (Ov N ((Bz.mk ((BG.mk p0.gK.gH p0.gK.gR p0.gK.gU p0.gK.qy)) p0.qA (([] : List Int)))) v1 a1) gg rfl (qm rfl (qx rfl (qx rfl (qx rfl (qx rfl (qz QM rfl (qz KF rfl (qs BB rfl (qa rfl (qs B1 rfl (qa rfl (Ac (wp rfl (qm rfl (CL rfl (Ac ?_))))))))))))))))
 refine Bb h (fun h => ?_) fun h => ?_
 ·refine wq rfl (qL BZ BB rfl (qs BB rfl (qa rfl (qa rfl (qa rfl (qe rfl ?_))))))
  obtain rfl := sj h
  refine Ah ((Bl 7 2001 11 rfl rfl rfl).trans ((Nu 5 _ rfl).trans ((Nu 6 _ rfl).trans (sm [(1000, 2001)] [(4, oD (.ptr 4 0)), (5, pD (.sl ((([] : List Int)).map Aq))), (6, pD (.sl ((([] : List Ae)).map Ax))), (7, oD (.own 1000)), (8, bD false)] [(4, .box (Ag v1.1)), (1000, .vec 11 ((([] : List Ad)).map AO))] rfl rfl)))) (As ?_)
  exact ⟨⟨[_, _, _, _, _], ⟨.cellN _ _ _ _ _ _ _ rfl rfl BZ BB rfl rfl (E1 rfl), ⟨.tmp _ _ rfl, ⟨.tmp _ _ rfl, ⟨.tmp _ _ rfl, tm⟩⟩⟩⟩, rfl⟩, ⟨rfl, tv⟩⟩
 ·refine Al (wq rfl (qa rfl (Ac (wq rfl (qa rfl (Ac (wp rfl (qe rfl ?_))))))))
  refine AY (L := BK N p1 v1) h (fun v3 => mk [(1, pD (.sl (p1.map Cy))), (4, oD (.ptr 4 0)), (9, oD (.ptr 9 0)), (10, pD (.sl (v1.2.1.map Aq))), (11, oD (.ptr 11 0)), (13, oD (.own 2002)), (14, iD v3.2.2.1), (15, iD v3.2.2.2)] [(4, .box [.pure (.nil0), .pure (.nil0), .pure (.nil0), .pure (.nil0)]), (9, .box (Ag v1.1)), (11, .box (AM v3.1)), (2002, .vec 11 (v3.2.1.map AO))]) (fun v4 => mk [(4, oD (.ptr 4 0)), (9, oD (.ptr 9 0)), (10, pD (.sl (v1.2.1.map Aq))), (11, oD (.ptr 11 0)), (13, oD (.own 2003))] [(4, .box [.pure (.nil0), .pure (.nil0), .pure (.nil0), .pure (.nil0)]), (9, .box (Ag v1.1)), (11, .box (AM v4.1)), (2003, .vec 11 (v4.2.map AO))]) (fun _ _ => rfl) ((Bl 13 2019 11 rfl rfl rfl).trans (sm [(2002, 2019)] _ _ rfl rfl)) (fun j3 n3 v3 h => ?_) (fun v4 s h hs => ?_)
  ·unfold BK at h
   refine wp rfl (qw 2 rfl (AU KA rfl (A9 rfl (Ac ?_))))
   refine Bb h (fun h => ?_) fun h => ?_
   ·refine Al ?_
    refine AI h (fun v6 => mk [(1, pD (.sl (p1.map Cy))), (4, oD (.ptr 4 0)), (9, oD (.ptr 9 0)), (10, pD (.sl (v1.2.1.map Aq))), (11, oD (.ptr 11 0)), (13, oD (.own 2004)), (14, iD v6.2.2), (15, iD v3.2.2.2)] [(4, .box [.pure (.nil0), .pure (.nil0), .pure (.nil0), .pure (.nil0)]), (9, .box (Ag v1.1)), (11, .box (AM v6.1)), (2004, .vec 11 (v6.2.1.map AO))]) (fun j6 h => ?_) (fun v6 h => ?_)
    ·refine AX (wq rfl (qw 2 rfl ?_))
     refine BY h fun v7 a7 b7 h => qi KA ej a7 (Aj b7) rfl (qk bb rfl (qa rfl (Ac (wq rfl (qm rfl (VO rfl (by decide) (qa rfl (Ac (wp rfl (qL BZ BB rfl (qf IL rfl (qL Bf AQ rfl ?_))))))))))))
     refine BF h fun v8 a8 h => Av [2005] (KN N v1.1 ((Ab.mk v3.1.gB.gI v3.1.gB.gF v3.1.gB.gG)) v8 a8) gp rfl (qe rfl ?_)
     refine AI h (fun v9 => mk [(1, pD (.sl (p1.map Cy))), (4, oD (.ptr 4 0)), (9, oD (.ptr 9 0)), (10, pD (.sl (v1.2.1.map Aq))), (11, oD (.ptr 11 0)), (13, oD (.own 2006)), (14, iD v3.2.2.1), (15, iD v3.2.2.2), (16, pD (.val (.int .u8 v7))), (17, iD ((wI .i64 (y5 v3.2.2.2 2)))), (18, oD (.own 2007)), (61, bD v9)] [(4, .box [.pure (.nil0), .pure (.nil0), .pure (.nil0), .pure (.nil0)]), (9, .box (Ag v1.1)), (11, .box (AM v3.1)), (2006, .vec 11 (v3.2.1.map AO)), (2007, .vec 11 (v8.map AO))]) (fun j9 h => ?_) (fun v9 h => ?_)
     ·refine Ai Aw rfl (qm rfl (H3 rfl (by decide) (Eh rfl (qm rfl ?_))))
      refine Dc 57 h rfl (fun h => ?_) fun h => ?_
      ·refine qm rfl (GG E9 rfl (FQ rfl (qp rfl (Ac ?_))))
       exact sn [(2006, 2002), (2007, 2005)] h
      ·refine qw 3 rfl (qp rfl (Ac ?_))
       exact sn [(2006, 2002), (2007, 2005)] h
     ·refine Bb h (fun h => ?_) fun h => ?_
      ·refine wq rfl (qw 2 rfl (VO rfl (by decide) (JN W7 Xt rfl (qm rfl (GG E9 rfl ?_)))))
       refine GJ h fun c12 h => H3 rfl c12 ?_
       refine BY h fun v13 a13 b13 h => qI E9 ER a13 (Aj b13) rfl (qJ I0 ER (Aj b13) rfl (qz Iu rfl (qs ER rfl (Ac (wq rfl (qm rfl (qf KY rfl (qs Pg rfl (Ac (wq rfl (qm rfl (qL I0 ER rfl (EB E9 ER Iu rfl ?_)))))))))))))
       refine GJ h fun c14 h => EL (f := AO) E9 E9 ER VF Iu c14 rfl (qa rfl (Ac (Bh ?_)))
       exact sn [(2004, 76)] h
      ·refine Al ?_
       refine AI h (fun v15 => mk [(1, pD (.sl (p1.map Cy))), (4, oD (.ptr 4 0)), (9, oD (.ptr 9 0)), (10, pD (.sl (v1.2.1.map Aq))), (11, oD (.ptr 11 0)), (13, oD (.own 2008)), (14, iD v15), (15, iD v3.2.2.2), (16, pD (.val (.int .u8 v7))), (17, iD ((wI .i64 (y5 v3.2.2.2 2))))] [(4, .box [.pure (.nil0), .pure (.nil0), .pure (.nil0), .pure (.nil0)]), (9, .box (Ag v1.1)), (11, .box (AM v3.1)), (2008, .vec 11 (v3.2.1.map AO))]) (fun j15 h => ?_) (fun v15 h => ?_)
       ·refine wq rfl (qf IJ rfl (ql Lq rfl (AN rfl (Ac ?_))))
        refine Bb h (fun h => ?_) fun h => ?_
        ·refine Ai Aw rfl (qm rfl (Bp rfl (qe rfl ?_)))
         exact sn [(2008, 2006)] h
        ·refine Al ?_
         exact sn [(2008, 2006)] h
       ·refine wq rfl (qL Dx B1 rfl (qw 2 rfl ?_))
        refine BF h fun v17 a17 h => Av [2009] (Ls N ((Ak.mk v3.1.gT v3.1.gE v3.1.gQ v3.1.gO v3.1.gP v3.1.gN ((Ab.mk v3.1.gB.gI v3.1.gB.gF v3.1.gB.gG)))) v7 v15 v17 a17) gq rfl (qm rfl (qx rfl (qx rfl (qz Nc rfl (qs Ht rfl (qa rfl (Ac (wp rfl (qe rfl ?_)))))))))
        refine AY (L := Bo N v3) h (fun v18 => mk [(1, pD (.sl (p1.map Cy))), (4, oD (.ptr 4 0)), (9, oD (.ptr 9 0)), (10, pD (.sl (v1.2.1.map Aq))), (11, oD (.ptr 11 0)), (13, oD (.own 2010)), (14, iD v15), (15, iD v3.2.2.2), (17, iD ((wI .i64 (y5 v3.2.2.2 2)))), (20, oD (.ptr 20 0)), (21, oD (.own 2011)), (22, iD v18.2.2)] [(4, .box [.pure (.nil0), .pure (.nil0), .pure (.nil0), .pure (.nil0)]), (9, .box (Ag v1.1)), (11, .box (AM v3.1)), (20, .box (Gi v17.1)), (2010, .vec 11 (v18.1.map AO)), (2011, .vec 11 (v18.2.1.map AO))]) (fun v19 => mk [(1, pD (.sl (p1.map Cy))), (4, oD (.ptr 4 0)), (9, oD (.ptr 9 0)), (10, pD (.sl (v1.2.1.map Aq))), (11, oD (.ptr 11 0)), (13, oD (.own 2012)), (14, iD v15), (15, iD v3.2.2.2), (17, iD ((wI .i64 (y5 v3.2.2.2 2)))), (20, oD (.ptr 20 0))] [(4, .box [.pure (.nil0), .pure (.nil0), .pure (.nil0), .pure (.nil0)]), (9, .box (Ag v1.1)), (11, .box (AM v3.1)), (20, .box (Gi v17.1)), (2012, .vec 11 (v19.map AO))]) (fun _ _ => rfl) (sm [(2010, 2008), (2011, 2009)] _ _ rfl rfl) (fun j18 n18 v18 h => ?_) (fun v19 s h hs => ?_)
        ·unfold Bo at h
         refine wp rfl (qw 2 rfl (GG E9 rfl (A9 rfl (Ac ?_))))
         refine Bb h (fun h => ?_) fun h => ?_
         ·refine Al (A5 (AX (wq rfl (qw 3 rfl ?_))))
          refine BY h fun v21 a21 b21 h => qI E9 ER a21 (Aj b21) rfl (qh KY rfl ?_)
          refine FE rfl rfl rfl rfl (Aj b21) rfl Pg rfl (Jd rfl) (FL AO v18.2.1 _ ((Ad.mk ((wI .i64 (y5 v3.2.2.2 2))) v21.gD v21.gX v21.g8 v21.hJ v21.gL v21.gN v21.gP v21.gO v21.gV v21.qv))) ?_
          refine Ac (Ai Aw rfl (qw 3 rfl ?_))
          refine BY h fun v22 a22 b22 h => qI E9 ER a22 (Aj b22) rfl (qJ I0 ER (Aj b22) rfl (EB E9 ER Iu rfl ?_))
          refine GJ h fun c23 h => EL (f := AO) E9 E9 ER VF Iu c23 rfl (qa rfl (Ac (Ai Aw rfl (qm rfl (Bp rfl (qe rfl ?_))))))
          exact sn [(2010, 106)] h
         ·refine Bh ?_
          exact sn [(2012, 2010)] h
        ·refine Ah hs (wq rfl (qL BZ BB rfl (qm rfl (qL Dx B1 rfl (qL LZ Ht rfl ?_)))))
         refine BF h fun v24 a24 h => Av [2013] (M0 N v1.1 v1.2.1 ((Ak.mk v3.1.gT v3.1.gE v3.1.gQ v3.1.gO v3.1.gP v3.1.gN ((Ab.mk v3.1.gB.gI v3.1.gB.gF v3.1.gB.gG)))) v17.1 v24 a24) gl rfl (qm rfl (qx rfl (qx rfl (qx rfl (qz KF rfl (qs B1 rfl (qa rfl (qa rfl (Ac (wp rfl (qe rfl ?_)))))))))))
         refine AY (L := BW N v3 v24) h (fun v25 => mk [(1, pD (.sl (p1.map Cy))), (4, oD (.ptr 4 0)), (9, oD (.ptr 9 0)), (10, pD (.sl (v1.2.1.map Aq))), (11, oD (.ptr 11 0)), (13, oD (.own 2014)), (14, iD v15), (15, iD v3.2.2.2), (17, iD ((wI .i64 (y5 v3.2.2.2 2)))), (23, oD (.ptr 23 0)), (24, oD (.own 2015)), (26, iD v25.2)] [(4, .box [.pure (.nil0), .pure (.nil0), .pure (.nil0), .pure (.nil0)]), (9, .box (Ag v1.1)), (11, .box (AM v3.1)), (23, .box (AM v24.1)), (2014, .vec 11 (v25.1.map AO)), (2015, .vec 10 (v24.2.1.map Cj))]) (fun v26 => mk [(1, pD (.sl (p1.map Cy))), (4, oD (.ptr 4 0)), (9, oD (.ptr 9 0)), (10, pD (.sl (v1.2.1.map Aq))), (11, oD (.ptr 11 0)), (13, oD (.own 2016)), (14, iD v15), (15, iD v3.2.2.2), (23, oD (.ptr 23 0))] [(4, .box [.pure (.nil0), .pure (.nil0), .pure (.nil0), .pure (.nil0)]), (9, .box (Ag v1.1)), (11, .box (AM v3.1)), (23, .box (AM v24.1)), (2016, .vec 11 (v26.map AO))]) (fun _ _ => rfl) (sm [(2014, 2012), (2015, 2013)] _ _ rfl rfl) (fun j25 n25 v25 h => ?_) (fun v26 s h hs => ?_)
         ·unfold BW at h
          refine wp rfl (qw 2 rfl (GG Mg rfl (A9 rfl (Ac ?_))))
          refine Bb h (fun h => ?_) fun h => ?_
          ·refine Al ?_
           refine AI h (fun v28 => mk [(1, pD (.sl (p1.map Cy))), (4, oD (.ptr 4 0)), (9, oD (.ptr 9 0)), (10, pD (.sl (v1.2.1.map Aq))), (11, oD (.ptr 11 0)), (13, oD (.own 2017)), (14, iD v15), (15, iD v3.2.2.2), (17, iD ((wI .i64 (y5 v3.2.2.2 2)))), (23, oD (.ptr 23 0)), (24, oD (.own 2018)), (26, iD v25.2)] [(4, .box [.pure (.nil0), .pure (.nil0), .pure (.nil0), .pure (.nil0)]), (9, .box (Ag v1.1)), (11, .box (AM v3.1)), (23, .box (AM v24.1)), (2017, .vec 11 (v28.map AO)), (2018, .vec 10 (v24.2.1.map Cj))]) (fun j28 h => ?_) (fun v28 h => ?_)
           ·refine AX (wq rfl (qw 2 rfl ?_))
            refine BY h fun v29 a29 b29 h => qI Mg LT a29 (Aj b29) rfl (qh WS rfl (qj A8 (Aj b29) rfl (AN rfl (Ac ?_))))
            refine Bb h (fun h => ?_) fun h => ?_
            ·refine Ai Aw rfl (qw 4 rfl ?_)
             refine BY h fun v31 a31 b31 h => qI Mg LT a31 (Aj b31) rfl (qJ aY LT (Aj b31) rfl ?_)
             refine BF h fun v32 a32 h => Av [] (MB N ((wI .i64 (y5 v3.2.2.2 2))) ((Bk.mk v31.gD ((Fw.mk v31.qt.gD v31.qt.gN v31.qt.gL v31.qt.qH)) ((DY.mk v31.qB.gP v31.qB.gO v31.qB.gV)) v31.qM v31.gX)) v32 a32) fZ rfl (EB E9 ER Iu rfl ?_)
             refine GJ h fun c33 h => EL (f := AO) E9 E9 ER VF Iu c33 rfl (qe rfl ?_)
             exact sn [(2017, 136), (2018, 2015)] h
            ·refine Al ?_
             exact sn [(2017, 2014), (2018, 2015)] h
           ·refine Ai Aw rfl (qm rfl (Bp rfl (qe rfl ?_)))
            exact sn [(2014, 2017), (2015, 2018)] h
          ·refine Bh ?_
           exact sn [(2016, 2014)] h
         ·refine Ah hs (Ai Aw rfl (qL Dx B1 rfl (qs B1 rfl (Ac ?_))))
          exact sn [(2004, 2016)] h
    ·refine Ai Aw rfl (qm rfl (Bp rfl (qe rfl ?_)))
     exact sn [(2002, 2004)] h
   ·refine Bh ?_
    exact sn [(2003, 2002)] h
  ·refine Ah hs (wq rfl (qL BZ BB rfl (qm rfl (qf F0 rfl (ql KW rfl (qm rfl (qs BB rfl (qa rfl (qa rfl (qa rfl (qa rfl (AJ (by kernel_rfl) ?_))))))))))))
   obtain rfl := sj h
   refine Ah (sm [(1000, 2003)] [(4, oD (.ptr 4 0)), (5, pD (.sl (v1.2.1.map Aq))), (6, pD (.sl (v4.1.gT.map Ax))), (7, oD (.own 1000)), (8, bD true)] [(4, .box (Ag v1.1)), (1000, .vec 11 (v4.2.map AO))] rfl rfl) (As ?_)
   exact ⟨⟨[_, _, _, _, _], ⟨.cellN _ _ _ _ _ _ _ rfl rfl BZ BB rfl rfl (E1 rfl), ⟨.tmp _ _ rfl, ⟨.tmp _ _ rfl, ⟨.tmp _ _ rfl, tm⟩⟩⟩⟩, rfl⟩, ⟨rfl, tv⟩⟩
set_option maxRecDepth 10000 in
theorem JF (N : Nat) (p0 : Bz) (p1 : List Int) (r : Bool) (h : Dn N p0 p1 = some r) : Au zA 6 [.e (.agg (DA p0)), pD (.sl (p1.map Cy))] [] (bD r) := by
 unfold Dn at h
 refine cw (n := 62) (rs := [.tmp 4]) Tryz.func6 fun w0 S0 => ?_
 refine wq rfl (qb rfl (qa rfl (Ac (A5 ?_))))
 refine AI h (fun v1 => mk [(1, pD (.sl (p1.map Cy))), (2, oD (.ptr 2 0)), (21, bD v1)] [(2, .box (DA p0))]) (fun j1 h => ?_) (fun v1 h => ?_)
 ·refine Ai Aw rfl ?_
  refine BF h fun v2 a2 h => Av [] (Ja N v2 a2) ft rfl (CL rfl (qm rfl ?_))
  refine Dc 17 h rfl (fun h => ?_) fun h => ?_
  ·refine qw 3 rfl (qp rfl (Ac ?_))
   exact sn [] h
  ·refine qm rfl (AU KA rfl (FQ rfl (qp rfl (Ac ?_))))
   exact sn [] h
 ·refine Bb h (fun h => ?_) fun h => ?_
  ·refine wq rfl ?_
   refine BF h fun v5 a5 h => Av [] (Ja N v5 a5) ft rfl (qe rfl ?_)
   obtain rfl := sj h
   refine Ah (sm [] [(4, bD v5)] [] rfl rfl) (As ?_)
   exact ⟨⟨[_], tm, rfl⟩, tv⟩
  ·refine Al (wq rfl (qL d5 dE rfl (qm rfl ?_)))
   refine BF h fun v6 a6 h => Av [2001] (Mu N ((Bz.mk ((BG.mk p0.gK.gH p0.gK.gR p0.gK.gU p0.gK.qy)) p0.qA p0.qD)) p1 v6 a6) gi rfl (qm rfl (qx rfl (qx rfl (qx rfl (qx rfl (qx rfl (qz QM rfl (qs BB rfl (qa rfl (qa rfl (qa rfl (qa rfl (Ac (wp rfl (qm rfl (CL rfl (Ac ?_)))))))))))))))))
   refine Bb h (fun h => ?_) fun h => ?_
   ·refine wq rfl (qe rfl ?_)
    obtain rfl := sj h
    refine Ah (sm [] [(4, bD true)] [] rfl rfl) (As ?_)
    exact ⟨⟨[_], tm, rfl⟩, tv⟩
   ·refine Al (wq rfl (qL BZ BB rfl (qw 3 rfl ?_)))
    refine BF h fun v8 a8 h => FN [] [2001] (Ko N v6.1 v6.2.1 v6.2.2.1 v6.2.2.2.1 v8 a8) bV Eb rfl (qm rfl (qx rfl (qx rfl (qx rfl (qa rfl (qa rfl (qa rfl (Ac (wq rfl (qL BZ BB rfl (qw 2 rfl (FO (AV 2001 _ _ rfl rfl) ?_))))))))))))
    refine BF h fun v9 a9 h => Av [] (OY N v6.1 v6.2.2.1 v6.2.2.2.1 v9 a9) eg rfl (qm rfl (qx rfl (qx rfl (qz CM rfl (qs AQ rfl (qe rfl ?_))))))
    refine AI h (fun v10 => mk [(4, bD v10)] []) (fun j10 h => ?_) (fun v10 h => ?_)
    ·refine Ai Aw rfl (qm rfl (AN rfl (qm rfl ?_)))
     refine Dc 52 h rfl (fun h => ?_) fun h => ?_
     ·refine qm rfl (AN rfl (qp rfl (qm rfl ?_)))
      refine Dc 56 h rfl (fun h => ?_) fun h => ?_
      ·refine qL BZ BB rfl (qL Bf AQ rfl ?_)
       refine BF h fun v13 a13 h => Av [] (Ep N v6.1 v9.1 v13 a13) Wc rfl (AN rfl (qp rfl (qe rfl ?_)))
       exact sn [] h
      ·refine qw 4 rfl (qp rfl (qe rfl ?_))
       exact sn [] h
     ·refine qw 2 rfl (qp rfl (qw 5 rfl (qp rfl (qe rfl ?_))))
      exact sn [] h
    ·obtain rfl := sj h
     refine Ah (sm [] [(4, bD v10)] [] rfl rfl) (As ?_)
     exact ⟨⟨[_], tm, rfl⟩, tv⟩
end Go.Lift
