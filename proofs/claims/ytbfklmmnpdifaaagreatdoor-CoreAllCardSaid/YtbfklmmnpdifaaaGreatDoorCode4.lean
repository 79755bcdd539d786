/- Lemmas for CoreAllCardSaid, which YtbfklmmnpdifaaaGreatDoorFinC6 proves. -/
import Derived.Test.YtbfklmmnpdifaaaGreatDoorCode1
open List renaming map_eq_nil_iff → uB, replicate → zH
open Nat renaming zero_add → zC
open Go.Proofs.Tryz renaming prog → zA
namespace Go.Lift
open IntKind renaming wrap → wI
set_option maxRecDepth 10000
open Go.RowKit
open Go.Proofs
theorem Hw (N : Nat) (p0 : Aa) (p1 : Ac) (r : Int) (h : Dy N p0 p1 = some r) : Ao zA 90 [.e (.agg (Ag p0)), .e (.agg (AI p1))] [] (iD r) := by
 unfold Dy at h
 refine cw (n := 154) (rs := [.tmp 4]) Tryz.func90 fun w0 S0 => ?_
 refine wq rfl (qb rfl (qb rfl (qa rfl (Ab (wp rfl (qL Co BN rfl ?_))))))
 refine BG h fun v1 a1 h => Av [] (DC N p0 v1 a1) W9 rfl (qa rfl (Ab (wq rfl (qm rfl (Bo rfl (Ab ?_))))))
 refine A8 h (fun h => ?_) fun h => ?_
 ·refine wq rfl (qm rfl (qe rfl ?_))
  obtain rfl := sj h
  refine Ae (sm [] [(4, iD v1)] [] rfl rfl) (Ar ?_)
  exact ⟨⟨[_], tm, rfl⟩, tv⟩
 ·refine Ai (wq rfl (qf A5 rfl (ql A0 rfl (AJ As rfl (qa rfl (Ab (AL ?_)))))))
  refine AS h (fun v3 => mk [(2, oD (.ptr 2 0)), (3, oD (.ptr 3 0)), (6, iD ((p0.fb.length : Int))), (39, bD v3)] [(2, .box (Ag p0)), (3, .box (AI p1))]) (fun j3 h => ?_) (fun v3 h => ?_)
  ·refine Ah Aw rfl (qf C5 rfl (ql A0 rfl (AJ As rfl (qm rfl (Bo rfl (qm rfl ?_))))))
   refine Eu 24 h rfl (fun h => ?_) fun h => ?_
   ·refine qw 5 rfl (qp rfl (qw 8 rfl (qp rfl (Ab ?_))))
    exact sn [] h
   ·refine qf BK rfl (ql A0 rfl (AJ As rfl (qm rfl (Bo rfl (qp rfl (qm rfl ?_))))))
    refine Eu 31 h rfl (fun h => ?_) fun h => ?_
    ·refine qw 7 rfl (qp rfl (Ab ?_))
     exact sn [] h
    ·refine qf C9 rfl (ql Ib rfl (AJ Ea rfl (qf Cg rfl (ql Hp rfl (AJ Dv rfl (Bo rfl (qp rfl (Ab ?_))))))))
     exact sn [] h
  ·refine A8 h (fun h => ?_) fun h => ?_
   ·refine wq rfl (qe rfl ?_)
    obtain rfl := sj h
    refine Ae (sm [] [(4, iD 6)] [] rfl rfl) (Ar ?_)
    exact ⟨⟨[_], tm, rfl⟩, tv⟩
   ·refine Ai (wp rfl (qe rfl ?_))
    refine AC (L := Cm N p0 p1) h (fun v7 => mk [(2, oD (.ptr 2 0)), (3, oD (.ptr 3 0)), (6, iD ((p0.fb.length : Int))), (7, iD v7)] [(2, .box (Ag p0)), (3, .box (AI p1))]) (fun v8 => mk [(2, oD (.ptr 2 0)), (3, oD (.ptr 3 0))] [(2, .box (Ag p0)), (3, .box (AI p1))]) (fun _ _ => rfl) (sm [] _ _ rfl rfl) (fun j7 n7 v7 h => ?_) (fun v8 s h hs => ?_)
    ·unfold Cm at h
     refine wp rfl (qw 2 rfl (AV rfl (Ab ?_)))
     refine A8 h (fun h => ?_) fun h => ?_
     ·refine Ai (AL (AH (AL ?_)))
      refine AS h (fun v10 => mk [(2, oD (.ptr 2 0)), (3, oD (.ptr 3 0)), (6, iD ((p0.fb.length : Int))), (7, iD v7), (84, bD v10)] [(2, .box (Ag p0)), (3, .box (AI p1))]) (fun j10 h => ?_) (fun v10 h => ?_)
      ·refine Ah Aw rfl (qf C5 rfl (ql A0 rfl (qm rfl ?_)))
       refine BD h fun v11 a11 b11 h => qi As Cp a11 (Af b11) rfl (qk BY rfl (AV rfl (qm rfl ?_)))
       refine Eu 51 h rfl (fun h => ?_) fun h => ?_
       ·refine qw 11 rfl (qp rfl (qw 7 rfl (qp rfl (qw 12 rfl (qp rfl (AM (by kernel_rfl) ?_))))))
        exact sn [] h
       ·refine qf C5 rfl (ql A0 rfl (qm rfl ?_))
        refine BD h fun v13 a13 b13 h => qi As Cp a13 (Af b13) rfl (qk BY rfl (qf A5 rfl (ql A0 rfl (qm rfl ?_))))
        refine BD h fun v14 a14 b14 h => qi As Cp a14 (Af b14) rfl (qk BY rfl (EI rfl (qp rfl (qm rfl ?_))))
        refine Eu 64 h rfl (fun h => ?_) fun h => ?_
        ·refine qw 6 rfl (qp rfl (qw 12 rfl (qp rfl (AM (by kernel_rfl) ?_))))
         exact sn [] h
        ·refine qf BK rfl (ql A0 rfl (qm rfl ?_))
         refine BD h fun v16 a16 b16 h => qi As Cp a16 (Af b16) rfl (qk BY rfl (AV rfl (qp rfl (qm rfl ?_))))
         refine Eu 72 h rfl (fun h => ?_) fun h => ?_
         ·refine qw 11 rfl (qp rfl (AM (by kernel_rfl) ?_))
          exact sn [] h
         ·refine qf BK rfl (ql A0 rfl (qm rfl ?_))
          refine BD h fun v18 a18 b18 h => qi As Cp a18 (Af b18) rfl (qk BY rfl (qf A5 rfl (ql A0 rfl (qm rfl ?_))))
          refine BD h fun v19 a19 b19 h => qi As Cp a19 (Af b19) rfl (qk BY rfl (EI rfl (qp rfl (AM (by kernel_rfl) ?_))))
          exact sn [] h
      ·refine A8 h (fun h => ?_) fun h => ?_
       ·refine wq rfl (qe rfl ?_)
        obtain rfl := sj h
        refine Ae (sm [] [(4, iD 7)] [] rfl rfl) (Ar ?_)
        exact ⟨⟨[_], tm, rfl⟩, tv⟩
       ·refine Ai (wq rfl (qf C5 rfl (ql A0 rfl (qm rfl ?_))))
        refine BD h fun v21 a21 b21 h => qi As Cp a21 (Af b21) rfl (qk BY rfl (qf BK rfl (ql A0 rfl (qm rfl ?_))))
        refine BD h fun v22 a22 b22 h => qi As Cp a22 (Af b22) rfl (qk BY rfl (B1 rfl (AM (by kernel_rfl) ?_)))
        refine A8 h (fun h => ?_) fun h => ?_
        ·refine wq rfl (qe rfl ?_)
         obtain rfl := sj h
         refine Ae (sm [] [(4, iD 1)] [] rfl rfl) (Ar ?_)
         exact ⟨⟨[_], tm, rfl⟩, tv⟩
        ·refine Ai (Ah Aw rfl (qm rfl (AW rfl (qe rfl ?_))))
         exact sn [] h
     ·refine AR ?_
      exact sn [] h
    ·refine Ae hs (wp rfl (qe rfl ?_))
     refine AC (L := Ca N p0 p1) h (fun v24 => mk [(2, oD (.ptr 2 0)), (3, oD (.ptr 3 0)), (8, iD v24)] [(2, .box (Ag p0)), (3, .box (AI p1))]) (fun v25 => mk [] []) (fun _ _ => rfl) (sm [] _ _ rfl rfl) (fun j24 n24 v24 h => ?_) (fun v25 s h hs => ?_)
     ·unfold Ca at h
      refine wp rfl (qm rfl (qf Cg rfl (ql Hp rfl (AJ Dv rfl (AV rfl (Ab ?_))))))
      refine A8 h (fun h => ?_) fun h => ?_
      ·refine Ai (AL (AH (wq rfl (qf Cg rfl (ql Hp rfl (qm rfl ?_))))))
       refine BD h fun v27 a27 b27 h => qi Dv Dn a27 (Af b27) rfl (qK G7 Dn rfl (qz Jf rfl (qs Dn rfl (Ab (wq rfl (qf A5 rfl (ql A0 rfl (qf De rfl (ql BY rfl ?_)))))))))
       refine BD h fun v28 a28 b28 h => qi As Cp a28 (Af b28) rfl (qk BY rfl ?_)
       refine FL h fun c29 h => Jh rfl c29 (Ko rfl (qe rfl ?_))
       refine AS h (fun v30 => mk [(2, oD (.ptr 2 0)), (3, oD (.ptr 3 0)), (8, iD v24), (153, bD v30)] [(2, .box (Ag p0)), (3, .box (AI p1))]) (fun j30 h => ?_) (fun v30 h => ?_)
       ·refine Ah Aw rfl (qL G7 Dn rfl ?_)
        refine BG h fun v31 a31 h => Av [] (Cu N v27 v31 a31) Sj rfl (CA rfl (qm rfl ?_))
        refine Eu 119 h rfl (fun h => ?_) fun h => ?_
        ·refine qf C9 rfl (ql Ib rfl (qm rfl ?_))
         refine BD h fun v33 a33 b33 h => qi Ea EU a33 (Af b33) rfl (qk IX rfl (Bo rfl (qp rfl (qm rfl ?_))))
         refine Eu 127 h rfl (fun h => ?_) fun h => ?_
         ·refine qw 3 rfl (qu rfl (qu rfl (qu rfl (qu rfl (qu rfl (qu rfl (qu rfl (qu rfl (qu rfl (qu rfl (qu rfl (qu rfl (qu rfl (qu rfl (qu rfl (qu rfl (qu rfl (qu rfl (qu rfl (qu rfl (qu rfl (qn rfl (qp rfl (AM (by kernel_rfl) ?_))))))))))))))))))))))))
          exact sn [] h
         ·refine qL G7 Dn rfl ?_
          refine BG h fun v35 a35 h => Av [] (Cu N v27 v35 a35) Sj rfl (qm rfl ?_)
          refine Eu 130 h rfl (fun h => ?_) fun h => ?_
          ·refine qf C9 rfl (ql Ib rfl (qm rfl ?_))
           refine BD h fun v37 a37 b37 h => qi Ea EU a37 (Af b37) rfl (qk IX rfl (qm rfl (Ie rfl (Bo rfl (qm rfl ?_)))))
           refine Eu 139 h rfl (fun h => ?_) fun h => ?_
           ·refine qw 11 rfl (qp rfl (qp rfl (qp rfl (AM (by kernel_rfl) ?_))))
            exact sn [] h
           ·refine qL B2 A3 rfl (qf De rfl (ql BY rfl ?_))
            refine BG h fun v39 a39 h => Av [] (EG N p1 v27.fh v39 a39) WH rfl (qf C9 rfl (ql Ib rfl (qm rfl ?_)))
            refine BD h fun v40 a40 b40 h => qi Ea EU a40 (Af b40) rfl (qk IX rfl (Ie rfl (Bo rfl (qp rfl (qp rfl (qp rfl (AM (by kernel_rfl) ?_)))))))
            exact sn [] h
          ·refine qw 9 rfl (qu rfl (qu rfl (qu rfl (qu rfl (qu rfl (qu rfl (qu rfl (qu rfl (qu rfl (qu rfl (qu rfl (qn rfl (qp rfl (qp rfl (AM (by kernel_rfl) ?_)))))))))))))))
           exact sn [] h
        ·refine qw 6 rfl (qp rfl (qm rfl (qL G7 Dn rfl ?_)))
         refine BG h fun v41 a41 h => Av [] (Cu N v27 v41 a41) Sj rfl (qm rfl ?_)
         refine Eu 130 h rfl (fun h => ?_) fun h => ?_
         ·refine qf C9 rfl (ql Ib rfl (qm rfl ?_))
          refine BD h fun v43 a43 b43 h => qi Ea EU a43 (Af b43) rfl (qk IX rfl (qm rfl (Ie rfl (Bo rfl (qm rfl ?_)))))
          refine Eu 139 h rfl (fun h => ?_) fun h => ?_
          ·refine qw 11 rfl (qp rfl (qp rfl (qp rfl (AM (by kernel_rfl) ?_))))
           exact sn [] h
          ·refine qL B2 A3 rfl (qf De rfl (ql BY rfl ?_))
           refine BG h fun v45 a45 h => Av [] (EG N p1 v27.fh v45 a45) WH rfl (qf C9 rfl (ql Ib rfl (qm rfl ?_)))
           refine BD h fun v46 a46 b46 h => qi Ea EU a46 (Af b46) rfl (qk IX rfl (Ie rfl (Bo rfl (qp rfl (qp rfl (qp rfl (AM (by kernel_rfl) ?_)))))))
           exact sn [] h
         ·refine qw 9 rfl (qu rfl (qu rfl (qu rfl (qu rfl (qu rfl (qu rfl (qu rfl (qu rfl (qu rfl (qu rfl (qu rfl (qn rfl (qp rfl (qp rfl (AM (by kernel_rfl) ?_)))))))))))))))
          exact sn [] h
       ·refine A8 h (fun h => ?_) fun h => ?_
        ·refine wq rfl (qe rfl ?_)
         obtain rfl := sj h
         refine Ae (sm [] [(4, iD 1)] [] rfl rfl) (Ar ?_)
         exact ⟨⟨[_], tm, rfl⟩, tv⟩
        ·refine Ai (Ah Aw rfl (qm rfl (AW rfl (qe rfl ?_))))
         exact sn [] h
      ·refine AR ?_
       exact sn [] h
     ·refine Ae hs (wq rfl (qe rfl ?_))
      obtain rfl := sj h
      refine Ae (sm [] [(4, iD 0)] [] rfl rfl) (Ar ?_)
      exact ⟨⟨[_], tm, rfl⟩, tv⟩
theorem Mk (N : Nat) (p0 : Ad) (r : Bool) (h : Fe N p0 = some r) : Ao zA 133 [.e (.agg (Dw p0))] [] (bD r) := by
 unfold Fe at h
 refine cw (n := 31) (rs := [.tmp 2]) Tryz.func133 fun w0 S0 => ?_
 refine wq rfl (qb rfl (qe rfl ?_))
 refine AS h (fun v1 => mk [(2, bD v1)] []) (fun j1 h => ?_) (fun v1 h => ?_)
 ·refine Ah Aw rfl (qf GB rfl (ql BY rfl (EI rfl (qm rfl ?_))))
  refine Eu 6 h rfl (fun h => ?_) fun h => ?_
  ·refine qf GB rfl (ql BY rfl (Vj rfl (qp rfl (qm rfl ?_))))
   refine Eu 11 h rfl (fun h => ?_) fun h => ?_
   ·refine qf FE rfl (ql BY rfl (EI rfl (qp rfl (qm rfl ?_))))
    refine Eu 16 h rfl (fun h => ?_) fun h => ?_
    ·refine qf HQ rfl (ql BY rfl (EI rfl (qp rfl (qm rfl ?_))))
     refine Eu 21 h rfl (fun h => ?_) fun h => ?_
     ·refine qf GB rfl (ql BY rfl (B1 rfl (qm rfl ?_)))
      refine Eu 25 h rfl (fun h => ?_) fun h => ?_
      ·refine qw 3 rfl (qp rfl (qp rfl (qe rfl ?_)))
       exact sn [] h
      ·refine qf HQ rfl (ql BY rfl (B1 rfl (qp rfl (qp rfl (qe rfl ?_)))))
       exact sn [] h
     ·refine qw 4 rfl (qu rfl (qu rfl (qu rfl (qn rfl (qp rfl (qe rfl ?_))))))
      exact sn [] h
    ·refine qw 3 rfl (qp rfl (qw 5 rfl (qu rfl (qu rfl (qu rfl (qn rfl (qp rfl (qe rfl ?_))))))))
     exact sn [] h
   ·refine qw 3 rfl (qp rfl (qw 4 rfl (qp rfl (qw 5 rfl (qu rfl (qu rfl (qu rfl (qn rfl (qp rfl (qe rfl ?_))))))))))
    exact sn [] h
  ·refine qw 3 rfl (qp rfl (qw 4 rfl (qp rfl (qw 4 rfl (qp rfl (qw 5 rfl (qu rfl (qu rfl (qu rfl (qn rfl (qp rfl (qe rfl ?_))))))))))))
   exact sn [] h
 ·obtain rfl := sj h
  refine Ae (sm [] [(2, bD v1)] [] rfl rfl) (Ar ?_)
  exact ⟨⟨[_], tm, rfl⟩, tv⟩
theorem Ji (N : Nat) (p0 : Aa) (p1 : Ac) (p2 : Ad) (r : Ac × Bool) (h : CY N p0 p1 p2 = some r) : Ao zA 62 [.e (.agg (Ag p0)), .e (.agg (AI p1)), .e (.agg (Dw p2))] [(1, r.1.fe.map Aj), (1, r.1.fc.map Aj), (1, r.1.ff.map D7)] (.tup [.agg [.own 0, .own 1, .own 2], .one (.pure (.val (.bool r.2)))]) := by
 unfold CY at h
 refine cw (n := 201) (rs := [.cell 6 49, .tmp 7]) Tryz.func62 fun w0 S0 => ?_
 refine wq rfl (qb rfl (qb rfl (qb rfl (qz EO rfl (qa rfl (Ab (wq rfl (Dg As Cp IM rfl (qf C5 rfl (ql A0 rfl ?_))))))))))
 refine FL h fun c1 h => Jb (f := Aj) As As Cp JN IM (fun _ => rfl) c1 rfl (Dg As Cp IM rfl (qf BK rfl (ql A0 rfl ?_)))
 refine FL h fun c2 h => Jb (f := Aj) As As Cp JN IM (fun _ => rfl) c2 rfl (Dg Ea EU NR rfl (qf C9 rfl (ql Ib rfl ?_)))
 refine FL h fun c3 h => Jb (f := D7) Ea Ea EU O2 NR (fun _ => rfl) c3 rfl (Bk EO Jw rfl (qz EO rfl (qs A3 rfl (AM (by kernel_rfl) (wq rfl (qf FE rfl (ql BY rfl (qe rfl ?_))))))))
 refine AS h (fun v4 => mk [(6, oD (.ptr 6 0)), (8, oD (.ptr 8 0))] [(6, .box [.pure (.nil0), .pure (.nil0), .pure (.nil0)]), (8, .box [.own 2001, .own 2002, .own 2003]), (2001, .vec 1 (v4.1.map Aj)), (2002, .vec 1 (v4.2.1.map Aj)), (2003, .vec 1 (v4.2.2.map D7))]) (fun j4 h => ?_) (fun v4 h => ?_)
 ·refine wq rfl (qf GB rfl (ql BY rfl (Ab (AH (wq rfl (B1 rfl (qe rfl ?_)))))))
  refine A8 h (fun h => ?_) fun h => ?_
  ·refine AL ?_
   refine AS h (fun v6 => mk [(3, oD (.ptr 3 0)), (5, oD (.ptr 5 0)), (6, oD (.ptr 6 0)), (8, oD (.ptr 8 0)), (9, iD p2.fi), (60, bD v6)] [(3, .box (Ag p0)), (5, .box (Dw p2)), (6, .box [.pure (.nil0), .pure (.nil0), .pure (.nil0)]), (8, .box [.own 2004, .own 2005, .own 2006]), (2004, .vec 1 (((([] : List Int)) ++ p1.fe).map Aj)), (2005, .vec 1 (((([] : List Int)) ++ p1.fc).map Aj)), (2006, .vec 1 (((([] : List Int)) ++ p1.ff).map D7))]) (fun j6 h => ?_) (fun v6 h => ?_)
   ·refine Ah Aw rfl (qf BK rfl (ql A0 rfl (qm rfl ?_)))
    refine BD h fun v7 a7 b7 h => qi As Cp a7 (Af b7) rfl (qk BY rfl (EI rfl (qm rfl ?_)))
    refine Eu 51 h rfl (fun h => ?_) fun h => ?_
    ·refine qw 8 rfl (qp rfl (AM (by kernel_rfl) ?_))
     exact sn [(2004, 18), (2005, 22), (2006, 26)] h
    ·refine qf HQ rfl (ql BY rfl (qf C5 rfl (ql A0 rfl (qm rfl ?_))))
     refine BD h fun v9 a9 b9 h => qi As Cp a9 (Af b9) rfl (qk BY rfl (B1 rfl (qp rfl (AM (by kernel_rfl) ?_))))
     exact sn [(2004, 18), (2005, 22), (2006, 26)] h
   ·refine A8 h (fun h => ?_) fun h => ?_
    ·refine wq rfl (Bk EO Jw rfl (qs A3 rfl (qe rfl ?_)))
     obtain rfl := sj h
     refine Ae ((Aq 6 0 2007 1 _ rfl rfl rfl rfl).trans ((Aq 6 1 2008 1 _ rfl rfl rfl rfl).trans ((Aq 6 2 2009 1 _ rfl rfl rfl rfl).trans (sm [(1000, 2007), (1001, 2008), (1002, 2009)] [(6, oD (.ptr 6 0)), (7, bD false)] [(6, .box [.own 1000, .own 1001, .own 1002]), (1000, .vec 1 ((([] : List Int)).map Aj)), (1001, .vec 1 ((([] : List Int)).map Aj)), (1002, .vec 1 ((([] : List Int)).map D7))] rfl rfl)))) (Ar ?_)
     exact ⟨⟨[_, _], ⟨.cellN _ _ _ _ _ _ _ rfl rfl B2 A3 rfl rfl (Jx rfl), tm⟩, rfl⟩, ⟨rfl, rfl, rfl, tv⟩⟩
    ·refine Ai (wq rfl (qf BK rfl (ql A0 rfl (qm rfl (qf HQ rfl (ql BY rfl ?_))))))
     refine BD h fun v11 a11 b11 h => qI As Cp a11 (Af b11) rfl ?_
     refine DJ rfl rfl rfl rfl (Af b11) rfl Cp rfl (Jo rfl) (DB Aj ((([] : List Int)) ++ p1.fc) _ p2.fp) ?_
     refine Ab (wq rfl (qe rfl ?_))
     refine AC (L := B8 N p0 p2) h (fun v12 => mk [(3, oD (.ptr 3 0)), (5, oD (.ptr 5 0)), (6, oD (.ptr 6 0)), (8, oD (.ptr 8 0)), (9, iD p2.fi), (10, iD v12.2)] [(3, .box (Ag p0)), (5, .box (Dw p2)), (6, .box [.pure (.nil0), .pure (.nil0), .pure (.nil0)]), (8, .box [.own 2010, .own 2011, .own 2012]), (2010, .vec 1 (((([] : List Int)) ++ p1.fe).map Aj)), (2011, .vec 1 ((((([] : List Int)) ++ p1.fc).set ((p2.fi).toNat) p2.fp).map Aj)), (2012, .vec 1 (v12.1.map D7))]) (fun v13 => mk [(6, oD (.ptr 6 0)), (8, oD (.ptr 8 0))] [(6, .box [.pure (.nil0), .pure (.nil0), .pure (.nil0)]), (8, .box [.own 2013, .own 2014, .own 2015]), (2013, .vec 1 (((([] : List Int)) ++ p1.fe).map Aj)), (2014, .vec 1 ((((([] : List Int)) ++ p1.fc).set ((p2.fi).toNat) p2.fp).map Aj)), (2015, .vec 1 (v13.map D7))]) (fun _ _ => rfl) (sm [(2010, 2004), (2011, 2005), (2012, 2006)] _ _ rfl rfl) (fun j12 n12 v12 h => ?_) (fun v13 s h hs => ?_)
     ·unfold B8 at h
      refine wp rfl (qm rfl (qf Cg rfl (ql Hp rfl (AJ Dv rfl (AV rfl (Ab ?_))))))
      refine A8 h (fun h => ?_) fun h => ?_
      ·refine Ai ?_
       refine AS h (fun v15 => mk [(3, oD (.ptr 3 0)), (5, oD (.ptr 5 0)), (6, oD (.ptr 6 0)), (8, oD (.ptr 8 0)), (9, iD p2.fi), (10, iD v12.2)] [(3, .box (Ag p0)), (5, .box (Dw p2)), (6, .box [.pure (.nil0), .pure (.nil0), .pure (.nil0)]), (8, .box [.own 2016, .own 2017, .own 2018]), (2016, .vec 1 (((([] : List Int)) ++ p1.fe).map Aj)), (2017, .vec 1 ((((([] : List Int)) ++ p1.fc).set ((p2.fi).toNat) p2.fp).map Aj)), (2018, .vec 1 (v15.map D7))]) (fun j15 h => ?_) (fun v15 h => ?_)
       ·refine AH ?_
        refine AS h (fun v16 => mk [(3, oD (.ptr 3 0)), (5, oD (.ptr 5 0)), (6, oD (.ptr 6 0)), (8, oD (.ptr 8 0)), (9, iD p2.fi), (10, iD v12.2), (90, bD v16)] [(3, .box (Ag p0)), (5, .box (Dw p2)), (6, .box [.pure (.nil0), .pure (.nil0), .pure (.nil0)]), (8, .box [.own 2019, .own 2020, .own 2021]), (2019, .vec 1 (((([] : List Int)) ++ p1.fe).map Aj)), (2020, .vec 1 ((((([] : List Int)) ++ p1.fc).set ((p2.fi).toNat) p2.fp).map Aj)), (2021, .vec 1 (v12.1.map D7))]) (fun j16 h => ?_) (fun v16 h => ?_)
        ·refine Ah Aw rfl (qf Cg rfl (ql Hp rfl (qm rfl ?_)))
         refine BD h fun v17 a17 b17 h => qi Dv Dn a17 (Af b17) rfl (qg De rfl (qk BY rfl (qm rfl (B1 rfl (qm rfl ?_)))))
         refine Eu 83 h rfl (fun h => ?_) fun h => ?_
         ·refine qf Cg rfl (ql Hp rfl (qm rfl ?_))
          refine BD h fun v19 a19 b19 h => qi Dv Dn a19 (Af b19) rfl (qK G7 Dn rfl ?_)
          refine BG h fun v20 a20 h => Av [] (Cu N v19 v20 a20) Sj rfl (qp rfl (Ab ?_))
          exact sn [(2019, 2010), (2020, 2011), (2021, 2012)] h
         ·refine qw 6 rfl (qp rfl (Ab ?_))
          exact sn [(2019, 2010), (2020, 2011), (2021, 2012)] h
        ·refine A8 h (fun h => ?_) fun h => ?_
         ·refine Ah Aw rfl (qf C9 rfl (ql Ib rfl (qm rfl (qf C9 rfl (ql Ib rfl (qm rfl ?_))))))
          refine BD h fun v22 a22 b22 h => qI Ea EU a22 (Af b22) rfl (qj IX (Af b22) rfl (qf HQ rfl (ql BY rfl ?_)))
          refine FL h fun c23 h => Jh rfl c23 (VG rfl ?_)
          refine BD h fun v24 a24 b24 h => qI Ea EU a24 (Af b24) rfl ?_
          refine DJ rfl rfl rfl rfl (Af b24) rfl EU rfl (Jo rfl) (DB D7 v12.1 _ ((PI .u8 v22 ((D1 .u8 1 p2.fp))))) ?_
          refine AM (by kernel_rfl) ?_
          exact sn [(2016, 2019), (2017, 2020), (2018, 2021)] h
         ·refine Ai ?_
          exact sn [(2016, 2019), (2017, 2020), (2018, 2021)] h
       ·refine Ah Aw rfl (qm rfl (AW rfl (qe rfl ?_)))
        exact sn [(2010, 2016), (2011, 2017), (2012, 2018)] h
      ·refine AR ?_
       exact sn [(2013, 2010), (2014, 2011), (2015, 2012)] h
     ·exact ak _ h (hs.trans (sm [(2001, 2013), (2002, 2014), (2003, 2015)] _ _ rfl rfl))
  ·refine wq rfl (B1 rfl (qe rfl ?_))
   refine A8 h (fun h => ?_) fun h => ?_
   ·refine wp rfl (qf BK rfl (ql A0 rfl (qm rfl ?_)))
    refine BD h fun v26 a26 b26 h => qi As Cp a26 (Af b26) rfl (qk BY rfl (AV rfl (Ab ?_)))
    refine A8 h (fun h => ?_) fun h => ?_
    ·refine wq rfl (Bk EO Jw rfl (qs A3 rfl (qe rfl ?_)))
     obtain rfl := sj h
     refine Ae ((Aq 6 0 2022 1 _ rfl rfl rfl rfl).trans ((Aq 6 1 2023 1 _ rfl rfl rfl rfl).trans ((Aq 6 2 2024 1 _ rfl rfl rfl rfl).trans (sm [(1000, 2022), (1001, 2023), (1002, 2024)] [(6, oD (.ptr 6 0)), (7, bD false)] [(6, .box [.own 1000, .own 1001, .own 1002]), (1000, .vec 1 ((([] : List Int)).map Aj)), (1001, .vec 1 ((([] : List Int)).map Aj)), (1002, .vec 1 ((([] : List Int)).map D7))] rfl rfl)))) (Ar ?_)
     exact ⟨⟨[_, _], ⟨.cellN _ _ _ _ _ _ _ rfl rfl B2 A3 rfl rfl (Jx rfl), tm⟩, rfl⟩, ⟨rfl, rfl, rfl, tv⟩⟩
    ·refine Ai (Ah Aw rfl (qf C5 rfl (ql A0 rfl (qm rfl (qf BK rfl (ql A0 rfl (qm rfl (qf BK rfl (ql A0 rfl (qm rfl ?_))))))))))
     refine BD h fun v28 a28 b28 h => qi As Cp a28 (Af b28) rfl (qk BY rfl ?_)
     refine BD h fun v29 a29 b29 h => qI As Cp a29 (Af b29) rfl ?_
     refine DJ rfl rfl rfl rfl (Af b29) rfl Cp rfl (Jo rfl) (DB Aj ((([] : List Int)) ++ p1.fe) _ v28) ?_
     refine BD h fun v30 a30 b30 h => qI As Cp a30 (Af b30) rfl ?_
     refine DJ rfl rfl rfl rfl (Af b30) rfl Cp rfl (Jo rfl) (DB Aj ((([] : List Int)) ++ p1.fc) _ ((-1))) ?_
     refine AM (by kernel_rfl) ?_
     exact sn [(2001, 18), (2002, 22), (2003, 26)] h
   ·refine wq rfl (B1 rfl (qe rfl ?_))
    refine A8 h (fun h => ?_) fun h => ?_
    ·refine wq rfl (qf Cg rfl (ql Hp rfl (qm rfl ?_)))
     refine BD h fun v32 a32 b32 h => qi Dv Dn a32 (Af b32) rfl (qK G7 Dn rfl (qz Jf rfl (qs Dn rfl (Ab (wp rfl (qL G7 Dn rfl ?_))))))
     refine BG h fun v33 a33 h => Av [] (Cu N v32 v33 a33) Sj rfl (CA rfl (Ab ?_))
     refine A8 h (fun h => ?_) fun h => ?_
     ·refine wq rfl (Bk EO Jw rfl (qs A3 rfl (qe rfl ?_)))
      obtain rfl := sj h
      refine Ae ((Aq 6 0 2025 1 _ rfl rfl rfl rfl).trans ((Aq 6 1 2026 1 _ rfl rfl rfl rfl).trans ((Aq 6 2 2027 1 _ rfl rfl rfl rfl).trans (sm [(1000, 2025), (1001, 2026), (1002, 2027)] [(6, oD (.ptr 6 0)), (7, bD false)] [(6, .box [.own 1000, .own 1001, .own 1002]), (1000, .vec 1 ((([] : List Int)).map Aj)), (1001, .vec 1 ((([] : List Int)).map Aj)), (1002, .vec 1 ((([] : List Int)).map D7))] rfl rfl)))) (Ar ?_)
      exact ⟨⟨[_, _], ⟨.cellN _ _ _ _ _ _ _ rfl rfl B2 A3 rfl rfl (Jx rfl), tm⟩, rfl⟩, ⟨rfl, rfl, rfl, tv⟩⟩
     ·refine Ai (wq rfl (qL B2 A3 rfl (qf De rfl (ql BY rfl ?_))))
      refine BG h fun v35 a35 h => Av [] (EG N p1 v32.fh v35 a35) WH rfl (qa rfl (Ab (wp rfl (qf C9 rfl (ql Ib rfl (qm rfl ?_))))))
      refine BD h fun v36 a36 b36 h => qi Ea EU a36 (Af b36) rfl (qk IX rfl (qm rfl (B1 rfl (Ab ?_))))
      refine A8 h (fun h => ?_) fun h => ?_
      ·refine wq rfl (Bk EO Jw rfl (qs A3 rfl (qe rfl ?_)))
       obtain rfl := sj h
       refine Ae ((Aq 6 0 2028 1 _ rfl rfl rfl rfl).trans ((Aq 6 1 2029 1 _ rfl rfl rfl rfl).trans ((Aq 6 2 2030 1 _ rfl rfl rfl rfl).trans (sm [(1000, 2028), (1001, 2029), (1002, 2030)] [(6, oD (.ptr 6 0)), (7, bD false)] [(6, .box [.own 1000, .own 1001, .own 1002]), (1000, .vec 1 ((([] : List Int)).map Aj)), (1001, .vec 1 ((([] : List Int)).map Aj)), (1002, .vec 1 ((([] : List Int)).map D7))] rfl rfl)))) (Ar ?_)
       exact ⟨⟨[_, _], ⟨.cellN _ _ _ _ _ _ _ rfl rfl B2 A3 rfl rfl (Jx rfl), tm⟩, rfl⟩, ⟨rfl, rfl, rfl, tv⟩⟩
      ·refine Ai (wp rfl (qe rfl ?_))
       refine AC (L := BL N p0 p1 p2 v32 v35) h (fun v38 => mk [(3, oD (.ptr 3 0)), (4, oD (.ptr 4 0)), (6, oD (.ptr 6 0)), (8, oD (.ptr 8 0)), (9, iD p2.fi), (11, oD (.ptr 11 0)), (12, pD (.val (.int .u8 v35))), (13, iD v38)] [(3, .box (Ag p0)), (4, .box (AI p1)), (6, .box [.pure (.nil0), .pure (.nil0), .pure (.nil0)]), (8, .box [.own 2031, .own 2032, .own 2033]), (11, .box (Bc v32)), (2031, .vec 1 (((([] : List Int)) ++ p1.fe).map Aj)), (2032, .vec 1 (((([] : List Int)) ++ p1.fc).map Aj)), (2033, .vec 1 (((([] : List Int)) ++ p1.ff).map D7))]) (fun v39 => mk [(6, oD (.ptr 6 0)), (8, oD (.ptr 8 0)), (9, iD p2.fi), (12, pD (.val (.int .u8 v35)))] [(6, .box [.pure (.nil0), .pure (.nil0), .pure (.nil0)]), (8, .box [.own 2034, .own 2035, .own 2036]), (2034, .vec 1 (((([] : List Int)) ++ p1.fe).map Aj)), (2035, .vec 1 (((([] : List Int)) ++ p1.fc).map Aj)), (2036, .vec 1 (((([] : List Int)) ++ p1.ff).map D7))]) (fun _ _ => rfl) (sm [(2031, 18), (2032, 22), (2033, 26)] _ _ rfl rfl) (fun j38 n38 v38 h => ?_) (fun v39 s h hs => ?_)
       ·unfold BL at h
        refine wp rfl (qm rfl (qf A5 rfl (ql A0 rfl (qf De rfl (ql BY rfl ?_)))))
        refine BD h fun v40 a40 b40 h => qi As Cp a40 (Af b40) rfl (qk BY rfl (AV rfl (Ab ?_)))
        refine A8 h (fun h => ?_) fun h => ?_
        ·refine Ai (AL (AH ?_))
         refine AS h (fun v42 => mk [(3, oD (.ptr 3 0)), (4, oD (.ptr 4 0)), (6, oD (.ptr 6 0)), (8, oD (.ptr 8 0)), (9, iD p2.fi), (11, oD (.ptr 11 0)), (12, pD (.val (.int .u8 v35))), (13, iD v38), (14, bD v42)] [(3, .box (Ag p0)), (4, .box (AI p1)), (6, .box [.pure (.nil0), .pure (.nil0), .pure (.nil0)]), (8, .box [.own 2037, .own 2038, .own 2039]), (11, .box (Bc v32)), (2037, .vec 1 (((([] : List Int)) ++ p1.fe).map Aj)), (2038, .vec 1 (((([] : List Int)) ++ p1.fc).map Aj)), (2039, .vec 1 (((([] : List Int)) ++ p1.ff).map D7))]) (fun j42 h => ?_) (fun v42 h => ?_)
         ·refine Ah Aw rfl (qf C9 rfl (ql Ib rfl (qm rfl ?_)))
          refine BD h fun v43 a43 b43 h => qi Ea EU a43 (Af b43) rfl (qk IX rfl (qm rfl ?_))
          refine BG h fun v44 a44 h => Av [] (G1 N v43 v38 v44 a44) Yj rfl (qm rfl ?_)
          refine Eu 166 h rfl (fun h => ?_) fun h => ?_
          ·refine qw 2 rfl ?_
           refine BG h fun v46 a46 h => Av [] (G1 N v35 v38 v46 a46) Yj rfl (CA rfl (qp rfl (qe rfl ?_)))
           exact sn [(2037, 2031), (2038, 2032), (2039, 2033)] h
          ·refine qw 4 rfl (qp rfl (qe rfl ?_))
           exact sn [(2037, 2031), (2038, 2032), (2039, 2033)] h
         ·refine AS h (fun v47 => mk [(3, oD (.ptr 3 0)), (4, oD (.ptr 4 0)), (6, oD (.ptr 6 0)), (8, oD (.ptr 8 0)), (9, iD p2.fi), (11, oD (.ptr 11 0)), (12, pD (.val (.int .u8 v35))), (13, iD v38), (193, bD v47)] [(3, .box (Ag p0)), (4, .box (AI p1)), (6, .box [.pure (.nil0), .pure (.nil0), .pure (.nil0)]), (8, .box [.own 2040, .own 2041, .own 2042]), (11, .box (Bc v32)), (2040, .vec 1 (((([] : List Int)) ++ p1.fe).map Aj)), (2041, .vec 1 (((([] : List Int)) ++ p1.fc).map Aj)), (2042, .vec 1 (((([] : List Int)) ++ p1.ff).map D7))]) (fun j47 h => ?_) (fun v47 h => ?_)
          ·refine Ah Aw rfl (qw 2 rfl ?_)
           refine Eu 173 h rfl (fun h => ?_) fun h => ?_
           ·refine qf Gz rfl (ql BY rfl (B1 rfl (qp rfl (qm rfl ?_))))
            refine Eu 178 h rfl (fun h => ?_) fun h => ?_
            ·refine qf FG rfl (ql ID rfl (qm rfl ?_))
             refine BD h fun v50 a50 b50 h => qi EL JM a50 (Af b50) rfl (qk OJ rfl (qf C5 rfl (ql A0 rfl (qf De rfl (ql BY rfl ?_)))))
             refine BD h fun v51 a51 b51 h => qi As Cp a51 (Af b51) rfl (qk BY rfl ?_)
             refine BD h fun v52 a52 b52 h => qi ES Oq a52 (Af b52) rfl (qk Sm rfl (CA rfl (qp rfl (AM (by kernel_rfl) ?_))))
             exact sn [(2040, 2037), (2041, 2038), (2042, 2039)] h
            ·refine qw 14 rfl (qp rfl (AM (by kernel_rfl) ?_))
             exact sn [(2040, 2037), (2041, 2038), (2042, 2039)] h
           ·refine qw 3 rfl (qp rfl (qw 15 rfl (qp rfl (AM (by kernel_rfl) ?_))))
            exact sn [(2040, 2037), (2041, 2038), (2042, 2039)] h
          ·refine A8 h (fun h => ?_) fun h => ?_
           ·refine wq rfl (Bk EO Jw rfl (qs A3 rfl (qe rfl ?_)))
            obtain rfl := sj h
            refine Ae ((Aq 6 0 2043 1 _ rfl rfl rfl rfl).trans ((Aq 6 1 2044 1 _ rfl rfl rfl rfl).trans ((Aq 6 2 2045 1 _ rfl rfl rfl rfl).trans (sm [(1000, 2043), (1001, 2044), (1002, 2045)] [(6, oD (.ptr 6 0)), (7, bD false)] [(6, .box [.own 1000, .own 1001, .own 1002]), (1000, .vec 1 ((([] : List Int)).map Aj)), (1001, .vec 1 ((([] : List Int)).map Aj)), (1002, .vec 1 ((([] : List Int)).map D7))] rfl rfl)))) (Ar ?_)
            exact ⟨⟨[_, _], ⟨.cellN _ _ _ _ _ _ _ rfl rfl B2 A3 rfl rfl (Jx rfl), tm⟩, rfl⟩, ⟨rfl, rfl, rfl, tv⟩⟩
           ·refine Ai (Ah Aw rfl (qm rfl (AW rfl (qe rfl ?_))))
            exact sn [(2031, 2040), (2032, 2041), (2033, 2042)] h
        ·refine AR ?_
         exact sn [(2034, 2031), (2035, 2032), (2036, 2033)] h
       ·refine Ae hs (Ah Aw rfl (qf C9 rfl (ql Ib rfl (qw 2 rfl ?_))))
        refine BD h fun v54 a54 b54 h => qI Ea EU a54 (Af b54) rfl ?_
        refine DJ rfl rfl rfl rfl (Af b54) rfl EU rfl (Jo rfl) (DB D7 ((([] : List Int)) ++ p1.ff) _ v35) ?_
        refine Ab ?_
        exact sn [(2001, 2034), (2002, 2035), (2003, 2036)] h
    ·refine wp rfl (qf BK rfl (ql A0 rfl (qm rfl ?_)))
     refine BD h fun v55 a55 b55 h => qi As Cp a55 (Af b55) rfl (qk BY rfl (AV rfl (Ab ?_)))
     refine A8 h (fun h => ?_) fun h => ?_
     ·refine wq rfl (Bk EO Jw rfl (qs A3 rfl (qe rfl ?_)))
      obtain rfl := sj h
      refine Ae ((Aq 6 0 2046 1 _ rfl rfl rfl rfl).trans ((Aq 6 1 2047 1 _ rfl rfl rfl rfl).trans ((Aq 6 2 2048 1 _ rfl rfl rfl rfl).trans (sm [(1000, 2046), (1001, 2047), (1002, 2048)] [(6, oD (.ptr 6 0)), (7, bD false)] [(6, .box [.own 1000, .own 1001, .own 1002]), (1000, .vec 1 ((([] : List Int)).map Aj)), (1001, .vec 1 ((([] : List Int)).map Aj)), (1002, .vec 1 ((([] : List Int)).map D7))] rfl rfl)))) (Ar ?_)
      exact ⟨⟨[_, _], ⟨.cellN _ _ _ _ _ _ _ rfl rfl B2 A3 rfl rfl (Jx rfl), tm⟩, rfl⟩, ⟨rfl, rfl, rfl, tv⟩⟩
     ·refine Ai (Ah Aw rfl (qf BK rfl (ql A0 rfl (qm rfl ?_))))
      refine BD h fun v57 a57 b57 h => qI As Cp a57 (Af b57) rfl ?_
      refine DJ rfl rfl rfl rfl (Af b57) rfl Cp rfl (Jo rfl) (DB Aj ((([] : List Int)) ++ p1.fc) _ ((-1))) ?_
      refine Ab ?_
      exact sn [(2001, 18), (2002, 22), (2003, 26)] h
 ·refine wq rfl (qL B2 A3 rfl (qs A3 rfl (qe rfl ?_)))
  obtain rfl := sj h
  refine Ae (sm [(1000, 2001), (1001, 2002), (1002, 2003)] [(6, oD (.ptr 6 0)), (7, bD true)] [(6, .box [.own 1000, .own 1001, .own 1002]), (1000, .vec 1 (v4.1.map Aj)), (1001, .vec 1 (v4.2.1.map Aj)), (1002, .vec 1 (v4.2.2.map D7))] rfl rfl) (Ar ?_)
  exact ⟨⟨[_, _], ⟨.cellN _ _ _ _ _ _ _ rfl rfl B2 A3 rfl rfl (Jx rfl), tm⟩, rfl⟩, ⟨rfl, rfl, rfl, tv⟩⟩
theorem Mx (N : Nat) (p0 : Aa) (p1 : Ac) (p2 : Ad) (r : Ac × Int) (h : E9 N p0 p1 p2 = some r) : Ao zA 95 [.e (.agg (Ag p0)), .e (.agg (AI p1)), .e (.agg (Dw p2))] [(1, r.1.fe.map Aj), (1, r.1.fc.map Aj), (1, r.1.ff.map D7)] (.tup [.agg [.own 0, .own 1, .own 2], .one (iC r.2)]) := by
 unfold E9 at h
 refine cw (n := 73) (rs := [.cell 6 49, .tmp 7]) Tryz.func95 fun w0 S0 => ?_
 refine wq rfl (qb rfl (qb rfl (qb rfl (qz EO rfl (qa rfl (Ab (wp rfl (qL Co BN rfl (qL B2 A3 rfl ?_)))))))))
 refine BG h fun v1 a1 h => Av [] (Hw N p0 p1 v1 a1) aF rfl (qa rfl (Ab (wq rfl (qm rfl (Bo rfl (Ab ?_))))))
 refine A8 h (fun h => ?_) fun h => ?_
 ·refine wq rfl (Bk EO Jw rfl (qm rfl (qs A3 rfl (qe rfl ?_))))
  obtain rfl := sj h
  refine Ae ((Aq 6 0 2001 1 _ rfl rfl rfl rfl).trans ((Aq 6 1 2002 1 _ rfl rfl rfl rfl).trans ((Aq 6 2 2003 1 _ rfl rfl rfl rfl).trans (sm [(1000, 2001), (1001, 2002), (1002, 2003)] [(6, oD (.ptr 6 0)), (7, iD v1)] [(6, .box [.own 1000, .own 1001, .own 1002]), (1000, .vec 1 ((([] : List Int)).map Aj)), (1001, .vec 1 ((([] : List Int)).map Aj)), (1002, .vec 1 ((([] : List Int)).map D7))] rfl rfl)))) (Ar ?_)
  exact ⟨⟨[_, _], ⟨.cellN _ _ _ _ _ _ _ rfl rfl B2 A3 rfl rfl (Jx rfl), tm⟩, rfl⟩, ⟨rfl, rfl, rfl, tv⟩⟩
 ·refine Ai (wp rfl (qL JY E7 rfl ?_))
  refine BG h fun v3 a3 h => Av [] (Mk N p2 v3 a3) ct rfl (CA rfl (Ab ?_))
  refine A8 h (fun h => ?_) fun h => ?_
  ·refine wq rfl (Bk EO Jw rfl (qs A3 rfl (qe rfl ?_)))
   obtain rfl := sj h
   refine Ae ((Aq 6 0 2004 1 _ rfl rfl rfl rfl).trans ((Aq 6 1 2005 1 _ rfl rfl rfl rfl).trans ((Aq 6 2 2006 1 _ rfl rfl rfl rfl).trans (sm [(1000, 2004), (1001, 2005), (1002, 2006)] [(6, oD (.ptr 6 0)), (7, iD 1)] [(6, .box [.own 1000, .own 1001, .own 1002]), (1000, .vec 1 ((([] : List Int)).map Aj)), (1001, .vec 1 ((([] : List Int)).map Aj)), (1002, .vec 1 ((([] : List Int)).map D7))] rfl rfl)))) (Ar ?_)
   exact ⟨⟨[_, _], ⟨.cellN _ _ _ _ _ _ _ rfl rfl B2 A3 rfl rfl (Jx rfl), tm⟩, rfl⟩, ⟨rfl, rfl, rfl, tv⟩⟩
  ·refine Ai (AL ?_)
   refine AS h (fun v5 => mk [(3, oD (.ptr 3 0)), (4, oD (.ptr 4 0)), (5, oD (.ptr 5 0)), (6, oD (.ptr 6 0)), (45, bD v5)] [(3, .box (Ag p0)), (4, .box (AI p1)), (5, .box (Dw p2)), (6, .box [.pure (.nil0), .pure (.nil0), .pure (.nil0)])]) (fun j5 h => ?_) (fun v5 h => ?_)
   ·refine Ah Aw rfl (qf GB rfl (ql BY rfl (B1 rfl (qm rfl ?_))))
    refine Eu 25 h rfl (fun h => ?_) fun h => ?_
    ·refine qf FE rfl (ql BY rfl (qf Cg rfl (ql Hp rfl (AJ Dv rfl (EI rfl (qp rfl (qm rfl ?_)))))))
     refine Eu 33 h rfl (fun h => ?_) fun h => ?_
     ·refine qw 4 rfl (qu rfl (qu rfl (qu rfl (qu rfl (qu rfl (qu rfl (qn rfl (qp rfl (Ab ?_)))))))))
      exact sn [] h
     ·refine qf GB rfl (ql BY rfl (Bo rfl (qm rfl ?_)))
      refine Eu 37 h rfl (fun h => ?_) fun h => ?_
      ·refine qf FE rfl (ql BY rfl (qf A5 rfl (ql A0 rfl (AJ As rfl (EI rfl (qp rfl (qp rfl (Ab ?_))))))))
       exact sn [] h
      ·refine qw 6 rfl (qp rfl (qp rfl (Ab ?_)))
       exact sn [] h
    ·refine qw 6 rfl (qp rfl (qm rfl (qf GB rfl (ql BY rfl (Bo rfl (qm rfl ?_))))))
     refine Eu 37 h rfl (fun h => ?_) fun h => ?_
     ·refine qf FE rfl (ql BY rfl (qf A5 rfl (ql A0 rfl (AJ As rfl (EI rfl (qp rfl (qp rfl (Ab ?_))))))))
      exact sn [] h
     ·refine qw 6 rfl (qp rfl (qp rfl (Ab ?_)))
      exact sn [] h
   ·refine A8 h (fun h => ?_) fun h => ?_
    ·refine wq rfl (Bk EO Jw rfl (qs A3 rfl (qe rfl ?_)))
     obtain rfl := sj h
     refine Ae ((Aq 6 0 2007 1 _ rfl rfl rfl rfl).trans ((Aq 6 1 2008 1 _ rfl rfl rfl rfl).trans ((Aq 6 2 2009 1 _ rfl rfl rfl rfl).trans (sm [(1000, 2007), (1001, 2008), (1002, 2009)] [(6, oD (.ptr 6 0)), (7, iD 4)] [(6, .box [.own 1000, .own 1001, .own 1002]), (1000, .vec 1 ((([] : List Int)).map Aj)), (1001, .vec 1 ((([] : List Int)).map Aj)), (1002, .vec 1 ((([] : List Int)).map D7))] rfl rfl)))) (Ar ?_)
     exact ⟨⟨[_, _], ⟨.cellN _ _ _ _ _ _ _ rfl rfl B2 A3 rfl rfl (Jx rfl), tm⟩, rfl⟩, ⟨rfl, rfl, rfl, tv⟩⟩
    ·refine Ai (AL ?_)
     refine AS h (fun v11 => mk [(3, oD (.ptr 3 0)), (4, oD (.ptr 4 0)), (5, oD (.ptr 5 0)), (6, oD (.ptr 6 0)), (60, bD v11)] [(3, .box (Ag p0)), (4, .box (AI p1)), (5, .box (Dw p2)), (6, .box [.pure (.nil0), .pure (.nil0), .pure (.nil0)])]) (fun j11 h => ?_) (fun v11 h => ?_)
     ·refine Ah Aw rfl (qf GB rfl (ql BY rfl (B1 rfl (qm rfl ?_))))
      refine Eu 50 h rfl (fun h => ?_) fun h => ?_
      ·refine qf HQ rfl (ql BY rfl (qf A5 rfl (ql A0 rfl (qf FE rfl (ql BY rfl ?_)))))
       refine BD h fun v13 a13 b13 h => qi As Cp a13 (Af b13) rfl (qk BY rfl (EI rfl (qp rfl (AM (by kernel_rfl) ?_))))
       exact sn [] h
      ·refine qw 9 rfl (qp rfl (AM (by kernel_rfl) ?_))
       exact sn [] h
     ·refine A8 h (fun h => ?_) fun h => ?_
      ·refine wq rfl (Bk EO Jw rfl (qs A3 rfl (qe rfl ?_)))
       obtain rfl := sj h
       refine Ae ((Aq 6 0 2010 1 _ rfl rfl rfl rfl).trans ((Aq 6 1 2011 1 _ rfl rfl rfl rfl).trans ((Aq 6 2 2012 1 _ rfl rfl rfl rfl).trans (sm [(1000, 2010), (1001, 2011), (1002, 2012)] [(6, oD (.ptr 6 0)), (7, iD 4)] [(6, .box [.own 1000, .own 1001, .own 1002]), (1000, .vec 1 ((([] : List Int)).map Aj)), (1001, .vec 1 ((([] : List Int)).map Aj)), (1002, .vec 1 ((([] : List Int)).map D7))] rfl rfl)))) (Ar ?_)
       exact ⟨⟨[_, _], ⟨.cellN _ _ _ _ _ _ _ rfl rfl B2 A3 rfl rfl (Jx rfl), tm⟩, rfl⟩, ⟨rfl, rfl, rfl, tv⟩⟩
      ·refine Ai (wq rfl (qL Co BN rfl (qL B2 A3 rfl (qL JY E7 rfl ?_))))
       refine BG h fun v15 a15 h => Av [2013, 2014, 2015] (Ji N p0 p1 p2 v15 a15) bQ rfl (qm rfl (qx rfl (qx rfl (qz EO rfl (qs A3 rfl (qa rfl (Ab (wp rfl (qm rfl (CA rfl (Ab ?_)))))))))))
       refine A8 h (fun h => ?_) fun h => ?_
       ·refine wq rfl (Bk EO Jw rfl (qs A3 rfl (qe rfl ?_)))
        obtain rfl := sj h
        refine Ae ((Aq 6 0 2016 1 _ rfl rfl rfl rfl).trans ((Aq 6 1 2017 1 _ rfl rfl rfl rfl).trans ((Aq 6 2 2018 1 _ rfl rfl rfl rfl).trans (sm [(1000, 2016), (1001, 2017), (1002, 2018)] [(6, oD (.ptr 6 0)), (7, iD 11)] [(6, .box [.own 1000, .own 1001, .own 1002]), (1000, .vec 1 ((([] : List Int)).map Aj)), (1001, .vec 1 ((([] : List Int)).map Aj)), (1002, .vec 1 ((([] : List Int)).map D7))] rfl rfl)))) (Ar ?_)
        exact ⟨⟨[_, _], ⟨.cellN _ _ _ _ _ _ _ rfl rfl B2 A3 rfl rfl (Jx rfl), tm⟩, rfl⟩, ⟨rfl, rfl, rfl, tv⟩⟩
       ·refine Ai (wq rfl (qL B2 A3 rfl (qs A3 rfl (qe rfl ?_))))
        obtain rfl := sj h
        refine Ae (sm [(1000, 2013), (1001, 2014), (1002, 2015)] [(6, oD (.ptr 6 0)), (7, iD 0)] [(6, .box [.own 1000, .own 1001, .own 1002]), (1000, .vec 1 (v15.1.fe.map Aj)), (1001, .vec 1 (v15.1.fc.map Aj)), (1002, .vec 1 (v15.1.ff.map D7))] rfl rfl) (Ar ?_)
        exact ⟨⟨[_, _], ⟨.cellN _ _ _ _ _ _ _ rfl rfl B2 A3 rfl rfl (Jx rfl), tm⟩, rfl⟩, ⟨rfl, rfl, rfl, tv⟩⟩
theorem Mt (N : Nat) (p0 : Aa) (p1 : Ac) (r : (List Ad)) (h : E1 N p0 p1 = some r) : Ao zA 61 [.e (.agg (Ag p0)), .e (.agg (AI p1))] [(3, r.map AA)] (oD (.own 0)) := by
 unfold E1 at h
 refine cw (n := 49) (rs := [.tmp 4]) Tryz.func61 fun w0 S0 => ?_
 refine wq rfl (qb rfl (qb rfl (qa rfl (Ab (wq rfl (qa rfl (Ab (wp rfl (qe rfl ?_)))))))))
 refine AC (L := BA N p0 p1) h (fun v1 => mk [(2, oD (.ptr 2 0)), (3, oD (.ptr 3 0)), (5, oD (.own 2001)), (6, iD v1.2)] [(2, .box (Ag p0)), (3, .box (AI p1)), (2001, .vec 3 (v1.1.map AA))]) (fun v2 => mk [(5, oD (.own 2002))] [(2002, .vec 3 (v2.map AA))]) (fun _ _ => rfl) ((AT 5 2011 3 rfl rfl rfl).trans (sm [(2001, 2011)] _ _ rfl rfl)) (fun j1 n1 v1 h => ?_) (fun v2 s h hs => ?_)
 ·unfold BA at h
  refine wp rfl (qm rfl (Vj rfl (Ab ?_)))
  refine A8 h (fun h => ?_) fun h => ?_
  ·refine Ai (AL (AH (wq rfl (qe rfl ?_))))
   refine AC (L := Ci N p0 p1 v1) h (fun v4 => mk [(2, oD (.ptr 2 0)), (3, oD (.ptr 3 0)), (5, oD (.own 2003)), (6, iD v1.2), (7, iD v4.2)] [(2, .box (Ag p0)), (3, .box (AI p1)), (2003, .vec 3 (v4.1.map AA))]) (fun v5 => mk [(2, oD (.ptr 2 0)), (3, oD (.ptr 3 0)), (5, oD (.own 2004)), (6, iD v1.2)] [(2, .box (Ag p0)), (3, .box (AI p1)), (2004, .vec 3 (v5.map AA))]) (fun _ _ => rfl) (sm [(2003, 2001)] _ _ rfl rfl) (fun j4 n4 v4 h => ?_) (fun v5 s h hs => ?_)
   ·unfold Ci at h
    refine wp rfl (qm rfl (qf A5 rfl (ql A0 rfl (AJ As rfl (qf Cg rfl (ql Hp rfl (AJ Dv rfl ?_)))))))
    refine dz (.p rfl) rfl rfl ?_
    refine AV rfl (Ab ?_)
    refine A8 h (fun h => ?_) fun h => ?_
    ·refine Ai (AL (AH (wq rfl (qe rfl ?_))))
     refine AC (L := Ck N p0 p1 v1 v4) h (fun v7 => mk [(2, oD (.ptr 2 0)), (3, oD (.ptr 3 0)), (5, oD (.own 2005)), (6, iD v1.2), (7, iD v4.2), (8, iD v7.2)] [(2, .box (Ag p0)), (3, .box (AI p1)), (2005, .vec 3 (v7.1.map AA))]) (fun v8 => mk [(2, oD (.ptr 2 0)), (3, oD (.ptr 3 0)), (5, oD (.own 2006)), (6, iD v1.2), (7, iD v4.2)] [(2, .box (Ag p0)), (3, .box (AI p1)), (2006, .vec 3 (v8.map AA))]) (fun _ _ => rfl) (sm [(2005, 2003)] _ _ rfl rfl) (fun j7 n7 v7 h => ?_) (fun v8 s h hs => ?_)
     ·unfold Ck at h
      refine wp rfl (qm rfl (AV rfl (Ab ?_)))
      refine A8 h (fun h => ?_) fun h => ?_
      ·refine Ai ?_
       refine AS h (fun v10 => mk [(2, oD (.ptr 2 0)), (3, oD (.ptr 3 0)), (5, oD (.own 2007)), (6, iD v1.2), (7, iD v4.2), (8, iD v7.2)] [(2, .box (Ag p0)), (3, .box (AI p1)), (2007, .vec 3 (v10.map AA))]) (fun j10 h => ?_) (fun v10 h => ?_)
       ·refine AH (wq rfl (qw 3 rfl (Bk KD YJ rfl (qz KD rfl (qs E7 rfl (Ab (wq rfl (qL Co BN rfl (qL B2 A3 rfl (qL JY E7 rfl ?_))))))))))
        refine BG h fun v11 a11 h => Av [2008, 2009, 2010] (Mx N p0 p1 ((Ad.mk v1.2 v4.2 v7.2)) v11 a11) dI rfl (qm rfl (qx rfl (qx rfl (qz EO rfl (qs A3 rfl (qa rfl (Ab (wq rfl (qm rfl (B1 rfl (Ab ?_)))))))))))
        refine A8 h (fun h => ?_) fun h => ?_
        ·refine Ah Aw rfl (qm rfl (qL JY E7 rfl (Dg ET E7 KD rfl ?_)))
         refine FL h fun c13 h => Ce (f := AA) ET ET E7 QG KD c13 rfl (qe rfl ?_)
         exact sn [(2007, 47)] h
        ·refine Ai ?_
         exact sn [(2007, 2005)] h
       ·refine Ah Aw rfl (qm rfl (AW rfl (qe rfl ?_)))
        exact sn [(2005, 2007)] h
      ·refine AR ?_
       exact sn [(2006, 2005)] h
     ·refine Ae hs (Ah Aw rfl (qm rfl (AW rfl (qe rfl ?_))))
      exact sn [(2003, 2006)] h
    ·refine AR ?_
     exact sn [(2004, 2003)] h
   ·refine Ae hs (Ah Aw rfl (qm rfl (AW rfl (qe rfl ?_))))
    exact sn [(2001, 2004)] h
  ·refine AR ?_
   exact sn [(2002, 2001)] h
 ·refine Ae hs (wq rfl (qm rfl (qe rfl ?_)))
  obtain rfl := sj h
  refine Ae (sm [(1000, 2002)] [(4, oD (.own 1000))] [(1000, .vec 3 (v2.map AA))] rfl rfl) (Ar ?_)
  exact ⟨⟨[_], tm, rfl⟩, ⟨rfl, tv⟩⟩
theorem HS (N : Nat) (p0 : List Int) (p1 : List Int) (r : Int) (h : DN N p0 p1 = some r) : Ao zA 129 [pD (.sl (p0.map Aj)), pD (.sl (p1.map Aj))] [] (iD r) := by
 unfold DN at h
 refine cw (n := 46) (rs := [.tmp 4]) Tryz.func129 fun w0 S0 => ?_
 refine wq rfl (qa rfl (Ab (wp rfl (qe rfl ?_))))
 refine AC (L := DG N p0 p1) h (fun v1 => mk [(0, pD (.sl (p0.map Aj))), (1, pD (.sl (p1.map Aj))), (5, iD v1)] []) (fun v2 => mk [(0, pD (.sl (p0.map Aj))), (1, pD (.sl (p1.map Aj)))] []) (fun _ _ => rfl) (sm [] _ _ rfl rfl) (fun j1 n1 v1 h => ?_) (fun v2 s h hs => ?_)
 ·unfold DG at h
  refine AL ?_
  refine AS h (fun v3 => mk [(0, pD (.sl (p0.map Aj))), (1, pD (.sl (p1.map Aj))), (5, iD v1), (15, bD v3)] []) (fun j3 h => ?_) (fun v3 h => ?_)
  ·refine Ah Aw rfl (qw 2 rfl (AJ As rfl (AV rfl (qm rfl ?_))))
   refine Eu 10 h rfl (fun h => ?_) fun h => ?_
   ·refine qw 2 rfl (AJ As rfl (AV rfl (qp rfl (Ab ?_))))
    exact sn [] h
   ·refine qw 4 rfl (qp rfl (Ab ?_))
    exact sn [] h
  ·refine A8 h (fun h => ?_) fun h => ?_
   ·refine Ai (AL (AH (wp rfl (qw 2 rfl ?_))))
    refine BD h fun v6 a6 b6 h => qi As Cp a6 (Af b6) rfl (qk BY rfl (qw 2 rfl ?_))
    refine BD h fun v7 a7 b7 h => qi As Cp a7 (Af b7) rfl (qk BY rfl (AV rfl (AM (by kernel_rfl) ?_)))
    refine A8 h (fun h => ?_) fun h => ?_
    ·refine wq rfl (qe rfl ?_)
     obtain rfl := sj h
     refine Ae (sm [] [(4, iD ((-1)))] [] rfl rfl) (Ar ?_)
     exact ⟨⟨[_], tm, rfl⟩, tv⟩
    ·refine Ai (wq rfl (qw 2 rfl ?_))
     refine BD h fun v9 a9 b9 h => qi As Cp a9 (Af b9) rfl (qk BY rfl (qw 2 rfl ?_))
     refine BD h fun v10 a10 b10 h => qi As Cp a10 (Af b10) rfl (qk BY rfl (GQ rfl (AM (by kernel_rfl) ?_)))
     refine A8 h (fun h => ?_) fun h => ?_
     ·refine wq rfl (qe rfl ?_)
      obtain rfl := sj h
      refine Ae (sm [] [(4, iD 1)] [] rfl rfl) (Ar ?_)
      exact ⟨⟨[_], tm, rfl⟩, tv⟩
     ·refine Ai (Ah Aw rfl (qm rfl (AW rfl (qe rfl ?_))))
      exact sn [] h
   ·refine AR ?_
    exact sn [] h
 ·refine Ae hs (wp rfl (qm rfl (AJ As rfl (qm rfl (AJ As rfl (AV rfl (Ab ?_)))))))
  refine A8 h (fun h => ?_) fun h => ?_
  ·refine wq rfl (qe rfl ?_)
   obtain rfl := sj h
   refine Ae (sm [] [(4, iD ((-1)))] [] rfl rfl) (Ar ?_)
   exact ⟨⟨[_], tm, rfl⟩, tv⟩
  ·refine Ai (wp rfl (qm rfl (AJ As rfl (qm rfl (AJ As rfl (GQ rfl (Ab ?_)))))))
   refine A8 h (fun h => ?_) fun h => ?_
   ·refine wq rfl (qe rfl ?_)
    obtain rfl := sj h
    refine Ae (sm [] [(4, iD 1)] [] rfl rfl) (Ar ?_)
    exact ⟨⟨[_], tm, rfl⟩, tv⟩
   ·refine Ai (wq rfl (qe rfl ?_))
    obtain rfl := sj h
    refine Ae (sm [] [(4, iD 0)] [] rfl rfl) (Ar ?_)
    exact ⟨⟨[_], tm, rfl⟩, tv⟩
theorem IB (N : Nat) (p0 : List Int) (r : (List Int)) (h : DF N p0 = some r) : Ao zA 130 [pD (.sl (p0.map D7))] [(1, r.map Aj)] (oD (.own 0)) := by
 unfold DF at h
 refine cw (n := 20) (rs := [.tmp 2]) Tryz.func130 fun w0 S0 => ?_
 refine wq rfl (qa rfl (Ab (wq rfl (qa rfl (Ab (wp rfl (qe rfl ?_)))))))
 refine AC (L := C2 N p0) h (fun v1 => mk [(0, pD (.sl (p0.map D7))), (3, oD (.own 2001)), (4, iD v1.2)] [(2001, .vec 1 (v1.1.map Aj))]) (fun v2 => mk [(3, oD (.own 2002))] [(2002, .vec 1 (v2.map Aj))]) (fun _ _ => rfl) ((AT 3 2003 1 rfl rfl rfl).trans (sm [(2001, 2003)] _ _ rfl rfl)) (fun j1 n1 v1 h => ?_) (fun v2 s h hs => ?_)
 ·unfold C2 at h
  refine wp rfl (qw 2 rfl (AJ Ea rfl (AV rfl (Ab ?_))))
  refine A8 h (fun h => ?_) fun h => ?_
  ·refine Ai (AL (AH (Ah Aw rfl (qw 3 rfl ?_))))
   refine BD h fun v4 a4 b4 h => qi Ea EU a4 (Af b4) rfl (qk IX rfl (JO cv X6 rfl (Dg As Cp IM rfl ?_)))
   refine FL h fun c5 h => Ce (f := Aj) As As Cp JN IM c5 rfl (qa rfl (Ab (Ah Aw rfl (qm rfl (AW rfl (qe rfl ?_))))))
   exact sn [(2001, 18)] h
  ·refine AR ?_
   exact sn [(2002, 2001)] h
 ·refine Ae hs (wq rfl (qm rfl (qe rfl ?_)))
  obtain rfl := sj h
  refine Ae (sm [(1000, 2002)] [(2, oD (.own 1000))] [(1000, .vec 1 (v2.map Aj))] rfl rfl) (Ar ?_)
  exact ⟨⟨[_], tm, rfl⟩, ⟨rfl, tv⟩⟩
theorem Lt (N : Nat) (p0 : Ac) (p1 : Ac) (r : Int) (h : Er N p0 p1 = some r) : Ao zA 89 [.e (.agg (AI p0)), .e (.agg (AI p1))] [] (iD r) := by
 unfold Er at h
 refine cw (n := 30) (rs := [.tmp 4]) Tryz.func89 fun w0 S0 => ?_
 refine wq rfl (qb rfl (qb rfl (qa rfl (Ab (wp rfl (qf C5 rfl (ql A0 rfl (qf C5 rfl (ql A0 rfl ?_)))))))))
 refine BG h fun v1 a1 h => Av [] (HS N p0.fe p1.fe v1 a1) XQ rfl (qa rfl (Ab (wq rfl (qm rfl (Bo rfl (Ab ?_))))))
 refine A8 h (fun h => ?_) fun h => ?_
 ·refine wq rfl (qm rfl (qe rfl ?_))
  obtain rfl := sj h
  refine Ae (sm [] [(4, iD v1)] [] rfl rfl) (Ar ?_)
  exact ⟨⟨[_], tm, rfl⟩, tv⟩
 ·refine Ai (wp rfl (qf BK rfl (ql A0 rfl (qf BK rfl (ql A0 rfl ?_)))))
  refine BG h fun v3 a3 h => Av [] (HS N p0.fc p1.fc v3 a3) XQ rfl (qa rfl (Ab (wq rfl (qm rfl (Bo rfl (Ab ?_))))))
  refine A8 h (fun h => ?_) fun h => ?_
  ·refine wq rfl (qm rfl (qe rfl ?_))
   obtain rfl := sj h
   refine Ae (sm [] [(4, iD v3)] [] rfl rfl) (Ar ?_)
   exact ⟨⟨[_], tm, rfl⟩, tv⟩
  ·refine Ai (wq rfl (qf C9 rfl (ql Ib rfl ?_)))
   refine BG h fun v5 a5 h => Av [2001] (IB N p0.ff v5 a5) ZL rfl (qf C9 rfl (ql Ib rfl ?_))
   refine BG h fun v6 a6 h => Av [2002] (IB N p1.ff v6 a6) ZL rfl ?_
   refine BG h fun v7 a7 h => Du [] [2001, 2002] (HS N v5 v6 v7 a7) XQ B4 rfl (qa rfl (AM (by kernel_rfl) ?_))
   obtain rfl := sj h
   refine Ae (sm [] [(4, iD v7)] [] rfl rfl) (Ar ?_)
   exact ⟨⟨[_], tm, rfl⟩, tv⟩
theorem Mq (N : Nat) (p0 : Ac) (p1 : Ac) (r : Bool) (h : Fd N p0 p1 = some r) : Ao zA 164 [.e (.agg (AI p0)), .e (.agg (AI p1))] [] (bD r) := by
 unfold Fd at h
 refine cw (n := 9) (rs := [.tmp 4]) Tryz.func164 fun w0 S0 => ?_
 refine wq rfl (qb rfl (qb rfl (qa rfl (Ab (wq rfl (qL B2 A3 rfl (qL B2 A3 rfl ?_)))))))
 refine BG h fun v1 a1 h => Av [] (Lt N p0 p1 v1 a1) ep rfl (B1 rfl (qe rfl ?_))
 obtain rfl := sj h
 refine Ae (sm [] [(4, bD ((v1 == 0)))] [] rfl rfl) (Ar ?_)
 exact ⟨⟨[_], tm, rfl⟩, tv⟩
theorem MS (N : Nat) (p0 : List AD) (p1 : Ac) (r : Int) (h : Ev N p0 p1 = some r) : Ao zA 134 [pD (.sl (p0.map BI)), .e (.agg (AI p1))] [] (iD r) := by
 unfold Ev at h
 refine cw (n := 20) (rs := [.tmp 4]) Tryz.func134 fun w0 S0 => ?_
 refine wq rfl (qb rfl (qa rfl (Ab (wp rfl (qe rfl ?_)))))
 refine AC (L := Cw N p0 p1) h (fun v1 => mk [(0, pD (.sl (p0.map BI))), (3, oD (.ptr 3 0)), (5, iD v1)] [(3, .box (AI p1))]) (fun v2 => mk [] []) (fun _ _ => rfl) (sm [] _ _ rfl rfl) (fun j1 n1 v1 h => ?_) (fun v2 s h hs => ?_)
 ·unfold Cw at h
  refine wp rfl (qw 2 rfl (AJ H0 rfl (AV rfl (Ab ?_))))
  refine A8 h (fun h => ?_) fun h => ?_
  ·refine Ai (AL (AH (wq rfl (qw 2 rfl ?_))))
   refine BD h fun v4 a4 b4 h => qi H0 MK a4 (Af b4) rfl (qg NS rfl (qK B2 A3 rfl (qL B2 A3 rfl ?_)))
   refine BG h fun v5 a5 h => Av [] (Mq N ((Ac.mk v4.fv.fe v4.fv.fc v4.fv.ff)) p1 v5 a5) bP rfl (AM (by kernel_rfl) ?_)
   refine A8 h (fun h => ?_) fun h => ?_
   ·refine wq rfl (qm rfl (qe rfl ?_))
    obtain rfl := sj h
    refine Ae (sm [] [(4, iD v1)] [] rfl rfl) (Ar ?_)
    exact ⟨⟨[_], tm, rfl⟩, tv⟩
   ·refine Ai (Ah Aw rfl (qm rfl (AW rfl (qe rfl ?_))))
    exact sn [] h
  ·refine AR ?_
   exact sn [] h
 ·refine Ae hs (wq rfl (qe rfl ?_))
  obtain rfl := sj h
  refine Ae (sm [] [(4, iD ((-1)))] [] rfl rfl) (Ar ?_)
  exact ⟨⟨[_], tm, rfl⟩, tv⟩
theorem Jg (N : Nat) (p0 : Aa) (p1 : Ac) (p2 : Int) (r : (List AD) × Bool) (h : CZ N p0 p1 p2 = some r) : Ao zA 99 [.e (.agg (Ag p0)), .e (.agg (AI p1)), iD p2] [(7, r.1.map BI)] (.tup [.one (.own 0), .one (.pure (.val (.bool r.2)))]) := by
 unfold CZ at h
 refine cw (n := 74) (rs := [.tmp 6, .tmp 7]) Tryz.func99 fun w0 S0 => ?_
 refine wq rfl (qb rfl (qb rfl (qa rfl (qa rfl (Ab (wq rfl (qL B2 A3 rfl (Bk SU Zz rfl (Dg H0 MK SU rfl (qa rfl (Ab (wp rfl (qe rfl ?_)))))))))))))
 refine AC (L := BX N p0 p2) h (fun v1 => mk [(2, iD p2), (3, oD (.ptr 3 0)), (8, oD (.own 2001)), (9, iD v1.2)] [(3, .box (Ag p0)), (2001, .vec 7 (v1.1.map BI))]) (fun v2 => mk [(8, oD (.own 2002))] [(2002, .vec 7 (v2.map BI))]) (fun _ _ => rfl) (sm [(2001, 16)] _ _ rfl rfl) (fun j1 n1 v1 h => ?_) (fun v2 s h hs => ?_)
 ·unfold BX at h
  refine wp rfl (qw 2 rfl (D6 H0 rfl (AV rfl (Ab ?_))))
  refine A8 h (fun h => ?_) fun h => ?_
  ·refine Ai (AL (AH (wq rfl (qL Co BN rfl (qw 2 rfl ?_)))))
   refine BD h fun v4 a4 b4 h => qI H0 MK a4 (Af b4) rfl (qh NS rfl ?_)
   refine Pl (.p rfl) rfl B2 A3 rfl (Af b4) rfl rfl (by decide) ?_
   refine BG h fun v5 a5 h => Av [2003] (Mt N p0 ((Ac.mk v4.fv.fe v4.fv.fc v4.fv.ff)) v5 a5) en rfl (qa rfl (AM (by kernel_rfl) (wq rfl (qe rfl ?_))))
   refine AC (L := BV N p0 p2 v1 v5) h (fun v6 => mk [(2, iD p2), (3, oD (.ptr 3 0)), (8, oD (.own 2004)), (9, iD v1.2), (10, oD (.own 2005)), (11, iD v6.2)] [(3, .box (Ag p0)), (2004, .vec 7 (v6.1.map BI)), (2005, .vec 3 (v5.map AA))]) (fun v7 => mk [(2, iD p2), (3, oD (.ptr 3 0)), (8, oD (.own 2006)), (9, iD v1.2)] [(3, .box (Ag p0)), (2006, .vec 7 (v7.map BI))]) (fun _ _ => rfl) (sm [(2004, 2001), (2005, 2003)] _ _ rfl rfl) (fun j6 n6 v6 h => ?_) (fun v7 s h hs => ?_)
   ·unfold BV at h
    refine wp rfl (qw 2 rfl (D6 ET rfl (AV rfl (Ab ?_))))
    refine A8 h (fun h => ?_) fun h => ?_
    ·refine Ai (AL (AH (wq rfl (qL Co BN rfl (qw 2 rfl ?_)))))
     refine BD h fun v9 a9 b9 h => qI H0 MK a9 (Af b9) rfl (qh NS rfl ?_)
     refine Pl (.p rfl) rfl B2 A3 rfl (Af b9) rfl rfl (by decide) ?_
     refine qw 2 rfl ?_
     refine BD h fun v10 a10 b10 h => qI ET E7 a10 (Af b10) rfl (qJ JY E7 (Af b10) rfl ?_)
     refine BG h fun v11 a11 h => Av [2007, 2008, 2009] (Ji N p0 ((Ac.mk v9.fv.fe v9.fv.fc v9.fv.ff)) v10 v11 a11) bQ rfl (qm rfl (qx rfl (qx rfl (qz EO rfl (qs A3 rfl (qa rfl (AM (by kernel_rfl) ?_)))))))
     refine AS h (fun v12 => mk [(2, iD p2), (3, oD (.ptr 3 0)), (8, oD (.own 2010)), (9, iD v1.2), (10, oD (.own 2011)), (11, iD v6.2)] [(3, .box (Ag p0)), (2010, .vec 7 (v12.map BI)), (2011, .vec 3 (v5.map AA))]) (fun j12 h => ?_) (fun v12 h => ?_)
     ·refine AS h (fun v13 => mk [(2, iD p2), (3, oD (.ptr 3 0)), (8, oD (.own 2015)), (9, iD v1.2), (10, oD (.own 2016)), (11, iD v6.2), (12, oD (.ptr 12 0)), (58, bD v13)] [(3, .box (Ag p0)), (12, .box [.own 2012, .own 2013, .own 2014]), (2012, .vec 1 (v11.1.fe.map Aj)), (2013, .vec 1 (v11.1.fc.map Aj)), (2014, .vec 1 (v11.1.ff.map D7)), (2015, .vec 7 (v6.1.map BI)), (2016, .vec 3 (v5.map AA))]) (fun j13 h => ?_) (fun v13 h => ?_)
      ·refine Ah Aw rfl (qL Co BN rfl (qL B2 A3 rfl ?_))
       refine BG h fun v14 a14 h => Du [] [2007, 2008, 2009] (GG N p0 v11.1 v14 a14) aL B4 rfl (qm rfl ?_)
       refine Eu 53 h rfl (fun h => ?_) fun h => ?_
       ·refine qm rfl (qL B2 A3 rfl ?_)
        refine BG h fun v16 a16 h => Du [] [2004, 2007, 2008, 2009] (MS N v6.1 v11.1 v16 a16) bG B4 rfl (AV rfl (qp rfl (Ab ?_)))
        exact sn [(2012, 2007), (2013, 2008), (2014, 2009), (2015, 2004), (2016, 2005)] h
       ·refine qw 4 rfl (qp rfl (Ab ?_))
        exact sn [(2012, 2007), (2013, 2008), (2014, 2009), (2015, 2004), (2016, 2005)] h
      ·refine A8 h (fun h => ?_) fun h => ?_
       ·refine Ae (Bb 2012 _ _ rfl rfl) (Ae (Bb 2013 _ _ rfl rfl) (Ae (Bb 2014 _ _ rfl rfl) (Ah Aw rfl (qm rfl (qL B2 A3 rfl (qw 3 rfl ?_))))))
        refine BD h fun v18 a18 b18 h => qI ET E7 a18 (Af b18) rfl (qJ JY E7 (Af b18) rfl (Bk SU Zz rfl (Dg H0 MK SU rfl ?_)))
        refine FL h fun c19 h => Ce (f := BI) H0 H0 MK af SU c19 rfl (qa rfl (AM (by kernel_rfl) ?_))
        exact sn [(2010, 68), (2011, 2016)] h
       ·refine Ai ?_
        exact sn [(2010, 2015), (2011, 2016)] h
     ·refine wq rfl (qm rfl (D6 H0 rfl (qm rfl (GQ rfl (Ab ?_)))))
      refine A8 h (fun h => ?_) fun h => ?_
      ·refine wq rfl (qa rfl (qe rfl ?_))
       obtain rfl := sj h
       refine Ae ((AT 6 2017 7 rfl rfl rfl).trans (sm [(1000, 2017)] [(6, oD (.own 1000)), (7, bD false)] [(1000, .vec 7 ((([] : List AD)).map BI))] rfl rfl)) (Ar ?_)
       exact ⟨⟨[_, _], ⟨.tmp _ _ rfl, tm⟩, rfl⟩, ⟨rfl, tv⟩⟩
      ·refine Ai (Ah Aw rfl (qm rfl (AW rfl (qe rfl ?_))))
       exact sn [(2004, 2010), (2005, 2011)] h
    ·refine AR ?_
     exact sn [(2006, 2004)] h
   ·refine Ae hs (Ah Aw rfl (qm rfl (AW rfl (qe rfl ?_))))
    exact sn [(2001, 2006)] h
  ·refine AR ?_
   exact sn [(2002, 2001)] h
 ·refine Ae hs (wq rfl (qm rfl (qa rfl (qe rfl ?_))))
  obtain rfl := sj h
  refine Ae (sm [(1000, 2002)] [(6, oD (.own 1000)), (7, bD true)] [(1000, .vec 7 (v2.map BI))] rfl rfl) (Ar ?_)
  exact ⟨⟨[_, _], ⟨.tmp _ _ rfl, tm⟩, rfl⟩, ⟨rfl, tv⟩⟩
theorem Mv (N : Nat) (p0 : Aa) (p1 : Int) (r : Bool) (h : Fc N p0 p1 = some r) : Ao zA 68 [.e (.agg (Ag p0)), iD p1] [] (bD r) := by
 unfold Fc at h
 refine cw (n := 30) (rs := [.tmp 4]) Tryz.func68 fun w0 S0 => ?_
 refine wq rfl (qb rfl (qa rfl (Ab (wq rfl (qL Co BN rfl ?_)))))
 refine BG h fun v1 a1 h => Av [2001, 2002, 2003] (Jq N p0 v1 a1) bv rfl (qm rfl (qx rfl (qx rfl (qz EO rfl (qs A3 rfl (qa rfl (Ab (AL ?_))))))))
 refine AS h (fun v2 => mk [(1, iD p1), (2, oD (.ptr 2 0)), (5, oD (.ptr 5 0)), (21, bD v2)] [(2, .box (Ag p0)), (5, .box [.own 2004, .own 2005, .own 2006]), (2004, .vec 1 (v1.1.fe.map Aj)), (2005, .vec 1 (v1.1.fc.map Aj)), (2006, .vec 1 (v1.1.ff.map D7))]) (fun j2 h => ?_) (fun v2 h => ?_)
 ·refine Ah Aw rfl (qm rfl (Bo rfl (qm rfl ?_)))
  refine Eu 16 h rfl (fun h => ?_) fun h => ?_
  ·refine qw 4 rfl (qp rfl (Ab ?_))
   exact sn [(2004, 2001), (2005, 2002), (2006, 2003)] h
  ·refine qL Co BN rfl (qL B2 A3 rfl ?_)
   refine BG h fun v4 a4 h => Du [] [2001, 2002, 2003] (GG N p0 v1.1 v4 a4) aL B4 rfl (CA rfl (qp rfl (Ab ?_)))
   exact sn [(2004, 2001), (2005, 2002), (2006, 2003)] h
 ·refine A8 h (fun h => ?_) fun h => ?_
  ·refine wq rfl (qe rfl ?_)
   obtain rfl := sj h
   refine Ae (sm [] [(4, bD true)] [] rfl rfl) (Ar ?_)
   exact ⟨⟨[_], tm, rfl⟩, tv⟩
  ·refine Ai (wq rfl (qL Co BN rfl (qL B2 A3 rfl (qm rfl (C0 (Bb 2004 _ _ rfl rfl) (C0 (Bb 2005 _ _ rfl rfl) (C0 (Bb 2006 _ _ rfl rfl) ?_)))))))
   refine BG h fun v6 a6 h => Av [2007] (Jg N p0 v1.1 p1 v6 a6) dn rfl (qm rfl (qx rfl (qx rfl (qa rfl (qa rfl (Ab (wq rfl (qm rfl (qe rfl ?_)))))))))
   obtain rfl := sj h
   refine Ae (sm [] [(4, bD v6.2)] [] rfl rfl) (Ar ?_)
   exact ⟨⟨[_], tm, rfl⟩, tv⟩
theorem Mn (N : Nat) (p0 : Aa) (r : Bool) (h : FR N p0 = some r) : Ao zA 36 [.e (.agg (Ag p0))] [] (bD r) := by
 unfold FR at h
 refine cw (n := 40) (rs := [.tmp 2]) Tryz.func36 fun w0 S0 => ?_
 refine wq rfl (qb rfl (qa rfl (Ab (wp rfl (qL Co BN rfl ?_)))))
 refine BG h fun v1 a1 h => Av [] (DC N p0 v1 a1) W9 rfl (Bo rfl (Ab ?_))
 refine A8 h (fun h => ?_) fun h => ?_
 ·refine wq rfl (qe rfl ?_)
  obtain rfl := sj h
  refine Ae (sm [] [(2, bD true)] [] rfl rfl) (Ar ?_)
  exact ⟨⟨[_], tm, rfl⟩, tv⟩
 ·refine Ai (wp rfl (qf A5 rfl (ql A0 rfl (AJ As rfl (GQ rfl (Ab ?_))))))
  refine A8 h (fun h => ?_) fun h => ?_
  ·refine wq rfl (qe rfl ?_)
   obtain rfl := sj h
   refine Ae (sm [] [(2, bD false)] [] rfl rfl) (Ar ?_)
   exact ⟨⟨[_], tm, rfl⟩, tv⟩
  ·refine Ai (wq rfl (qf A5 rfl (ql A0 rfl (AJ As rfl ?_))))
   refine BG h fun v4 a4 h => Av [2001] (J1 N ((p0.fb.length : Int)) v4 a4) cN rfl (qa rfl (Ab (wp rfl (qe rfl ?_))))
   refine AC (L := CQ N p0 v4) h (fun v5 => mk [(1, oD (.ptr 1 0)), (3, oD (.own 2002)), (4, iD v5)] [(1, .box (Ag p0)), (2002, .vec 1 (v4.map (ED Aj)))]) (fun v6 => mk [] []) (fun _ _ => rfl) (sm [(2002, 2001)] _ _ rfl rfl) (fun j5 n5 v5 h => ?_) (fun v6 s h hs => ?_)
   ·unfold CQ at h
    refine wp rfl (qw 2 rfl (D6 EB rfl (AV rfl (Ab ?_))))
    refine A8 h (fun h => ?_) fun h => ?_
    ·refine Ai (AL (AH (wq rfl (qL Co BN rfl (qw 2 rfl ?_)))))
     refine BD h fun v8 a8 b8 h => qI EB GT a8 (Af b8) rfl (qj A0 (Af b8) rfl ?_)
     refine BG h fun v9 a9 h => Av [2003, 2004, 2005, 2006] (Ir N p0 v8 v9 a9) bR rfl (qm rfl (qx rfl (qx rfl (qz Kx rfl (qs BN rfl (qa rfl (AM (by kernel_rfl) ?_)))))))
     refine AS h (fun v10 => mk [(1, oD (.ptr 1 0)), (3, oD (.own 2007)), (4, iD v5), (39, bD v10)] [(1, .box (Ag p0)), (2007, .vec 1 (v4.map (ED Aj)))]) (fun j10 h => ?_) (fun v10 h => ?_)
     ·refine Ah Aw rfl (qm rfl (Bo rfl (qm rfl ?_)))
      refine Eu 35 h rfl (fun h => ?_) fun h => ?_
      ·refine qw 3 rfl (qp rfl (Ab ?_))
       exact sn [(2007, 2002)] h
      ·refine qL Co BN rfl ?_
       refine BG h fun v12 a12 h => Du [] [2003, 2004, 2005, 2006] (Mv N v9.1 120 v12 a12) ed B4 rfl (CA rfl (qp rfl (Ab ?_)))
       exact sn [(2007, 2002)] h
     ·refine A8 h (fun h => ?_) fun h => ?_
      ·refine wq rfl (qe rfl ?_)
       obtain rfl := sj h
       refine Ae (sm [] [(2, bD false)] [] rfl rfl) (Ar ?_)
       exact ⟨⟨[_], tm, rfl⟩, tv⟩
      ·refine Ai (Ah Aw rfl (qm rfl (AW rfl (qe rfl ?_))))
       exact sn [(2002, 2007)] h
    ·refine AR ?_
     exact sn [] h
   ·refine Ae hs (wq rfl (qe rfl ?_))
    obtain rfl := sj h
    refine Ae (sm [] [(2, bD true)] [] rfl rfl) (Ar ?_)
    exact ⟨⟨[_], tm, rfl⟩, tv⟩
theorem Oi (N : Nat) (p0 : BJ) (r : Aa × Bool) (h : FY N p0 = some r) : Ao zA 10 [.e (.agg (CX p0))] [(1, r.1.fb.map Aj), (1, r.1.fj.map Aj), (1, r.1.fo.map Aj), (6, r.1.fd.map AN)] (.tup [.agg [.own 0, .own 1, .own 2, .own 3], .one (.pure (.val (.bool r.2)))]) := by
 unfold FY at h
 refine cw (n := 17) (rs := [.cell 2 29, .tmp 3]) Tryz.func10 fun w0 S0 => ?_
 refine wq rfl (qb rfl (qz Kx rfl (qa rfl (Ab (wq rfl (qL ce cz rfl ?_))))))
 refine BG h fun v1 a1 h => Av [2001, 2002, 2003, 2004] (N9 N p0 v1 a1) eT rfl (qm rfl (qx rfl (qx rfl (qz Kx rfl (qs BN rfl (qe rfl ?_))))))
 refine AS h (fun v2 => mk [(2, oD (.ptr 2 0)), (3, bD v2)] [(2, .box [.own 2005, .own 2006, .own 2007, .own 2008]), (2005, .vec 1 (v1.1.fb.map Aj)), (2006, .vec 1 (v1.1.fj.map Aj)), (2007, .vec 1 (v1.1.fo.map Aj)), (2008, .vec 6 (v1.1.fd.map AN))]) (fun j2 h => ?_) (fun v2 h => ?_)
 ·refine Ah Aw rfl (qL Co BN rfl (qw 2 rfl ?_))
  refine Eu 13 h rfl (fun h => ?_) fun h => ?_
  ·refine qL Co BN rfl ?_
   refine BG h fun v4 a4 h => Du [] [2001, 2002, 2003, 2004] (Mn N v1.1 v4 a4) dW B4 rfl (qp rfl (qs BN rfl (qa rfl (AM (by kernel_rfl) ?_))))
   exact sn [(2005, 2001), (2006, 2002), (2007, 2003), (2008, 2004)] h
  ·refine qw 2 rfl (qp rfl (qs BN rfl (qa rfl (AM (by kernel_rfl) ?_))))
   exact sn [(2005, 2001), (2006, 2002), (2007, 2003), (2008, 2004)] h
 ·obtain rfl := sj h
  refine Ae (sm [(1000, 2005), (1001, 2006), (1002, 2007), (1003, 2008)] [(2, oD (.ptr 2 0)), (3, bD v2)] [(2, .box [.own 1000, .own 1001, .own 1002, .own 1003]), (1000, .vec 1 (v1.1.fb.map Aj)), (1001, .vec 1 (v1.1.fj.map Aj)), (1002, .vec 1 (v1.1.fo.map Aj)), (1003, .vec 6 (v1.1.fd.map AN))] rfl rfl) (Ar ?_)
  exact ⟨⟨[_, _], ⟨.cellN _ _ _ _ _ _ _ rfl rfl Co BN rfl rfl (Jx rfl), tm⟩, rfl⟩, ⟨rfl, rfl, rfl, rfl, tv⟩⟩
theorem H5 (N : Nat) (r : (List (List Bool))) (h : EZ N = some r) : Ao zA 69 [] [(1, r.map (ED eB))] (oD (.own 0)) := by
 unfold EZ at h
 refine cw (n := 4) (rs := [.tmp 0]) Tryz.func69 fun w0 S0 => ?_
 refine wq rfl (qa rfl (Ab (wq rfl (Dg ES Oq Sn rfl (Dg ES Oq Sn rfl (C0 (Bb 1 _ _ rfl rfl) (C0 (Bb 2 _ _ rfl rfl) (Dg EL JM TX rfl (qe rfl ?_)))))))))
 obtain rfl := sj h
 refine Ae (sm [(1000, 3)] [(0, oD (.own 1000))] [(1000, .vec 1 ((([([true, false] : List Bool), ([false, true] : List Bool)] : List (List Bool))).map (ED eB)))] rfl rfl) (Ar ?_)
 exact ⟨⟨[_], tm, rfl⟩, ⟨rfl, tv⟩⟩
theorem GY (N : Nat) (p0 : Bool) (r : Aa) (h : Es N p0 = some r) : Ao zA 37 [bD p0] [(1, r.fb.map Aj), (1, r.fj.map Aj), (1, r.fo.map Aj), (6, r.fd.map AN)] (.e (.agg [.own 0, .own 1, .own 2, .own 3])) := by
 unfold Es at h
 refine cw (n := 17) (rs := [.cell 2 29]) Tryz.func37 fun w0 S0 => ?_
 refine wq rfl (qz Kx rfl (Ab (wq rfl (qa rfl (Ab (wq rfl (Dg As Cp IM rfl (Dg As Cp IM rfl (Dg As Cp IM rfl (qw 2 rfl ?_))))))))))
 refine BG h fun v1 a1 h => Vu (ds0 := []) [2001] (H5 N v1 a1) (.p rfl) rfl db rfl tv rfl rfl rfl (Gw rfl) ⟨rfl, tv⟩ rfl ?_
 refine Bk Jf Yw rfl (qw 2 rfl ?_)
 refine BG h fun v2 a2 h => Vu (ds0 := []) [2002] (H5 N v2 a2) (.p rfl) rfl db rfl tv rfl rfl rfl (Gw rfl) ⟨rfl, tv⟩ rfl ?_
 refine Bk Jf Yw rfl (C0 (Bb 2001 _ _ rfl rfl) (C0 (Bb 2002 _ _ rfl rfl) (Dg Dv Dn Jf rfl (Bk Kx S8 rfl (qs BN rfl (Ab ?_))))))
 obtain rfl := sj h
 refine Ae (sm [(1000, 4), (1001, 5), (1002, 6), (1003, 15)] [(2, oD (.ptr 2 0))] [(2, .box [.own 1000, .own 1001, .own 1002, .own 1003]), (1000, .vec 1 ((([2, 2, 2] : List Int)).map Aj)), (1001, .vec 1 ((([0, 0, 0] : List Int)).map Aj)), (1002, .vec 1 ((([1, 1, 1] : List Int)).map Aj)), (1003, .vec 6 ((([(An.mk 1 0 1 p0 v1 (([] : List (List Bool)))), (An.mk 1 1 0 p0 v2 (([] : List (List Bool))))] : List An)).map AN))] rfl rfl) (Ar ?_)
 exact ⟨⟨[_], ⟨.cellN _ _ _ _ _ _ _ rfl rfl Co BN rfl rfl (Jx rfl), tv⟩, rfl⟩, ⟨rfl, rfl, rfl, rfl, tv⟩⟩
theorem Hi (N : Nat) (p0 : Int) (p1 : Int) (r : Bool) (h : DD N p0 p1 = some r) : Ao zA 70 [iD p0, iD p1] [] (bD r) := by
 unfold DD at h
 refine cw (n := 12) (rs := [.tmp 4]) Tryz.func70 fun w0 S0 => ?_
 refine wq rfl (qe rfl ?_)
 refine AS h (fun v1 => mk [(4, bD v1)] []) (fun j1 h => ?_) (fun v1 h => ?_)
 ·refine Ah Aw rfl (qm rfl (EI rfl (qm rfl ?_)))
  refine Eu 7 h rfl (fun h => ?_) fun h => ?_
  ·refine qw 2 rfl (AV rfl (qp rfl (qe rfl ?_)))
   exact sn [] h
  ·refine qw 3 rfl (qp rfl (qe rfl ?_))
   exact sn [] h
 ·obtain rfl := sj h
  refine Ae (sm [] [(4, bD v1)] [] rfl rfl) (Ar ?_)
  exact ⟨⟨[_], tm, rfl⟩, tv⟩
theorem RJ (N : Nat) (p0 : Int) (p1 : Bool) (r : Bool) (h : HD N p0 p1 = some r) : Ao zA 100 [iD p0, bD p1] [] (bD r) := by
 unfold HD at h
 refine cw (n := 23) (rs := [.tmp 4]) Tryz.func100 fun w0 S0 => ?_
 refine wq rfl (qe rfl ?_)
 refine AS h (fun v1 => mk [(4, bD v1)] []) (fun j1 h => ?_) (fun v1 h => ?_)
 ·refine Ah Aw rfl (qm rfl (B1 rfl (qm rfl ?_)))
  refine Eu 7 h rfl (fun h => ?_) fun h => ?_
  ·refine qw 2 rfl (qp rfl (qw 4 rfl (qu rfl (qu rfl (qw 2 rfl (qu rfl (qu rfl (qn rfl (qp rfl (qe rfl ?_))))))))))
   exact sn [] h
  ·refine qm rfl (B1 rfl (qp rfl (qm rfl ?_)))
   refine Eu 11 h rfl (fun h => ?_) fun h => ?_
   ·refine qw 3 rfl (qu rfl (qu rfl (qw 2 rfl (qu rfl (qu rfl (qn rfl (qp rfl (qe rfl ?_))))))))
    exact sn [] h
   ·refine qm rfl (B1 rfl (qm rfl ?_))
    refine Eu 14 h rfl (fun h => ?_) fun h => ?_
    ·refine qw 2 rfl (qp rfl (qw 2 rfl (CA rfl (qp rfl (qp rfl (qe rfl ?_))))))
     exact sn [] h
    ·refine qm rfl (B1 rfl (qp rfl (qm rfl ?_)))
     refine Eu 18 h rfl (fun h => ?_) fun h => ?_
     ·refine qm rfl (CA rfl (qp rfl (qp rfl (qe rfl ?_))))
      exact sn [] h
     ·refine qw 2 rfl (qp rfl (qp rfl (qe rfl ?_)))
      exact sn [] h
 ·obtain rfl := sj h
  refine Ae (sm [] [(4, bD v1)] [] rfl rfl) (Ar ?_)
  exact ⟨⟨[_], tm, rfl⟩, tv⟩
theorem Oj (N : Nat) (p0 : List Bool) (p1 : Int) (r : Bool) (h : Et N p0 p1 = some r) : Ao zA 136 [pD (.sl (p0.map eB)), oD (.rop [.val (.int .i64 p1)])] [] (bD r) := by
 unfold Et at h
 refine cw (n := 8) (rs := [.tmp 3]) Tryz.func136 fun w0 S0 => ?_
 refine wq rfl (qa rfl (Ab (wq rfl (qm rfl (AJ ES rfl (qk BY rfl (Bo rfl (qe rfl ?_))))))))
 obtain rfl := sj h
 refine Ae (sm [] [(3, bD (((p0.length : Int) != p1)))] [] rfl rfl) (Ar ?_)
 exact ⟨⟨[_], tm, rfl⟩, tv⟩
theorem Je (N : Nat) (p0 : List (List Bool)) (p1 : (List Bool) → Option Bool) (r : Int) (h : DQ N p0 p1 = some r) : Ao zA 165 [pD (.sl (p0.map (ED eB))), oD (.clo (Hz (Ls false (ED eB)) tB p1))] [] (iD r) := by
 unfold DQ at h
 refine cw (n := 19) (rs := [.tmp 4]) Tryz.func165 fun w0 S0 => ?_
 refine wq rfl (qa rfl (Ab (wp rfl (qm rfl (AJ EL rfl (qm rfl (Ab ?_)))))))
 refine AC (L := Bv N p0 p1) h (fun v1 => mk [(0, pD (.sl (p0.map (ED eB)))), (1, oD (.clo (Hz (Ls false (ED eB)) tB p1))), (7, iD ((p0.length : Int))), (8, iD v1)] []) (fun v2 => mk [] []) (fun _ _ => rfl) (sm [] _ _ rfl rfl) (fun j1 n1 v1 h => ?_) (fun v2 s h hs => ?_)
 ·unfold Bv at h
  refine wq rfl (AV rfl (Ab (AL ?_)))
  refine A8 h (fun h => ?_) fun h => ?_
  ·refine Ai (AL (AH (wq rfl (qm rfl (qa rfl (Ab (wq rfl (qw 3 rfl ?_))))))))
   refine BD h fun v4 a4 b4 h => qi EL JM a4 (Af b4) rfl (qk OJ rfl ?_)
   refine BG h fun v5 a5 h => K0 (ds0 := [_]) (ar := (Ls false (ED eB)) v4) (.p rfl) rfl rfl ⟨rfl, tv⟩ rfl rfl rfl (Kn (La _ _ (cJ eF)) a5) ?_
   refine Ab ?_
   refine A8 h (fun h => ?_) fun h => ?_
   ·refine wq rfl (qm rfl (qe rfl ?_))
    obtain rfl := sj h
    refine Ae (sm [] [(4, iD v1)] [] rfl rfl) (Ar ?_)
    exact ⟨⟨[_], tm, rfl⟩, tv⟩
   ·refine Ai (Ah Aw rfl (AW rfl (qm rfl (Ab ?_))))
    exact sn [] h
  ·refine AR ?_
   exact sn [] h
 ·refine Ae hs (wq rfl (qe rfl ?_))
  obtain rfl := sj h
  refine Ae (sm [] [(4, iD ((-1)))] [] rfl rfl) (Ar ?_)
  exact ⟨⟨[_], tm, rfl⟩, tv⟩
theorem Iy (N : Nat) (p0 : List (List Bool)) (p1 : (List Bool) → Option Bool) (r : Bool) (h : Di N p0 p1 = some r) : Ao zA 135 [pD (.sl (p0.map (ED eB))), oD (.clo (Hz (Ls false (ED eB)) tB p1))] [] (bD r) := by
 unfold Di at h
 refine cw (n := 9) (rs := [.tmp 4]) Tryz.func135 fun w0 S0 => ?_
 refine wq rfl (qa rfl (Ab (wq rfl (qw 2 rfl ?_))))
 refine BG h fun v1 a1 h => Av [] (Je N p0 p1 v1 a1) bN rfl (EI rfl (qe rfl ?_))
 obtain rfl := sj h
 refine Ae (sm [] [(4, bD ((decide (0 ≤ v1))))] [] rfl rfl) (Ar ?_)
 exact ⟨⟨[_], tm, rfl⟩, tv⟩
theorem LH (N : Nat) (p0 : List (List Bool)) (p1 : Int) (p2 : Int) (r : Bool) (h : FO N p0 p1 p2 = some r) : Ao zA 101 [pD (.sl (p0.map (ED eB))), iD p1, iD p2] [] (bD r) := by
 unfold FO at h
 refine cw (n := 17) (rs := [.tmp 6]) Tryz.func101 fun w0 S0 => ?_
 refine wq rfl (qb rfl (qe rfl ?_))
 refine AS h (fun v1 => mk [(6, bD v1)] []) (fun j1 h => ?_) (fun v1 h => ?_)
 ·refine Ah Aw rfl (qm rfl (AJ EL rfl (qm rfl (B1 rfl (qm rfl ?_)))))
  refine Eu 11 h rfl (fun h => ?_) fun h => ?_
  ·refine qm rfl (C0 (Ic 5 [.val (.int .i64 p2)] rfl rfl) ?_)
   refine IK (capD := [_]) (Hz (Ls false (ED eB)) tB ((fun (x : List Bool) => Et N x p2))) (.g rfl rfl) dm rfl ⟨rfl, tv⟩ rfl (fun ar t ht => by obtain ⟨x, r, rfl, hq, rfl⟩ := H6 ht; exact Oj N x p2 r hq) ?_
   refine BG h fun v3 a3 h => Av [] (Iy N p0 ((fun (x : List Bool) => Et N x p2)) v3 a3) cT rfl (CA rfl (qp rfl (qe rfl ?_)))
   exact sn [] h
  ·refine qw 4 rfl (qp rfl (qe rfl ?_))
   exact sn [] h
 ·obtain rfl := sj h
  refine Ae (sm [] [(6, bD v1)] [] rfl rfl) (Ar ?_)
  exact ⟨⟨[_], tm, rfl⟩, tv⟩
theorem P6 (N : Nat) (p0 : Aa) (p1 : An) (r : Int) (h : Ha N p0 p1 = some r) : Ao zA 71 [.e (.agg (Ag p0)), .e (.agg (Bc p1))] [] (iD r) := by
 unfold Ha at h
 refine cw (n := 87) (rs := [.tmp 4]) Tryz.func71 fun w0 S0 => ?_
 refine wq rfl (qb rfl (qb rfl (qa rfl (Ab (wp rfl (qf Gz rfl (ql BY rfl (qf Jy rfl (ql Sm rfl ?_)))))))))
 refine BG h fun v1 a1 h => Av [] (RJ N p1.fg p1.ft v1 a1) cu rfl (CA rfl (Ab ?_))
 refine A8 h (fun h => ?_) fun h => ?_
 ·refine wq rfl (qe rfl ?_)
  obtain rfl := sj h
  refine Ae (sm [] [(4, iD 1)] [] rfl rfl) (Ar ?_)
  exact ⟨⟨[_], tm, rfl⟩, tv⟩
 ·refine Ai (AL ?_)
  refine AS h (fun v3 => mk [(2, oD (.ptr 2 0)), (3, oD (.ptr 3 0)), (29, bD v3)] [(2, .box (Ag p0)), (3, .box (Bc p1))]) (fun j3 h => ?_) (fun v3 h => ?_)
  ·refine Ah Aw rfl (qf De rfl (ql BY rfl (qf A5 rfl (ql A0 rfl (AJ As rfl ?_)))))
   refine BG h fun v4 a4 h => Av [] (Hi N p1.fh ((p0.fb.length : Int)) v4 a4) XW rfl (CA rfl (qm rfl ?_))
   refine Eu 21 h rfl (fun h => ?_) fun h => ?_
   ·refine qw 7 rfl (qp rfl (Ab ?_))
    exact sn [] h
   ·refine qf HP rfl (ql BY rfl (qf A5 rfl (ql A0 rfl (AJ As rfl ?_))))
    refine BG h fun v6 a6 h => Av [] (Hi N p1.fk ((p0.fb.length : Int)) v6 a6) XW rfl (CA rfl (qp rfl (Ab ?_)))
    exact sn [] h
  ·refine A8 h (fun h => ?_) fun h => ?_
   ·refine wq rfl (qe rfl ?_)
    obtain rfl := sj h
    refine Ae (sm [] [(4, iD 4)] [] rfl rfl) (Ar ?_)
    exact ⟨⟨[_], tm, rfl⟩, tv⟩
   ·refine Ai (wq rfl (qf A5 rfl (ql A0 rfl (qf De rfl (ql BY rfl ?_)))))
    refine BD h fun v8 a8 b8 h => qi As Cp a8 (Af b8) rfl (qk BY rfl (qa rfl (Ab (wq rfl (qf Gz rfl (ql BY rfl (B1 rfl (qa rfl (Ab (AL ?_))))))))))
    refine AS h (fun v9 => mk [(3, oD (.ptr 3 0)), (70, bD v9)] [(3, .box (Bc p1))]) (fun j9 h => ?_) (fun v9 h => ?_)
    ·refine Ah Aw rfl (qf Hn rfl (ql ID rfl (qm rfl (qf A5 rfl (ql A0 rfl (qf HP rfl (ql BY rfl ?_)))))))
     refine BD h fun v10 a10 b10 h => qi As Cp a10 (Af b10) rfl (qk BY rfl ?_)
     refine BG h fun v11 a11 h => Av [] (LH N p1.fr v8 v10 v11 a11) ZH rfl (CA rfl (qm rfl ?_))
     refine Eu 50 h rfl (fun h => ?_) fun h => ?_
     ·refine qw 2 rfl (qu rfl (qu rfl (qu rfl (qu rfl (qu rfl (qu rfl (qn rfl (qp rfl (qw 4 rfl (qu rfl (qu rfl (qu rfl (qu rfl (qn rfl (qp rfl (AM (by kernel_rfl) ?_))))))))))))))))
      exact sn [] h
     ·refine qw 2 rfl ?_
      refine Eu 52 h rfl (fun h => ?_) fun h => ?_
      ·refine qf FG rfl (ql ID rfl (qw 2 rfl ?_))
       refine BG h fun v14 a14 h => Av [] (LH N p1.fm v8 v8 v14 a14) ZH rfl (CA rfl (qp rfl (qp rfl (qm rfl ?_))))
       refine Eu 61 h rfl (fun h => ?_) fun h => ?_
       ·refine qw 3 rfl (qu rfl (qu rfl (qu rfl (qu rfl (qn rfl (qp rfl (AM (by kernel_rfl) ?_)))))))
        exact sn [] h
       ·refine qm rfl (CA rfl (qm rfl ?_))
        refine Eu 64 h rfl (fun h => ?_) fun h => ?_
        ·refine qf FG rfl (ql ID rfl (AJ EL rfl (GQ rfl (qp rfl (qp rfl (AM (by kernel_rfl) ?_))))))
         exact sn [] h
        ·refine qw 4 rfl (qp rfl (qp rfl (AM (by kernel_rfl) ?_)))
         exact sn [] h
      ·refine qw 6 rfl (qp rfl (qp rfl (qw 2 rfl (CA rfl (qm rfl ?_)))))
       refine Eu 64 h rfl (fun h => ?_) fun h => ?_
       ·refine qf FG rfl (ql ID rfl (AJ EL rfl (GQ rfl (qp rfl (qp rfl (AM (by kernel_rfl) ?_))))))
        exact sn [] h
       ·refine qw 4 rfl (qp rfl (qp rfl (AM (by kernel_rfl) ?_)))
        exact sn [] h
    ·refine A8 h (fun h => ?_) fun h => ?_
     ·refine wq rfl (qe rfl ?_)
      obtain rfl := sj h
      refine Ae (sm [] [(4, iD 6)] [] rfl rfl) (Ar ?_)
      exact ⟨⟨[_], tm, rfl⟩, tv⟩
     ·refine Ai (wp rfl (qf FG rfl (ql ID rfl (AJ EL rfl (qm rfl (Ab ?_))))))
      refine AC (L := Dz N p1) h (fun v19 => mk [(3, oD (.ptr 3 0)), (73, iD ((p1.fm.length : Int))), (74, iD v19)] [(3, .box (Bc p1))]) (fun v20 => mk [] []) (fun _ _ => rfl) (sm [] _ _ rfl rfl) (fun j19 n19 v19 h => ?_) (fun v20 s h hs => ?_)
      ·unfold Dz at h
       refine wq rfl (AV rfl (Ab (AL ?_)))
       refine A8 h (fun h => ?_) fun h => ?_
       ·refine Ai (AL (AH (wq rfl (qm rfl (qa rfl (Ab (wq rfl (qf FG rfl (ql ID rfl (qm rfl ?_))))))))))
        refine BD h fun v22 a22 b22 h => qi EL JM a22 (Af b22) rfl (qk OJ rfl (qm rfl ?_))
        refine BD h fun v23 a23 b23 h => qi ES Oq a23 (Af b23) rfl (qk Sm rfl (CA rfl (Ab ?_)))
        refine A8 h (fun h => ?_) fun h => ?_
        ·refine wq rfl (qe rfl ?_)
         obtain rfl := sj h
         refine Ae (sm [] [(4, iD 1)] [] rfl rfl) (Ar ?_)
         exact ⟨⟨[_], tm, rfl⟩, tv⟩
        ·refine Ai (Ah Aw rfl (AW rfl (qm rfl (Ab ?_))))
         exact sn [] h
       ·refine AR ?_
        exact sn [] h
      ·refine Ae hs (wq rfl (qe rfl ?_))
       obtain rfl := sj h
       refine Ae (sm [] [(4, iD 0)] [] rfl rfl) (Ar ?_)
       exact ⟨⟨[_], tm, rfl⟩, tv⟩
theorem E6 (N : Nat) (p0 : Aa) (r : Int) (h : Cf N p0 = some r) : Ao zA 38 [.e (.agg (Ag p0))] [] (iD r) := by
 unfold Cf at h
 refine cw (n := 81) (rs := [.tmp 2]) Tryz.func38 fun w0 S0 => ?_
 refine wq rfl (qb rfl (qa rfl (Ab (wq rfl (qf A5 rfl (ql A0 rfl (AJ As rfl (qa rfl (Ab (AL ?_))))))))))
 refine AS h (fun v1 => mk [(1, oD (.ptr 1 0)), (3, iD ((p0.fb.length : Int))), (19, bD v1)] [(1, .box (Ag p0))]) (fun j1 h => ?_) (fun v1 h => ?_)
 ·refine Ah Aw rfl (qm rfl (GQ rfl (qm rfl ?_)))
  refine Eu 14 h rfl (fun h => ?_) fun h => ?_
  ·refine qw 4 rfl (qp rfl (Ab ?_))
   exact sn [] h
  ·refine qf Cg rfl (ql Hp rfl (AJ Dv rfl (GQ rfl (qp rfl (Ab ?_)))))
   exact sn [] h
 ·refine A8 h (fun h => ?_) fun h => ?_
  ·refine wq rfl (qe rfl ?_)
   obtain rfl := sj h
   refine Ae (sm [] [(2, iD 3)] [] rfl rfl) (Ar ?_)
   exact ⟨⟨[_], tm, rfl⟩, tv⟩
  ·refine Ai (AL ?_)
   refine AS h (fun v4 => mk [(1, oD (.ptr 1 0)), (31, bD v4)] [(1, .box (Ag p0))]) (fun j4 h => ?_) (fun v4 h => ?_)
   ·refine Ah Aw rfl (qf FI rfl (ql A0 rfl (AJ As rfl (qm rfl (Bo rfl (qm rfl ?_))))))
    refine Eu 25 h rfl (fun h => ?_) fun h => ?_
    ·refine qw 5 rfl (qp rfl (Ab ?_))
     exact sn [] h
    ·refine qf Gx rfl (ql A0 rfl (AJ As rfl (qm rfl (Bo rfl (qp rfl (Ab ?_))))))
     exact sn [] h
   ·refine A8 h (fun h => ?_) fun h => ?_
    ·refine wq rfl (qe rfl ?_)
     obtain rfl := sj h
     refine Ae (sm [] [(2, iD 6)] [] rfl rfl) (Ar ?_)
     exact ⟨⟨[_], tm, rfl⟩, tv⟩
    ·refine Ai (wp rfl (qf A5 rfl (ql A0 rfl (AJ As rfl (qm rfl (Ab ?_))))))
     refine AC (L := Cb N p0) h (fun v7 => mk [(1, oD (.ptr 1 0)), (33, pD (.sl (p0.fb.map Aj))), (34, iD ((p0.fb.length : Int))), (35, iD v7)] [(1, .box (Ag p0))]) (fun v8 => mk [(1, oD (.ptr 1 0))] [(1, .box (Ag p0))]) (fun _ _ => rfl) (sm [] _ _ rfl rfl) (fun j7 n7 v7 h => ?_) (fun v8 s h hs => ?_)
     ·unfold Cb at h
      refine wq rfl (AV rfl (Ab (AL ?_)))
      refine A8 h (fun h => ?_) fun h => ?_
      ·refine Ai (AL (AH (wq rfl (qm rfl ?_))))
       refine BD h fun v10 a10 b10 h => qi As Cp a10 (Af b10) rfl (qk BY rfl (qa rfl (qe rfl ?_)))
       refine AS h (fun v11 => mk [(1, oD (.ptr 1 0)), (33, pD (.sl (p0.fb.map Aj))), (34, iD ((p0.fb.length : Int))), (35, iD v7), (65, bD v11)] [(1, .box (Ag p0))]) (fun j11 h => ?_) (fun v11 h => ?_)
       ·refine Ah Aw rfl (qm rfl (AV rfl (qm rfl ?_)))
        refine Eu 42 h rfl (fun h => ?_) fun h => ?_
        ·refine qw 2 rfl (qp rfl (qw 9 rfl (qp rfl (qw 9 rfl (qp rfl (Ab ?_))))))
         exact sn [] h
        ·refine qm rfl (GQ rfl (qp rfl (qm rfl ?_)))
         refine Eu 46 h rfl (fun h => ?_) fun h => ?_
         ·refine qw 8 rfl (qp rfl (qw 9 rfl (qp rfl (Ab ?_))))
          exact sn [] h
         ·refine qf FI rfl (ql A0 rfl (qm rfl ?_))
          refine BD h fun v14 a14 b14 h => qi As Cp a14 (Af b14) rfl (qk BY rfl (qm rfl ?_))
          refine BG h fun v15 a15 h => Av [] (Hi N v14 v10 v15 a15) XW rfl (CA rfl (qp rfl (qm rfl ?_)))
          refine Eu 56 h rfl (fun h => ?_) fun h => ?_
          ·refine qw 8 rfl (qp rfl (Ab ?_))
           exact sn [] h
          ·refine qf Gx rfl (ql A0 rfl (qm rfl ?_))
           refine BD h fun v17 a17 b17 h => qi As Cp a17 (Af b17) rfl (qk BY rfl (qm rfl ?_))
           refine BG h fun v18 a18 h => Av [] (Hi N v17 v10 v18 a18) XW rfl (CA rfl (qp rfl (Ab ?_)))
           exact sn [] h
       ·refine A8 h (fun h => ?_) fun h => ?_
        ·refine wq rfl (qe rfl ?_)
         obtain rfl := sj h
         refine Ae (sm [] [(2, iD 7)] [] rfl rfl) (Ar ?_)
         exact ⟨⟨[_], tm, rfl⟩, tv⟩
        ·refine Ai (Ah Aw rfl (AW rfl (qm rfl (Ab ?_))))
         exact sn [] h
      ·refine AR ?_
       exact sn [] h
     ·refine Ae hs (wp rfl (qf Cg rfl (ql Hp rfl (AJ Dv rfl (qm rfl (Ab ?_))))))
      refine AC (L := B0 N p0) h (fun v20 => mk [(1, oD (.ptr 1 0)), (68, pD (.sl (p0.fd.map AN))), (69, iD ((p0.fd.length : Int))), (70, iD v20)] [(1, .box (Ag p0))]) (fun v21 => mk [] []) (fun _ _ => rfl) (sm [] _ _ rfl rfl) (fun j20 n20 v20 h => ?_) (fun v21 s h hs => ?_)
      ·unfold B0 at h
       refine wq rfl (AV rfl (Ab (AL ?_)))
       refine A8 h (fun h => ?_) fun h => ?_
       ·refine Ai (AL (AH (wq rfl ?_)))
        refine BD h fun v23 a23 b23 h => qi Dv Dn a23 (Af b23) rfl (qK G7 Dn rfl (qz Jf rfl (qs Dn rfl (Ab (wq rfl (qL Co BN rfl (qL G7 Dn rfl ?_)))))))
        refine BG h fun v24 a24 h => Av [] (P6 N p0 v23 v24 a24) eQ rfl (qa rfl (Ab (wq rfl (qm rfl (Bo rfl (Ab ?_))))))
        refine A8 h (fun h => ?_) fun h => ?_
        ·refine wq rfl (qm rfl (qe rfl ?_))
         obtain rfl := sj h
         refine Ae (sm [] [(2, iD v24)] [] rfl rfl) (Ar ?_)
         exact ⟨⟨[_], tm, rfl⟩, tv⟩
        ·refine Ai (Ah Aw rfl (AW rfl (qm rfl (Ab ?_))))
         exact sn [] h
       ·refine AR ?_
        exact sn [] h
      ·refine Ae hs (wq rfl (qe rfl ?_))
       obtain rfl := sj h
       refine Ae (sm [] [(2, iD 0)] [] rfl rfl) (Ar ?_)
       exact ⟨⟨[_], tm, rfl⟩, tv⟩
def aq : Go.Shelf.Ren := ⟨fun | 6 => 77 | 14 => 111 | 15 => 112 | 20 => 140 | 21 => 141 | 22 => 142 | 23 => 143 | 24 => 144 | 25 => 145 | 26 => 146 | 27 => 147 | 28 => 148 | 29 => 149 | 46 => 168 | 47 => 169 | 48 => 170 | 49 => 171 | 50 => 172 | 57 => 179 | n => n, fun | 0 => 0 | 3 => 3 | 4 => 4 | 5 => 5 | 9 => 9 | 22 => 66 | 24 => 71 | 25 => 110 | 39 => 71 | 45 => 173 | 46 => 174 | 50 => 95 | 53 => 145 | 55 => 147 | 66 => 197 | 70 => 201 | 76 => 206 | 77 => 207 | n => n, fun n => n⟩
theorem ay : SlLaysF.n6 zA aq := { mixed := Aw, f6 := ⟨Tryz.f77.name, by decide, Tryz.func77.trans (congrArg some (by kernel_rfl))⟩, f14 := ⟨Tryz.f111.name, by decide, Tryz.func111.trans (congrArg some (by kernel_rfl))⟩, f15 := Tryz.func112.trans (congrArg some (by kernel_rfl)), f20 := ⟨Tryz.f140.name, by decide, Tryz.func140.trans (congrArg some (by kernel_rfl))⟩, f21 := ⟨Tryz.f141.name, by decide, Tryz.func141.trans (congrArg some (by kernel_rfl))⟩, f22 := ⟨Tryz.f142.name, by decide, Tryz.func142.trans (congrArg some (by kernel_rfl))⟩, f23 := ⟨Tryz.f143.name, by decide, Tryz.func143.trans (congrArg some (by kernel_rfl))⟩, f24 := ⟨Tryz.f144.name, by decide, Tryz.func144.trans (congrArg some (by kernel_rfl))⟩, f25 := ⟨Tryz.f145.name, by decide, Tryz.func145.trans (congrArg some (by kernel_rfl))⟩, f26 := ⟨Tryz.f146.name, by decide, Tryz.func146.trans (congrArg some (by kernel_rfl))⟩, f27 := ⟨Tryz.f147.name, by decide, Tryz.func147.trans (congrArg some (by kernel_rfl))⟩, f28 := Tryz.func148.trans (congrArg some (by kernel_rfl)), f29 := Tryz.func149.trans (congrArg some (by kernel_rfl)), f46 := ⟨Tryz.f168.name, by decide, Tryz.func168.trans (congrArg some (by kernel_rfl))⟩, f47 := Tryz.func169.trans (congrArg some (by kernel_rfl)), f48 := Tryz.func170.trans (congrArg some (by kernel_rfl)), f49 := ⟨Tryz.f171.name, by decide, Tryz.func171.trans (congrArg some (by kernel_rfl))⟩, f50 := ⟨Tryz.f172.name, by decide, Tryz.func172.trans (congrArg some (by kernel_rfl))⟩, f57 := ⟨Tryz.f179.name, by decide, Tryz.func179.trans (congrArg some (by kernel_rfl))⟩, t0 := Tryz.underlying0, a0 := Tryz.isAgg0, z0 := Tryz.sizeOf0, v0 := Tryz.zeroValue0, t3 := Tryz.underlying3, a3 := Tryz.isAgg3, z3 := Tryz.sizeOf3, v3 := Tryz.zeroValue3, t4 := Tryz.underlying4, a4 := Tryz.isAgg4, z4 := Tryz.sizeOf4, v4 := Tryz.zeroValue4, t5 := Tryz.underlying5, a5 := Tryz.isAgg5, z5 := Tryz.sizeOf5, v5 := Tryz.zeroValue5, t9 := Tryz.underlying9, a9 := Tryz.isAgg9, z9 := Tryz.sizeOf9, v9 := Tryz.zeroValue9, t22 := Tryz.underlying66, a22 := Tryz.isAgg66, z22 := Tryz.sizeOf66, v22 := Tryz.zeroValue66, a24 := Tryz.isAgg71, z24 := Tryz.sizeOf71, t25 := Tryz.underlying110, a25 := Tryz.isAgg110, z25 := Tryz.sizeOf110, v25 := Tryz.zeroValue110, t39 := Tryz.underlying71, a39 := Tryz.isAgg71, z39 := Tryz.sizeOf71, v39 := Tryz.zeroValue71, t45 := Tryz.underlying173, a45 := Tryz.isAgg173, z45 := Tryz.sizeOf173, v45 := Tryz.zeroValue173, t46 := Tryz.underlying174, a46 := Tryz.isAgg174, z46 := Tryz.sizeOf174, v46 := Tryz.zeroValue174, t50 := Tryz.underlying95, a50 := Tryz.isAgg95, z50 := Tryz.sizeOf95, v50 := Tryz.zeroValue95, t53 := Tryz.underlying145, a53 := Tryz.isAgg145, z53 := Tryz.sizeOf145, v53 := Tryz.zeroValue145, t55 := Tryz.underlying147, a55 := Tryz.isAgg147, z55 := Tryz.sizeOf147, v55 := Tryz.zeroValue147, t66 := Tryz.underlying197, a66 := Tryz.isAgg197, z66 := Tryz.sizeOf197, v66 := Tryz.zeroValue197, t70 := Tryz.underlying201, a70 := Tryz.isAgg201, z70 := Tryz.sizeOf201, v70 := Tryz.zeroValue201, t76 := Tryz.underlying206, a76 := Tryz.isAgg206, z76 := Tryz.sizeOf206, v76 := Tryz.zeroValue206, t77 := Tryz.underlying207, a77 := Tryz.isAgg207, z77 := Tryz.sizeOf207, v77 := Tryz.zeroValue207 }
theorem JG (N : Nat) (p0 : List Int) (p1 : (Int × Int) → Option Int) (r : List Int) (h : By N p0 p1 = some r) : ER zA 77 [oD (.own 90000), oD (.clo (Hz (aX false DL false DL) PG p1))] [(.vec 1 (p0.map DL), .vec 1 (r.map DL))] [] (.tup []) := Xj ay (t := fun n => .val (.int .u64 n)) (fun _ => rfl) Up (fun _ _ hh => of_decide_eq_true hh) h
theorem KF (N : Nat) (p0 : Int) (r : Int) (h : F8 N p0 = some r) : Ao zA 150 [pD (.val (.int .u32 p0))] [] (iD r) := by
 unfold F8 at h
 refine cw (n := 21) (rs := [.tmp 2]) Tryz.func150 fun w0 S0 => ?_
 refine wq rfl (qa rfl (Ab (wq rfl (qm rfl (G4 rfl (by decide) ?_)))))
 refine BG h fun v1 a1 h => KJ (.p rfl) rfl rfl VF a1 ?_
 refine qm rfl (G4 rfl (by decide) (IA rfl ?_))
 refine BG h fun v2 a2 h => KJ (.p rfl) rfl rfl VF a2 ?_
 refine AW rfl (qm rfl (G4 rfl (by decide) (IA rfl ?_)))
 refine BG h fun v3 a3 h => KJ (.p rfl) rfl rfl VF a3 ?_
 refine AW rfl (qm rfl (IA rfl ?_))
 refine BG h fun v4 a4 h => KJ (.p rfl) rfl rfl VF a4 ?_
 refine AW rfl (JO aD X6 rfl (qa rfl (AM (by kernel_rfl) ?_)))
 obtain rfl := sj h
 refine Ae (sm [] [(2, iD ((wI .i64 ((wI .u8 ((wI .u8 ((wI .u8 (v1 + v2)) + v3)) + v4))))))] [] rfl rfl) (Ar ?_)
 exact ⟨⟨[_], tm, rfl⟩, tv⟩
theorem KS (N : Nat) (p0 : Int) (r : Int) (h : F1 N p0 = some r) : Ao zA 151 [pD (.val (.int .u64 p0))] [] (iD r) := by
 unfold F1 at h
 refine cw (n := 35) (rs := [.tmp 2]) Tryz.func151 fun w0 S0 => ?_
 refine wq rfl (qa rfl (Ab (wq rfl (qm rfl (G4 rfl (by decide) (IA rfl (qm rfl (IA rfl (AW rfl (qa rfl (Ab (wq rfl (qm rfl (G4 rfl (by decide) (IA rfl (qm rfl (IA rfl (AW rfl (qa rfl (Ab (wq rfl (qm rfl (G4 rfl (by decide) (qm rfl (AW rfl (IA rfl (qa rfl (Ab (wq rfl (qw 2 rfl (G4 rfl (by decide) (AW rfl (qa rfl ?_)))))))))))))))))))))))))))))))))
 refine Ab (wq rfl (qw 2 rfl (G4 rfl (by decide) (AW rfl (qa rfl (Ab (wq rfl (qw 2 rfl (G4 rfl (by decide) (AW rfl (qa rfl (Ab (wq rfl (qm rfl (JO WA X6 rfl (IA rfl (qe rfl ?_)))))))))))))))))
 obtain rfl := sj h
 refine Ae (sm [] [(2, iD ((AK .i64 ((wI .i64 ((wI .u64 ((wI .u64 ((wI .u64 ((AK .u64 ((wI .u64 ((AZ .u64 ((wI .u64 ((AK .u64 ((AZ .u64 ((wI .u64 ((AK .u64 ((AZ .u64 p0 1)) 6148914691236517205) + (AK .u64 p0 6148914691236517205)))) 2)) 3689348814741910323) + (AK .u64 ((wI .u64 ((AK .u64 ((AZ .u64 p0 1)) 6148914691236517205) + (AK .u64 p0 6148914691236517205)))) 3689348814741910323)))) 4) + (wI .u64 ((AK .u64 ((AZ .u64 ((wI .u64 ((AK .u64 ((AZ .u64 p0 1)) 6148914691236517205) + (AK .u64 p0 6148914691236517205)))) 2)) 3689348814741910323) + (AK .u64 ((wI .u64 ((AK .u64 ((AZ .u64 p0 1)) 6148914691236517205) + (AK .u64 p0 6148914691236517205)))) 3689348814741910323)))))) 1085102592571150095) + (AZ .u64 ((AK .u64 ((wI .u64 ((AZ .u64 ((wI .u64 ((AK .u64 ((AZ .u64 ((wI .u64 ((AK .u64 ((AZ .u64 p0 1)) 6148914691236517205) + (AK .u64 p0 6148914691236517205)))) 2)) 3689348814741910323) + (AK .u64 ((wI .u64 ((AK .u64 ((AZ .u64 p0 1)) 6148914691236517205) + (AK .u64 p0 6148914691236517205)))) 3689348814741910323)))) 4) + (wI .u64 ((AK .u64 ((AZ .u64 ((wI .u64 ((AK .u64 ((AZ .u64 p0 1)) 6148914691236517205) + (AK .u64 p0 6148914691236517205)))) 2)) 3689348814741910323) + (AK .u64 ((wI .u64 ((AK .u64 ((AZ .u64 p0 1)) 6148914691236517205) + (AK .u64 p0 6148914691236517205)))) 3689348814741910323)))))) 1085102592571150095)) 8))) + (AZ .u64 ((wI .u64 ((AK .u64 ((wI .u64 ((AZ .u64 ((wI .u64 ((AK .u64 ((AZ .u64 ((wI .u64 ((AK .u64 ((AZ .u64 p0 1)) 6148914691236517205) + (AK .u64 p0 6148914691236517205)))) 2)) 3689348814741910323) + (AK .u64 ((wI .u64 ((AK .u64 ((AZ .u64 p0 1)) 6148914691236517205) + (AK .u64 p0 6148914691236517205)))) 3689348814741910323)))) 4) + (wI .u64 ((AK .u64 ((AZ .u64 ((wI .u64 ((AK .u64 ((AZ .u64 p0 1)) 6148914691236517205) + (AK .u64 p0 6148914691236517205)))) 2)) 3689348814741910323) + (AK .u64 ((wI .u64 ((AK .u64 ((AZ .u64 p0 1)) 6148914691236517205) + (AK .u64 p0 6148914691236517205)))) 3689348814741910323)))))) 1085102592571150095) + (AZ .u64 ((AK .u64 ((wI .u64 ((AZ .u64 ((wI .u64 ((AK .u64 ((AZ .u64 ((wI .u64 ((AK .u64 ((AZ .u64 p0 1)) 6148914691236517205) + (AK .u64 p0 6148914691236517205)))) 2)) 3689348814741910323) + (AK .u64 ((wI .u64 ((AK .u64 ((AZ .u64 p0 1)) 6148914691236517205) + (AK .u64 p0 6148914691236517205)))) 3689348814741910323)))) 4) + (wI .u64 ((AK .u64 ((AZ .u64 ((wI .u64 ((AK .u64 ((AZ .u64 p0 1)) 6148914691236517205) + (AK .u64 p0 6148914691236517205)))) 2)) 3689348814741910323) + (AK .u64 ((wI .u64 ((AK .u64 ((AZ .u64 p0 1)) 6148914691236517205) + (AK .u64 p0 6148914691236517205)))) 3689348814741910323)))))) 1085102592571150095)) 8)))) 16))) + (AZ .u64 ((wI .u64 ((wI .u64 ((AK .u64 ((wI .u64 ((AZ .u64 ((wI .u64 ((AK .u64 ((AZ .u64 ((wI .u64 ((AK .u64 ((AZ .u64 p0 1)) 6148914691236517205) + (AK .u64 p0 6148914691236517205)))) 2)) 3689348814741910323) + (AK .u64 ((wI .u64 ((AK .u64 ((AZ .u64 p0 1)) 6148914691236517205) + (AK .u64 p0 6148914691236517205)))) 3689348814741910323)))) 4) + (wI .u64 ((AK .u64 ((AZ .u64 ((wI .u64 ((AK .u64 ((AZ .u64 p0 1)) 6148914691236517205) + (AK .u64 p0 6148914691236517205)))) 2)) 3689348814741910323) + (AK .u64 ((wI .u64 ((AK .u64 ((AZ .u64 p0 1)) 6148914691236517205) + (AK .u64 p0 6148914691236517205)))) 3689348814741910323)))))) 1085102592571150095) + (AZ .u64 ((AK .u64 ((wI .u64 ((AZ .u64 ((wI .u64 ((AK .u64 ((AZ .u64 ((wI .u64 ((AK .u64 ((AZ .u64 p0 1)) 6148914691236517205) + (AK .u64 p0 6148914691236517205)))) 2)) 3689348814741910323) + (AK .u64 ((wI .u64 ((AK .u64 ((AZ .u64 p0 1)) 6148914691236517205) + (AK .u64 p0 6148914691236517205)))) 3689348814741910323)))) 4) + (wI .u64 ((AK .u64 ((AZ .u64 ((wI .u64 ((AK .u64 ((AZ .u64 p0 1)) 6148914691236517205) + (AK .u64 p0 6148914691236517205)))) 2)) 3689348814741910323) + (AK .u64 ((wI .u64 ((AK .u64 ((AZ .u64 p0 1)) 6148914691236517205) + (AK .u64 p0 6148914691236517205)))) 3689348814741910323)))))) 1085102592571150095)) 8))) + (AZ .u64 ((wI .u64 ((AK .u64 ((wI .u64 ((AZ .u64 ((wI .u64 ((AK .u64 ((AZ .u64 ((wI .u64 ((AK .u64 ((AZ .u64 p0 1)) 6148914691236517205) + (AK .u64 p0 6148914691236517205)))) 2)) 3689348814741910323) + (AK .u64 ((wI .u64 ((AK .u64 ((AZ .u64 p0 1)) 6148914691236517205) + (AK .u64 p0 6148914691236517205)))) 3689348814741910323)))) 4) + (wI .u64 ((AK .u64 ((AZ .u64 ((wI .u64 ((AK .u64 ((AZ .u64 p0 1)) 6148914691236517205) + (AK .u64 p0 6148914691236517205)))) 2)) 3689348814741910323) + (AK .u64 ((wI .u64 ((AK .u64 ((AZ .u64 p0 1)) 6148914691236517205) + (AK .u64 p0 6148914691236517205)))) 3689348814741910323)))))) 1085102592571150095) + (AZ .u64 ((AK .u64 ((wI .u64 ((AZ .u64 ((wI .u64 ((AK .u64 ((AZ .u64 ((wI .u64 ((AK .u64 ((AZ .u64 p0 1)) 6148914691236517205) + (AK .u64 p0 6148914691236517205)))) 2)) 3689348814741910323) + (AK .u64 ((wI .u64 ((AK .u64 ((AZ .u64 p0 1)) 6148914691236517205) + (AK .u64 p0 6148914691236517205)))) 3689348814741910323)))) 4) + (wI .u64 ((AK .u64 ((AZ .u64 ((wI .u64 ((AK .u64 ((AZ .u64 p0 1)) 6148914691236517205) + (AK .u64 p0 6148914691236517205)))) 2)) 3689348814741910323) + (AK .u64 ((wI .u64 ((AK .u64 ((AZ .u64 p0 1)) 6148914691236517205) + (AK .u64 p0 6148914691236517205)))) 3689348814741910323)))))) 1085102592571150095)) 8)))) 16)))) 32)))))) 127)))] [] rfl rfl) (Ar ?_)
 exact ⟨⟨[_], tm, rfl⟩, tv⟩
theorem IC (N : Nat) (p0 : Int) (r : Int) (h : Fp N p0 = some r) : Ao zA 113 [pD (.val (.int .u64 p0))] [] (iD r) := by
 unfold Fp at h
 refine cw (n := 8) (rs := [.tmp 2]) Tryz.func113 fun w0 S0 => ?_
 refine wq rfl (qa rfl (Ab (AL ?_)))
 refine A8 h (fun h => ?_) fun h => ?_
 ·refine wq rfl (qm rfl (JO YX ST rfl ?_))
  refine BG h fun v2 a2 h => Av [] (KF N ((wI .u32 p0)) v2 a2) bU rfl (qe rfl ?_)
  obtain rfl := sj h
  refine Ae (sm [] [(2, iD v2)] [] rfl rfl) (Ar ?_)
  exact ⟨⟨[_], tm, rfl⟩, tv⟩
 ·refine Ai (wq rfl (qm rfl ?_))
  refine BG h fun v3 a3 h => Av [] (KS N p0 v3 a3) cX rfl (qe rfl ?_)
  obtain rfl := sj h
  refine Ae (sm [] [(2, iD v3)] [] rfl rfl) (Ar ?_)
  exact ⟨⟨[_], tm, rfl⟩, tv⟩
def aN : Go.Shelf.Ren := ⟨fun | 27 => 82 | 28 => 115 | 29 => 116 | n => n, fun | 0 => 0 | 3 => 3 | 4 => 4 | 5 => 5 | 22 => 147 | 25 => 71 | 27 => 145 | 53 => 180 | 54 => 181 | n => n, fun | 0 => 0 | 1 => 1 | n => n⟩
theorem ZR : Lays7.n27 zA aN := { mixed := Aw, f27 := Tryz.func82.trans (congrArg some (by kernel_rfl)), f28 := Tryz.func115.trans (congrArg some (by kernel_rfl)), f29 := Tryz.func116.trans (congrArg some (by kernel_rfl)), t0 := Tryz.underlying0, a0 := Tryz.isAgg0, z0 := Tryz.sizeOf0, v0 := Tryz.zeroValue0, i0 := by kernel_rfl, t3 := Tryz.underlying3, a3 := Tryz.isAgg3, z3 := Tryz.sizeOf3, v3 := Tryz.zeroValue3, i3 := by kernel_rfl, t4 := Tryz.underlying4, a4 := Tryz.isAgg4, z4 := Tryz.sizeOf4, v4 := Tryz.zeroValue4, i4 := by kernel_rfl, t5 := Tryz.underlying5, a5 := Tryz.isAgg5, z5 := Tryz.sizeOf5, v5 := Tryz.zeroValue5, i5 := by kernel_rfl, t22 := Tryz.underlying147, a22 := Tryz.isAgg147, z22 := Tryz.sizeOf147, v22 := Tryz.zeroValue147, i22 := by kernel_rfl, t25 := Tryz.underlying71, a25 := Tryz.isAgg71, z25 := Tryz.sizeOf71, v25 := Tryz.zeroValue71, i25 := by kernel_rfl, t27 := Tryz.underlying145, a27 := Tryz.isAgg145, z27 := Tryz.sizeOf145, v27 := Tryz.zeroValue145, i27 := by kernel_rfl, t53 := Tryz.underlying180, a53 := Tryz.isAgg180, z53 := Tryz.sizeOf180, v53 := Tryz.zeroValue180, i53 := by kernel_rfl, t54 := Tryz.underlying181, a54 := Tryz.isAgg181, z54 := Tryz.sizeOf181, g0 := by kernel_rfl, g1 := by kernel_rfl }
theorem Kf (N : Nat) (p0 : Int) (r : Int) (h : Hh N p0 = some r) : Ao zA 82 [pD (.val (.int .u64 p0))] [] (iD r) := eS ZR (by kernel_rfl) h
theorem G8 (N : Nat) (p0 : Int) (r : (List Int)) (h : Bs N p0 = some r) : Ao zA 52 [pD (.val (.int .u64 p0))] [(1, r.map Aj)] (oD (.own 0)) := by
 unfold Bs at h
 refine cw (n := 18) (rs := [.tmp 2]) Tryz.func52 fun w0 S0 => ?_
 refine wq rfl (qa rfl (Ab (wq rfl (qa rfl (Ab (wp rfl (qm rfl (qe rfl ?_))))))))
 refine AC (L := GD N) h (fun v1 => mk [(3, oD (.own 2001)), (4, pD (.val (.int .u64 v1.2)))] [(2001, .vec 1 (v1.1.map Aj))]) (fun v2 => mk [(3, oD (.own 2002))] [(2002, .vec 1 (v2.map Aj))]) (fun _ _ => rfl) ((AT 3 2003 1 rfl rfl rfl).trans (sm [(2001, 2003)] _ _ rfl rfl)) (fun j1 n1 v1 h => ?_) (fun v2 s h hs => ?_)
 ·unfold GD at h
  refine wp rfl (qm rfl (Bo rfl (Ab ?_)))
  refine A8 h (fun h => ?_) fun h => ?_
  ·refine Ai (AL (AH (Ah Aw rfl (qw 2 rfl ?_))))
   refine BG h fun v4 a4 h => Av [] (Kf N v1.2 v4 a4) d1 rfl (Dg As Cp IM rfl ?_)
   refine FL h fun c5 h => Ce (f := Aj) As As Cp JN IM c5 rfl (qa rfl (Ab (Ah Aw rfl (qw 2 rfl (Ko rfl (IA rfl (qe rfl ?_)))))))
   exact sn [(2001, 16)] h
  ·refine AR ?_
   exact sn [(2002, 2001)] h
 ·refine Ae hs (wq rfl (qm rfl (qe rfl ?_)))
  obtain rfl := sj h
  refine Ae (sm [(1000, 2002)] [(2, oD (.own 1000))] [(1000, .vec 1 (v2.map Aj))] rfl rfl) (Ar ?_)
  exact ⟨⟨[_], tm, rfl⟩, ⟨rfl, tv⟩⟩
theorem Lm (N : Nat) (p0 : Int) (r : Bool) (h : Hk N p0 = some r) : Ao zA 173 [iD p0] [] (bD r) := by
 unfold Hk at h
 refine cw (n := 6) (rs := [.tmp 2]) Tryz.func173 fun w0 S0 => ?_
 refine wq rfl (qa rfl (Ab (wq rfl (qw 2 rfl (Bo rfl (qe rfl ?_))))))
 obtain rfl := sj h
 refine Ae (sm [] [(2, bD ((p0 != p0)))] [] rfl rfl) (Ar ?_)
 exact ⟨⟨[_], tm, rfl⟩, tv⟩
theorem NP (N : Nat) (p0 : Int) (p1 : Int) (r : Int) (h : HW N p0 p1 = some r) : Ao zA 152 [iD p0, iD p1] [] (iD r) := by
 unfold HW at h
 refine cw (n := 20) (rs := [.tmp 4]) Tryz.func152 fun w0 S0 => ?_
 refine wq rfl (qa rfl (Ab (wq rfl (qm rfl ?_))))
 refine BG h fun v1 a1 h => Av [] (Lm N p0 v1 a1) Zy rfl (qa rfl (Ab (wq rfl (qm rfl ?_))))
 refine BG h fun v2 a2 h => Av [] (Lm N p1 v2 a2) Zy rfl (qa rfl (Ab (wp rfl (qm rfl (Ab ?_)))))
 refine A8 h (fun h => ?_) fun h => ?_
 ·refine wp rfl (qm rfl (Ab ?_))
  refine A8 h (fun h => ?_) fun h => ?_
  ·refine wq rfl (qe rfl ?_)
   obtain rfl := sj h
   refine Ae (sm [] [(4, iD 0)] [] rfl rfl) (Ar ?_)
   exact ⟨⟨[_], tm, rfl⟩, tv⟩
  ·refine Ai (wq rfl (qe rfl ?_))
   obtain rfl := sj h
   refine Ae (sm [] [(4, iD ((-1)))] [] rfl rfl) (Ar ?_)
   exact ⟨⟨[_], tm, rfl⟩, tv⟩
 ·refine Ai (wp rfl (qm rfl (Ab ?_)))
  refine A8 h (fun h => ?_) fun h => ?_
  ·refine wq rfl (qe rfl ?_)
   obtain rfl := sj h
   refine Ae (sm [] [(4, iD 1)] [] rfl rfl) (Ar ?_)
   exact ⟨⟨[_], tm, rfl⟩, tv⟩
  ·refine Ai (wp rfl (qw 2 rfl (AV rfl (Ab ?_))))
   refine A8 h (fun h => ?_) fun h => ?_
   ·refine wq rfl (qe rfl ?_)
    obtain rfl := sj h
    refine Ae (sm [] [(4, iD ((-1)))] [] rfl rfl) (Ar ?_)
    exact ⟨⟨[_], tm, rfl⟩, tv⟩
   ·refine Ai (wp rfl (qw 2 rfl (GQ rfl (Ab ?_))))
    refine A8 h (fun h => ?_) fun h => ?_
    ·refine wq rfl (qe rfl ?_)
     obtain rfl := sj h
     refine Ae (sm [] [(4, iD 1)] [] rfl rfl) (Ar ?_)
     exact ⟨⟨[_], tm, rfl⟩, tv⟩
    ·refine Ai (wq rfl (qe rfl ?_))
     obtain rfl := sj h
     refine Ae (sm [] [(4, iD 0)] [] rfl rfl) (Ar ?_)
     exact ⟨⟨[_], tm, rfl⟩, tv⟩
theorem Ky (N : Nat) (p0 : List Int) (p1 : List Int) (r : Int) (h : FM N p0 p1 = some r) : Ao zA 114 [pD (.sl (p0.map Aj)), pD (.sl (p1.map Aj))] [] (iD r) := by
 unfold FM at h
 refine cw (n := 36) (rs := [.tmp 4]) Tryz.func114 fun w0 S0 => ?_
 refine wq rfl (qa rfl (Ab (wp rfl (qm rfl (AJ As rfl (qm rfl (Ab ?_)))))))
 refine AC (L := D3 N p0 p1) h (fun v1 => mk [(0, pD (.sl (p0.map Aj))), (1, pD (.sl (p1.map Aj))), (9, pD (.sl (p0.map Aj))), (10, iD ((p0.length : Int))), (11, iD v1)] []) (fun v2 => mk [(0, pD (.sl (p0.map Aj))), (1, pD (.sl (p1.map Aj)))] []) (fun _ _ => rfl) (sm [] _ _ rfl rfl) (fun j1 n1 v1 h => ?_) (fun v2 s h hs => ?_)
 ·unfold D3 at h
  refine wq rfl (AV rfl (Ab (AL ?_)))
  refine A8 h (fun h => ?_) fun h => ?_
  ·refine Ai (AL (AH (wq rfl (qm rfl ?_))))
   refine BD h fun v4 a4 b4 h => qi As Cp a4 (Af b4) rfl (qk BY rfl (qa rfl (qa rfl (Ab (wp rfl (qw 2 rfl (AJ As rfl (EI rfl (Ab ?_)))))))))
   refine A8 h (fun h => ?_) fun h => ?_
   ·refine wq rfl (qe rfl ?_)
    obtain rfl := sj h
    refine Ae (sm [] [(4, iD 1)] [] rfl rfl) (Ar ?_)
    exact ⟨⟨[_], tm, rfl⟩, tv⟩
   ·refine Ai (wq rfl (qw 2 rfl ?_))
    refine BD h fun v6 a6 b6 h => qi As Cp a6 (Af b6) rfl (qk BY rfl (qa rfl (Ab (wq rfl (qw 2 rfl ?_)))))
    refine BG h fun v7 a7 h => Av [] (NP N v4 v6 v7 a7) bc rfl (qa rfl (Ab (wq rfl (qm rfl (Bo rfl (Ab ?_))))))
    refine A8 h (fun h => ?_) fun h => ?_
    ·refine wq rfl (qm rfl (qe rfl ?_))
     obtain rfl := sj h
     refine Ae (sm [] [(4, iD v7)] [] rfl rfl) (Ar ?_)
     exact ⟨⟨[_], tm, rfl⟩, tv⟩
    ·refine Ai (Ah Aw rfl (AW rfl (qm rfl (Ab ?_))))
     exact sn [] h
  ·refine AR ?_
   exact sn [] h
 ·refine Ae hs (wp rfl (qm rfl (AJ As rfl (qm rfl (AJ As rfl (AV rfl (Ab ?_)))))))
  refine A8 h (fun h => ?_) fun h => ?_
  ·refine wq rfl (qe rfl ?_)
   obtain rfl := sj h
   refine Ae (sm [] [(4, iD ((-1)))] [] rfl rfl) (Ar ?_)
   exact ⟨⟨[_], tm, rfl⟩, tv⟩
  ·refine Ai (wq rfl (qe rfl ?_))
   obtain rfl := sj h
   refine Ae (sm [] [(4, iD 0)] [] rfl rfl) (Ar ?_)
   exact ⟨⟨[_], tm, rfl⟩, tv⟩
theorem P1 (N : Nat) (p0 : Int) (p1 : Int) (r : Int) (h : DE N p0 p1 = some r) : Ao zA 78 [pD (.val (.int .u64 p0)), pD (.val (.int .u64 p1))] [] (iD r) := by
 unfold DE at h
 refine cw (n := 19) (rs := [.tmp 4]) Tryz.func78 fun w0 S0 => ?_
 refine wq rfl (qa rfl (Ab (wp rfl (qm rfl ?_))))
 refine BG h fun v1 a1 h => Av [] (IC N p0 v1 a1) ZC rfl (qm rfl ?_)
 refine BG h fun v2 a2 h => Av [] (IC N p1 v2 a2) ZC rfl (Ko rfl (qa rfl (Ab (wq rfl (qm rfl (Bo rfl (Ab ?_)))))))
 refine A8 h (fun h => ?_) fun h => ?_
 ·refine wq rfl (qm rfl (qe rfl ?_))
  obtain rfl := sj h
  refine Ae (sm [] [(4, iD ((wI .i64 (v1 - v2))))] [] rfl rfl) (Ar ?_)
  exact ⟨⟨[_], tm, rfl⟩, tv⟩
 ·refine Ai (wq rfl (qm rfl ?_))
  refine BG h fun v4 a4 h => Av [2001] (G8 N p0 v4 a4) Wy rfl (qm rfl ?_)
  refine BG h fun v5 a5 h => Av [2002] (G8 N p1 v5 a5) Wy rfl ?_
  refine BG h fun v6 a6 h => Du [] [2001, 2002] (Ky N v4 v5 v6 a6) dp B4 rfl (qe rfl ?_)
  obtain rfl := sj h
  refine Ae (sm [] [(4, iD v6)] [] rfl rfl) (Ar ?_)
  exact ⟨⟨[_], tm, rfl⟩, tv⟩
theorem Im (N : Nat) (p0 : List Int) (p1 : Int) (r : Int) (h : Dp N p0 p1 = some r) : Ao zA 72 [pD (.sl (p0.map Aj)), iD p1] [] (iD r) := by
 unfold Dp at h
 refine cw (n := 19) (rs := [.tmp 4]) Tryz.func72 fun w0 S0 => ?_
 refine wq rfl (qa rfl (Ab (wp rfl (qm rfl (AJ As rfl (qm rfl (Ab ?_)))))))
 refine AC (L := BS N p0 p1) h (fun v1 => mk [(0, pD (.sl (p0.map Aj))), (1, iD p1), (7, iD ((p0.length : Int))), (8, iD v1)] []) (fun v2 => mk [] []) (fun _ _ => rfl) (sm [] _ _ rfl rfl) (fun j1 n1 v1 h => ?_) (fun v2 s h hs => ?_)
 ·unfold BS at h
  refine wq rfl (AV rfl (Ab (AL ?_)))
  refine A8 h (fun h => ?_) fun h => ?_
  ·refine Ai (AL (AH (wq rfl (qm rfl (qa rfl (Ab (wq rfl (qw 3 rfl ?_))))))))
   refine BD h fun v4 a4 b4 h => qi As Cp a4 (Af b4) rfl (qk BY rfl (B1 rfl (Ab ?_)))
   refine A8 h (fun h => ?_) fun h => ?_
   ·refine wq rfl (qm rfl (qe rfl ?_))
    obtain rfl := sj h
    refine Ae (sm [] [(4, iD v1)] [] rfl rfl) (Ar ?_)
    exact ⟨⟨[_], tm, rfl⟩, tv⟩
   ·refine Ai (Ah Aw rfl (AW rfl (qm rfl (Ab ?_))))
    exact sn [] h
  ·refine AR ?_
   exact sn [] h
 ·refine Ae hs (wq rfl (qe rfl ?_))
  obtain rfl := sj h
  refine Ae (sm [] [(4, iD ((-1)))] [] rfl rfl) (Ar ?_)
  exact ⟨⟨[_], tm, rfl⟩, tv⟩
theorem HO (N : Nat) (p0 : List (List Bool)) (r : (List (List Bool))) (h : C3 N p0 = some r) : Ao zA 102 [pD (.sl (p0.map (ED eB)))] [(1, r.map (ED eB))] (oD (.own 0)) := by
 unfold C3 at h
 refine cw (n := 8) (rs := [.tmp 2]) Tryz.func102 fun w0 S0 => ?_
 refine wq rfl (qa rfl (Ab (wp rfl (qm rfl ?_))))
 refine Ny (.p rfl) rfl EL ?_
 refine Ab ?_
 refine Nf rfl (fun c2 => ?_) ?_
 ·have c2 := uB.1 c2
  rw [c2] at h
  have h : (some (([] : List (List Bool)))) = some r := h
  refine wq rfl (qe rfl ?_)
  obtain rfl := sj h
  refine Ae ((AT 2 2001 1 rfl rfl rfl).trans (sm [(1000, 2001)] [(2, oD (.own 1000))] [(1000, .vec 1 ((([] : List (List Bool))).map (ED eB)))] rfl rfl)) (Ar ?_)
  exact ⟨⟨[_], tm, rfl⟩, ⟨rfl, tv⟩⟩
 ·refine Ai (wq rfl (Dg EL JM TX rfl (qm rfl ?_)))
  refine FL h fun c1 h => Jb (f := (ED eB)) EL EL JM WL TX (fun _ => rfl) c1 rfl (qe rfl ?_)
  obtain rfl := sj h
  refine Ae (sm [(1000, 7)] [(2, oD (.own 1000))] [(1000, .vec 1 (((([] : List (List Bool))) ++ p0).map (ED eB)))] rfl rfl) (Ar ?_)
  exact ⟨⟨[_], tm, rfl⟩, ⟨rfl, tv⟩⟩
theorem Hb (N : Nat) (p0 : List Bool) (r : (List Bool)) (h : CF N p0 = some r) : Ao zA 103 [pD (.sl (p0.map eB))] [(1, r.map eB)] (oD (.own 0)) := by
 unfold CF at h
 refine cw (n := 8) (rs := [.tmp 2]) Tryz.func103 fun w0 S0 => ?_
 refine wq rfl (qa rfl (Ab (wp rfl (qm rfl ?_))))
 refine Ny (.p rfl) rfl ES ?_
 refine Ab ?_
 refine Nf rfl (fun c2 => ?_) ?_
 ·have c2 := uB.1 c2
  rw [c2] at h
  have h : (some (([] : List Bool))) = some r := h
  refine wq rfl (qe rfl ?_)
  obtain rfl := sj h
  refine Ae ((AT 2 2001 1 rfl rfl rfl).trans (sm [(1000, 2001)] [(2, oD (.own 1000))] [(1000, .vec 1 ((([] : List Bool)).map eB))] rfl rfl)) (Ar ?_)
  exact ⟨⟨[_], tm, rfl⟩, ⟨rfl, tv⟩⟩
 ·refine Ai (wq rfl (Dg ES Oq Sn rfl (qm rfl ?_)))
  refine FL h fun c1 h => Jb (f := eB) ES ES Oq VV Sn (fun _ => rfl) c1 rfl (qe rfl ?_)
  obtain rfl := sj h
  refine Ae (sm [(1000, 7)] [(2, oD (.own 1000))] [(1000, .vec 1 (((([] : List Bool)) ++ p0).map eB))] rfl rfl) (Ar ?_)
  exact ⟨⟨[_], tm, rfl⟩, ⟨rfl, tv⟩⟩
theorem PD (N : Nat) (p0 : An) (r : An) (h : GO N p0 = some r) : Ao zA 73 [.e (.agg (Bc p0))] [(1, r.fr.map (ED eB)), (1, r.fm.map (ED eB))] (.e (.agg [iC r.fg, iC r.fh, iC r.fk, .pure (.val (.bool r.ft)), .own 0, .own 1])) := by
 unfold GO at h
 refine cw (n := 48) (rs := [.cell 2 84]) Tryz.func73 fun w0 S0 => ?_
 refine wq rfl (qb rfl (qz Jf rfl (Ab (wq rfl (qf Hn rfl (ql ID rfl ?_))))))
 refine BG h fun v1 a1 h => Av [2001] (HO N p0.fr v1 a1) Zw rfl (qf FG rfl (ql ID rfl ?_))
 refine BG h fun v2 a2 h => Av [2002] (HO N p0.fm v2 a2) Zw rfl (qf Hn rfl (qs X8 rfl (qf FG rfl (qs X8 rfl (AM (by kernel_rfl) (wp rfl (qf Hn rfl (ql ID rfl (D6 EL rfl (qm rfl (Ab ?_)))))))))))
 refine AC (L := D5 N v1) h (fun v3 => mk [(1, oD (.ptr 1 0)), (2, oD (.ptr 2 0)), (15, iD ((v1.length : Int))), (16, iD v3.2)] [(1, .box [iC p0.fg, iC p0.fh, iC p0.fk, .pure (.val (.bool p0.ft)), .own 2003, .own 2004]), (2, .box [iC 0, iC 0, iC 0, .pure (.val (.bool false)), .pure (.nil0), .pure (.nil0)]), (2003, .vec 1 (v3.1.map (ED eB))), (2004, .vec 1 (v2.map (ED eB)))]) (fun v4 => mk [(1, oD (.ptr 1 0)), (2, oD (.ptr 2 0))] [(1, .box [iC p0.fg, iC p0.fh, iC p0.fk, .pure (.val (.bool p0.ft)), .own 2005, .own 2006]), (2, .box [iC 0, iC 0, iC 0, .pure (.val (.bool false)), .pure (.nil0), .pure (.nil0)]), (2005, .vec 1 (v4.map (ED eB))), (2006, .vec 1 (v2.map (ED eB)))]) (fun _ _ => rfl) (sm [(2003, 2001), (2004, 2002)] _ _ rfl rfl) (fun j3 n3 v3 h => ?_) (fun v4 s h hs => ?_)
 ·unfold D5 at h
  refine wq rfl (AV rfl (Ab (AL ?_)))
  refine A8 h (fun h => ?_) fun h => ?_
  ·refine Ai (AL (AH (wq rfl (qm rfl (qa rfl (Ab (Ah Aw rfl (qf Hn rfl (ql ID rfl (qm rfl (qf Hn rfl (ql ID rfl (qm rfl ?_)))))))))))))
   refine BD h fun v6 a6 b6 h => qI EL JM a6 (Af b6) rfl (qj OJ (Af b6) rfl ?_)
   refine BG h fun v7 a7 h => Av [] ((Hb N v6 v7 a7).share rfl) ZM rfl ?_
   refine BD h fun v8 a8 b8 h => qI EL JM a8 (Af b8) rfl ?_
   refine DJ rfl rfl rfl rfl (Af b8) rfl JM rfl (Jo rfl) (DB (ED eB) v3.1 _ v7) ?_
   refine AM (by kernel_rfl) (Ah Aw rfl (AW rfl (qm rfl (Ab ?_))))
   exact sn [] h
  ·refine AR ?_
   exact sn [(2005, 2003), (2006, 2004)] h
 ·refine Ae hs (wp rfl (qf FG rfl (ql ID rfl (D6 EL rfl (qm rfl (Ab ?_))))))
  refine AC (L := C7 N v2) h (fun v9 => mk [(1, oD (.ptr 1 0)), (2, oD (.ptr 2 0)), (32, iD ((v2.length : Int))), (33, iD v9.2)] [(1, .box [iC p0.fg, iC p0.fh, iC p0.fk, .pure (.val (.bool p0.ft)), .own 2007, .own 2008]), (2, .box [iC 0, iC 0, iC 0, .pure (.val (.bool false)), .pure (.nil0), .pure (.nil0)]), (2007, .vec 1 (v4.map (ED eB))), (2008, .vec 1 (v9.1.map (ED eB)))]) (fun v10 => mk [(1, oD (.ptr 1 0)), (2, oD (.ptr 2 0))] [(1, .box [iC p0.fg, iC p0.fh, iC p0.fk, .pure (.val (.bool p0.ft)), .own 2009, .own 2010]), (2, .box [iC 0, iC 0, iC 0, .pure (.val (.bool false)), .pure (.nil0), .pure (.nil0)]), (2009, .vec 1 (v4.map (ED eB))), (2010, .vec 1 (v10.map (ED eB)))]) (fun _ _ => rfl) (sm [(2007, 2005), (2008, 2006)] _ _ rfl rfl) (fun j9 n9 v9 h => ?_) (fun v10 s h hs => ?_)
  ·unfold C7 at h
   refine wq rfl (AV rfl (Ab (AL ?_)))
   refine A8 h (fun h => ?_) fun h => ?_
   ·refine Ai (AL (AH (wq rfl (qm rfl (qa rfl (Ab (Ah Aw rfl (qf FG rfl (ql ID rfl (qm rfl (qf FG rfl (ql ID rfl (qm rfl ?_)))))))))))))
    refine BD h fun v12 a12 b12 h => qI EL JM a12 (Af b12) rfl (qj OJ (Af b12) rfl ?_)
    refine BG h fun v13 a13 h => Av [] ((Hb N v12 v13 a13).share rfl) ZM rfl ?_
    refine BD h fun v14 a14 b14 h => qI EL JM a14 (Af b14) rfl ?_
    refine DJ rfl rfl rfl rfl (Af b14) rfl JM rfl (Jo rfl) (DB (ED eB) v9.1 _ v13) ?_
    refine AM (by kernel_rfl) (Ah Aw rfl (AW rfl (qm rfl (Ab ?_))))
    exact sn [] h
   ·refine AR ?_
    exact sn [(2009, 2007), (2010, 2008)] h
  ·refine Ae hs (wq rfl (qL G7 Dn rfl (qs Dn rfl (Ab ?_))))
   obtain rfl := sj h
   refine Ae (sm [(1000, 2009), (1001, 2010)] [(2, oD (.ptr 2 0))] [(2, .box [iC p0.fg, iC p0.fh, iC p0.fk, .pure (.val (.bool p0.ft)), .own 1000, .own 1001]), (1000, .vec 1 (v4.map (ED eB))), (1001, .vec 1 (v10.map (ED eB)))] rfl rfl) (Ar ?_)
   exact ⟨⟨[_], ⟨.cellN _ _ _ _ _ _ _ rfl rfl G7 Dn rfl rfl (Jx rfl), tv⟩, rfl⟩, ⟨rfl, rfl, tv⟩⟩
theorem N4 (N : Nat) (p0 : Aa) (p1 : List Int) (r : Aa × Int) (h : FV N p0 p1 = some r) : Ao zA 39 [.e (.agg (Ag p0)), pD (.sl (p1.map Aj))] [(1, r.1.fb.map Aj), (1, r.1.fj.map Aj), (1, r.1.fo.map Aj), (6, r.1.fd.map AN)] (.tup [.agg [.own 0, .own 1, .own 2, .own 3], .one (iC r.2)]) := by
 unfold FV at h
 refine cw (n := 121) (rs := [.cell 4 29, .tmp 5]) Tryz.func39 fun w0 S0 => ?_
 refine wq rfl (qb rfl (qz Kx rfl (qa rfl (Ab (wp rfl (qL Co BN rfl ?_))))))
 refine BG h fun v1 a1 h => Av [] (E6 N p0 v1 a1) Wz rfl (qa rfl (Ab (wq rfl (qm rfl (Bo rfl (Ab ?_))))))
 refine A8 h (fun h => ?_) fun h => ?_
 ·refine wq rfl (Bk Kx S8 rfl (qm rfl (qs BN rfl (qe rfl ?_))))
  obtain rfl := sj h
  refine Ae ((Aq 4 0 2001 1 _ rfl rfl rfl rfl).trans ((Aq 4 1 2002 1 _ rfl rfl rfl rfl).trans ((Aq 4 2 2003 1 _ rfl rfl rfl rfl).trans ((Aq 4 3 2004 6 _ rfl rfl rfl rfl).trans (sm [(1000, 2001), (1001, 2002), (1002, 2003), (1003, 2004)] [(4, oD (.ptr 4 0)), (5, iD v1)] [(4, .box [.own 1000, .own 1001, .own 1002, .own 1003]), (1000, .vec 1 ((([] : List Int)).map Aj)), (1001, .vec 1 ((([] : List Int)).map Aj)), (1002, .vec 1 ((([] : List Int)).map Aj)), (1003, .vec 6 ((([] : List An)).map AN))] rfl rfl))))) (Ar ?_)
  exact ⟨⟨[_, _], ⟨.cellN _ _ _ _ _ _ _ rfl rfl Co BN rfl rfl (Jx rfl), tm⟩, rfl⟩, ⟨rfl, rfl, rfl, rfl, tv⟩⟩
 ·refine Ai (wp rfl (qm rfl (AJ As rfl (qm rfl (Ab ?_)))))
  refine AC (L := Cx N p1) h (fun v3 => mk [(1, pD (.sl (p1.map Aj))), (2, oD (.ptr 2 0)), (4, oD (.ptr 4 0)), (22, iD ((p1.length : Int))), (23, iD v3)] [(2, .box (Ag p0)), (4, .box [.pure (.nil0), .pure (.nil0), .pure (.nil0), .pure (.nil0)])]) (fun v4 => mk [(1, pD (.sl (p1.map Aj))), (2, oD (.ptr 2 0)), (4, oD (.ptr 4 0))] [(2, .box (Ag p0)), (4, .box [.pure (.nil0), .pure (.nil0), .pure (.nil0), .pure (.nil0)])]) (fun _ _ => rfl) (sm [] _ _ rfl rfl) (fun j3 n3 v3 h => ?_) (fun v4 s h hs => ?_)
  ·unfold Cx at h
   refine wq rfl (AV rfl (Ab (AL ?_)))
   refine A8 h (fun h => ?_) fun h => ?_
   ·refine Ai (AL (AH (wq rfl (qm rfl (qe rfl ?_)))))
    refine AS h (fun v6 => mk [(1, pD (.sl (p1.map Aj))), (2, oD (.ptr 2 0)), (4, oD (.ptr 4 0)), (22, iD ((p1.length : Int))), (23, iD v3), (39, bD v6)] [(2, .box (Ag p0)), (4, .box [.pure (.nil0), .pure (.nil0), .pure (.nil0), .pure (.nil0)])]) (fun j6 h => ?_) (fun v6 h => ?_)
    ·refine Ah Aw rfl (qm rfl (GQ rfl (qm rfl ?_)))
     refine Eu 28 h rfl (fun h => ?_) fun h => ?_
     ·refine qw 2 rfl ?_
      refine BD h fun v8 a8 b8 h => qi As Cp a8 (Af b8) rfl (qk BY rfl (qw 2 rfl (Ko rfl ?_)))
      refine BD h fun v9 a9 b9 h => qi As Cp a9 (Af b9) rfl (qk BY rfl (Vj rfl (qp rfl (AM (by kernel_rfl) ?_))))
      exact sn [] h
     ·refine qw 10 rfl (qp rfl (AM (by kernel_rfl) ?_))
      exact sn [] h
    ·refine A8 h (fun h => ?_) fun h => ?_
     ·refine wq rfl (Bk Kx S8 rfl (qs BN rfl (qe rfl ?_)))
      obtain rfl := sj h
      refine Ae ((Aq 4 0 2005 1 _ rfl rfl rfl rfl).trans ((Aq 4 1 2006 1 _ rfl rfl rfl rfl).trans ((Aq 4 2 2007 1 _ rfl rfl rfl rfl).trans ((Aq 4 3 2008 6 _ rfl rfl rfl rfl).trans (sm [(1000, 2005), (1001, 2006), (1002, 2007), (1003, 2008)] [(4, oD (.ptr 4 0)), (5, iD 1)] [(4, .box [.own 1000, .own 1001, .own 1002, .own 1003]), (1000, .vec 1 ((([] : List Int)).map Aj)), (1001, .vec 1 ((([] : List Int)).map Aj)), (1002, .vec 1 ((([] : List Int)).map Aj)), (1003, .vec 6 ((([] : List An)).map AN))] rfl rfl))))) (Ar ?_)
      exact ⟨⟨[_, _], ⟨.cellN _ _ _ _ _ _ _ rfl rfl Co BN rfl rfl (Jx rfl), tm⟩, rfl⟩, ⟨rfl, rfl, rfl, rfl, tv⟩⟩
     ·refine Ai (Ah Aw rfl (AW rfl (qm rfl (Ab ?_))))
      exact sn [] h
   ·refine AR ?_
    exact sn [] h
  ·refine Ae hs (wq rfl (qz Kx rfl (Ab (wp rfl (qm rfl (AJ As rfl (qm rfl (Ab ?_))))))))
   refine AC (L := DV N p0 p1) h (fun v11 => mk [(1, pD (.sl (p1.map Aj))), (2, oD (.ptr 2 0)), (4, oD (.ptr 4 0)), (8, oD (.ptr 8 0)), (42, pD (.sl (p1.map Aj))), (43, iD ((p1.length : Int))), (44, iD v11.2.2.2)] [(2, .box (Ag p0)), (4, .box [.pure (.nil0), .pure (.nil0), .pure (.nil0), .pure (.nil0)]), (8, .box [.own 2009, .own 2010, .own 2011, .pure (.nil0)]), (2009, .vec 1 (v11.1.map Aj)), (2010, .vec 1 (v11.2.1.map Aj)), (2011, .vec 1 (v11.2.2.1.map Aj))]) (fun v12 => mk [(1, pD (.sl (p1.map Aj))), (2, oD (.ptr 2 0)), (4, oD (.ptr 4 0)), (8, oD (.ptr 8 0))] [(2, .box (Ag p0)), (4, .box [.pure (.nil0), .pure (.nil0), .pure (.nil0), .pure (.nil0)]), (8, .box [.own 2012, .own 2013, .own 2014, .pure (.nil0)]), (2012, .vec 1 (v12.1.map Aj)), (2013, .vec 1 (v12.2.1.map Aj)), (2014, .vec 1 (v12.2.2.map Aj))]) (fun _ _ => rfl) ((Aq 8 0 2019 1 _ rfl rfl rfl rfl).trans ((Aq 8 1 2020 1 _ rfl rfl rfl rfl).trans ((Aq 8 2 2021 1 _ rfl rfl rfl rfl).trans (sm [(2009, 2019), (2010, 2020), (2011, 2021)] _ _ rfl rfl)))) (fun j11 n11 v11 h => ?_) (fun v12 s h hs => ?_)
   ·unfold DV at h
    refine wq rfl (AV rfl (Ab (AL ?_)))
    refine A8 h (fun h => ?_) fun h => ?_
    ·refine Ai (AL (AH (wq rfl ?_)))
     refine BD h fun v14 a14 b14 h => qi As Cp a14 (Af b14) rfl (qk BY rfl (qa rfl (Ab (wp rfl (qm rfl (qf A5 rfl (ql A0 rfl (AJ As rfl ?_))))))))
     refine BG h fun v15 a15 h => Av [] (Hi N v14 ((p0.fb.length : Int)) v15 a15) XW rfl (CA rfl (Ab ?_))
     refine A8 h (fun h => ?_) fun h => ?_
     ·refine wq rfl (Bk Kx S8 rfl (qs BN rfl (qe rfl ?_)))
      obtain rfl := sj h
      refine Ae ((Aq 4 0 2015 1 _ rfl rfl rfl rfl).trans ((Aq 4 1 2016 1 _ rfl rfl rfl rfl).trans ((Aq 4 2 2017 1 _ rfl rfl rfl rfl).trans ((Aq 4 3 2018 6 _ rfl rfl rfl rfl).trans (sm [(1000, 2015), (1001, 2016), (1002, 2017), (1003, 2018)] [(4, oD (.ptr 4 0)), (5, iD 4)] [(4, .box [.own 1000, .own 1001, .own 1002, .own 1003]), (1000, .vec 1 ((([] : List Int)).map Aj)), (1001, .vec 1 ((([] : List Int)).map Aj)), (1002, .vec 1 ((([] : List Int)).map Aj)), (1003, .vec 6 ((([] : List An)).map AN))] rfl rfl))))) (Ar ?_)
      exact ⟨⟨[_, _], ⟨.cellN _ _ _ _ _ _ _ rfl rfl Co BN rfl rfl (Jx rfl), tm⟩, rfl⟩, ⟨rfl, rfl, rfl, rfl, tv⟩⟩
     ·refine Ai (wq rfl (qf A5 rfl (ql A0 rfl (qf A5 rfl (ql A0 rfl (qm rfl ?_))))))
      refine BD h fun v17 a17 b17 h => qi As Cp a17 (Af b17) rfl (qk BY rfl (Dg As Cp IM rfl ?_))
      refine FL h fun c18 h => Ce (f := Aj) As As Cp JN IM c18 rfl (qf A5 rfl (qs GT rfl (AM (by kernel_rfl) (wq rfl (qf FI rfl (ql A0 rfl (qf FI rfl (ql A0 rfl (qm rfl ?_)))))))))
      refine BD h fun v19 a19 b19 h => qi As Cp a19 (Af b19) rfl (qk BY rfl (Dg As Cp IM rfl ?_))
      refine FL h fun c20 h => Ce (f := Aj) As As Cp JN IM c20 rfl (qf FI rfl (qs GT rfl (AM (by kernel_rfl) (Ah Aw rfl (qf Gx rfl (ql A0 rfl (qf Gx rfl (ql A0 rfl (qm rfl ?_)))))))))
      refine BD h fun v21 a21 b21 h => qi As Cp a21 (Af b21) rfl (qk BY rfl (Dg As Cp IM rfl ?_))
      refine FL h fun c22 h => Ce (f := Aj) As As Cp JN IM c22 rfl (qf Gx rfl (qs GT rfl (AM (by kernel_rfl) (Ah Aw rfl (AW rfl (qm rfl (Ab ?_)))))))
      exact sn [(2009, 63), (2010, 73), (2011, 83)] h
    ·refine AR ?_
     exact sn [(2012, 2009), (2013, 2010), (2014, 2011)] h
   ·refine Ae hs (wp rfl (qf Cg rfl (ql Hp rfl (AJ Dv rfl (qm rfl (Ab ?_))))))
    refine AC (L := CJ N p0 p1) h (fun v23 => mk [(1, pD (.sl (p1.map Aj))), (4, oD (.ptr 4 0)), (8, oD (.ptr 8 0)), (87, pD (.sl (p0.fd.map AN))), (88, iD ((p0.fd.length : Int))), (89, iD v23.2)] [(4, .box [.pure (.nil0), .pure (.nil0), .pure (.nil0), .pure (.nil0)]), (8, .box [.own 2022, .own 2023, .own 2024, .own 2025]), (2022, .vec 1 (v12.1.map Aj)), (2023, .vec 1 (v12.2.1.map Aj)), (2024, .vec 1 (v12.2.2.map Aj)), (2025, .vec 6 (v23.1.map AN))]) (fun v24 => mk [(4, oD (.ptr 4 0)), (8, oD (.ptr 8 0))] [(4, .box [.pure (.nil0), .pure (.nil0), .pure (.nil0), .pure (.nil0)]), (8, .box [.own 2026, .own 2027, .own 2028, .own 2029]), (2026, .vec 1 (v12.1.map Aj)), (2027, .vec 1 (v12.2.1.map Aj)), (2028, .vec 1 (v12.2.2.map Aj)), (2029, .vec 6 (v24.map AN))]) (fun _ _ => rfl) ((Aq 8 3 2040 6 _ rfl rfl rfl rfl).trans (sm [(2022, 2012), (2023, 2013), (2024, 2014), (2025, 2040)] _ _ rfl rfl)) (fun j23 n23 v23 h => ?_) (fun v24 s h hs => ?_)
    ·unfold CJ at h
     refine wq rfl (AV rfl (Ab (AL ?_)))
     refine A8 h (fun h => ?_) fun h => ?_
     ·refine Ai ?_
      refine AS h (fun v26 => mk [(1, pD (.sl (p1.map Aj))), (4, oD (.ptr 4 0)), (8, oD (.ptr 8 0)), (87, pD (.sl (p0.fd.map AN))), (88, iD ((p0.fd.length : Int))), (89, iD v23.2)] [(4, .box [.pure (.nil0), .pure (.nil0), .pure (.nil0), .pure (.nil0)]), (8, .box [.own 2030, .own 2031, .own 2032, .own 2033]), (2030, .vec 1 (v12.1.map Aj)), (2031, .vec 1 (v12.2.1.map Aj)), (2032, .vec 1 (v12.2.2.map Aj)), (2033, .vec 6 (v26.map AN))]) (fun j26 h => ?_) (fun v26 h => ?_)
      ·refine AH (wq rfl ?_)
       refine BD h fun v27 a27 b27 h => qi Dv Dn a27 (Af b27) rfl (qK G7 Dn rfl (qz Jf rfl (qs Dn rfl (Ab (wq rfl (qm rfl (qf De rfl (ql BY rfl ?_))))))))
       refine BG h fun v28 a28 h => Av [] (Im N p1 v27.fh v28 a28) bW rfl (qm rfl (qf HP rfl (ql BY rfl ?_)))
       refine BG h fun v29 a29 h => Av [] (Im N p1 v27.fk v29 a29) bW rfl (qa rfl (qa rfl (AM (by kernel_rfl) ?_)))
       refine AS h (fun v30 => mk [(1, pD (.sl (p1.map Aj))), (4, oD (.ptr 4 0)), (8, oD (.ptr 8 0)), (12, oD (.ptr 12 0)), (13, iD v28), (14, iD v29), (87, pD (.sl (p0.fd.map AN))), (88, iD ((p0.fd.length : Int))), (89, iD v23.2), (106, bD v30)] [(4, .box [.pure (.nil0), .pure (.nil0), .pure (.nil0), .pure (.nil0)]), (8, .box [.own 2034, .own 2035, .own 2036, .own 2037]), (12, .box (Bc v27)), (2034, .vec 1 (v12.1.map Aj)), (2035, .vec 1 (v12.2.1.map Aj)), (2036, .vec 1 (v12.2.2.map Aj)), (2037, .vec 6 (v23.1.map AN))]) (fun j30 h => ?_) (fun v30 h => ?_)
       ·refine Ah Aw rfl (qm rfl (EI rfl (qm rfl ?_)))
        refine Eu 103 h rfl (fun h => ?_) fun h => ?_
        ·refine qm rfl (EI rfl (qp rfl (Ab ?_)))
         exact sn [(2034, 2022), (2035, 2023), (2036, 2024), (2037, 2025)] h
        ·refine qw 2 rfl (qp rfl (Ab ?_))
         exact sn [(2034, 2022), (2035, 2023), (2036, 2024), (2037, 2025)] h
       ·refine A8 h (fun h => ?_) fun h => ?_
        ·refine wq rfl (qL G7 Dn rfl ?_)
         refine BG h fun v33 a33 h => Av [2038, 2039] (PD N v27 v33 a33) dN rfl (qs Dn rfl (Ab (wq rfl (qw 2 rfl (qf De rfl (qs Cp rfl (qf HP rfl (qs Cp rfl (Ab (Ah Aw rfl (qf Cg rfl (ql Hp rfl (qL G7 Dn rfl (C0 (Bb 2038 _ _ rfl rfl) (C0 (Bb 2039 _ _ rfl rfl) (Dg Dv Dn Jf rfl ?_))))))))))))))))
         refine FL h fun c34 h => Ce (f := AN) Dv Dv Dn Wq Jf c34 rfl (qf Cg rfl (qs ac rfl (Ab ?_)))
         exact sn [(2030, 2034), (2031, 2035), (2032, 2036), (2033, 117)] h
        ·refine Ai ?_
         exact sn [(2030, 2034), (2031, 2035), (2032, 2036), (2033, 2037)] h
      ·refine Ah Aw rfl (AW rfl (qm rfl (Ab ?_)))
       exact sn [(2022, 2030), (2023, 2031), (2024, 2032), (2025, 2033)] h
     ·refine AR ?_
      exact sn [(2026, 2022), (2027, 2023), (2028, 2024), (2029, 2025)] h
    ·refine Ae hs (wq rfl (qL Co BN rfl (qs BN rfl (qe rfl ?_))))
     obtain rfl := sj h
     refine Ae (sm [(1000, 2026), (1001, 2027), (1002, 2028), (1003, 2029)] [(4, oD (.ptr 4 0)), (5, iD 0)] [(4, .box [.own 1000, .own 1001, .own 1002, .own 1003]), (1000, .vec 1 (v12.1.map Aj)), (1001, .vec 1 (v12.2.1.map Aj)), (1002, .vec 1 (v12.2.2.map Aj)), (1003, .vec 6 (v24.map AN))] rfl rfl) (Ar ?_)
     exact ⟨⟨[_, _], ⟨.cellN _ _ _ _ _ _ _ rfl rfl Co BN rfl rfl (Jx rfl), tm⟩, rfl⟩, ⟨rfl, rfl, rfl, rfl, tv⟩⟩
theorem Ep (N : Nat) (p0 : List Int) (r : (List Int)) (h : BW N p0 = some r) : Ao zA 13 [pD (.sl (p0.map Aj))] [(1, r.map Aj)] (oD (.own 0)) := by
 unfold BW at h
 refine cw (n := 8) (rs := [.tmp 2]) Tryz.func13 fun w0 S0 => ?_
 refine wq rfl (qa rfl (Ab (wp rfl (qm rfl ?_))))
 refine Ny (.p rfl) rfl As ?_
 refine Ab ?_
 refine Nf rfl (fun c2 => ?_) ?_
 ·have c2 := uB.1 c2
  rw [c2] at h
  have h : (some (([] : List Int))) = some r := h
  refine wq rfl (qe rfl ?_)
  obtain rfl := sj h
  refine Ae ((AT 2 2001 1 rfl rfl rfl).trans (sm [(1000, 2001)] [(2, oD (.own 1000))] [(1000, .vec 1 ((([] : List Int)).map Aj))] rfl rfl)) (Ar ?_)
  exact ⟨⟨[_], tm, rfl⟩, ⟨rfl, tv⟩⟩
 ·refine Ai (wq rfl (Dg As Cp IM rfl (qm rfl ?_)))
  refine FL h fun c1 h => Jb (f := Aj) As As Cp JN IM (fun _ => rfl) c1 rfl (qe rfl ?_)
  obtain rfl := sj h
  refine Ae (sm [(1000, 7)] [(2, oD (.own 1000))] [(1000, .vec 1 (((([] : List Int)) ++ p0).map Aj))] rfl rfl) (Ar ?_)
  exact ⟨⟨[_], tm, rfl⟩, ⟨rfl, tv⟩⟩
theorem Nc (N : Nat) (p0 : Int) (p1 : Int) (r : Int × Int) (h : H1 N p0 p1 = some r) : Ao zA 166 [pD (.val (.int .u32 p0)), pD (.val (.int .u32 p1))] [] (.tup [.one (.pure (.val (.int .u32 r.1))), .one (.pure (.val (.int .u32 r.2)))]) := by
 unfold H1 at h
 refine cw (n := 17) (rs := [.tmp 4, .tmp 5]) Tryz.func166 fun w0 S0 => ?_
 refine wq rfl (qa rfl (qa rfl (Ab (wq rfl (qm rfl (JO Vx ZD rfl (qm rfl (JO Vx ZD rfl (Na rfl (qa rfl (Ab (wq rfl (qm rfl (G4 rfl (by decide) (JO WA ST rfl (qm rfl (JO WA ST rfl (qa rfl (qe rfl ?_)))))))))))))))))))
 obtain rfl := sj h
 refine Ae (sm [] [(4, pD (.val (.int .u32 ((wI .u32 ((AZ .u64 ((wI .u64 ((wI .u64 p0) * (wI .u64 p1)))) 32))))))), (5, pD (.val (.int .u32 ((wI .u32 ((wI .u64 ((wI .u64 p0) * (wI .u64 p1)))))))))] [] rfl rfl) (Ar ?_)
 exact ⟨⟨[_, _], ⟨.tmp _ _ rfl, tm⟩, rfl⟩, tv⟩
theorem M8 (N : Nat) (p0 : Int) (p1 : Int) (r : Int × Int) (h : HZ N p0 p1 = some r) : Ao zA 167 [pD (.val (.int .u64 p0)), pD (.val (.int .u64 p1))] [] (.tup [.one (.pure (.val (.int .u64 r.1))), .one (.pure (.val (.int .u64 r.2)))]) := by
 unfold HZ at h
 refine cw (n := 51) (rs := [.tmp 4, .tmp 5]) Tryz.func167 fun w0 S0 => ?_
 refine wq rfl (qa rfl (qa rfl (Ab (wq rfl (qm rfl (IA rfl (qa rfl (Ab (wq rfl (qm rfl (G4 rfl (by decide) (qa rfl (Ab (wq rfl (qm rfl (IA rfl (qa rfl (Ab (wq rfl (qm rfl (G4 rfl (by decide) (qa rfl (Ab (wq rfl (qw 2 rfl (Na rfl (qa rfl (Ab (wq rfl (qw 2 rfl ?_))))))))))))))))))))))))))))))
 refine Na rfl (qm rfl (G4 rfl (by decide) (AW rfl (qa rfl (Ab (wq rfl (qm rfl (IA rfl (qa rfl (Ab (wq rfl (qm rfl (G4 rfl (by decide) (qa rfl (Ab (wq rfl (qw 3 rfl (Na rfl (AW rfl (qa rfl (Ab (wq rfl (qw 2 rfl (Na rfl (qm rfl (AW rfl (qm rfl (G4 rfl (by decide) (AW rfl (qa rfl (Ab (AL ?_))))))))))))))))))))))))))))))))
 refine Ah Aw rfl (qw 2 rfl (Na rfl (qe rfl ?_)))
 obtain rfl := sj h
 refine Ae (sm [] [(4, pD (.val (.int .u64 ((wI .u64 ((wI .u64 ((wI .u64 ((AZ .u64 p0 32) * (AZ .u64 p1 32))) + (AZ .u64 ((wI .u64 ((wI .u64 ((AZ .u64 p0 32) * (AK .u64 p1 4294967295))) + (AZ .u64 ((wI .u64 ((AK .u64 p0 4294967295) * (AK .u64 p1 4294967295)))) 32)))) 32))) + (AZ .u64 ((wI .u64 ((AK .u64 ((wI .u64 ((wI .u64 ((AZ .u64 p0 32) * (AK .u64 p1 4294967295))) + (AZ .u64 ((wI .u64 ((AK .u64 p0 4294967295) * (AK .u64 p1 4294967295)))) 32)))) 4294967295) + (wI .u64 ((AK .u64 p0 4294967295) * (AZ .u64 p1 32)))))) 32))))))), (5, pD (.val (.int .u64 ((wI .u64 (p0 * p1))))))] [] rfl rfl) (Ar ?_)
 exact ⟨⟨[_, _], ⟨.tmp _ _ rfl, tm⟩, rfl⟩, tv⟩
theorem OQ (N : Nat) (p0 : Int) (p1 : Int) (r : Int × Int) (h : IF N p0 p1 = some r) : Ao zA 137 [pD (.val (.int .u64 p0)), pD (.val (.int .u64 p1))] [] (.tup [.one (.pure (.val (.int .u64 r.1))), .one (.pure (.val (.int .u64 r.2)))]) := by
 unfold IF at h
 refine cw (n := 30) (rs := [.tmp 4, .tmp 5]) Tryz.func137 fun w0 S0 => ?_
 refine wq rfl (qa rfl (qa rfl (Ab (AL ?_))))
 refine A8 h (fun h => ?_) fun h => ?_
 ·refine wq rfl (qm rfl (JO YX ST rfl (qm rfl (JO YX ST rfl ?_))))
  refine BG h fun v2 a2 h => Av [] (Nc N ((wI .u32 p0)) ((wI .u32 p1)) v2 a2) bd rfl (qm rfl (qx rfl (qx rfl (qa rfl (qa rfl (Ab (wq rfl (qm rfl (JO Vx YB rfl (qm rfl (JO Vx YB rfl (qa rfl (qe rfl ?_)))))))))))))
  obtain rfl := sj h
  refine Ae (sm [] [(4, pD (.val (.int .u64 ((wI .u64 v2.1))))), (5, pD (.val (.int .u64 ((wI .u64 v2.2)))))] [] rfl rfl) (Ar ?_)
  exact ⟨⟨[_, _], ⟨.tmp _ _ rfl, tm⟩, rfl⟩, tv⟩
 ·refine Ai (wq rfl (qw 2 rfl ?_))
  refine BG h fun v3 a3 h => Av [] (M8 N p0 p1 v3 a3) cP rfl (qm rfl (qx rfl (qx rfl (qa rfl (qa rfl (Ab (wq rfl (qw 2 rfl (qa rfl (qe rfl ?_))))))))))
  obtain rfl := sj h
  refine Ae (sm [] [(4, pD (.val (.int .u64 v3.1))), (5, pD (.val (.int .u64 v3.2)))] [] rfl rfl) (Ar ?_)
  exact ⟨⟨[_, _], ⟨.tmp _ _ rfl, tm⟩, rfl⟩, tv⟩
theorem KL (N : Nat) (p0 : List Int) (p1 : Int) (r : (List Int)) (h : EY N p0 p1 = some r) : Ao zA 104 [pD (.sl (p0.map Aj)), iD p1] [(1, r.map Aj)] (oD (.own 0)) := by
 unfold EY at h
 refine cw (n := 48) (rs := [.tmp 4]) Tryz.func104 fun w0 S0 => ?_
 refine wq rfl (qe rfl ?_)
 refine AS h (fun v1 => mk [(0, pD (.sl (p0.map Aj))), (1, iD p1)] []) (fun j1 h => ?_) (fun v1 h => ?_)
 ·refine wq rfl (qm rfl (AV rfl (Ab ?_)))
  refine A8 h (fun h => ?_) fun h => ?_
  ·refine Ah Aw rfl ?_
   cases h
  ·refine Ai ?_
   exact sn [] h
 ·refine wq rfl (qm rfl (AJ As rfl (JO dD YB rfl (qm rfl (JO dD YB rfl ?_)))))
  refine BG h fun v3 a3 h => Av [] (OQ N ((wI .u64 ((p0.length : Int)))) ((wI .u64 p1)) v3 a3) cV rfl (qm rfl (qx rfl (qx rfl (qa rfl (qe rfl ?_)))))
  refine AS h (fun v4 => mk [(0, pD (.sl (p0.map Aj))), (6, pD (.val (.int .u64 v3.2)))] []) (fun j4 h => ?_) (fun v4 h => ?_)
  ·refine AS h (fun v5 => mk [(0, pD (.sl (p0.map Aj))), (6, pD (.val (.int .u64 v3.2))), (26, bD v5)] []) (fun j5 h => ?_) (fun v5 h => ?_)
   ·refine Ah Aw rfl (qm rfl (GQ rfl (qm rfl ?_)))
    refine Eu 23 h rfl (fun h => ?_) fun h => ?_
    ·refine qw 2 rfl (qp rfl (Ab ?_))
     exact sn [] h
    ·refine qm rfl (GQ rfl (qp rfl (Ab ?_)))
     exact sn [] h
   ·refine A8 h (fun h => ?_) fun h => ?_
    ·refine Ah Aw rfl ?_
     cases h
    ·refine Ai ?_
     exact sn [] h
  ·refine wq rfl (qm rfl (JO YX X6 rfl ?_))
   refine FL h fun c8 h => L7 (.p rfl) rfl rfl rfl As Cp JN (Jo rfl) IM rfl rfl rfl c8.1 c8.2.1 c8.2.2 (Sb Aj _ ((0 : Int))) ?_
   refine qa rfl (Ab (wq rfl (qw 2 rfl ?_)))
   refine Vm Aj (zH ((wI .i64 v3.2)).toNat ((0 : Int))) p0 (.p rfl) rfl (JL Aj _ _ (zH ((wI .i64 v3.2)).toNat ((0 : Int)))) rfl rfl (Y2 Aj _ _ (fun _ => rfl)) tv As Cp ?_
   refine qa rfl (Ab (AL ?_))
   refine AC (L := Ej N) h (fun v9 => mk [(7, oD (.own 2001)), (8, iD v9.2)] [(2001, .vec 1 (v9.1.map Aj))]) (fun v10 => mk [(7, oD (.own 2002))] [(2002, .vec 1 (v10.map Aj))]) (fun _ _ => rfl) (sm [(2001, 30)] _ _ rfl rfl) (fun j9 n9 v9 h => ?_) (fun v10 s h hs => ?_)
   ·unfold Ej at h
    refine wp rfl (qw 2 rfl (D6 As rfl (AV rfl (Ab ?_))))
    refine A8 h (fun h => ?_) fun h => ?_
    ·refine Ai (AH (Ah Aw rfl (qw 3 rfl ?_)))
     obtain ⟨c12, h⟩ := HL h
     have w13 : ((v9.2).toNat) + ((v9.1.length - (v9.2).toNat)) ≤ v9.1.length := by have := c12.2.1; have := c12.2.2; omega
     refine KR Aj v9.1 (.p rfl) rfl (JL Aj _ _ v9.1) rfl As Cp (.some _ _ _ _ c12.1) (.none _) ⟨rfl, tv⟩ tv c12.2.1 (by rw [zC]; exact c12.2.2) (zC _) rfl ?_
     refine qw 2 rfl ?_
     obtain ⟨c14, h⟩ := HL h
     have w15 : 0 + ((v9.2).toNat) ≤ v9.1.length := by have := c14.2.1; have := c14.2.2; omega
     refine KR Aj v9.1 (.p rfl) rfl (JL Aj _ _ v9.1) rfl As Cp (.none _) (.some _ _ _ _ c14.1) tv ⟨rfl, tv⟩ c14.2.1 (by rw [zC]; exact c14.2.2) (zC _) rfl ?_
     refine Vm Aj v9.1 (((v9.1.drop 0).take ((v9.2).toNat))) (.p rfl) rfl (N8 Aj _ _ ((v9.2).toNat) ((v9.1.length - (v9.2).toNat)) v9.1 w13) rfl rfl (VR Aj _ _ 0 ((v9.2).toNat) v9.1 w15) ⟨rfl, tv⟩ As Cp ?_
     refine AW rfl (qa rfl (AM (by kernel_rfl) ?_))
     exact sn [] h
    ·refine AR ?_
     exact sn [(2002, 2001)] h
   ·refine Ae hs (wq rfl (qm rfl (qe rfl ?_)))
    obtain rfl := sj h
    refine Ae (sm [(1000, 2002)] [(4, oD (.own 1000))] [(1000, .vec 1 (v10.map Aj))] rfl rfl) (Ar ?_)
    exact ⟨⟨[_], tm, rfl⟩, ⟨rfl, tv⟩⟩
theorem KX (N : Nat) (p0 : An) (r : Bool) (h : F4 N p0 = some r) : Ao zA 105 [.e (.agg (Bc p0))] [] (bD r) := by
 unfold F4 at h
 refine cw (n := 11) (rs := [.tmp 2]) Tryz.func105 fun w0 S0 => ?_
 refine wq rfl (qb rfl (qe rfl ?_))
 refine AS h (fun v1 => mk [(2, bD v1)] []) (fun j1 h => ?_) (fun v1 h => ?_)
 ·refine Ah Aw rfl (qf Gz rfl (ql BY rfl (B1 rfl (qm rfl ?_))))
  refine Eu 6 h rfl (fun h => ?_) fun h => ?_
  ·refine qw 3 rfl (qp rfl (qe rfl ?_))
   exact sn [] h
  ·refine qf Gz rfl (ql BY rfl (B1 rfl (qp rfl (qe rfl ?_))))
   exact sn [] h
 ·obtain rfl := sj h
  refine Ae (sm [] [(2, bD v1)] [] rfl rfl) (Ar ?_)
  exact ⟨⟨[_], tm, rfl⟩, tv⟩
theorem SD (N : Nat) (p0 : Aa) (r : Ac × Int) (h : Ij N p0 = some r) : Ao zA 74 [.e (.agg (Ag p0))] [(1, r.1.fe.map Aj), (1, r.1.fc.map Aj), (1, r.1.ff.map D7)] (.tup [.agg [.own 0, .own 1, .own 2], .one (iC r.2)]) := by
 unfold Ij at h
 refine cw (n := 50) (rs := [.cell 2 49, .tmp 3]) Tryz.func74 fun w0 S0 => ?_
 refine wq rfl (qb rfl (qz EO rfl (qa rfl (Ab (wp rfl (qL Co BN rfl ?_))))))
 refine BG h fun v1 a1 h => Av [] (E6 N p0 v1 a1) Wz rfl (qa rfl (Ab (wq rfl (qm rfl (Bo rfl (Ab ?_))))))
 refine A8 h (fun h => ?_) fun h => ?_
 ·refine wq rfl (Bk EO Jw rfl (qm rfl (qs A3 rfl (qe rfl ?_))))
  obtain rfl := sj h
  refine Ae ((Aq 2 0 2001 1 _ rfl rfl rfl rfl).trans ((Aq 2 1 2002 1 _ rfl rfl rfl rfl).trans ((Aq 2 2 2003 1 _ rfl rfl rfl rfl).trans (sm [(1000, 2001), (1001, 2002), (1002, 2003)] [(2, oD (.ptr 2 0)), (3, iD v1)] [(2, .box [.own 1000, .own 1001, .own 1002]), (1000, .vec 1 ((([] : List Int)).map Aj)), (1001, .vec 1 ((([] : List Int)).map Aj)), (1002, .vec 1 ((([] : List Int)).map D7))] rfl rfl)))) (Ar ?_)
  exact ⟨⟨[_, _], ⟨.cellN _ _ _ _ _ _ _ rfl rfl B2 A3 rfl rfl (Jx rfl), tm⟩, rfl⟩, ⟨rfl, rfl, rfl, tv⟩⟩
 ·refine Ai (wq rfl (qf FI rfl (ql A0 rfl ?_)))
  refine BG h fun v3 a3 h => Av [2004] (Ep N p0.fj v3 a3) W4 rfl (Dg As Cp IM rfl (qf FI rfl (ql A0 rfl (AJ As rfl ?_))))
  refine BG h fun v4 a4 h => Du [2005] [17] (KL N (([(-1)] : List Int)) ((p0.fj.length : Int)) v4 a4) ck (Hc (fun _ => rfl) B4) rfl (qf Cg rfl (ql Hp rfl (AJ Dv rfl ?_)))
  refine FL h fun c5 h => L7 (.p rfl) rfl rfl rfl Ea EU O2 (Jo rfl) NR rfl rfl rfl c5.1 c5.2.1 c5.2.2 (Sb D7 _ ((0 : Int))) ?_
  refine Bk EO Jw rfl (qz EO rfl (qs A3 rfl (AM (by kernel_rfl) (wp rfl (qf Cg rfl (ql Hp rfl (AJ Dv rfl (qm rfl (Ab ?_)))))))))
  refine AC (L := EC N p0) h (fun v6 => mk [(1, oD (.ptr 1 0)), (2, oD (.ptr 2 0)), (5, oD (.ptr 5 0)), (28, pD (.sl (p0.fd.map AN))), (29, iD ((p0.fd.length : Int))), (30, iD v6.2)] [(1, .box (Ag p0)), (2, .box [.pure (.nil0), .pure (.nil0), .pure (.nil0)]), (5, .box [.own 2006, .own 2007, .own 2008]), (2006, .vec 1 (v3.map Aj)), (2007, .vec 1 (v4.map Aj)), (2008, .vec 1 (v6.1.map D7))]) (fun v7 => mk [(2, oD (.ptr 2 0)), (5, oD (.ptr 5 0))] [(2, .box [.pure (.nil0), .pure (.nil0), .pure (.nil0)]), (5, .box [.own 2009, .own 2010, .own 2011]), (2009, .vec 1 (v3.map Aj)), (2010, .vec 1 (v4.map Aj)), (2011, .vec 1 (v7.map D7))]) (fun _ _ => rfl) (sm [(2006, 2004), (2007, 2005), (2008, 25)] _ _ rfl rfl) (fun j6 n6 v6 h => ?_) (fun v7 s h hs => ?_)
  ·unfold EC at h
   refine wq rfl (AV rfl (Ab (AL ?_)))
   refine A8 h (fun h => ?_) fun h => ?_
   ·refine Ai ?_
    refine AS h (fun v9 => mk [(1, oD (.ptr 1 0)), (2, oD (.ptr 2 0)), (5, oD (.ptr 5 0)), (28, pD (.sl (p0.fd.map AN))), (29, iD ((p0.fd.length : Int))), (30, iD v6.2)] [(1, .box (Ag p0)), (2, .box [.pure (.nil0), .pure (.nil0), .pure (.nil0)]), (5, .box [.own 2012, .own 2013, .own 2014]), (2012, .vec 1 (v3.map Aj)), (2013, .vec 1 (v4.map Aj)), (2014, .vec 1 (v9.map D7))]) (fun j9 h => ?_) (fun v9 h => ?_)
    ·refine AH (wq rfl (qm rfl ?_))
     refine BD h fun v10 a10 b10 h => qi Dv Dn a10 (Af b10) rfl (qK G7 Dn rfl (qz Jf rfl (qa rfl (qs Dn rfl (Ab (wq rfl (qL G7 Dn rfl ?_)))))))
     refine BG h fun v11 a11 h => Av [] (KX N v10 v11 a11) Wo rfl (Ab ?_)
     refine A8 h (fun h => ?_) fun h => ?_
     ·refine Ah Aw rfl (qf C9 rfl (ql Ib rfl (qm rfl (qf FI rfl (ql A0 rfl (qf De rfl (ql BY rfl ?_)))))))
      refine BD h fun v13 a13 b13 h => qi As Cp a13 (Af b13) rfl (qk BY rfl ?_)
      refine FL h fun c14 h => Jh rfl c14 ?_
      refine BD h fun v15 a15 b15 h => qI Ea EU a15 (Af b15) rfl ?_
      refine DJ rfl rfl rfl rfl (Af b15) rfl EU rfl (Jo rfl) (DB D7 v6.1 _ ((D1 .u8 1 v13))) ?_
      refine AM (by kernel_rfl) ?_
      exact sn [(2012, 2006), (2013, 2007), (2014, 2008)] h
     ·refine Ai ?_
      exact sn [(2012, 2006), (2013, 2007), (2014, 2008)] h
    ·refine Ah Aw rfl (AW rfl (qm rfl (Ab ?_)))
     exact sn [(2006, 2012), (2007, 2013), (2008, 2014)] h
   ·refine AR ?_
    exact sn [(2009, 2006), (2010, 2007), (2011, 2008)] h
  ·refine Ae hs (wq rfl (qL B2 A3 rfl (qs A3 rfl (qe rfl ?_))))
   obtain rfl := sj h
   refine Ae (sm [(1000, 2009), (1001, 2010), (1002, 2011)] [(2, oD (.ptr 2 0)), (3, iD 0)] [(2, .box [.own 1000, .own 1001, .own 1002]), (1000, .vec 1 (v3.map Aj)), (1001, .vec 1 (v4.map Aj)), (1002, .vec 1 (v7.map D7))] rfl rfl) (Ar ?_)
   exact ⟨⟨[_, _], ⟨.cellN _ _ _ _ _ _ _ rfl rfl B2 A3 rfl rfl (Jx rfl), tm⟩, rfl⟩, ⟨rfl, rfl, rfl, tv⟩⟩
theorem Ku (N : Nat) (p0 : Ac) (p1 : Int) (r : Int) (h : FB N p0 p1 = some r) : Ao zA 156 [.e (.agg (AI p0)), iD p1] [] (pD (.val (.int .u8 r))) := by
 unfold FB at h
 refine cw (n := 27) (rs := [.tmp 4]) Tryz.func156 fun w0 S0 => ?_
 refine wq rfl (qb rfl (qa rfl (Ab (wq rfl (qf C5 rfl (ql A0 rfl (qm rfl ?_)))))))
 refine BD h fun v1 a1 b1 h => qi As Cp a1 (Af b1) rfl (qk BY rfl ?_)
 refine FL h fun c2 h => Jh rfl c2 (qe rfl ?_)
 refine AS h (fun v3 => mk [(5, pD (.val (.int .u8 v3)))] []) (fun j3 h => ?_) (fun v3 h => ?_)
 ·refine wq rfl (qf BK rfl (ql A0 rfl (qm rfl ?_)))
  refine BD h fun v4 a4 b4 h => qi As Cp a4 (Af b4) rfl (qk BY rfl (EI rfl (Ab ?_)))
  refine A8 h (fun h => ?_) fun h => ?_
  ·refine Ah Aw rfl (qm rfl (qf BK rfl (ql A0 rfl (qm rfl ?_))))
   refine BD h fun v6 a6 b6 h => qi As Cp a6 (Af b6) rfl (qk BY rfl ?_)
   refine FL h fun c7 h => Jh rfl c7 (VG rfl (qe rfl ?_))
   exact sn [] h
  ·refine Ai ?_
   exact sn [] h
 ·refine wq rfl (qm rfl (qe rfl ?_))
  obtain rfl := sj h
  refine Ae (sm [] [(4, pD (.val (.int .u8 v3)))] [] rfl rfl) (Ar ?_)
  exact ⟨⟨[_], tm, rfl⟩, tv⟩
theorem Ks (N : Nat) (p0 : Aa) (p1 : Ac) (r : Int) (h : FX N p0 p1 = some r) : Ao zA 120 [.e (.agg (Ag p0)), .e (.agg (AI p1))] [] (iD r) := by
 unfold FX at h
 refine cw (n := 135) (rs := [.tmp 4]) Tryz.func120 fun w0 S0 => ?_
 refine wq rfl (qb rfl (qb rfl (qa rfl (Ab (wp rfl (qL Co BN rfl ?_))))))
 refine BG h fun v1 a1 h => Av [] (E6 N p0 v1 a1) Wz rfl (qa rfl (Ab (wq rfl (qm rfl (Bo rfl (Ab ?_))))))
 refine A8 h (fun h => ?_) fun h => ?_
 ·refine wq rfl (qm rfl (qe rfl ?_))
  obtain rfl := sj h
  refine Ae (sm [] [(4, iD v1)] [] rfl rfl) (Ar ?_)
  exact ⟨⟨[_], tm, rfl⟩, tv⟩
 ·refine Ai (AL ?_)
  refine AS h (fun v3 => mk [(2, oD (.ptr 2 0)), (3, oD (.ptr 3 0)), (41, bD v3)] [(2, .box (Ag p0)), (3, .box (AI p1))]) (fun j3 h => ?_) (fun v3 h => ?_)
  ·refine Ah Aw rfl (qf C5 rfl (ql A0 rfl (AJ As rfl (qf A5 rfl (ql A0 rfl (AJ As rfl (Bo rfl (qm rfl ?_))))))))
   refine Eu 24 h rfl (fun h => ?_) fun h => ?_
   ·refine qw 7 rfl (qp rfl (qw 8 rfl (qp rfl (Ab ?_))))
    exact sn [] h
   ·refine qf BK rfl (ql A0 rfl (AJ As rfl (qf A5 rfl (ql A0 rfl (AJ As rfl (Bo rfl (qp rfl (qm rfl ?_))))))))
    refine Eu 33 h rfl (fun h => ?_) fun h => ?_
    ·refine qw 7 rfl (qp rfl (Ab ?_))
     exact sn [] h
    ·refine qf C9 rfl (ql Ib rfl (AJ Ea rfl (qf Cg rfl (ql Hp rfl (AJ Dv rfl (Bo rfl (qp rfl (Ab ?_))))))))
     exact sn [] h
  ·refine A8 h (fun h => ?_) fun h => ?_
   ·refine wq rfl (qe rfl ?_)
    obtain rfl := sj h
    refine Ae (sm [] [(4, iD 6)] [] rfl rfl) (Ar ?_)
    exact ⟨⟨[_], tm, rfl⟩, tv⟩
   ·refine Ai (wp rfl (qf A5 rfl (ql A0 rfl (AJ As rfl (qm rfl (Ab ?_))))))
    refine AC (L := EA N p0 p1) h (fun v7 => mk [(2, oD (.ptr 2 0)), (3, oD (.ptr 3 0)), (43, pD (.sl (p0.fb.map Aj))), (44, iD ((p0.fb.length : Int))), (45, iD v7)] [(2, .box (Ag p0)), (3, .box (AI p1))]) (fun v8 => mk [(2, oD (.ptr 2 0)), (3, oD (.ptr 3 0))] [(2, .box (Ag p0)), (3, .box (AI p1))]) (fun _ _ => rfl) (sm [] _ _ rfl rfl) (fun j7 n7 v7 h => ?_) (fun v8 s h hs => ?_)
    ·unfold EA at h
     refine wq rfl (AV rfl (Ab (AL ?_)))
     refine A8 h (fun h => ?_) fun h => ?_
     ·refine Ai (AL (AH (wq rfl (qm rfl ?_))))
      refine BD h fun v10 a10 b10 h => qi As Cp a10 (Af b10) rfl (qk BY rfl (qa rfl (qa rfl (Ab (AL ?_)))))
      refine AS h (fun v11 => mk [(2, oD (.ptr 2 0)), (3, oD (.ptr 3 0)), (6, iD v7), (43, pD (.sl (p0.fb.map Aj))), (44, iD ((p0.fb.length : Int))), (45, iD v7), (81, bD v11)] [(2, .box (Ag p0)), (3, .box (AI p1))]) (fun j11 h => ?_) (fun v11 h => ?_)
      ·refine Ah Aw rfl (qf C5 rfl (ql A0 rfl (qm rfl ?_)))
       refine BD h fun v12 a12 b12 h => qi As Cp a12 (Af b12) rfl (qk BY rfl (AV rfl (qm rfl ?_)))
       refine Eu 56 h rfl (fun h => ?_) fun h => ?_
       ·refine qw 7 rfl (qp rfl (qw 7 rfl (qp rfl (qw 8 rfl (qp rfl (Ab ?_))))))
        exact sn [] h
       ·refine qf C5 rfl (ql A0 rfl (qm rfl ?_))
        refine BD h fun v14 a14 b14 h => qi As Cp a14 (Af b14) rfl (qk BY rfl (qm rfl (EI rfl (qp rfl (qm rfl ?_)))))
        refine Eu 65 h rfl (fun h => ?_) fun h => ?_
        ·refine qw 6 rfl (qp rfl (qw 8 rfl (qp rfl (Ab ?_))))
         exact sn [] h
        ·refine qf BK rfl (ql A0 rfl (qm rfl ?_))
         refine BD h fun v16 a16 b16 h => qi As Cp a16 (Af b16) rfl (qk BY rfl (AV rfl (qp rfl (qm rfl ?_))))
         refine Eu 73 h rfl (fun h => ?_) fun h => ?_
         ·refine qw 7 rfl (qp rfl (Ab ?_))
          exact sn [] h
         ·refine qf BK rfl (ql A0 rfl (qm rfl ?_))
          refine BD h fun v18 a18 b18 h => qi As Cp a18 (Af b18) rfl (qk BY rfl (qm rfl (EI rfl (qp rfl (Ab ?_)))))
          exact sn [] h
      ·refine A8 h (fun h => ?_) fun h => ?_
       ·refine wq rfl (qe rfl ?_)
        obtain rfl := sj h
        refine Ae (sm [] [(4, iD 7)] [] rfl rfl) (Ar ?_)
        exact ⟨⟨[_], tm, rfl⟩, tv⟩
       ·refine Ai (wq rfl (qf C5 rfl (ql A0 rfl (qm rfl ?_))))
        refine BD h fun v20 a20 b20 h => qi As Cp a20 (Af b20) rfl (qk BY rfl (qf BK rfl (ql A0 rfl (qm rfl ?_))))
        refine BD h fun v21 a21 b21 h => qi As Cp a21 (Af b21) rfl (qk BY rfl (B1 rfl (AM (by kernel_rfl) ?_)))
        refine A8 h (fun h => ?_) fun h => ?_
        ·refine wq rfl (qe rfl ?_)
         obtain rfl := sj h
         refine Ae (sm [] [(4, iD 1)] [] rfl rfl) (Ar ?_)
         exact ⟨⟨[_], tm, rfl⟩, tv⟩
        ·refine Ai (Ah Aw rfl (AW rfl (qm rfl (Ab ?_))))
         exact sn [] h
     ·refine AR ?_
      exact sn [] h
    ·refine Ae hs (wp rfl (qf Cg rfl (ql Hp rfl (AJ Dv rfl (qm rfl (Ab ?_))))))
     refine AC (L := Eb N p0 p1) h (fun v23 => mk [(2, oD (.ptr 2 0)), (3, oD (.ptr 3 0)), (95, pD (.sl (p0.fd.map AN))), (96, iD ((p0.fd.length : Int))), (97, iD v23)] [(2, .box (Ag p0)), (3, .box (AI p1))]) (fun v24 => mk [] []) (fun _ _ => rfl) (sm [] _ _ rfl rfl) (fun j23 n23 v23 h => ?_) (fun v24 s h hs => ?_)
     ·unfold Eb at h
      refine wq rfl (AV rfl (Ab (AL ?_)))
      refine A8 h (fun h => ?_) fun h => ?_
      ·refine Ai (AL (AH (wq rfl (qm rfl ?_))))
       refine BD h fun v26 a26 b26 h => qi Dv Dn a26 (Af b26) rfl (qK G7 Dn rfl (qz Jf rfl (qa rfl (qs Dn rfl (Ab (wq rfl (qa rfl (qe rfl ?_))))))))
       refine AS h (fun v27 => mk [(2, oD (.ptr 2 0)), (3, oD (.ptr 3 0)), (8, iD v23), (10, pD (.val (.int .u8 v27.1))), (11, pD (.val (.int .u8 v27.2))), (95, pD (.sl (p0.fd.map AN))), (96, iD ((p0.fd.length : Int))), (97, iD v23)] [(2, .box (Ag p0)), (3, .box (AI p1))]) (fun j27 h => ?_) (fun v27 h => ?_)
       ·refine wq rfl (qL G7 Dn rfl ?_)
        refine BG h fun v28 a28 h => Av [] (KX N v26 v28 a28) Wo rfl (Ab ?_)
        refine A8 h (fun h => ?_) fun h => ?_
        ·refine Ah Aw rfl (qL B2 A3 rfl (qf De rfl (ql BY rfl ?_)))
         refine BG h fun v30 a30 h => Av [] (Ku N p1 v26.fh v30 a30) WK rfl (qf A5 rfl (ql A0 rfl (qf De rfl (ql BY rfl ?_))))
         refine BD h fun v31 a31 b31 h => qi As Cp a31 (Af b31) rfl (qk BY rfl ?_)
         refine FL h fun c32 h => Jh rfl c32 (Ko rfl (qa rfl (qa rfl (AM (by kernel_rfl) ?_))))
         exact sn [] h
        ·refine Ai ?_
         exact sn [] h
       ·refine AS h (fun v33 => mk [(2, oD (.ptr 2 0)), (3, oD (.ptr 3 0)), (95, pD (.sl (p0.fd.map AN))), (96, iD ((p0.fd.length : Int))), (97, iD v23), (133, bD v33)] [(2, .box (Ag p0)), (3, .box (AI p1))]) (fun j33 h => ?_) (fun v33 h => ?_)
        ·refine Ah Aw rfl (qm rfl (qf C9 rfl (ql Ib rfl (qm rfl ?_))))
         refine BD h fun v34 a34 b34 h => qi Ea EU a34 (Af b34) rfl (qk IX rfl (Ie rfl (Bo rfl (qm rfl ?_))))
         refine Eu 124 h rfl (fun h => ?_) fun h => ?_
         ·refine qw 8 rfl (qp rfl (Ab ?_))
          exact sn [] h
         ·refine qf C9 rfl (ql Ib rfl (qm rfl ?_))
          refine BD h fun v36 a36 b36 h => qi Ea EU a36 (Af b36) rfl (qk IX rfl (qm rfl (Ie rfl (Bo rfl (qp rfl (Ab ?_))))))
          exact sn [] h
        ·refine A8 h (fun h => ?_) fun h => ?_
         ·refine wq rfl (qe rfl ?_)
          obtain rfl := sj h
          refine Ae (sm [] [(4, iD 1)] [] rfl rfl) (Ar ?_)
          exact ⟨⟨[_], tm, rfl⟩, tv⟩
         ·refine Ai (Ah Aw rfl (AW rfl (qm rfl (Ab ?_))))
          exact sn [] h
      ·refine AR ?_
       exact sn [] h
     ·refine Ae hs (wq rfl (qe rfl ?_))
      obtain rfl := sj h
      refine Ae (sm [] [(4, iD 0)] [] rfl rfl) (Ar ?_)
      exact ⟨⟨[_], tm, rfl⟩, tv⟩
theorem Gl (N : Nat) (p0 : List Int) (r : (List Int)) (h : B3 N p0 = some r) : Ao zA 174 [pD (.sl (p0.map D7))] [(1, r.map D7)] (oD (.own 0)) := by
 unfold B3 at h
 refine cw (n := 8) (rs := [.tmp 2]) Tryz.func174 fun w0 S0 => ?_
 refine wq rfl (qa rfl (Ab (wp rfl (qm rfl ?_))))
 refine Ny (.p rfl) rfl Ea ?_
 refine Ab ?_
 refine Nf rfl (fun c2 => ?_) ?_
 ·have c2 := uB.1 c2
  rw [c2] at h
  have h : (some (([] : List Int))) = some r := h
  refine wq rfl (qe rfl ?_)
  obtain rfl := sj h
  refine Ae ((AT 2 2001 1 rfl rfl rfl).trans (sm [(1000, 2001)] [(2, oD (.own 1000))] [(1000, .vec 1 ((([] : List Int)).map D7))] rfl rfl)) (Ar ?_)
  exact ⟨⟨[_], tm, rfl⟩, ⟨rfl, tv⟩⟩
 ·refine Ai (wq rfl (Dg Ea EU NR rfl (qm rfl ?_)))
  refine FL h fun c1 h => Jb (f := D7) Ea Ea EU O2 NR (fun _ => rfl) c1 rfl (qe rfl ?_)
  obtain rfl := sj h
  refine Ae (sm [(1000, 7)] [(2, oD (.own 1000))] [(1000, .vec 1 (((([] : List Int)) ++ p0).map D7))] rfl rfl) (Ar ?_)
  exact ⟨⟨[_], tm, rfl⟩, ⟨rfl, tv⟩⟩
theorem RN (N : Nat) (p0 : Aa) (p1 : Ac) (r : (List Ac) × Int) (h : HC N p0 p1 = some r) : Ao zA 153 [.e (.agg (Ag p0)), .e (.agg (AI p1))] [(3, r.1.map Fh)] (.tup [.one (.own 0), .one (iC r.2)]) := by
 unfold HC at h
 refine cw (n := 75) (rs := [.tmp 4, .tmp 5]) Tryz.func153 fun w0 S0 => ?_
 refine wq rfl (qb rfl (qb rfl (qa rfl (qa rfl (Ab (wp rfl (qL Co BN rfl (qL B2 A3 rfl ?_))))))))
 refine BG h fun v1 a1 h => Av [] (Ks N p0 p1 v1 a1) U7 rfl (qa rfl (Ab (wq rfl (qm rfl (Bo rfl (Ab ?_))))))
 refine A8 h (fun h => ?_) fun h => ?_
 ·refine wq rfl (qm rfl (qa rfl (qe rfl ?_)))
  obtain rfl := sj h
  refine Ae ((AT 4 2001 3 rfl rfl rfl).trans (sm [(1000, 2001)] [(4, oD (.own 1000)), (5, iD v1)] [(1000, .vec 3 ((([] : List Ac)).map Fh))] rfl rfl)) (Ar ?_)
  exact ⟨⟨[_, _], ⟨.tmp _ _ rfl, tm⟩, rfl⟩, ⟨rfl, tv⟩⟩
 ·refine Ai (wq rfl (qa rfl (Ab (wp rfl (qf BK rfl (ql A0 rfl (AJ As rfl (qm rfl (Ab ?_)))))))))
  refine AC (L := Ed N p1) h (fun v3 => mk [(3, oD (.ptr 3 0)), (7, oD (.own 2002)), (22, pD (.sl (p1.fc.map Aj))), (23, iD ((p1.fc.length : Int))), (24, iD v3.2)] [(3, .box (AI p1)), (2002, .vec 1 (v3.1.map Aj))]) (fun v4 => mk [(3, oD (.ptr 3 0)), (7, oD (.own 2003))] [(3, .box (AI p1)), (2003, .vec 1 (v4.map Aj))]) (fun _ _ => rfl) ((AT 7 2005 1 rfl rfl rfl).trans (sm [(2002, 2005)] _ _ rfl rfl)) (fun j3 n3 v3 h => ?_) (fun v4 s h hs => ?_)
  ·unfold Ed at h
   refine wq rfl (AV rfl (Ab (AL ?_)))
   refine A8 h (fun h => ?_) fun h => ?_
   ·refine Ai ?_
    refine AS h (fun v6 => mk [(3, oD (.ptr 3 0)), (7, oD (.own 2004)), (22, pD (.sl (p1.fc.map Aj))), (23, iD ((p1.fc.length : Int))), (24, iD v3.2)] [(3, .box (AI p1)), (2004, .vec 1 (v6.map Aj))]) (fun j6 h => ?_) (fun v6 h => ?_)
    ·refine AH (wq rfl (qm rfl ?_))
     refine BD h fun v7 a7 b7 h => qi As Cp a7 (Af b7) rfl (qk BY rfl (qa rfl (qa rfl (Ab (wq rfl (qm rfl (EI rfl (Ab ?_))))))))
     refine A8 h (fun h => ?_) fun h => ?_
     ·refine Ah Aw rfl (qw 2 rfl (Dg As Cp IM rfl ?_))
      refine FL h fun c9 h => Ce (f := Aj) As As Cp JN IM c9 rfl (qe rfl ?_)
      exact sn [(2004, 34)] h
     ·refine Ai ?_
      exact sn [(2004, 2002)] h
    ·refine Ah Aw rfl (AW rfl (qm rfl (Ab ?_)))
     exact sn [(2002, 2004)] h
   ·refine AR ?_
    exact sn [(2003, 2002)] h
  ·refine Ae hs (wq rfl (qa rfl (Ab (wp rfl (qm rfl (D6 As rfl ?_))))))
   refine FL h fun c10 h => Jh rfl c10 (qm rfl (Ab ?_))
   refine AC (L := Dj N p1 v4) h (fun v11 => mk [(3, oD (.ptr 3 0)), (7, oD (.own 2006)), (10, oD (.own 2007)), (38, iD ((D1 .i64 1 ((v4.length : Int))))), (39, iD v11.2)] [(3, .box (AI p1)), (2006, .vec 1 (v4.map Aj)), (2007, .vec 3 (v11.1.map Fh))]) (fun v12 => mk [(10, oD (.own 2008))] [(2008, .vec 3 (v12.map Fh))]) (fun _ _ => rfl) ((AT 10 2027 3 rfl rfl rfl).trans (sm [(2006, 2003), (2007, 2027)] _ _ rfl rfl)) (fun j11 n11 v11 h => ?_) (fun v12 s h hs => ?_)
   ·unfold Dj at h
    refine wq rfl (AV rfl (Ab (AL ?_)))
    refine A8 h (fun h => ?_) fun h => ?_
    ·refine Ai (AL (AH (wq rfl (qm rfl (qa rfl (Ab (wq rfl (qf C5 rfl (ql A0 rfl ?_)))))))))
     refine BG h fun v14 a14 h => Av [2009] (Ep N p1.fe v14 a14) W4 rfl (qf BK rfl (ql A0 rfl ?_))
     refine BG h fun v15 a15 h => Av [2010] (Ep N p1.fc v15 a15) W4 rfl (qf C9 rfl (ql Ib rfl ?_))
     refine BG h fun v16 a16 h => Av [2011] (Gl N p1.ff v16 a16) Zv rfl (Bk EO Jw rfl (qz EO rfl (qs A3 rfl (AM (by kernel_rfl) (wp rfl (qm rfl (D6 As rfl (qm rfl (Ab ?_)))))))))
     refine AC (L := Dl N v4 v11) h (fun v17 => mk [(3, oD (.ptr 3 0)), (7, oD (.own 2015)), (10, oD (.own 2016)), (11, iD v11.2), (12, oD (.ptr 12 0)), (38, iD ((D1 .i64 1 ((v4.length : Int))))), (39, iD v11.2), (52, oD (.own 2015)), (53, iD ((v4.length : Int))), (54, iD v17.2)] [(3, .box (AI p1)), (12, .box [.own 2012, .own 2013, .own 2014]), (2012, .vec 1 (v14.map Aj)), (2013, .vec 1 (v17.1.map Aj)), (2014, .vec 1 (v16.map D7)), (2015, .vec 1 (v4.map Aj)), (2016, .vec 3 (v11.1.map Fh))]) (fun v18 => mk [(3, oD (.ptr 3 0)), (7, oD (.own 2020)), (10, oD (.own 2021)), (12, oD (.ptr 12 0)), (38, iD ((D1 .i64 1 ((v4.length : Int))))), (39, iD v11.2)] [(3, .box (AI p1)), (12, .box [.own 2017, .own 2018, .own 2019]), (2017, .vec 1 (v14.map Aj)), (2018, .vec 1 (v18.map Aj)), (2019, .vec 1 (v16.map D7)), (2020, .vec 1 (v4.map Aj)), (2021, .vec 3 (v11.1.map Fh))]) (fun _ _ => rfl) (sm [(2012, 2009), (2013, 2010), (2014, 2011), (2015, 2006), (2016, 2007)] _ _ rfl rfl) (fun j17 n17 v17 h => ?_) (fun v18 s h hs => ?_)
     ·unfold Dl at h
      refine wq rfl (AV rfl (Ab (AL ?_)))
      refine A8 h (fun h => ?_) fun h => ?_
      ·refine Ai ?_
       refine AS h (fun v20 => mk [(3, oD (.ptr 3 0)), (7, oD (.own 2025)), (10, oD (.own 2026)), (11, iD v11.2), (12, oD (.ptr 12 0)), (38, iD ((D1 .i64 1 ((v4.length : Int))))), (39, iD v11.2), (52, oD (.own 2025)), (53, iD ((v4.length : Int))), (54, iD v17.2)] [(3, .box (AI p1)), (12, .box [.own 2022, .own 2023, .own 2024]), (2022, .vec 1 (v14.map Aj)), (2023, .vec 1 (v20.map Aj)), (2024, .vec 1 (v16.map D7)), (2025, .vec 1 (v4.map Aj)), (2026, .vec 3 (v11.1.map Fh))]) (fun j20 h => ?_) (fun v20 h => ?_)
       ·refine AH (wq rfl (qm rfl ?_))
        refine BD h fun v21 a21 b21 h => qI As Cp a21 (Af b21) rfl (qj BY (Af b21) rfl (qa rfl (qa rfl (Ab (wq rfl (qw 2 rfl ?_))))))
        refine FL h fun c22 h => G4 rfl c22 (IA rfl (B1 rfl (Ab ?_)))
        refine A8 h (fun h => ?_) fun h => ?_
        ·refine Ah Aw rfl (qf BK rfl (ql A0 rfl (qm rfl ?_)))
         refine BD h fun v24 a24 b24 h => qI As Cp a24 (Af b24) rfl ?_
         refine DJ rfl rfl rfl rfl (Af b24) rfl Cp rfl (Jo rfl) (DB Aj v17.1 _ ((-1))) ?_
         refine Ab ?_
         exact sn [(2022, 2012), (2023, 2013), (2024, 2014), (2025, 2015), (2026, 2016)] h
        ·refine Ai ?_
         exact sn [(2022, 2012), (2023, 2013), (2024, 2014), (2025, 2015), (2026, 2016)] h
       ·refine Ah Aw rfl (AW rfl (qm rfl (Ab ?_)))
        exact sn [(2012, 2022), (2013, 2023), (2014, 2024), (2015, 2025), (2016, 2026)] h
      ·refine AR ?_
       exact sn [(2017, 2012), (2018, 2013), (2019, 2014), (2020, 2015), (2021, 2016)] h
     ·refine Ae hs (Ah Aw rfl (qm rfl (qL B2 A3 rfl (C0 (Bb 2017 _ _ rfl rfl) (C0 (Bb 2018 _ _ rfl rfl) (C0 (Bb 2019 _ _ rfl rfl) (Dg MB A3 EO rfl ?_)))))))
      refine FL h fun c25 h => Ce (f := Fh) MB MB A3 Zq EO c25 rfl (qa rfl (Ab (Ah Aw rfl (AW rfl (qm rfl (Ab ?_))))))
      exact sn [(2006, 2020), (2007, 72)] h
    ·refine AR ?_
     exact sn [(2008, 2007)] h
   ·refine Ae hs (wq rfl (qm rfl (qa rfl (qe rfl ?_))))
    obtain rfl := sj h
    refine Ae (sm [(1000, 2008)] [(4, oD (.own 1000)), (5, iD 0)] [(1000, .vec 3 (v12.map Fh))] rfl rfl) (Ar ?_)
    exact ⟨⟨[_, _], ⟨.tmp _ _ rfl, tm⟩, rfl⟩, ⟨rfl, tv⟩⟩
theorem OP (N : Nat) (p0 : Aa) (p1 : Ac) (r : (List Ap)) (h : Gr N p0 p1 = some r) : Ao zA 154 [.e (.agg (Ag p0)), .e (.agg (AI p1))] [(3, r.map A2)] (oD (.own 0)) := by
 unfold Gr at h
 refine cw (n := 98) (rs := [.tmp 4]) Tryz.func154 fun w0 S0 => ?_
 refine wq rfl (qb rfl (qb rfl (qa rfl (Ab (wq rfl (qa rfl (Ab (wp rfl (qf Cg rfl (ql Hp rfl (AJ Dv rfl (qm rfl (Ab ?_)))))))))))))
 refine AC (L := DM N p0 p1) h (fun v1 => mk [(3, oD (.ptr 3 0)), (5, oD (.own 2001)), (15, pD (.sl (p0.fd.map AN))), (16, iD ((p0.fd.length : Int))), (17, iD v1.2)] [(3, .box (AI p1)), (2001, .vec 3 (v1.1.map A2))]) (fun v2 => mk [(5, oD (.own 2002))] [(2002, .vec 3 (v2.map A2))]) (fun _ _ => rfl) ((AT 5 2013 3 rfl rfl rfl).trans (sm [(2001, 2013)] _ _ rfl rfl)) (fun j1 n1 v1 h => ?_) (fun v2 s h hs => ?_)
 ·unfold DM at h
  refine wq rfl (AV rfl (Ab (AL ?_)))
  refine A8 h (fun h => ?_) fun h => ?_
  ·refine Ai (AL (AH (wq rfl (qm rfl ?_))))
   refine BD h fun v4 a4 b4 h => qi Dv Dn a4 (Af b4) rfl (qK G7 Dn rfl (qz Jf rfl (qa rfl (qs Dn rfl (Ab (wq rfl (qL B2 A3 rfl (qf De rfl (ql BY rfl ?_)))))))))
   refine BG h fun v5 a5 h => Av [] (Ku N p1 v4.fh v5 a5) WK rfl (qL B2 A3 rfl (qf HP rfl (ql BY rfl ?_)))
   refine BG h fun v6 a6 h => Av [] (Ku N p1 v4.fk v6 a6) WK rfl (qa rfl (qa rfl (AM (by kernel_rfl) ?_)))
   refine AS h (fun v7 => mk [(3, oD (.ptr 3 0)), (5, oD (.own 2003)), (6, iD v1.2), (7, oD (.ptr 7 0)), (8, pD (.val (.int .u8 v7))), (9, pD (.val (.int .u8 v6))), (15, pD (.sl (p0.fd.map AN))), (16, iD ((p0.fd.length : Int))), (17, iD v1.2)] [(3, .box (AI p1)), (7, .box (Bc v4)), (2003, .vec 3 (v1.1.map A2))]) (fun j7 h => ?_) (fun v7 h => ?_)
   ·refine wq rfl (qL G7 Dn rfl ?_)
    refine BG h fun v8 a8 h => Av [] (KX N v4 v8 a8) Wo rfl (Ab ?_)
    refine A8 h (fun h => ?_) fun h => ?_
    ·refine Ah Aw rfl (qf C9 rfl (ql Ib rfl (qm rfl ?_)))
     refine BD h fun v10 a10 b10 h => qi Ea EU a10 (Af b10) rfl (qk IX rfl (qe rfl ?_))
     exact sn [(2003, 2001)] h
    ·refine Ai ?_
     exact sn [(2003, 2001)] h
   ·refine wq rfl (qf Hn rfl (ql ID rfl (AJ EL rfl (qm rfl (Ab ?_)))))
    refine AC (L := Cs N v1 v4 v6 v7) h (fun v11 => mk [(3, oD (.ptr 3 0)), (5, oD (.own 2004)), (6, iD v1.2), (7, oD (.ptr 7 0)), (8, pD (.val (.int .u8 v7))), (9, pD (.val (.int .u8 v6))), (15, pD (.sl (p0.fd.map AN))), (16, iD ((p0.fd.length : Int))), (17, iD v1.2), (39, iD ((v4.fr.length : Int))), (40, iD v11.2)] [(3, .box (AI p1)), (7, .box (Bc v4)), (2004, .vec 3 (v11.1.map A2))]) (fun v12 => mk [(3, oD (.ptr 3 0)), (5, oD (.own 2005)), (15, pD (.sl (p0.fd.map AN))), (16, iD ((p0.fd.length : Int))), (17, iD v1.2)] [(3, .box (AI p1)), (2005, .vec 3 (v12.map A2))]) (fun _ _ => rfl) (sm [(2004, 2003)] _ _ rfl rfl) (fun j11 n11 v11 h => ?_) (fun v12 s h hs => ?_)
    ·unfold Cs at h
     refine wq rfl (AV rfl (Ab (AL ?_)))
     refine A8 h (fun h => ?_) fun h => ?_
     ·refine Ai ?_
      refine AS h (fun v14 => mk [(3, oD (.ptr 3 0)), (5, oD (.own 2006)), (6, iD v1.2), (7, oD (.ptr 7 0)), (8, pD (.val (.int .u8 v7))), (9, pD (.val (.int .u8 v6))), (15, pD (.sl (p0.fd.map AN))), (16, iD ((p0.fd.length : Int))), (17, iD v1.2), (39, iD ((v4.fr.length : Int))), (40, iD v11.2)] [(3, .box (AI p1)), (7, .box (Bc v4)), (2006, .vec 3 (v14.map A2))]) (fun j14 h => ?_) (fun v14 h => ?_)
      ·refine AH (wq rfl (qm rfl (qa rfl (Ab (wp rfl (qw 2 rfl ?_))))))
       refine FL h fun c15 h => G4 rfl c15 (IA rfl (B1 rfl (Ab ?_)))
       refine A8 h (fun h => ?_) fun h => ?_
       ·refine AR ?_
        exact sn [(2006, 2004)] h
       ·refine Ai (wq rfl (qa rfl (Ab (wp rfl (qf Hn rfl (ql ID rfl (qm rfl ?_)))))))
        refine BD h fun v17 a17 b17 h => qi EL JM a17 (Af b17) rfl (qk OJ rfl (AJ ES rfl (qm rfl (Ab ?_))))
        refine AC (L := B9 N v1 v4 v6 v11 v17) h (fun v18 => mk [(3, oD (.ptr 3 0)), (5, oD (.own 2007)), (6, iD v1.2), (7, oD (.ptr 7 0)), (8, pD (.val (.int .u8 v7))), (9, pD (.val (.int .u8 v6))), (10, iD v11.2), (11, bD v18.2.1), (15, pD (.sl (p0.fd.map AN))), (16, iD ((p0.fd.length : Int))), (17, iD v1.2), (39, iD ((v4.fr.length : Int))), (40, iD v11.2), (52, pD (.sl (v17.map eB))), (53, iD ((v17.length : Int))), (54, iD v18.2.2)] [(3, .box (AI p1)), (7, .box (Bc v4)), (2007, .vec 3 (v18.1.map A2))]) (fun v19 => mk [(3, oD (.ptr 3 0)), (5, oD (.own 2008)), (6, iD v1.2), (7, oD (.ptr 7 0)), (8, pD (.val (.int .u8 v7))), (9, pD (.val (.int .u8 v6))), (10, iD v11.2), (11, bD v19.2), (15, pD (.sl (p0.fd.map AN))), (16, iD ((p0.fd.length : Int))), (17, iD v1.2), (39, iD ((v4.fr.length : Int))), (40, iD v11.2)] [(3, .box (AI p1)), (7, .box (Bc v4)), (2008, .vec 3 (v19.1.map A2))]) (fun _ _ => rfl) (sm [(2007, 2004)] _ _ rfl rfl) (fun j18 n18 v18 h => ?_) (fun v19 s h hs => ?_)
        ·unfold B9 at h
         refine wq rfl (AV rfl (Ab (AL ?_)))
         refine A8 h (fun h => ?_) fun h => ?_
         ·refine Ai ?_
          refine AS h (fun v21 => mk [(3, oD (.ptr 3 0)), (5, oD (.own 2009)), (6, iD v1.2), (7, oD (.ptr 7 0)), (8, pD (.val (.int .u8 v7))), (9, pD (.val (.int .u8 v6))), (10, iD v11.2), (11, bD v21.2), (15, pD (.sl (p0.fd.map AN))), (16, iD ((p0.fd.length : Int))), (17, iD v1.2), (39, iD ((v4.fr.length : Int))), (40, iD v11.2), (52, pD (.sl (v17.map eB))), (53, iD ((v17.length : Int))), (54, iD v18.2.2)] [(3, .box (AI p1)), (7, .box (Bc v4)), (2009, .vec 3 (v21.1.map A2))]) (fun j21 h => ?_) (fun v21 h => ?_)
          ·refine AH (wq rfl (qm rfl ?_))
           refine BD h fun v22 a22 b22 h => qi ES Oq a22 (Af b22) rfl (qk Sm rfl (qa rfl (qa rfl (Ab (wp rfl (qw 2 rfl ?_))))))
           refine FL h fun c23 h => G4 rfl c23 (IA rfl (B1 rfl (Ab ?_)))
           refine A8 h (fun h => ?_) fun h => ?_
           ·refine AR ?_
            exact sn [(2009, 2007)] h
           ·refine Ai ?_
            refine AS h (fun v25 => mk [(3, oD (.ptr 3 0)), (5, oD (.own 2010)), (6, iD v1.2), (7, oD (.ptr 7 0)), (8, pD (.val (.int .u8 v7))), (9, pD (.val (.int .u8 v6))), (10, iD v11.2), (11, bD v25), (12, iD v18.2.2), (13, bD v22), (15, pD (.sl (p0.fd.map AN))), (16, iD ((p0.fd.length : Int))), (17, iD v1.2), (39, iD ((v4.fr.length : Int))), (40, iD v11.2), (52, pD (.sl (v17.map eB))), (53, iD ((v17.length : Int))), (54, iD v18.2.2)] [(3, .box (AI p1)), (7, .box (Bc v4)), (2010, .vec 3 (v18.1.map A2))]) (fun j25 h => ?_) (fun v25 h => ?_)
            ·refine Ah Aw rfl (qw 2 rfl ?_)
             refine Eu 65 h rfl (fun h => ?_) fun h => ?_
             ·refine qn rfl (qp rfl (qe rfl ?_))
              exact sn [(2010, 2007)] h
             ·refine qm rfl (qp rfl (qe rfl ?_))
              exact sn [(2010, 2007)] h
            ·refine AS h (fun v27 => mk [(3, oD (.ptr 3 0)), (5, oD (.own 2011)), (6, iD v1.2), (7, oD (.ptr 7 0)), (8, pD (.val (.int .u8 v7))), (9, pD (.val (.int .u8 v6))), (10, iD v11.2), (11, bD v25), (12, iD v18.2.2), (15, pD (.sl (p0.fd.map AN))), (16, iD ((p0.fd.length : Int))), (17, iD v1.2), (39, iD ((v4.fr.length : Int))), (40, iD v11.2), (52, pD (.sl (v17.map eB))), (53, iD ((v17.length : Int))), (54, iD v18.2.2), (74, bD v27)] [(3, .box (AI p1)), (7, .box (Bc v4)), (2011, .vec 3 (v18.1.map A2))]) (fun j27 h => ?_) (fun v27 h => ?_)
             ·refine Ah Aw rfl (qm rfl (CA rfl (qm rfl ?_)))
              refine Eu 70 h rfl (fun h => ?_) fun h => ?_
              ·refine qf Jy rfl (ql Sm rfl (CA rfl (qp rfl (Ab ?_))))
               exact sn [(2011, 2010)] h
              ·refine qw 3 rfl (qp rfl (Ab ?_))
               exact sn [(2011, 2010)] h
             ·refine A8 h (fun h => ?_) fun h => ?_
              ·refine Ah Aw rfl (qw 4 rfl (Bk Jp Q9 rfl (Dg HT I6 Jp rfl ?_)))
               refine FL h fun c30 h => Ce (f := A2) HT HT I6 RM Jp c30 rfl (qe rfl ?_)
               exact sn [(2009, 81)] h
              ·refine Ai ?_
               exact sn [(2009, 2011)] h
          ·refine Ah Aw rfl (AW rfl (qm rfl (Ab ?_)))
           exact sn [(2007, 2009)] h
         ·refine AR ?_
          exact sn [(2008, 2007)] h
        ·refine Ae hs ?_
         refine AS h (fun v31 => mk [(3, oD (.ptr 3 0)), (5, oD (.own 2012)), (6, iD v1.2), (7, oD (.ptr 7 0)), (8, pD (.val (.int .u8 v7))), (9, pD (.val (.int .u8 v6))), (10, iD v11.2), (15, pD (.sl (p0.fd.map AN))), (16, iD ((p0.fd.length : Int))), (17, iD v1.2), (39, iD ((v4.fr.length : Int))), (40, iD v11.2), (88, bD v31)] [(3, .box (AI p1)), (7, .box (Bc v4)), (2012, .vec 3 (v19.1.map A2))]) (fun j31 h => ?_) (fun v31 h => ?_)
         ·refine Ah Aw rfl (qf Jy rfl (ql Sm rfl (qm rfl ?_)))
          refine Eu 85 h rfl (fun h => ?_) fun h => ?_
          ·refine qm rfl (CA rfl (qp rfl (Ab ?_)))
           exact sn [(2012, 2008)] h
          ·refine qw 2 rfl (qp rfl (Ab ?_))
           exact sn [(2012, 2008)] h
         ·refine A8 h (fun h => ?_) fun h => ?_
          ·refine Ah Aw rfl (qw 3 rfl (Bk Jp Q9 rfl (Dg HT I6 Jp rfl ?_)))
           refine FL h fun c34 h => Ce (f := A2) HT HT I6 RM Jp c34 rfl (qe rfl ?_)
           exact sn [(2006, 94)] h
          ·refine Ai ?_
           exact sn [(2006, 2012)] h
      ·refine Ah Aw rfl (AW rfl (qm rfl (Ab ?_)))
       exact sn [(2004, 2006)] h
     ·refine AR ?_
      exact sn [(2005, 2004)] h
    ·refine Ae hs (Ah Aw rfl (AW rfl (qm rfl (Ab ?_))))
     exact sn [(2001, 2005)] h
  ·refine AR ?_
   exact sn [(2002, 2001)] h
 ·refine Ae hs (wq rfl (qm rfl (qe rfl ?_)))
  obtain rfl := sj h
  refine Ae (sm [(1000, 2002)] [(4, oD (.own 1000))] [(1000, .vec 3 (v2.map A2))] rfl rfl) (Ar ?_)
  exact ⟨⟨[_], tm, rfl⟩, ⟨rfl, tv⟩⟩
theorem Su (N : Nat) (p0 : Aa) (p1 : Ac) (r : Ac × Ap × Int) (h : Iw N p0 p1 = some r) : Ao zA 117 [.e (.agg (Ag p0)), .e (.agg (AI p1))] [] (.tup [.agg (AI r.1), .agg (Nu r.2.1), .one (iC r.2.2)]) := by
 unfold Iw at h
 refine cw (n := 42) (rs := [.cell 4 49, .cell 5 149, .tmp 6]) Tryz.func117 fun w0 S0 => ?_
 refine wq rfl (qb rfl (qb rfl (qz EO rfl (qz Jp rfl (qa rfl (Ab (wq rfl (qL Co BN rfl (qL B2 A3 rfl ?_)))))))))
 refine BG h fun v1 a1 h => Av [2001] (RN N p0 p1 v1 a1) cQ rfl (qm rfl (qx rfl (qx rfl (qa rfl (qa rfl (Ab (wp rfl (qm rfl (Bo rfl (Ab ?_))))))))))
 refine A8 h (fun h => ?_) fun h => ?_
 ·refine wq rfl (Bk EO Jw rfl (Bk Jp Q9 rfl (qm rfl (qs A3 rfl (qs I6 rfl (qe rfl ?_))))))
  obtain rfl := sj h
  refine Ae ((Rc 4 _ rfl).trans (sm [] [(4, oD (.ptr 4 0)), (5, oD (.ptr 5 0)), (6, iD v1.2)] [(4, .box [sC ((([] : List Int)).map Aj), sC ((([] : List Int)).map Aj), sC ((([] : List Int)).map D7)]), (5, .box [iC 0, iC 0, iC 0])] rfl rfl)) (Ar ?_)
  exact ⟨⟨[_, _, _], ⟨.cellN _ _ _ _ _ _ _ rfl rfl B2 A3 rfl rfl (Jx rfl), ⟨.cellN _ _ _ _ _ _ _ rfl rfl Vg I6 rfl rfl (Jx rfl), tm⟩⟩, rfl⟩, tv⟩
 ·refine Ai (wp rfl (qm rfl (D6 MB rfl (qm rfl (Ab ?_)))))
  refine AC (L := Fk N p0 v1) h (fun v3 => mk [(2, oD (.ptr 2 0)), (4, oD (.ptr 4 0)), (5, oD (.ptr 5 0)), (23, oD (.own 2002)), (24, iD ((v1.1.length : Int))), (25, iD v3)] [(2, .box (Ag p0)), (4, .box [.pure (.nil0), .pure (.nil0), .pure (.nil0)]), (5, .box [iC 0, iC 0, iC 0]), (2002, .vec 3 (v1.1.map Fh))]) (fun v4 => mk [(4, oD (.ptr 4 0)), (5, oD (.ptr 5 0))] [(4, .box [.pure (.nil0), .pure (.nil0), .pure (.nil0)]), (5, .box [iC 0, iC 0, iC 0])]) (fun _ _ => rfl) (sm [(2002, 2001)] _ _ rfl rfl) (fun j3 n3 v3 h => ?_) (fun v4 s h hs => ?_)
  ·unfold Fk at h
   refine wq rfl (AV rfl (Ab (AL ?_)))
   refine A8 h (fun h => ?_) fun h => ?_
   ·refine Ai (AL (AH (wq rfl ?_)))
    refine BD h fun v6 a6 b6 h => qI MB A3 a6 (Af b6) rfl (qJ B2 A3 (Af b6) rfl (qz EO rfl (qs A3 rfl (Ab (wq rfl (qL Co BN rfl (qL B2 A3 rfl ?_)))))))
    refine BG h fun v7 a7 h => Av [2003] (OP N p0 v6 v7 a7) cd rfl (qa rfl (Ab (wq rfl (qm rfl (D6 HT rfl (GQ rfl (Ab ?_)))))))
    refine A8 h (fun h => ?_) fun h => ?_
    ·refine wq rfl (qL B2 A3 rfl (qm rfl ?_))
     refine BD h fun v9 a9 b9 h => qI HT I6 a9 (Af b9) rfl (qJ Vg I6 (Af b9) rfl (qs A3 rfl (qs I6 rfl (qa rfl (AM (by kernel_rfl) ?_)))))
     obtain rfl := sj h
     refine Ae (sm [] [(4, oD (.ptr 4 0)), (5, oD (.ptr 5 0)), (6, iD 0)] [(4, .box (AI v6)), (5, .box (Nu v9))] rfl rfl) (Ar ?_)
     exact ⟨⟨[_, _, _], ⟨.cellN _ _ _ _ _ _ _ rfl rfl B2 A3 rfl rfl (Jx rfl), ⟨.cellN _ _ _ _ _ _ _ rfl rfl Vg I6 rfl rfl (Jx rfl), tm⟩⟩, rfl⟩, tv⟩
    ·refine Ai (Ah Aw rfl (AW rfl (qm rfl (Ab ?_))))
     exact sn [] h
   ·refine AR ?_
    exact sn [] h
  ·refine Ae hs (wq rfl (Bk EO Jw rfl (Bk Jp Q9 rfl (qs A3 rfl (qs I6 rfl (qe rfl ?_))))))
   obtain rfl := sj h
   refine Ae ((Rc 4 _ rfl).trans (sm [] [(4, oD (.ptr 4 0)), (5, oD (.ptr 5 0)), (6, iD 15)] [(4, .box [sC ((([] : List Int)).map Aj), sC ((([] : List Int)).map Aj), sC ((([] : List Int)).map D7)]), (5, .box [iC 0, iC 0, iC 0])] rfl rfl)) (Ar ?_)
   exact ⟨⟨[_, _, _], ⟨.cellN _ _ _ _ _ _ _ rfl rfl B2 A3 rfl rfl (Jx rfl), ⟨.cellN _ _ _ _ _ _ _ rfl rfl Vg I6 rfl rfl (Jx rfl), tm⟩⟩, rfl⟩, tv⟩
theorem NQ (N : Nat) (p0 : Aa) (p1 : Ac) (r : Bool × Int) (h : GW N p0 p1 = some r) : Ao zA 83 [.e (.agg (Ag p0)), .e (.agg (AI p1))] [] (.tup [.one (.pure (.val (.bool r.1))), .one (iC r.2)]) := by
 unfold GW at h
 refine cw (n := 22) (rs := [.tmp 4, .tmp 5]) Tryz.func83 fun w0 S0 => ?_
 refine wq rfl (qb rfl (qb rfl (qa rfl (qa rfl (Ab (wq rfl (qL Co BN rfl (qL B2 A3 rfl ?_))))))))
 refine BG h fun v1 a1 h => Av [] (Su N p0 p1 v1 a1) cY rfl (qm rfl (qx rfl (qx rfl (qx rfl (qz EO rfl (qz Jp rfl (qs A3 rfl (qs I6 rfl (qa rfl (Ab (wq rfl (qm rfl (Ab (AH (wq rfl (B1 rfl (qe rfl ?_)))))))))))))))))
 refine A8 h (fun h => ?_) fun h => ?_
 ·refine wq rfl (qa rfl (qe rfl ?_))
  obtain rfl := sj h
  refine Ae (sm [] [(4, bD false), (5, iD 0)] [] rfl rfl) (Ar ?_)
  exact ⟨⟨[_, _], ⟨.tmp _ _ rfl, tm⟩, rfl⟩, tv⟩
 ·refine wq rfl (B1 rfl (qe rfl ?_))
  refine A8 h (fun h => ?_) fun h => ?_
  ·refine wq rfl (qa rfl (qe rfl ?_))
   obtain rfl := sj h
   refine Ae (sm [] [(4, bD true), (5, iD 0)] [] rfl rfl) (Ar ?_)
   exact ⟨⟨[_, _], ⟨.tmp _ _ rfl, tm⟩, rfl⟩, tv⟩
  ·refine wq rfl (qm rfl (qa rfl (qe rfl ?_)))
   obtain rfl := sj h
   refine Ae (sm [] [(4, bD false), (5, iD v1.2.2)] [] rfl rfl) (Ar ?_)
   exact ⟨⟨[_, _], ⟨.tmp _ _ rfl, tm⟩, rfl⟩, tv⟩
theorem Pe (N : Nat) (p0 : Ac) (r : ByteArray) (h : H7 N p0 = some r) : Ao zA 138 [.e (.agg (AI p0))] [] (pD (.val (.string r))) := by
 unfold H7 at h
 refine cw (n := 53) (rs := [.tmp 2]) Tryz.func138 fun w0 S0 => ?_
 refine wq rfl (qb rfl (qa rfl (Ab (wq rfl (qf C5 rfl (ql A0 rfl (AJ As rfl (Na rfl (qf C9 rfl (ql Ib rfl (AJ Ea rfl (AW rfl ?_))))))))))))
 refine FL h fun c1 h => L7 (.p rfl) rfl rfl rfl Lq aH ah (Jo rfl) cS rfl rfl rfl c1.1 c1.2.1 c1.2.2 (Sb D7 _ ((0 : Int))) ?_
 refine qa rfl (Ab (wp rfl (qf C5 rfl (ql A0 rfl (AJ As rfl (qm rfl (Ab ?_)))))))
 refine AC (L := E2 N p0) h (fun v2 => mk [(1, oD (.ptr 1 0)), (3, oD (.own 2001)), (18, iD ((p0.fe.length : Int))), (19, iD v2.2)] [(1, .box (AI p0)), (2001, .vec 1 (v2.1.map D7))]) (fun v3 => mk [(1, oD (.ptr 1 0)), (3, oD (.own 2002))] [(1, .box (AI p0)), (2002, .vec 1 (v3.map D7))]) (fun _ _ => rfl) (sm [(2001, 15)] _ _ rfl rfl) (fun j2 n2 v2 h => ?_) (fun v3 s h hs => ?_)
 ·unfold E2 at h
  refine wq rfl (AV rfl (Ab (AL ?_)))
  refine A8 h (fun h => ?_) fun h => ?_
  ·refine Ai (AL (AH (wq rfl (qm rfl (qa rfl (Ab (Ah Aw rfl (qm rfl (qf C5 rfl (ql A0 rfl (qm rfl ?_)))))))))))
   refine BD h fun v5 a5 b5 h => qi As Cp a5 (Af b5) rfl (qk BY rfl (JO dD e9 rfl (qf BK rfl (ql A0 rfl (qm rfl ?_)))))
   refine BD h fun v6 a6 b6 h => qi As Cp a6 (Af b6) rfl (qk BY rfl (AW rfl (JO dD e9 rfl (Dg Lq aH cS rfl ?_))))
   refine FL h fun c7 h => Ce (f := D7) Lq Lq aH ah cS c7 rfl (qa rfl (AM (by kernel_rfl) (Ah Aw rfl (AW rfl (qm rfl (Ab ?_))))))
   exact sn [(2001, 37)] h
  ·refine AR ?_
   exact sn [(2002, 2001)] h
 ·refine Ae hs (wp rfl (qf C9 rfl (ql Ib rfl (AJ Ea rfl (qm rfl (Ab ?_))))))
  refine AC (L := DZ N p0) h (fun v8 => mk [(3, oD (.own 2003)), (40, pD (.sl (p0.ff.map D7))), (41, iD ((p0.ff.length : Int))), (42, iD v8.2)] [(2003, .vec 1 (v8.1.map D7))]) (fun v9 => mk [(3, oD (.own 2004))] [(2004, .vec 1 (v9.map D7))]) (fun _ _ => rfl) (sm [(2003, 2002)] _ _ rfl rfl) (fun j8 n8 v8 h => ?_) (fun v9 s h hs => ?_)
  ·unfold DZ at h
   refine wq rfl (AV rfl (Ab (AL ?_)))
   refine A8 h (fun h => ?_) fun h => ?_
   ·refine Ai (AL (AH (wq rfl ?_)))
    refine BD h fun v11 a11 b11 h => qi Ea EU a11 (Af b11) rfl (qk IX rfl (qa rfl (Ab (Ah Aw rfl (qw 2 rfl (Dg Lq aH cS rfl ?_))))))
    refine FL h fun c12 h => Ce (f := D7) Lq Lq aH ah cS c12 rfl (qa rfl (Ab (Ah Aw rfl (AW rfl (qm rfl (Ab ?_))))))
    exact sn [(2003, 49)] h
   ·refine AR ?_
    exact sn [(2004, 2003)] h
  ·refine Ae hs (wq rfl (qm rfl ?_))
   refine Xa v9 (.p rfl) rfl (WE D7 _ _ _) ⟨rfl, tv⟩ rfl cR VF ?_
   refine qa rfl (Ab ?_)
   obtain rfl := sj h
   refine Ae (sm [] [(2, pD (.val (.string ((CL v9)))))] [] rfl rfl) (Ar ?_)
   exact ⟨⟨[_], tm, rfl⟩, tv⟩
theorem Us (N : Nat) (p0 : Aa) (r : (List Ad)) (h : I0 N p0 = some r) : Ao zA 125 [.e (.agg (Ag p0))] [(3, r.map AA)] (oD (.own 0)) := by
 unfold I0 at h
 refine cw (n := 54) (rs := [.tmp 2]) Tryz.func125 fun w0 S0 => ?_
 refine wq rfl (qb rfl (qa rfl (Ab (wq rfl (qa rfl (Ab (wp rfl (qf A5 rfl (ql A0 rfl (AJ As rfl (qm rfl (Ab ?_))))))))))))
 refine AC (L := Dx N p0) h (fun v1 => mk [(1, oD (.ptr 1 0)), (3, oD (.own 2001)), (10, pD (.sl (p0.fb.map Aj))), (11, iD ((p0.fb.length : Int))), (12, iD v1.2)] [(1, .box (Ag p0)), (2001, .vec 3 (v1.1.map AA))]) (fun v2 => mk [(1, oD (.ptr 1 0)), (3, oD (.own 2002))] [(1, .box (Ag p0)), (2002, .vec 3 (v2.map AA))]) (fun _ _ => rfl) ((AT 3 2005 3 rfl rfl rfl).trans (sm [(2001, 2005)] _ _ rfl rfl)) (fun j1 n1 v1 h => ?_) (fun v2 s h hs => ?_)
 ·unfold Dx at h
  refine wq rfl (AV rfl (Ab (AL ?_)))
  refine A8 h (fun h => ?_) fun h => ?_
  ·refine Ai (AL (AH (wq rfl (qm rfl ?_))))
   refine BD h fun v4 a4 b4 h => qi As Cp a4 (Af b4) rfl (qk BY rfl (qa rfl (qa rfl (Ab (wq rfl (qw 2 rfl (Ab ?_)))))))
   refine AC (L := Fa N v1 v4) h (fun v5 => mk [(1, oD (.ptr 1 0)), (3, oD (.own 2003)), (4, iD v1.2), (10, pD (.sl (p0.fb.map Aj))), (11, iD ((p0.fb.length : Int))), (12, iD v1.2), (17, iD v4), (18, iD v5.2)] [(1, .box (Ag p0)), (2003, .vec 3 (v5.1.map AA))]) (fun v6 => mk [(1, oD (.ptr 1 0)), (3, oD (.own 2004)), (10, pD (.sl (p0.fb.map Aj))), (11, iD ((p0.fb.length : Int))), (12, iD v1.2)] [(1, .box (Ag p0)), (2004, .vec 3 (v6.map AA))]) (fun _ _ => rfl) (sm [(2003, 2001)] _ _ rfl rfl) (fun j5 n5 v5 h => ?_) (fun v6 s h hs => ?_)
   ·unfold Fa at h
    refine wq rfl (AV rfl (Ab (AL ?_)))
    refine A8 h (fun h => ?_) fun h => ?_
    ·refine Ai (AL (AH (wq rfl (qm rfl (qa rfl (Ab (Ah Aw rfl (qw 3 rfl (Bk KD YJ rfl (Dg ET E7 KD rfl ?_))))))))))
     refine FL h fun c8 h => Ce (f := AA) ET ET E7 QG KD c8 rfl (qa rfl (Ab (Ah Aw rfl (AW rfl (qm rfl (Ab ?_))))))
     exact sn [(2003, 26)] h
    ·refine AR ?_
     exact sn [(2004, 2003)] h
   ·refine Ae hs (Ah Aw rfl (AW rfl (qm rfl (Ab ?_))))
    exact sn [(2001, 2004)] h
  ·refine AR ?_
   exact sn [(2002, 2001)] h
 ·refine Ae hs (wp rfl (qf A5 rfl (ql A0 rfl (AJ As rfl (qm rfl (Ab ?_))))))
  refine AC (L := Cz N p0) h (fun v9 => mk [(1, oD (.ptr 1 0)), (3, oD (.own 2006)), (31, iD ((p0.fb.length : Int))), (32, iD v9.2)] [(1, .box (Ag p0)), (2006, .vec 3 (v9.1.map AA))]) (fun v10 => mk [(1, oD (.ptr 1 0)), (3, oD (.own 2007))] [(1, .box (Ag p0)), (2007, .vec 3 (v10.map AA))]) (fun _ _ => rfl) (sm [(2006, 2002)] _ _ rfl rfl) (fun j9 n9 v9 h => ?_) (fun v10 s h hs => ?_)
  ·unfold Cz at h
   refine wq rfl (AV rfl (Ab (AL ?_)))
   refine A8 h (fun h => ?_) fun h => ?_
   ·refine Ai (AL (AH (wq rfl (qm rfl (qa rfl (Ab (Ah Aw rfl (qw 2 rfl (Bk KD YJ rfl (Dg ET E7 KD rfl ?_))))))))))
    refine FL h fun c12 h => Ce (f := AA) ET ET E7 QG KD c12 rfl (qa rfl (Ab (Ah Aw rfl (AW rfl (qm rfl (Ab ?_))))))
    exact sn [(2006, 39)] h
   ·refine AR ?_
    exact sn [(2007, 2006)] h
  ·refine Ae hs (wp rfl (qf Cg rfl (ql Hp rfl (AJ Dv rfl (qm rfl (Ab ?_))))))
   refine AC (L := Bx N p0) h (fun v13 => mk [(3, oD (.own 2008)), (43, iD ((p0.fd.length : Int))), (44, iD v13.2)] [(2008, .vec 3 (v13.1.map AA))]) (fun v14 => mk [(3, oD (.own 2009))] [(2009, .vec 3 (v14.map AA))]) (fun _ _ => rfl) (sm [(2008, 2007)] _ _ rfl rfl) (fun j13 n13 v13 h => ?_) (fun v14 s h hs => ?_)
   ·unfold Bx at h
    refine wq rfl (AV rfl (Ab (AL ?_)))
    refine A8 h (fun h => ?_) fun h => ?_
    ·refine Ai (AL (AH (wq rfl (qm rfl (qa rfl (Ab (Ah Aw rfl (qw 2 rfl (Bk KD YJ rfl (Dg ET E7 KD rfl ?_))))))))))
     refine FL h fun c16 h => Ce (f := AA) ET ET E7 QG KD c16 rfl (qa rfl (Ab (Ah Aw rfl (AW rfl (qm rfl (Ab ?_))))))
     exact sn [(2008, 51)] h
    ·refine AR ?_
     exact sn [(2009, 2008)] h
   ·refine Ae hs (wq rfl (qm rfl (qe rfl ?_)))
    obtain rfl := sj h
    refine Ae (sm [(1000, 2009)] [(2, oD (.own 1000))] [(1000, .vec 3 (v14.map AA))] rfl rfl) (Ar ?_)
    exact ⟨⟨[_], tm, rfl⟩, ⟨rfl, tv⟩⟩
theorem Qu (N : Nat) (p0 : Ac) (r : Ac) (h : Hg N p0 = some r) : Ao zA 159 [.e (.agg (AI p0))] [(1, r.fe.map Aj), (1, r.fc.map Aj), (1, r.ff.map D7)] (.e (.agg [.own 0, .own 1, .own 2])) := by
 unfold Hg at h
 refine cw (n := 13) (rs := [.cell 2 49]) Tryz.func159 fun w0 S0 => ?_
 refine wq rfl (qb rfl (qz EO rfl (Ab (wq rfl (qf C5 rfl (ql A0 rfl ?_))))))
 refine BG h fun v1 a1 h => Av [2001] (Ep N p0.fe v1 a1) W4 rfl (qf BK rfl (ql A0 rfl ?_))
 refine BG h fun v2 a2 h => Av [2002] (Ep N p0.fc v2 a2) W4 rfl (qf C9 rfl (ql Ib rfl ?_))
 refine BG h fun v3 a3 h => Av [2003] (Gl N p0.ff v3 a3) Zv rfl (Bk EO Jw rfl (qs A3 rfl (AM (by kernel_rfl) ?_)))
 obtain rfl := sj h
 refine Ae (sm [(1000, 2001), (1001, 2002), (1002, 2003)] [(2, oD (.ptr 2 0))] [(2, .box [.own 1000, .own 1001, .own 1002]), (1000, .vec 1 (v1.map Aj)), (1001, .vec 1 (v2.map Aj)), (1002, .vec 1 (v3.map D7))] rfl rfl) (Ar ?_)
 exact ⟨⟨[_], ⟨.cellN _ _ _ _ _ _ _ rfl rfl B2 A3 rfl rfl (Jx rfl), tv⟩, rfl⟩, ⟨rfl, rfl, rfl, tv⟩⟩
theorem MA (N : Nat) (p0 : An) (r : Bool) (h : Gm N p0 = some r) : Ao zA 176 [.e (.agg (Bc p0))] [] (bD r) := by
 unfold Gm at h
 refine cw (n := 11) (rs := [.tmp 2]) Tryz.func176 fun w0 S0 => ?_
 refine wq rfl (qb rfl (qe rfl ?_))
 refine AS h (fun v1 => mk [(2, bD v1)] []) (fun j1 h => ?_) (fun v1 h => ?_)
 ·refine Ah Aw rfl (qf Gz rfl (ql BY rfl (B1 rfl (qm rfl ?_))))
  refine Eu 6 h rfl (fun h => ?_) fun h => ?_
  ·refine qw 3 rfl (qp rfl (qe rfl ?_))
   exact sn [] h
  ·refine qf Gz rfl (ql BY rfl (B1 rfl (qp rfl (qe rfl ?_))))
   exact sn [] h
 ·obtain rfl := sj h
  refine Ae (sm [] [(2, bD v1)] [] rfl rfl) (Ar ?_)
  exact ⟨⟨[_], tm, rfl⟩, tv⟩
theorem RY (N : Nat) (p0 : Aa) (p1 : Ac) (p2 : Ad) (r : Bool × (List Int) × (List Int)) (h : IP N p0 p1 p2 = some r) : ER zA 160 [.e (.agg (Ag p0)), oD (.ptr 90000 0), .e (.agg (Dw p2))] [(.box [.own 90001, .own 90002, .own 90003], .box [.own 90001, .own 90002, .own 90003]), (.vec 1 (p1.fe.map Aj), .vec 1 (p1.fe.map Aj)), (.vec 1 (p1.fc.map Aj), .vec 1 (r.2.1.map Aj)), (.vec 1 (p1.ff.map D7), .vec 1 (r.2.2.map D7))] [] (bD r.1) := by
 unfold IP at h
 refine He (n := 70) (rs := [.tmp 6]) Tryz.func160 rfl rfl rfl (Jo rfl) (Jo rfl) rfl rfl (Jo rfl) rfl (Jo rfl) fun w0 S0 GL => ?_
 refine Ae (sm [] [(0, .e (.agg (Ag p0))), (1, oD (.ptr 90000 0)), (2, .e (.agg (Dw p2)))] [(90000, .box [.own 90001, .own 90002, .own 90003]), (90001, .vec 1 (p1.fe.map Aj)), (90002, .vec 1 (p1.fc.map Aj)), (90003, .vec 1 (p1.ff.map D7))] rfl rfl) (wq rfl (qb rfl (qb rfl (qa rfl (Ab (AL ?_))))))
 refine AS h (fun v1 => mk [(1, oD (.ptr 90000 0)), (3, oD (.ptr 3 0)), (5, oD (.ptr 5 0)), (30, bD v1)] [(3, .box (Ag p0)), (5, .box (Dw p2)), (90000, .box [.own 90001, .own 90002, .own 90003]), (90001, .vec 1 (p1.fe.map Aj)), (90002, .vec 1 (p1.fc.map Aj)), (90003, .vec 1 (p1.ff.map D7))]) (fun j1 h => ?_) (fun v1 h => ?_)
 ·refine Ah Aw rfl (qm rfl (Y5 rfl (qf BK rfl (ql A0 rfl (qf FE rfl (ql BY rfl ?_))))))
  refine BD h fun v2 a2 b2 h => qI As Cp a2 (Af b2) rfl (qj BY (Af b2) rfl (EI rfl (qm rfl ?_)))
  refine Eu 18 h rfl (fun h => ?_) fun h => ?_
  ·refine qw 11 rfl (qp rfl (AM (by kernel_rfl) ?_))
   exact sn [] h
  ·refine qm rfl (Y5 rfl (qf C5 rfl (ql A0 rfl (qf FE rfl (ql BY rfl ?_)))))
   refine BD h fun v4 a4 b4 h => qI As Cp a4 (Af b4) rfl (qj BY (Af b4) rfl (qf HQ rfl (ql BY rfl (B1 rfl (qp rfl (AM (by kernel_rfl) ?_))))))
   exact sn [] h
 ·refine A8 h (fun h => ?_) fun h => ?_
  ·refine wq rfl (qe rfl ?_)
   obtain rfl := sj h
   refine Ae (sm [] [(6, bD false)] [(90000, .box [.own 90001, .own 90002, .own 90003]), (90001, .vec 1 (p1.fe.map Aj)), (90002, .vec 1 (p1.fc.map Aj)), (90003, .vec 1 (p1.ff.map D7))] rfl rfl) (Ar ?_)
   exact ⟨⟨[_], tm, rfl⟩, ⟨rfl, rfl, rfl, rfl, tv⟩, tv⟩
  ·refine Ai (wq rfl (qm rfl (Y5 rfl (qf BK rfl (ql A0 rfl (qf FE rfl (ql BY rfl (qf HQ rfl (ql BY rfl ?_)))))))))
   refine BD h fun v6 a6 b6 h => qI As Cp a6 (Af b6) rfl ?_
   refine DJ rfl rfl rfl rfl (Af b6) rfl Cp rfl (Jo rfl) (DB Aj p1.fc _ p2.fp) ?_
   refine AM (by kernel_rfl) (wp rfl (qf Cg rfl (ql Hp rfl (AJ Dv rfl (qm rfl (Ab ?_))))))
   refine AC (L := Ec N p0 p2) h (fun v7 => mk [(1, oD (.ptr 90000 0)), (5, oD (.ptr 5 0)), (41, pD (.sl (p0.fd.map AN))), (42, iD ((p0.fd.length : Int))), (43, iD v7.2)] [(5, .box (Dw p2)), (90000, .box [.own 90001, .own 90002, .own 90003]), (90001, .vec 1 (p1.fe.map Aj)), (90002, .vec 1 ((p1.fc.set ((p2.fi).toNat) p2.fp).map Aj)), (90003, .vec 1 (v7.1.map D7))]) (fun v8 => mk [] [(90000, .box [.own 90001, .own 90002, .own 90003]), (90001, .vec 1 (p1.fe.map Aj)), (90002, .vec 1 ((p1.fc.set ((p2.fi).toNat) p2.fp).map Aj)), (90003, .vec 1 (v8.map D7))]) (fun _ _ => rfl) (sm [] _ _ rfl rfl) (fun j7 n7 v7 h => ?_) (fun v8 s h hs => ?_)
   ·unfold Ec at h
    refine wq rfl (AV rfl (Ab (AL ?_)))
    refine A8 h (fun h => ?_) fun h => ?_
    ·refine Ai ?_
     refine AS h (fun v10 => mk [(1, oD (.ptr 90000 0)), (5, oD (.ptr 5 0)), (41, pD (.sl (p0.fd.map AN))), (42, iD ((p0.fd.length : Int))), (43, iD v7.2)] [(5, .box (Dw p2)), (90000, .box [.own 90001, .own 90002, .own 90003]), (90001, .vec 1 (p1.fe.map Aj)), (90002, .vec 1 ((p1.fc.set ((p2.fi).toNat) p2.fp).map Aj)), (90003, .vec 1 (v10.map D7))]) (fun j10 h => ?_) (fun v10 h => ?_)
     ·refine AH (wq rfl (qm rfl ?_))
      refine BD h fun v11 a11 b11 h => qi Dv Dn a11 (Af b11) rfl (qK G7 Dn rfl (qz Jf rfl (qa rfl (qs Dn rfl (Ab ?_)))))
      refine AS h (fun v12 => mk [(1, oD (.ptr 90000 0)), (5, oD (.ptr 5 0)), (7, iD v7.2), (41, pD (.sl (p0.fd.map AN))), (42, iD ((p0.fd.length : Int))), (43, iD v7.2), (56, bD v12)] [(5, .box (Dw p2)), (90000, .box [.own 90001, .own 90002, .own 90003]), (90001, .vec 1 (p1.fe.map Aj)), (90002, .vec 1 ((p1.fc.set ((p2.fi).toNat) p2.fp).map Aj)), (90003, .vec 1 (v7.1.map D7))]) (fun j12 h => ?_) (fun v12 h => ?_)
      ·refine Ah Aw rfl (qf De rfl (ql BY rfl (qf FE rfl (ql BY rfl (B1 rfl (qm rfl ?_))))))
       refine Eu 53 h rfl (fun h => ?_) fun h => ?_
       ·refine qL G7 Dn rfl ?_
        refine BG h fun v14 a14 h => Av [] (MA N v11 v14 a14) ZG rfl (qp rfl (Ab ?_))
        exact sn [] h
       ·refine qw 2 rfl (qp rfl (Ab ?_))
        exact sn [] h
      ·refine A8 h (fun h => ?_) fun h => ?_
       ·refine Ah Aw rfl (qm rfl (Y5 rfl (qf C9 rfl (ql Ib rfl (qm rfl ?_)))))
        refine BD h fun v16 a16 b16 h => qI Ea EU a16 (Af b16) rfl (qj IX (Af b16) rfl (qf HQ rfl (ql BY rfl ?_)))
        refine FL h fun c17 h => Jh rfl c17 (VG rfl ?_)
        refine BD h fun v18 a18 b18 h => qI Ea EU a18 (Af b18) rfl ?_
        refine DJ rfl rfl rfl rfl (Af b18) rfl EU rfl (Jo rfl) (DB D7 v7.1 _ ((PI .u8 v16 ((D1 .u8 1 p2.fp))))) ?_
        refine AM (by kernel_rfl) ?_
        exact sn [] h
       ·refine Ai ?_
        exact sn [] h
     ·refine Ah Aw rfl (AW rfl (qm rfl (Ab ?_)))
      exact sn [] h
    ·refine AR ?_
     exact sn [] h
   ·refine Ae hs (wq rfl (qe rfl ?_))
    obtain rfl := sj h
    refine Ae (sm [] [(6, bD true)] [(90000, .box [.own 90001, .own 90002, .own 90003]), (90001, .vec 1 (p1.fe.map Aj)), (90002, .vec 1 ((p1.fc.set ((p2.fi).toNat) p2.fp).map Aj)), (90003, .vec 1 (v8.map D7))] rfl rfl) (Ar ?_)
    exact ⟨⟨[_], tm, rfl⟩, ⟨rfl, rfl, rfl, rfl, tv⟩, tv⟩
theorem PX (N : Nat) (p0 : Ac) (p1 : Int) (r : Int) (h : GS N p0 p1 = some r) : Ao zA 177 [.e (.agg (AI p0)), iD p1] [] (pD (.val (.int .u8 r))) := by
 unfold GS at h
 refine cw (n := 27) (rs := [.tmp 4]) Tryz.func177 fun w0 S0 => ?_
 refine wq rfl (qb rfl (qa rfl (Ab (wq rfl (qf C5 rfl (ql A0 rfl (qm rfl ?_)))))))
 refine BD h fun v1 a1 b1 h => qi As Cp a1 (Af b1) rfl (qk BY rfl ?_)
 refine FL h fun c2 h => Jh rfl c2 (qe rfl ?_)
 refine AS h (fun v3 => mk [(5, pD (.val (.int .u8 v3)))] []) (fun j3 h => ?_) (fun v3 h => ?_)
 ·refine wq rfl (qf BK rfl (ql A0 rfl (qm rfl ?_)))
  refine BD h fun v4 a4 b4 h => qi As Cp a4 (Af b4) rfl (qk BY rfl (EI rfl (Ab ?_)))
  refine A8 h (fun h => ?_) fun h => ?_
  ·refine Ah Aw rfl (qm rfl (qf BK rfl (ql A0 rfl (qm rfl ?_))))
   refine BD h fun v6 a6 b6 h => qi As Cp a6 (Af b6) rfl (qk BY rfl ?_)
   refine FL h fun c7 h => Jh rfl c7 (VG rfl (qe rfl ?_))
   exact sn [] h
  ·refine Ai ?_
   exact sn [] h
 ·refine wq rfl (qm rfl (qe rfl ?_))
  obtain rfl := sj h
  refine Ae (sm [] [(4, pD (.val (.int .u8 v3)))] [] rfl rfl) (Ar ?_)
  exact ⟨⟨[_], tm, rfl⟩, tv⟩
theorem Kc (N : Nat) (p0 : Int) (r : Int) (h : Dm N p0 = some r) : Ao zA 180 [pD (.val (.int .u8 p0))] [] (iD r) := by
 unfold Dm at h
 refine cw (n := 6) (rs := [.tmp 2]) Tryz.func180 fun w0 S0 => ?_
 refine wq rfl (qa rfl (Ab (wq rfl (qm rfl ?_))))
 refine BG h fun v1 a1 h => KJ (.p rfl) rfl rfl VF a1 ?_
 refine JO aD X6 rfl (qe rfl ?_)
 obtain rfl := sj h
 refine Ae (sm [] [(2, iD ((wI .i64 v1)))] [] rfl rfl) (Ar ?_)
 exact ⟨⟨[_], tm, rfl⟩, tv⟩
theorem Nw (N : Nat) (p0 : An) (p1 : Int) (p2 : Int) (r : Bool) (h : GH N p0 p1 p2 = some r) : Ao zA 178 [.e (.agg (Bc p0)), pD (.val (.int .u8 p1)), iD p2] [] (bD r) := by
 unfold GH at h
 refine cw (n := 25) (rs := [.tmp 6]) Tryz.func178 fun w0 S0 => ?_
 refine wq rfl (qb rfl (qa rfl (Ab (wp rfl (qm rfl (qe rfl ?_))))))
 refine AC (L := DY N p0 p2) h (fun v1 => mk [(2, iD p2), (3, oD (.ptr 3 0)), (7, pD (.val (.int .u8 v1)))] [(3, .box (Bc p0))]) (fun v2 => mk [] []) (fun _ _ => rfl) (sm [] _ _ rfl rfl) (fun j1 n1 v1 h => ?_) (fun v2 s h hs => ?_)
 ·unfold DY at h
  refine wp rfl (qm rfl (Bo rfl (Ab ?_)))
  refine A8 h (fun h => ?_) fun h => ?_
  ·refine Ai (AL (AH (wq rfl (qf FG rfl (ql ID rfl (qm rfl ?_))))))
   refine BG h fun v4 a4 h => Av [] (Kc N v1 v4 a4) bJ rfl ?_
   refine BD h fun v5 a5 b5 h => qi EL JM a5 (Af b5) rfl (qk OJ rfl (qm rfl ?_))
   refine BD h fun v6 a6 b6 h => qi ES Oq a6 (Af b6) rfl (qk Sm rfl (CA rfl (AM (by kernel_rfl) ?_)))
   refine A8 h (fun h => ?_) fun h => ?_
   ·refine wq rfl (qe rfl ?_)
    obtain rfl := sj h
    refine Ae (sm [] [(6, bD false)] [] rfl rfl) (Ar ?_)
    exact ⟨⟨[_], tm, rfl⟩, tv⟩
   ·refine Ai (Ah Aw rfl (qw 2 rfl (Ko rfl (IA rfl (qe rfl ?_)))))
    exact sn [] h
  ·refine AR ?_
   exact sn [] h
 ·refine Ae hs (wq rfl (qe rfl ?_))
  obtain rfl := sj h
  refine Ae (sm [] [(6, bD true)] [] rfl rfl) (Ar ?_)
  exact ⟨⟨[_], tm, rfl⟩, tv⟩
theorem RH (N : Nat) (p0 : Aa) (p1 : Ac) (p2 : Int) (r : Bool × (List Int)) (h : HB N p0 p1 p2 = some r) : ER zA 161 [.e (.agg (Ag p0)), oD (.ptr 90000 0), iD p2] [(.box [.own 90001, .own 90002, .own 90003], .box [.own 90001, .own 90002, .own 90003]), (.vec 1 (p1.fe.map Aj), .vec 1 (p1.fe.map Aj)), (.vec 1 (p1.fc.map Aj), .vec 1 (p1.fc.map Aj)), (.vec 1 (p1.ff.map D7), .vec 1 (r.2.map D7))] [] (bD r.1) := by
 unfold HB at h
 refine He (n := 68) (rs := [.tmp 6]) Tryz.func161 rfl rfl rfl (Jo rfl) (Jo rfl) rfl rfl (Jo rfl) rfl (Jo rfl) fun w0 S0 GL => ?_
 refine Ae (sm [] [(0, .e (.agg (Ag p0))), (1, oD (.ptr 90000 0)), (2, iD p2)] [(90000, .box [.own 90001, .own 90002, .own 90003]), (90001, .vec 1 (p1.fe.map Aj)), (90002, .vec 1 (p1.fc.map Aj)), (90003, .vec 1 (p1.ff.map D7))] rfl rfl) (wq rfl (qb rfl (qa rfl (Ab (wq rfl (qf Cg rfl (ql Hp rfl (qm rfl ?_))))))))
 refine BD h fun v1 a1 b1 h => qi Dv Dn a1 (Af b1) rfl (qK G7 Dn rfl (qz Jf rfl (qs Dn rfl (Ab (wp rfl (qL G7 Dn rfl ?_))))))
 refine BG h fun v2 a2 h => Av [] (MA N v1 v2 a2) ZG rfl (CA rfl (Ab ?_))
 refine A8 h (fun h => ?_) fun h => ?_
 ·refine wq rfl (qe rfl ?_)
  obtain rfl := sj h
  refine Ae (sm [] [(6, bD false)] [(90000, .box [.own 90001, .own 90002, .own 90003]), (90001, .vec 1 (p1.fe.map Aj)), (90002, .vec 1 (p1.fc.map Aj)), (90003, .vec 1 (p1.ff.map D7))] rfl rfl) (Ar ?_)
  exact ⟨⟨[_], tm, rfl⟩, ⟨rfl, rfl, rfl, rfl, tv⟩, tv⟩
 ·refine Ai (wq rfl (qm rfl (Y5 rfl (qL B2 A3 rfl (qf De rfl (ql BY rfl ?_))))))
  refine BG h fun v4 a4 h => Du [] [90001, 90002, 90003] (PX N p1 v1.fh v4 a4) cI B4 rfl (qa rfl (AM (by kernel_rfl) (wq rfl (qm rfl (Y5 rfl (qf C9 rfl (ql Ib rfl (qm rfl ?_))))))))
  refine BD h fun v5 a5 b5 h => qI Ea EU a5 (Af b5) rfl (qj IX (Af b5) rfl (qm rfl (Ie rfl (qa rfl (Ab (AL ?_))))))
  refine AS h (fun v6 => mk [(1, oD (.ptr 90000 0)), (2, iD p2), (8, pD (.val (.int .u8 v4))), (60, bD v6)] [(90000, .box [.own 90001, .own 90002, .own 90003]), (90001, .vec 1 (p1.fe.map Aj)), (90002, .vec 1 (p1.fc.map Aj)), (90003, .vec 1 (p1.ff.map D7))]) (fun j6 h => ?_) (fun v6 h => ?_)
  ·refine Ah Aw rfl (qm rfl (Y5 rfl (qf C9 rfl (ql Ib rfl (qm rfl ?_)))))
   refine BD h fun v7 a7 b7 h => qI Ea EU a7 (Af b7) rfl (qj IX (Af b7) rfl (qm rfl (B1 rfl (qm rfl ?_))))
   refine Eu 42 h rfl (fun h => ?_) fun h => ?_
   ·refine qw 4 rfl (qu rfl (qu rfl (qu rfl (qu rfl (qu rfl (qu rfl (qu rfl (qu rfl (qu rfl (qu rfl (qu rfl (qu rfl (qn rfl (qp rfl (AM (by kernel_rfl) ?_)))))))))))))))
    exact sn [] h
   ·refine qf Gz rfl (ql BY rfl (B1 rfl (qm rfl ?_)))
    refine Eu 46 h rfl (fun h => ?_) fun h => ?_
    ·refine qL G7 Dn rfl (qw 2 rfl (Y5 rfl (qf C5 rfl (ql A0 rfl (qf De rfl (ql BY rfl ?_))))))
     refine BD h fun v10 a10 b10 h => qI As Cp a10 (Af b10) rfl (qj BY (Af b10) rfl ?_)
     refine BG h fun v11 a11 h => Av [] (Nw N v1 ((Df .u8 v5 v4)) v10 v11 a11) cM rfl (CA rfl (qp rfl (qp rfl (AM (by kernel_rfl) ?_))))
     exact sn [] h
    ·refine qw 12 rfl (qp rfl (qp rfl (AM (by kernel_rfl) ?_)))
     exact sn [] h
  ·refine A8 h (fun h => ?_) fun h => ?_
   ·refine wq rfl (qe rfl ?_)
    obtain rfl := sj h
    refine Ae (sm [] [(6, bD false)] [(90000, .box [.own 90001, .own 90002, .own 90003]), (90001, .vec 1 (p1.fe.map Aj)), (90002, .vec 1 (p1.fc.map Aj)), (90003, .vec 1 (p1.ff.map D7))] rfl rfl) (Ar ?_)
    exact ⟨⟨[_], tm, rfl⟩, ⟨rfl, rfl, rfl, rfl, tv⟩, tv⟩
   ·refine Ai (wq rfl (qm rfl (Y5 rfl (qf C9 rfl (ql Ib rfl (qw 2 rfl ?_))))))
    refine BD h fun v13 a13 b13 h => qI Ea EU a13 (Af b13) rfl ?_
    refine DJ rfl rfl rfl rfl (Af b13) rfl EU rfl (Jo rfl) (DB D7 p1.ff _ v4) ?_
    refine Ab (wq rfl (qe rfl ?_))
    obtain rfl := sj h
    refine Ae (sm [] [(6, bD true)] [(90000, .box [.own 90001, .own 90002, .own 90003]), (90001, .vec 1 (p1.fe.map Aj)), (90002, .vec 1 (p1.fc.map Aj)), (90003, .vec 1 ((p1.ff.set ((p2).toNat) v4).map D7))] rfl rfl) (Ar ?_)
    exact ⟨⟨[_], tm, rfl⟩, ⟨rfl, rfl, rfl, rfl, tv⟩, tv⟩
theorem NV (N : Nat) (p0 : Aa) (p1 : Ac) (p2 : Ad) (r : Ac × Bool) (h : F6 N p0 p1 p2 = some r) : Ao zA 127 [.e (.agg (Ag p0)), .e (.agg (AI p1)), .e (.agg (Dw p2))] [(1, r.1.fe.map Aj), (1, r.1.fc.map Aj), (1, r.1.ff.map D7)] (.tup [.agg [.own 0, .own 1, .own 2], .one (.pure (.val (.bool r.2)))]) := by
 unfold F6 at h
 refine cw (n := 51) (rs := [.cell 6 49, .tmp 7]) Tryz.func127 fun w0 S0 => ?_
 refine wq rfl (qb rfl (qb rfl (qb rfl (qz EO rfl (qa rfl (Ab (wq rfl (qL B2 A3 rfl ?_))))))))
 refine BG h fun v1 a1 h => Av [2001, 2002, 2003] (Qu N p1 v1 a1) bp rfl (qz EO rfl (qs A3 rfl (Ab (wp rfl (qf GB rfl (ql BY rfl (Ab (AH (wq rfl (B1 rfl (qe rfl ?_)))))))))))
 refine A8 h (fun h => ?_) fun h => ?_
 ·refine wq rfl (qL B2 A3 rfl (qL Co BN rfl (qL JY E7 rfl ?_)))
  refine BG h fun v3 a3 h => Md (ds0 := [_, _, _]) [8, 2001, 2002, 2003] [] [false, false, true, true] (RY N p0 v1 p2 v3 a3) (.p rfl) bX rfl ⟨rfl, rfl, rfl, tv⟩ rfl rfl (by decide) ⟨rfl, rfl, rfl, rfl, tv⟩ rfl (Gw rfl) tv ⟨(fun _ => rfl), (fun _ => rfl), (fun h => by cases h), (fun h => by cases h), tv⟩ rfl rfl rfl ?_
  refine qs A3 rfl (qa rfl (AM (by kernel_rfl) ?_))
  obtain rfl := sj h
  refine Ae (sm [(1000, 2001), (1001, 2002), (1002, 2003)] [(6, oD (.ptr 6 0)), (7, bD v3.1)] [(6, .box [.own 1000, .own 1001, .own 1002]), (1000, .vec 1 (v1.fe.map Aj)), (1001, .vec 1 (v3.2.1.map Aj)), (1002, .vec 1 (v3.2.2.map D7))] rfl rfl) (Ar ?_)
  exact ⟨⟨[_, _], ⟨.cellN _ _ _ _ _ _ _ rfl rfl B2 A3 rfl rfl (Jx rfl), tm⟩, rfl⟩, ⟨rfl, rfl, rfl, tv⟩⟩
 ·refine wq rfl (B1 rfl (qe rfl ?_))
  refine A8 h (fun h => ?_) fun h => ?_
  ·refine wq rfl (qL B2 A3 rfl (qL Co BN rfl (qf FE rfl (ql BY rfl ?_))))
   refine BG h fun v5 a5 h => Md (ds0 := [_, _, _]) [8, 2001, 2002, 2003] [] [false, false, false, true] (RH N p0 v1 p2.fi v5 a5) (.p rfl) dA rfl ⟨rfl, rfl, rfl, tv⟩ rfl rfl (by decide) ⟨rfl, rfl, rfl, rfl, tv⟩ rfl (Gw rfl) tv ⟨(fun _ => rfl), (fun _ => rfl), (fun _ => rfl), (fun h => by cases h), tv⟩ rfl rfl rfl ?_
   refine qs A3 rfl (qa rfl (AM (by kernel_rfl) ?_))
   obtain rfl := sj h
   refine Ae (sm [(1000, 2001), (1001, 2002), (1002, 2003)] [(6, oD (.ptr 6 0)), (7, bD v5.1)] [(6, .box [.own 1000, .own 1001, .own 1002]), (1000, .vec 1 (v1.fe.map Aj)), (1001, .vec 1 (v1.fc.map Aj)), (1002, .vec 1 (v5.2.map D7))] rfl rfl) (Ar ?_)
   exact ⟨⟨[_, _], ⟨.cellN _ _ _ _ _ _ _ rfl rfl B2 A3 rfl rfl (Jx rfl), tm⟩, rfl⟩, ⟨rfl, rfl, rfl, tv⟩⟩
  ·refine Ai (wq rfl (qf BK rfl (ql A0 rfl (qf FE rfl (ql BY rfl ?_)))))
   refine BD h fun v6 a6 b6 h => qI As Cp a6 (Af b6) rfl (qj BY (Af b6) rfl (qa rfl (Ab (wp rfl (qm rfl (AV rfl (Ab ?_)))))))
   refine A8 h (fun h => ?_) fun h => ?_
   ·refine wq rfl (qL B2 A3 rfl (qs A3 rfl (qe rfl ?_)))
    obtain rfl := sj h
    refine Ae (sm [(1000, 2001), (1001, 2002), (1002, 2003)] [(6, oD (.ptr 6 0)), (7, bD false)] [(6, .box [.own 1000, .own 1001, .own 1002]), (1000, .vec 1 (v1.fe.map Aj)), (1001, .vec 1 (v1.fc.map Aj)), (1002, .vec 1 (v1.ff.map D7))] rfl rfl) (Ar ?_)
    exact ⟨⟨[_, _], ⟨.cellN _ _ _ _ _ _ _ rfl rfl B2 A3 rfl rfl (Jx rfl), tm⟩, rfl⟩, ⟨rfl, rfl, rfl, tv⟩⟩
   ·refine Ai (wq rfl (qf BK rfl (ql A0 rfl (qf FE rfl (ql BY rfl ?_)))))
    refine BD h fun v8 a8 b8 h => qI As Cp a8 (Af b8) rfl ?_
    refine DJ rfl rfl rfl rfl (Af b8) rfl Cp rfl (Jo rfl) (DB Aj v1.fc _ ((-1))) ?_
    refine Ab ?_
    refine AS h (fun v9 => mk [(6, oD (.ptr 6 0)), (8, oD (.ptr 8 0))] [(6, .box [.pure (.nil0), .pure (.nil0), .pure (.nil0)]), (8, .box [.own 2004, .own 2005, .own 2006]), (2004, .vec 1 (v9.map Aj)), (2005, .vec 1 ((v1.fc.set ((p2.fi).toNat) ((-1))).map Aj)), (2006, .vec 1 (v1.ff.map D7))]) (fun j9 h => ?_) (fun v9 h => ?_)
    ·refine wq rfl (qf GB rfl (ql BY rfl (B1 rfl (Ab ?_))))
     refine A8 h (fun h => ?_) fun h => ?_
     ·refine Ah Aw rfl (qf C5 rfl (ql A0 rfl (qf FE rfl (ql BY rfl (qm rfl ?_)))))
      refine BD h fun v11 a11 b11 h => qI As Cp a11 (Af b11) rfl ?_
      refine DJ rfl rfl rfl rfl (Af b11) rfl Cp rfl (Jo rfl) (DB Aj v1.fe _ v6) ?_
      refine Ab ?_
      exact sn [(2004, 2001), (2005, 2002), (2006, 2003)] h
     ·refine Ai ?_
      exact sn [(2004, 2001), (2005, 2002), (2006, 2003)] h
    ·refine wq rfl (qL B2 A3 rfl (qs A3 rfl (qe rfl ?_)))
     obtain rfl := sj h
     refine Ae (sm [(1000, 2004), (1001, 2005), (1002, 2006)] [(6, oD (.ptr 6 0)), (7, bD true)] [(6, .box [.own 1000, .own 1001, .own 1002]), (1000, .vec 1 (v9.map Aj)), (1001, .vec 1 ((v1.fc.set ((p2.fi).toNat) ((-1))).map Aj)), (1002, .vec 1 (v1.ff.map D7))] rfl rfl) (Ar ?_)
     exact ⟨⟨[_, _], ⟨.cellN _ _ _ _ _ _ _ rfl rfl B2 A3 rfl rfl (Jx rfl), tm⟩, rfl⟩, ⟨rfl, rfl, rfl, tv⟩⟩
theorem Oe (N : Nat) (p0 : Ad) (p1 : List Int) (p2 : List Int) (p3 : List Int) (p4 : List An) (p5 : List Int) (p6 : List Int) (p7 : List Int) (r : Bool) (h : DO N p0 p1 p2 p3 p4 p5 p6 p7 = some r) : Ao zA 126 [.e (.agg (Dw p0)), oD (.rop [.sl (p1.map Aj), .sl (p2.map Aj), .sl (p3.map Aj), .sl (p4.map AN)]), oD (.rop [.sl (p5.map Aj), .sl (p6.map Aj), .sl (p7.map D7)])] [] (bD r) := by
 unfold DO at h
 refine cw (n := 16) (rs := [.tmp 4]) Tryz.func126 fun w0 S0 => ?_
 refine wq rfl (qb rfl (qa rfl (Ab (wq rfl (qK Co BN rfl (qK B2 A3 rfl (qL JY E7 rfl ?_)))))))
 refine BG h fun v1 a1 h => Av [2001, 2002, 2003] (NV N ((Aa.mk p1 p2 p3 p4)) ((Ac.mk p5 p6 p7)) p0 v1 a1) ZI rfl (qm rfl (qx rfl (qx rfl (qz EO rfl (qs A3 rfl (qa rfl (Ab (wq rfl (qm rfl (CA rfl (qe rfl ?_)))))))))))
 obtain rfl := sj h
 refine Ae (sm [] [(4, bD ((!v1.2)))] [] rfl rfl) (Ar ?_)
 exact ⟨⟨[_], tm, rfl⟩, tv⟩
theorem Hu (N : Nat) (p0 : List Ad) (p1 : Ad → Option Bool) (r : Int) (h : BU N p0 p1 = some r) : Ao zA 158 [pD (.sl (p0.map AA)), oD (.clo (Hz (Ls true AA) tB p1))] [] (iD r) := by
 unfold BU at h
 refine cw (n := 19) (rs := [.tmp 4]) Tryz.func158 fun w0 S0 => ?_
 refine wq rfl (qa rfl (Ab (wp rfl (qm rfl (AJ ET rfl (qm rfl (Ab ?_)))))))
 refine AC (L := A4 N p0 p1) h (fun v1 => mk [(0, pD (.sl (p0.map AA))), (1, oD (.clo (Hz (Ls true AA) tB p1))), (7, iD ((p0.length : Int))), (8, iD v1)] []) (fun v2 => mk [] []) (fun _ _ => rfl) (sm [] _ _ rfl rfl) (fun j1 n1 v1 h => ?_) (fun v2 s h hs => ?_)
 ·unfold A4 at h
  refine wq rfl (AV rfl (Ab (AL ?_)))
  refine A8 h (fun h => ?_) fun h => ?_
  ·refine Ai (AL (AH (wq rfl (qm rfl (qa rfl (Ab (wq rfl (qw 3 rfl ?_))))))))
   refine BD h fun v4 a4 b4 h => qi ET E7 a4 (Af b4) rfl (qK JY E7 rfl ?_)
   refine BG h fun v5 a5 h => K0 (ds0 := [_]) (ar := (Ls true AA) v4) (.p rfl) rfl rfl ⟨rfl, tv⟩ rfl rfl rfl (Kn (La _ _ PP) a5) ?_
   refine Ab ?_
   refine A8 h (fun h => ?_) fun h => ?_
   ·refine wq rfl (qm rfl (qe rfl ?_))
    obtain rfl := sj h
    refine Ae (sm [] [(4, iD v1)] [] rfl rfl) (Ar ?_)
    exact ⟨⟨[_], tm, rfl⟩, tv⟩
   ·refine Ai (Ah Aw rfl (AW rfl (qm rfl (Ab ?_))))
    exact sn [] h
  ·refine AR ?_
   exact sn [] h
 ·refine Ae hs (wq rfl (qe rfl ?_))
  obtain rfl := sj h
  refine Ae (sm [] [(4, iD ((-1)))] [] rfl rfl) (Ar ?_)
  exact ⟨⟨[_], tm, rfl⟩, tv⟩
theorem Ho (N : Nat) (p0 : List Ad) (p1 : Ad → Option Bool) (r : Nat × (List Ad)) (h : BQ N p0 p1 = some r) : ER zA 124 [oD (.own 90000), oD (.clo (Hz (Ls true AA) tB p1))] [(.vec 3 (p0.map AA), .vec 3 (r.2.map AA))] [] (oD (.view 90000 3 0 r.1)) := by
 unfold BQ at h
 refine He (n := 42) (rs := [.tmp 4]) Tryz.func124 rfl rfl rfl (Jo rfl) (Jo rfl) rfl rfl (Jo rfl) rfl (Jo rfl) fun w0 S0 GL => ?_
 refine Ae (sm [] [(0, oD (.own 90000)), (1, oD (.clo (Hz (Ls true AA) tB p1)))] [(90000, .vec 3 (p0.map AA))] rfl rfl) (wq rfl (qa rfl (Ab (wq rfl (qw 2 rfl ?_)))))
 refine BG h fun v1 a1 h => Du [] [90000] (Hu N p0 p1 v1 a1) cU B4 rfl (qa rfl (Ab (wp rfl (qm rfl (B1 rfl (Ab ?_))))))
 refine A8 h (fun h => ?_) fun h => ?_
 ·refine wq rfl (qm rfl (qe rfl ?_))
  obtain rfl := sj h
  refine Ae ((U9 AA p0 4 90000 3 rfl rfl).trans (sm [] [(4, oD (.view 90000 3 0 p0.length))] [(90000, .vec 3 (p0.map AA))] rfl rfl)) (Ar ?_)
  exact ⟨⟨[_], tm, rfl⟩, ⟨rfl, tv⟩, tv⟩
 ·refine Ai (wp rfl (qm rfl (AW rfl (qe rfl ?_))))
  refine AC (L := AY N p1) h (fun v3 => mk [(0, oD (.own 90000)), (1, oD (.clo (Hz (Ls true AA) tB p1))), (5, iD v3.2.1), (6, iD v3.2.2)] [(90000, .vec 3 (v3.1.map AA))]) (fun v4 => mk [(0, oD (.own 90000)), (5, iD v4.2)] [(90000, .vec 3 (v4.1.map AA))]) (fun _ _ => rfl) (sm [] _ _ rfl rfl) (fun j3 n3 v3 h => ?_) (fun v4 s h hs => ?_)
  ·unfold AY at h
   refine wp rfl (qw 2 rfl (D6 ET rfl (AV rfl (Ab ?_))))
   refine A8 h (fun h => ?_) fun h => ?_
   ·refine Ai ?_
    refine AS h (fun v6 => mk [(0, oD (.own 90000)), (1, oD (.clo (Hz (Ls true AA) tB p1))), (5, iD v6.2), (6, iD v3.2.2)] [(90000, .vec 3 (v6.1.map AA))]) (fun j6 h => ?_) (fun v6 h => ?_)
    ·refine AH (wq rfl (qw 2 rfl ?_))
     refine BD h fun v7 a7 b7 h => qI ET E7 a7 (Af b7) rfl (qJ JY E7 (Af b7) rfl (qz KD rfl (qs E7 rfl (Ab (wq rfl (qm rfl (qL JY E7 rfl ?_)))))))
     refine BG h fun v8 a8 h => K0 (ds0 := [_]) (ar := (Ls true AA) v7) (.p rfl) rfl rfl ⟨rfl, tv⟩ rfl rfl rfl (Kn (La _ _ PP) a8) ?_
     refine CA rfl (Ab ?_)
     refine A8 h (fun h => ?_) fun h => ?_
     ·refine wq rfl (qw 2 rfl (qL JY E7 rfl ?_))
      refine BD h fun v10 a10 b10 h => qI ET E7 a10 (Af b10) rfl ?_
      refine DJ rfl rfl rfl rfl (Af b10) rfl E7 rfl (Jo rfl) (DB AA v3.1 _ v7) ?_
      refine Ab (Ah Aw rfl (qm rfl (AW rfl (qe rfl ?_))))
      exact sn [] h
     ·refine Ai ?_
      exact sn [] h
    ·refine Ah Aw rfl (qm rfl (AW rfl (qe rfl ?_)))
     exact sn [] h
   ·refine AR ?_
    exact sn [] h
  ·refine Ae hs (wq rfl (qw 2 rfl ?_))
   obtain ⟨c11, h⟩ := HL h
   have w12 : ((v4.2).toNat) + ((v4.1.length - (v4.2).toNat)) ≤ v4.1.length := by have := c11.2.1; have := c11.2.2; omega
   refine KR AA v4.1 (.p rfl) rfl (JL AA _ _ v4.1) rfl ET E7 (.some _ _ _ _ c11.1) (.none _) ⟨rfl, tv⟩ tv c11.2.1 (by rw [zC]; exact c11.2.2) (zC _) rfl ?_
   have w13 : (JC v4.1 ((v4.2).toNat) (zH ((v4.1.length - (v4.2).toNat)) ((Ad.mk 0 0 0)))).length = v4.1.length := J0 (by rw [List.length_replicate]; exact w12)
   refine S3 AA v4.1 ((Ad.mk 0 0 0)) rfl rfl (N8 AA _ _ ((v4.2).toNat) ((v4.1.length - (v4.2).toNat)) v4.1 w12) rfl ET KD rfl rfl rfl rfl ?_
   refine Ab (wq rfl (qw 2 rfl ?_))
   obtain ⟨c14, h⟩ := HL h
   have w15 : 0 + ((v4.2).toNat) ≤ (JC v4.1 ((v4.2).toNat) (zH ((v4.1.length - (v4.2).toNat)) ((Ad.mk 0 0 0)))).length := by have := c14.2.1; have := c14.2.2; omega
   refine KR AA (JC v4.1 ((v4.2).toNat) (zH ((v4.1.length - (v4.2).toNat)) ((Ad.mk 0 0 0)))) (.p rfl) rfl (JL AA _ _ (JC v4.1 ((v4.2).toNat) (zH ((v4.1.length - (v4.2).toNat)) ((Ad.mk 0 0 0))))) rfl ET E7 (.none _) (.some _ _ _ _ c14.1) tv ⟨rfl, tv⟩ c14.2.1 (by rw [zC]; exact c14.2.2) (zC _) rfl ?_
   refine qa rfl (Ab ?_)
   obtain rfl := sj h
   refine Ae (sm [] [(4, oD (.view 90000 3 0 ((v4.2).toNat)))] [(90000, .vec 3 ((JC v4.1 ((v4.2).toNat) (zH ((v4.1.length - (v4.2).toNat)) ((Ad.mk 0 0 0)))).map AA))] rfl rfl) (Ar ?_)
   exact ⟨⟨[_], tm, rfl⟩, ⟨rfl, tv⟩, tv⟩
theorem PB (N : Nat) (p0 : Aa) (p1 : Ac) (r : (List Ad) × Int) (h : GR N p0 p1 = some r) : Ao zA 87 [.e (.agg (Ag p0)), .e (.agg (AI p1))] [(3, r.1.map AA)] (.tup [.one (.own 0), .one (iC r.2)]) := by
 unfold GR at h
 refine cw (n := 17) (rs := [.tmp 4, .tmp 5]) Tryz.func87 fun w0 S0 => ?_
 refine wq rfl (qb rfl (qb rfl (qa rfl (qa rfl (Ab (wp rfl (qL Co BN rfl (qL B2 A3 rfl ?_))))))))
 refine BG h fun v1 a1 h => Av [] (Ks N p0 p1 v1 a1) U7 rfl (qa rfl (Ab (wq rfl (qm rfl (Bo rfl (Ab ?_))))))
 refine A8 h (fun h => ?_) fun h => ?_
 ·refine wq rfl (qm rfl (qa rfl (qe rfl ?_)))
  obtain rfl := sj h
  refine Ae ((AT 4 2001 3 rfl rfl rfl).trans (sm [(1000, 2001)] [(4, oD (.own 1000)), (5, iD v1)] [(1000, .vec 3 ((([] : List Ad)).map AA))] rfl rfl)) (Ar ?_)
  exact ⟨⟨[_, _], ⟨.tmp _ _ rfl, tm⟩, rfl⟩, ⟨rfl, tv⟩⟩
 ·refine Ai (wq rfl (qL Co BN rfl ?_))
  refine BG h fun v3 a3 h => Av [2002] (Us N p0 v3 a3) df rfl (C0 (Ic 2 [.sl (p0.fb.map Aj), .sl (p0.fj.map Aj), .sl (p0.fo.map Aj), .sl (p0.fd.map AN)] rfl rfl) (C0 (Ic 3 [.sl (p1.fe.map Aj), .sl (p1.fc.map Aj), .sl (p1.ff.map D7)] rfl rfl) ?_))
  refine IK (capD := [_, _]) (Hz (Ls true AA) tB ((fun (x : Ad) => DO N x p0.fb p0.fj p0.fo p0.fd p1.fe p1.fc p1.ff))) (.p rfl) dj rfl ⟨rfl, rfl, tv⟩ rfl (fun ar t ht => by obtain ⟨x, r, rfl, hq, rfl⟩ := H6 ht; exact Oe N x p0.fb p0.fj p0.fo p0.fd p1.fe p1.fc p1.ff r hq) ?_
  obtain ⟨v4, a4, h⟩ := bind_some h
  obtain ⟨c5, h⟩ := HL h
  have w6 : 0 + v4.1 ≤ v4.2.length := by rw [zC]; exact c5
  refine Md (ds0 := [_, _]) [2002] [] [true] (Ho N v3 ((fun (x : Ad) => DO N x p0.fb p0.fj p0.fo p0.fd p1.fe p1.fc p1.ff)) v4 a4) (.p rfl) cZ rfl ⟨rfl, rfl, tv⟩ rfl rfl (by decide) ⟨rfl, tv⟩ rfl (Gw rfl) tv ⟨(fun h => by cases h), tv⟩ rfl rfl rfl ?_
  refine C0 (W3 AA v4.2 16 2002 2003 3 v4.1 rfl rfl rfl rfl rfl c5) (qa rfl (qe rfl ?_))
  obtain rfl := sj h
  refine Ae (sm [(1000, 2003)] [(4, oD (.own 1000)), (5, iD 0)] [(1000, .vec 3 ((v4.2.take v4.1).map AA))] rfl rfl) (Ar ?_)
  exact ⟨⟨[_, _], ⟨.tmp _ _ rfl, tm⟩, rfl⟩, ⟨rfl, tv⟩⟩
theorem Sf (N : Nat) (p0 : Ad) (r : Bool) (h : HJ N p0 = some r) : Ao zA 162 [.e (.agg (Dw p0))] [] (bD r) := by
 unfold HJ at h
 refine cw (n := 27) (rs := [.tmp 2]) Tryz.func162 fun w0 S0 => ?_
 refine wq rfl (qb rfl (qa rfl (Ab (AL ?_))))
 refine AS h (fun v1 => mk [(1, oD (.ptr 1 0)), (18, bD v1)] [(1, .box (Dw p0))]) (fun j1 h => ?_) (fun v1 h => ?_)
 ·refine Ah Aw rfl (qf FE rfl (ql BY rfl (qf HQ rfl (ql BY rfl ?_))))
  refine cg (.p rfl) rfl rfl ?_
  refine AV rfl (qm rfl ?_)
  refine Eu 9 h rfl (fun h => ?_) fun h => ?_
  ·refine qw 3 rfl (qp rfl (qw 4 rfl (qp rfl (Ab ?_))))
   exact sn [] h
  ·refine qf GB rfl (ql BY rfl (AV rfl (qp rfl (qm rfl ?_))))
   refine Eu 14 h rfl (fun h => ?_) fun h => ?_
   ·refine qw 3 rfl (qp rfl (Ab ?_))
    exact sn [] h
   ·refine qf GB rfl (ql BY rfl (GQ rfl (qp rfl (Ab ?_))))
    exact sn [] h
 ·refine A8 h (fun h => ?_) fun h => ?_
  ·refine wq rfl (qe rfl ?_)
   obtain rfl := sj h
   refine Ae (sm [] [(2, bD false)] [] rfl rfl) (Ar ?_)
   exact ⟨⟨[_], tm, rfl⟩, tv⟩
  ·refine Ai ?_
   refine AS h (fun v5 => mk [(2, bD v5)] []) (fun j5 h => ?_) (fun v5 h => ?_)
   ·refine Ah Aw rfl (qf GB rfl (ql BY rfl (B1 rfl (qm rfl ?_))))
    refine Eu 22 h rfl (fun h => ?_) fun h => ?_
    ·refine qw 3 rfl (qp rfl (qe rfl ?_))
     exact sn [] h
    ·refine qf HQ rfl (ql BY rfl (B1 rfl (qp rfl (qe rfl ?_))))
     exact sn [] h
   ·obtain rfl := sj h
    refine Ae (sm [] [(2, bD v5)] [] rfl rfl) (Ar ?_)
    exact ⟨⟨[_], tm, rfl⟩, tv⟩
theorem Qh (N : Nat) (p0 : Aa) (p1 : Ad) (r : Bool) (h : Hf N p0 p1 = some r) : Ao zA 163 [.e (.agg (Ag p0)), .e (.agg (Dw p1))] [] (bD r) := by
 unfold Hf at h
 refine cw (n := 36) (rs := [.tmp 4]) Tryz.func163 fun w0 S0 => ?_
 refine wq rfl (qb rfl (qb rfl (qa rfl (Ab (wp rfl (qf GB rfl (ql BY rfl (B1 rfl (Ab ?_)))))))))
 refine A8 h (fun h => ?_) fun h => ?_
 ·refine wq rfl (qf FE rfl (ql BY rfl (qf Cg rfl (ql Hp rfl (AJ Dv rfl (AV rfl (qe rfl ?_)))))))
  obtain rfl := sj h
  refine Ae (sm [] [(4, bD ((decide (p1.fi < (p0.fd.length : Int)))))] [] rfl rfl) (Ar ?_)
  exact ⟨⟨[_], tm, rfl⟩, tv⟩
 ·refine Ai ?_
  refine AS h (fun v2 => mk [(4, bD v2)] []) (fun j2 h => ?_) (fun v2 h => ?_)
  ·refine Ah Aw rfl (qf FE rfl (ql BY rfl (qf A5 rfl (ql A0 rfl (AJ As rfl (AV rfl (qm rfl ?_)))))))
   refine Eu 20 h rfl (fun h => ?_) fun h => ?_
   ·refine qf GB rfl (ql BY rfl (Bo rfl (qm rfl ?_)))
    refine Eu 24 h rfl (fun h => ?_) fun h => ?_
    ·refine qw 9 rfl (qp rfl (qp rfl (qa rfl (AM (by kernel_rfl) ?_))))
     exact sn [] h
    ·refine qf HQ rfl (ql BY rfl (qf A5 rfl (ql A0 rfl (qf FE rfl (ql BY rfl ?_)))))
     refine BD h fun v5 a5 b5 h => qi As Cp a5 (Af b5) rfl (qk BY rfl (AV rfl (qp rfl (qp rfl (qa rfl (AM (by kernel_rfl) ?_))))))
     exact sn [] h
   ·refine qw 4 rfl (qu rfl (qu rfl (qu rfl (qu rfl (qu rfl (qu rfl (qu rfl (qu rfl (qu rfl (qn rfl (qp rfl (qa rfl (AM (by kernel_rfl) ?_)))))))))))))
    exact sn [] h
  ·obtain rfl := sj h
   refine Ae (sm [] [(4, bD v2)] [] rfl rfl) (Ar ?_)
   exact ⟨⟨[_], tm, rfl⟩, tv⟩
theorem RK (N : Nat) (p0 : Aa) (p1 : Ac) (p2 : Ad) (r : Ac × Int) (h : HE N p0 p1 p2 = some r) : Ao zA 128 [.e (.agg (Ag p0)), .e (.agg (AI p1)), .e (.agg (Dw p2))] [(1, r.1.fe.map Aj), (1, r.1.fc.map Aj), (1, r.1.ff.map D7)] (.tup [.agg [.own 0, .own 1, .own 2], .one (iC r.2)]) := by
 unfold HE at h
 refine cw (n := 32) (rs := [.cell 6 49, .tmp 7]) Tryz.func128 fun w0 S0 => ?_
 refine wq rfl (qb rfl (qb rfl (qb rfl (qz EO rfl (qa rfl (Ab (AL (AH (wq rfl (qL JY E7 rfl ?_))))))))))
 refine BG h fun v1 a1 h => Av [] (Sf N p2 v1 a1) cC rfl (CA rfl (qe rfl ?_))
 refine A8 h (fun h => ?_) fun h => ?_
 ·refine wq rfl (Bk EO Jw rfl (qs A3 rfl (qe rfl ?_)))
  obtain rfl := sj h
  refine Ae ((Aq 6 0 2001 1 _ rfl rfl rfl rfl).trans ((Aq 6 1 2002 1 _ rfl rfl rfl rfl).trans ((Aq 6 2 2003 1 _ rfl rfl rfl rfl).trans (sm [(1000, 2001), (1001, 2002), (1002, 2003)] [(6, oD (.ptr 6 0)), (7, iD 1)] [(6, .box [.own 1000, .own 1001, .own 1002]), (1000, .vec 1 ((([] : List Int)).map Aj)), (1001, .vec 1 ((([] : List Int)).map Aj)), (1002, .vec 1 ((([] : List Int)).map D7))] rfl rfl)))) (Ar ?_)
  exact ⟨⟨[_, _], ⟨.cellN _ _ _ _ _ _ _ rfl rfl B2 A3 rfl rfl (Jx rfl), tm⟩, rfl⟩, ⟨rfl, rfl, rfl, tv⟩⟩
 ·refine wq rfl (qL Co BN rfl (qL JY E7 rfl ?_))
  refine BG h fun v3 a3 h => Av [] (Qh N p0 p2 v3 a3) dq rfl (CA rfl (qe rfl ?_))
  refine A8 h (fun h => ?_) fun h => ?_
  ·refine wq rfl (Bk EO Jw rfl (qs A3 rfl (qe rfl ?_)))
   obtain rfl := sj h
   refine Ae ((Aq 6 0 2004 1 _ rfl rfl rfl rfl).trans ((Aq 6 1 2005 1 _ rfl rfl rfl rfl).trans ((Aq 6 2 2006 1 _ rfl rfl rfl rfl).trans (sm [(1000, 2004), (1001, 2005), (1002, 2006)] [(6, oD (.ptr 6 0)), (7, iD 4)] [(6, .box [.own 1000, .own 1001, .own 1002]), (1000, .vec 1 ((([] : List Int)).map Aj)), (1001, .vec 1 ((([] : List Int)).map Aj)), (1002, .vec 1 ((([] : List Int)).map D7))] rfl rfl)))) (Ar ?_)
   exact ⟨⟨[_, _], ⟨.cellN _ _ _ _ _ _ _ rfl rfl B2 A3 rfl rfl (Jx rfl), tm⟩, rfl⟩, ⟨rfl, rfl, rfl, tv⟩⟩
  ·refine Ai (wq rfl (qL Co BN rfl (qL B2 A3 rfl (qL JY E7 rfl ?_))))
   refine BG h fun v5 a5 h => Av [2007, 2008, 2009] (NV N p0 p1 p2 v5 a5) ZI rfl (qm rfl (qx rfl (qx rfl (qz EO rfl (qs A3 rfl (qa rfl (Ab (wp rfl (qm rfl (CA rfl (Ab ?_)))))))))))
   refine A8 h (fun h => ?_) fun h => ?_
   ·refine wq rfl (Bk EO Jw rfl (qs A3 rfl (qe rfl ?_)))
    obtain rfl := sj h
    refine Ae ((Aq 6 0 2010 1 _ rfl rfl rfl rfl).trans ((Aq 6 1 2011 1 _ rfl rfl rfl rfl).trans ((Aq 6 2 2012 1 _ rfl rfl rfl rfl).trans (sm [(1000, 2010), (1001, 2011), (1002, 2012)] [(6, oD (.ptr 6 0)), (7, iD 11)] [(6, .box [.own 1000, .own 1001, .own 1002]), (1000, .vec 1 ((([] : List Int)).map Aj)), (1001, .vec 1 ((([] : List Int)).map Aj)), (1002, .vec 1 ((([] : List Int)).map D7))] rfl rfl)))) (Ar ?_)
    exact ⟨⟨[_, _], ⟨.cellN _ _ _ _ _ _ _ rfl rfl B2 A3 rfl rfl (Jx rfl), tm⟩, rfl⟩, ⟨rfl, rfl, rfl, tv⟩⟩
   ·refine Ai (wq rfl (qL B2 A3 rfl (qs A3 rfl (qe rfl ?_))))
    obtain rfl := sj h
    refine Ae (sm [(1000, 2007), (1001, 2008), (1002, 2009)] [(6, oD (.ptr 6 0)), (7, iD 0)] [(6, .box [.own 1000, .own 1001, .own 1002]), (1000, .vec 1 (v5.1.fe.map Aj)), (1001, .vec 1 (v5.1.fc.map Aj)), (1002, .vec 1 (v5.1.ff.map D7))] rfl rfl) (Ar ?_)
    exact ⟨⟨[_, _], ⟨.cellN _ _ _ _ _ _ _ rfl rfl B2 A3 rfl rfl (Jx rfl), tm⟩, rfl⟩, ⟨rfl, rfl, rfl, tv⟩⟩
theorem Rp (N : Nat) (p0 : Aa) (p1 : Ac) (p2 : Ad) (r : Ac × Int) (h : HN N p0 p1 p2 = some r) : Ao zA 88 [.e (.agg (Ag p0)), .e (.agg (AI p1)), .e (.agg (Dw p2))] [(1, r.1.fe.map Aj), (1, r.1.fc.map Aj), (1, r.1.ff.map D7)] (.tup [.agg [.own 0, .own 1, .own 2], .one (iC r.2)]) := by
 unfold HN at h
 refine cw (n := 22) (rs := [.cell 6 49, .tmp 7]) Tryz.func88 fun w0 S0 => ?_
 refine wq rfl (qb rfl (qb rfl (qb rfl (qz EO rfl (qa rfl (Ab (wp rfl (qL Co BN rfl (qL B2 A3 rfl ?_)))))))))
 refine BG h fun v1 a1 h => Av [] (Ks N p0 p1 v1 a1) U7 rfl (qa rfl (Ab (wq rfl (qm rfl (Bo rfl (Ab ?_))))))
 refine A8 h (fun h => ?_) fun h => ?_
 ·refine wq rfl (Bk EO Jw rfl (qm rfl (qs A3 rfl (qe rfl ?_))))
  obtain rfl := sj h
  refine Ae ((Aq 6 0 2001 1 _ rfl rfl rfl rfl).trans ((Aq 6 1 2002 1 _ rfl rfl rfl rfl).trans ((Aq 6 2 2003 1 _ rfl rfl rfl rfl).trans (sm [(1000, 2001), (1001, 2002), (1002, 2003)] [(6, oD (.ptr 6 0)), (7, iD v1)] [(6, .box [.own 1000, .own 1001, .own 1002]), (1000, .vec 1 ((([] : List Int)).map Aj)), (1001, .vec 1 ((([] : List Int)).map Aj)), (1002, .vec 1 ((([] : List Int)).map D7))] rfl rfl)))) (Ar ?_)
  exact ⟨⟨[_, _], ⟨.cellN _ _ _ _ _ _ _ rfl rfl B2 A3 rfl rfl (Jx rfl), tm⟩, rfl⟩, ⟨rfl, rfl, rfl, tv⟩⟩
 ·refine Ai (wq rfl (qL Co BN rfl (qL B2 A3 rfl (qL JY E7 rfl ?_))))
  refine BG h fun v3 a3 h => Av [2004, 2005, 2006] (RK N p0 p1 p2 v3 a3) di rfl (qx rfl (qx rfl (qs A3 rfl (qe rfl ?_))))
  obtain rfl := sj h
  refine Ae (sm [(1000, 2004), (1001, 2005), (1002, 2006)] [(6, oD (.ptr 6 0)), (7, iD v3.2)] [(6, .box [.own 1000, .own 1001, .own 1002]), (1000, .vec 1 (v3.1.fe.map Aj)), (1001, .vec 1 (v3.1.fc.map Aj)), (1002, .vec 1 (v3.1.ff.map D7))] rfl rfl) (Ar ?_)
  exact ⟨⟨[_, _], ⟨.cellN _ _ _ _ _ _ _ rfl rfl B2 A3 rfl rfl (Jx rfl), tm⟩, rfl⟩, ⟨rfl, rfl, rfl, tv⟩⟩
theorem Qg (N : Nat) (p0 : Aa) (p1 : Ac) (r : (List AF) × Int) (h : Hd N p0 p1 = some r) : Ao zA 106 [.e (.agg (Ag p0)), .e (.agg (AI p1))] [] (.tup [.one (sC (r.1.map Bi)), .one (iC r.2)]) := by
 unfold Hd at h
 refine cw (n := 119) (rs := [.tmp 4, .tmp 5]) Tryz.func106 fun w0 S0 => ?_
 refine wq rfl (qb rfl (qb rfl (qa rfl (qa rfl (Ab (wq rfl (qL B2 A3 rfl (Bk SP Zp rfl ?_))))))))
 refine ML [(0, .tmp 21, _)] (.p rfl) rfl ⟨rfl, tv⟩ rfl Hv Lp SP rfl rfl (Jo rfl) rfl rfl ?_
 refine C0 (QO 22 8 [.s, .s, .s, .s, .s, .s, .s, .x 1 []] _ ((([(AF.mk p1 ((-1)) ((Ad.mk 0 0 0)) (([] : List Int)))] : List AF)).map Bi) rfl rfl) (qa rfl (Ab (wq rfl ?_)))
 refine VX (.p rfl) rfl ?_
 refine qL B2 A3 rfl ?_
 refine BG h fun v1 a1 h => Av [] (Pe N p1 v1 a1) ZK rfl ?_
 refine PS (kv := Value.string) (vt := PG) (m := ([] : List (ByteArray × Int))) (k := v1) (v := 0) rfl (.inr rfl) rfl rfl rfl rfl (Ok Sa ae) rfl ?_
 refine qm rfl (qa rfl (Ab (wp rfl (qe rfl ?_))))
 refine AC (L := DR N p0) h (fun v2 => mk [(2, oD (.ptr 2 0)), (6, oD (.own 2001)), (7, oD (.mref 2002)), (8, iD v2.2.2)] [(2, .box (Ag p0)), (2001, .dvec 8 [.s, .s, .s, .s, .s, .s, .s, .x 1 []] (v2.1.map Bi)), (2002, .mp (Gb Value.string PG v2.2.1))]) (fun v3 => mk [(6, oD (.own 2003))] [(2003, .dvec 8 [.s, .s, .s, .s, .s, .s, .s, .x 1 []] (v3.map Bi))]) (fun _ _ => rfl) (sm [(2001, 22), (2002, 23)] _ _ rfl rfl) (fun j2 n2 v2 h => ?_) (fun v3 s h hs => ?_)
 ·unfold DR at h
  refine wp rfl (qw 2 rfl ?_)
  refine Ug (.p rfl) rfl rfl (Mf Bi v2.1 _ _) Hv ?_
  refine AV rfl (Ab ?_)
  refine A8 h (fun h => ?_) fun h => ?_
  ·refine Ai (AL (AH (wq rfl (qL Co BN rfl (qw 2 rfl ?_)))))
   refine BD h fun v5 a5 b5 h => Nr (.p rfl) rfl rfl rfl (Mf Bi v2.1 _ _) Hv Lp a5 (AG b5) ?_
   refine qh Pb rfl ?_
   refine Td (.p rfl) rfl B2 A3 rfl (Af b5) rfl rfl (by decide) rfl ?_
   refine BG h fun v6 a6 h => Av [2004] (PB N p0 ((Ac.mk v5.fq.fe v5.fq.fc v5.fq.ff)) v6 a6) eU rfl (qm rfl (qx rfl (qx rfl (qa rfl (qa rfl (AM (by kernel_rfl) (wp rfl (qm rfl (Bo rfl (Ab ?_))))))))))
   refine A8 h (fun h => ?_) fun h => ?_
   ·refine wq rfl (qm rfl (qa rfl (qe rfl ?_)))
    obtain rfl := sj h
    refine Ae ((JS 4 _ rfl).trans (sm [] [(4, pD (.sl ((([] : List AF)).map Bi))), (5, iD v6.2)] [] rfl rfl)) (Ar ?_)
    exact ⟨⟨[_, _], ⟨.tmp _ _ rfl, tm⟩, rfl⟩, tv⟩
   ·refine Ai (wq rfl (qm rfl (D6 ET rfl (qm rfl (Ab ?_)))))
    refine AC (L := Cy N p0 v2 v6) h (fun v8 => mk [(2, oD (.ptr 2 0)), (6, oD (.own 2005)), (7, oD (.mref 2006)), (8, iD v2.2.2), (46, oD (.own 2007)), (47, iD ((v6.1.length : Int))), (48, iD v8.2.2)] [(2, .box (Ag p0)), (2005, .dvec 8 [.s, .s, .s, .s, .s, .s, .s, .x 1 []] (v8.1.map Bi)), (2006, .mp (Gb Value.string PG v8.2.1)), (2007, .vec 3 (v6.1.map AA))]) (fun v9 => mk [(2, oD (.ptr 2 0)), (6, oD (.own 2008)), (7, oD (.mref 2009)), (8, iD v2.2.2)] [(2, .box (Ag p0)), (2008, .dvec 8 [.s, .s, .s, .s, .s, .s, .s, .x 1 []] (v9.1.map Bi)), (2009, .mp (Gb Value.string PG v9.2))]) (fun _ _ => rfl) (sm [(2005, 2001), (2006, 2002), (2007, 2004)] _ _ rfl rfl) (fun j8 n8 v8 h => ?_) (fun v9 s h hs => ?_)
    ·unfold Cy at h
     refine wq rfl (AV rfl (Ab (AL ?_)))
     refine A8 h (fun h => ?_) fun h => ?_
     ·refine Ai (AL (AH (wq rfl ?_)))
      refine BD h fun v11 a11 b11 h => qI ET E7 a11 (Af b11) rfl (qJ JY E7 (Af b11) rfl (qz KD rfl (qs E7 rfl (Ab (wq rfl (qL Co BN rfl (qw 2 rfl ?_)))))))
      refine BD h fun v12 a12 b12 h => Nr (.p rfl) rfl rfl rfl (Mf Bi v8.1 _ _) Hv Lp a12 (AG b12) ?_
      refine qh Pb rfl ?_
      refine Td (.p rfl) rfl B2 A3 rfl (Af b12) rfl rfl (by decide) rfl ?_
      refine qL JY E7 rfl ?_
      refine BG h fun v13 a13 h => Av [2010, 2011, 2012] (Rp N p0 ((Ac.mk v12.fq.fe v12.fq.fc v12.fq.ff)) v11 v13 a13) ew rfl (qm rfl (qx rfl (qx rfl (qz EO rfl (qs A3 rfl (qa rfl (AM (by kernel_rfl) (wp rfl (qm rfl (Bo rfl (Ab ?_)))))))))))
      refine A8 h (fun h => ?_) fun h => ?_
      ·refine wq rfl (qm rfl (qa rfl (qe rfl ?_)))
       obtain rfl := sj h
       refine Ae ((JS 4 _ rfl).trans (sm [] [(4, pD (.sl ((([] : List AF)).map Bi))), (5, iD v13.2)] [] rfl rfl)) (Ar ?_)
       exact ⟨⟨[_, _], ⟨.tmp _ _ rfl, tm⟩, rfl⟩, tv⟩
      ·refine Ai (wq rfl (qL B2 A3 rfl ?_))
       refine BG h fun v15 a15 h => Du [] [2010, 2011, 2012] (Pe N v13.1 v15 a15) ZK B4 rfl (qa rfl (Ab (wq rfl (qw 2 rfl ?_))))
       refine XL (kv := Value.string) (vt := PG) (m := v8.2.1) (dv := 0) (.p rfl) rfl rfl rfl (Ok Sa ae) (by rw [Sa]; rfl) IM rfl rfl rfl ?_
       refine qm rfl (qx rfl (qx rfl (qa rfl (qe rfl ?_))))
       refine AS h (fun v16 => mk [(2, oD (.ptr 2 0)), (6, oD (.own 2013)), (7, oD (.mref 2014)), (8, iD v2.2.2), (16, iD v16.2.2), (46, oD (.own 2015)), (47, iD ((v6.1.length : Int))), (48, iD v8.2.2)] [(2, .box (Ag p0)), (2013, .dvec 8 [.s, .s, .s, .s, .s, .s, .s, .x 1 []] (v16.1.map Bi)), (2014, .mp (Gb Value.string PG v16.2.1)), (2015, .vec 3 (v6.1.map AA))]) (fun j16 h => ?_) (fun v16 h => ?_)
       ·refine wq rfl (qm rfl (CA rfl (Ab ?_)))
        refine A8 h (fun h => ?_) fun h => ?_
        ·refine AS h (fun v18 => mk [(2, oD (.ptr 2 0)), (6, oD (.own 2016)), (7, oD (.mref 2017)), (8, iD v2.2.2), (15, pD (.val (.string v15))), (16, iD v18.2), (46, oD (.own 2018)), (47, iD ((v6.1.length : Int))), (48, iD v8.2.2)] [(2, .box (Ag p0)), (2016, .dvec 8 [.s, .s, .s, .s, .s, .s, .s, .x 1 []] (v18.1.map Bi)), (2017, .mp (Gb Value.string PG v8.2.1)), (2018, .vec 3 (v6.1.map AA))]) (fun j18 h => ?_) (fun v18 h => ?_)
         ·refine wq rfl (qL Co BN rfl (qL B2 A3 rfl ?_))
          refine BG h fun v19 a19 h => Du [] [2010, 2011, 2012] (NQ N p0 v13.1 v19 a19) cm B4 rfl (qm rfl (qx rfl (qx rfl (qa rfl (qe rfl ?_)))))
          refine AS h (fun v20 => mk [(2, oD (.ptr 2 0)), (6, oD (.own 2022)), (7, oD (.mref 2023)), (8, iD v2.2.2), (12, oD (.ptr 12 0)), (13, oD (.ptr 13 0)), (15, pD (.val (.string v15))), (46, oD (.own 2024)), (47, iD ((v6.1.length : Int))), (48, iD v8.2.2), (87, bD v20)] [(2, .box (Ag p0)), (12, .box (Dw v11)), (13, .box [.own 2019, .own 2020, .own 2021]), (2019, .vec 1 (v13.1.fe.map Aj)), (2020, .vec 1 (v13.1.fc.map Aj)), (2021, .vec 1 (v13.1.ff.map D7)), (2022, .dvec 8 [.s, .s, .s, .s, .s, .s, .s, .x 1 []] (v8.1.map Bi)), (2023, .mp (Gb Value.string PG v8.2.1)), (2024, .vec 3 (v6.1.map AA))]) (fun j20 h => ?_) (fun v20 h => ?_)
          ·refine Ah Aw rfl (qm rfl (Bo rfl (qm rfl ?_)))
           refine Eu 84 h rfl (fun h => ?_) fun h => ?_
           ·refine qw 2 rfl (qp rfl (Ab ?_))
            exact sn [(2019, 2010), (2020, 2011), (2021, 2012), (2022, 2005), (2023, 2006), (2024, 2007)] h
           ·refine qm rfl (CA rfl (qp rfl (Ab ?_)))
            exact sn [(2019, 2010), (2020, 2011), (2021, 2012), (2022, 2005), (2023, 2006), (2024, 2007)] h
          ·refine A8 h (fun h => ?_) fun h => ?_
           ·refine Ah Aw rfl (qe rfl ?_)
            exact sn [(2016, 2022), (2017, 2023), (2018, 2024)] h
           ·refine wq rfl (qm rfl ?_)
            refine Ug (.p rfl) rfl rfl (Mf Bi v8.1 _ _) Hv ?_
            refine qa rfl (Ab (Ah Aw rfl (qm rfl (qL B2 A3 rfl (qm rfl (qL JY E7 rfl (Bk SP Zp rfl (C0 (Bb 2019 _ _ rfl rfl) (C0 (Bb 2020 _ _ rfl rfl) (C0 (Bb 2021 _ _ rfl rfl) ?_))))))))))
            refine ML [(0, .tmp 94, _)] (.p rfl) rfl ⟨rfl, tv⟩ rfl Hv Lp SP rfl rfl (Jo rfl) rfl rfl ?_
            refine C0 (QO 95 8 [.s, .s, .s, .s, .s, .s, .s, .x 1 []] _ ((([(AF.mk v13.1 v2.2.2 v11 (([] : List Int)))] : List AF)).map Bi) rfl rfl) ?_
            refine FL h fun c23 h => VT (.p rfl) rfl rfl rfl rfl rfl (by decide) Hv Hv Lp ZO (Jo rfl) SP rfl (YT (f := Bi) (g := Bi) (xs := v8.1) (ys := (([(AF.mk v13.1 v2.2.2 v11 (([] : List Int)))] : List AF))) c23) (Zh Bi v8.1 (([(AF.mk v13.1 v2.2.2 v11 (([] : List Int)))] : List AF))) rfl rfl ?_
            refine qa rfl (Ab ?_)
            exact sn [(2016, 96), (2017, 2023), (2018, 2024)] h
         ·refine Ah Aw rfl (qw 3 rfl ?_)
          refine PS (kv := Value.string) (vt := PG) (m := v8.2.1) (k := v15) (v := v18.2) rfl (.inl rfl) rfl rfl rfl rfl (Ok Sa ae) rfl ?_
          refine Ab ?_
          exact sn [(2013, 2016), (2014, 2017), (2015, 2018)] h
        ·refine Ai ?_
         exact sn [(2013, 2005), (2014, 2006), (2015, 2007)] h
       ·refine AS h (fun v24 => mk [(2, oD (.ptr 2 0)), (6, oD (.own 2025)), (7, oD (.mref 2026)), (8, iD v2.2.2), (46, oD (.own 2027)), (47, iD ((v6.1.length : Int))), (48, iD v8.2.2)] [(2, .box (Ag p0)), (2025, .dvec 8 [.s, .s, .s, .s, .s, .s, .s, .x 1 []] (v24.map Bi)), (2026, .mp (Gb Value.string PG v16.2.1)), (2027, .vec 3 (v6.1.map AA))]) (fun j24 h => ?_) (fun v24 h => ?_)
        ·refine wq rfl (qm rfl (EI rfl (Ab ?_)))
         refine A8 h (fun h => ?_) fun h => ?_
         ·refine Ah Aw rfl (qw 4 rfl ?_)
          refine BD h fun v26 a26 b26 h => Nr (.p rfl) rfl rfl rfl (Mf Bi v16.1 _ _) Hv Lp a26 (AG b26) ?_
          refine qh TK rfl ?_
          refine ax (.p rfl) rfl A0 rfl (Af b26) rfl rfl rfl rfl ?_
          refine qm rfl (Dg As Cp IM rfl ?_)
          refine FL h fun c27 h => Ce (f := Aj) As As Cp JN IM c27 rfl ?_
          refine BD h fun v28 a28 b28 h => Nr (.p rfl) rfl rfl rfl (aA Bi v16.1 _ _ _ _ _) Hv Lp a28 (AG b28) ?_
          refine qh TK rfl ?_
          refine Xw rfl rfl rfl rfl (rows2 := (v26.fc ++ (([v16.2.2] : List Int))).map Aj) (cols2 := []) rfl rfl (Af b28) (by decide) GT rfl rfl (DB Bi v16.1 _ ((AF.mk ((Ac.mk v28.fq.fe v28.fq.fc v28.fq.ff)) v28.fh ((Ad.mk v28.fu.fg v28.fu.fi v28.fu.fp)) (v26.fc ++ (([v16.2.2] : List Int)))))) ?_
          refine Ab ?_
          exact sn [(2025, 2013), (2026, 2014), (2027, 2015)] h
         ·refine Ai ?_
          exact sn [(2025, 2013), (2026, 2014), (2027, 2015)] h
        ·refine wq rfl (qm rfl ?_)
         refine Ug (.p rfl) rfl rfl (Mf Bi v24 _ _) Hv ?_
         refine GQ rfl (Ab ?_)
         refine A8 h (fun h => ?_) fun h => ?_
         ·refine wq rfl (qa rfl (qe rfl ?_))
          obtain rfl := sj h
          refine Ae ((JS 4 _ rfl).trans (sm [] [(4, pD (.sl ((([] : List AF)).map Bi))), (5, iD 3)] [] rfl rfl)) (Ar ?_)
          exact ⟨⟨[_, _], ⟨.tmp _ _ rfl, tm⟩, rfl⟩, tv⟩
         ·refine Ai (Ah Aw rfl (AW rfl (qm rfl (Ab ?_))))
          exact sn [(2005, 2025), (2006, 2026), (2007, 2027)] h
     ·refine AR ?_
      exact sn [(2008, 2005), (2009, 2006)] h
    ·refine Ae hs (Ah Aw rfl (qm rfl (AW rfl (qe rfl ?_))))
     exact sn [(2001, 2008), (2002, 2009)] h
  ·refine AR ?_
   exact sn [(2003, 2001)] h
 ·refine Ae hs (wq rfl (qm rfl (qa rfl (qe rfl ?_))))
  obtain rfl := sj h
  refine Ae ((VZ 2003 _ _ _ rfl rfl).trans (sm [] [(4, pD (.sl (v3.map Bi))), (5, iD 0)] [] rfl rfl)) (Ar ?_)
  exact ⟨⟨[_, _], ⟨.tmp _ _ rfl, tm⟩, rfl⟩, tv⟩
theorem GI (N : Nat) (p0 : List Int) (p1 : List Int) (r : Bool) (h : A6 N p0 p1 = some r) : Ao zA 25 [pD (.sl (p0.map Aj)), pD (.sl (p1.map Aj))] [] (bD r) := by
 unfold A6 at h
 refine cw (n := 26) (rs := [.tmp 4]) Tryz.func25 fun w0 S0 => ?_
 refine wq rfl (qa rfl (Ab (wp rfl (qm rfl (AJ As rfl (qm rfl (AJ As rfl (Bo rfl (Ab ?_)))))))))
 refine A8 h (fun h => ?_) fun h => ?_
 ·refine wq rfl (qe rfl ?_)
  obtain rfl := sj h
  refine Ae (sm [] [(4, bD false)] [] rfl rfl) (Ar ?_)
  exact ⟨⟨[_], tm, rfl⟩, tv⟩
 ·refine Ai (wp rfl (qm rfl (AJ As rfl (qm rfl (Ab ?_)))))
  refine AC (L := Be N p0 p1) h (fun v2 => mk [(0, pD (.sl (p0.map Aj))), (1, pD (.sl (p1.map Aj))), (12, iD ((p0.length : Int))), (13, iD v2)] []) (fun v3 => mk [] []) (fun _ _ => rfl) (sm [] _ _ rfl rfl) (fun j2 n2 v2 h => ?_) (fun v3 s h hs => ?_)
  ·unfold Be at h
   refine wq rfl (AV rfl (Ab (AL ?_)))
   refine A8 h (fun h => ?_) fun h => ?_
   ·refine Ai (AL (AH (wq rfl (qm rfl (qa rfl (Ab (wq rfl (qw 2 rfl ?_))))))))
    refine BD h fun v5 a5 b5 h => qi As Cp a5 (Af b5) rfl (qk BY rfl (qw 2 rfl ?_))
    refine BD h fun v6 a6 b6 h => qi As Cp a6 (Af b6) rfl (qk BY rfl (Bo rfl (AM (by kernel_rfl) ?_)))
    refine A8 h (fun h => ?_) fun h => ?_
    ·refine wq rfl (qe rfl ?_)
     obtain rfl := sj h
     refine Ae (sm [] [(4, bD false)] [] rfl rfl) (Ar ?_)
     exact ⟨⟨[_], tm, rfl⟩, tv⟩
    ·refine Ai (Ah Aw rfl (AW rfl (qm rfl (Ab ?_))))
     exact sn [] h
   ·refine AR ?_
    exact sn [] h
  ·refine Ae hs (wq rfl (qe rfl ?_))
   obtain rfl := sj h
   refine Ae (sm [] [(4, bD true)] [] rfl rfl) (Ar ?_)
   exact ⟨⟨[_], tm, rfl⟩, tv⟩
theorem J7 (N : Nat) (p0 : List Int) (p1 : Int → Option Bool) (r : Int) (h : Ek N p0 p1 = some r) : Ao zA 157 [pD (.sl (p0.map Aj)), oD (.clo (Hz (Ls false Aj) tB p1))] [] (iD r) := by
 unfold Ek at h
 refine cw (n := 19) (rs := [.tmp 4]) Tryz.func157 fun w0 S0 => ?_
 refine wq rfl (qa rfl (Ab (wp rfl (qm rfl (AJ As rfl (qm rfl (Ab ?_)))))))
 refine AC (L := Bq N p0 p1) h (fun v1 => mk [(0, pD (.sl (p0.map Aj))), (1, oD (.clo (Hz (Ls false Aj) tB p1))), (7, iD ((p0.length : Int))), (8, iD v1)] []) (fun v2 => mk [] []) (fun _ _ => rfl) (sm [] _ _ rfl rfl) (fun j1 n1 v1 h => ?_) (fun v2 s h hs => ?_)
 ·unfold Bq at h
  refine wq rfl (AV rfl (Ab (AL ?_)))
  refine A8 h (fun h => ?_) fun h => ?_
  ·refine Ai (AL (AH (wq rfl (qm rfl (qa rfl (Ab (wq rfl (qw 3 rfl ?_))))))))
   refine BD h fun v4 a4 b4 h => qi As Cp a4 (Af b4) rfl (qk BY rfl ?_)
   refine BG h fun v5 a5 h => K0 (ds0 := [_]) (ar := (Ls false Aj) v4) (.p rfl) rfl rfl ⟨rfl, tv⟩ rfl rfl rfl (Kn (La _ _ RU) a5) ?_
   refine Ab ?_
   refine A8 h (fun h => ?_) fun h => ?_
   ·refine wq rfl (qm rfl (qe rfl ?_))
    obtain rfl := sj h
    refine Ae (sm [] [(4, iD v1)] [] rfl rfl) (Ar ?_)
    exact ⟨⟨[_], tm, rfl⟩, tv⟩
   ·refine Ai (Ah Aw rfl (AW rfl (qm rfl (Ab ?_))))
    exact sn [] h
  ·refine AR ?_
   exact sn [] h
 ·refine Ae hs (wq rfl (qe rfl ?_))
  obtain rfl := sj h
  refine Ae (sm [] [(4, iD ((-1)))] [] rfl rfl) (Ar ?_)
  exact ⟨⟨[_], tm, rfl⟩, tv⟩
theorem IU (N : Nat) (p0 : List Int) (p1 : Int → Option Bool) (r : Bool) (h : CO N p0 p1 = some r) : Ao zA 121 [pD (.sl (p0.map Aj)), oD (.clo (Hz (Ls false Aj) tB p1))] [] (bD r) := by
 unfold CO at h
 refine cw (n := 9) (rs := [.tmp 4]) Tryz.func121 fun w0 S0 => ?_
 refine wq rfl (qa rfl (Ab (wq rfl (qw 2 rfl ?_))))
 refine BG h fun v1 a1 h => Av [] (J7 N p0 p1 v1 a1) bB rfl (EI rfl (qe rfl ?_))
 obtain rfl := sj h
 refine Ae (sm [] [(4, bD ((decide (0 ≤ v1))))] [] rfl rfl) (Ar ?_)
 exact ⟨⟨[_], tm, rfl⟩, tv⟩
theorem R1 (N : Nat) (p0 : Int) (r : Bool) (h : HF N p0 = some r) : Ao zA 122 [iD p0] [] (bD r) := by
 unfold HF at h
 refine cw (n := 5) (rs := [.tmp 2]) Tryz.func122 fun w0 S0 => ?_
 refine wq rfl (qa rfl (Ab (wq rfl (qm rfl (EI rfl (qe rfl ?_))))))
 obtain rfl := sj h
 refine Ae (sm [] [(2, bD ((decide (0 ≤ p0))))] [] rfl rfl) (Ar ?_)
 exact ⟨⟨[_], tm, rfl⟩, tv⟩
theorem Uk (N : Nat) (p0 : Aa) (p1 : Ac) (r : Bool) (h : I8 N p0 p1 = some r) : Ao zA 85 [.e (.agg (Ag p0)), .e (.agg (AI p1))] [] (bD r) := by
 unfold I8 at h
 refine cw (n := 22) (rs := [.tmp 4]) Tryz.func85 fun w0 S0 => ?_
 refine wq rfl (qb rfl (qb rfl (qe rfl ?_)))
 refine AS h (fun v1 => mk [(4, bD v1)] []) (fun j1 h => ?_) (fun v1 h => ?_)
 ·refine Ah Aw rfl (qL Co BN rfl (qL B2 A3 rfl ?_))
  refine BG h fun v2 a2 h => Av [] (Ks N p0 p1 v2 a2) U7 rfl (B1 rfl (qm rfl ?_))
  refine Eu 9 h rfl (fun h => ?_) fun h => ?_
  ·refine qf C5 rfl (ql A0 rfl (qf Gx rfl (ql A0 rfl ?_)))
   refine BG h fun v4 a4 h => Av [] (GI N p1.fe p0.fo v4 a4) ai rfl (qp rfl (qm rfl ?_))
   refine Eu 16 h rfl (fun h => ?_) fun h => ?_
   ·refine qf BK rfl (ql A0 rfl ?_)
    refine BG h fun v6 a6 h => Av [] (Ao.weak (ds' := [pD (.sl (p1.fc.map Aj)), oD (.fnc 122)]) (IU N p1.fc ((fun (x : Int) => HF N x)) v6 a6) ⟨(fun _ _ _ hh => hh), (fun _ _ _ hh => UL cx (fun ar t ht => by obtain ⟨x, r, rfl, hq, rfl⟩ := H6 ht; exact R1 N x r hq) hh), tv⟩) bg rfl ?_
    refine CA rfl (qp rfl (qe rfl ?_))
    exact sn [] h
   ·refine qw 4 rfl (qp rfl (qe rfl ?_))
    exact sn [] h
  ·refine qw 5 rfl (qp rfl (qw 5 rfl (qp rfl (qe rfl ?_))))
   exact sn [] h
 ·obtain rfl := sj h
  refine Ae (sm [] [(4, bD v1)] [] rfl rfl) (Ar ?_)
  exact ⟨⟨[_], tm, rfl⟩, tv⟩
theorem P9 (N : Nat) (p0 : AF) (p1 : List Int) (p2 : List Int) (p3 : List Int) (p4 : List An) (r : Bool) (h : E4 N p0 p1 p2 p3 p4 = some r) : Ao zA 108 [.e (.agg (V3 p0)), oD (.rop [.sl (p1.map Aj), .sl (p2.map Aj), .sl (p3.map Aj), .sl (p4.map AN)])] [] (bD r) := by
 unfold E4 at h
 refine cw (n := 8) (rs := [.tmp 3]) Tryz.func108 fun w0 S0 => ?_
 refine wq rfl (qb rfl (qa rfl (Ab (wq rfl (qK Co BN rfl (qf Pb rfl (qL B2 A3 rfl ?_)))))))
 refine BG h fun v1 a1 h => Av [] (Uk N ((Aa.mk p1 p2 p3 p4)) ((Ac.mk p0.fq.fe p0.fq.fc p0.fq.ff)) v1 a1) dM rfl (qe rfl ?_)
 obtain rfl := sj h
 refine Ae (sm [] [(3, bD v1)] [] rfl rfl) (Ar ?_)
 exact ⟨⟨[_], tm, rfl⟩, tv⟩
theorem Hj (N : Nat) (p0 : List AF) (p1 : AF → Option Bool) (r : Int) (h : Cn N p0 p1 = some r) : Ao zA 107 [pD (.sl (p0.map Bi)), oD (.clo (Hz (Ls true Bi) tB p1))] [] (iD r) := by
 unfold Cn at h
 refine cw (n := 19) (rs := [.tmp 4]) Tryz.func107 fun w0 S0 => ?_
 refine wq rfl (qa rfl (Ab (wp rfl (qm rfl (AJ Hv rfl (qm rfl (Ab ?_)))))))
 refine AC (L := AX N p0 p1) h (fun v1 => mk [(0, pD (.sl (p0.map Bi))), (1, oD (.clo (Hz (Ls true Bi) tB p1))), (7, iD ((p0.length : Int))), (8, iD v1)] []) (fun v2 => mk [] []) (fun _ _ => rfl) (sm [] _ _ rfl rfl) (fun j1 n1 v1 h => ?_) (fun v2 s h hs => ?_)
 ·unfold AX at h
  refine wq rfl (AV rfl (Ab (AL ?_)))
  refine A8 h (fun h => ?_) fun h => ?_
  ·refine Ai (AL (AH (wq rfl (qm rfl (qa rfl (Ab (wq rfl (qw 3 rfl ?_))))))))
   refine BD h fun v4 a4 b4 h => qi Hv Lp a4 (Af b4) rfl (qK cD Lp rfl ?_)
   refine BG h fun v5 a5 h => K0 (ds0 := [_]) (ar := (Ls true Bi) ((AF.mk ((Ac.mk v4.fq.fe v4.fq.fc v4.fq.ff)) v4.fh ((Ad.mk v4.fu.fg v4.fu.fi v4.fu.fp)) v4.fc))) (.p rfl) rfl rfl ⟨rfl, tv⟩ rfl rfl rfl (Kn (La _ _ Ts) a5) ?_
   refine Ab ?_
   refine A8 h (fun h => ?_) fun h => ?_
   ·refine wq rfl (qm rfl (qe rfl ?_))
    obtain rfl := sj h
    refine Ae (sm [] [(4, iD v1)] [] rfl rfl) (Ar ?_)
    exact ⟨⟨[_], tm, rfl⟩, tv⟩
   ·refine Ai (Ah Aw rfl (AW rfl (qm rfl (Ab ?_))))
    exact sn [] h
  ·refine AR ?_
   exact sn [] h
 ·refine Ae hs (wq rfl (qe rfl ?_))
  obtain rfl := sj h
  refine Ae (sm [] [(4, iD ((-1)))] [] rfl rfl) (Ar ?_)
  exact ⟨⟨[_], tm, rfl⟩, tv⟩
theorem HY (N : Nat) (p0 : List Ad) (r : (List Ad)) (h : BB N p0 = some r) : ER zA 139 [oD (.own 90000)] [(.vec 3 (p0.map AA), .vec 3 (r.map AA))] [] (.tup []) := by
 unfold BB at h
 refine He (n := 28) (rs := []) Tryz.func139 rfl rfl rfl (Jo rfl) (Jo rfl) rfl rfl (Jo rfl) rfl (Jo rfl) fun w0 S0 GL => bA ?_
 refine Ae (sm [] [(0, oD (.own 90000))] [(90000, .vec 3 (p0.map AA))] rfl rfl) (wq rfl (qm rfl (D6 ET rfl (Ko rfl (qa rfl (qe rfl ?_))))))
 refine AC (L := Bn N) h (fun v1 => mk [(0, oD (.own 90000)), (2, iD v1.2.1), (3, iD v1.2.2)] [(90000, .vec 3 (v1.1.map AA))]) (fun v2 => mk [] [(90000, .vec 3 (v2.map AA))]) (fun _ _ => rfl) (sm [] _ _ rfl rfl) (fun j1 n1 v1 h => ?_) (fun v2 s h hs => ?_)
 ·unfold Bn at h
  refine wp rfl (qw 2 rfl (AV rfl (Ab ?_)))
  refine A8 h (fun h => ?_) fun h => ?_
  ·refine Ai (AL (AH (Ah Aw rfl (qw 6 rfl ?_))))
   refine BD h fun v4 a4 b4 h => qI ET E7 a4 (Af b4) rfl (qJ JY E7 (Af b4) rfl (qw 2 rfl ?_))
   refine BD h fun v5 a5 b5 h => qI ET E7 a5 (Af b5) rfl (qJ JY E7 (Af b5) rfl ?_)
   refine BD h fun v6 a6 b6 h => qI ET E7 a6 (Af b6) rfl ?_
   refine DJ rfl rfl rfl rfl (Af b6) rfl E7 rfl (Jo rfl) (DB AA v1.1 _ v4) ?_
   refine BD h fun v7 a7 b7 h => qI ET E7 a7 (Af b7) rfl ?_
   refine DJ rfl rfl rfl rfl (Af b7) rfl E7 rfl (Jo rfl) (DB AA (v1.1.set ((v1.2.1).toNat) v4) _ v5) ?_
   refine AM (by kernel_rfl) (Ah Aw rfl (qm rfl (AW rfl (qm rfl (Ko rfl (qa rfl (qe rfl ?_)))))))
   exact sn [] h
  ·refine AR ?_
   exact sn [] h
 ·obtain rfl := sj h
  refine ⟨_, hs.trans (sm [] [] [(90000, .vec 3 (v2.map AA))] rfl rfl), ?_⟩
  exact ⟨⟨[], tv, rfl⟩, ⟨rfl, tv⟩, tv⟩
theorem Uc (N : Nat) (p0 : List AF) (p1 : Int) (r : (List Ad)) (h : Kq N p0 p1 = some r) : Ao zA 109 [pD (.sl (p0.map Bi)), iD p1] [(3, r.map AA)] (oD (.own 0)) := by
 unfold Kq at h
 refine cw (n := 28) (rs := [.tmp 4]) Tryz.func109 fun w0 S0 => ?_
 refine wq rfl (qa rfl (Ab (wq rfl (qa rfl (Ab (AL ?_))))))
 refine AC (L := Gq N p0) h (fun v1 => mk [(0, pD (.sl (p0.map Bi))), (1, iD v1.1), (5, oD (.own 2001))] [(2001, .vec 3 (v1.2.map AA))]) (fun v2 => mk [(5, oD (.own 2002))] [(2002, .vec 3 (v2.map AA))]) (fun _ _ => rfl) ((AT 5 2003 3 rfl rfl rfl).trans (sm [(2001, 2003)] _ _ rfl rfl)) (fun j1 n1 v1 h => ?_) (fun v2 s h hs => ?_)
 ·unfold Gq at h
  refine wp rfl (qw 2 rfl ?_)
  refine BD h fun v3 a3 b3 h => qi Hv Lp a3 (Af b3) rfl (qg To rfl (qk BY rfl (EI rfl (Ab ?_))))
  refine A8 h (fun h => ?_) fun h => ?_
  ·refine Ai (AL (AH (Ah Aw rfl (qw 3 rfl ?_))))
   refine BD h fun v5 a5 b5 h => qi Hv Lp a5 (Af b5) rfl (qg Wn rfl (qK JY E7 rfl (Dg ET E7 KD rfl ?_)))
   refine FL h fun c6 h => Ce (f := AA) ET ET E7 QG KD c6 rfl (qa rfl (Ab (Ah Aw rfl (qw 2 rfl ?_))))
   refine BD h fun v7 a7 b7 h => qi Hv Lp a7 (Af b7) rfl (qg To rfl (qk BY rfl (qe rfl ?_)))
   exact sn [(2001, 24)] h
  ·refine AR ?_
   exact sn [(2002, 2001)] h
 ·refine Ae hs (wq rfl (qm rfl ?_))
  refine BG h fun v8 a8 h => Md (ds0 := [_]) [2002] [] [true] (HY N v2 v8 a8) (.p rfl) cb rfl ⟨rfl, tv⟩ rfl rfl (by decide) ⟨rfl, tv⟩ rfl (Gw rfl) tv ⟨(fun h => by cases h), tv⟩ rfl rfl rfl ?_
  refine Ab (wq rfl (qm rfl (qe rfl ?_)))
  obtain rfl := sj h
  refine Ae (sm [(1000, 2002)] [(4, oD (.own 1000))] [(1000, .vec 3 (v8.map AA))] rfl rfl) (Ar ?_)
  exact ⟨⟨[_], tm, rfl⟩, ⟨rfl, tv⟩⟩
theorem Tr (N : Nat) (p0 : Aa) (p1 : Ac) (r : (List Ad) × Int) (h : FZ N p0 p1 = some r) : Ao zA 75 [.e (.agg (Ag p0)), .e (.agg (AI p1))] [(3, r.1.map AA)] (.tup [.one (.own 0), .one (iC r.2)]) := by
 unfold FZ at h
 refine cw (n := 38) (rs := [.tmp 4, .tmp 5]) Tryz.func75 fun w0 S0 => ?_
 refine wq rfl (qb rfl (qb rfl (qa rfl (qa rfl (Ab (wq rfl (qL Co BN rfl (qL B2 A3 rfl ?_))))))))
 refine BG h fun v1 a1 h => Av [] (NQ N p0 p1 v1 a1) cm rfl (qm rfl (qx rfl (qx rfl (qa rfl (qa rfl (Ab (wp rfl (qm rfl (Bo rfl (Ab ?_))))))))))
 refine A8 h (fun h => ?_) fun h => ?_
 ·refine wq rfl (qm rfl (qa rfl (qe rfl ?_)))
  obtain rfl := sj h
  refine Ae ((AT 4 2001 3 rfl rfl rfl).trans (sm [(1000, 2001)] [(4, oD (.own 1000)), (5, iD v1.2)] [(1000, .vec 3 ((([] : List Ad)).map AA))] rfl rfl)) (Ar ?_)
  exact ⟨⟨[_, _], ⟨.tmp _ _ rfl, tm⟩, rfl⟩, ⟨rfl, tv⟩⟩
 ·refine Ai (wp rfl (qm rfl (CA rfl (Ab ?_))))
  refine A8 h (fun h => ?_) fun h => ?_
  ·refine wq rfl (qa rfl (qe rfl ?_))
   obtain rfl := sj h
   refine Ae ((AT 4 2002 3 rfl rfl rfl).trans (sm [(1000, 2002)] [(4, oD (.own 1000)), (5, iD 13)] [(1000, .vec 3 ((([] : List Ad)).map AA))] rfl rfl)) (Ar ?_)
   exact ⟨⟨[_, _], ⟨.tmp _ _ rfl, tm⟩, rfl⟩, ⟨rfl, tv⟩⟩
  ·refine Ai (wq rfl (qL Co BN rfl (qL B2 A3 rfl ?_)))
   refine BG h fun v4 a4 h => Av [] (Qg N p0 p1 v4 a4) bt rfl (qm rfl (qx rfl (qx rfl (qa rfl (qa rfl (Ab (wp rfl (qm rfl (Bo rfl (Ab ?_))))))))))
   refine A8 h (fun h => ?_) fun h => ?_
   ·refine wq rfl (qm rfl (qa rfl (qe rfl ?_)))
    obtain rfl := sj h
    refine Ae ((AT 4 2003 3 rfl rfl rfl).trans (sm [(1000, 2003)] [(4, oD (.own 1000)), (5, iD v4.2)] [(1000, .vec 3 ((([] : List Ad)).map AA))] rfl rfl)) (Ar ?_)
    exact ⟨⟨[_, _], ⟨.tmp _ _ rfl, tm⟩, rfl⟩, ⟨rfl, tv⟩⟩
   ·refine Ai (wq rfl (qm rfl (C0 (Ic 2 [.sl (p0.fb.map Aj), .sl (p0.fj.map Aj), .sl (p0.fo.map Aj), .sl (p0.fd.map AN)] rfl rfl) ?_)))
    refine IK (capD := [_]) (Hz (Ls true Bi) tB ((fun (x : AF) => E4 N x p0.fb p0.fj p0.fo p0.fd))) (.p rfl) cA rfl ⟨rfl, tv⟩ rfl (fun ar t ht => by obtain ⟨x, r, rfl, hq, rfl⟩ := H6 ht; exact P9 N x p0.fb p0.fj p0.fo p0.fd r hq) ?_
    refine BG h fun v6 a6 h => Av [] (Hj N v4.1 ((fun (x : AF) => E4 N x p0.fb p0.fj p0.fo p0.fd)) v6 a6) cB rfl (qa rfl (Ab (wp rfl (qm rfl (AV rfl (Ab ?_))))))
    refine A8 h (fun h => ?_) fun h => ?_
    ·refine wq rfl (qa rfl (qe rfl ?_))
     obtain rfl := sj h
     refine Ae ((AT 4 2004 3 rfl rfl rfl).trans (sm [(1000, 2004)] [(4, oD (.own 1000)), (5, iD 14)] [(1000, .vec 3 ((([] : List Ad)).map AA))] rfl rfl)) (Ar ?_)
     exact ⟨⟨[_, _], ⟨.tmp _ _ rfl, tm⟩, rfl⟩, ⟨rfl, tv⟩⟩
    ·refine Ai (wq rfl (qw 2 rfl ?_))
     refine BG h fun v8 a8 h => Av [2005] (Uc N v4.1 v6 v8 a8) bL rfl (qa rfl (qe rfl ?_))
     obtain rfl := sj h
     refine Ae (sm [(1000, 2005)] [(4, oD (.own 1000)), (5, iD 0)] [(1000, .vec 3 (v8.map AA))] rfl rfl) (Ar ?_)
     exact ⟨⟨[_, _], ⟨.tmp _ _ rfl, tm⟩, rfl⟩, ⟨rfl, tv⟩⟩
theorem TA (N : Nat) (p0 : Aa) (r : (List Ad) × Int) (h : GJ N p0 = some r) : Ao zA 40 [.e (.agg (Ag p0))] [(3, r.1.map AA)] (.tup [.one (.own 0), .one (iC r.2)]) := by
 unfold GJ at h
 refine cw (n := 19) (rs := [.tmp 2, .tmp 3]) Tryz.func40 fun w0 S0 => ?_
 refine wq rfl (qb rfl (qa rfl (qa rfl (Ab (wq rfl (qL Co BN rfl ?_))))))
 refine BG h fun v1 a1 h => Av [2001, 2002, 2003] (SD N p0 v1 a1) eD rfl (qm rfl (qx rfl (qx rfl (qz EO rfl (qs A3 rfl (qa rfl (Ab (wp rfl (qm rfl (Bo rfl (Ab ?_)))))))))))
 refine A8 h (fun h => ?_) fun h => ?_
 ·refine wq rfl (qm rfl (qa rfl (qe rfl ?_)))
  obtain rfl := sj h
  refine Ae ((AT 2 2004 3 rfl rfl rfl).trans (sm [(1000, 2004)] [(2, oD (.own 1000)), (3, iD v1.2)] [(1000, .vec 3 ((([] : List Ad)).map AA))] rfl rfl)) (Ar ?_)
  exact ⟨⟨[_, _], ⟨.tmp _ _ rfl, tm⟩, rfl⟩, ⟨rfl, tv⟩⟩
 ·refine Ai (wq rfl (qL Co BN rfl (qL B2 A3 rfl ?_)))
  refine BG h fun v3 a3 h => Du [2005] [2001, 2002, 2003] (Tr N p0 v1.1 v3 a3) eO (Hc (fun _ => rfl) B4) rfl (qx rfl (qx rfl (qa rfl (qe rfl ?_))))
  obtain rfl := sj h
  refine Ae (sm [(1000, 2005)] [(2, oD (.own 1000)), (3, iD v3.2)] [(1000, .vec 3 (v3.1.map AA))] rfl rfl) (Ar ?_)
  exact ⟨⟨[_, _], ⟨.tmp _ _ rfl, tm⟩, rfl⟩, ⟨rfl, tv⟩⟩
theorem My (N : Nat) (p0 : Aa) (p1 : List Int) (r : Bool × Int) (h : FC N p0 p1 = some r) : Ao zA 12 [.e (.agg (Ag p0)), pD (.sl (p1.map Aj))] [] (.tup [.one (.pure (.val (.bool r.1))), .one (iC r.2)]) := by
 unfold FC at h
 refine cw (n := 36) (rs := [.tmp 4, .tmp 5]) Tryz.func12 fun w0 S0 => ?_
 refine wq rfl (qb rfl (qa rfl (qa rfl (Ab (wp rfl (qL Co BN rfl ?_))))))
 refine BG h fun v1 a1 h => Av [] (E6 N p0 v1 a1) Wz rfl (qa rfl (Ab (wq rfl (qm rfl (Bo rfl (Ab ?_))))))
 refine A8 h (fun h => ?_) fun h => ?_
 ·refine wq rfl (qm rfl (qa rfl (qe rfl ?_)))
  obtain rfl := sj h
  refine Ae (sm [] [(4, bD false), (5, iD v1)] [] rfl rfl) (Ar ?_)
  exact ⟨⟨[_, _], ⟨.tmp _ _ rfl, tm⟩, rfl⟩, tv⟩
 ·refine Ai (wq rfl (qL Co BN rfl (qm rfl ?_)))
  refine BG h fun v3 a3 h => Av [2001, 2002, 2003, 2004] (N4 N p0 p1 v3 a3) eM rfl (qm rfl (qx rfl (qx rfl (qz Kx rfl (qs BN rfl (qa rfl (Ab (wp rfl (qm rfl (Bo rfl (Ab ?_)))))))))))
  refine A8 h (fun h => ?_) fun h => ?_
  ·refine wq rfl (qm rfl (qa rfl (qe rfl ?_)))
   obtain rfl := sj h
   refine Ae (sm [] [(4, bD false), (5, iD v3.2)] [] rfl rfl) (Ar ?_)
   exact ⟨⟨[_, _], ⟨.tmp _ _ rfl, tm⟩, rfl⟩, tv⟩
  ·refine Ai (wp rfl (qL Co BN rfl ?_))
   refine BG h fun v5 a5 h => Du [2005] [2001, 2002, 2003, 2004] (TA N v3.1 v5 a5) eW (Hc (fun _ => rfl) B4) rfl (qm rfl (qx rfl (qx rfl (qa rfl (qa rfl (Ab (wq rfl (qm rfl (Ab (AH (wq rfl (B1 rfl (qe rfl ?_)))))))))))))
   refine A8 h (fun h => ?_) fun h => ?_
   ·refine wq rfl (qa rfl (qe rfl ?_))
    obtain rfl := sj h
    refine Ae (sm [] [(4, bD false), (5, iD 0)] [] rfl rfl) (Ar ?_)
    exact ⟨⟨[_, _], ⟨.tmp _ _ rfl, tm⟩, rfl⟩, tv⟩
   ·refine wq rfl (B1 rfl (qe rfl ?_))
    refine A8 h (fun h => ?_) fun h => ?_
    ·refine wq rfl (qm rfl (qa rfl (qe rfl ?_)))
     obtain rfl := sj h
     refine Ae (sm [] [(4, bD false), (5, iD v5.2)] [] rfl rfl) (Ar ?_)
     exact ⟨⟨[_, _], ⟨.tmp _ _ rfl, tm⟩, rfl⟩, tv⟩
    ·refine Ai (wq rfl (qa rfl (qe rfl ?_)))
     obtain rfl := sj h
     refine Ae (sm [] [(4, bD true), (5, iD 0)] [] rfl rfl) (Ar ?_)
     exact ⟨⟨[_, _], ⟨.tmp _ _ rfl, tm⟩, rfl⟩, tv⟩
theorem Qq (N : Nat) (p0 : Aa) (p1 : Int) (r : Bool × Int) (h : Ig N p0 p1 = some r) : Ao zA 79 [.e (.agg (Ag p0)), pD (.val (.int .u64 p1))] [] (.tup [.one (.pure (.val (.bool r.1))), .one (iC r.2)]) := by
 unfold Ig at h
 refine cw (n := 12) (rs := [.tmp 4, .tmp 5]) Tryz.func79 fun w0 S0 => ?_
 refine wq rfl (qb rfl (qa rfl (qa rfl (Ab (wq rfl (qL Co BN rfl (qm rfl ?_)))))))
 refine BG h fun v1 a1 h => Av [2001] (G8 N p1 v1 a1) Wy rfl ?_
 refine BG h fun v2 a2 h => Du [] [2001] (My N p0 v1 v2 a2) bm B4 rfl (qx rfl (qx rfl (qa rfl (qa rfl (AM (by kernel_rfl) ?_)))))
 obtain rfl := sj h
 refine Ae (sm [] [(4, bD v2.1), (5, iD v2.2)] [] rfl rfl) (Ar ?_)
 exact ⟨⟨[_, _], ⟨.tmp _ _ rfl, tm⟩, rfl⟩, tv⟩
theorem Ld (N : Nat) (p0 : Aa) (r : (List Int) × (List (Int × Bool)) × Int) (h : F3 N p0 = some r) : Ao zA 42 [.e (.agg (Ag p0))] [(1, r.1.map DL)] (.tup [.one (.own 0), .one (.pure (.mp (Gb (Value.int .u64) tB r.2.1))), .one (iC r.2.2)]) := by
 unfold F3 at h
 refine cw (n := 56) (rs := [.tmp 2, .tmp 3, .tmp 4]) Tryz.func42 fun w0 S0 => ?_
 refine wq rfl (qb rfl (qa rfl (qa rfl (qa rfl (Ab (wp rfl (qL Co BN rfl ?_)))))))
 refine BG h fun v1 a1 h => Av [] (E6 N p0 v1 a1) Wz rfl (qa rfl (Ab (wq rfl (qm rfl (Bo rfl (Ab ?_))))))
 refine A8 h (fun h => ?_) fun h => ?_
 ·refine wq rfl (qm rfl (qa rfl (qa rfl (qe rfl ?_))))
  obtain rfl := sj h
  refine Ae ((AT 2 2001 1 rfl rfl rfl).trans (sm [(1000, 2001)] [(2, oD (.own 1000)), (3, pD (.mp (Gb (Value.int .u64) tB (([] : List (Int × Bool)))))), (4, iD v1)] [(1000, .vec 1 ((([] : List Int)).map DL))] rfl rfl)) (Ar ?_)
  exact ⟨⟨[_, _, _], ⟨.tmp _ _ rfl, ⟨.tmp _ _ rfl, tm⟩⟩, rfl⟩, ⟨rfl, tv⟩⟩
 ·refine Ai (wq rfl (qa rfl (Ab (wp rfl (qf A5 rfl (ql A0 rfl (AJ As rfl ?_)))))))
  refine FL h fun c3 h => Jh rfl c3 (qm rfl (Ab ?_))
  refine AC (L := Fv N p0) h (fun v4 => mk [(1, oD (.ptr 1 0)), (6, oD (.own 2002)), (21, pD (.val (.int .u64 ((D1 .u64 1 ((p0.fb.length : Int))))))), (22, pD (.val (.int .u64 v4.2)))] [(1, .box (Ag p0)), (2002, .vec 1 (v4.1.map DL))]) (fun v5 => mk [(1, oD (.ptr 1 0)), (6, oD (.own 2003))] [(1, .box (Ag p0)), (2003, .vec 1 (v5.map DL))]) (fun _ _ => rfl) ((AT 6 2004 1 rfl rfl rfl).trans (sm [(2002, 2004)] _ _ rfl rfl)) (fun j4 n4 v4 h => ?_) (fun v5 s h hs => ?_)
  ·unfold Fv at h
   refine wq rfl (AV rfl (Ab (AL ?_)))
   refine A8 h (fun h => ?_) fun h => ?_
   ·refine Ai (AL (AH (wq rfl (qm rfl (qa rfl (Ab (Ah Aw rfl (qw 2 rfl (Dg Gn LS SV rfl ?_)))))))))
    refine FL h fun c7 h => Ce (f := DL) Gn Gn LS Xt SV c7 rfl (qa rfl (Ab (Ah Aw rfl (AW rfl (qm rfl (Ab ?_))))))
    exact sn [(2002, 28)] h
   ·refine AR ?_
    exact sn [(2003, 2002)] h
  ·refine Ae hs (wq rfl (qm rfl ?_))
   refine BG h fun v8 a8 h => Md (ds0 := [_, _]) [2003] [] [true] (ER.weak (ds' := [_, oD (.fnc 78)]) (JG N v5 ((fun (x : Int × Int) => DE N x.1 x.2)) v8 a8) ⟨(fun _ _ _ hh => hh), (fun _ _ _ hh => Xi eR (fun ar t ht => by obtain ⟨x, r, rfl, hq, rfl⟩ := H6 ht; exact P1 N x.1 x.2 r hq) hh), tv⟩) (.p rfl) ex rfl ⟨rfl, rfl, tv⟩ rfl rfl (by decide) ⟨rfl, tv⟩ rfl (Gw rfl) tv ⟨(fun h => by cases h), tv⟩ rfl rfl rfl ?_
   refine Ab (wq rfl (qm rfl (D6 Gn rfl ?_)))
   refine UJ (.p rfl) rfl OG rfl ?_
   refine qa rfl (Ab (wp rfl (qm rfl (D6 Gn rfl (qm rfl (Ab ?_))))))
   refine AC (L := EN N p0 v8) h (fun v9 => mk [(1, oD (.ptr 1 0)), (6, oD (.own 2005)), (8, oD (.mref 2006)), (35, oD (.own 2005)), (36, iD ((v8.length : Int))), (37, iD v9.2)] [(1, .box (Ag p0)), (2005, .vec 1 (v8.map DL)), (2006, .mp (Gb (Value.int .u64) tB v9.1))]) (fun v10 => mk [(6, oD (.own 2007)), (8, oD (.mref 2008))] [(2007, .vec 1 (v8.map DL)), (2008, .mp (Gb (Value.int .u64) tB v10))]) (fun _ _ => rfl) (sm [(2005, 2003), (2006, 34)] _ _ rfl rfl) (fun j9 n9 v9 h => ?_) (fun v10 s h hs => ?_)
   ·unfold EN at h
    refine wq rfl (AV rfl (Ab (AL ?_)))
    refine A8 h (fun h => ?_) fun h => ?_
    ·refine Ai (AL (AH (wq rfl ?_)))
     refine BD h fun v12 a12 b12 h => qI Gn LS a12 (Af b12) rfl (qj OL (Af b12) rfl (qa rfl (Ab (wq rfl (qL Co BN rfl (qm rfl ?_))))))
     refine BG h fun v13 a13 h => Av [] (Qq N p0 v12 v13 a13) dO rfl (qm rfl (qx rfl (qx rfl (qa rfl (qa rfl (Ab (wp rfl (qm rfl (Bo rfl (Ab ?_))))))))))
     refine A8 h (fun h => ?_) fun h => ?_
     ·refine wq rfl (qm rfl (qa rfl (qa rfl (qe rfl ?_))))
      obtain rfl := sj h
      refine Ae ((AT 2 2009 1 rfl rfl rfl).trans (sm [(1000, 2009)] [(2, oD (.own 1000)), (3, pD (.mp (Gb (Value.int .u64) tB (([] : List (Int × Bool)))))), (4, iD v13.2)] [(1000, .vec 1 ((([] : List Int)).map DL))] rfl rfl)) (Ar ?_)
      exact ⟨⟨[_, _, _], ⟨.tmp _ _ rfl, ⟨.tmp _ _ rfl, tm⟩⟩, rfl⟩, ⟨rfl, tv⟩⟩
     ·refine Ai (Ah Aw rfl (qw 3 rfl ?_))
      refine PS (kv := (Value.int .u64)) (vt := tB) (m := v9.1) (k := v12) (v := v13.1) rfl (.inl rfl) rfl rfl rfl rfl (Mb OG Vv) rfl ?_
      refine Ab (Ah Aw rfl (AW rfl (qm rfl (Ab ?_))))
      exact sn [] h
    ·refine AR ?_
     exact sn [(2007, 2005), (2008, 2006)] h
   ·refine Ae hs (wq rfl (qw 2 rfl (qa rfl (qa rfl (qe rfl ?_)))))
    obtain rfl := sj h
    refine Ae ((VP 2008 _ rfl rfl).trans (sm [(1000, 2007)] [(2, oD (.own 1000)), (3, pD (.mp (Gb (Value.int .u64) tB v10))), (4, iD 0)] [(1000, .vec 1 (v8.map DL))] rfl rfl)) (Ar ?_)
    exact ⟨⟨[_, _, _], ⟨.tmp _ _ rfl, ⟨.tmp _ _ rfl, tm⟩⟩, rfl⟩, ⟨rfl, tv⟩⟩
theorem N6 (N : Nat) (p0 : Int) (p1 : Int) (r : Bool) (h : FU N p0 p1 = some r) : Ao zA 81 [pD (.val (.int .u64 p0)), oD (.rop [.val (.int .u64 p1)])] [] (bD r) := by
 unfold FU at h
 refine cw (n := 8) (rs := [.tmp 3]) Tryz.func81 fun w0 S0 => ?_
 refine wq rfl (qa rfl (Ab (wq rfl (qm rfl (qk OL rfl (Ie rfl (B1 rfl (qe rfl ?_))))))))
 obtain rfl := sj h
 refine Ae (sm [] [(3, bD (((Df .u64 p0 p1) == 0)))] [] rfl rfl) (Ar ?_)
 exact ⟨⟨[_], tm, rfl⟩, tv⟩
theorem GN (N : Nat) (p0 : List Int) (p1 : Int → Option Bool) (r : Int) (h : DP N p0 p1 = some r) : Ao zA 80 [pD (.sl (p0.map DL)), oD (.clo (Hz (Ls false DL) tB p1))] [] (iD r) := by
 unfold DP at h
 refine cw (n := 19) (rs := [.tmp 4]) Tryz.func80 fun w0 S0 => ?_
 refine wq rfl (qa rfl (Ab (wp rfl (qm rfl (AJ Gn rfl (qm rfl (Ab ?_)))))))
 refine AC (L := Dk N p0 p1) h (fun v1 => mk [(0, pD (.sl (p0.map DL))), (1, oD (.clo (Hz (Ls false DL) tB p1))), (7, iD ((p0.length : Int))), (8, iD v1)] []) (fun v2 => mk [] []) (fun _ _ => rfl) (sm [] _ _ rfl rfl) (fun j1 n1 v1 h => ?_) (fun v2 s h hs => ?_)
 ·unfold Dk at h
  refine wq rfl (AV rfl (Ab (AL ?_)))
  refine A8 h (fun h => ?_) fun h => ?_
  ·refine Ai (AL (AH (wq rfl (qm rfl (qa rfl (Ab (wq rfl (qw 3 rfl ?_))))))))
   refine BD h fun v4 a4 b4 h => qi Gn LS a4 (Af b4) rfl (qk OL rfl ?_)
   refine BG h fun v5 a5 h => K0 (ds0 := [_]) (ar := (Ls false DL) v4) (.p rfl) rfl rfl ⟨rfl, tv⟩ rfl rfl rfl (Kn (La _ _ Up) a5) ?_
   refine Ab ?_
   refine A8 h (fun h => ?_) fun h => ?_
   ·refine wq rfl (qm rfl (qe rfl ?_))
    obtain rfl := sj h
    refine Ae (sm [] [(4, iD v1)] [] rfl rfl) (Ar ?_)
    exact ⟨⟨[_], tm, rfl⟩, tv⟩
   ·refine Ai (Ah Aw rfl (AW rfl (qm rfl (Ab ?_))))
    exact sn [] h
  ·refine AR ?_
   exact sn [] h
 ·refine Ae hs (wq rfl (qe rfl ?_))
  obtain rfl := sj h
  refine Ae (sm [] [(4, iD ((-1)))] [] rfl rfl) (Ar ?_)
  exact ⟨⟨[_], tm, rfl⟩, tv⟩
theorem Ga (N : Nat) (p0 : List Int) (p1 : Int → Option Bool) (r : Bool) (h : Dh N p0 p1 = some r) : Ao zA 46 [pD (.sl (p0.map DL)), oD (.clo (Hz (Ls false DL) tB p1))] [] (bD r) := by
 unfold Dh at h
 refine cw (n := 9) (rs := [.tmp 4]) Tryz.func46 fun w0 S0 => ?_
 refine wq rfl (qa rfl (Ab (wq rfl (qw 2 rfl ?_))))
 refine BG h fun v1 a1 h => Av [] (GN N p0 p1 v1 a1) bu rfl (EI rfl (qe rfl ?_))
 obtain rfl := sj h
 refine Ae (sm [] [(4, bD ((decide (0 ≤ v1))))] [] rfl rfl) (Ar ?_)
 exact ⟨⟨[_], tm, rfl⟩, tv⟩
theorem LO (N : Nat) (p0 : List Int) (p1 : List (Int × Bool)) (r : (List Int)) (h : Fj N p0 p1 = some r) : Ao zA 51 [pD (.sl (p0.map DL)), pD (.mp (Gb (Value.int .u64) tB p1))] [(1, r.map DL)] (oD (.own 0)) := by
 unfold Fj at h
 refine cw (n := 29) (rs := [.tmp 4]) Tryz.func51 fun w0 S0 => ?_
 refine wq rfl (qa rfl (Ab (wq rfl (qa rfl (Ab (wp rfl (qm rfl (AJ Gn rfl (qm rfl (Ab ?_))))))))))
 refine AC (L := GM N p0 p1) h (fun v1 => mk [(1, pD (.mp (Gb (Value.int .u64) tB p1))), (5, oD (.own 2001)), (8, pD (.sl (p0.map DL))), (9, iD ((p0.length : Int))), (10, iD v1.2)] [(2001, .vec 1 (v1.1.map DL))]) (fun v2 => mk [(5, oD (.own 2002))] [(2002, .vec 1 (v2.map DL))]) (fun _ _ => rfl) ((AT 5 2005 1 rfl rfl rfl).trans (sm [(2001, 2005)] _ _ rfl rfl)) (fun j1 n1 v1 h => ?_) (fun v2 s h hs => ?_)
 ·unfold GM at h
  refine wq rfl (AV rfl (Ab (AL ?_)))
  refine A8 h (fun h => ?_) fun h => ?_
  ·refine Ai ?_
   refine AS h (fun v4 => mk [(1, pD (.mp (Gb (Value.int .u64) tB p1))), (5, oD (.own 2003)), (8, pD (.sl (p0.map DL))), (9, iD ((p0.length : Int))), (10, iD v1.2)] [(2003, .vec 1 (v4.map DL))]) (fun j4 h => ?_) (fun v4 h => ?_)
   ·refine AH (wq rfl ?_)
    refine BD h fun v5 a5 b5 h => qi Gn LS a5 (Af b5) rfl (qk OL rfl (qz SV rfl (qs LS rfl (Ab ?_))))
    refine AS h (fun v6 => mk [(1, pD (.mp (Gb (Value.int .u64) tB p1))), (5, oD (.own 2004)), (7, oD (.rop [.val (.int .u64 v5)])), (8, pD (.sl (p0.map DL))), (9, iD ((p0.length : Int))), (10, iD v1.2), (22, bD v6)] [(2004, .vec 1 (v1.1.map DL))]) (fun j6 h => ?_) (fun v6 h => ?_)
    ·refine Ah Aw rfl (qm rfl (ql OL rfl ?_))
     refine Oa (kv := (Value.int .u64)) (vt := tB) (m := p1) (dv := false) (.p rfl) rfl rfl (Mb OG Vv) (by rw [OG]; rfl) Sn rfl rfl rfl ?_
     refine qm rfl ?_
     refine Eu 17 h rfl (fun h => ?_) fun h => ?_
     ·refine qm rfl (C0 (Ic 7 [.val (.int .u64 v5)] rfl rfl) ?_)
      refine IK (capD := [_]) (Hz (Ls false DL) tB ((fun (x : Int) => FU N x v5))) (.g rfl rfl) dJ rfl ⟨rfl, tv⟩ rfl (fun ar t ht => by obtain ⟨x, r, rfl, hq, rfl⟩ := H6 ht; exact N6 N x v5 r hq) ?_
      refine BG h fun v8 a8 h => Du [] [2001] (Ga N v1.1 ((fun (x : Int) => FU N x v5)) v8 a8) cF B4 rfl (CA rfl (qp rfl (Ab ?_)))
      exact sn [(2004, 2001)] h
     ·refine qw 4 rfl (qp rfl (Ab ?_))
      exact ak _ h ((Ic 7 [.val (.int .u64 v5)] rfl rfl).trans (sm [(2004, 2001)] _ _ rfl rfl))
    ·refine A8 h (fun h => ?_) fun h => ?_
     ·refine Ah Aw rfl (qm rfl (qk OL rfl (Dg Gn LS SV rfl ?_)))
      refine FL h fun c10 h => Ce (f := DL) Gn Gn LS Xt SV c10 rfl (qe rfl ?_)
      exact sn [(2003, 26)] h
     ·refine Ai ?_
      exact sn [(2003, 2004)] h
   ·refine Ah Aw rfl (AW rfl (qm rfl (Ab ?_)))
    exact sn [(2001, 2003)] h
  ·refine AR ?_
   exact sn [(2002, 2001)] h
 ·refine Ae hs (wq rfl (qm rfl (qe rfl ?_)))
  obtain rfl := sj h
  refine Ae (sm [(1000, 2002)] [(4, oD (.own 1000))] [(1000, .vec 1 (v2.map DL))] rfl rfl) (Ar ?_)
  exact ⟨⟨[_], tm, rfl⟩, ⟨rfl, tv⟩⟩
theorem Ng (N : Nat) (p0 : List Int) (r : (List (List Int))) (h : GX N p0 = some r) : Ao zA 48 [pD (.sl (p0.map DL))] [(1, r.map (ED Aj))] (oD (.own 0)) := by
 unfold GX at h
 refine cw (n := 19) (rs := [.tmp 2]) Tryz.func48 fun w0 S0 => ?_
 refine wq rfl (qa rfl (Ab (wq rfl (qa rfl (Ab (wp rfl (qm rfl (AJ Gn rfl (qm rfl (Ab ?_))))))))))
 refine AC (L := Hr N p0) h (fun v1 => mk [(3, oD (.own 2001)), (6, pD (.sl (p0.map DL))), (7, iD ((p0.length : Int))), (8, iD v1.2)] [(2001, .vec 1 (v1.1.map (ED Aj)))]) (fun v2 => mk [(3, oD (.own 2002))] [(2002, .vec 1 (v2.map (ED Aj)))]) (fun _ _ => rfl) ((AT 3 2004 1 rfl rfl rfl).trans (sm [(2001, 2004)] _ _ rfl rfl)) (fun j1 n1 v1 h => ?_) (fun v2 s h hs => ?_)
 ·unfold Hr at h
  refine wq rfl (AV rfl (Ab (AL ?_)))
  refine A8 h (fun h => ?_) fun h => ?_
  ·refine Ai (AL (AH (wq rfl ?_)))
   refine BD h fun v4 a4 b4 h => qi Gn LS a4 (Af b4) rfl (qk OL rfl (qa rfl (Ab (Ah Aw rfl (qw 2 rfl ?_)))))
   refine BG h fun v5 a5 h => Av [2003] (G8 N v4 v5 a5) Wy rfl (C0 (Bb 2003 _ _ rfl rfl) (Dg EB GT SB rfl ?_))
   refine FL h fun c6 h => Ce (f := (ED Aj)) EB EB GT WX SB c6 rfl (qa rfl (Ab (Ah Aw rfl (AW rfl (qm rfl (Ab ?_))))))
   exact sn [(2001, 16)] h
  ·refine AR ?_
   exact sn [(2002, 2001)] h
 ·refine Ae hs (wq rfl (qm rfl (qe rfl ?_)))
  obtain rfl := sj h
  refine Ae (sm [(1000, 2002)] [(2, oD (.own 1000))] [(1000, .vec 1 (v2.map (ED Aj)))] rfl rfl) (Ar ?_)
  exact ⟨⟨[_], tm, rfl⟩, ⟨rfl, tv⟩⟩
theorem M5 (N : Nat) (p0 : Aa) (r : (List (List Int)) × Int) (h : Gt N p0 = some r) : Ao zA 18 [.e (.agg (Ag p0))] [(1, r.1.map (ED Aj))] (.tup [.one (.own 0), .one (iC r.2)]) := by
 unfold Gt at h
 refine cw (n := 20) (rs := [.tmp 2, .tmp 3]) Tryz.func18 fun w0 S0 => ?_
 refine wq rfl (qb rfl (qa rfl (qa rfl (Ab (wq rfl (qL Co BN rfl ?_))))))
 refine BG h fun v1 a1 h => Av [2001] (Ld N p0 v1 a1) ap rfl (qm rfl (qx rfl (qx rfl (qx rfl (qa rfl (qa rfl (qa rfl (Ab (wp rfl (qm rfl (Bo rfl (Ab ?_))))))))))))
 refine A8 h (fun h => ?_) fun h => ?_
 ·refine wq rfl (qm rfl (qa rfl (qe rfl ?_)))
  obtain rfl := sj h
  refine Ae ((AT 2 2002 1 rfl rfl rfl).trans (sm [(1000, 2002)] [(2, oD (.own 1000)), (3, iD v1.2.2)] [(1000, .vec 1 ((([] : List (List Int))).map (ED Aj)))] rfl rfl)) (Ar ?_)
  exact ⟨⟨[_, _], ⟨.tmp _ _ rfl, tm⟩, rfl⟩, ⟨rfl, tv⟩⟩
 ·refine Ai (wq rfl (qw 2 rfl ?_))
  refine BG h fun v3 a3 h => Du [2003] [2001] (LO N v1.1 v1.2.1 v3 a3) du (Hc (fun _ => rfl) B4) rfl (C0 (Bb 2003 _ _ rfl rfl) ?_)
  refine BG h fun v4 a4 h => Av [2004] (Ng N v3 v4 a4) cj rfl (qa rfl (qe rfl ?_))
  obtain rfl := sj h
  refine Ae (sm [(1000, 2004)] [(2, oD (.own 1000)), (3, iD 0)] [(1000, .vec 1 (v4.map (ED Aj)))] rfl rfl) (Ar ?_)
  exact ⟨⟨[_, _], ⟨.tmp _ _ rfl, tm⟩, rfl⟩, ⟨rfl, tv⟩⟩
theorem Kv (N : Nat) (p0 : List Int) (r : (List Int)) (h : DK N p0 = some r) : Ao zA 44 [pD (.sl (p0.map DL))] [(1, r.map DL)] (oD (.own 0)) := by
 unfold DK at h
 refine cw (n := 8) (rs := [.tmp 2]) Tryz.func44 fun w0 S0 => ?_
 refine wq rfl (qa rfl (Ab (wp rfl (qm rfl ?_))))
 refine Ny (.p rfl) rfl Gn ?_
 refine Ab ?_
 refine Nf rfl (fun c2 => ?_) ?_
 ·have c2 := uB.1 c2
  rw [c2] at h
  have h : (some (([] : List Int))) = some r := h
  refine wq rfl (qe rfl ?_)
  obtain rfl := sj h
  refine Ae ((AT 2 2001 1 rfl rfl rfl).trans (sm [(1000, 2001)] [(2, oD (.own 1000))] [(1000, .vec 1 ((([] : List Int)).map DL))] rfl rfl)) (Ar ?_)
  exact ⟨⟨[_], tm, rfl⟩, ⟨rfl, tv⟩⟩
 ·refine Ai (wq rfl (Dg Gn LS SV rfl (qm rfl ?_)))
  refine FL h fun c1 h => Jb (f := DL) Gn Gn LS Xt SV (fun _ => rfl) c1 rfl (qe rfl ?_)
  obtain rfl := sj h
  refine Ae (sm [(1000, 7)] [(2, oD (.own 1000))] [(1000, .vec 1 (((([] : List Int)) ++ p0).map DL))] rfl rfl) (Ar ?_)
  exact ⟨⟨[_], tm, rfl⟩, ⟨rfl, tv⟩⟩
theorem OR (N : Nat) (p0 : Int) (p1 : List (Int × Bool)) (p2 : Int) (r : Bool) (h : Gf N p0 p1 p2 = some r) : Ao zA 47 [pD (.val (.int .u64 p0)), oD (.rop [.mp (Gb (Value.int .u64) tB p1)]), oD (.rop [.val (.int .u64 p2)])] [] (bD r) := by
 unfold Gf at h
 refine cw (n := 20) (rs := [.tmp 4]) Tryz.func47 fun w0 S0 => ?_
 refine wq rfl (qe rfl ?_)
 refine AS h (fun v1 => mk [(4, bD v1)] []) (fun j1 h => ?_) (fun v1 h => ?_)
 ·refine Ah Aw rfl (qk bK rfl (qm rfl ?_))
  refine Oa (kv := (Value.int .u64)) (vt := tB) (m := p1) (dv := false) (.p rfl) rfl rfl (Mb OG Vv) (by rw [OG]; rfl) Sn rfl rfl rfl ?_
  refine CA rfl (qm rfl ?_)
  refine Eu 9 h rfl (fun h => ?_) fun h => ?_
  ·refine qm rfl (qk OL rfl (Bo rfl (qp rfl (qm rfl ?_))))
   refine Eu 14 h rfl (fun h => ?_) fun h => ?_
   ·refine qk OL rfl (qm rfl (Ie rfl (B1 rfl (qp rfl (qe rfl ?_)))))
    exact sn [] h
   ·refine qw 4 rfl (qp rfl (qe rfl ?_))
    exact sn [] h
  ·refine qw 3 rfl (qp rfl (qw 5 rfl (qp rfl (qe rfl ?_))))
   exact sn [] h
 ·obtain rfl := sj h
  refine Ae (sm [] [(4, bD v1)] [] rfl rfl) (Ar ?_)
  exact ⟨⟨[_], tm, rfl⟩, tv⟩
theorem Qc (N : Nat) (p0 : Int) (p1 : List (Int × Bool)) (p2 : List Int) (r : Bool) (h : Fx N p0 p1 p2 = some r) : Ao zA 45 [pD (.val (.int .u64 p0)), oD (.rop [.mp (Gb (Value.int .u64) tB p1)]), oD (.rop [.sl (p2.map DL)])] [] (bD r) := by
 unfold Fx at h
 refine cw (n := 13) (rs := [.tmp 4]) Tryz.func45 fun w0 S0 => ?_
 refine wq rfl (qb rfl (qe rfl ?_))
 refine AS h (fun v1 => mk [(4, bD v1)] []) (fun j1 h => ?_) (fun v1 h => ?_)
 ·refine Ah Aw rfl (qk bK rfl (ql OL rfl ?_))
  refine Oa (kv := (Value.int .u64)) (vt := tB) (m := p1) (dv := false) (.p rfl) rfl rfl (Mb OG Vv) (by rw [OG]; rfl) Sn rfl rfl rfl ?_
  refine qm rfl ?_
  refine Eu 8 h rfl (fun h => ?_) fun h => ?_
  ·refine qw 3 rfl (qp rfl (qe rfl ?_))
   exact sn [] h
  ·refine qk cy rfl (C0 (Ic 3 [.val (.int .u64 p0)] rfl rfl) ?_)
   refine IK (capD := [_, _]) (Hz (Ls false DL) tB ((fun (x : Int) => Gf N x p1 p0))) (.g rfl rfl) d5 rfl ⟨rfl, rfl, tv⟩ rfl (fun ar t ht => by obtain ⟨x, r, rfl, hq, rfl⟩ := H6 ht; exact OR N x p1 p0 r hq) ?_
   refine BG h fun v3 a3 h => Av [] (Ga N p2 ((fun (x : Int) => Gf N x p1 p0)) v3 a3) cF rfl (qp rfl (qe rfl ?_))
   exact sn [] h
 ·obtain rfl := sj h
  refine Ae (sm [] [(4, bD v1)] [] rfl rfl) (Ar ?_)
  exact ⟨⟨[_], tm, rfl⟩, tv⟩
theorem I1 (N : Nat) (p0 : List Int) (p1 : Int → Option Bool) (r : Nat × (List Int)) (h : CU N p0 p1 = some r) : ER zA 43 [oD (.own 90000), oD (.clo (Hz (Ls false DL) tB p1))] [(.vec 1 (p0.map DL), .vec 1 (r.2.map DL))] [] (oD (.view 90000 1 0 r.1)) := by
 unfold CU at h
 refine He (n := 42) (rs := [.tmp 4]) Tryz.func43 rfl rfl rfl (Jo rfl) (Jo rfl) rfl rfl (Jo rfl) rfl (Jo rfl) fun w0 S0 GL => ?_
 refine Ae (sm [] [(0, oD (.own 90000)), (1, oD (.clo (Hz (Ls false DL) tB p1)))] [(90000, .vec 1 (p0.map DL))] rfl rfl) (wq rfl (qa rfl (Ab (wq rfl (qw 2 rfl ?_)))))
 refine BG h fun v1 a1 h => Du [] [90000] (GN N p0 p1 v1 a1) bu B4 rfl (qa rfl (Ab (wp rfl (qm rfl (B1 rfl (Ab ?_))))))
 refine A8 h (fun h => ?_) fun h => ?_
 ·refine wq rfl (qm rfl (qe rfl ?_))
  obtain rfl := sj h
  refine Ae ((U9 DL p0 4 90000 1 rfl rfl).trans (sm [] [(4, oD (.view 90000 1 0 p0.length))] [(90000, .vec 1 (p0.map DL))] rfl rfl)) (Ar ?_)
  exact ⟨⟨[_], tm, rfl⟩, ⟨rfl, tv⟩, tv⟩
 ·refine Ai (wp rfl (qm rfl (AW rfl (qe rfl ?_))))
  refine AC (L := Dd N p1) h (fun v3 => mk [(0, oD (.own 90000)), (1, oD (.clo (Hz (Ls false DL) tB p1))), (5, iD v3.2.1), (6, iD v3.2.2)] [(90000, .vec 1 (v3.1.map DL))]) (fun v4 => mk [(0, oD (.own 90000)), (5, iD v4.2)] [(90000, .vec 1 (v4.1.map DL))]) (fun _ _ => rfl) (sm [] _ _ rfl rfl) (fun j3 n3 v3 h => ?_) (fun v4 s h hs => ?_)
  ·unfold Dd at h
   refine wp rfl (qw 2 rfl (D6 Gn rfl (AV rfl (Ab ?_))))
   refine A8 h (fun h => ?_) fun h => ?_
   ·refine Ai ?_
    refine AS h (fun v6 => mk [(0, oD (.own 90000)), (1, oD (.clo (Hz (Ls false DL) tB p1))), (5, iD v6.2), (6, iD v3.2.2)] [(90000, .vec 1 (v6.1.map DL))]) (fun j6 h => ?_) (fun v6 h => ?_)
    ·refine AH (wq rfl (qw 2 rfl ?_))
     refine BD h fun v7 a7 b7 h => qI Gn LS a7 (Af b7) rfl (qj OL (Af b7) rfl (qa rfl (Ab (wq rfl (qw 2 rfl ?_)))))
     refine BG h fun v8 a8 h => K0 (ds0 := [_]) (ar := (Ls false DL) v7) (.p rfl) rfl rfl ⟨rfl, tv⟩ rfl rfl rfl (Kn (La _ _ Up) a8) ?_
     refine CA rfl (Ab ?_)
     refine A8 h (fun h => ?_) fun h => ?_
     ·refine wq rfl (qw 3 rfl ?_)
      refine BD h fun v10 a10 b10 h => qI Gn LS a10 (Af b10) rfl ?_
      refine DJ rfl rfl rfl rfl (Af b10) rfl LS rfl (Jo rfl) (DB DL v3.1 _ v7) ?_
      refine Ab (Ah Aw rfl (qm rfl (AW rfl (qe rfl ?_))))
      exact sn [] h
     ·refine Ai ?_
      exact sn [] h
    ·refine Ah Aw rfl (qm rfl (AW rfl (qe rfl ?_)))
     exact sn [] h
   ·refine AR ?_
    exact sn [] h
  ·refine Ae hs (wq rfl (qw 2 rfl ?_))
   obtain ⟨c11, h⟩ := HL h
   have w12 : ((v4.2).toNat) + ((v4.1.length - (v4.2).toNat)) ≤ v4.1.length := by have := c11.2.1; have := c11.2.2; omega
   refine KR DL v4.1 (.p rfl) rfl (JL DL _ _ v4.1) rfl Gn LS (.some _ _ _ _ c11.1) (.none _) ⟨rfl, tv⟩ tv c11.2.1 (by rw [zC]; exact c11.2.2) (zC _) rfl ?_
   have w13 : (JC v4.1 ((v4.2).toNat) (zH ((v4.1.length - (v4.2).toNat)) ((0 : Int)))).length = v4.1.length := J0 (by rw [List.length_replicate]; exact w12)
   refine S3 DL v4.1 ((0 : Int)) rfl rfl (N8 DL _ _ ((v4.2).toNat) ((v4.1.length - (v4.2).toNat)) v4.1 w12) rfl Gn SV rfl rfl rfl rfl ?_
   refine Ab (wq rfl (qw 2 rfl ?_))
   obtain ⟨c14, h⟩ := HL h
   have w15 : 0 + ((v4.2).toNat) ≤ (JC v4.1 ((v4.2).toNat) (zH ((v4.1.length - (v4.2).toNat)) ((0 : Int)))).length := by have := c14.2.1; have := c14.2.2; omega
   refine KR DL (JC v4.1 ((v4.2).toNat) (zH ((v4.1.length - (v4.2).toNat)) ((0 : Int)))) (.p rfl) rfl (JL DL _ _ (JC v4.1 ((v4.2).toNat) (zH ((v4.1.length - (v4.2).toNat)) ((0 : Int))))) rfl Gn LS (.none _) (.some _ _ _ _ c14.1) tv ⟨rfl, tv⟩ c14.2.1 (by rw [zC]; exact c14.2.2) (zC _) rfl ?_
   refine qa rfl (Ab ?_)
   obtain rfl := sj h
   refine Ae (sm [] [(4, oD (.view 90000 1 0 ((v4.2).toNat)))] [(90000, .vec 1 ((JC v4.1 ((v4.2).toNat) (zH ((v4.1.length - (v4.2).toNat)) ((0 : Int)))).map DL))] rfl rfl) (Ar ?_)
   exact ⟨⟨[_], tm, rfl⟩, ⟨rfl, tv⟩, tv⟩
theorem TJ (N : Nat) (p0 : Aa) (r : (List (List Int)) × Int) (h : Ik N p0 = some r) : Ao zA 15 [.e (.agg (Ag p0))] [(1, r.1.map (ED Aj))] (.tup [.one (.own 0), .one (iC r.2)]) := by
 unfold Ik at h
 refine cw (n := 23) (rs := [.tmp 2, .tmp 3]) Tryz.func15 fun w0 S0 => ?_
 refine wq rfl (qb rfl (qa rfl (qa rfl (Ab (wq rfl (qL Co BN rfl ?_))))))
 refine BG h fun v1 a1 h => Av [2001] (Ld N p0 v1 a1) ap rfl (qm rfl (qx rfl (qx rfl (qx rfl (qz dR rfl (qz dL rfl (qs eH rfl (qs eC rfl (qa rfl (Ab (wp rfl (qm rfl (Bo rfl (Ab ?_))))))))))))))
 refine A8 h (fun h => ?_) fun h => ?_
 ·refine wq rfl (qm rfl (qa rfl (qe rfl ?_)))
  obtain rfl := sj h
  refine Ae ((AT 2 2002 1 rfl rfl rfl).trans (sm [(1000, 2002)] [(2, oD (.own 1000)), (3, iD v1.2.2)] [(1000, .vec 1 ((([] : List (List Int))).map (ED Aj)))] rfl rfl)) (Ar ?_)
  exact ⟨⟨[_, _], ⟨.tmp _ _ rfl, tm⟩, rfl⟩, ⟨rfl, tv⟩⟩
 ·refine Ai (AL (Ae (Bb 2001 _ _ rfl rfl) (Ah Aw rfl (ql cy rfl ?_))))
  refine BG h fun v3 a3 h => Av [2003] (Kv N v1.1 v3 a3) eE rfl (C0 (Ic 5 [.mp (Gb (Value.int .u64) tB v1.2.1)] rfl rfl) (C0 (Ic 4 [.sl (v1.1.map DL)] rfl rfl) ?_))
  refine IK (capD := [_, _]) (Hz (Ls false DL) tB ((fun (x : Int) => Fx N x v1.2.1 v1.1))) (.p rfl) ez rfl ⟨rfl, rfl, tv⟩ rfl (fun ar t ht => by obtain ⟨x, r, rfl, hq, rfl⟩ := H6 ht; exact Qc N x v1.2.1 v1.1 r hq) ?_
  obtain ⟨v4, a4, h⟩ := bind_some h
  obtain ⟨c5, h⟩ := HL h
  have w6 : 0 + v4.1 ≤ v4.2.length := by rw [zC]; exact c5
  refine Md (ds0 := [_, _]) [2003] [] [true] (I1 N v3 ((fun (x : Int) => Fx N x v1.2.1 v1.1)) v4 a4) (.p rfl) et rfl ⟨rfl, rfl, tv⟩ rfl rfl (by decide) ⟨rfl, tv⟩ rfl (Gw rfl) tv ⟨(fun h => by cases h), tv⟩ rfl rfl rfl ?_
  refine C0 (W3 DL v4.2 20 2003 2004 1 v4.1 rfl rfl rfl rfl rfl c5) (qa rfl (Ab (wq rfl (qm rfl (C0 (Bb 2004 _ _ rfl rfl) ?_)))))
  refine BG h fun v7 a7 h => Av [2005] (Ng N (v4.2.take v4.1) v7 a7) cj rfl (qa rfl (qe rfl ?_))
  obtain rfl := sj h
  refine Ae (sm [(1000, 2005)] [(2, oD (.own 1000)), (3, iD 0)] [(1000, .vec 1 (v7.map (ED Aj)))] rfl rfl) (Ar ?_)
  exact ⟨⟨[_, _], ⟨.tmp _ _ rfl, tm⟩, rfl⟩, ⟨rfl, tv⟩⟩
theorem MY (N : Nat) (p0 : List Int) (p1 : List Int) (r : Bool) (h : Fo N p0 p1 = some r) : Ao zA 50 [pD (.sl (p0.map Aj)), pD (.sl (p1.map Aj))] [] (bD r) := by
 unfold Fo at h
 refine cw (n := 26) (rs := [.tmp 4]) Tryz.func50 fun w0 S0 => ?_
 refine wq rfl (qa rfl (Ab (wp rfl (qm rfl (AJ As rfl (qm rfl (AJ As rfl (Bo rfl (Ab ?_)))))))))
 refine A8 h (fun h => ?_) fun h => ?_
 ·refine wq rfl (qe rfl ?_)
  obtain rfl := sj h
  refine Ae (sm [] [(4, bD false)] [] rfl rfl) (Ar ?_)
  exact ⟨⟨[_], tm, rfl⟩, tv⟩
 ·refine Ai (wp rfl (qe rfl ?_))
  refine AC (L := C6 N p0 p1) h (fun v2 => mk [(0, pD (.sl (p0.map Aj))), (1, pD (.sl (p1.map Aj))), (5, iD v2)] []) (fun v3 => mk [] []) (fun _ _ => rfl) (sm [] _ _ rfl rfl) (fun j2 n2 v2 h => ?_) (fun v3 s h hs => ?_)
  ·unfold C6 at h
   refine wp rfl (qw 2 rfl (AJ As rfl (AV rfl (Ab ?_))))
   refine A8 h (fun h => ?_) fun h => ?_
   ·refine Ai (AL (AH (wq rfl (qw 2 rfl ?_))))
    refine BD h fun v5 a5 b5 h => qi As Cp a5 (Af b5) rfl (qk BY rfl (qw 2 rfl ?_))
    refine BD h fun v6 a6 b6 h => qi As Cp a6 (Af b6) rfl (qk BY rfl (Bo rfl (AM (by kernel_rfl) ?_)))
    refine A8 h (fun h => ?_) fun h => ?_
    ·refine wq rfl (qe rfl ?_)
     obtain rfl := sj h
     refine Ae (sm [] [(4, bD false)] [] rfl rfl) (Ar ?_)
     exact ⟨⟨[_], tm, rfl⟩, tv⟩
    ·refine Ai (Ah Aw rfl (qm rfl (AW rfl (qe rfl ?_))))
     exact sn [] h
   ·refine AR ?_
    exact sn [] h
  ·refine Ae hs (wq rfl (qe rfl ?_))
   obtain rfl := sj h
   refine Ae (sm [] [(4, bD true)] [] rfl rfl) (Ar ?_)
   exact ⟨⟨[_], tm, rfl⟩, tv⟩
theorem Hy (N : Nat) (p0 : List (List Int)) (p1 : List (List Int)) (r : Bool) (h : Cq N p0 p1 = some r) : Ao zA 17 [pD (.sl (p0.map (ED Aj))), pD (.sl (p1.map (ED Aj)))] [] (bD r) := by
 unfold Cq at h
 refine cw (n := 27) (rs := [.tmp 4]) Tryz.func17 fun w0 S0 => ?_
 refine wq rfl (qa rfl (Ab (wp rfl (qm rfl (AJ EB rfl (qm rfl (AJ EB rfl (Bo rfl (Ab ?_)))))))))
 refine A8 h (fun h => ?_) fun h => ?_
 ·refine wq rfl (qe rfl ?_)
  obtain rfl := sj h
  refine Ae (sm [] [(4, bD false)] [] rfl rfl) (Ar ?_)
  exact ⟨⟨[_], tm, rfl⟩, tv⟩
 ·refine Ai (wp rfl (qe rfl ?_))
  refine AC (L := CV N p0 p1) h (fun v2 => mk [(0, pD (.sl (p0.map (ED Aj)))), (1, pD (.sl (p1.map (ED Aj)))), (5, iD v2)] []) (fun v3 => mk [] []) (fun _ _ => rfl) (sm [] _ _ rfl rfl) (fun j2 n2 v2 h => ?_) (fun v3 s h hs => ?_)
  ·unfold CV at h
   refine wp rfl (qw 2 rfl (AJ EB rfl (AV rfl (Ab ?_))))
   refine A8 h (fun h => ?_) fun h => ?_
   ·refine Ai (AL (AH (wq rfl (qw 2 rfl ?_))))
    refine BD h fun v5 a5 b5 h => qi EB GT a5 (Af b5) rfl (qk A0 rfl (qw 2 rfl ?_))
    refine BD h fun v6 a6 b6 h => qi EB GT a6 (Af b6) rfl (qk A0 rfl ?_)
    refine BG h fun v7 a7 h => Av [] (MY N v5 v6 v7 a7) dT rfl (CA rfl (AM (by kernel_rfl) ?_))
    refine A8 h (fun h => ?_) fun h => ?_
    ·refine wq rfl (qe rfl ?_)
     obtain rfl := sj h
     refine Ae (sm [] [(4, bD false)] [] rfl rfl) (Ar ?_)
     exact ⟨⟨[_], tm, rfl⟩, tv⟩
    ·refine Ai (Ah Aw rfl (qm rfl (AW rfl (qe rfl ?_))))
     exact sn [] h
   ·refine AR ?_
    exact sn [] h
  ·refine Ae hs (wq rfl (qe rfl ?_))
   obtain rfl := sj h
   refine Ae (sm [] [(4, bD true)] [] rfl rfl) (Ar ?_)
   exact ⟨⟨[_], tm, rfl⟩, tv⟩
theorem Jm (N : Nat) (r : Bool) (h : E3 N = some r) : Ao zA 11 [] [] (bD r) := by
 unfold E3 at h
 refine cw (n := 63) (rs := [.tmp 0]) Tryz.func11 fun w0 S0 => ?_
 refine wq rfl (qa rfl (Ab (wp rfl (Dg ES Oq Sn rfl ?_))))
 refine WD (.p rfl) rfl (.own _ _ _) ⟨rfl, tv⟩ rfl ES ?_
 refine qm rfl (Ab ?_)
 refine AC (L := Fg N) h (fun v1 => mk [(9, oD (.own 2001)), (10, iD (((([false, true] : List Bool)).length : Int))), (11, iD v1)] [(2001, .vec 1 ((([false, true] : List Bool)).map eB))]) (fun v2 => mk [] []) (fun _ _ => rfl) (sm [(2001, 9)] _ _ rfl rfl) (fun j1 n1 v1 h => ?_) (fun v2 s h hs => ?_)
 ·unfold Fg at h
  refine wq rfl (AV rfl (Ab (AL ?_)))
  refine A8 h (fun h => ?_) fun h => ?_
  ·refine Ai (AL (AH (wq rfl ?_)))
   refine BD h fun v4 a4 b4 h => qI ES Oq a4 (Af b4) rfl (qj Sm (Af b4) rfl (qa rfl (Ab (wq rfl (qm rfl ?_)))))
   refine BG h fun v5 a5 h => Av [2002, 2003, 2004, 2005] (GY N v4 v5 a5) aK rfl (C0 (Bb 2002 _ _ rfl rfl) (C0 (Bb 2003 _ _ rfl rfl) (C0 (Bb 2004 _ _ rfl rfl) (C0 (Bb 2005 _ _ rfl rfl) ?_))))
   refine BG h fun v6 a6 h => Av [2006] (M5 N v5 v6 a6) ad rfl (qm rfl (qx rfl (qx rfl (qa rfl (qa rfl (Ab (wq rfl (qm rfl ?_))))))))
   refine BG h fun v7 a7 h => Av [2007, 2008, 2009, 2010] (GY N v4 v7 a7) aK rfl (C0 (Bb 2007 _ _ rfl rfl) (C0 (Bb 2008 _ _ rfl rfl) (C0 (Bb 2009 _ _ rfl rfl) (C0 (Bb 2010 _ _ rfl rfl) ?_))))
   refine BG h fun v8 a8 h => Av [2011] (TJ N v7 v8 a8) dU rfl (qm rfl (qx rfl (qx rfl (qa rfl (qa rfl (Ab (wq rfl (qm rfl ?_))))))))
   refine BG h fun v9 a9 h => Av [2012, 2013, 2014, 2015] (GY N v4 v9 a9) aK rfl (Dg As Cp IM rfl ?_)
   refine BG h fun v10 a10 h => Du [] [2012, 2013, 2014, 2015, 30] (My N v9 (([0, 2] : List Int)) v10 a10) bm B4 rfl (qm rfl (qx rfl (qx rfl (qa rfl (qe rfl ?_)))))
   refine AS h (fun v11 => mk [(9, oD (.own 2016)), (10, iD (((([false, true] : List Bool)).length : Int))), (11, iD v1), (61, bD v11)] [(2016, .vec 1 ((([false, true] : List Bool)).map eB))]) (fun j11 h => ?_) (fun v11 h => ?_)
   ·refine Ah Aw rfl (qm rfl (Bo rfl (qm rfl ?_)))
    refine Eu 36 h rfl (fun h => ?_) fun h => ?_
    ·refine qw 2 rfl (qp rfl (qw 3 rfl (qp rfl (qw 2 rfl (qp rfl (qw 6 rfl (qp rfl (qw 7 rfl (qp rfl (Ab ?_))))))))))
     exact sn [(2016, 2001)] h
    ·refine qm rfl (Bo rfl (qp rfl (qm rfl ?_)))
     refine Eu 40 h rfl (fun h => ?_) fun h => ?_
     ·refine qw 2 rfl (qp rfl (qw 2 rfl (qp rfl (qw 6 rfl (qp rfl (qw 7 rfl (qp rfl (Ab ?_))))))))
      exact sn [(2016, 2001)] h
     ·refine qm rfl (Bo rfl (qp rfl (qm rfl ?_)))
      refine Eu 44 h rfl (fun h => ?_) fun h => ?_
      ·refine qn rfl (qp rfl (qw 6 rfl (qp rfl (qw 7 rfl (qp rfl (Ab ?_))))))
       exact sn [(2016, 2001)] h
      ·refine qm rfl (qp rfl (qm rfl ?_))
       refine Eu 47 h rfl (fun h => ?_) fun h => ?_
       ·refine qw 5 rfl (qp rfl (qw 7 rfl (qp rfl (Ab ?_))))
        exact sn [(2016, 2001)] h
       ·refine qm rfl (Dg As Cp IM rfl (C0 (Bb 49 _ _ rfl rfl) (Dg EB GT SB rfl ?_)))
        refine BG h fun v16 a16 h => Du [] [2006, 50] (Hy N v6.1 (([([0, 1] : List Int)] : List (List Int))) v16 a16) au B4 rfl (CA rfl (qp rfl (qm rfl ?_)))
        refine Eu 54 h rfl (fun h => ?_) fun h => ?_
        ·refine qw 6 rfl (qp rfl (Ab ?_))
         exact sn [(2016, 2001)] h
        ·refine qm rfl (Dg As Cp IM rfl (Dg As Cp IM rfl (C0 (Bb 56 _ _ rfl rfl) (C0 (Bb 57 _ _ rfl rfl) (Dg EB GT SB rfl ?_)))))
         refine BG h fun v18 a18 h => Du [] [2011, 58] (Hy N v8.1 (([([0, 2] : List Int), ([1, 2] : List Int)] : List (List Int))) v18 a18) au B4 rfl (CA rfl (qp rfl (Ab ?_)))
         exact sn [(2016, 2001)] h
   ·refine A8 h (fun h => ?_) fun h => ?_
    ·refine wq rfl (qe rfl ?_)
     obtain rfl := sj h
     refine Ae (sm [] [(0, bD false)] [] rfl rfl) (Ar ?_)
     exact ⟨⟨[_], tm, rfl⟩, tv⟩
    ·refine Ai (Ah Aw rfl (AW rfl (qm rfl (Ab ?_))))
     exact sn [(2001, 2016)] h
  ·refine AR ?_
   exact sn [] h
 ·refine Ae hs (wq rfl (qe rfl ?_))
  obtain rfl := sj h
  refine Ae (sm [] [(0, bD true)] [] rfl rfl) (Ar ?_)
  exact ⟨⟨[_], tm, rfl⟩, tv⟩
end Go.Lift
