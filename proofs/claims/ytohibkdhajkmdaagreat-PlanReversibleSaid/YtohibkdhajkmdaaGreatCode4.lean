/- Lemmas for PlanReversibleSaid, which YtohibkdhajkmdaaGreatFinP11 proves. -/
import Derived.Test.YtohibkdhajkmdaaGreatCode2
open Go.Proofs.Tryz renaming prog → zA0
namespace Go.Lift
set_option maxRecDepth 10000
open Go.RowKit
open Go.Proofs
theorem Dl (N : Nat) (p0 : Aa) (r : Int) (h : A8 N p0 = some r) : Ao zA0 25 [.e (.agg (Ae p0))] [] (iD r) := by
 unfold A8 at h
 refine cw (n := 102) (rs := [.tmp 2]) Tryz.func25 fun w0 S0 => ?_
 refine wq rfl (qb rfl (qa rfl (Ac (AQ ?_))))
 refine AP h (fun v1 => mk [(1, oD (.ptr 1 0)), (16, bD v1)] [(1, .box (Ae p0))]) (fun j1 h => ?_) (fun v1 h => ?_)
 ·refine Ah AA rfl (qf Bt rfl (ql A2 rfl (AJ Az rfl (Gk rfl (qm rfl ?_)))))
  refine Ew 11 h rfl (fun h => ?_) fun h => ?_
  ·refine qw 4 rfl (qp rfl (Ac ?_))
   exact sn [] h
  ·refine qf Cg rfl (ql GD rfl (AJ DB rfl (Gk rfl (qp rfl (Ac ?_)))))
   exact sn [] h
 ·refine Bc h (fun h => ?_) fun h => ?_
  ·refine wq rfl (qe rfl ?_)
   obtain rfl := sj h
   refine Af (sm [] [(2, iD 3)] [] rfl rfl) (Ap ?_)
   exact ⟨⟨[_], tm, rfl⟩, tv⟩
  ·refine Al (AQ ?_)
   refine AP h (fun v4 => mk [(1, oD (.ptr 1 0)), (32, bD v4)] [(1, .box (Ae p0))]) (fun j4 h => ?_) (fun v4 h => ?_)
   ·refine Ah AA rfl (qf Gj rfl (ql A2 rfl (AJ Az rfl (qf Bt rfl (ql A2 rfl (AJ Az rfl (BH rfl (qm rfl ?_))))))))
    refine Ew 24 h rfl (fun h => ?_) fun h => ?_
    ·refine qw 7 rfl (qp rfl (Ac ?_))
     exact sn [] h
    ·refine qf H5 rfl (ql A2 rfl (AJ Az rfl (qf Bt rfl (ql A2 rfl (AJ Az rfl (BH rfl (qp rfl (Ac ?_))))))))
     exact sn [] h
   ·refine Bc h (fun h => ?_) fun h => ?_
    ·refine wq rfl (qe rfl ?_)
     obtain rfl := sj h
     refine Af (sm [] [(2, iD 6)] [] rfl rfl) (Ap ?_)
     exact ⟨⟨[_], tm, rfl⟩, tv⟩
    ·refine Al (wp rfl (qe rfl ?_))
     refine AI (L := Bg N p0) h (fun v7 => mk [(1, oD (.ptr 1 0)), (3, iD v7)] [(1, .box (Ae p0))]) (fun v8 => mk [(1, oD (.ptr 1 0))] [(1, .box (Ae p0))]) (fun _ _ => rfl) (sm [] _ _ rfl rfl) (fun j7 n7 v7 h => ?_) (fun v8 s h hs => ?_)
     ·unfold Bg at h
      refine wp rfl (qm rfl (qf Bt rfl (ql A2 rfl (AJ Az rfl (A0 rfl (Ac ?_))))))
      refine Bc h (fun h => ?_) fun h => ?_
      ·refine Al (AQ (AM (wq rfl (qf Bt rfl (ql A2 rfl (qm rfl ?_))))))
       refine BV h fun v10 a10 b10 h => qi Az De a10 (Ag b10) rfl (qk Ce rfl (qe rfl ?_))
       refine AP h (fun v11 => mk [(1, oD (.ptr 1 0)), (3, iD v7), (84, bD v11)] [(1, .box (Ae p0))]) (fun j11 h => ?_) (fun v11 h => ?_)
       ·refine Ah AA rfl (qm rfl (A0 rfl (qm rfl ?_)))
        refine Ew 47 h rfl (fun h => ?_) fun h => ?_
        ·refine qw 2 rfl (qp rfl (qw 7 rfl (qp rfl (qw 8 rfl (qp rfl (qw 7 rfl (qp rfl (qw 8 rfl (qp rfl (Ac ?_))))))))))
         exact sn [] h
        ·refine qm rfl (Gk rfl (qp rfl (qm rfl ?_)))
         refine Ew 51 h rfl (fun h => ?_) fun h => ?_
         ·refine qw 6 rfl (qp rfl (qw 8 rfl (qp rfl (qw 7 rfl (qp rfl (qw 8 rfl (qp rfl (Ac ?_))))))))
          exact sn [] h
         ·refine qf Gj rfl (ql A2 rfl (qm rfl ?_))
          refine BV h fun v14 a14 b14 h => qi Az De a14 (Ag b14) rfl (qk Ce rfl (A0 rfl (qp rfl (qm rfl ?_))))
          refine Ew 59 h rfl (fun h => ?_) fun h => ?_
          ·refine qw 7 rfl (qp rfl (qw 7 rfl (qp rfl (qw 8 rfl (qp rfl (Ac ?_))))))
           exact sn [] h
          ·refine qf Gj rfl (ql A2 rfl (qm rfl ?_))
           refine BV h fun v16 a16 b16 h => qi Az De a16 (Ag b16) rfl (qk Ce rfl (qm rfl (EO rfl (qp rfl (qm rfl ?_)))))
           refine Ew 68 h rfl (fun h => ?_) fun h => ?_
           ·refine qw 6 rfl (qp rfl (qw 8 rfl (qp rfl (Ac ?_))))
            exact sn [] h
           ·refine qf H5 rfl (ql A2 rfl (qm rfl ?_))
            refine BV h fun v18 a18 b18 h => qi Az De a18 (Ag b18) rfl (qk Ce rfl (A0 rfl (qp rfl (qm rfl ?_))))
            refine Ew 76 h rfl (fun h => ?_) fun h => ?_
            ·refine qw 7 rfl (qp rfl (Ac ?_))
             exact sn [] h
            ·refine qf H5 rfl (ql A2 rfl (qm rfl ?_))
             refine BV h fun v20 a20 b20 h => qi Az De a20 (Ag b20) rfl (qk Ce rfl (qm rfl (EO rfl (qp rfl (Ac ?_)))))
             exact sn [] h
       ·refine Bc h (fun h => ?_) fun h => ?_
        ·refine wq rfl (qe rfl ?_)
         obtain rfl := sj h
         refine Af (sm [] [(2, iD 7)] [] rfl rfl) (Ap ?_)
         exact ⟨⟨[_], tm, rfl⟩, tv⟩
        ·refine Al (Ah AA rfl (qm rfl (A9 rfl (qe rfl ?_))))
         exact sn [] h
      ·refine AX ?_
       exact sn [] h
     ·refine Af hs (wp rfl (qe rfl ?_))
      refine AI (L := Bb N p0) h (fun v22 => mk [(1, oD (.ptr 1 0)), (5, iD v22)] [(1, .box (Ae p0))]) (fun v23 => mk [] []) (fun _ _ => rfl) (sm [] _ _ rfl rfl) (fun j22 n22 v22 h => ?_) (fun v23 s h hs => ?_)
      ·unfold Bb at h
       refine wp rfl (qm rfl (qf Cg rfl (ql GD rfl (AJ DB rfl (A0 rfl (Ac ?_))))))
       refine Bc h (fun h => ?_) fun h => ?_
       ·refine Al (AQ (AM (wq rfl (qL Cz BS rfl (qf Cg rfl (ql GD rfl (qm rfl ?_)))))))
        refine BV h fun v25 a25 b25 h => qi DB DN a25 (Ag b25) rfl (qK Hp DN rfl ?_)
        refine B4 h fun v26 a26 h => Ax [] (LA N p0 v25 v26 a26) aO rfl (qa rfl (AO (by kernel_rfl) (wq rfl (qm rfl (BH rfl (Ac ?_))))))
        refine Bc h (fun h => ?_) fun h => ?_
        ·refine wq rfl (qm rfl (qe rfl ?_))
         obtain rfl := sj h
         refine Af (sm [] [(2, iD v26)] [] rfl rfl) (Ap ?_)
         exact ⟨⟨[_], tm, rfl⟩, tv⟩
        ·refine Al (Ah AA rfl (qm rfl (A9 rfl (qe rfl ?_))))
         exact sn [] h
       ·refine AX ?_
        exact sn [] h
      ·refine Af hs (wq rfl (qe rfl ?_))
       obtain rfl := sj h
       refine Af (sm [] [(2, iD 0)] [] rfl rfl) (Ap ?_)
       exact ⟨⟨[_], tm, rfl⟩, tv⟩
theorem GK (N : Nat) (p0 : Aa) (r : Ab × Int) (h : Di N p0 = some r) : Ao zA0 27 [.e (.agg (Ae p0))] [(1, r.1.fc.map An), (1, r.1.fa.map An), (1, r.1.fd.map C3)] (.tup [.agg [.own 0, .own 1, .own 2], .one (iC r.2)]) := by
 unfold Di at h
 refine cw (n := 68) (rs := [.cell 2 43, .tmp 3]) Tryz.func27 fun w0 S0 => ?_
 refine wq rfl (qb rfl (qz CH rfl (qa rfl (Ac (wp rfl (qL Cz BS rfl ?_))))))
 refine B4 h fun v1 a1 h => Ax [] (Dl N p0 v1 a1) UO rfl (qa rfl (Ac (wq rfl (qm rfl (BH rfl (Ac ?_))))))
 refine Bc h (fun h => ?_) fun h => ?_
 ·refine wq rfl (AU CH GB rfl (qm rfl (qs AK rfl (qe rfl ?_))))
  obtain rfl := sj h
  refine Af ((Aw 2 0 2001 1 _ rfl rfl rfl rfl).trans ((Aw 2 1 2002 1 _ rfl rfl rfl rfl).trans ((Aw 2 2 2003 1 _ rfl rfl rfl rfl).trans (sm [(1000, 2001), (1001, 2002), (1002, 2003)] [(2, oD (.ptr 2 0)), (3, iD v1)] [(2, .box [.own 1000, .own 1001, .own 1002]), (1000, .vec 1 ((([] : List Int)).map An)), (1001, .vec 1 ((([] : List Int)).map An)), (1002, .vec 1 ((([] : List Int)).map C3))] rfl rfl)))) (Ap ?_)
  exact ⟨⟨[_, _], ⟨.cellN _ _ _ _ _ _ _ rfl rfl A5 AK rfl rfl (Gn rfl), tm⟩, rfl⟩, ⟨rfl, rfl, rfl, tv⟩⟩
 ·refine Al (wq rfl (qz CH rfl (Ac (wp rfl (qe rfl ?_)))))
  refine AI (L := Ca N p0) h (fun v3 => mk [(1, oD (.ptr 1 0)), (2, oD (.ptr 2 0)), (5, oD (.ptr 5 0)), (6, iD v3.2.2)] [(1, .box (Ae p0)), (2, .box [.pure (.nil0), .pure (.nil0), .pure (.nil0)]), (5, .box [.own 2004, .own 2005, .pure (.nil0)]), (2004, .vec 1 (v3.1.map An)), (2005, .vec 1 (v3.2.1.map An))]) (fun v4 => mk [(1, oD (.ptr 1 0)), (2, oD (.ptr 2 0)), (5, oD (.ptr 5 0))] [(1, .box (Ae p0)), (2, .box [.pure (.nil0), .pure (.nil0), .pure (.nil0)]), (5, .box [.own 2006, .own 2007, .pure (.nil0)]), (2006, .vec 1 (v4.1.map An)), (2007, .vec 1 (v4.2.map An))]) (fun _ _ => rfl) ((Aw 5 0 2008 1 _ rfl rfl rfl rfl).trans ((Aw 5 1 2009 1 _ rfl rfl rfl rfl).trans (sm [(2004, 2008), (2005, 2009)] _ _ rfl rfl))) (fun j3 n3 v3 h => ?_) (fun v4 s h hs => ?_)
  ·unfold Ca at h
   refine wp rfl (qm rfl (qf Bt rfl (ql A2 rfl (AJ Az rfl (A0 rfl (Ac ?_))))))
   refine Bc h (fun h => ?_) fun h => ?_
   ·refine Al (AQ (AM (wq rfl (qf CC rfl (ql A2 rfl (qf Gj rfl (ql A2 rfl (qm rfl ?_))))))))
    refine BV h fun v6 a6 b6 h => qi Az De a6 (Ag b6) rfl (qk Ce rfl (Em Az De Kh rfl ?_))
    refine Gl h fun c7 h => DQ (f := An) Az Az De KO Kh c7 rfl (qf CC rfl (qs TI rfl (AO (by kernel_rfl) (Ah AA rfl (qf Bs rfl (ql A2 rfl (Em Az De Kh rfl ?_)))))))
    refine Gl h fun c8 h => DQ (f := An) Az Az De KO Kh c8 rfl (qf Bs rfl (qs TI rfl (Ac (Ah AA rfl (qm rfl (A9 rfl (qe rfl ?_)))))))
    exact sn [(2004, 30), (2005, 35)] h
   ·refine AX ?_
    exact sn [(2006, 2004), (2007, 2005)] h
  ·refine Af hs (wp rfl (qe rfl ?_))
   refine AI (L := Bf N p0) h (fun v9 => mk [(1, oD (.ptr 1 0)), (2, oD (.ptr 2 0)), (5, oD (.ptr 5 0)), (7, iD v9.2)] [(1, .box (Ae p0)), (2, .box [.pure (.nil0), .pure (.nil0), .pure (.nil0)]), (5, .box [.own 2010, .own 2011, .own 2012]), (2010, .vec 1 (v4.1.map An)), (2011, .vec 1 (v4.2.map An)), (2012, .vec 1 (v9.1.map C3))]) (fun v10 => mk [(2, oD (.ptr 2 0)), (5, oD (.ptr 5 0))] [(2, .box [.pure (.nil0), .pure (.nil0), .pure (.nil0)]), (5, .box [.own 2013, .own 2014, .own 2015]), (2013, .vec 1 (v4.1.map An)), (2014, .vec 1 (v4.2.map An)), (2015, .vec 1 (v10.map C3))]) (fun _ _ => rfl) ((Aw 5 2 2019 1 _ rfl rfl rfl rfl).trans (sm [(2010, 2006), (2011, 2007), (2012, 2019)] _ _ rfl rfl)) (fun j9 n9 v9 h => ?_) (fun v10 s h hs => ?_)
   ·unfold Bf at h
    refine wp rfl (qm rfl (qf Cg rfl (ql GD rfl (AJ DB rfl (A0 rfl (Ac ?_))))))
    refine Bc h (fun h => ?_) fun h => ?_
    ·refine Al (AQ (AM (wq rfl (qe rfl ?_))))
     refine AP h (fun v12 => mk [(1, oD (.ptr 1 0)), (2, oD (.ptr 2 0)), (5, oD (.ptr 5 0)), (7, iD v9.2), (8, pD (.val (.int .u8 v12)))] [(1, .box (Ae p0)), (2, .box [.pure (.nil0), .pure (.nil0), .pure (.nil0)]), (5, .box [.own 2016, .own 2017, .own 2018]), (2016, .vec 1 (v4.1.map An)), (2017, .vec 1 (v4.2.map An)), (2018, .vec 1 (v9.1.map C3))]) (fun j12 h => ?_) (fun v12 h => ?_)
     ·refine wq rfl (qf Cg rfl (ql GD rfl (qm rfl ?_)))
      refine BV h fun v13 a13 b13 h => qi DB DN a13 (Ag b13) rfl (qK Hp DN rfl ?_)
      refine B4 h fun v14 a14 h => Ax [] (Cl N v13 v14 a14) Qf rfl (Ac ?_)
      refine Bc h (fun h => ?_) fun h => ?_
      ·refine Ah AA rfl (qf Gj rfl (ql A2 rfl (qf Cg rfl (ql GD rfl (qm rfl ?_)))))
       refine BV h fun v16 a16 b16 h => qi DB DN a16 (Ag b16) rfl (qg Dd rfl (qk Ce rfl ?_))
       refine BV h fun v17 a17 b17 h => qi Az De a17 (Ag b17) rfl (qk Ce rfl ?_)
       refine Gl h fun c18 h => Jl rfl c18 (qa rfl (AO (by kernel_rfl) ?_))
       exact sn [(2016, 2010), (2017, 2011), (2018, 2012)] h
      ·refine Al ?_
       exact sn [(2016, 2010), (2017, 2011), (2018, 2012)] h
     ·refine Ah AA rfl (qf CG rfl (ql G4 rfl (qm rfl (Em Dj F3 QV rfl ?_))))
      refine Gl h fun c19 h => DQ (f := C3) Dj Dj F3 Rw QV c19 rfl (qf CG rfl (qs aW rfl (Ac (Ah AA rfl (qm rfl (A9 rfl (qe rfl ?_)))))))
      exact sn [(2010, 2016), (2011, 2017), (2012, 65)] h
    ·refine AX ?_
     exact sn [(2013, 2010), (2014, 2011), (2015, 2012)] h
   ·refine Af hs (wq rfl (qL A5 AK rfl (qs AK rfl (qe rfl ?_))))
    obtain rfl := sj h
    refine Af (sm [(1000, 2013), (1001, 2014), (1002, 2015)] [(2, oD (.ptr 2 0)), (3, iD 0)] [(2, .box [.own 1000, .own 1001, .own 1002]), (1000, .vec 1 (v4.1.map An)), (1001, .vec 1 (v4.2.map An)), (1002, .vec 1 (v10.map C3))] rfl rfl) (Ap ?_)
    exact ⟨⟨[_, _], ⟨.cellN _ _ _ _ _ _ _ rfl rfl A5 AK rfl rfl (Gn rfl), tm⟩, rfl⟩, ⟨rfl, rfl, rfl, tv⟩⟩
theorem KU (N : Nat) (p0 : Ab) (r : Ab) (h : El N p0 = some r) : Ao zA0 88 [.e (.agg (Ay p0))] [(1, r.fc.map An), (1, r.fa.map An), (1, r.fd.map C3)] (.e (.agg [.own 0, .own 1, .own 2])) := by
 unfold El at h
 refine cw (n := 16) (rs := [.cell 2 43]) Tryz.func88 fun w0 S0 => ?_
 refine wq rfl (qb rfl (qz CH rfl (Ac (wq rfl (Em Az De Kh rfl (qf CC rfl (ql A2 rfl ?_)))))))
 refine Gl h fun c1 h => Iq (f := An) Az Az De KO Kh (fun _ => rfl) c1 rfl (Em Az De Kh rfl (qf Bs rfl (ql A2 rfl ?_)))
 refine Gl h fun c2 h => Iq (f := An) Az Az De KO Kh (fun _ => rfl) c2 rfl (Em Dj F3 QV rfl (qf CG rfl (ql G4 rfl ?_)))
 refine Gl h fun c3 h => Iq (f := C3) Dj Dj F3 Rw QV (fun _ => rfl) c3 rfl (AU CH GB rfl (qs AK rfl (AO (by kernel_rfl) ?_)))
 obtain rfl := sj h
 refine Af (sm [(1000, 6), (1001, 10), (1002, 14)] [(2, oD (.ptr 2 0))] [(2, .box [.own 1000, .own 1001, .own 1002]), (1000, .vec 1 (((([] : List Int)) ++ p0.fc).map An)), (1001, .vec 1 (((([] : List Int)) ++ p0.fa).map An)), (1002, .vec 1 (((([] : List Int)) ++ p0.fd).map C3))] rfl rfl) (Ap ?_)
 exact ⟨⟨[_], ⟨.cellN _ _ _ _ _ _ _ rfl rfl A5 AK rfl rfl (Gn rfl), tv⟩, rfl⟩, ⟨rfl, rfl, rfl, tv⟩⟩
theorem Jn (N : Nat) (p0 : Ab) (r : (List Ab)) (h : DO N p0 = some r) : Ao zA0 66 [.e (.agg (Ay p0))] [(3, r.map CI)] (oD (.own 0)) := by
 unfold DO at h
 refine cw (n := 62) (rs := [.tmp 2]) Tryz.func66 fun w0 S0 => ?_
 refine wq rfl (qb rfl (qa rfl (Ac (wq rfl (qa rfl (Ac (wp rfl (qe rfl ?_))))))))
 refine AI (L := CE N p0) h (fun v1 => mk [(1, oD (.ptr 1 0)), (3, iD v1.1), (4, iD v1.2)] [(1, .box (Ay p0))]) (fun v2 => mk [(1, oD (.ptr 1 0)), (3, iD v2)] [(1, .box (Ay p0))]) (fun _ _ => rfl) (sm [] _ _ rfl rfl) (fun j1 n1 v1 h => ?_) (fun v2 s h hs => ?_)
 ·unfold CE at h
  refine wp rfl (qm rfl (qf Bs rfl (ql A2 rfl (AJ Az rfl (A0 rfl (Ac ?_))))))
  refine Bc h (fun h => ?_) fun h => ?_
  ·refine Al ?_
   refine AP h (fun v4 => mk [(1, oD (.ptr 1 0)), (3, iD v4), (4, iD v1.2)] [(1, .box (Ay p0))]) (fun j4 h => ?_) (fun v4 h => ?_)
   ·refine AM (wq rfl (qf Bs rfl (ql A2 rfl (qm rfl ?_))))
    refine BV h fun v5 a5 b5 h => qi Az De a5 (Ag b5) rfl (qk Ce rfl (EO rfl (Ac ?_)))
    refine Bc h (fun h => ?_) fun h => ?_
    ·refine Ah AA rfl (qm rfl (A9 rfl (qe rfl ?_)))
     exact sn [] h
    ·refine Al ?_
     exact sn [] h
   ·refine Ah AA rfl (qm rfl (A9 rfl (qe rfl ?_)))
    exact sn [] h
  ·refine AX ?_
   exact sn [] h
 ·refine Af hs (wq rfl (qa rfl (Ac (wp rfl (qe rfl ?_)))))
  refine AI (L := By N p0 v2) h (fun v7 => mk [(1, oD (.ptr 1 0)), (3, iD v2), (5, oD (.own 2001)), (6, iD v7.2)] [(1, .box (Ay p0)), (2001, .vec 3 (v7.1.map CI))]) (fun v8 => mk [(5, oD (.own 2002))] [(2002, .vec 3 (v8.map CI))]) (fun _ _ => rfl) ((BP 5 2022 3 rfl rfl rfl).trans (sm [(2001, 2022)] _ _ rfl rfl)) (fun j7 n7 v7 h => ?_) (fun v8 s h hs => ?_)
  ·unfold By at h
   refine wp rfl (qw 2 rfl ?_)
   refine Gl h fun c9 h => Jl rfl c9 (A0 rfl (Ac ?_))
   refine Bc h (fun h => ?_) fun h => ?_
   ·refine Al (AQ (AM (wq rfl (qL A5 AK rfl ?_))))
    refine B4 h fun v11 a11 h => Ax [2003, 2004, 2005] (KU N p0 v11 a11) aG rfl (qz CH rfl (qs AK rfl (Ac (wq rfl (qa rfl (Ac (wp rfl (qe rfl ?_))))))))
    refine AI (L := BW N p0 v7) h (fun v12 => mk [(1, oD (.ptr 1 0)), (3, iD v2), (5, oD (.own 2009)), (6, iD v7.2), (7, oD (.ptr 7 0)), (8, iD v12.2.1), (9, iD v12.2.2)] [(1, .box (Ay p0)), (7, .box [.own 2006, .own 2007, .own 2008]), (2006, .vec 1 (v11.fc.map An)), (2007, .vec 1 (v12.1.map An)), (2008, .vec 1 (v11.fd.map C3)), (2009, .vec 3 (v7.1.map CI))]) (fun v13 => mk [(1, oD (.ptr 1 0)), (3, iD v2), (5, oD (.own 2013)), (6, iD v7.2), (7, oD (.ptr 7 0))] [(1, .box (Ay p0)), (7, .box [.own 2010, .own 2011, .own 2012]), (2010, .vec 1 (v11.fc.map An)), (2011, .vec 1 (v13.map An)), (2012, .vec 1 (v11.fd.map C3)), (2013, .vec 3 (v7.1.map CI))]) (fun _ _ => rfl) (sm [(2006, 2003), (2007, 2004), (2008, 2005), (2009, 2001)] _ _ rfl rfl) (fun j12 n12 v12 h => ?_) (fun v13 s h hs => ?_)
    ·unfold BW at h
     refine wp rfl (qm rfl (qf Bs rfl (ql A2 rfl (AJ Az rfl (A0 rfl (Ac ?_))))))
     refine Bc h (fun h => ?_) fun h => ?_
     ·refine Al ?_
      refine AP h (fun v15 => mk [(1, oD (.ptr 1 0)), (3, iD v2), (5, oD (.own 2017)), (6, iD v7.2), (7, oD (.ptr 7 0)), (8, iD v15.2), (9, iD v12.2.2)] [(1, .box (Ay p0)), (7, .box [.own 2014, .own 2015, .own 2016]), (2014, .vec 1 (v11.fc.map An)), (2015, .vec 1 (v15.1.map An)), (2016, .vec 1 (v11.fd.map C3)), (2017, .vec 3 (v7.1.map CI))]) (fun j15 h => ?_) (fun v15 h => ?_)
      ·refine AM (wp rfl (qf Bs rfl (ql A2 rfl (qm rfl ?_))))
       refine BV h fun v16 a16 b16 h => qi Az De a16 (Ag b16) rfl (qk Ce rfl (A0 rfl (Ac ?_)))
       refine Bc h (fun h => ?_) fun h => ?_
       ·refine AX ?_
        exact sn [(2014, 2006), (2015, 2007), (2016, 2008), (2017, 2009)] h
       ·refine Al ?_
        refine AP h (fun v18 => mk [(1, oD (.ptr 1 0)), (3, iD v2), (5, oD (.own 2021)), (6, iD v7.2), (7, oD (.ptr 7 0)), (8, iD v12.2.1), (9, iD v12.2.2)] [(1, .box (Ay p0)), (7, .box [.own 2018, .own 2019, .own 2020]), (2018, .vec 1 (v11.fc.map An)), (2019, .vec 1 (v18.map An)), (2020, .vec 1 (v11.fd.map C3)), (2021, .vec 3 (v7.1.map CI))]) (fun j18 h => ?_) (fun v18 h => ?_)
        ·refine wq rfl (qw 2 rfl ?_)
         refine Gl h fun c19 h => JJ rfl c19 (MY rfl (by decide) (BZ rfl (Ac ?_)))
         refine Bc h (fun h => ?_) fun h => ?_
         ·refine Ah AA rfl (qf Bs rfl (ql A2 rfl (qm rfl ?_)))
          refine BV h fun v21 a21 b21 h => qI Az De a21 (Ag b21) rfl ?_
          refine DV rfl rfl rfl rfl (Ag b21) rfl De rfl (HO rfl) (DK An v12.1 _ ((-1))) ?_
          refine Ac ?_
          exact sn [(2018, 2006), (2019, 2007), (2020, 2008), (2021, 2009)] h
         ·refine Al ?_
          exact sn [(2018, 2006), (2019, 2007), (2020, 2008), (2021, 2009)] h
        ·refine Ah AA rfl (qm rfl (A9 rfl (qe rfl ?_)))
         exact sn [(2014, 2018), (2015, 2019), (2016, 2020), (2017, 2021)] h
      ·refine Ah AA rfl (qm rfl (A9 rfl (qe rfl ?_)))
       exact sn [(2006, 2014), (2007, 2015), (2008, 2016), (2009, 2017)] h
     ·refine AX ?_
      exact sn [(2010, 2006), (2011, 2007), (2012, 2008), (2013, 2009)] h
    ·refine Af hs (Ah AA rfl (qm rfl (qL A5 AK rfl (C2 (AY 2010 _ _ rfl rfl) (C2 (AY 2011 _ _ rfl rfl) (C2 (AY 2012 _ _ rfl rfl) (Em Hi AK CH rfl ?_)))))))
     refine Gl h fun c22 h => DQ (f := CI) Hi Hi AK Vp CH c22 rfl (qa rfl (Ac (Ah AA rfl (qm rfl (A9 rfl (qe rfl ?_))))))
     exact sn [(2001, 60)] h
   ·refine AX ?_
    exact sn [(2002, 2001)] h
  ·refine Af hs (wq rfl (qm rfl (qe rfl ?_)))
   obtain rfl := sj h
   refine Af (sm [(1000, 2002)] [(2, oD (.own 1000))] [(1000, .vec 3 (v8.map CI))] rfl rfl) (Ap ?_)
   exact ⟨⟨[_], tm, rfl⟩, ⟨rfl, tv⟩⟩
theorem Eo (N : Nat) (p0 : Ab) (p1 : Int) (r : Int) (h : BT N p0 p1 = some r) : Ao zA0 59 [.e (.agg (Ay p0)), iD p1] [] (pD (.val (.int .u8 r))) := by
 unfold BT at h
 refine cw (n := 27) (rs := [.tmp 4]) Tryz.func59 fun w0 S0 => ?_
 refine wq rfl (qb rfl (qa rfl (Ac (wq rfl (qf CC rfl (ql A2 rfl (qm rfl ?_)))))))
 refine BV h fun v1 a1 b1 h => qi Az De a1 (Ag b1) rfl (qk Ce rfl ?_)
 refine Gl h fun c2 h => Jl rfl c2 (qe rfl ?_)
 refine AP h (fun v3 => mk [(5, pD (.val (.int .u8 v3)))] []) (fun j3 h => ?_) (fun v3 h => ?_)
 ·refine wq rfl (qf Bs rfl (ql A2 rfl (qm rfl ?_)))
  refine BV h fun v4 a4 b4 h => qi Az De a4 (Ag b4) rfl (qk Ce rfl (EO rfl (Ac ?_)))
  refine Bc h (fun h => ?_) fun h => ?_
  ·refine Ah AA rfl (qm rfl (qf Bs rfl (ql A2 rfl (qm rfl ?_))))
   refine BV h fun v6 a6 b6 h => qi Az De a6 (Ag b6) rfl (qk Ce rfl ?_)
   refine Gl h fun c7 h => Jl rfl c7 (Va rfl (qe rfl ?_))
   exact sn [] h
  ·refine Al ?_
   exact sn [] h
 ·refine wq rfl (qm rfl (qe rfl ?_))
  obtain rfl := sj h
  refine Af (sm [] [(4, pD (.val (.int .u8 v3)))] [] rfl rfl) (Ap ?_)
  exact ⟨⟨[_], tm, rfl⟩, tv⟩
theorem Gg (N : Nat) (p0 : Int) (p1 : Int) (r : Bool) (h : CA N p0 p1 = some r) : Ao zA0 60 [pD (.val (.int .u8 p0)), iD p1] [] (bD r) := by
 unfold CA at h
 refine cw (n := 10) (rs := [.tmp 4]) Tryz.func60 fun w0 S0 => ?_
 refine wq rfl (qa rfl (Ac (wq rfl (qw 2 rfl ?_))))
 refine Gl h fun c1 h => JJ rfl c1 (NT rfl (BZ rfl (qe rfl ?_)))
 obtain rfl := sj h
 refine Af (sm [] [(4, bD (((GE .u8 ((FQ .u8 p0 p1)) 1) == 1)))] [] rfl rfl) (Ap ?_)
 exact ⟨⟨[_], tm, rfl⟩, tv⟩
theorem Iz (N : Nat) (p0 : Aa) (p1 : Ab) (r : (List Ai)) (h : DY N p0 p1 = some r) : Ao zA0 89 [.e (.agg (Ae p0)), .e (.agg (Ay p1))] [(3, r.map AZ)] (oD (.own 0)) := by
 unfold DY at h
 refine cw (n := 111) (rs := [.tmp 4]) Tryz.func89 fun w0 S0 => ?_
 refine wq rfl (qb rfl (qb rfl (qa rfl (Ac (wq rfl (qa rfl (Ac (wp rfl (qe rfl ?_)))))))))
 refine AI (L := CJ N p0 p1) h (fun v1 => mk [(2, oD (.ptr 2 0)), (3, oD (.ptr 3 0)), (5, oD (.own 2001)), (6, iD v1.2)] [(2, .box (Ae p0)), (3, .box (Ay p1)), (2001, .vec 3 (v1.1.map AZ))]) (fun v2 => mk [(5, oD (.own 2002))] [(2002, .vec 3 (v2.map AZ))]) (fun _ _ => rfl) ((BP 5 2013 3 rfl rfl rfl).trans (sm [(2001, 2013)] _ _ rfl rfl)) (fun j1 n1 v1 h => ?_) (fun v2 s h hs => ?_)
 ·unfold CJ at h
  refine wp rfl (qm rfl (qf Cg rfl (ql GD rfl (AJ DB rfl (A0 rfl (Ac ?_))))))
  refine Bc h (fun h => ?_) fun h => ?_
  ·refine Al (AQ (AM (wq rfl (qf Cg rfl (ql GD rfl (qm rfl ?_))))))
   refine BV h fun v4 a4 b4 h => qi DB DN a4 (Ag b4) rfl (qK Hp DN rfl (qz JK rfl (qs DN rfl (Ac (wq rfl (qL A5 AK rfl (qf Dd rfl (ql Ce rfl ?_))))))))
   refine B4 h fun v5 a5 h => Ax [] (Eo N p1 v4.fg v5 a5) UL rfl (qe rfl ?_)
   refine AP h (fun v6 => mk [(2, oD (.ptr 2 0)), (3, oD (.ptr 3 0)), (5, oD (.own 2003)), (6, iD v1.2), (7, oD (.ptr 7 0)), (8, pD (.val (.int .u8 v6)))] [(2, .box (Ae p0)), (3, .box (Ay p1)), (7, .box (Bj v4)), (2003, .vec 3 (v1.1.map AZ))]) (fun j6 h => ?_) (fun v6 h => ?_)
   ·refine wq rfl (qL Hp DN rfl ?_)
    refine B4 h fun v7 a7 h => Ax [] (Cl N v4 v7 a7) Qf rfl (Ac ?_)
    refine Bc h (fun h => ?_) fun h => ?_
    ·refine Ah AA rfl (qf CG rfl (ql G4 rfl (qm rfl ?_)))
     refine BV h fun v9 a9 b9 h => qi Dj F3 a9 (Ag b9) rfl (qk Kj rfl (qe rfl ?_))
     exact sn [(2003, 2001)] h
    ·refine Al ?_
     exact sn [(2003, 2001)] h
   ·refine wq rfl (qe rfl ?_)
    refine AI (L := BE N p0 p1 v1 v4 v6) h (fun v10 => mk [(2, oD (.ptr 2 0)), (3, oD (.ptr 3 0)), (5, oD (.own 2004)), (6, iD v1.2), (7, oD (.ptr 7 0)), (8, pD (.val (.int .u8 v6))), (9, iD v10.2)] [(2, .box (Ae p0)), (3, .box (Ay p1)), (7, .box (Bj v4)), (2004, .vec 3 (v10.1.map AZ))]) (fun v11 => mk [(2, oD (.ptr 2 0)), (3, oD (.ptr 3 0)), (5, oD (.own 2005)), (6, iD v1.2)] [(2, .box (Ae p0)), (3, .box (Ay p1)), (2005, .vec 3 (v11.map AZ))]) (fun _ _ => rfl) (sm [(2004, 2003)] _ _ rfl rfl) (fun j10 n10 v10 h => ?_) (fun v11 s h hs => ?_)
    ·unfold BE at h
     refine wp rfl (qm rfl (qf Bt rfl (ql A2 rfl (qf Dd rfl (ql Ce rfl ?_)))))
     refine BV h fun v12 a12 b12 h => qi Az De a12 (Ag b12) rfl (qk Ce rfl (A0 rfl (Ac ?_)))
     refine Bc h (fun h => ?_) fun h => ?_
     ·refine Al ?_
      refine AP h (fun v14 => mk [(2, oD (.ptr 2 0)), (3, oD (.ptr 3 0)), (5, oD (.own 2006)), (6, iD v1.2), (7, oD (.ptr 7 0)), (8, pD (.val (.int .u8 v6))), (9, iD v10.2)] [(2, .box (Ae p0)), (3, .box (Ay p1)), (7, .box (Bj v4)), (2006, .vec 3 (v14.map AZ))]) (fun j14 h => ?_) (fun v14 h => ?_)
      ·refine AM (wp rfl (qw 2 rfl ?_))
       refine B4 h fun v15 a15 h => Ax [] (Gg N v6 v10.2 v15 a15) WG rfl (CD rfl (Ac ?_))
       refine Bc h (fun h => ?_) fun h => ?_
       ·refine AX ?_
        exact sn [(2006, 2004)] h
       ·refine Al (wq rfl (qa rfl (Ac (wp rfl (qe rfl ?_)))))
        refine AI (L := Bn N p0 p1 v1 v4 v10) h (fun v17 => mk [(2, oD (.ptr 2 0)), (3, oD (.ptr 3 0)), (5, oD (.own 2007)), (6, iD v1.2), (7, oD (.ptr 7 0)), (8, pD (.val (.int .u8 v6))), (9, iD v10.2), (10, bD v17.2.1), (11, iD v17.2.2)] [(2, .box (Ae p0)), (3, .box (Ay p1)), (7, .box (Bj v4)), (2007, .vec 3 (v17.1.map AZ))]) (fun v18 => mk [(2, oD (.ptr 2 0)), (3, oD (.ptr 3 0)), (5, oD (.own 2008)), (6, iD v1.2), (7, oD (.ptr 7 0)), (8, pD (.val (.int .u8 v6))), (9, iD v10.2), (10, bD v18.2)] [(2, .box (Ae p0)), (3, .box (Ay p1)), (7, .box (Bj v4)), (2008, .vec 3 (v18.1.map AZ))]) (fun _ _ => rfl) (sm [(2007, 2004)] _ _ rfl rfl) (fun j17 n17 v17 h => ?_) (fun v18 s h hs => ?_)
        ·unfold Bn at h
         refine wp rfl (qm rfl (qf Bt rfl (ql A2 rfl (qf H3 rfl (ql Ce rfl ?_)))))
         refine BV h fun v19 a19 b19 h => qi Az De a19 (Ag b19) rfl (qk Ce rfl (A0 rfl (Ac ?_)))
         refine Bc h (fun h => ?_) fun h => ?_
         ·refine Al ?_
          refine AP h (fun v21 => mk [(2, oD (.ptr 2 0)), (3, oD (.ptr 3 0)), (5, oD (.own 2009)), (6, iD v1.2), (7, oD (.ptr 7 0)), (8, pD (.val (.int .u8 v6))), (9, iD v10.2), (10, bD v21.2), (11, iD v17.2.2)] [(2, .box (Ae p0)), (3, .box (Ay p1)), (7, .box (Bj v4)), (2009, .vec 3 (v21.1.map AZ))]) (fun j21 h => ?_) (fun v21 h => ?_)
          ·refine AM (wp rfl (qL A5 AK rfl (qf H3 rfl (ql Ce rfl ?_))))
           refine B4 h fun v22 a22 h => Ax [] (Eo N p1 v4.fo v22 a22) UL rfl (qm rfl ?_)
           refine B4 h fun v23 a23 h => Ax [] (Gg N v22 v17.2.2 v23 a23) WG rfl (CD rfl (Ac ?_))
           refine Bc h (fun h => ?_) fun h => ?_
           ·refine AX ?_
            exact sn [(2009, 2007)] h
           ·refine Al ?_
            refine AP h (fun v25 => mk [(2, oD (.ptr 2 0)), (3, oD (.ptr 3 0)), (5, oD (.own 2010)), (6, iD v1.2), (7, oD (.ptr 7 0)), (8, pD (.val (.int .u8 v6))), (9, iD v10.2), (10, bD v25), (11, iD v17.2.2)] [(2, .box (Ae p0)), (3, .box (Ay p1)), (7, .box (Bj v4)), (2010, .vec 3 (v17.1.map AZ))]) (fun j25 h => ?_) (fun v25 h => ?_)
            ·refine Ah AA rfl (qw 2 rfl ?_)
             refine Ew 67 h rfl (fun h => ?_) fun h => ?_
             ·refine qw 8 rfl (qp rfl (qe rfl ?_))
              exact sn [(2010, 2007)] h
             ·refine qf Jq rfl (ql Kc rfl (qm rfl ?_))
              refine BV h fun v27 a27 b27 h => qi FO Lq a27 (Ag b27) rfl (qk L6 rfl (qm rfl ?_))
              refine BV h fun v28 a28 b28 h => qi Fa Nb a28 (Ag b28) rfl (qk QW rfl (qp rfl (qe rfl ?_)))
              exact sn [(2010, 2007)] h
            ·refine AP h (fun v29 => mk [(2, oD (.ptr 2 0)), (3, oD (.ptr 3 0)), (5, oD (.own 2011)), (6, iD v1.2), (7, oD (.ptr 7 0)), (8, pD (.val (.int .u8 v6))), (9, iD v10.2), (10, bD v25), (11, iD v17.2.2), (90, bD v29)] [(2, .box (Ae p0)), (3, .box (Ay p1)), (7, .box (Bj v4)), (2011, .vec 3 (v17.1.map AZ))]) (fun j29 h => ?_) (fun v29 h => ?_)
             ·refine Ah AA rfl (qf IG rfl (ql QW rfl (CD rfl (qm rfl ?_))))
              refine Ew 80 h rfl (fun h => ?_) fun h => ?_
              ·refine qf Jq rfl (ql Kc rfl (qm rfl ?_))
               refine BV h fun v31 a31 b31 h => qi FO Lq a31 (Ag b31) rfl (qk L6 rfl (qm rfl ?_))
               refine BV h fun v32 a32 b32 h => qi Fa Nb a32 (Ag b32) rfl (qk QW rfl (CD rfl (qp rfl (Ac ?_))))
               exact sn [(2011, 2010)] h
              ·refine qw 9 rfl (qp rfl (Ac ?_))
               exact sn [(2011, 2010)] h
             ·refine Bc h (fun h => ?_) fun h => ?_
              ·refine Ah AA rfl (qw 4 rfl (AU Gm KV rfl (Em Gq Eg Gm rfl ?_)))
               refine Gl h fun c34 h => DQ (f := AZ) Gq Gq Eg TB Gm c34 rfl (qe rfl ?_)
               exact sn [(2009, 97)] h
              ·refine Al ?_
               exact sn [(2009, 2011)] h
          ·refine Ah AA rfl (qm rfl (A9 rfl (qe rfl ?_)))
           exact sn [(2007, 2009)] h
         ·refine AX ?_
          exact sn [(2008, 2007)] h
        ·refine Af hs ?_
         refine AP h (fun v35 => mk [(2, oD (.ptr 2 0)), (3, oD (.ptr 3 0)), (5, oD (.own 2012)), (6, iD v1.2), (7, oD (.ptr 7 0)), (8, pD (.val (.int .u8 v6))), (9, iD v10.2), (103, bD v35)] [(2, .box (Ae p0)), (3, .box (Ay p1)), (7, .box (Bj v4)), (2012, .vec 3 (v18.1.map AZ))]) (fun j35 h => ?_) (fun v35 h => ?_)
         ·refine Ah AA rfl (qf IG rfl (ql QW rfl (qm rfl ?_)))
          refine Ew 100 h rfl (fun h => ?_) fun h => ?_
          ·refine qm rfl (CD rfl (qp rfl (Ac ?_)))
           exact sn [(2012, 2008)] h
          ·refine qw 2 rfl (qp rfl (Ac ?_))
           exact sn [(2012, 2008)] h
         ·refine Bc h (fun h => ?_) fun h => ?_
          ·refine Ah AA rfl (qw 3 rfl (AU Gm KV rfl (Em Gq Eg Gm rfl ?_)))
           refine Gl h fun c38 h => DQ (f := AZ) Gq Gq Eg TB Gm c38 rfl (qe rfl ?_)
           exact sn [(2006, 109)] h
          ·refine Al ?_
           exact sn [(2006, 2012)] h
      ·refine Ah AA rfl (qm rfl (A9 rfl (qe rfl ?_)))
       exact sn [(2004, 2006)] h
     ·refine AX ?_
      exact sn [(2005, 2004)] h
    ·refine Af hs (Ah AA rfl (qm rfl (A9 rfl (qe rfl ?_))))
     exact sn [(2001, 2005)] h
  ·refine AX ?_
   exact sn [(2002, 2001)] h
 ·refine Af hs (wq rfl (qm rfl (qe rfl ?_)))
  obtain rfl := sj h
  refine Af (sm [(1000, 2002)] [(4, oD (.own 1000))] [(1000, .vec 3 (v2.map AZ))] rfl rfl) (Ap ?_)
  exact ⟨⟨[_], tm, rfl⟩, ⟨rfl, tv⟩⟩
theorem K7 (N : Nat) (p0 : Aa) (p1 : Ab) (r : Bool) (h : Ep N p0 p1 = some r) : Ao zA0 67 [.e (.agg (Ae p0)), .e (.agg (Ay p1))] [] (bD r) := by
 unfold Ep at h
 refine cw (n := 10) (rs := [.tmp 4]) Tryz.func67 fun w0 S0 => ?_
 refine wq rfl (qb rfl (qb rfl (qa rfl (Ac (wq rfl (qL Cz BS rfl (qL A5 AK rfl ?_)))))))
 refine B4 h fun v1 a1 h => Ax [2001] (Iz N p0 p1 v1 a1) Y5 rfl (F0 Gq rfl (BZ rfl (qe rfl ?_)))
 obtain rfl := sj h
 refine Af (sm [] [(4, bD (((v1.length : Int) == 0)))] [] rfl rfl) (Ap ?_)
 exact ⟨⟨[_], tm, rfl⟩, tv⟩
theorem Ht (N : Nat) (p0 : Aa) (p1 : Ab) (r : Bool) (h : Dc N p0 p1 = some r) : Ao zA0 38 [.e (.agg (Ae p0)), .e (.agg (Ay p1))] [] (bD r) := by
 unfold Dc at h
 refine cw (n := 22) (rs := [.tmp 4]) Tryz.func38 fun w0 S0 => ?_
 refine wq rfl (qb rfl (qb rfl (qa rfl (Ac (wq rfl (qL A5 AK rfl ?_))))))
 refine B4 h fun v1 a1 h => Ax [2001] (Jn N p1 v1 a1) Ze rfl (qa rfl (Ac (wp rfl (qe rfl ?_))))
 refine AI (L := B7 N p0 v1) h (fun v2 => mk [(2, oD (.ptr 2 0)), (5, oD (.own 2002)), (6, iD v2)] [(2, .box (Ae p0)), (2002, .vec 3 (v1.map CI))]) (fun v3 => mk [] []) (fun _ _ => rfl) (sm [(2002, 2001)] _ _ rfl rfl) (fun j2 n2 v2 h => ?_) (fun v3 s h hs => ?_)
 ·unfold B7 at h
  refine wp rfl (qw 2 rfl (F0 Hi rfl (A0 rfl (Ac ?_))))
  refine Bc h (fun h => ?_) fun h => ?_
  ·refine Al (AQ (AM (wq rfl (qL Cz BS rfl (qw 2 rfl ?_)))))
   refine BV h fun v5 a5 b5 h => qI Hi AK a5 (Ag b5) rfl (qJ A5 AK (Ag b5) rfl ?_)
   refine B4 h fun v6 a6 h => Ax [] (K7 N p0 v5 v6 a6) az rfl (CD rfl (AO (by kernel_rfl) ?_))
   refine Bc h (fun h => ?_) fun h => ?_
   ·refine wq rfl (qe rfl ?_)
    obtain rfl := sj h
    refine Af (sm [] [(4, bD false)] [] rfl rfl) (Ap ?_)
    exact ⟨⟨[_], tm, rfl⟩, tv⟩
   ·refine Al (Ah AA rfl (qm rfl (A9 rfl (qe rfl ?_))))
    exact sn [] h
  ·refine AX ?_
   exact sn [] h
 ·refine Af hs (wq rfl (qe rfl ?_))
  obtain rfl := sj h
  refine Af (sm [] [(4, bD true)] [] rfl rfl) (Ap ?_)
  exact ⟨⟨[_], tm, rfl⟩, tv⟩
theorem GQ (N : Nat) (p0 : Aa) (p1 : Ab) (r : Int) (h : Dg N p0 p1 = some r) : Ao zA0 86 [.e (.agg (Ae p0)), .e (.agg (Ay p1))] [] (iD r) := by
 unfold Dg at h
 refine cw (n := 154) (rs := [.tmp 4]) Tryz.func86 fun w0 S0 => ?_
 refine wq rfl (qb rfl (qb rfl (qa rfl (Ac (wp rfl (qL Cz BS rfl ?_))))))
 refine B4 h fun v1 a1 h => Ax [] (Dl N p0 v1 a1) UO rfl (qa rfl (Ac (wq rfl (qm rfl (BH rfl (Ac ?_))))))
 refine Bc h (fun h => ?_) fun h => ?_
 ·refine wq rfl (qm rfl (qe rfl ?_))
  obtain rfl := sj h
  refine Af (sm [] [(4, iD v1)] [] rfl rfl) (Ap ?_)
  exact ⟨⟨[_], tm, rfl⟩, tv⟩
 ·refine Al (wq rfl (qf Bt rfl (ql A2 rfl (AJ Az rfl (qa rfl (Ac (AQ ?_)))))))
  refine AP h (fun v3 => mk [(2, oD (.ptr 2 0)), (3, oD (.ptr 3 0)), (6, iD ((p0.fb.length : Int))), (39, bD v3)] [(2, .box (Ae p0)), (3, .box (Ay p1))]) (fun j3 h => ?_) (fun v3 h => ?_)
  ·refine Ah AA rfl (qf CC rfl (ql A2 rfl (AJ Az rfl (qm rfl (BH rfl (qm rfl ?_))))))
   refine Ew 24 h rfl (fun h => ?_) fun h => ?_
   ·refine qw 5 rfl (qp rfl (qw 8 rfl (qp rfl (Ac ?_))))
    exact sn [] h
   ·refine qf Bs rfl (ql A2 rfl (AJ Az rfl (qm rfl (BH rfl (qp rfl (qm rfl ?_))))))
    refine Ew 31 h rfl (fun h => ?_) fun h => ?_
    ·refine qw 7 rfl (qp rfl (Ac ?_))
     exact sn [] h
    ·refine qf CG rfl (ql G4 rfl (AJ Dj rfl (qf Cg rfl (ql GD rfl (AJ DB rfl (BH rfl (qp rfl (Ac ?_))))))))
     exact sn [] h
  ·refine Bc h (fun h => ?_) fun h => ?_
   ·refine wq rfl (qe rfl ?_)
    obtain rfl := sj h
    refine Af (sm [] [(4, iD 6)] [] rfl rfl) (Ap ?_)
    exact ⟨⟨[_], tm, rfl⟩, tv⟩
   ·refine Al (wp rfl (qe rfl ?_))
    refine AI (L := B9 N p0 p1) h (fun v7 => mk [(2, oD (.ptr 2 0)), (3, oD (.ptr 3 0)), (6, iD ((p0.fb.length : Int))), (7, iD v7)] [(2, .box (Ae p0)), (3, .box (Ay p1))]) (fun v8 => mk [(2, oD (.ptr 2 0)), (3, oD (.ptr 3 0))] [(2, .box (Ae p0)), (3, .box (Ay p1))]) (fun _ _ => rfl) (sm [] _ _ rfl rfl) (fun j7 n7 v7 h => ?_) (fun v8 s h hs => ?_)
    ·unfold B9 at h
     refine wp rfl (qw 2 rfl (A0 rfl (Ac ?_)))
     refine Bc h (fun h => ?_) fun h => ?_
     ·refine Al (AQ (AM (AQ ?_)))
      refine AP h (fun v10 => mk [(2, oD (.ptr 2 0)), (3, oD (.ptr 3 0)), (6, iD ((p0.fb.length : Int))), (7, iD v7), (84, bD v10)] [(2, .box (Ae p0)), (3, .box (Ay p1))]) (fun j10 h => ?_) (fun v10 h => ?_)
      ·refine Ah AA rfl (qf CC rfl (ql A2 rfl (qm rfl ?_)))
       refine BV h fun v11 a11 b11 h => qi Az De a11 (Ag b11) rfl (qk Ce rfl (A0 rfl (qm rfl ?_)))
       refine Ew 51 h rfl (fun h => ?_) fun h => ?_
       ·refine qw 11 rfl (qp rfl (qw 7 rfl (qp rfl (qw 12 rfl (qp rfl (AO (by kernel_rfl) ?_))))))
        exact sn [] h
       ·refine qf CC rfl (ql A2 rfl (qm rfl ?_))
        refine BV h fun v13 a13 b13 h => qi Az De a13 (Ag b13) rfl (qk Ce rfl (qf Bt rfl (ql A2 rfl (qm rfl ?_))))
        refine BV h fun v14 a14 b14 h => qi Az De a14 (Ag b14) rfl (qk Ce rfl (EO rfl (qp rfl (qm rfl ?_))))
        refine Ew 64 h rfl (fun h => ?_) fun h => ?_
        ·refine qw 6 rfl (qp rfl (qw 12 rfl (qp rfl (AO (by kernel_rfl) ?_))))
         exact sn [] h
        ·refine qf Bs rfl (ql A2 rfl (qm rfl ?_))
         refine BV h fun v16 a16 b16 h => qi Az De a16 (Ag b16) rfl (qk Ce rfl (A0 rfl (qp rfl (qm rfl ?_))))
         refine Ew 72 h rfl (fun h => ?_) fun h => ?_
         ·refine qw 11 rfl (qp rfl (AO (by kernel_rfl) ?_))
          exact sn [] h
         ·refine qf Bs rfl (ql A2 rfl (qm rfl ?_))
          refine BV h fun v18 a18 b18 h => qi Az De a18 (Ag b18) rfl (qk Ce rfl (qf Bt rfl (ql A2 rfl (qm rfl ?_))))
          refine BV h fun v19 a19 b19 h => qi Az De a19 (Ag b19) rfl (qk Ce rfl (EO rfl (qp rfl (AO (by kernel_rfl) ?_))))
          exact sn [] h
      ·refine Bc h (fun h => ?_) fun h => ?_
       ·refine wq rfl (qe rfl ?_)
        obtain rfl := sj h
        refine Af (sm [] [(4, iD 7)] [] rfl rfl) (Ap ?_)
        exact ⟨⟨[_], tm, rfl⟩, tv⟩
       ·refine Al (wq rfl (qf CC rfl (ql A2 rfl (qm rfl ?_))))
        refine BV h fun v21 a21 b21 h => qi Az De a21 (Ag b21) rfl (qk Ce rfl (qf Bs rfl (ql A2 rfl (qm rfl ?_))))
        refine BV h fun v22 a22 b22 h => qi Az De a22 (Ag b22) rfl (qk Ce rfl (BZ rfl (AO (by kernel_rfl) ?_)))
        refine Bc h (fun h => ?_) fun h => ?_
        ·refine wq rfl (qe rfl ?_)
         obtain rfl := sj h
         refine Af (sm [] [(4, iD 1)] [] rfl rfl) (Ap ?_)
         exact ⟨⟨[_], tm, rfl⟩, tv⟩
        ·refine Al (Ah AA rfl (qm rfl (A9 rfl (qe rfl ?_))))
         exact sn [] h
     ·refine AX ?_
      exact sn [] h
    ·refine Af hs (wp rfl (qe rfl ?_))
     refine AI (L := B1 N p0 p1) h (fun v24 => mk [(2, oD (.ptr 2 0)), (3, oD (.ptr 3 0)), (8, iD v24)] [(2, .box (Ae p0)), (3, .box (Ay p1))]) (fun v25 => mk [] []) (fun _ _ => rfl) (sm [] _ _ rfl rfl) (fun j24 n24 v24 h => ?_) (fun v25 s h hs => ?_)
     ·unfold B1 at h
      refine wp rfl (qm rfl (qf Cg rfl (ql GD rfl (AJ DB rfl (A0 rfl (Ac ?_))))))
      refine Bc h (fun h => ?_) fun h => ?_
      ·refine Al (AQ (AM (wq rfl (qf Cg rfl (ql GD rfl (qm rfl ?_))))))
       refine BV h fun v27 a27 b27 h => qi DB DN a27 (Ag b27) rfl (qK Hp DN rfl (qz JK rfl (qs DN rfl (Ac (wq rfl (qf Bt rfl (ql A2 rfl (qf Dd rfl (ql Ce rfl ?_)))))))))
       refine BV h fun v28 a28 b28 h => qi Az De a28 (Ag b28) rfl (qk Ce rfl ?_)
       refine Gl h fun c29 h => Jl rfl c29 (QX rfl (qe rfl ?_))
       refine AP h (fun v30 => mk [(2, oD (.ptr 2 0)), (3, oD (.ptr 3 0)), (8, iD v24), (153, bD v30)] [(2, .box (Ae p0)), (3, .box (Ay p1))]) (fun j30 h => ?_) (fun v30 h => ?_)
       ·refine Ah AA rfl (qL Hp DN rfl ?_)
        refine B4 h fun v31 a31 h => Ax [] (Cl N v27 v31 a31) Qf rfl (CD rfl (qm rfl ?_))
        refine Ew 119 h rfl (fun h => ?_) fun h => ?_
        ·refine qf CG rfl (ql G4 rfl (qm rfl ?_))
         refine BV h fun v33 a33 b33 h => qi Dj F3 a33 (Ag b33) rfl (qk Kj rfl (BH rfl (qp rfl (qm rfl ?_))))
         refine Ew 127 h rfl (fun h => ?_) fun h => ?_
         ·refine qw 3 rfl (qu rfl (qu rfl (qu rfl (qu rfl (qu rfl (qu rfl (qu rfl (qu rfl (qu rfl (qu rfl (qu rfl (qu rfl (qu rfl (qu rfl (qu rfl (qu rfl (qu rfl (qu rfl (qu rfl (qu rfl (qu rfl (qn rfl (qp rfl (AO (by kernel_rfl) ?_))))))))))))))))))))))))
          exact sn [] h
         ·refine qL Hp DN rfl ?_
          refine B4 h fun v35 a35 h => Ax [] (Cl N v27 v35 a35) Qf rfl (qm rfl ?_)
          refine Ew 130 h rfl (fun h => ?_) fun h => ?_
          ·refine qf CG rfl (ql G4 rfl (qm rfl ?_))
           refine BV h fun v37 a37 b37 h => qi Dj F3 a37 (Ag b37) rfl (qk Kj rfl (qm rfl (I1 rfl (BH rfl (qm rfl ?_)))))
           refine Ew 139 h rfl (fun h => ?_) fun h => ?_
           ·refine qw 11 rfl (qp rfl (qp rfl (qp rfl (AO (by kernel_rfl) ?_))))
            exact sn [] h
           ·refine qL A5 AK rfl (qf Dd rfl (ql Ce rfl ?_))
            refine B4 h fun v39 a39 h => Ax [] (Eo N p1 v27.fg v39 a39) UL rfl (qf CG rfl (ql G4 rfl (qm rfl ?_)))
            refine BV h fun v40 a40 b40 h => qi Dj F3 a40 (Ag b40) rfl (qk Kj rfl (I1 rfl (BH rfl (qp rfl (qp rfl (qp rfl (AO (by kernel_rfl) ?_)))))))
            exact sn [] h
          ·refine qw 9 rfl (qu rfl (qu rfl (qu rfl (qu rfl (qu rfl (qu rfl (qu rfl (qu rfl (qu rfl (qu rfl (qu rfl (qn rfl (qp rfl (qp rfl (AO (by kernel_rfl) ?_)))))))))))))))
           exact sn [] h
        ·refine qw 6 rfl (qp rfl (qm rfl (qL Hp DN rfl ?_)))
         refine B4 h fun v41 a41 h => Ax [] (Cl N v27 v41 a41) Qf rfl (qm rfl ?_)
         refine Ew 130 h rfl (fun h => ?_) fun h => ?_
         ·refine qf CG rfl (ql G4 rfl (qm rfl ?_))
          refine BV h fun v43 a43 b43 h => qi Dj F3 a43 (Ag b43) rfl (qk Kj rfl (qm rfl (I1 rfl (BH rfl (qm rfl ?_)))))
          refine Ew 139 h rfl (fun h => ?_) fun h => ?_
          ·refine qw 11 rfl (qp rfl (qp rfl (qp rfl (AO (by kernel_rfl) ?_))))
           exact sn [] h
          ·refine qL A5 AK rfl (qf Dd rfl (ql Ce rfl ?_))
           refine B4 h fun v45 a45 h => Ax [] (Eo N p1 v27.fg v45 a45) UL rfl (qf CG rfl (ql G4 rfl (qm rfl ?_)))
           refine BV h fun v46 a46 b46 h => qi Dj F3 a46 (Ag b46) rfl (qk Kj rfl (I1 rfl (BH rfl (qp rfl (qp rfl (qp rfl (AO (by kernel_rfl) ?_)))))))
           exact sn [] h
         ·refine qw 9 rfl (qu rfl (qu rfl (qu rfl (qu rfl (qu rfl (qu rfl (qu rfl (qu rfl (qu rfl (qu rfl (qu rfl (qn rfl (qp rfl (qp rfl (AO (by kernel_rfl) ?_)))))))))))))))
          exact sn [] h
       ·refine Bc h (fun h => ?_) fun h => ?_
        ·refine wq rfl (qe rfl ?_)
         obtain rfl := sj h
         refine Af (sm [] [(4, iD 1)] [] rfl rfl) (Ap ?_)
         exact ⟨⟨[_], tm, rfl⟩, tv⟩
        ·refine Al (Ah AA rfl (qm rfl (A9 rfl (qe rfl ?_))))
         exact sn [] h
      ·refine AX ?_
       exact sn [] h
     ·refine Af hs (wq rfl (qe rfl ?_))
      obtain rfl := sj h
      refine Af (sm [] [(4, iD 0)] [] rfl rfl) (Ap ?_)
      exact ⟨⟨[_], tm, rfl⟩, tv⟩
theorem Lw (N : Nat) (p0 : Ad) (r : Bool) (h : EC N p0 = some r) : Ao zA0 99 [.e (.agg (Dk p0))] [] (bD r) := by
 unfold EC at h
 refine cw (n := 31) (rs := [.tmp 2]) Tryz.func99 fun w0 S0 => ?_
 refine wq rfl (qb rfl (qe rfl ?_))
 refine AP h (fun v1 => mk [(2, bD v1)] []) (fun j1 h => ?_) (fun v1 h => ?_)
 ·refine Ah AA rfl (qf Fq rfl (ql Ce rfl (EO rfl (qm rfl ?_))))
  refine Ew 6 h rfl (fun h => ?_) fun h => ?_
  ·refine qf Fq rfl (ql Ce rfl (Vo rfl (qp rfl (qm rfl ?_))))
   refine Ew 11 h rfl (fun h => ?_) fun h => ?_
   ·refine qf Fe rfl (ql Ce rfl (EO rfl (qp rfl (qm rfl ?_))))
    refine Ew 16 h rfl (fun h => ?_) fun h => ?_
    ·refine qf Ha rfl (ql Ce rfl (EO rfl (qp rfl (qm rfl ?_))))
     refine Ew 21 h rfl (fun h => ?_) fun h => ?_
     ·refine qf Fq rfl (ql Ce rfl (BZ rfl (qm rfl ?_)))
      refine Ew 25 h rfl (fun h => ?_) fun h => ?_
      ·refine qw 3 rfl (qp rfl (qp rfl (qe rfl ?_)))
       exact sn [] h
      ·refine qf Ha rfl (ql Ce rfl (BZ rfl (qp rfl (qp rfl (qe rfl ?_)))))
       exact sn [] h
     ·refine qw 4 rfl (qu rfl (qu rfl (qu rfl (qn rfl (qp rfl (qe rfl ?_))))))
      exact sn [] h
    ·refine qw 3 rfl (qp rfl (qw 5 rfl (qu rfl (qu rfl (qu rfl (qn rfl (qp rfl (qe rfl ?_))))))))
     exact sn [] h
   ·refine qw 3 rfl (qp rfl (qw 4 rfl (qp rfl (qw 5 rfl (qu rfl (qu rfl (qu rfl (qn rfl (qp rfl (qe rfl ?_))))))))))
    exact sn [] h
  ·refine qw 3 rfl (qp rfl (qw 4 rfl (qp rfl (qw 4 rfl (qp rfl (qw 5 rfl (qu rfl (qu rfl (qu rfl (qn rfl (qp rfl (qe rfl ?_))))))))))))
   exact sn [] h
 ·obtain rfl := sj h
  refine Af (sm [] [(2, bD v1)] [] rfl rfl) (Ap ?_)
  exact ⟨⟨[_], tm, rfl⟩, tv⟩
theorem GM (N : Nat) (p0 : Aa) (p1 : Ab) (p2 : Ad) (r : Ab × Bool) (h : Cv N p0 p1 p2 = some r) : Ao zA0 30 [.e (.agg (Ae p0)), .e (.agg (Ay p1)), .e (.agg (Dk p2))] [(1, r.1.fc.map An), (1, r.1.fa.map An), (1, r.1.fd.map C3)] (.tup [.agg [.own 0, .own 1, .own 2], .one (.pure (.val (.bool r.2)))]) := by
 unfold Cv at h
 refine cw (n := 201) (rs := [.cell 6 43, .tmp 7]) Tryz.func30 fun w0 S0 => ?_
 refine wq rfl (qb rfl (qb rfl (qb rfl (qz CH rfl (qa rfl (Ac (wq rfl (Em Az De Kh rfl (qf CC rfl (ql A2 rfl ?_))))))))))
 refine Gl h fun c1 h => Iq (f := An) Az Az De KO Kh (fun _ => rfl) c1 rfl (Em Az De Kh rfl (qf Bs rfl (ql A2 rfl ?_)))
 refine Gl h fun c2 h => Iq (f := An) Az Az De KO Kh (fun _ => rfl) c2 rfl (Em Dj F3 QV rfl (qf CG rfl (ql G4 rfl ?_)))
 refine Gl h fun c3 h => Iq (f := C3) Dj Dj F3 Rw QV (fun _ => rfl) c3 rfl (AU CH GB rfl (qz CH rfl (qs AK rfl (AO (by kernel_rfl) (wq rfl (qf Fe rfl (ql Ce rfl (qe rfl ?_))))))))
 refine AP h (fun v4 => mk [(6, oD (.ptr 6 0)), (8, oD (.ptr 8 0))] [(6, .box [.pure (.nil0), .pure (.nil0), .pure (.nil0)]), (8, .box [.own 2001, .own 2002, .own 2003]), (2001, .vec 1 (v4.1.map An)), (2002, .vec 1 (v4.2.1.map An)), (2003, .vec 1 (v4.2.2.map C3))]) (fun j4 h => ?_) (fun v4 h => ?_)
 ·refine wq rfl (qf Fq rfl (ql Ce rfl (Ac (AM (wq rfl (BZ rfl (qe rfl ?_)))))))
  refine Bc h (fun h => ?_) fun h => ?_
  ·refine AQ ?_
   refine AP h (fun v6 => mk [(3, oD (.ptr 3 0)), (5, oD (.ptr 5 0)), (6, oD (.ptr 6 0)), (8, oD (.ptr 8 0)), (9, iD p2.fi), (60, bD v6)] [(3, .box (Ae p0)), (5, .box (Dk p2)), (6, .box [.pure (.nil0), .pure (.nil0), .pure (.nil0)]), (8, .box [.own 2004, .own 2005, .own 2006]), (2004, .vec 1 (((([] : List Int)) ++ p1.fc).map An)), (2005, .vec 1 (((([] : List Int)) ++ p1.fa).map An)), (2006, .vec 1 (((([] : List Int)) ++ p1.fd).map C3))]) (fun j6 h => ?_) (fun v6 h => ?_)
   ·refine Ah AA rfl (qf Bs rfl (ql A2 rfl (qm rfl ?_)))
    refine BV h fun v7 a7 b7 h => qi Az De a7 (Ag b7) rfl (qk Ce rfl (EO rfl (qm rfl ?_)))
    refine Ew 51 h rfl (fun h => ?_) fun h => ?_
    ·refine qw 8 rfl (qp rfl (AO (by kernel_rfl) ?_))
     exact sn [(2004, 18), (2005, 22), (2006, 26)] h
    ·refine qf Ha rfl (ql Ce rfl (qf CC rfl (ql A2 rfl (qm rfl ?_))))
     refine BV h fun v9 a9 b9 h => qi Az De a9 (Ag b9) rfl (qk Ce rfl (BZ rfl (qp rfl (AO (by kernel_rfl) ?_))))
     exact sn [(2004, 18), (2005, 22), (2006, 26)] h
   ·refine Bc h (fun h => ?_) fun h => ?_
    ·refine wq rfl (AU CH GB rfl (qs AK rfl (qe rfl ?_)))
     obtain rfl := sj h
     refine Af ((Aw 6 0 2007 1 _ rfl rfl rfl rfl).trans ((Aw 6 1 2008 1 _ rfl rfl rfl rfl).trans ((Aw 6 2 2009 1 _ rfl rfl rfl rfl).trans (sm [(1000, 2007), (1001, 2008), (1002, 2009)] [(6, oD (.ptr 6 0)), (7, bD false)] [(6, .box [.own 1000, .own 1001, .own 1002]), (1000, .vec 1 ((([] : List Int)).map An)), (1001, .vec 1 ((([] : List Int)).map An)), (1002, .vec 1 ((([] : List Int)).map C3))] rfl rfl)))) (Ap ?_)
     exact ⟨⟨[_, _], ⟨.cellN _ _ _ _ _ _ _ rfl rfl A5 AK rfl rfl (Gn rfl), tm⟩, rfl⟩, ⟨rfl, rfl, rfl, tv⟩⟩
    ·refine Al (wq rfl (qf Bs rfl (ql A2 rfl (qm rfl (qf Ha rfl (ql Ce rfl ?_))))))
     refine BV h fun v11 a11 b11 h => qI Az De a11 (Ag b11) rfl ?_
     refine DV rfl rfl rfl rfl (Ag b11) rfl De rfl (HO rfl) (DK An ((([] : List Int)) ++ p1.fa) _ p2.fk) ?_
     refine Ac (wq rfl (qe rfl ?_))
     refine AI (L := BY N p0 p2) h (fun v12 => mk [(3, oD (.ptr 3 0)), (5, oD (.ptr 5 0)), (6, oD (.ptr 6 0)), (8, oD (.ptr 8 0)), (9, iD p2.fi), (10, iD v12.2)] [(3, .box (Ae p0)), (5, .box (Dk p2)), (6, .box [.pure (.nil0), .pure (.nil0), .pure (.nil0)]), (8, .box [.own 2010, .own 2011, .own 2012]), (2010, .vec 1 (((([] : List Int)) ++ p1.fc).map An)), (2011, .vec 1 ((((([] : List Int)) ++ p1.fa).set ((p2.fi).toNat) p2.fk).map An)), (2012, .vec 1 (v12.1.map C3))]) (fun v13 => mk [(6, oD (.ptr 6 0)), (8, oD (.ptr 8 0))] [(6, .box [.pure (.nil0), .pure (.nil0), .pure (.nil0)]), (8, .box [.own 2013, .own 2014, .own 2015]), (2013, .vec 1 (((([] : List Int)) ++ p1.fc).map An)), (2014, .vec 1 ((((([] : List Int)) ++ p1.fa).set ((p2.fi).toNat) p2.fk).map An)), (2015, .vec 1 (v13.map C3))]) (fun _ _ => rfl) (sm [(2010, 2004), (2011, 2005), (2012, 2006)] _ _ rfl rfl) (fun j12 n12 v12 h => ?_) (fun v13 s h hs => ?_)
     ·unfold BY at h
      refine wp rfl (qm rfl (qf Cg rfl (ql GD rfl (AJ DB rfl (A0 rfl (Ac ?_))))))
      refine Bc h (fun h => ?_) fun h => ?_
      ·refine Al ?_
       refine AP h (fun v15 => mk [(3, oD (.ptr 3 0)), (5, oD (.ptr 5 0)), (6, oD (.ptr 6 0)), (8, oD (.ptr 8 0)), (9, iD p2.fi), (10, iD v12.2)] [(3, .box (Ae p0)), (5, .box (Dk p2)), (6, .box [.pure (.nil0), .pure (.nil0), .pure (.nil0)]), (8, .box [.own 2016, .own 2017, .own 2018]), (2016, .vec 1 (((([] : List Int)) ++ p1.fc).map An)), (2017, .vec 1 ((((([] : List Int)) ++ p1.fa).set ((p2.fi).toNat) p2.fk).map An)), (2018, .vec 1 (v15.map C3))]) (fun j15 h => ?_) (fun v15 h => ?_)
       ·refine AM ?_
        refine AP h (fun v16 => mk [(3, oD (.ptr 3 0)), (5, oD (.ptr 5 0)), (6, oD (.ptr 6 0)), (8, oD (.ptr 8 0)), (9, iD p2.fi), (10, iD v12.2), (90, bD v16)] [(3, .box (Ae p0)), (5, .box (Dk p2)), (6, .box [.pure (.nil0), .pure (.nil0), .pure (.nil0)]), (8, .box [.own 2019, .own 2020, .own 2021]), (2019, .vec 1 (((([] : List Int)) ++ p1.fc).map An)), (2020, .vec 1 ((((([] : List Int)) ++ p1.fa).set ((p2.fi).toNat) p2.fk).map An)), (2021, .vec 1 (v12.1.map C3))]) (fun j16 h => ?_) (fun v16 h => ?_)
        ·refine Ah AA rfl (qf Cg rfl (ql GD rfl (qm rfl ?_)))
         refine BV h fun v17 a17 b17 h => qi DB DN a17 (Ag b17) rfl (qg Dd rfl (qk Ce rfl (qm rfl (BZ rfl (qm rfl ?_)))))
         refine Ew 83 h rfl (fun h => ?_) fun h => ?_
         ·refine qf Cg rfl (ql GD rfl (qm rfl ?_))
          refine BV h fun v19 a19 b19 h => qi DB DN a19 (Ag b19) rfl (qK Hp DN rfl ?_)
          refine B4 h fun v20 a20 h => Ax [] (Cl N v19 v20 a20) Qf rfl (qp rfl (Ac ?_))
          exact sn [(2019, 2010), (2020, 2011), (2021, 2012)] h
         ·refine qw 6 rfl (qp rfl (Ac ?_))
          exact sn [(2019, 2010), (2020, 2011), (2021, 2012)] h
        ·refine Bc h (fun h => ?_) fun h => ?_
         ·refine Ah AA rfl (qf CG rfl (ql G4 rfl (qm rfl (qf CG rfl (ql G4 rfl (qm rfl ?_))))))
          refine BV h fun v22 a22 b22 h => qI Dj F3 a22 (Ag b22) rfl (qj Kj (Ag b22) rfl (qf Ha rfl (ql Ce rfl ?_)))
          refine Gl h fun c23 h => Jl rfl c23 (Va rfl ?_)
          refine BV h fun v24 a24 b24 h => qI Dj F3 a24 (Ag b24) rfl ?_
          refine DV rfl rfl rfl rfl (Ag b24) rfl F3 rfl (HO rfl) (DK C3 v12.1 _ ((O9 .u8 v22 ((D3 .u8 1 p2.fk))))) ?_
          refine AO (by kernel_rfl) ?_
          exact sn [(2016, 2019), (2017, 2020), (2018, 2021)] h
         ·refine Al ?_
          exact sn [(2016, 2019), (2017, 2020), (2018, 2021)] h
       ·refine Ah AA rfl (qm rfl (A9 rfl (qe rfl ?_)))
        exact sn [(2010, 2016), (2011, 2017), (2012, 2018)] h
      ·refine AX ?_
       exact sn [(2013, 2010), (2014, 2011), (2015, 2012)] h
     ·exact Vv _ h (hs.trans (sm [(2001, 2013), (2002, 2014), (2003, 2015)] _ _ rfl rfl))
  ·refine wq rfl (BZ rfl (qe rfl ?_))
   refine Bc h (fun h => ?_) fun h => ?_
   ·refine wp rfl (qf Bs rfl (ql A2 rfl (qm rfl ?_)))
    refine BV h fun v26 a26 b26 h => qi Az De a26 (Ag b26) rfl (qk Ce rfl (A0 rfl (Ac ?_)))
    refine Bc h (fun h => ?_) fun h => ?_
    ·refine wq rfl (AU CH GB rfl (qs AK rfl (qe rfl ?_)))
     obtain rfl := sj h
     refine Af ((Aw 6 0 2022 1 _ rfl rfl rfl rfl).trans ((Aw 6 1 2023 1 _ rfl rfl rfl rfl).trans ((Aw 6 2 2024 1 _ rfl rfl rfl rfl).trans (sm [(1000, 2022), (1001, 2023), (1002, 2024)] [(6, oD (.ptr 6 0)), (7, bD false)] [(6, .box [.own 1000, .own 1001, .own 1002]), (1000, .vec 1 ((([] : List Int)).map An)), (1001, .vec 1 ((([] : List Int)).map An)), (1002, .vec 1 ((([] : List Int)).map C3))] rfl rfl)))) (Ap ?_)
     exact ⟨⟨[_, _], ⟨.cellN _ _ _ _ _ _ _ rfl rfl A5 AK rfl rfl (Gn rfl), tm⟩, rfl⟩, ⟨rfl, rfl, rfl, tv⟩⟩
    ·refine Al (Ah AA rfl (qf CC rfl (ql A2 rfl (qm rfl (qf Bs rfl (ql A2 rfl (qm rfl (qf Bs rfl (ql A2 rfl (qm rfl ?_))))))))))
     refine BV h fun v28 a28 b28 h => qi Az De a28 (Ag b28) rfl (qk Ce rfl ?_)
     refine BV h fun v29 a29 b29 h => qI Az De a29 (Ag b29) rfl ?_
     refine DV rfl rfl rfl rfl (Ag b29) rfl De rfl (HO rfl) (DK An ((([] : List Int)) ++ p1.fc) _ v28) ?_
     refine BV h fun v30 a30 b30 h => qI Az De a30 (Ag b30) rfl ?_
     refine DV rfl rfl rfl rfl (Ag b30) rfl De rfl (HO rfl) (DK An ((([] : List Int)) ++ p1.fa) _ ((-1))) ?_
     refine AO (by kernel_rfl) ?_
     exact sn [(2001, 18), (2002, 22), (2003, 26)] h
   ·refine wq rfl (BZ rfl (qe rfl ?_))
    refine Bc h (fun h => ?_) fun h => ?_
    ·refine wq rfl (qf Cg rfl (ql GD rfl (qm rfl ?_)))
     refine BV h fun v32 a32 b32 h => qi DB DN a32 (Ag b32) rfl (qK Hp DN rfl (qz JK rfl (qs DN rfl (Ac (wp rfl (qL Hp DN rfl ?_))))))
     refine B4 h fun v33 a33 h => Ax [] (Cl N v32 v33 a33) Qf rfl (CD rfl (Ac ?_))
     refine Bc h (fun h => ?_) fun h => ?_
     ·refine wq rfl (AU CH GB rfl (qs AK rfl (qe rfl ?_)))
      obtain rfl := sj h
      refine Af ((Aw 6 0 2025 1 _ rfl rfl rfl rfl).trans ((Aw 6 1 2026 1 _ rfl rfl rfl rfl).trans ((Aw 6 2 2027 1 _ rfl rfl rfl rfl).trans (sm [(1000, 2025), (1001, 2026), (1002, 2027)] [(6, oD (.ptr 6 0)), (7, bD false)] [(6, .box [.own 1000, .own 1001, .own 1002]), (1000, .vec 1 ((([] : List Int)).map An)), (1001, .vec 1 ((([] : List Int)).map An)), (1002, .vec 1 ((([] : List Int)).map C3))] rfl rfl)))) (Ap ?_)
      exact ⟨⟨[_, _], ⟨.cellN _ _ _ _ _ _ _ rfl rfl A5 AK rfl rfl (Gn rfl), tm⟩, rfl⟩, ⟨rfl, rfl, rfl, tv⟩⟩
     ·refine Al (wq rfl (qL A5 AK rfl (qf Dd rfl (ql Ce rfl ?_))))
      refine B4 h fun v35 a35 h => Ax [] (Eo N p1 v32.fg v35 a35) UL rfl (qa rfl (Ac (wp rfl (qf CG rfl (ql G4 rfl (qm rfl ?_))))))
      refine BV h fun v36 a36 b36 h => qi Dj F3 a36 (Ag b36) rfl (qk Kj rfl (qm rfl (BZ rfl (Ac ?_))))
      refine Bc h (fun h => ?_) fun h => ?_
      ·refine wq rfl (AU CH GB rfl (qs AK rfl (qe rfl ?_)))
       obtain rfl := sj h
       refine Af ((Aw 6 0 2028 1 _ rfl rfl rfl rfl).trans ((Aw 6 1 2029 1 _ rfl rfl rfl rfl).trans ((Aw 6 2 2030 1 _ rfl rfl rfl rfl).trans (sm [(1000, 2028), (1001, 2029), (1002, 2030)] [(6, oD (.ptr 6 0)), (7, bD false)] [(6, .box [.own 1000, .own 1001, .own 1002]), (1000, .vec 1 ((([] : List Int)).map An)), (1001, .vec 1 ((([] : List Int)).map An)), (1002, .vec 1 ((([] : List Int)).map C3))] rfl rfl)))) (Ap ?_)
       exact ⟨⟨[_, _], ⟨.cellN _ _ _ _ _ _ _ rfl rfl A5 AK rfl rfl (Gn rfl), tm⟩, rfl⟩, ⟨rfl, rfl, rfl, tv⟩⟩
      ·refine Al (wp rfl (qe rfl ?_))
       refine AI (L := BF N p0 p1 p2 v32 v35) h (fun v38 => mk [(3, oD (.ptr 3 0)), (4, oD (.ptr 4 0)), (6, oD (.ptr 6 0)), (8, oD (.ptr 8 0)), (9, iD p2.fi), (11, oD (.ptr 11 0)), (12, pD (.val (.int .u8 v35))), (13, iD v38)] [(3, .box (Ae p0)), (4, .box (Ay p1)), (6, .box [.pure (.nil0), .pure (.nil0), .pure (.nil0)]), (8, .box [.own 2031, .own 2032, .own 2033]), (11, .box (Bj v32)), (2031, .vec 1 (((([] : List Int)) ++ p1.fc).map An)), (2032, .vec 1 (((([] : List Int)) ++ p1.fa).map An)), (2033, .vec 1 (((([] : List Int)) ++ p1.fd).map C3))]) (fun v39 => mk [(6, oD (.ptr 6 0)), (8, oD (.ptr 8 0)), (9, iD p2.fi), (12, pD (.val (.int .u8 v35)))] [(6, .box [.pure (.nil0), .pure (.nil0), .pure (.nil0)]), (8, .box [.own 2034, .own 2035, .own 2036]), (2034, .vec 1 (((([] : List Int)) ++ p1.fc).map An)), (2035, .vec 1 (((([] : List Int)) ++ p1.fa).map An)), (2036, .vec 1 (((([] : List Int)) ++ p1.fd).map C3))]) (fun _ _ => rfl) (sm [(2031, 18), (2032, 22), (2033, 26)] _ _ rfl rfl) (fun j38 n38 v38 h => ?_) (fun v39 s h hs => ?_)
       ·unfold BF at h
        refine wp rfl (qm rfl (qf Bt rfl (ql A2 rfl (qf Dd rfl (ql Ce rfl ?_)))))
        refine BV h fun v40 a40 b40 h => qi Az De a40 (Ag b40) rfl (qk Ce rfl (A0 rfl (Ac ?_)))
        refine Bc h (fun h => ?_) fun h => ?_
        ·refine Al (AQ (AM ?_))
         refine AP h (fun v42 => mk [(3, oD (.ptr 3 0)), (4, oD (.ptr 4 0)), (6, oD (.ptr 6 0)), (8, oD (.ptr 8 0)), (9, iD p2.fi), (11, oD (.ptr 11 0)), (12, pD (.val (.int .u8 v35))), (13, iD v38), (14, bD v42)] [(3, .box (Ae p0)), (4, .box (Ay p1)), (6, .box [.pure (.nil0), .pure (.nil0), .pure (.nil0)]), (8, .box [.own 2037, .own 2038, .own 2039]), (11, .box (Bj v32)), (2037, .vec 1 (((([] : List Int)) ++ p1.fc).map An)), (2038, .vec 1 (((([] : List Int)) ++ p1.fa).map An)), (2039, .vec 1 (((([] : List Int)) ++ p1.fd).map C3))]) (fun j42 h => ?_) (fun v42 h => ?_)
         ·refine Ah AA rfl (qf CG rfl (ql G4 rfl (qm rfl ?_)))
          refine BV h fun v43 a43 b43 h => qi Dj F3 a43 (Ag b43) rfl (qk Kj rfl (qm rfl ?_))
          refine B4 h fun v44 a44 h => Ax [] (Gg N v43 v38 v44 a44) WG rfl (qm rfl ?_)
          refine Ew 166 h rfl (fun h => ?_) fun h => ?_
          ·refine qw 2 rfl ?_
           refine B4 h fun v46 a46 h => Ax [] (Gg N v35 v38 v46 a46) WG rfl (CD rfl (qp rfl (qe rfl ?_)))
           exact sn [(2037, 2031), (2038, 2032), (2039, 2033)] h
          ·refine qw 4 rfl (qp rfl (qe rfl ?_))
           exact sn [(2037, 2031), (2038, 2032), (2039, 2033)] h
         ·refine AP h (fun v47 => mk [(3, oD (.ptr 3 0)), (4, oD (.ptr 4 0)), (6, oD (.ptr 6 0)), (8, oD (.ptr 8 0)), (9, iD p2.fi), (11, oD (.ptr 11 0)), (12, pD (.val (.int .u8 v35))), (13, iD v38), (193, bD v47)] [(3, .box (Ae p0)), (4, .box (Ay p1)), (6, .box [.pure (.nil0), .pure (.nil0), .pure (.nil0)]), (8, .box [.own 2040, .own 2041, .own 2042]), (11, .box (Bj v32)), (2040, .vec 1 (((([] : List Int)) ++ p1.fc).map An)), (2041, .vec 1 (((([] : List Int)) ++ p1.fa).map An)), (2042, .vec 1 (((([] : List Int)) ++ p1.fd).map C3))]) (fun j47 h => ?_) (fun v47 h => ?_)
          ·refine Ah AA rfl (qw 2 rfl ?_)
           refine Ew 173 h rfl (fun h => ?_) fun h => ?_
           ·refine qf FY rfl (ql Ce rfl (BZ rfl (qp rfl (qm rfl ?_))))
            refine Ew 178 h rfl (fun h => ?_) fun h => ?_
            ·refine qf GG rfl (ql Kc rfl (qm rfl ?_))
             refine BV h fun v50 a50 b50 h => qi FO Lq a50 (Ag b50) rfl (qk L6 rfl (qf CC rfl (ql A2 rfl (qf Dd rfl (ql Ce rfl ?_)))))
             refine BV h fun v51 a51 b51 h => qi Az De a51 (Ag b51) rfl (qk Ce rfl ?_)
             refine BV h fun v52 a52 b52 h => qi Fa Nb a52 (Ag b52) rfl (qk QW rfl (CD rfl (qp rfl (AO (by kernel_rfl) ?_))))
             exact sn [(2040, 2037), (2041, 2038), (2042, 2039)] h
            ·refine qw 14 rfl (qp rfl (AO (by kernel_rfl) ?_))
             exact sn [(2040, 2037), (2041, 2038), (2042, 2039)] h
           ·refine qw 3 rfl (qp rfl (qw 15 rfl (qp rfl (AO (by kernel_rfl) ?_))))
            exact sn [(2040, 2037), (2041, 2038), (2042, 2039)] h
          ·refine Bc h (fun h => ?_) fun h => ?_
           ·refine wq rfl (AU CH GB rfl (qs AK rfl (qe rfl ?_)))
            obtain rfl := sj h
            refine Af ((Aw 6 0 2043 1 _ rfl rfl rfl rfl).trans ((Aw 6 1 2044 1 _ rfl rfl rfl rfl).trans ((Aw 6 2 2045 1 _ rfl rfl rfl rfl).trans (sm [(1000, 2043), (1001, 2044), (1002, 2045)] [(6, oD (.ptr 6 0)), (7, bD false)] [(6, .box [.own 1000, .own 1001, .own 1002]), (1000, .vec 1 ((([] : List Int)).map An)), (1001, .vec 1 ((([] : List Int)).map An)), (1002, .vec 1 ((([] : List Int)).map C3))] rfl rfl)))) (Ap ?_)
            exact ⟨⟨[_, _], ⟨.cellN _ _ _ _ _ _ _ rfl rfl A5 AK rfl rfl (Gn rfl), tm⟩, rfl⟩, ⟨rfl, rfl, rfl, tv⟩⟩
           ·refine Al (Ah AA rfl (qm rfl (A9 rfl (qe rfl ?_))))
            exact sn [(2031, 2040), (2032, 2041), (2033, 2042)] h
        ·refine AX ?_
         exact sn [(2034, 2031), (2035, 2032), (2036, 2033)] h
       ·refine Af hs (Ah AA rfl (qf CG rfl (ql G4 rfl (qw 2 rfl ?_))))
        refine BV h fun v54 a54 b54 h => qI Dj F3 a54 (Ag b54) rfl ?_
        refine DV rfl rfl rfl rfl (Ag b54) rfl F3 rfl (HO rfl) (DK C3 ((([] : List Int)) ++ p1.fd) _ v35) ?_
        refine Ac ?_
        exact sn [(2001, 2034), (2002, 2035), (2003, 2036)] h
    ·refine wp rfl (qf Bs rfl (ql A2 rfl (qm rfl ?_)))
     refine BV h fun v55 a55 b55 h => qi Az De a55 (Ag b55) rfl (qk Ce rfl (A0 rfl (Ac ?_)))
     refine Bc h (fun h => ?_) fun h => ?_
     ·refine wq rfl (AU CH GB rfl (qs AK rfl (qe rfl ?_)))
      obtain rfl := sj h
      refine Af ((Aw 6 0 2046 1 _ rfl rfl rfl rfl).trans ((Aw 6 1 2047 1 _ rfl rfl rfl rfl).trans ((Aw 6 2 2048 1 _ rfl rfl rfl rfl).trans (sm [(1000, 2046), (1001, 2047), (1002, 2048)] [(6, oD (.ptr 6 0)), (7, bD false)] [(6, .box [.own 1000, .own 1001, .own 1002]), (1000, .vec 1 ((([] : List Int)).map An)), (1001, .vec 1 ((([] : List Int)).map An)), (1002, .vec 1 ((([] : List Int)).map C3))] rfl rfl)))) (Ap ?_)
      exact ⟨⟨[_, _], ⟨.cellN _ _ _ _ _ _ _ rfl rfl A5 AK rfl rfl (Gn rfl), tm⟩, rfl⟩, ⟨rfl, rfl, rfl, tv⟩⟩
     ·refine Al (Ah AA rfl (qf Bs rfl (ql A2 rfl (qm rfl ?_))))
      refine BV h fun v57 a57 b57 h => qI Az De a57 (Ag b57) rfl ?_
      refine DV rfl rfl rfl rfl (Ag b57) rfl De rfl (HO rfl) (DK An ((([] : List Int)) ++ p1.fa) _ ((-1))) ?_
      refine Ac ?_
      exact sn [(2001, 18), (2002, 22), (2003, 26)] h
 ·refine wq rfl (qL A5 AK rfl (qs AK rfl (qe rfl ?_)))
  obtain rfl := sj h
  refine Af (sm [(1000, 2001), (1001, 2002), (1002, 2003)] [(6, oD (.ptr 6 0)), (7, bD true)] [(6, .box [.own 1000, .own 1001, .own 1002]), (1000, .vec 1 (v4.1.map An)), (1001, .vec 1 (v4.2.1.map An)), (1002, .vec 1 (v4.2.2.map C3))] rfl rfl) (Ap ?_)
  exact ⟨⟨[_, _], ⟨.cellN _ _ _ _ _ _ _ rfl rfl A5 AK rfl rfl (Gn rfl), tm⟩, rfl⟩, ⟨rfl, rfl, rfl, tv⟩⟩
theorem Iy (N : Nat) (p0 : Aa) (p1 : Ab) (p2 : Ad) (r : Ab × Int) (h : DX N p0 p1 p2 = some r) : Ao zA0 82 [.e (.agg (Ae p0)), .e (.agg (Ay p1)), .e (.agg (Dk p2))] [(1, r.1.fc.map An), (1, r.1.fa.map An), (1, r.1.fd.map C3)] (.tup [.agg [.own 0, .own 1, .own 2], .one (iC r.2)]) := by
 unfold DX at h
 refine cw (n := 73) (rs := [.cell 6 43, .tmp 7]) Tryz.func82 fun w0 S0 => ?_
 refine wq rfl (qb rfl (qb rfl (qb rfl (qz CH rfl (qa rfl (Ac (wp rfl (qL Cz BS rfl (qL A5 AK rfl ?_)))))))))
 refine B4 h fun v1 a1 h => Ax [] (GQ N p0 p1 v1 a1) XE rfl (qa rfl (Ac (wq rfl (qm rfl (BH rfl (Ac ?_))))))
 refine Bc h (fun h => ?_) fun h => ?_
 ·refine wq rfl (AU CH GB rfl (qm rfl (qs AK rfl (qe rfl ?_))))
  obtain rfl := sj h
  refine Af ((Aw 6 0 2001 1 _ rfl rfl rfl rfl).trans ((Aw 6 1 2002 1 _ rfl rfl rfl rfl).trans ((Aw 6 2 2003 1 _ rfl rfl rfl rfl).trans (sm [(1000, 2001), (1001, 2002), (1002, 2003)] [(6, oD (.ptr 6 0)), (7, iD v1)] [(6, .box [.own 1000, .own 1001, .own 1002]), (1000, .vec 1 ((([] : List Int)).map An)), (1001, .vec 1 ((([] : List Int)).map An)), (1002, .vec 1 ((([] : List Int)).map C3))] rfl rfl)))) (Ap ?_)
  exact ⟨⟨[_, _], ⟨.cellN _ _ _ _ _ _ _ rfl rfl A5 AK rfl rfl (Gn rfl), tm⟩, rfl⟩, ⟨rfl, rfl, rfl, tv⟩⟩
 ·refine Al (wp rfl (qL Hr Do rfl ?_))
  refine B4 h fun v3 a3 h => Ax [] (Lw N p2 v3 a3) aQ rfl (CD rfl (Ac ?_))
  refine Bc h (fun h => ?_) fun h => ?_
  ·refine wq rfl (AU CH GB rfl (qs AK rfl (qe rfl ?_)))
   obtain rfl := sj h
   refine Af ((Aw 6 0 2004 1 _ rfl rfl rfl rfl).trans ((Aw 6 1 2005 1 _ rfl rfl rfl rfl).trans ((Aw 6 2 2006 1 _ rfl rfl rfl rfl).trans (sm [(1000, 2004), (1001, 2005), (1002, 2006)] [(6, oD (.ptr 6 0)), (7, iD 1)] [(6, .box [.own 1000, .own 1001, .own 1002]), (1000, .vec 1 ((([] : List Int)).map An)), (1001, .vec 1 ((([] : List Int)).map An)), (1002, .vec 1 ((([] : List Int)).map C3))] rfl rfl)))) (Ap ?_)
   exact ⟨⟨[_, _], ⟨.cellN _ _ _ _ _ _ _ rfl rfl A5 AK rfl rfl (Gn rfl), tm⟩, rfl⟩, ⟨rfl, rfl, rfl, tv⟩⟩
  ·refine Al (AQ ?_)
   refine AP h (fun v5 => mk [(3, oD (.ptr 3 0)), (4, oD (.ptr 4 0)), (5, oD (.ptr 5 0)), (6, oD (.ptr 6 0)), (45, bD v5)] [(3, .box (Ae p0)), (4, .box (Ay p1)), (5, .box (Dk p2)), (6, .box [.pure (.nil0), .pure (.nil0), .pure (.nil0)])]) (fun j5 h => ?_) (fun v5 h => ?_)
   ·refine Ah AA rfl (qf Fq rfl (ql Ce rfl (BZ rfl (qm rfl ?_))))
    refine Ew 25 h rfl (fun h => ?_) fun h => ?_
    ·refine qf Fe rfl (ql Ce rfl (qf Cg rfl (ql GD rfl (AJ DB rfl (EO rfl (qp rfl (qm rfl ?_)))))))
     refine Ew 33 h rfl (fun h => ?_) fun h => ?_
     ·refine qw 4 rfl (qu rfl (qu rfl (qu rfl (qu rfl (qu rfl (qu rfl (qn rfl (qp rfl (Ac ?_)))))))))
      exact sn [] h
     ·refine qf Fq rfl (ql Ce rfl (BH rfl (qm rfl ?_)))
      refine Ew 37 h rfl (fun h => ?_) fun h => ?_
      ·refine qf Fe rfl (ql Ce rfl (qf Bt rfl (ql A2 rfl (AJ Az rfl (EO rfl (qp rfl (qp rfl (Ac ?_))))))))
       exact sn [] h
      ·refine qw 6 rfl (qp rfl (qp rfl (Ac ?_)))
       exact sn [] h
    ·refine qw 6 rfl (qp rfl (qm rfl (qf Fq rfl (ql Ce rfl (BH rfl (qm rfl ?_))))))
     refine Ew 37 h rfl (fun h => ?_) fun h => ?_
     ·refine qf Fe rfl (ql Ce rfl (qf Bt rfl (ql A2 rfl (AJ Az rfl (EO rfl (qp rfl (qp rfl (Ac ?_))))))))
      exact sn [] h
     ·refine qw 6 rfl (qp rfl (qp rfl (Ac ?_)))
      exact sn [] h
   ·refine Bc h (fun h => ?_) fun h => ?_
    ·refine wq rfl (AU CH GB rfl (qs AK rfl (qe rfl ?_)))
     obtain rfl := sj h
     refine Af ((Aw 6 0 2007 1 _ rfl rfl rfl rfl).trans ((Aw 6 1 2008 1 _ rfl rfl rfl rfl).trans ((Aw 6 2 2009 1 _ rfl rfl rfl rfl).trans (sm [(1000, 2007), (1001, 2008), (1002, 2009)] [(6, oD (.ptr 6 0)), (7, iD 4)] [(6, .box [.own 1000, .own 1001, .own 1002]), (1000, .vec 1 ((([] : List Int)).map An)), (1001, .vec 1 ((([] : List Int)).map An)), (1002, .vec 1 ((([] : List Int)).map C3))] rfl rfl)))) (Ap ?_)
     exact ⟨⟨[_, _], ⟨.cellN _ _ _ _ _ _ _ rfl rfl A5 AK rfl rfl (Gn rfl), tm⟩, rfl⟩, ⟨rfl, rfl, rfl, tv⟩⟩
    ·refine Al (AQ ?_)
     refine AP h (fun v11 => mk [(3, oD (.ptr 3 0)), (4, oD (.ptr 4 0)), (5, oD (.ptr 5 0)), (6, oD (.ptr 6 0)), (60, bD v11)] [(3, .box (Ae p0)), (4, .box (Ay p1)), (5, .box (Dk p2)), (6, .box [.pure (.nil0), .pure (.nil0), .pure (.nil0)])]) (fun j11 h => ?_) (fun v11 h => ?_)
     ·refine Ah AA rfl (qf Fq rfl (ql Ce rfl (BZ rfl (qm rfl ?_))))
      refine Ew 50 h rfl (fun h => ?_) fun h => ?_
      ·refine qf Ha rfl (ql Ce rfl (qf Bt rfl (ql A2 rfl (qf Fe rfl (ql Ce rfl ?_)))))
       refine BV h fun v13 a13 b13 h => qi Az De a13 (Ag b13) rfl (qk Ce rfl (EO rfl (qp rfl (AO (by kernel_rfl) ?_))))
       exact sn [] h
      ·refine qw 9 rfl (qp rfl (AO (by kernel_rfl) ?_))
       exact sn [] h
     ·refine Bc h (fun h => ?_) fun h => ?_
      ·refine wq rfl (AU CH GB rfl (qs AK rfl (qe rfl ?_)))
       obtain rfl := sj h
       refine Af ((Aw 6 0 2010 1 _ rfl rfl rfl rfl).trans ((Aw 6 1 2011 1 _ rfl rfl rfl rfl).trans ((Aw 6 2 2012 1 _ rfl rfl rfl rfl).trans (sm [(1000, 2010), (1001, 2011), (1002, 2012)] [(6, oD (.ptr 6 0)), (7, iD 4)] [(6, .box [.own 1000, .own 1001, .own 1002]), (1000, .vec 1 ((([] : List Int)).map An)), (1001, .vec 1 ((([] : List Int)).map An)), (1002, .vec 1 ((([] : List Int)).map C3))] rfl rfl)))) (Ap ?_)
       exact ⟨⟨[_, _], ⟨.cellN _ _ _ _ _ _ _ rfl rfl A5 AK rfl rfl (Gn rfl), tm⟩, rfl⟩, ⟨rfl, rfl, rfl, tv⟩⟩
      ·refine Al (wq rfl (qL Cz BS rfl (qL A5 AK rfl (qL Hr Do rfl ?_))))
       refine B4 h fun v15 a15 h => Ax [2013, 2014, 2015] (GM N p0 p1 p2 v15 a15) X7 rfl (qm rfl (qx rfl (qx rfl (qz CH rfl (qs AK rfl (qa rfl (Ac (wp rfl (qm rfl (CD rfl (Ac ?_)))))))))))
       refine Bc h (fun h => ?_) fun h => ?_
       ·refine wq rfl (AU CH GB rfl (qs AK rfl (qe rfl ?_)))
        obtain rfl := sj h
        refine Af ((Aw 6 0 2016 1 _ rfl rfl rfl rfl).trans ((Aw 6 1 2017 1 _ rfl rfl rfl rfl).trans ((Aw 6 2 2018 1 _ rfl rfl rfl rfl).trans (sm [(1000, 2016), (1001, 2017), (1002, 2018)] [(6, oD (.ptr 6 0)), (7, iD 11)] [(6, .box [.own 1000, .own 1001, .own 1002]), (1000, .vec 1 ((([] : List Int)).map An)), (1001, .vec 1 ((([] : List Int)).map An)), (1002, .vec 1 ((([] : List Int)).map C3))] rfl rfl)))) (Ap ?_)
        exact ⟨⟨[_, _], ⟨.cellN _ _ _ _ _ _ _ rfl rfl A5 AK rfl rfl (Gn rfl), tm⟩, rfl⟩, ⟨rfl, rfl, rfl, tv⟩⟩
       ·refine Al (wq rfl (qL A5 AK rfl (qs AK rfl (qe rfl ?_))))
        obtain rfl := sj h
        refine Af (sm [(1000, 2013), (1001, 2014), (1002, 2015)] [(6, oD (.ptr 6 0)), (7, iD 0)] [(6, .box [.own 1000, .own 1001, .own 1002]), (1000, .vec 1 (v15.1.fc.map An)), (1001, .vec 1 (v15.1.fa.map An)), (1002, .vec 1 (v15.1.fd.map C3))] rfl rfl) (Ap ?_)
        exact ⟨⟨[_, _], ⟨.cellN _ _ _ _ _ _ _ rfl rfl A5 AK rfl rfl (Gn rfl), tm⟩, rfl⟩, ⟨rfl, rfl, rfl, tv⟩⟩
theorem Lx (N : Nat) (p0 : Aa) (p1 : Ab) (r : (List Ad)) (h : EF N p0 p1 = some r) : Ao zA0 55 [.e (.agg (Ae p0)), .e (.agg (Ay p1))] [(3, r.map Aq)] (oD (.own 0)) := by
 unfold EF at h
 refine cw (n := 49) (rs := [.tmp 4]) Tryz.func55 fun w0 S0 => ?_
 refine wq rfl (qb rfl (qb rfl (qa rfl (Ac (wq rfl (qa rfl (Ac (wp rfl (qe rfl ?_)))))))))
 refine AI (L := Bw N p0 p1) h (fun v1 => mk [(2, oD (.ptr 2 0)), (3, oD (.ptr 3 0)), (5, oD (.own 2001)), (6, iD v1.2)] [(2, .box (Ae p0)), (3, .box (Ay p1)), (2001, .vec 3 (v1.1.map Aq))]) (fun v2 => mk [(5, oD (.own 2002))] [(2002, .vec 3 (v2.map Aq))]) (fun _ _ => rfl) ((BP 5 2011 3 rfl rfl rfl).trans (sm [(2001, 2011)] _ _ rfl rfl)) (fun j1 n1 v1 h => ?_) (fun v2 s h hs => ?_)
 ·unfold Bw at h
  refine wp rfl (qm rfl (Vo rfl (Ac ?_)))
  refine Bc h (fun h => ?_) fun h => ?_
  ·refine Al (AQ (AM (wq rfl (qe rfl ?_))))
   refine AI (L := Cb N p0 p1 v1) h (fun v4 => mk [(2, oD (.ptr 2 0)), (3, oD (.ptr 3 0)), (5, oD (.own 2003)), (6, iD v1.2), (7, iD v4.2)] [(2, .box (Ae p0)), (3, .box (Ay p1)), (2003, .vec 3 (v4.1.map Aq))]) (fun v5 => mk [(2, oD (.ptr 2 0)), (3, oD (.ptr 3 0)), (5, oD (.own 2004)), (6, iD v1.2)] [(2, .box (Ae p0)), (3, .box (Ay p1)), (2004, .vec 3 (v5.map Aq))]) (fun _ _ => rfl) (sm [(2003, 2001)] _ _ rfl rfl) (fun j4 n4 v4 h => ?_) (fun v5 s h hs => ?_)
   ·unfold Cb at h
    refine wp rfl (qm rfl (qf Bt rfl (ql A2 rfl (AJ Az rfl (qf Cg rfl (ql GD rfl (AJ DB rfl ?_)))))))
    refine Zz (.p rfl) rfl rfl ?_
    refine A0 rfl (Ac ?_)
    refine Bc h (fun h => ?_) fun h => ?_
    ·refine Al (AQ (AM (wq rfl (qe rfl ?_))))
     refine AI (L := Cc N p0 p1 v1 v4) h (fun v7 => mk [(2, oD (.ptr 2 0)), (3, oD (.ptr 3 0)), (5, oD (.own 2005)), (6, iD v1.2), (7, iD v4.2), (8, iD v7.2)] [(2, .box (Ae p0)), (3, .box (Ay p1)), (2005, .vec 3 (v7.1.map Aq))]) (fun v8 => mk [(2, oD (.ptr 2 0)), (3, oD (.ptr 3 0)), (5, oD (.own 2006)), (6, iD v1.2), (7, iD v4.2)] [(2, .box (Ae p0)), (3, .box (Ay p1)), (2006, .vec 3 (v8.map Aq))]) (fun _ _ => rfl) (sm [(2005, 2003)] _ _ rfl rfl) (fun j7 n7 v7 h => ?_) (fun v8 s h hs => ?_)
     ·unfold Cc at h
      refine wp rfl (qm rfl (A0 rfl (Ac ?_)))
      refine Bc h (fun h => ?_) fun h => ?_
      ·refine Al ?_
       refine AP h (fun v10 => mk [(2, oD (.ptr 2 0)), (3, oD (.ptr 3 0)), (5, oD (.own 2007)), (6, iD v1.2), (7, iD v4.2), (8, iD v7.2)] [(2, .box (Ae p0)), (3, .box (Ay p1)), (2007, .vec 3 (v10.map Aq))]) (fun j10 h => ?_) (fun v10 h => ?_)
       ·refine AM (wq rfl (qw 3 rfl (AU HR QE rfl (qz HR rfl (qs Do rfl (Ac (wq rfl (qL Cz BS rfl (qL A5 AK rfl (qL Hr Do rfl ?_))))))))))
        refine B4 h fun v11 a11 h => Ax [2008, 2009, 2010] (Iy N p0 p1 ((Ad.mk v1.2 v4.2 v7.2)) v11 a11) Zi rfl (qm rfl (qx rfl (qx rfl (qz CH rfl (qs AK rfl (qa rfl (Ac (wq rfl (qm rfl (BZ rfl (Ac ?_)))))))))))
        refine Bc h (fun h => ?_) fun h => ?_
        ·refine Ah AA rfl (qm rfl (qL Hr Do rfl (Em CN Do HR rfl ?_)))
         refine Gl h fun c13 h => DQ (f := Aq) CN CN Do Rt HR c13 rfl (qe rfl ?_)
         exact sn [(2007, 47)] h
        ·refine Al ?_
         exact sn [(2007, 2005)] h
       ·refine Ah AA rfl (qm rfl (A9 rfl (qe rfl ?_)))
        exact sn [(2005, 2007)] h
      ·refine AX ?_
       exact sn [(2006, 2005)] h
     ·refine Af hs (Ah AA rfl (qm rfl (A9 rfl (qe rfl ?_))))
      exact sn [(2003, 2006)] h
    ·refine AX ?_
     exact sn [(2004, 2003)] h
   ·refine Af hs (Ah AA rfl (qm rfl (A9 rfl (qe rfl ?_))))
    exact sn [(2001, 2004)] h
  ·refine AX ?_
   exact sn [(2002, 2001)] h
 ·refine Af hs (wq rfl (qm rfl (qe rfl ?_)))
  obtain rfl := sj h
  refine Af (sm [(1000, 2002)] [(4, oD (.own 1000))] [(1000, .vec 3 (v2.map Aq))] rfl rfl) (Ap ?_)
  exact ⟨⟨[_], tm, rfl⟩, ⟨rfl, tv⟩⟩
theorem Hd (N : Nat) (p0 : List Int) (p1 : List Int) (r : Int) (h : Dz N p0 p1 = some r) : Ao zA0 108 [pD (.sl (p0.map An)), pD (.sl (p1.map An))] [] (iD r) := by
 unfold Dz at h
 refine cw (n := 46) (rs := [.tmp 4]) Tryz.func108 fun w0 S0 => ?_
 refine wq rfl (qa rfl (Ac (wp rfl (qe rfl ?_))))
 refine AI (L := Dq N p0 p1) h (fun v1 => mk [(0, pD (.sl (p0.map An))), (1, pD (.sl (p1.map An))), (5, iD v1)] []) (fun v2 => mk [(0, pD (.sl (p0.map An))), (1, pD (.sl (p1.map An)))] []) (fun _ _ => rfl) (sm [] _ _ rfl rfl) (fun j1 n1 v1 h => ?_) (fun v2 s h hs => ?_)
 ·unfold Dq at h
  refine AQ ?_
  refine AP h (fun v3 => mk [(0, pD (.sl (p0.map An))), (1, pD (.sl (p1.map An))), (5, iD v1), (15, bD v3)] []) (fun j3 h => ?_) (fun v3 h => ?_)
  ·refine Ah AA rfl (qw 2 rfl (AJ Az rfl (A0 rfl (qm rfl ?_))))
   refine Ew 10 h rfl (fun h => ?_) fun h => ?_
   ·refine qw 2 rfl (AJ Az rfl (A0 rfl (qp rfl (Ac ?_))))
    exact sn [] h
   ·refine qw 4 rfl (qp rfl (Ac ?_))
    exact sn [] h
  ·refine Bc h (fun h => ?_) fun h => ?_
   ·refine Al (AQ (AM (wp rfl (qw 2 rfl ?_))))
    refine BV h fun v6 a6 b6 h => qi Az De a6 (Ag b6) rfl (qk Ce rfl (qw 2 rfl ?_))
    refine BV h fun v7 a7 b7 h => qi Az De a7 (Ag b7) rfl (qk Ce rfl (A0 rfl (AO (by kernel_rfl) ?_)))
    refine Bc h (fun h => ?_) fun h => ?_
    ·refine wq rfl (qe rfl ?_)
     obtain rfl := sj h
     refine Af (sm [] [(4, iD ((-1)))] [] rfl rfl) (Ap ?_)
     exact ⟨⟨[_], tm, rfl⟩, tv⟩
    ·refine Al (wq rfl (qw 2 rfl ?_))
     refine BV h fun v9 a9 b9 h => qi Az De a9 (Ag b9) rfl (qk Ce rfl (qw 2 rfl ?_))
     refine BV h fun v10 a10 b10 h => qi Az De a10 (Ag b10) rfl (qk Ce rfl (Gk rfl (AO (by kernel_rfl) ?_)))
     refine Bc h (fun h => ?_) fun h => ?_
     ·refine wq rfl (qe rfl ?_)
      obtain rfl := sj h
      refine Af (sm [] [(4, iD 1)] [] rfl rfl) (Ap ?_)
      exact ⟨⟨[_], tm, rfl⟩, tv⟩
     ·refine Al (Ah AA rfl (qm rfl (A9 rfl (qe rfl ?_))))
      exact sn [] h
   ·refine AX ?_
    exact sn [] h
 ·refine Af hs (wp rfl (qm rfl (AJ Az rfl (qm rfl (AJ Az rfl (A0 rfl (Ac ?_)))))))
  refine Bc h (fun h => ?_) fun h => ?_
  ·refine wq rfl (qe rfl ?_)
   obtain rfl := sj h
   refine Af (sm [] [(4, iD ((-1)))] [] rfl rfl) (Ap ?_)
   exact ⟨⟨[_], tm, rfl⟩, tv⟩
  ·refine Al (wp rfl (qm rfl (AJ Az rfl (qm rfl (AJ Az rfl (Gk rfl (Ac ?_)))))))
   refine Bc h (fun h => ?_) fun h => ?_
   ·refine wq rfl (qe rfl ?_)
    obtain rfl := sj h
    refine Af (sm [] [(4, iD 1)] [] rfl rfl) (Ap ?_)
    exact ⟨⟨[_], tm, rfl⟩, tv⟩
   ·refine Al (wq rfl (qe rfl ?_))
    obtain rfl := sj h
    refine Af (sm [] [(4, iD 0)] [] rfl rfl) (Ap ?_)
    exact ⟨⟨[_], tm, rfl⟩, tv⟩
theorem HP (N : Nat) (p0 : List Int) (r : (List Int)) (h : Dp N p0 = some r) : Ao zA0 109 [pD (.sl (p0.map C3))] [(1, r.map An)] (oD (.own 0)) := by
 unfold Dp at h
 refine cw (n := 20) (rs := [.tmp 2]) Tryz.func109 fun w0 S0 => ?_
 refine wq rfl (qa rfl (Ac (wq rfl (qa rfl (Ac (wp rfl (qe rfl ?_)))))))
 refine AI (L := CT N p0) h (fun v1 => mk [(0, pD (.sl (p0.map C3))), (3, oD (.own 2001)), (4, iD v1.2)] [(2001, .vec 1 (v1.1.map An))]) (fun v2 => mk [(3, oD (.own 2002))] [(2002, .vec 1 (v2.map An))]) (fun _ _ => rfl) ((BP 3 2003 1 rfl rfl rfl).trans (sm [(2001, 2003)] _ _ rfl rfl)) (fun j1 n1 v1 h => ?_) (fun v2 s h hs => ?_)
 ·unfold CT at h
  refine wp rfl (qw 2 rfl (AJ Dj rfl (A0 rfl (Ac ?_))))
  refine Bc h (fun h => ?_) fun h => ?_
  ·refine Al (AQ (AM (Ah AA rfl (qw 3 rfl ?_))))
   refine BV h fun v4 a4 b4 h => qi Dj F3 a4 (Ag b4) rfl (qk Kj rfl (JE ab Xj rfl (Em Az De Kh rfl ?_)))
   refine Gl h fun c5 h => DQ (f := An) Az Az De KO Kh c5 rfl (qa rfl (Ac (Ah AA rfl (qm rfl (A9 rfl (qe rfl ?_))))))
   exact sn [(2001, 18)] h
  ·refine AX ?_
   exact sn [(2002, 2001)] h
 ·refine Af hs (wq rfl (qm rfl (qe rfl ?_)))
  obtain rfl := sj h
  refine Af (sm [(1000, 2002)] [(2, oD (.own 1000))] [(1000, .vec 1 (v2.map An))] rfl rfl) (Ap ?_)
  exact ⟨⟨[_], tm, rfl⟩, ⟨rfl, tv⟩⟩
theorem Ks (N : Nat) (p0 : Ab) (p1 : Ab) (r : Int) (h : D4 N p0 p1 = some r) : Ao zA0 101 [.e (.agg (Ay p0)), .e (.agg (Ay p1))] [] (iD r) := by
 unfold D4 at h
 refine cw (n := 30) (rs := [.tmp 4]) Tryz.func101 fun w0 S0 => ?_
 refine wq rfl (qb rfl (qb rfl (qa rfl (Ac (wp rfl (qf CC rfl (ql A2 rfl (qf CC rfl (ql A2 rfl ?_)))))))))
 refine B4 h fun v1 a1 h => Ax [] (Hd N p0.fc p1.fc v1 a1) UJ rfl (qa rfl (Ac (wq rfl (qm rfl (BH rfl (Ac ?_))))))
 refine Bc h (fun h => ?_) fun h => ?_
 ·refine wq rfl (qm rfl (qe rfl ?_))
  obtain rfl := sj h
  refine Af (sm [] [(4, iD v1)] [] rfl rfl) (Ap ?_)
  exact ⟨⟨[_], tm, rfl⟩, tv⟩
 ·refine Al (wp rfl (qf Bs rfl (ql A2 rfl (qf Bs rfl (ql A2 rfl ?_)))))
  refine B4 h fun v3 a3 h => Ax [] (Hd N p0.fa p1.fa v3 a3) UJ rfl (qa rfl (Ac (wq rfl (qm rfl (BH rfl (Ac ?_))))))
  refine Bc h (fun h => ?_) fun h => ?_
  ·refine wq rfl (qm rfl (qe rfl ?_))
   obtain rfl := sj h
   refine Af (sm [] [(4, iD v3)] [] rfl rfl) (Ap ?_)
   exact ⟨⟨[_], tm, rfl⟩, tv⟩
  ·refine Al (wq rfl (qf CG rfl (ql G4 rfl ?_)))
   refine B4 h fun v5 a5 h => Ax [2001] (HP N p0.fd v5 a5) Xs rfl (qf CG rfl (ql G4 rfl ?_))
   refine B4 h fun v6 a6 h => Ax [2002] (HP N p1.fd v6 a6) Xs rfl ?_
   refine B4 h fun v7 a7 h => Ej [] [2001, 2002] (Hd N v5 v6 v7 a7) UJ CR rfl (qa rfl (AO (by kernel_rfl) ?_))
   obtain rfl := sj h
   refine Af (sm [] [(4, iD v7)] [] rfl rfl) (Ap ?_)
   exact ⟨⟨[_], tm, rfl⟩, tv⟩
theorem Lt (N : Nat) (p0 : Ab) (p1 : Ab) (r : Bool) (h : EB N p0 p1 = some r) : Ao zA0 84 [.e (.agg (Ay p0)), .e (.agg (Ay p1))] [] (bD r) := by
 unfold EB at h
 refine cw (n := 9) (rs := [.tmp 4]) Tryz.func84 fun w0 S0 => ?_
 refine wq rfl (qb rfl (qb rfl (qa rfl (Ac (wq rfl (qL A5 AK rfl (qL A5 AK rfl ?_)))))))
 refine B4 h fun v1 a1 h => Ax [] (Ks N p0 p1 v1 a1) ZA rfl (BZ rfl (qe rfl ?_))
 obtain rfl := sj h
 refine Af (sm [] [(4, bD ((v1 == 0)))] [] rfl rfl) (Ap ?_)
 exact ⟨⟨[_], tm, rfl⟩, tv⟩
theorem Me (N : Nat) (p0 : List AC) (p1 : Ab) (r : Int) (h : D9 N p0 p1 = some r) : Ao zA0 56 [pD (.sl (p0.map Br)), .e (.agg (Ay p1))] [] (iD r) := by
 unfold D9 at h
 refine cw (n := 20) (rs := [.tmp 4]) Tryz.func56 fun w0 S0 => ?_
 refine wq rfl (qb rfl (qa rfl (Ac (wp rfl (qe rfl ?_)))))
 refine AI (L := Co N p0 p1) h (fun v1 => mk [(0, pD (.sl (p0.map Br))), (3, oD (.ptr 3 0)), (5, iD v1)] [(3, .box (Ay p1))]) (fun v2 => mk [] []) (fun _ _ => rfl) (sm [] _ _ rfl rfl) (fun j1 n1 v1 h => ?_) (fun v2 s h hs => ?_)
 ·unfold Co at h
  refine wp rfl (qw 2 rfl (AJ JP rfl (A0 rfl (Ac ?_))))
  refine Bc h (fun h => ?_) fun h => ?_
  ·refine Al (AQ (AM (wq rfl (qw 2 rfl ?_))))
   refine BV h fun v4 a4 b4 h => qi JP NP a4 (Ag b4) rfl (qg K0 rfl (qK A5 AK rfl (qL A5 AK rfl ?_)))
   refine B4 h fun v5 a5 h => Ax [] (Lt N ((Ab.mk v4.fu.fc v4.fu.fa v4.fu.fd)) p1 v5 a5) bd rfl (AO (by kernel_rfl) ?_)
   refine Bc h (fun h => ?_) fun h => ?_
   ·refine wq rfl (qm rfl (qe rfl ?_))
    obtain rfl := sj h
    refine Af (sm [] [(4, iD v1)] [] rfl rfl) (Ap ?_)
    exact ⟨⟨[_], tm, rfl⟩, tv⟩
   ·refine Al (Ah AA rfl (qm rfl (A9 rfl (qe rfl ?_))))
    exact sn [] h
  ·refine AX ?_
   exact sn [] h
 ·refine Af hs (wq rfl (qe rfl ?_))
  obtain rfl := sj h
  refine Af (sm [] [(4, iD ((-1)))] [] rfl rfl) (Ap ?_)
  exact ⟨⟨[_], tm, rfl⟩, tv⟩
theorem GJ (N : Nat) (p0 : Aa) (p1 : Ab) (p2 : Int) (r : (List AC) × Bool) (h : B2 N p0 p1 p2 = some r) : Ao zA0 28 [.e (.agg (Ae p0)), .e (.agg (Ay p1)), iD p2] [(7, r.1.map Br)] (.tup [.one (.own 0), .one (.pure (.val (.bool r.2)))]) := by
 unfold B2 at h
 refine cw (n := 74) (rs := [.tmp 6, .tmp 7]) Tryz.func28 fun w0 S0 => ?_
 refine wq rfl (qb rfl (qb rfl (qa rfl (qa rfl (Ac (wq rfl (qL A5 AK rfl (AU Rr Xh rfl (Em JP NP Rr rfl (qa rfl (Ac (wp rfl (qe rfl ?_)))))))))))))
 refine AI (L := BK N p0 p2) h (fun v1 => mk [(2, iD p2), (3, oD (.ptr 3 0)), (8, oD (.own 2001)), (9, iD v1.2)] [(3, .box (Ae p0)), (2001, .vec 7 (v1.1.map Br))]) (fun v2 => mk [(8, oD (.own 2002))] [(2002, .vec 7 (v2.map Br))]) (fun _ _ => rfl) (sm [(2001, 16)] _ _ rfl rfl) (fun j1 n1 v1 h => ?_) (fun v2 s h hs => ?_)
 ·unfold BK at h
  refine wp rfl (qw 2 rfl (F0 JP rfl (A0 rfl (Ac ?_))))
  refine Bc h (fun h => ?_) fun h => ?_
  ·refine Al (AQ (AM (wq rfl (qL Cz BS rfl (qw 2 rfl ?_)))))
   refine BV h fun v4 a4 b4 h => qI JP NP a4 (Ag b4) rfl (qh K0 rfl ?_)
   refine Rb (.p rfl) rfl A5 AK rfl (Ag b4) rfl rfl (by decide) ?_
   refine B4 h fun v5 a5 h => Ax [2003] (Lx N p0 ((Ab.mk v4.fu.fc v4.fu.fa v4.fu.fd)) v5 a5) aP rfl (qa rfl (AO (by kernel_rfl) (wq rfl (qe rfl ?_))))
   refine AI (L := BL N p0 p2 v1 v5) h (fun v6 => mk [(2, iD p2), (3, oD (.ptr 3 0)), (8, oD (.own 2004)), (9, iD v1.2), (10, oD (.own 2005)), (11, iD v6.2)] [(3, .box (Ae p0)), (2004, .vec 7 (v6.1.map Br)), (2005, .vec 3 (v5.map Aq))]) (fun v7 => mk [(2, iD p2), (3, oD (.ptr 3 0)), (8, oD (.own 2006)), (9, iD v1.2)] [(3, .box (Ae p0)), (2006, .vec 7 (v7.map Br))]) (fun _ _ => rfl) (sm [(2004, 2001), (2005, 2003)] _ _ rfl rfl) (fun j6 n6 v6 h => ?_) (fun v7 s h hs => ?_)
   ·unfold BL at h
    refine wp rfl (qw 2 rfl (F0 CN rfl (A0 rfl (Ac ?_))))
    refine Bc h (fun h => ?_) fun h => ?_
    ·refine Al (AQ (AM (wq rfl (qL Cz BS rfl (qw 2 rfl ?_)))))
     refine BV h fun v9 a9 b9 h => qI JP NP a9 (Ag b9) rfl (qh K0 rfl ?_)
     refine Rb (.p rfl) rfl A5 AK rfl (Ag b9) rfl rfl (by decide) ?_
     refine qw 2 rfl ?_
     refine BV h fun v10 a10 b10 h => qI CN Do a10 (Ag b10) rfl (qJ Hr Do (Ag b10) rfl ?_)
     refine B4 h fun v11 a11 h => Ax [2007, 2008, 2009] (GM N p0 ((Ab.mk v9.fu.fc v9.fu.fa v9.fu.fd)) v10 v11 a11) X7 rfl (qm rfl (qx rfl (qx rfl (qz CH rfl (qs AK rfl (qa rfl (AO (by kernel_rfl) ?_)))))))
     refine AP h (fun v12 => mk [(2, iD p2), (3, oD (.ptr 3 0)), (8, oD (.own 2010)), (9, iD v1.2), (10, oD (.own 2011)), (11, iD v6.2)] [(3, .box (Ae p0)), (2010, .vec 7 (v12.map Br)), (2011, .vec 3 (v5.map Aq))]) (fun j12 h => ?_) (fun v12 h => ?_)
     ·refine AP h (fun v13 => mk [(2, iD p2), (3, oD (.ptr 3 0)), (8, oD (.own 2015)), (9, iD v1.2), (10, oD (.own 2016)), (11, iD v6.2), (12, oD (.ptr 12 0)), (58, bD v13)] [(3, .box (Ae p0)), (12, .box [.own 2012, .own 2013, .own 2014]), (2012, .vec 1 (v11.1.fc.map An)), (2013, .vec 1 (v11.1.fa.map An)), (2014, .vec 1 (v11.1.fd.map C3)), (2015, .vec 7 (v6.1.map Br)), (2016, .vec 3 (v5.map Aq))]) (fun j13 h => ?_) (fun v13 h => ?_)
      ·refine Ah AA rfl (qL Cz BS rfl (qL A5 AK rfl ?_))
       refine B4 h fun v14 a14 h => Ej [] [2007, 2008, 2009] (Ht N p0 v11.1 v14 a14) Zc CR rfl (qm rfl ?_)
       refine Ew 53 h rfl (fun h => ?_) fun h => ?_
       ·refine qm rfl (qL A5 AK rfl ?_)
        refine B4 h fun v16 a16 h => Ej [] [2004, 2007, 2008, 2009] (Me N v6.1 v11.1 v16 a16) ba CR rfl (A0 rfl (qp rfl (Ac ?_)))
        exact sn [(2012, 2007), (2013, 2008), (2014, 2009), (2015, 2004), (2016, 2005)] h
       ·refine qw 4 rfl (qp rfl (Ac ?_))
        exact sn [(2012, 2007), (2013, 2008), (2014, 2009), (2015, 2004), (2016, 2005)] h
      ·refine Bc h (fun h => ?_) fun h => ?_
       ·refine Af (AY 2012 _ _ rfl rfl) (Af (AY 2013 _ _ rfl rfl) (Af (AY 2014 _ _ rfl rfl) (Ah AA rfl (qm rfl (qL A5 AK rfl (qw 3 rfl ?_))))))
        refine BV h fun v18 a18 b18 h => qI CN Do a18 (Ag b18) rfl (qJ Hr Do (Ag b18) rfl (AU Rr Xh rfl (Em JP NP Rr rfl ?_)))
        refine Gl h fun c19 h => DQ (f := Br) JP JP NP XU Rr c19 rfl (qa rfl (AO (by kernel_rfl) ?_))
        exact sn [(2010, 68), (2011, 2016)] h
       ·refine Al ?_
        exact sn [(2010, 2015), (2011, 2016)] h
     ·refine wq rfl (qm rfl (F0 JP rfl (qm rfl (Gk rfl (Ac ?_)))))
      refine Bc h (fun h => ?_) fun h => ?_
      ·refine wq rfl (qa rfl (qe rfl ?_))
       obtain rfl := sj h
       refine Af ((BP 6 2017 7 rfl rfl rfl).trans (sm [(1000, 2017)] [(6, oD (.own 1000)), (7, bD false)] [(1000, .vec 7 ((([] : List AC)).map Br))] rfl rfl)) (Ap ?_)
       exact ⟨⟨[_, _], ⟨.tmp _ _ rfl, tm⟩, rfl⟩, ⟨rfl, tv⟩⟩
      ·refine Al (Ah AA rfl (qm rfl (A9 rfl (qe rfl ?_))))
       exact sn [(2004, 2010), (2005, 2011)] h
    ·refine AX ?_
     exact sn [(2006, 2004)] h
   ·refine Af hs (Ah AA rfl (qm rfl (A9 rfl (qe rfl ?_))))
    exact sn [(2001, 2006)] h
  ·refine AX ?_
   exact sn [(2002, 2001)] h
 ·refine Af hs (wq rfl (qm rfl (qa rfl (qe rfl ?_))))
  obtain rfl := sj h
  refine Af (sm [(1000, 2002)] [(6, oD (.own 1000)), (7, bD true)] [(1000, .vec 7 (v2.map Br))] rfl rfl) (Ap ?_)
  exact ⟨⟨[_, _], ⟨.tmp _ _ rfl, tm⟩, rfl⟩, ⟨rfl, tv⟩⟩
theorem Lr (N : Nat) (p0 : Aa) (p1 : Int) (r : Bool) (h : EM N p0 p1 = some r) : Ao zA0 14 [.e (.agg (Ae p0)), iD p1] [] (bD r) := by
 unfold EM at h
 refine cw (n := 30) (rs := [.tmp 4]) Tryz.func14 fun w0 S0 => ?_
 refine wq rfl (qb rfl (qa rfl (Ac (wq rfl (qL Cz BS rfl ?_)))))
 refine B4 h fun v1 a1 h => Ax [2001, 2002, 2003] (GK N p0 v1 a1) Ym rfl (qm rfl (qx rfl (qx rfl (qz CH rfl (qs AK rfl (qa rfl (Ac (AQ ?_))))))))
 refine AP h (fun v2 => mk [(1, iD p1), (2, oD (.ptr 2 0)), (5, oD (.ptr 5 0)), (21, bD v2)] [(2, .box (Ae p0)), (5, .box [.own 2004, .own 2005, .own 2006]), (2004, .vec 1 (v1.1.fc.map An)), (2005, .vec 1 (v1.1.fa.map An)), (2006, .vec 1 (v1.1.fd.map C3))]) (fun j2 h => ?_) (fun v2 h => ?_)
 ·refine Ah AA rfl (qm rfl (BH rfl (qm rfl ?_)))
  refine Ew 16 h rfl (fun h => ?_) fun h => ?_
  ·refine qw 4 rfl (qp rfl (Ac ?_))
   exact sn [(2004, 2001), (2005, 2002), (2006, 2003)] h
  ·refine qL Cz BS rfl (qL A5 AK rfl ?_)
   refine B4 h fun v4 a4 h => Ej [] [2001, 2002, 2003] (Ht N p0 v1.1 v4 a4) Zc CR rfl (CD rfl (qp rfl (Ac ?_)))
   exact sn [(2004, 2001), (2005, 2002), (2006, 2003)] h
 ·refine Bc h (fun h => ?_) fun h => ?_
  ·refine wq rfl (qe rfl ?_)
   obtain rfl := sj h
   refine Af (sm [] [(4, bD true)] [] rfl rfl) (Ap ?_)
   exact ⟨⟨[_], tm, rfl⟩, tv⟩
  ·refine Al (wq rfl (qL Cz BS rfl (qL A5 AK rfl (qm rfl (C2 (AY 2004 _ _ rfl rfl) (C2 (AY 2005 _ _ rfl rfl) (C2 (AY 2006 _ _ rfl rfl) ?_)))))))
   refine B4 h fun v6 a6 h => Ax [2007] (GJ N p0 v1.1 p1 v6 a6) XK rfl (qm rfl (qx rfl (qx rfl (qa rfl (qa rfl (Ac (wq rfl (qm rfl (qe rfl ?_)))))))))
   obtain rfl := sj h
   refine Af (sm [] [(4, bD v6.2)] [] rfl rfl) (Ap ?_)
   exact ⟨⟨[_], tm, rfl⟩, tv⟩
theorem ND (N : Nat) (p0 : BA) (r : Aa × Bool) (h : Fr N p0 = some r) : Ao zA0 5 [.e (.agg (Cp p0))] [(1, r.1.fb.map An), (1, r.1.fj.map An), (1, r.1.fm.map An), (6, r.1.fe.map AV)] (.tup [.agg [.own 0, .own 1, .own 2, .own 3], .one (.pure (.val (.bool r.2)))]) := by
 unfold Fr at h
 refine cw (n := 17) (rs := [.cell 2 31, .tmp 3]) Tryz.func5 fun w0 S0 => ?_
 refine wq rfl (qb rfl (qz L2 rfl (qa rfl (Ac (wq rfl (qL Y1 ZC rfl ?_))))))
 refine B4 h fun v1 a1 h => Ax [2001, 2002, 2003, 2004] (Ng N p0 v1 a1) aB rfl (qm rfl (qx rfl (qx rfl (qz L2 rfl (qs BS rfl (qe rfl ?_))))))
 refine AP h (fun v2 => mk [(2, oD (.ptr 2 0)), (3, bD v2)] [(2, .box [.own 2005, .own 2006, .own 2007, .own 2008]), (2005, .vec 1 (v1.1.fb.map An)), (2006, .vec 1 (v1.1.fj.map An)), (2007, .vec 1 (v1.1.fm.map An)), (2008, .vec 6 (v1.1.fe.map AV))]) (fun j2 h => ?_) (fun v2 h => ?_)
 ·refine Ah AA rfl (qL Cz BS rfl (qw 2 rfl ?_))
  refine Ew 13 h rfl (fun h => ?_) fun h => ?_
  ·refine qL Cz BS rfl ?_
   refine B4 h fun v4 a4 h => Ej [] [2001, 2002, 2003, 2004] (Lr N v1.1 120 v4 a4) aY CR rfl (qp rfl (qs BS rfl (qa rfl (AO (by kernel_rfl) ?_))))
   exact sn [(2005, 2001), (2006, 2002), (2007, 2003), (2008, 2004)] h
  ·refine qw 2 rfl (qp rfl (qs BS rfl (qa rfl (AO (by kernel_rfl) ?_))))
   exact sn [(2005, 2001), (2006, 2002), (2007, 2003), (2008, 2004)] h
 ·obtain rfl := sj h
  refine Af (sm [(1000, 2005), (1001, 2006), (1002, 2007), (1003, 2008)] [(2, oD (.ptr 2 0)), (3, bD v2)] [(2, .box [.own 1000, .own 1001, .own 1002, .own 1003]), (1000, .vec 1 (v1.1.fb.map An)), (1001, .vec 1 (v1.1.fj.map An)), (1002, .vec 1 (v1.1.fm.map An)), (1003, .vec 6 (v1.1.fe.map AV))] rfl rfl) (Ap ?_)
  exact ⟨⟨[_, _], ⟨.cellN _ _ _ _ _ _ _ rfl rfl Cz BS rfl rfl (Gn rfl), tm⟩, rfl⟩, ⟨rfl, rfl, rfl, rfl, tv⟩⟩
theorem LB (N : Nat) (p0 : Int) (r : Bool) (h : EE N p0 = some r) : Ao zA0 19 [iD p0] [] (bD r) := by
 unfold EE at h
 refine cw (n := 5) (rs := [.tmp 2]) Tryz.func19 fun w0 S0 => ?_
 refine wq rfl (qa rfl (Ac (wq rfl (qm rfl (EO rfl (qe rfl ?_))))))
 obtain rfl := sj h
 refine Af (sm [] [(2, bD ((decide (0 ≤ p0))))] [] rfl rfl) (Ap ?_)
 exact ⟨⟨[_], tm, rfl⟩, tv⟩
theorem Lo (N : Nat) (p0 : Int) (p1 : List Bool) (r : Bool) (h : Fs N p0 p1 = some r) : EP zA0 20 [iD p0, oD (.ptr 90000 0)] [(.box [.own 90001], .box [.own 90001]), (.vec 1 (p1.map eB), .vec 1 (p1.map eB))] [] (bD r) := by
 unfold Fs at h
 refine E3 (n := 8) (rs := [.tmp 3]) Tryz.func20 rfl rfl rfl (HO rfl) (HO rfl) rfl rfl (HO rfl) rfl (HO rfl) fun w0 S0 GL => ?_
 refine Af (sm [] [(0, iD p0), (1, oD (.ptr 90000 0))] [(90000, .box [.own 90001]), (90001, .vec 1 (p1.map eB))] rfl rfl) (wq rfl (qa rfl (Ac (wq rfl (ql L6 rfl (qm rfl ?_))))))
 refine BV h fun v1 a1 b1 h => qI Fa Nb a1 (Ag b1) rfl (qj QW (Ag b1) rfl (qe rfl ?_))
 obtain rfl := sj h
 refine Af (sm [] [(3, bD v1)] [(90000, .box [.own 90001]), (90001, .vec 1 (p1.map eB))] rfl rfl) (Ap ?_)
 exact ⟨⟨[_], tm, rfl⟩, ⟨rfl, rfl, tv⟩, tv⟩
theorem Is (N : Nat) (p0 : List Int) (p1 : List Bool) (r : Int) (h : DA N p0 p1 = some r) : EP zA0 46 [pD (.sl (p0.map An)), oD (.cls 20 [.ptr 90000 0])] [(.box [.own 90001], .box [.own 90001]), (.vec 1 (p1.map eB), .vec 1 (p1.map eB))] [] (iD r) := by
 unfold DA at h
 refine E3 (n := 19) (rs := [.tmp 4]) Tryz.func46 rfl rfl rfl (HO rfl) (HO rfl) rfl rfl (HO rfl) rfl (HO rfl) fun w0 S0 GL => ?_
 refine Af (sm [] [(0, pD (.sl (p0.map An))), (1, oD (.cls 20 [.ptr 90000 0]))] [(90000, .box [.own 90001]), (90001, .vec 1 (p1.map eB))] rfl rfl) (wq rfl (qa rfl (Ac (wp rfl (qm rfl (AJ Az rfl (qm rfl (Ac ?_))))))))
 refine AI (L := Bp N p0 p1) h (fun v1 => mk [(0, pD (.sl (p0.map An))), (1, oD (.cls 20 [.ptr 90000 0])), (7, iD ((p0.length : Int))), (8, iD v1)] [(90000, .box [.own 90001]), (90001, .vec 1 (p1.map eB))]) (fun v2 => mk [] [(90000, .box [.own 90001]), (90001, .vec 1 (p1.map eB))]) (fun _ _ => rfl) (sm [] _ _ rfl rfl) (fun j1 n1 v1 h => ?_) (fun v2 s h hs => ?_)
 ·unfold Bp at h
  refine wq rfl (A0 rfl (Ac (AQ ?_)))
  refine Bc h (fun h => ?_) fun h => ?_
  ·refine Al (AQ (AM (wq rfl (qm rfl (qa rfl (Ac (wq rfl (qw 3 rfl ?_))))))))
   refine BV h fun v4 a4 b4 h => qi Az De a4 (Ag b4) rfl (qk Ce rfl ?_)
   refine B4 h fun v5 a5 h => Wm (ds0 := [_]) [90000, 90001] [] [false, false] (Lo N v4 p1 v5 a5) (.p rfl) rfl Z8 rfl ⟨rfl, tv⟩ rfl rfl (by decide) ⟨rfl, rfl, tv⟩ rfl (GA rfl) tv ⟨(fun _ => rfl), (fun _ => rfl), tv⟩ rfl rfl rfl ?_
   refine Ac ?_
   refine Bc h (fun h => ?_) fun h => ?_
   ·refine wq rfl (qm rfl (qe rfl ?_))
    obtain rfl := sj h
    refine Af (sm [] [(4, iD v1)] [(90000, .box [.own 90001]), (90001, .vec 1 (p1.map eB))] rfl rfl) (Ap ?_)
    exact ⟨⟨[_], tm, rfl⟩, ⟨rfl, rfl, tv⟩, tv⟩
   ·refine Al (Ah AA rfl (A9 rfl (qm rfl (Ac ?_))))
    exact sn [] h
  ·refine AX ?_
   exact sn [] h
 ·refine Af hs (wq rfl (qe rfl ?_))
  obtain rfl := sj h
  refine Af (sm [] [(4, iD ((-1)))] [(90000, .box [.own 90001]), (90001, .vec 1 (p1.map eB))] rfl rfl) (Ap ?_)
  exact ⟨⟨[_], tm, rfl⟩, ⟨rfl, rfl, tv⟩, tv⟩
theorem HM (N : Nat) (p0 : List Int) (p1 : List Bool) (r : Bool) (h : Cm N p0 p1 = some r) : EP zA0 18 [pD (.sl (p0.map An)), oD (.cls 20 [.ptr 90000 0])] [(.box [.own 90001], .box [.own 90001]), (.vec 1 (p1.map eB), .vec 1 (p1.map eB))] [] (bD r) := by
 unfold Cm at h
 refine E3 (n := 9) (rs := [.tmp 4]) Tryz.func18 rfl rfl rfl (HO rfl) (HO rfl) rfl rfl (HO rfl) rfl (HO rfl) fun w0 S0 GL => ?_
 refine Af (sm [] [(0, pD (.sl (p0.map An))), (1, oD (.cls 20 [.ptr 90000 0]))] [(90000, .box [.own 90001]), (90001, .vec 1 (p1.map eB))] rfl rfl) (wq rfl (qa rfl (Ac (wq rfl (qw 2 rfl ?_)))))
 refine B4 h fun v1 a1 h => Lk (ds0 := [_, _]) [90000, 90001] [] [false, false] (Is N p0 p1 v1 a1) (.p rfl) YK rfl ⟨rfl, rfl, tv⟩ rfl rfl (by decide) ⟨rfl, rfl, tv⟩ rfl (GA rfl) tv ⟨(fun _ => rfl), (fun _ => rfl), tv⟩ rfl rfl rfl ?_
 refine EO rfl (qe rfl ?_)
 obtain rfl := sj h
 refine Af (sm [] [(4, bD ((decide (0 ≤ v1))))] [(90000, .box [.own 90001]), (90001, .vec 1 (p1.map eB))] rfl rfl) (Ap ?_)
 exact ⟨⟨[_], tm, rfl⟩, ⟨rfl, rfl, tv⟩, tv⟩
theorem SZ (N : Nat) (p0 : Aa) (p1 : Ab) (p2 : List Ad) (r : (List Ab) × Int × Int) (h : Gv N p0 p1 p2 = some r) : Ao zA0 21 [.e (.agg (Ae p0)), .e (.agg (Ay p1)), pD (.sl (p2.map Aq))] [(3, r.1.map CI)] (.tup [.one (.own 0), .one (iC r.2.1), .one (iC r.2.2)]) := by
 unfold Gv at h
 refine cw (n := 53) (rs := [.tmp 6, .tmp 7, .tmp 8]) Tryz.func21 fun w0 S0 => ?_
 refine wq rfl (qb rfl (qb rfl (qa rfl (qa rfl (qa rfl (Ac (wp rfl (qL Cz BS rfl (qL A5 AK rfl ?_)))))))))
 refine B4 h fun v1 a1 h => Ax [] (Im N p0 p1 v1 a1) Uv rfl (qa rfl (Ac (wq rfl (qm rfl (BH rfl (Ac ?_))))))
 refine Bc h (fun h => ?_) fun h => ?_
 ·refine wq rfl (qm rfl (qa rfl (qa rfl (qe rfl ?_))))
  obtain rfl := sj h
  refine Af ((BP 6 2001 3 rfl rfl rfl).trans (sm [(1000, 2001)] [(6, oD (.own 1000)), (7, iD 0), (8, iD v1)] [(1000, .vec 3 ((([] : List Ab)).map CI))] rfl rfl)) (Ap ?_)
  exact ⟨⟨[_, _, _], ⟨.tmp _ _ rfl, ⟨.tmp _ _ rfl, tm⟩⟩, rfl⟩, ⟨rfl, tv⟩⟩
 ·refine Al (wq rfl (qL A5 AK rfl ?_))
  refine B4 h fun v3 a3 h => Ax [2002, 2003, 2004] (LG N p1 v3 a3) YZ rfl (C2 (AY 2002 _ _ rfl rfl) (C2 (AY 2003 _ _ rfl rfl) (C2 (AY 2004 _ _ rfl rfl) (Em Hi AK CH rfl (qa rfl (Ac (wp rfl (qm rfl (AJ CN rfl (qm rfl (Ac ?_)))))))))))
  refine AI (L := FD N p0 p2) h (fun v4 => mk [(2, pD (.sl (p2.map Aq))), (3, oD (.ptr 3 0)), (10, oD (.own 2005)), (24, pD (.sl (p2.map Aq))), (25, iD ((p2.length : Int))), (26, iD v4.2)] [(3, .box (Ae p0)), (2005, .vec 3 (v4.1.map CI))]) (fun v5 => mk [(2, pD (.sl (p2.map Aq))), (10, oD (.own 2006))] [(2006, .vec 3 (v5.map CI))]) (fun _ _ => rfl) (sm [(2005, 23)] _ _ rfl rfl) (fun j4 n4 v4 h => ?_) (fun v5 s h hs => ?_)
  ·unfold FD at h
   refine wq rfl (A0 rfl (Ac (AQ ?_)))
   refine Bc h (fun h => ?_) fun h => ?_
   ·refine Al (AQ (AM (wq rfl (qm rfl ?_))))
    refine BV h fun v7 a7 b7 h => qi CN Do a7 (Ag b7) rfl (qK Hr Do rfl (qz HR rfl (qa rfl (qs Do rfl (Ac (wq rfl (qL Cz BS rfl (qw 2 rfl ?_))))))))
    refine BV h fun v8 a8 b8 h => qI Hi AK a8 (Ag b8) rfl (qJ A5 AK (Ag b8) rfl (qL Hr Do rfl ?_))
    refine B4 h fun v9 a9 h => Ax [2007, 2008, 2009] (MM N p0 v8 v7 v9 a9) Y4 rfl (qm rfl (qx rfl (qx rfl (qz CH rfl (qs AK rfl (qa rfl (AO (by kernel_rfl) (wp rfl (qm rfl (BH rfl (Ac ?_)))))))))))
    refine Bc h (fun h => ?_) fun h => ?_
    ·refine wq rfl (qw 2 rfl (qa rfl (qa rfl (qe rfl ?_))))
     obtain rfl := sj h
     refine Af ((BP 6 2010 3 rfl rfl rfl).trans (sm [(1000, 2010)] [(6, oD (.own 1000)), (7, iD v4.2), (8, iD v9.2)] [(1000, .vec 3 ((([] : List Ab)).map CI))] rfl rfl)) (Ap ?_)
     exact ⟨⟨[_, _, _], ⟨.tmp _ _ rfl, ⟨.tmp _ _ rfl, tm⟩⟩, rfl⟩, ⟨rfl, tv⟩⟩
    ·refine Al (Ah AA rfl (qm rfl (qL A5 AK rfl (C2 (AY 2007 _ _ rfl rfl) (C2 (AY 2008 _ _ rfl rfl) (C2 (AY 2009 _ _ rfl rfl) (Em Hi AK CH rfl ?_)))))))
     refine Gl h fun c11 h => DQ (f := CI) Hi Hi AK Vp CH c11 rfl (qa rfl (Ac (Ah AA rfl (A9 rfl (qm rfl (Ac ?_))))))
     exact sn [(2005, 48)] h
   ·refine AX ?_
    exact sn [(2006, 2005)] h
  ·refine Af hs (wq rfl (qw 2 rfl (AJ CN rfl (qa rfl (qa rfl (qe rfl ?_))))))
   obtain rfl := sj h
   refine Af (sm [(1000, 2006)] [(6, oD (.own 1000)), (7, iD ((p2.length : Int))), (8, iD 0)] [(1000, .vec 3 (v5.map CI))] rfl rfl) (Ap ?_)
   exact ⟨⟨[_, _, _], ⟨.tmp _ _ rfl, ⟨.tmp _ _ rfl, tm⟩⟩, rfl⟩, ⟨rfl, tv⟩⟩
theorem Ko (N : Nat) (p0 : Int) (r : Bool) (h : FC N p0 = some r) : Ao zA0 97 [iD p0] [] (bD r) := by
 unfold FC at h
 refine cw (n := 6) (rs := [.tmp 2]) Tryz.func97 fun w0 S0 => ?_
 refine wq rfl (qa rfl (Ac (wq rfl (qw 2 rfl (BH rfl (qe rfl ?_))))))
 obtain rfl := sj h
 refine Af (sm [] [(2, bD ((p0 != p0)))] [] rfl rfl) (Ap ?_)
 exact ⟨⟨[_], tm, rfl⟩, tv⟩
theorem Mz (N : Nat) (p0 : Int) (p1 : Int) (r : Int) (h : Fb N p0 p1 = some r) : Ao zA0 79 [iD p0, iD p1] [] (iD r) := by
 unfold Fb at h
 refine cw (n := 20) (rs := [.tmp 4]) Tryz.func79 fun w0 S0 => ?_
 refine wq rfl (qa rfl (Ac (wq rfl (qm rfl ?_))))
 refine B4 h fun v1 a1 h => Ax [] (Ko N p0 v1 a1) ZP rfl (qa rfl (Ac (wq rfl (qm rfl ?_))))
 refine B4 h fun v2 a2 h => Ax [] (Ko N p1 v2 a2) ZP rfl (qa rfl (Ac (wp rfl (qm rfl (Ac ?_)))))
 refine Bc h (fun h => ?_) fun h => ?_
 ·refine wp rfl (qm rfl (Ac ?_))
  refine Bc h (fun h => ?_) fun h => ?_
  ·refine wq rfl (qe rfl ?_)
   obtain rfl := sj h
   refine Af (sm [] [(4, iD 0)] [] rfl rfl) (Ap ?_)
   exact ⟨⟨[_], tm, rfl⟩, tv⟩
  ·refine Al (wq rfl (qe rfl ?_))
   obtain rfl := sj h
   refine Af (sm [] [(4, iD ((-1)))] [] rfl rfl) (Ap ?_)
   exact ⟨⟨[_], tm, rfl⟩, tv⟩
 ·refine Al (wp rfl (qm rfl (Ac ?_)))
  refine Bc h (fun h => ?_) fun h => ?_
  ·refine wq rfl (qe rfl ?_)
   obtain rfl := sj h
   refine Af (sm [] [(4, iD 1)] [] rfl rfl) (Ap ?_)
   exact ⟨⟨[_], tm, rfl⟩, tv⟩
  ·refine Al (wp rfl (qw 2 rfl (A0 rfl (Ac ?_))))
   refine Bc h (fun h => ?_) fun h => ?_
   ·refine wq rfl (qe rfl ?_)
    obtain rfl := sj h
    refine Af (sm [] [(4, iD ((-1)))] [] rfl rfl) (Ap ?_)
    exact ⟨⟨[_], tm, rfl⟩, tv⟩
   ·refine Al (wp rfl (qw 2 rfl (Gk rfl (Ac ?_))))
    refine Bc h (fun h => ?_) fun h => ?_
    ·refine wq rfl (qe rfl ?_)
     obtain rfl := sj h
     refine Af (sm [] [(4, iD 1)] [] rfl rfl) (Ap ?_)
     exact ⟨⟨[_], tm, rfl⟩, tv⟩
    ·refine Al (wq rfl (qe rfl ?_))
     obtain rfl := sj h
     refine Af (sm [] [(4, iD 0)] [] rfl rfl) (Ap ?_)
     exact ⟨⟨[_], tm, rfl⟩, tv⟩
theorem GT (N : Nat) (p0 : List Int) (p1 : List Int) (r : Int) (h : CS N p0 p1 = some r) : Ao zA0 51 [pD (.sl (p0.map An)), pD (.sl (p1.map An))] [] (iD r) := by
 unfold CS at h
 refine cw (n := 36) (rs := [.tmp 4]) Tryz.func51 fun w0 S0 => ?_
 refine wq rfl (qa rfl (Ac (wp rfl (qm rfl (AJ Az rfl (qm rfl (Ac ?_)))))))
 refine AI (L := Cj N p0 p1) h (fun v1 => mk [(0, pD (.sl (p0.map An))), (1, pD (.sl (p1.map An))), (9, pD (.sl (p0.map An))), (10, iD ((p0.length : Int))), (11, iD v1)] []) (fun v2 => mk [(0, pD (.sl (p0.map An))), (1, pD (.sl (p1.map An)))] []) (fun _ _ => rfl) (sm [] _ _ rfl rfl) (fun j1 n1 v1 h => ?_) (fun v2 s h hs => ?_)
 ·unfold Cj at h
  refine wq rfl (A0 rfl (Ac (AQ ?_)))
  refine Bc h (fun h => ?_) fun h => ?_
  ·refine Al (AQ (AM (wq rfl (qm rfl ?_))))
   refine BV h fun v4 a4 b4 h => qi Az De a4 (Ag b4) rfl (qk Ce rfl (qa rfl (qa rfl (Ac (wp rfl (qw 2 rfl (AJ Az rfl (EO rfl (Ac ?_)))))))))
   refine Bc h (fun h => ?_) fun h => ?_
   ·refine wq rfl (qe rfl ?_)
    obtain rfl := sj h
    refine Af (sm [] [(4, iD 1)] [] rfl rfl) (Ap ?_)
    exact ⟨⟨[_], tm, rfl⟩, tv⟩
   ·refine Al (wq rfl (qw 2 rfl ?_))
    refine BV h fun v6 a6 b6 h => qi Az De a6 (Ag b6) rfl (qk Ce rfl (qa rfl (Ac (wq rfl (qw 2 rfl ?_)))))
    refine B4 h fun v7 a7 h => Ax [] (Mz N v4 v6 v7 a7) aK rfl (qa rfl (Ac (wq rfl (qm rfl (BH rfl (Ac ?_))))))
    refine Bc h (fun h => ?_) fun h => ?_
    ·refine wq rfl (qm rfl (qe rfl ?_))
     obtain rfl := sj h
     refine Af (sm [] [(4, iD v7)] [] rfl rfl) (Ap ?_)
     exact ⟨⟨[_], tm, rfl⟩, tv⟩
    ·refine Al (Ah AA rfl (A9 rfl (qm rfl (Ac ?_))))
     exact sn [] h
  ·refine AX ?_
   exact sn [] h
 ·refine Af hs (wp rfl (qm rfl (AJ Az rfl (qm rfl (AJ Az rfl (A0 rfl (Ac ?_)))))))
  refine Bc h (fun h => ?_) fun h => ?_
  ·refine wq rfl (qe rfl ?_)
   obtain rfl := sj h
   refine Af (sm [] [(4, iD ((-1)))] [] rfl rfl) (Ap ?_)
   exact ⟨⟨[_], tm, rfl⟩, tv⟩
  ·refine Al (wq rfl (qe rfl ?_))
   obtain rfl := sj h
   refine Af (sm [] [(4, iD 0)] [] rfl rfl) (Ap ?_)
   exact ⟨⟨[_], tm, rfl⟩, tv⟩
theorem Iu (N : Nat) (p0 : Int) (r : Bool) (h : EI N p0 = some r) : Ao zA0 98 [pD (.val (.int .u8 p0))] [] (bD r) := by
 unfold EI at h
 refine cw (n := 6) (rs := [.tmp 2]) Tryz.func98 fun w0 S0 => ?_
 refine wq rfl (qa rfl (Ac (wq rfl (qw 2 rfl (BH rfl (qe rfl ?_))))))
 obtain rfl := sj h
 refine Af (sm [] [(2, bD ((p0 != p0)))] [] rfl rfl) (Ap ?_)
 exact ⟨⟨[_], tm, rfl⟩, tv⟩
theorem Kq (N : Nat) (p0 : Int) (p1 : Int) (r : Int) (h : D6 N p0 p1 = some r) : Ao zA0 80 [pD (.val (.int .u8 p0)), pD (.val (.int .u8 p1))] [] (iD r) := by
 unfold D6 at h
 refine cw (n := 20) (rs := [.tmp 4]) Tryz.func80 fun w0 S0 => ?_
 refine wq rfl (qa rfl (Ac (wq rfl (qm rfl ?_))))
 refine B4 h fun v1 a1 h => Ax [] (Iu N p0 v1 a1) Zs rfl (qa rfl (Ac (wq rfl (qm rfl ?_))))
 refine B4 h fun v2 a2 h => Ax [] (Iu N p1 v2 a2) Zs rfl (qa rfl (Ac (wp rfl (qm rfl (Ac ?_)))))
 refine Bc h (fun h => ?_) fun h => ?_
 ·refine wp rfl (qm rfl (Ac ?_))
  refine Bc h (fun h => ?_) fun h => ?_
  ·refine wq rfl (qe rfl ?_)
   obtain rfl := sj h
   refine Af (sm [] [(4, iD 0)] [] rfl rfl) (Ap ?_)
   exact ⟨⟨[_], tm, rfl⟩, tv⟩
  ·refine Al (wq rfl (qe rfl ?_))
   obtain rfl := sj h
   refine Af (sm [] [(4, iD ((-1)))] [] rfl rfl) (Ap ?_)
   exact ⟨⟨[_], tm, rfl⟩, tv⟩
 ·refine Al (wp rfl (qm rfl (Ac ?_)))
  refine Bc h (fun h => ?_) fun h => ?_
  ·refine wq rfl (qe rfl ?_)
   obtain rfl := sj h
   refine Af (sm [] [(4, iD 1)] [] rfl rfl) (Ap ?_)
   exact ⟨⟨[_], tm, rfl⟩, tv⟩
  ·refine Al (wp rfl (qw 2 rfl (A0 rfl (Ac ?_))))
   refine Bc h (fun h => ?_) fun h => ?_
   ·refine wq rfl (qe rfl ?_)
    obtain rfl := sj h
    refine Af (sm [] [(4, iD ((-1)))] [] rfl rfl) (Ap ?_)
    exact ⟨⟨[_], tm, rfl⟩, tv⟩
   ·refine Al (wp rfl (qw 2 rfl (Gk rfl (Ac ?_))))
    refine Bc h (fun h => ?_) fun h => ?_
    ·refine wq rfl (qe rfl ?_)
     obtain rfl := sj h
     refine Af (sm [] [(4, iD 1)] [] rfl rfl) (Ap ?_)
     exact ⟨⟨[_], tm, rfl⟩, tv⟩
    ·refine Al (wq rfl (qe rfl ?_))
     obtain rfl := sj h
     refine Af (sm [] [(4, iD 0)] [] rfl rfl) (Ap ?_)
     exact ⟨⟨[_], tm, rfl⟩, tv⟩
theorem HJ (N : Nat) (p0 : List Int) (p1 : List Int) (r : Int) (h : Cf N p0 p1 = some r) : Ao zA0 52 [pD (.sl (p0.map C3)), pD (.sl (p1.map C3))] [] (iD r) := by
 unfold Cf at h
 refine cw (n := 36) (rs := [.tmp 4]) Tryz.func52 fun w0 S0 => ?_
 refine wq rfl (qa rfl (Ac (wp rfl (qm rfl (AJ Dj rfl (qm rfl (Ac ?_)))))))
 refine AI (L := Bq N p0 p1) h (fun v1 => mk [(0, pD (.sl (p0.map C3))), (1, pD (.sl (p1.map C3))), (9, pD (.sl (p0.map C3))), (10, iD ((p0.length : Int))), (11, iD v1)] []) (fun v2 => mk [(0, pD (.sl (p0.map C3))), (1, pD (.sl (p1.map C3)))] []) (fun _ _ => rfl) (sm [] _ _ rfl rfl) (fun j1 n1 v1 h => ?_) (fun v2 s h hs => ?_)
 ·unfold Bq at h
  refine wq rfl (A0 rfl (Ac (AQ ?_)))
  refine Bc h (fun h => ?_) fun h => ?_
  ·refine Al (AQ (AM (wq rfl (qm rfl ?_))))
   refine BV h fun v4 a4 b4 h => qi Dj F3 a4 (Ag b4) rfl (qk Kj rfl (qa rfl (qa rfl (Ac (wp rfl (qw 2 rfl (AJ Dj rfl (EO rfl (Ac ?_)))))))))
   refine Bc h (fun h => ?_) fun h => ?_
   ·refine wq rfl (qe rfl ?_)
    obtain rfl := sj h
    refine Af (sm [] [(4, iD 1)] [] rfl rfl) (Ap ?_)
    exact ⟨⟨[_], tm, rfl⟩, tv⟩
   ·refine Al (wq rfl (qw 2 rfl ?_))
    refine BV h fun v6 a6 b6 h => qi Dj F3 a6 (Ag b6) rfl (qk Kj rfl (qa rfl (Ac (wq rfl (qw 2 rfl ?_)))))
    refine B4 h fun v7 a7 h => Ax [] (Kq N v4 v6 v7 a7) Z0 rfl (qa rfl (Ac (wq rfl (qm rfl (BH rfl (Ac ?_))))))
    refine Bc h (fun h => ?_) fun h => ?_
    ·refine wq rfl (qm rfl (qe rfl ?_))
     obtain rfl := sj h
     refine Af (sm [] [(4, iD v7)] [] rfl rfl) (Ap ?_)
     exact ⟨⟨[_], tm, rfl⟩, tv⟩
    ·refine Al (Ah AA rfl (A9 rfl (qm rfl (Ac ?_))))
     exact sn [] h
  ·refine AX ?_
   exact sn [] h
 ·refine Af hs (wp rfl (qm rfl (AJ Dj rfl (qm rfl (AJ Dj rfl (A0 rfl (Ac ?_)))))))
  refine Bc h (fun h => ?_) fun h => ?_
  ·refine wq rfl (qe rfl ?_)
   obtain rfl := sj h
   refine Af (sm [] [(4, iD ((-1)))] [] rfl rfl) (Ap ?_)
   exact ⟨⟨[_], tm, rfl⟩, tv⟩
  ·refine Al (wq rfl (qe rfl ?_))
   obtain rfl := sj h
   refine Af (sm [] [(4, iD 0)] [] rfl rfl) (Ap ?_)
   exact ⟨⟨[_], tm, rfl⟩, tv⟩
theorem Ql (N : Nat) (p0 : List Int) (r : Int) (h : G1 N p0 = some r) : Ao zA0 50 [pD (.sl (p0.map An))] [] (iD r) := by
 unfold G1 at h
 refine cw (n := 18) (rs := [.tmp 2]) Tryz.func50 fun w0 S0 => ?_
 refine wq rfl (qa rfl (Ac (wq rfl (qa rfl (Ac (wp rfl (qm rfl (AJ Az rfl (qm rfl (Ac ?_))))))))))
 refine AI (L := E2 N p0) h (fun v1 => mk [(3, iD 0), (6, pD (.sl (p0.map An))), (7, iD ((p0.length : Int))), (8, iD v1)] []) (fun v2 => mk [(3, iD 0)] []) (fun _ _ => rfl) (sm [] _ _ rfl rfl) (fun j1 n1 v1 h => ?_) (fun v2 s h hs => ?_)
 ·unfold E2 at h
  refine wq rfl (A0 rfl (Ac (AQ ?_)))
  refine Bc h (fun h => ?_) fun h => ?_
  ·refine Al (AQ (AM (wq rfl ?_)))
   refine BV h fun v4 a4 b4 h => qi Az De a4 (Ag b4) rfl (qk Ce rfl (qa rfl (Ac (wq rfl (qw 2 rfl (BH rfl (Ac ?_)))))))
   refine Bc h (fun h => ?_) fun h => ?_
   ·refine wq rfl (qm rfl (qe rfl ?_))
    obtain rfl := sj h
    refine Af (sm [] [(2, iD v4)] [] rfl rfl) (Ap ?_)
    exact ⟨⟨[_], tm, rfl⟩, tv⟩
   ·refine Al (Ah AA rfl (A9 rfl (qm rfl (Ac ?_))))
    exact sn [] h
  ·refine AX ?_
   exact sn [] h
 ·refine Af hs (wq rfl (qm rfl (qe rfl ?_)))
  obtain rfl := sj h
  refine Af (sm [] [(2, iD 0)] [] rfl rfl) (Ap ?_)
  exact ⟨⟨[_], tm, rfl⟩, tv⟩
theorem Pt (N : Nat) (p0 : Ab) (p1 : Ab) (r : Int) (h : Gx N p0 p1 = some r) : Ao zA0 24 [.e (.agg (Ay p0)), .e (.agg (Ay p1))] [] (iD r) := by
 unfold Gx at h
 refine cw (n := 22) (rs := [.tmp 4]) Tryz.func24 fun w0 S0 => ?_
 refine wq rfl (qb rfl (qb rfl (qa rfl (Ac (wq rfl (qf CC rfl (ql A2 rfl (qf CC rfl (ql A2 rfl ?_)))))))))
 refine B4 h fun v1 a1 h => Ax [] (GT N p0.fc p1.fc v1 a1) ZB rfl (qf Bs rfl (ql A2 rfl (qf Bs rfl (ql A2 rfl ?_))))
 refine B4 h fun v2 a2 h => Ax [] (GT N p0.fa p1.fa v2 a2) ZB rfl (qf CG rfl (ql G4 rfl (qf CG rfl (ql G4 rfl ?_))))
 refine B4 h fun v3 a3 h => Ax [] (HJ N p0.fd p1.fd v3 a3) ap rfl (Em Az De Kh rfl ?_)
 refine B4 h fun v4 a4 h => Ej [] [20] (Ql N (([v1, v2, v3] : List Int)) v4 a4) ag CR rfl (qa rfl (AO (by kernel_rfl) ?_))
 obtain rfl := sj h
 refine Af (sm [] [(4, iD v4)] [] rfl rfl) (Ap ?_)
 exact ⟨⟨[_], tm, rfl⟩, tv⟩
theorem LC (N : Nat) (p0 : Ar) (p1 : List Int) (p2 : List Int) (p3 : List Int) (r : Bool) (h : CO N p0 p1 p2 p3 = some r) : Ao zA0 23 [.e (.agg (PZ p0)), oD (.rop [.sl (p1.map An), .sl (p2.map An), .sl (p3.map C3)])] [] (bD r) := by
 unfold CO at h
 refine cw (n := 9) (rs := [.tmp 3]) Tryz.func23 fun w0 S0 => ?_
 refine wq rfl (qb rfl (qa rfl (Ac (wq rfl (qf Ll rfl (qL A5 AK rfl (qK A5 AK rfl ?_)))))))
 refine B4 h fun v1 a1 h => Ax [] (Pt N ((Ab.mk p0.fh.fc p0.fh.fa p0.fh.fd)) ((Ab.mk p1 p2 p3)) v1 a1) al rfl (BZ rfl (qe rfl ?_))
 obtain rfl := sj h
 refine Af (sm [] [(3, bD ((v1 == 0)))] [] rfl rfl) (Ap ?_)
 exact ⟨⟨[_], tm, rfl⟩, tv⟩
theorem MF (N : Nat) (p0 : Aa) (p1 : List Ad) (r : Bool × Int) (h : DR N p0 p1 = some r) : Ao zA0 6 [.e (.agg (Ae p0)), pD (.sl (p1.map Aq))] [] (.tup [.one (.pure (.val (.bool r.1))), .one (iC r.2)]) := by
 unfold DR at h
 refine cw (n := 121) (rs := [.tmp 4, .tmp 5]) Tryz.func6 fun w0 S0 => ?_
 refine wq rfl (qb rfl (qa rfl (qa rfl (Ac (wq rfl (qL Cz BS rfl ?_))))))
 refine B4 h fun v1 a1 h => Ax [2001, 2002, 2003] (KR N p0 v1 a1) XN rfl (qm rfl (qx rfl (qx rfl (qz CH rfl (qs AK rfl (qa rfl (Ac (wp rfl (qm rfl (BH rfl (Ac ?_)))))))))))
 refine Bc h (fun h => ?_) fun h => ?_
 ·refine wq rfl (qm rfl (qa rfl (qe rfl ?_)))
  obtain rfl := sj h
  refine Af (sm [] [(4, bD false), (5, iD v1.2)] [] rfl rfl) (Ap ?_)
  exact ⟨⟨[_, _], ⟨.tmp _ _ rfl, tm⟩, rfl⟩, tv⟩
 ·refine Al (wp rfl (qL Cz BS rfl (qm rfl ?_)))
  refine B4 h fun v3 a3 h => Ax [] (M2 N p0 p1 v3 a3) YQ rfl (CD rfl (Ac ?_))
  refine Bc h (fun h => ?_) fun h => ?_
  ·refine wq rfl (qa rfl (qe rfl ?_))
   obtain rfl := sj h
   refine Af (sm [] [(4, bD false), (5, iD 13)] [] rfl rfl) (Ap ?_)
   exact ⟨⟨[_, _], ⟨.tmp _ _ rfl, tm⟩, rfl⟩, tv⟩
  ·refine Al (wq rfl (qL Cz BS rfl (qL A5 AK rfl (C2 (AY 2001 _ _ rfl rfl) (C2 (AY 2002 _ _ rfl rfl) (C2 (AY 2003 _ _ rfl rfl) ?_))))))
   refine B4 h fun v5 a5 h => Ax [] (LF N p0 v1.1 v5 a5) Zh rfl (qm rfl (qx rfl (qx rfl (qa rfl (qa rfl (Ac (wp rfl (qm rfl (BH rfl (Ac ?_))))))))))
   refine Bc h (fun h => ?_) fun h => ?_
   ·refine wq rfl (qm rfl (qa rfl (qe rfl ?_)))
    obtain rfl := sj h
    refine Af (sm [] [(4, bD false), (5, iD v5.2)] [] rfl rfl) (Ap ?_)
    exact ⟨⟨[_, _], ⟨.tmp _ _ rfl, tm⟩, rfl⟩, tv⟩
   ·refine Al (wq rfl (qm rfl (AJ GV rfl ?_)))
    refine Gl h fun c7 h => Jo (.p rfl) rfl rfl rfl Fa Nb VH (HO rfl) UT rfl rfl rfl c7.1 c7.2.1 c7.2.2 (Oa eB _ false) ?_
    refine qz TN rfl (qs Lq rfl (Ac (wp rfl (qm rfl (AJ GV rfl (qm rfl (Ac ?_)))))))
    refine AI (L := C5 N p0 v5) h (fun v8 => mk [(1, pD (.sl (p1.map Aq))), (2, oD (.ptr 2 0)), (6, oD (.ptr 6 0)), (8, pD (.sl (v5.1.map AR))), (9, oD (.ptr 9 0)), (44, pD (.sl (v5.1.map AR))), (45, iD ((v5.1.length : Int))), (46, iD v8.2)] [(2, .box (Ae p0)), (6, .box (Ay v1.1)), (9, .box [.own 2004]), (2004, .vec 1 (v8.1.map eB))]) (fun v9 => mk [(1, pD (.sl (p1.map Aq))), (2, oD (.ptr 2 0)), (6, oD (.ptr 6 0)), (8, pD (.sl (v5.1.map AR))), (9, oD (.ptr 9 0))] [(2, .box (Ae p0)), (6, .box (Ay v1.1)), (9, .box [.own 2005]), (2005, .vec 1 (v9.map eB))]) (fun _ _ => rfl) (sm [(2004, 43)] _ _ rfl rfl) (fun j8 n8 v8 h => ?_) (fun v9 s h hs => ?_)
    ·unfold C5 at h
     refine wq rfl (A0 rfl (Ac (AQ ?_)))
     refine Bc h (fun h => ?_) fun h => ?_
     ·refine Al ?_
      refine AP h (fun v11 => mk [(1, pD (.sl (p1.map Aq))), (2, oD (.ptr 2 0)), (6, oD (.ptr 6 0)), (8, pD (.sl (v5.1.map AR))), (9, oD (.ptr 9 0)), (44, pD (.sl (v5.1.map AR))), (45, iD ((v5.1.length : Int))), (46, iD v8.2)] [(2, .box (Ae p0)), (6, .box (Ay v1.1)), (9, .box [.own 2006]), (2006, .vec 1 (v11.map eB))]) (fun j11 h => ?_) (fun v11 h => ?_)
      ·refine AM (wq rfl (qm rfl ?_))
       refine BV h fun v12 a12 b12 h => qi GV Kp a12 (Ag b12) rfl (qK XY Kp rfl (qz S6 rfl (qa rfl (qs Kp rfl (Ac (Ah AA rfl (ql L6 rfl (qm rfl (qf Ll rfl (qf CC rfl (ql A2 rfl (qf Gj rfl (ql A2 rfl ?_)))))))))))))
       refine B4 h fun v13 a13 h => Ax [] (HD N v12.fh.fc p0.fj v13 a13) Zq rfl (qm rfl ?_)
       refine Ew 59 h rfl (fun h => ?_) fun h => ?_
       ·refine qf Ll rfl (qf Bs rfl (ql A2 rfl ?_))
        refine B4 h fun v15 a15 h => Ax [] (Ao.weak (ds' := [pD (.sl (v12.fh.fa.map An)), oD (.fnc 19)]) (Bl N v12.fh.fa ((fun (x : Int) => EE N x)) v15 a15) ⟨(fun _ _ _ hh => hh), (fun _ _ _ hh => Tp aL (fun ar t ht => by obtain ⟨x, r, rfl, hq, rfl⟩ := IJ ht; exact LB N x r hq) hh), tv⟩) XC rfl ?_
        refine CD rfl (qp rfl ?_)
        refine BV h fun v16 a16 b16 h => qI Fa Nb a16 (Ag b16) rfl ?_
        refine DV rfl rfl rfl rfl (Ag b16) rfl Nb rfl (HO rfl) (DK eB v8.1 _ ((!v15))) ?_
        refine AO (by kernel_rfl) ?_
        exact sn [(2006, 2004)] h
       ·refine qw 5 rfl (qp rfl ?_)
        refine BV h fun v17 a17 b17 h => qI Fa Nb a17 (Ag b17) rfl ?_
        refine DV rfl rfl rfl rfl (Ag b17) rfl Nb rfl (HO rfl) (DK eB v8.1 _ false) ?_
        refine AO (by kernel_rfl) ?_
        exact sn [(2006, 2004)] h
      ·refine Ah AA rfl (A9 rfl (qm rfl (Ac ?_)))
       exact sn [(2004, 2006)] h
     ·refine AX ?_
      exact sn [(2005, 2004)] h
    ·refine Af hs (wp rfl (qe rfl ?_))
     refine AI (L := BD N v5) h (fun v18 => mk [(1, pD (.sl (p1.map Aq))), (2, oD (.ptr 2 0)), (6, oD (.ptr 6 0)), (8, pD (.sl (v5.1.map AR))), (9, oD (.ptr 9 0)), (12, bD v18.2)] [(2, .box (Ae p0)), (6, .box (Ay v1.1)), (9, .box [.own 2007]), (2007, .vec 1 (v18.1.map eB))]) (fun v19 => mk [(1, pD (.sl (p1.map Aq))), (2, oD (.ptr 2 0)), (6, oD (.ptr 6 0)), (8, pD (.sl (v5.1.map AR))), (9, oD (.ptr 9 0))] [(2, .box (Ae p0)), (6, .box (Ay v1.1)), (9, .box [.own 2008]), (2008, .vec 1 (v19.map eB))]) (fun _ _ => rfl) (sm [(2007, 2005)] _ _ rfl rfl) (fun j18 n18 v18 h => ?_) (fun v19 s h hs => ?_)
     ·unfold BD at h
      refine wp rfl (qm rfl (Ac ?_))
      refine Bc h (fun h => ?_) fun h => ?_
      ·refine Al (AM (wq rfl (qa rfl (Ac (wq rfl (qm rfl (AJ GV rfl (qm rfl (Ac ?_)))))))))
       refine AI (L := Cu N v5) h (fun v21 => mk [(1, pD (.sl (p1.map Aq))), (2, oD (.ptr 2 0)), (6, oD (.ptr 6 0)), (8, pD (.sl (v5.1.map AR))), (9, oD (.ptr 9 0)), (12, bD v21.2.1), (69, pD (.sl (v5.1.map AR))), (70, iD ((v5.1.length : Int))), (71, iD v21.2.2)] [(2, .box (Ae p0)), (6, .box (Ay v1.1)), (9, .box [.own 2009]), (2009, .vec 1 (v21.1.map eB))]) (fun v22 => mk [(1, pD (.sl (p1.map Aq))), (2, oD (.ptr 2 0)), (6, oD (.ptr 6 0)), (8, pD (.sl (v5.1.map AR))), (9, oD (.ptr 9 0)), (12, bD v22.2)] [(2, .box (Ae p0)), (6, .box (Ay v1.1)), (9, .box [.own 2010]), (2010, .vec 1 (v22.1.map eB))]) (fun _ _ => rfl) (sm [(2009, 2007)] _ _ rfl rfl) (fun j21 n21 v21 h => ?_) (fun v22 s h hs => ?_)
       ·unfold Cu at h
        refine wq rfl (A0 rfl (Ac (AQ ?_)))
        refine Bc h (fun h => ?_) fun h => ?_
        ·refine Al ?_
         refine AP h (fun v24 => mk [(1, pD (.sl (p1.map Aq))), (2, oD (.ptr 2 0)), (6, oD (.ptr 6 0)), (8, pD (.sl (v5.1.map AR))), (9, oD (.ptr 9 0)), (12, bD v24.2), (69, pD (.sl (v5.1.map AR))), (70, iD ((v5.1.length : Int))), (71, iD v21.2.2)] [(2, .box (Ae p0)), (6, .box (Ay v1.1)), (9, .box [.own 2011]), (2011, .vec 1 (v24.1.map eB))]) (fun j24 h => ?_) (fun v24 h => ?_)
         ·refine AM (wq rfl (qm rfl ?_))
          refine BV h fun v25 a25 b25 h => qi GV Kp a25 (Ag b25) rfl (qK XY Kp rfl (qz S6 rfl (qa rfl (qs Kp rfl (Ac ?_)))))
          refine AP h (fun v26 => mk [(1, pD (.sl (p1.map Aq))), (2, oD (.ptr 2 0)), (6, oD (.ptr 6 0)), (8, pD (.sl (v5.1.map AR))), (9, oD (.ptr 9 0)), (12, bD v21.2.1), (13, iD v21.2.2), (69, pD (.sl (v5.1.map AR))), (70, iD ((v5.1.length : Int))), (71, iD v21.2.2), (86, bD v26)] [(2, .box (Ae p0)), (6, .box (Ay v1.1)), (9, .box [.own 2012]), (2012, .vec 1 (v21.1.map eB))]) (fun j26 h => ?_) (fun v26 h => ?_)
          ·refine Ah AA rfl (ql L6 rfl (qm rfl ?_))
           refine BV h fun v27 a27 b27 h => qI Fa Nb a27 (Ag b27) rfl (qj QW (Ag b27) rfl (CD rfl (qm rfl ?_)))
           refine Ew 81 h rfl (fun h => ?_) fun h => ?_
           ·refine qf Qm rfl (ql A2 rfl ?_)
            refine Rz [.ptr 9 0] (.g rfl rfl) rfl ⟨rfl, tv⟩ ?_
            refine B4 h fun v29 a29 h => Lk (ds0 := [_, _]) [9, 2009] [] [false, false] (HM N v25.fa v21.1 v29 a29) (.g rfl rfl) XC rfl ⟨rfl, rfl, tv⟩ rfl rfl (by decide) ⟨rfl, rfl, tv⟩ rfl (GA rfl) tv ⟨(fun _ => rfl), (fun _ => rfl), tv⟩ rfl rfl rfl ?_
            refine qp rfl (Ac ?_)
            exact sn [(2012, 2009)] h
           ·refine qw 4 rfl (qp rfl (Ac ?_))
            exact sn [(2012, 2009)] h
          ·refine Bc h (fun h => ?_) fun h => ?_
           ·refine Ah AA rfl (ql L6 rfl (qm rfl ?_))
            refine BV h fun v31 a31 b31 h => qI Fa Nb a31 (Ag b31) rfl ?_
            refine DV rfl rfl rfl rfl (Ag b31) rfl Nb rfl (HO rfl) (DK eB v21.1 _ true) ?_
            refine qa rfl (Ac ?_)
            exact sn [(2011, 2012)] h
           ·refine Al ?_
            exact sn [(2011, 2012)] h
         ·refine Ah AA rfl (A9 rfl (qm rfl (Ac ?_)))
          exact sn [(2009, 2011)] h
        ·refine AX ?_
         exact sn [(2010, 2009)] h
       ·exact Vv _ h (hs.trans (sm [(2007, 2010)] _ _ rfl rfl))
      ·refine AX ?_
       exact sn [(2008, 2007)] h
     ·refine Af hs (wq rfl (qL Cz BS rfl (qL A5 AK rfl (qm rfl ?_))))
      refine B4 h fun v32 a32 h => Ax [2013] (SZ N p0 v1.1 p1 v32 a32) aA rfl (qm rfl (qx rfl (qx rfl (qx rfl (qa rfl (qa rfl (qa rfl (Ac (wp rfl (qm rfl (BH rfl (Ac ?_))))))))))))
      refine Bc h (fun h => ?_) fun h => ?_
      ·refine wq rfl (qm rfl (qa rfl (qe rfl ?_)))
       obtain rfl := sj h
       refine Af (sm [] [(4, bD false), (5, iD v32.2.2)] [] rfl rfl) (Ap ?_)
       exact ⟨⟨[_, _], ⟨.tmp _ _ rfl, tm⟩, rfl⟩, tv⟩
      ·refine Al (wp rfl (qm rfl (F0 Hi rfl (qm rfl (Ac ?_)))))
       refine AI (L := Cn N v5 v19 v32) h (fun v34 => mk [(8, pD (.sl (v5.1.map AR))), (9, oD (.ptr 9 0)), (102, oD (.own 2015)), (103, iD ((v32.1.length : Int))), (104, iD v34)] [(9, .box [.own 2014]), (2014, .vec 1 (v19.map eB)), (2015, .vec 3 (v32.1.map CI))]) (fun v35 => mk [] []) (fun _ _ => rfl) (sm [(2014, 2008), (2015, 2013)] _ _ rfl rfl) (fun j34 n34 v34 h => ?_) (fun v35 s h hs => ?_)
       ·unfold Cn at h
        refine wq rfl (A0 rfl (Ac (AQ ?_)))
        refine Bc h (fun h => ?_) fun h => ?_
        ·refine Al (AQ (AM (wq rfl ?_)))
         refine BV h fun v37 a37 b37 h => qI Hi AK a37 (Ag b37) rfl (qJ A5 AK (Ag b37) rfl (qz CH rfl (qs AK rfl (Ac (wq rfl (qm rfl (C2 (K3 18 [.sl (v37.fc.map An), .sl (v37.fa.map An), .sl (v37.fd.map C3)] rfl rfl) ?_)))))))
         refine JW (capD := [_]) (Jd (NX true AR) tB ((fun (x : Ar) => CO N x v37.fc v37.fa v37.fd))) (.p rfl) aV rfl ⟨rfl, tv⟩ rfl (fun ar t ht => by obtain ⟨x, r, rfl, hq, rfl⟩ := IJ ht; exact LC N x v37.fc v37.fa v37.fd r hq) ?_
         refine B4 h fun v38 a38 h => Ax [] (EL N v5.1 ((fun (x : Ar) => CO N x v37.fc v37.fa v37.fd)) v38 a38) Zv rfl (qe rfl ?_)
         refine AP h (fun v39 => mk [(8, pD (.sl (v5.1.map AR))), (9, oD (.ptr 9 0)), (102, oD (.own 2017)), (103, iD ((v32.1.length : Int))), (104, iD v34), (119, bD v39)] [(9, .box [.own 2016]), (2016, .vec 1 (v19.map eB)), (2017, .vec 3 (v32.1.map CI))]) (fun j39 h => ?_) (fun v39 h => ?_)
         ·refine Ah AA rfl (qm rfl (A0 rfl (qm rfl ?_)))
          refine Ew 113 h rfl (fun h => ?_) fun h => ?_
          ·refine qw 5 rfl (qp rfl (Ac ?_))
           exact sn [(2016, 2014), (2017, 2015)] h
          ·refine ql L6 rfl (qm rfl ?_)
           refine BV h fun v41 a41 b41 h => qI Fa Nb a41 (Ag b41) rfl (qj QW (Ag b41) rfl (CD rfl (qp rfl (Ac ?_))))
           exact sn [(2016, 2014), (2017, 2015)] h
         ·refine Bc h (fun h => ?_) fun h => ?_
          ·refine wq rfl (qa rfl (qe rfl ?_))
           obtain rfl := sj h
           refine Af (sm [] [(4, bD false), (5, iD 0)] [] rfl rfl) (Ap ?_)
           exact ⟨⟨[_, _], ⟨.tmp _ _ rfl, tm⟩, rfl⟩, tv⟩
          ·refine Al (Ah AA rfl (A9 rfl (qm rfl (Ac ?_))))
           exact sn [(2014, 2016), (2015, 2017)] h
        ·refine AX ?_
         exact sn [] h
       ·refine Af hs (wq rfl (qa rfl (qe rfl ?_)))
        obtain rfl := sj h
        refine Af (sm [] [(4, bD true), (5, iD 0)] [] rfl rfl) (Ap ?_)
        exact ⟨⟨[_, _], ⟨.tmp _ _ rfl, tm⟩, rfl⟩, tv⟩
theorem KY (N : Nat) (p0 : Aa) (p1 : Ab) (r : (List Ab) × Int) (h : Fd N p0 p1 = some r) : Ao zA0 100 [.e (.agg (Ae p0)), .e (.agg (Ay p1))] [(3, r.1.map CI)] (.tup [.one (.own 0), .one (iC r.2)]) := by
 unfold Fd at h
 refine cw (n := 15) (rs := [.tmp 4, .tmp 5]) Tryz.func100 fun w0 S0 => ?_
 refine wq rfl (qb rfl (qb rfl (qa rfl (qa rfl (Ac (wp rfl (qL Cz BS rfl (qL A5 AK rfl ?_))))))))
 refine B4 h fun v1 a1 h => Ax [] (GQ N p0 p1 v1 a1) XE rfl (qa rfl (Ac (wq rfl (qm rfl (BH rfl (Ac ?_))))))
 refine Bc h (fun h => ?_) fun h => ?_
 ·refine wq rfl (qm rfl (qa rfl (qe rfl ?_)))
  obtain rfl := sj h
  refine Af ((BP 4 2001 3 rfl rfl rfl).trans (sm [(1000, 2001)] [(4, oD (.own 1000)), (5, iD v1)] [(1000, .vec 3 ((([] : List Ab)).map CI))] rfl rfl)) (Ap ?_)
  exact ⟨⟨[_, _], ⟨.tmp _ _ rfl, tm⟩, rfl⟩, ⟨rfl, tv⟩⟩
 ·refine Al (wq rfl (qL A5 AK rfl ?_))
  refine B4 h fun v3 a3 h => Ax [2002] (Jn N p1 v3 a3) Ze rfl (qa rfl (qe rfl ?_))
  obtain rfl := sj h
  refine Af (sm [(1000, 2002)] [(4, oD (.own 1000)), (5, iD 0)] [(1000, .vec 3 (v3.map CI))] rfl rfl) (Ap ?_)
  exact ⟨⟨[_, _], ⟨.tmp _ _ rfl, tm⟩, rfl⟩, ⟨rfl, tv⟩⟩
theorem Ly (N : Nat) (p0 : Aa) (p1 : Ab) (r : Ab × Ai × Int) (h : EH N p0 p1 = some r) : Ao zA0 83 [.e (.agg (Ae p0)), .e (.agg (Ay p1))] [] (.tup [.agg (Ay r.1), .agg (E0 r.2.1), .one (iC r.2.2)]) := by
 unfold EH at h
 refine cw (n := 46) (rs := [.cell 4 43, .cell 5 45, .tmp 6]) Tryz.func83 fun w0 S0 => ?_
 refine wq rfl (qb rfl (qb rfl (qz CH rfl (qz Gm rfl (qa rfl (Ac (wq rfl (qL Cz BS rfl (qL A5 AK rfl ?_)))))))))
 refine B4 h fun v1 a1 h => Ax [2001] (KY N p0 p1 v1 a1) Zm rfl (qm rfl (qx rfl (qx rfl (qa rfl (qa rfl (Ac (wp rfl (qm rfl (BH rfl (Ac ?_))))))))))
 refine Bc h (fun h => ?_) fun h => ?_
 ·refine wq rfl (AU CH GB rfl (AU Gm KV rfl (qm rfl (qs AK rfl (qs Eg rfl (qe rfl ?_))))))
  obtain rfl := sj h
  refine Af ((Fk 4 _ rfl).trans (sm [] [(4, oD (.ptr 4 0)), (5, oD (.ptr 5 0)), (6, iD v1.2)] [(4, .box [sC ((([] : List Int)).map An), sC ((([] : List Int)).map An), sC ((([] : List Int)).map C3)]), (5, .box [iC 0, iC 0, iC 0])] rfl rfl)) (Ap ?_)
  exact ⟨⟨[_, _, _], ⟨.cellN _ _ _ _ _ _ _ rfl rfl A5 AK rfl rfl (Gn rfl), ⟨.cellN _ _ _ _ _ _ _ rfl rfl I3 Eg rfl rfl (Gn rfl), tm⟩⟩, rfl⟩, tv⟩
 ·refine Al (wp rfl (qe rfl ?_))
  refine AI (L := CL N p0 v1) h (fun v3 => mk [(2, oD (.ptr 2 0)), (4, oD (.ptr 4 0)), (5, oD (.ptr 5 0)), (7, oD (.own 2002)), (9, iD v3)] [(2, .box (Ae p0)), (4, .box [.pure (.nil0), .pure (.nil0), .pure (.nil0)]), (5, .box [iC 0, iC 0, iC 0]), (2002, .vec 3 (v1.1.map CI))]) (fun v4 => mk [(4, oD (.ptr 4 0)), (5, oD (.ptr 5 0))] [(4, .box [.pure (.nil0), .pure (.nil0), .pure (.nil0)]), (5, .box [iC 0, iC 0, iC 0])]) (fun _ _ => rfl) (sm [(2002, 2001)] _ _ rfl rfl) (fun j3 n3 v3 h => ?_) (fun v4 s h hs => ?_)
  ·unfold CL at h
   refine wp rfl (qw 2 rfl (F0 Hi rfl (A0 rfl (Ac ?_))))
   refine Bc h (fun h => ?_) fun h => ?_
   ·refine Al (AQ (AM (wq rfl (qL Cz BS rfl (qw 2 rfl ?_)))))
    refine BV h fun v6 a6 b6 h => qI Hi AK a6 (Ag b6) rfl (qJ A5 AK (Ag b6) rfl ?_)
    refine B4 h fun v7 a7 h => Ax [2003] (Iz N p0 v6 v7 a7) Y5 rfl (qa rfl (AO (by kernel_rfl) (wq rfl (qm rfl (F0 Gq rfl (Gk rfl (Ac ?_)))))))
    refine Bc h (fun h => ?_) fun h => ?_
    ·refine wq rfl (qw 2 rfl ?_)
     refine BV h fun v9 a9 b9 h => qI Hi AK a9 (Ag b9) rfl (qJ A5 AK (Ag b9) rfl (qm rfl ?_))
     refine BV h fun v10 a10 b10 h => qI Gq Eg a10 (Ag b10) rfl (qJ I3 Eg (Ag b10) rfl (qs AK rfl (qs Eg rfl (qa rfl (AO (by kernel_rfl) ?_)))))
     obtain rfl := sj h
     refine Af (sm [] [(4, oD (.ptr 4 0)), (5, oD (.ptr 5 0)), (6, iD 0)] [(4, .box (Ay v9)), (5, .box (E0 v10))] rfl rfl) (Ap ?_)
     exact ⟨⟨[_, _, _], ⟨.cellN _ _ _ _ _ _ _ rfl rfl A5 AK rfl rfl (Gn rfl), ⟨.cellN _ _ _ _ _ _ _ rfl rfl I3 Eg rfl rfl (Gn rfl), tm⟩⟩, rfl⟩, tv⟩
    ·refine Al (Ah AA rfl (qm rfl (A9 rfl (qe rfl ?_))))
     exact sn [] h
   ·refine AX ?_
    exact sn [] h
  ·refine Af hs (wq rfl (AU CH GB rfl (AU Gm KV rfl (qs AK rfl (qs Eg rfl (qe rfl ?_))))))
   obtain rfl := sj h
   refine Af ((Fk 4 _ rfl).trans (sm [] [(4, oD (.ptr 4 0)), (5, oD (.ptr 5 0)), (6, iD 15)] [(4, .box [sC ((([] : List Int)).map An), sC ((([] : List Int)).map An), sC ((([] : List Int)).map C3)]), (5, .box [iC 0, iC 0, iC 0])] rfl rfl)) (Ap ?_)
   exact ⟨⟨[_, _, _], ⟨.cellN _ _ _ _ _ _ _ rfl rfl A5 AK rfl rfl (Gn rfl), ⟨.cellN _ _ _ _ _ _ _ rfl rfl I3 Eg rfl rfl (Gn rfl), tm⟩⟩, rfl⟩, tv⟩
theorem Hg (N : Nat) (p0 : Aa) (p1 : Ab) (r : Bool) (h : Cd N p0 p1 = some r) : Ao zA0 58 [.e (.agg (Ae p0)), .e (.agg (Ay p1))] [] (bD r) := by
 unfold Cd at h
 refine cw (n := 36) (rs := [.tmp 4]) Tryz.func58 fun w0 S0 => ?_
 refine wq rfl (qb rfl (qb rfl (qa rfl (Ac (wp rfl (qL Cz BS rfl (qL A5 AK rfl ?_)))))))
 refine B4 h fun v1 a1 h => Ax [] (GQ N p0 p1 v1 a1) XE rfl (BH rfl (Ac ?_))
 refine Bc h (fun h => ?_) fun h => ?_
 ·refine wq rfl (qe rfl ?_)
  obtain rfl := sj h
  refine Af (sm [] [(4, bD false)] [] rfl rfl) (Ap ?_)
  exact ⟨⟨[_], tm, rfl⟩, tv⟩
 ·refine Al (wp rfl (qe rfl ?_))
  refine AI (L := C0 N p0 p1) h (fun v3 => mk [(2, oD (.ptr 2 0)), (3, oD (.ptr 3 0)), (5, iD v3)] [(2, .box (Ae p0)), (3, .box (Ay p1))]) (fun v4 => mk [] []) (fun _ _ => rfl) (sm [] _ _ rfl rfl) (fun j3 n3 v3 h => ?_) (fun v4 s h hs => ?_)
  ·unfold C0 at h
   refine wp rfl (qm rfl (qf CC rfl (ql A2 rfl (AJ Az rfl (A0 rfl (Ac ?_))))))
   refine Bc h (fun h => ?_) fun h => ?_
   ·refine Al (AQ (AM ?_))
    refine AP h (fun v6 => mk [(2, oD (.ptr 2 0)), (3, oD (.ptr 3 0)), (5, iD v3), (35, bD v6)] [(2, .box (Ae p0)), (3, .box (Ay p1))]) (fun j6 h => ?_) (fun v6 h => ?_)
    ·refine Ah AA rfl (qf Bs rfl (ql A2 rfl (qm rfl ?_)))
     refine BV h fun v7 a7 b7 h => qi Az De a7 (Ag b7) rfl (qk Ce rfl (EO rfl (qm rfl ?_)))
     refine Ew 23 h rfl (fun h => ?_) fun h => ?_
     ·refine qw 11 rfl (qp rfl (AO (by kernel_rfl) ?_))
      exact sn [] h
     ·refine qf CC rfl (ql A2 rfl (qm rfl ?_))
      refine BV h fun v9 a9 b9 h => qi Az De a9 (Ag b9) rfl (qk Ce rfl (qf H5 rfl (ql A2 rfl (qm rfl ?_))))
      refine BV h fun v10 a10 b10 h => qi Az De a10 (Ag b10) rfl (qk Ce rfl (BH rfl (qp rfl (AO (by kernel_rfl) ?_))))
      exact sn [] h
    ·refine Bc h (fun h => ?_) fun h => ?_
     ·refine wq rfl (qe rfl ?_)
      obtain rfl := sj h
      refine Af (sm [] [(4, bD false)] [] rfl rfl) (Ap ?_)
      exact ⟨⟨[_], tm, rfl⟩, tv⟩
     ·refine Al (Ah AA rfl (qm rfl (A9 rfl (qe rfl ?_))))
      exact sn [] h
   ·refine AX ?_
    exact sn [] h
  ·refine Af hs (wq rfl (qe rfl ?_))
   obtain rfl := sj h
   refine Af (sm [] [(4, bD true)] [] rfl rfl) (Ap ?_)
   exact ⟨⟨[_], tm, rfl⟩, tv⟩
theorem Kt (N : Nat) (p0 : Aa) (p1 : List Ad) (r : Int × Ab × Ai × Int) (h : D5 N p0 p1 = some r) : Ao zA0 54 [.e (.agg (Ae p0)), pD (.sl (p1.map Aq))] [] (.tup [.one (iC r.1), .agg (Ay r.2.1), .agg (E0 r.2.2.1), .one (iC r.2.2.2)]) := by
 unfold D5 at h
 refine cw (n := 80) (rs := [.tmp 4, .cell 5 43, .cell 6 45, .tmp 7]) Tryz.func54 fun w0 S0 => ?_
 refine wq rfl (qb rfl (qa rfl (qz CH rfl (qz Gm rfl (qa rfl (Ac (wq rfl (qL Cz BS rfl ?_))))))))
 refine B4 h fun v1 a1 h => Ax [2001, 2002, 2003] (GK N p0 v1 a1) Ym rfl (qm rfl (qx rfl (qx rfl (qz CH rfl (qs AK rfl (qa rfl (Ac (wp rfl (qm rfl (BH rfl (Ac ?_)))))))))))
 refine Bc h (fun h => ?_) fun h => ?_
 ·refine wq rfl (AU CH GB rfl (AU Gm KV rfl (qm rfl (qa rfl (qs AK rfl (qs Eg rfl (qe rfl ?_)))))))
  obtain rfl := sj h
  refine Af ((Fk 5 _ rfl).trans (sm [] [(4, iD 0), (5, oD (.ptr 5 0)), (6, oD (.ptr 6 0)), (7, iD v1.2)] [(5, .box [sC ((([] : List Int)).map An), sC ((([] : List Int)).map An), sC ((([] : List Int)).map C3)]), (6, .box [iC 0, iC 0, iC 0])] rfl rfl)) (Ap ?_)
  exact ⟨⟨[_, _, _, _], ⟨.tmp _ _ rfl, ⟨.cellN _ _ _ _ _ _ _ rfl rfl A5 AK rfl rfl (Gn rfl), ⟨.cellN _ _ _ _ _ _ _ rfl rfl I3 Eg rfl rfl (Gn rfl), tm⟩⟩⟩, rfl⟩, tv⟩
 ·refine Al (wp rfl (qe rfl ?_))
  refine AI (L := Ch N p0 p1) h (fun v3 => mk [(1, pD (.sl (p1.map Aq))), (2, oD (.ptr 2 0)), (5, oD (.ptr 5 0)), (6, oD (.ptr 6 0)), (8, oD (.ptr 8 0)), (10, iD v3.2.2.2)] [(2, .box (Ae p0)), (5, .box [.pure (.nil0), .pure (.nil0), .pure (.nil0)]), (6, .box [iC 0, iC 0, iC 0]), (8, .box [sC (v3.1.map An), sC (v3.2.1.map An), sC (v3.2.2.1.map C3)])]) (fun v4 => mk [(1, pD (.sl (p1.map Aq))), (2, oD (.ptr 2 0)), (5, oD (.ptr 5 0)), (6, oD (.ptr 6 0)), (8, oD (.ptr 8 0))] [(2, .box (Ae p0)), (5, .box [.pure (.nil0), .pure (.nil0), .pure (.nil0)]), (6, .box [iC 0, iC 0, iC 0]), (8, .box (Ay v4))]) (fun _ _ => rfl) ((AY 2001 _ _ rfl rfl).trans ((AY 2002 _ _ rfl rfl).trans ((AY 2003 _ _ rfl rfl).trans (sm [] _ _ rfl rfl)))) (fun j3 n3 v3 h => ?_) (fun v4 s h hs => ?_)
  ·unfold Ch at h
   refine wp rfl (qw 2 rfl (AJ CN rfl (A0 rfl (Ac ?_))))
   refine Bc h (fun h => ?_) fun h => ?_
   ·refine Al (AQ (AM ?_))
    refine AP h (fun v6 => mk [(1, pD (.sl (p1.map Aq))), (2, oD (.ptr 2 0)), (5, oD (.ptr 5 0)), (6, oD (.ptr 6 0)), (8, oD (.ptr 8 0)), (10, iD v3.2.2.2)] [(2, .box (Ae p0)), (5, .box [.pure (.nil0), .pure (.nil0), .pure (.nil0)]), (6, .box [iC 0, iC 0, iC 0]), (8, .box [sC (v6.1.map An), sC (v6.2.1.map An), sC (v6.2.2.map C3)])]) (fun j6 h => ?_) (fun v6 h => ?_)
    ·refine wq rfl (qm rfl (EO rfl (Ac ?_)))
     refine Bc h (fun h => ?_) fun h => ?_
     ·refine wq rfl (qL Cz BS rfl (qL A5 AK rfl (qw 2 rfl ?_)))
      refine BV h fun v8 a8 b8 h => qi CN Do a8 (Ag b8) rfl (qK Hr Do rfl ?_)
      refine B4 h fun v9 a9 h => Ax [2004, 2005, 2006] (Iy N p0 ((Ab.mk v3.1 v3.2.1 v3.2.2.1)) v8 v9 a9) Zi rfl (qm rfl (qx rfl (qx rfl (qz CH rfl (qs AK rfl (qa rfl (AO (by kernel_rfl) (AQ ?_))))))))
      refine AP h (fun v10 => mk [(1, pD (.sl (p1.map Aq))), (2, oD (.ptr 2 0)), (5, oD (.ptr 5 0)), (6, oD (.ptr 6 0)), (8, oD (.ptr 8 0)), (10, iD v3.2.2.2), (11, oD (.ptr 11 0)), (53, bD v10)] [(2, .box (Ae p0)), (5, .box [.pure (.nil0), .pure (.nil0), .pure (.nil0)]), (6, .box [iC 0, iC 0, iC 0]), (8, .box [sC (v3.1.map An), sC (v3.2.1.map An), sC (v3.2.2.1.map C3)]), (11, .box [.own 2007, .own 2008, .own 2009]), (2007, .vec 1 (v9.1.fc.map An)), (2008, .vec 1 (v9.1.fa.map An)), (2009, .vec 1 (v9.1.fd.map C3))]) (fun j10 h => ?_) (fun v10 h => ?_)
      ·refine Ah AA rfl (qm rfl (BH rfl (qm rfl ?_)))
       refine Ew 46 h rfl (fun h => ?_) fun h => ?_
       ·refine qw 6 rfl (qp rfl (Ac ?_))
        exact sn [(2007, 2004), (2008, 2005), (2009, 2006)] h
       ·refine qw 2 rfl ?_
        refine BV h fun v12 a12 b12 h => qi CN Do a12 (Ag b12) rfl (qg Fq rfl (qk Ce rfl (BZ rfl (qp rfl (Ac ?_)))))
        exact sn [(2007, 2004), (2008, 2005), (2009, 2006)] h
      ·refine Bc h (fun h => ?_) fun h => ?_
       ·refine wq rfl (qm rfl (AU CH GB rfl (AU Gm KV rfl (qa rfl (qs AK rfl (qs Eg rfl (qe rfl ?_)))))))
        obtain rfl := sj h
        refine Af ((Fk 5 _ rfl).trans (sm [] [(4, iD v3.2.2.2), (5, oD (.ptr 5 0)), (6, oD (.ptr 6 0)), (7, iD 0)] [(5, .box [sC ((([] : List Int)).map An), sC ((([] : List Int)).map An), sC ((([] : List Int)).map C3)]), (6, .box [iC 0, iC 0, iC 0])] rfl rfl)) (Ap ?_)
        exact ⟨⟨[_, _, _, _], ⟨.tmp _ _ rfl, ⟨.cellN _ _ _ _ _ _ _ rfl rfl A5 AK rfl rfl (Gn rfl), ⟨.cellN _ _ _ _ _ _ _ rfl rfl I3 Eg rfl rfl (Gn rfl), tm⟩⟩⟩, rfl⟩, tv⟩
       ·refine Al (Ah AA rfl (qL A5 AK rfl (qs AK rfl (Ac ?_))))
        exact Vv _ h ((AY 2007 _ _ rfl rfl).trans ((AY 2008 _ _ rfl rfl).trans ((AY 2009 _ _ rfl rfl).trans (sm [] _ _ rfl rfl))))
     ·refine Al ?_
      exact sn [] h
    ·refine wq rfl (qL Cz BS rfl (qL A5 AK rfl ?_))
     refine B4 h fun v14 a14 h => Ax [] (Ly N p0 ((Ab.mk v6.1 v6.2.1 v6.2.2)) v14 a14) aC rfl (qm rfl (qx rfl (qx rfl (qx rfl (qz CH rfl (qz Gm rfl (qs AK rfl (qs Eg rfl (qa rfl (Ac (wq rfl (qm rfl (BZ rfl (Ac ?_))))))))))))))
     refine Bc h (fun h => ?_) fun h => ?_
     ·refine wq rfl (qm rfl (qL A5 AK rfl (qL I3 Eg rfl (qa rfl (qs AK rfl (qs Eg rfl (qa rfl (AO (by kernel_rfl) ?_))))))))
      obtain rfl := sj h
      refine Af (sm [] [(4, iD v3.2.2.2), (5, oD (.ptr 5 0)), (6, oD (.ptr 6 0)), (7, iD 0)] [(5, .box (Ay v14.1)), (6, .box (E0 v14.2.1))] rfl rfl) (Ap ?_)
      exact ⟨⟨[_, _, _, _], ⟨.tmp _ _ rfl, ⟨.cellN _ _ _ _ _ _ _ rfl rfl A5 AK rfl rfl (Gn rfl), ⟨.cellN _ _ _ _ _ _ _ rfl rfl I3 Eg rfl rfl (Gn rfl), tm⟩⟩⟩, rfl⟩, tv⟩
     ·refine Al (Ah AA rfl (qm rfl (A9 rfl (qe rfl ?_))))
      exact sn [] h
   ·refine AX ?_
    exact sn [] h
  ·refine Af hs (wp rfl (qL Cz BS rfl (qL A5 AK rfl ?_)))
   refine B4 h fun v16 a16 h => Ax [] (Hg N p0 v4 v16 a16) Yk rfl (CD rfl (Ac ?_))
   refine Bc h (fun h => ?_) fun h => ?_
   ·refine wq rfl (qm rfl (AJ CN rfl (AU CH GB rfl (AU Gm KV rfl (qa rfl (qs AK rfl (qs Eg rfl (qe rfl ?_))))))))
    obtain rfl := sj h
    refine Af ((Fk 5 _ rfl).trans (sm [] [(4, iD ((p1.length : Int))), (5, oD (.ptr 5 0)), (6, oD (.ptr 6 0)), (7, iD 14)] [(5, .box [sC ((([] : List Int)).map An), sC ((([] : List Int)).map An), sC ((([] : List Int)).map C3)]), (6, .box [iC 0, iC 0, iC 0])] rfl rfl)) (Ap ?_)
    exact ⟨⟨[_, _, _, _], ⟨.tmp _ _ rfl, ⟨.cellN _ _ _ _ _ _ _ rfl rfl A5 AK rfl rfl (Gn rfl), ⟨.cellN _ _ _ _ _ _ _ rfl rfl I3 Eg rfl rfl (Gn rfl), tm⟩⟩⟩, rfl⟩, tv⟩
   ·refine Al (wq rfl (AU CH GB rfl (AU Gm KV rfl (qa rfl (qs AK rfl (qs Eg rfl (qe rfl ?_)))))))
    obtain rfl := sj h
    refine Af ((Fk 5 _ rfl).trans (sm [] [(4, iD 0), (5, oD (.ptr 5 0)), (6, oD (.ptr 6 0)), (7, iD 15)] [(5, .box [sC ((([] : List Int)).map An), sC ((([] : List Int)).map An), sC ((([] : List Int)).map C3)]), (6, .box [iC 0, iC 0, iC 0])] rfl rfl)) (Ap ?_)
    exact ⟨⟨[_, _, _, _], ⟨.tmp _ _ rfl, ⟨.cellN _ _ _ _ _ _ _ rfl rfl A5 AK rfl rfl (Gn rfl), ⟨.cellN _ _ _ _ _ _ _ rfl rfl I3 Eg rfl rfl (Gn rfl), tm⟩⟩⟩, rfl⟩, tv⟩
theorem Lp (N : Nat) (p0 : Aa) (p1 : List Ad) (r : Bool) (h : EG N p0 p1 = some r) : Ao zA0 26 [.e (.agg (Ae p0)), pD (.sl (p1.map Aq))] [] (bD r) := by
 unfold EG at h
 refine cw (n := 19) (rs := [.tmp 4]) Tryz.func26 fun w0 S0 => ?_
 refine wq rfl (qb rfl (qa rfl (Ac (wq rfl (qL Cz BS rfl (qm rfl ?_))))))
 refine B4 h fun v1 a1 h => Ax [] (Kt N p0 p1 v1 a1) ak rfl (qm rfl (qx rfl (qx rfl (qx rfl (qx rfl (qz CH rfl (qz Gm rfl (qa rfl (qs AK rfl (qs Eg rfl (qa rfl (Ac (wq rfl (qm rfl (BZ rfl (qe rfl ?_))))))))))))))))
 obtain rfl := sj h
 refine Af (sm [] [(4, bD ((v1.2.2.2 == 15)))] [] rfl rfl) (Ap ?_)
 exact ⟨⟨[_], tm, rfl⟩, tv⟩
theorem If (N : Nat) (p0 : List (List Bool)) (r : (List (List Bool))) (h : DI N p0 = some r) : Ao zA0 110 [pD (.sl (p0.map (JG eB)))] [(1, r.map (JG eB))] (oD (.own 0)) := by
 unfold DI at h
 refine cw (n := 21) (rs := [.tmp 2]) Tryz.func110 fun w0 S0 => ?_
 refine wq rfl (qa rfl (Ac (wq rfl (qa rfl (Ac (wp rfl (qe rfl ?_)))))))
 refine AI (L := CB N p0) h (fun v1 => mk [(0, pD (.sl (p0.map (JG eB)))), (3, oD (.own 2001)), (4, iD v1.2)] [(2001, .vec 1 (v1.1.map (JG eB)))]) (fun v2 => mk [(3, oD (.own 2002))] [(2002, .vec 1 (v2.map (JG eB)))]) (fun _ _ => rfl) ((BP 3 2003 1 rfl rfl rfl).trans (sm [(2001, 2003)] _ _ rfl rfl)) (fun j1 n1 v1 h => ?_) (fun v2 s h hs => ?_)
 ·unfold CB at h
  refine wp rfl (qw 2 rfl (AJ FO rfl (A0 rfl (Ac ?_))))
  refine Bc h (fun h => ?_) fun h => ?_
  ·refine Al (AQ (AM (Ah AA rfl (qm rfl (Em Fa Nb UT rfl (qw 2 rfl ?_))))))
   refine BV h fun v4 a4 b4 h => qi FO Lq a4 (Ag b4) rfl (qk L6 rfl ?_)
   refine Gl h fun c5 h => Iq (f := eB) Fa Fa Nb VH UT (fun _ => rfl) c5 rfl (C2 (AY 17 _ _ rfl rfl) (Em FO Lq TN rfl ?_))
   refine Gl h fun c6 h => DQ (f := (JG eB)) FO FO Lq Xo TN c6 rfl (qa rfl (Ac (Ah AA rfl (qm rfl (A9 rfl (qe rfl ?_))))))
   exact sn [(2001, 19)] h
  ·refine AX ?_
   exact sn [(2002, 2001)] h
 ·refine Af hs (wq rfl (qm rfl (qe rfl ?_)))
  obtain rfl := sj h
  refine Af (sm [(1000, 2002)] [(2, oD (.own 1000))] [(1000, .vec 1 (v2.map (JG eB)))] rfl rfl) (Ap ?_)
  exact ⟨⟨[_], tm, rfl⟩, ⟨rfl, tv⟩⟩
theorem KZ (N : Nat) (p0 : Av) (p1 : Int) (p2 : Int) (r : Av) (h : Fc N p0 p1 p2 = some r) : Ao zA0 102 [.e (.agg (Bj p0)), iD p1, iD p2] [(1, r.fr.map (JG eB)), (1, r.fp.map (JG eB))] (.e (.agg [iC r.ff, iC r.fg, iC r.fo, .pure (.val (.bool r.fq)), .own 0, .own 1])) := by
 unfold Fc at h
 refine cw (n := 20) (rs := [.cell 6 80]) Tryz.func102 fun w0 S0 => ?_
 refine wq rfl (qb rfl (qz JK rfl (Ac (wq rfl (qf FY rfl (ql Ce rfl (qw 2 rfl (qf IG rfl (ql QW rfl (qf Jq rfl (ql Kc rfl ?_)))))))))))
 refine B4 h fun v1 a1 h => Ax [2001] (If N p0.fr v1 a1) W9 rfl (qf GG rfl (ql Kc rfl ?_))
 refine B4 h fun v2 a2 h => Ax [2002] (If N p0.fp v2 a2) W9 rfl (AU JK Yb rfl (qs DN rfl (AO (by kernel_rfl) ?_)))
 obtain rfl := sj h
 refine Af (sm [(1000, 2001), (1001, 2002)] [(6, oD (.ptr 6 0))] [(6, .box [iC p0.ff, iC p1, iC p2, .pure (.val (.bool p0.fq)), .own 1000, .own 1001]), (1000, .vec 1 (v1.map (JG eB))), (1001, .vec 1 (v2.map (JG eB)))] rfl rfl) (Ap ?_)
 exact ⟨⟨[_], ⟨.cellN _ _ _ _ _ _ _ rfl rfl Hp DN rfl rfl (Gn rfl), tv⟩, rfl⟩, ⟨rfl, rfl, tv⟩⟩
theorem Kr (N : Nat) (p0 : Aa) (p1 : List Int) (p2 : List Int) (r : Aa × Int) (h : EX N p0 p1 p2 = some r) : Ao zA0 85 [.e (.agg (Ae p0)), pD (.sl (p1.map An)), pD (.sl (p2.map An))] [(1, r.1.fb.map An), (1, r.1.fj.map An), (1, r.1.fm.map An), (6, r.1.fe.map AV)] (.tup [.agg [.own 0, .own 1, .own 2, .own 3], .one (iC r.2)]) := by
 unfold EX at h
 refine cw (n := 66) (rs := [.cell 6 31, .tmp 7]) Tryz.func85 fun w0 S0 => ?_
 refine wq rfl (qb rfl (qz L2 rfl (qa rfl (Ac (wp rfl (qL Cz BS rfl ?_))))))
 refine B4 h fun v1 a1 h => Ax [] (Dl N p0 v1 a1) UO rfl (qa rfl (Ac (wq rfl (qm rfl (BH rfl (Ac ?_))))))
 refine Bc h (fun h => ?_) fun h => ?_
 ·refine wq rfl (AU L2 UP rfl (qm rfl (qs BS rfl (qe rfl ?_))))
  obtain rfl := sj h
  refine Af ((Aw 6 0 2001 1 _ rfl rfl rfl rfl).trans ((Aw 6 1 2002 1 _ rfl rfl rfl rfl).trans ((Aw 6 2 2003 1 _ rfl rfl rfl rfl).trans ((Aw 6 3 2004 6 _ rfl rfl rfl rfl).trans (sm [(1000, 2001), (1001, 2002), (1002, 2003), (1003, 2004)] [(6, oD (.ptr 6 0)), (7, iD v1)] [(6, .box [.own 1000, .own 1001, .own 1002, .own 1003]), (1000, .vec 1 ((([] : List Int)).map An)), (1001, .vec 1 ((([] : List Int)).map An)), (1002, .vec 1 ((([] : List Int)).map An)), (1003, .vec 6 ((([] : List Av)).map AV))] rfl rfl))))) (Ap ?_)
  exact ⟨⟨[_, _], ⟨.cellN _ _ _ _ _ _ _ rfl rfl Cz BS rfl rfl (Gn rfl), tm⟩, rfl⟩, ⟨rfl, rfl, rfl, rfl, tv⟩⟩
 ·refine Al (wq rfl (Em Az De Kh rfl (qf Bt rfl (ql A2 rfl ?_))))
  refine Gl h fun c3 h => Iq (f := An) Az Az De KO Kh (fun _ => rfl) c3 rfl (Em Az De Kh rfl (qm rfl ?_))
  refine Gl h fun c4 h => Iq (f := An) Az Az De KO Kh (fun _ => rfl) c4 rfl (Em Az De Kh rfl (qm rfl ?_))
  refine Gl h fun c5 h => Iq (f := An) Az Az De KO Kh (fun _ => rfl) c5 rfl (AU L2 UP rfl (qz L2 rfl (qs BS rfl (Ac (wp rfl (qe rfl ?_))))))
  refine AI (L := Ci N p0) h (fun v6 => mk [(3, oD (.ptr 3 0)), (6, oD (.ptr 6 0)), (9, oD (.ptr 9 0)), (10, iD v6.2)] [(3, .box (Ae p0)), (6, .box [.pure (.nil0), .pure (.nil0), .pure (.nil0), .pure (.nil0)]), (9, .box [.own 2005, .own 2006, .own 2007, .own 2008]), (2005, .vec 1 (((([] : List Int)) ++ p0.fb).map An)), (2006, .vec 1 (((([] : List Int)) ++ p1).map An)), (2007, .vec 1 (((([] : List Int)) ++ p2).map An)), (2008, .vec 6 (v6.1.map AV))]) (fun v7 => mk [(6, oD (.ptr 6 0)), (9, oD (.ptr 9 0))] [(6, .box [.pure (.nil0), .pure (.nil0), .pure (.nil0), .pure (.nil0)]), (9, .box [.own 2009, .own 2010, .own 2011, .own 2012]), (2009, .vec 1 (((([] : List Int)) ++ p0.fb).map An)), (2010, .vec 1 (((([] : List Int)) ++ p1).map An)), (2011, .vec 1 (((([] : List Int)) ++ p2).map An)), (2012, .vec 6 (v7.map AV))]) (fun _ _ => rfl) ((Aw 9 3 2013 6 _ rfl rfl rfl rfl).trans (sm [(2005, 21), (2006, 24), (2007, 27), (2008, 2013)] _ _ rfl rfl)) (fun j6 n6 v6 h => ?_) (fun v7 s h hs => ?_)
  ·unfold Ci at h
   refine wp rfl (qm rfl (qf Cg rfl (ql GD rfl (AJ DB rfl (A0 rfl (Ac ?_))))))
   refine Bc h (fun h => ?_) fun h => ?_
   ·refine Al (AQ (AM (Ah AA rfl (qf Cg rfl (ql GD rfl (qf Cg rfl (ql GD rfl (qm rfl ?_))))))))
    refine BV h fun v9 a9 b9 h => qi DB DN a9 (Ag b9) rfl (qK Hp DN rfl (qf Cg rfl (ql GD rfl (qm rfl ?_))))
    refine BV h fun v10 a10 b10 h => qi DB DN a10 (Ag b10) rfl (qg Dd rfl (qk Ce rfl (qf Cg rfl (ql GD rfl (qm rfl ?_)))))
    refine BV h fun v11 a11 b11 h => qi DB DN a11 (Ag b11) rfl (qg H3 rfl (qk Ce rfl ?_))
    refine B4 h fun v12 a12 h => Ax [] ((KZ N v9 v10.fg v11.fo v12 a12).share rfl) Y2 rfl (Em DB DN JK rfl ?_)
    refine Gl h fun c13 h => DQ (f := AV) DB DB DN Xt JK c13 rfl (qf Cg rfl (qs Y9 rfl (AO (by kernel_rfl) (Ah AA rfl (qm rfl (A9 rfl (qe rfl ?_)))))))
    exact sn [(2008, 57)] h
   ·refine AX ?_
    exact sn [(2009, 2005), (2010, 2006), (2011, 2007), (2012, 2008)] h
  ·refine Af hs (wp rfl (qL Cz BS rfl ?_))
   refine B4 h fun v14 a14 h => Ej [] [2009, 2010, 2011, 2012] (Dl N ((Aa.mk ((([] : List Int)) ++ p0.fb) ((([] : List Int)) ++ p1) ((([] : List Int)) ++ p2) v7)) v14 a14) UO CR rfl (qa rfl (Ac (wq rfl (qm rfl (BH rfl (Ac ?_))))))
   refine Bc h (fun h => ?_) fun h => ?_
   ·refine wq rfl (AU L2 UP rfl (qm rfl (qs BS rfl (qe rfl ?_))))
    obtain rfl := sj h
    refine Af ((Aw 6 0 2014 1 _ rfl rfl rfl rfl).trans ((Aw 6 1 2015 1 _ rfl rfl rfl rfl).trans ((Aw 6 2 2016 1 _ rfl rfl rfl rfl).trans ((Aw 6 3 2017 6 _ rfl rfl rfl rfl).trans (sm [(1000, 2014), (1001, 2015), (1002, 2016), (1003, 2017)] [(6, oD (.ptr 6 0)), (7, iD v14)] [(6, .box [.own 1000, .own 1001, .own 1002, .own 1003]), (1000, .vec 1 ((([] : List Int)).map An)), (1001, .vec 1 ((([] : List Int)).map An)), (1002, .vec 1 ((([] : List Int)).map An)), (1003, .vec 6 ((([] : List Av)).map AV))] rfl rfl))))) (Ap ?_)
    exact ⟨⟨[_, _], ⟨.cellN _ _ _ _ _ _ _ rfl rfl Cz BS rfl rfl (Gn rfl), tm⟩, rfl⟩, ⟨rfl, rfl, rfl, rfl, tv⟩⟩
   ·refine Al (wq rfl (qL Cz BS rfl (qs BS rfl (qe rfl ?_))))
    obtain rfl := sj h
    refine Af (sm [(1000, 2009), (1001, 2010), (1002, 2011), (1003, 2012)] [(6, oD (.ptr 6 0)), (7, iD 0)] [(6, .box [.own 1000, .own 1001, .own 1002, .own 1003]), (1000, .vec 1 (((([] : List Int)) ++ p0.fb).map An)), (1001, .vec 1 (((([] : List Int)) ++ p1).map An)), (1002, .vec 1 (((([] : List Int)) ++ p2).map An)), (1003, .vec 6 (v7.map AV))] rfl rfl) (Ap ?_)
    exact ⟨⟨[_, _], ⟨.cellN _ _ _ _ _ _ _ rfl rfl Cz BS rfl rfl (Gn rfl), tm⟩, rfl⟩, ⟨rfl, rfl, rfl, rfl, tv⟩⟩
theorem Ma (N : Nat) (p0 : Aa) (r : Aa × Int) (h : ET N p0 = some r) : Ao zA0 57 [.e (.agg (Ae p0))] [(1, r.1.fb.map An), (1, r.1.fj.map An), (1, r.1.fm.map An), (6, r.1.fe.map AV)] (.tup [.agg [.own 0, .own 1, .own 2, .own 3], .one (iC r.2)]) := by
 unfold ET at h
 refine cw (n := 12) (rs := [.cell 2 31, .tmp 3]) Tryz.func57 fun w0 S0 => ?_
 refine wq rfl (qb rfl (qz L2 rfl (qa rfl (Ac (wq rfl (qL Cz BS rfl (qf H5 rfl (ql A2 rfl (qf Gj rfl (ql A2 rfl ?_))))))))))
 refine B4 h fun v1 a1 h => Ax [2001, 2002, 2003, 2004] (Kr N p0 p0.fm p0.fj v1 a1) aR rfl (qx rfl (qx rfl (qs BS rfl (qe rfl ?_))))
 obtain rfl := sj h
 refine Af (sm [(1000, 2001), (1001, 2002), (1002, 2003), (1003, 2004)] [(2, oD (.ptr 2 0)), (3, iD v1.2)] [(2, .box [.own 1000, .own 1001, .own 1002, .own 1003]), (1000, .vec 1 (v1.1.fb.map An)), (1001, .vec 1 (v1.1.fj.map An)), (1002, .vec 1 (v1.1.fm.map An)), (1003, .vec 6 (v1.1.fe.map AV))] rfl rfl) (Ap ?_)
 exact ⟨⟨[_, _], ⟨.cellN _ _ _ _ _ _ _ rfl rfl Cz BS rfl rfl (Gn rfl), tm⟩, rfl⟩, ⟨rfl, rfl, rfl, rfl, tv⟩⟩
theorem L3 (N : Nat) (p0 : Aa) (p1 : List AC) (r : Bool) (h : EV N p0 p1 = some r) : Ao zA0 29 [.e (.agg (Ae p0)), pD (.sl (p1.map Br))] [] (bD r) := by
 unfold EV at h
 refine cw (n := 45) (rs := [.tmp 4]) Tryz.func29 fun w0 S0 => ?_
 refine wq rfl (qb rfl (qa rfl (Ac (wq rfl (qL Cz BS rfl ?_)))))
 refine B4 h fun v1 a1 h => Ax [2001, 2002, 2003, 2004] (Ma N p0 v1 a1) aJ rfl (qm rfl (qx rfl (qx rfl (qz L2 rfl (qs BS rfl (qa rfl (Ac (wq rfl (qa rfl (qa rfl (Ac (wp rfl (qe rfl ?_)))))))))))))
 refine AI (L := Dm N p0 p1 v1) h (fun v2 => mk [(1, pD (.sl (p1.map Br))), (2, oD (.ptr 2 0)), (5, oD (.ptr 5 0)), (7, bD v2.1), (8, bD v2.2.1), (9, iD v2.2.2)] [(2, .box (Ae p0)), (5, .box [.own 2005, .own 2006, .own 2007, .own 2008]), (2005, .vec 1 (v1.1.fb.map An)), (2006, .vec 1 (v1.1.fj.map An)), (2007, .vec 1 (v1.1.fm.map An)), (2008, .vec 6 (v1.1.fe.map AV))]) (fun v3 => mk [(7, bD v3.1), (8, bD v3.2)] []) (fun _ _ => rfl) (sm [(2005, 2001), (2006, 2002), (2007, 2003), (2008, 2004)] _ _ rfl rfl) (fun j2 n2 v2 h => ?_) (fun v3 s h hs => ?_)
 ·unfold Dm at h
  refine wp rfl (qw 2 rfl (AJ JP rfl (A0 rfl (Ac ?_))))
  refine Bc h (fun h => ?_) fun h => ?_
  ·refine Al ?_
   refine AP h (fun v5 => mk [(1, pD (.sl (p1.map Br))), (2, oD (.ptr 2 0)), (5, oD (.ptr 5 0)), (7, bD v5.1), (8, bD v5.2), (9, iD v2.2.2)] [(2, .box (Ae p0)), (5, .box [.own 2009, .own 2010, .own 2011, .own 2012]), (2009, .vec 1 (v1.1.fb.map An)), (2010, .vec 1 (v1.1.fj.map An)), (2011, .vec 1 (v1.1.fm.map An)), (2012, .vec 6 (v1.1.fe.map AV))]) (fun j5 h => ?_) (fun v5 h => ?_)
   ·refine AM ?_
    refine AP h (fun v6 => mk [(1, pD (.sl (p1.map Br))), (2, oD (.ptr 2 0)), (5, oD (.ptr 5 0)), (7, bD v6), (8, bD v2.2.1), (9, iD v2.2.2)] [(2, .box (Ae p0)), (5, .box [.own 2013, .own 2014, .own 2015, .own 2016]), (2013, .vec 1 (v1.1.fb.map An)), (2014, .vec 1 (v1.1.fj.map An)), (2015, .vec 1 (v1.1.fm.map An)), (2016, .vec 6 (v1.1.fe.map AV))]) (fun j6 h => ?_) (fun v6 h => ?_)
    ·refine Ah AA rfl (qw 2 rfl ?_)
     refine Ew 22 h rfl (fun h => ?_) fun h => ?_
     ·refine qw 7 rfl (qp rfl (qa rfl (AO (by kernel_rfl) ?_)))
      exact sn [(2013, 2005), (2014, 2006), (2015, 2007), (2016, 2008)] h
     ·refine qL Cz BS rfl (qw 2 rfl ?_)
      refine BV h fun v8 a8 b8 h => qi JP NP a8 (Ag b8) rfl (qg K0 rfl (qK A5 AK rfl ?_))
      refine B4 h fun v9 a9 h => Ax [] (Hg N p0 ((Ab.mk v8.fu.fc v8.fu.fa v8.fu.fd)) v9 a9) Yk rfl (qp rfl (qa rfl (AO (by kernel_rfl) ?_)))
      exact sn [(2013, 2005), (2014, 2006), (2015, 2007), (2016, 2008)] h
    ·refine Ah AA rfl (qw 2 rfl ?_)
     refine Ew 32 h rfl (fun h => ?_) fun h => ?_
     ·refine qw 7 rfl (qp rfl (qa rfl (AO (by kernel_rfl) ?_)))
      exact sn [(2009, 2013), (2010, 2014), (2011, 2015), (2012, 2016)] h
     ·refine qL Cz BS rfl (qw 2 rfl ?_)
      refine BV h fun v11 a11 b11 h => qi JP NP a11 (Ag b11) rfl (qg K0 rfl (qK A5 AK rfl ?_))
      refine B4 h fun v12 a12 h => Ej [] [2013, 2014, 2015, 2016] (Hg N v1.1 ((Ab.mk v11.fu.fc v11.fu.fa v11.fu.fd)) v12 a12) Yk CR rfl (qp rfl (qa rfl (AO (by kernel_rfl) ?_)))
      exact sn [(2009, 2013), (2010, 2014), (2011, 2015), (2012, 2016)] h
   ·refine Ah AA rfl (qm rfl (A9 rfl (qe rfl ?_)))
    exact sn [(2005, 2009), (2006, 2010), (2007, 2011), (2008, 2012)] h
  ·refine AX ?_
   exact sn [] h
 ·refine Af hs ?_
  refine AP h (fun v13 => mk [(4, bD v13)] []) (fun j13 h => ?_) (fun v13 h => ?_)
  ·refine Ah AA rfl (qw 2 rfl ?_)
   refine Ew 42 h rfl (fun h => ?_) fun h => ?_
   ·refine qm rfl (qp rfl (qe rfl ?_))
    exact sn [] h
   ·refine qn rfl (qp rfl (qe rfl ?_))
    exact sn [] h
  ·obtain rfl := sj h
   refine Af (sm [] [(4, bD v13)] [] rfl rfl) (Ap ?_)
   exact ⟨⟨[_], tm, rfl⟩, tv⟩
theorem Jz (N : Nat) (p0 : Aa) (p1 : List Ad) (r : Bool × Int) (h : CV N p0 p1 = some r) : Ao zA0 7 [.e (.agg (Ae p0)), pD (.sl (p1.map Aq))] [] (.tup [.one (.pure (.val (.bool r.1))), .one (iC r.2)]) := by
 unfold CV at h
 refine cw (n := 66) (rs := [.tmp 4, .tmp 5]) Tryz.func7 fun w0 S0 => ?_
 refine wq rfl (qb rfl (qa rfl (qa rfl (Ac (wp rfl (qL Cz BS rfl ?_))))))
 refine B4 h fun v1 a1 h => Ax [] (Dl N p0 v1 a1) UO rfl (qa rfl (Ac (wq rfl (qm rfl (BH rfl (Ac ?_))))))
 refine Bc h (fun h => ?_) fun h => ?_
 ·refine wq rfl (qm rfl (qa rfl (qe rfl ?_)))
  obtain rfl := sj h
  refine Af (sm [] [(4, bD false), (5, iD v1)] [] rfl rfl) (Ap ?_)
  exact ⟨⟨[_, _], ⟨.tmp _ _ rfl, tm⟩, rfl⟩, tv⟩
 ·refine Al (wp rfl (qL Cz BS rfl (qm rfl ?_)))
  refine B4 h fun v3 a3 h => Ax [] (Lp N p0 p1 v3 a3) Z6 rfl (CD rfl (Ac ?_))
  refine Bc h (fun h => ?_) fun h => ?_
  ·refine wq rfl (qa rfl (qe rfl ?_))
   obtain rfl := sj h
   refine Af (sm [] [(4, bD false), (5, iD 13)] [] rfl rfl) (Ap ?_)
   exact ⟨⟨[_, _], ⟨.tmp _ _ rfl, tm⟩, rfl⟩, tv⟩
  ·refine Al (wq rfl (qL Cz BS rfl ?_))
   refine B4 h fun v5 a5 h => Ax [2001, 2002, 2003] (GK N p0 v5 a5) Ym rfl (qm rfl (qx rfl (qx rfl (qz CH rfl (qs AK rfl (qa rfl (Ac (wp rfl (qL Cz BS rfl (qL A5 AK rfl (C2 (AY 2001 _ _ rfl rfl) (C2 (AY 2002 _ _ rfl rfl) (C2 (AY 2003 _ _ rfl rfl) ?_)))))))))))))
   refine B4 h fun v6 a6 h => Ax [2004] (GJ N p0 v5.1 20000 v6 a6) XK rfl (qm rfl (qx rfl (qx rfl (qa rfl (qa rfl (Ac (wq rfl (qm rfl (CD rfl (Ac ?_))))))))))
   refine Bc h (fun h => ?_) fun h => ?_
   ·refine wq rfl (qa rfl (qe rfl ?_))
    obtain rfl := sj h
    refine Af (sm [] [(4, bD false), (5, iD 3)] [] rfl rfl) (Ap ?_)
    exact ⟨⟨[_, _], ⟨.tmp _ _ rfl, tm⟩, rfl⟩, tv⟩
   ·refine Al (wp rfl (qe rfl ?_))
    refine AI (L := BN N p0 p1) h (fun v8 => mk [(1, pD (.sl (p1.map Aq))), (2, oD (.ptr 2 0)), (7, oD (.ptr 7 0)), (11, iD v8.2)] [(2, .box (Ae p0)), (7, .box (Ay v8.1))]) (fun v9 => mk [] []) (fun _ _ => rfl) (sm [] _ _ rfl rfl) (fun j8 n8 v8 h => ?_) (fun v9 s h hs => ?_)
    ·unfold BN at h
     refine wp rfl (qw 2 rfl (AJ CN rfl (Vo rfl (Ac ?_))))
     refine Bc h (fun h => ?_) fun h => ?_
     ·refine Al ?_
      refine AP h (fun v11 => mk [(1, pD (.sl (p1.map Aq))), (2, oD (.ptr 2 0)), (7, oD (.ptr 7 0)), (11, iD v8.2)] [(2, .box (Ae p0)), (7, .box [sC (v11.1.map An), sC (v11.2.1.map An), sC (v11.2.2.map C3)])]) (fun j11 h => ?_) (fun v11 h => ?_)
      ·refine AM (wq rfl (qL Cz BS rfl (qL A5 AK rfl ?_)))
       refine B4 h fun v12 a12 h => Ax [2005] (GJ N p0 v8.1 20000 v12 a12) XK rfl (qm rfl (qx rfl (qx rfl (qa rfl (qa rfl (Ac (wp rfl (qL Cz BS rfl (qm rfl ?_)))))))))
       refine B4 h fun v13 a13 h => Ej [] [2005] (L3 N p0 v12.1 v13 a13) Z7 CR rfl (CD rfl (Ac ?_))
       refine Bc h (fun h => ?_) fun h => ?_
       ·refine wq rfl (qa rfl (qe rfl ?_))
        obtain rfl := sj h
        refine Af (sm [] [(4, bD false), (5, iD 0)] [] rfl rfl) (Ap ?_)
        exact ⟨⟨[_, _], ⟨.tmp _ _ rfl, tm⟩, rfl⟩, tv⟩
       ·refine Al (wq rfl (qw 2 rfl (AJ CN rfl (A0 rfl (Ac ?_)))))
        refine Bc h (fun h => ?_) fun h => ?_
        ·refine Ah AA rfl (qL Cz BS rfl (qL A5 AK rfl (qw 2 rfl ?_)))
         refine BV h fun v16 a16 b16 h => qi CN Do a16 (Ag b16) rfl (qK Hr Do rfl ?_)
         refine B4 h fun v17 a17 h => Ax [2006, 2007, 2008] (GM N p0 v8.1 v16 v17 a17) X7 rfl (qm rfl (qx rfl (qx rfl (qs AK rfl (AO (by kernel_rfl) ?_)))))
         exact Vv _ h ((AY 2006 _ _ rfl rfl).trans ((AY 2007 _ _ rfl rfl).trans ((AY 2008 _ _ rfl rfl).trans (sm [] _ _ rfl rfl))))
        ·refine Al ?_
         exact sn [] h
      ·refine Ah AA rfl (qm rfl (A9 rfl (qe rfl ?_)))
       exact sn [] h
     ·refine AX ?_
      exact sn [] h
    ·refine Af hs (wq rfl (qa rfl (qe rfl ?_)))
     obtain rfl := sj h
     refine Af (sm [] [(4, bD true), (5, iD 0)] [] rfl rfl) (Ap ?_)
     exact ⟨⟨[_, _], ⟨.tmp _ _ rfl, tm⟩, rfl⟩, tv⟩
theorem In (N : Nat) (p0 : BA) (p1 : List Ad) (r : Bool) (h : CP N p0 p1 = some r) : Ao zA0 3 [.e (.agg (Cp p0)), pD (.sl (p1.map Aq))] [] (bD r) := by
 unfold CP at h
 refine cw (n := 46) (rs := [.tmp 4]) Tryz.func3 fun w0 S0 => ?_
 refine wq rfl (qb rfl (qa rfl (Ac (AQ ?_))))
 refine AP h (fun v1 => mk [(1, pD (.sl (p1.map Aq))), (2, oD (.ptr 2 0)), (17, bD v1)] [(2, .box (Cp p0))]) (fun j1 h => ?_) (fun v1 h => ?_)
 ·refine Ah AA rfl ?_
  refine B4 h fun v2 a2 h => Ax [] (Iw N v2 a2) bi rfl (CD rfl (qm rfl ?_))
  refine Ew 13 h rfl (fun h => ?_) fun h => ?_
  ·refine qw 3 rfl (qp rfl (Ac ?_))
   exact sn [] h
  ·refine qm rfl (AJ CN rfl (Gk rfl (qp rfl (Ac ?_))))
   exact sn [] h
 ·refine Bc h (fun h => ?_) fun h => ?_
  ·refine wq rfl ?_
   refine B4 h fun v5 a5 h => Ax [] (Iw N v5 a5) bi rfl (qe rfl ?_)
   obtain rfl := sj h
   refine Af (sm [] [(4, bD v5)] [] rfl rfl) (Ap ?_)
   exact ⟨⟨[_], tm, rfl⟩, tv⟩
  ·refine Al (wq rfl (qL Y1 ZC rfl ?_))
   refine B4 h fun v6 a6 h => Ax [2001, 2002, 2003, 2004] (ND N p0 v6 a6) bo rfl (qm rfl (qx rfl (qx rfl (qz L2 rfl (qs BS rfl (qa rfl (Ac (wp rfl (qm rfl (CD rfl (Ac ?_)))))))))))
   refine Bc h (fun h => ?_) fun h => ?_
   ·refine wq rfl (qe rfl ?_)
    obtain rfl := sj h
    refine Af (sm [] [(4, bD true)] [] rfl rfl) (Ap ?_)
    exact ⟨⟨[_], tm, rfl⟩, tv⟩
   ·refine Al (wq rfl (qL Cz BS rfl (qm rfl ?_)))
    refine B4 h fun v8 a8 h => Ej [] [2001, 2002, 2003, 2004] (MF N v6.1 p1 v8 a8) bk CR rfl (qm rfl (qx rfl (qx rfl (qa rfl (qa rfl (Ac (wq rfl (qL Cz BS rfl (qm rfl ?_)))))))))
    refine B4 h fun v9 a9 h => Ej [] [2001, 2002, 2003, 2004] (Jz N v6.1 p1 v9 a9) bp CR rfl (qm rfl (qx rfl (qx rfl (qa rfl (qe rfl ?_)))))
    refine AP h (fun v10 => mk [(4, bD v10)] []) (fun j10 h => ?_) (fun v10 h => ?_)
    ·refine Ah AA rfl (qw 2 rfl ?_)
     refine Iv (.p rfl) rfl rfl (U3 _ _ _ _ bn) rfl ?_
     refine qm rfl ?_
     refine Ew 41 h rfl (fun h => ?_) fun h => ?_
     ·refine qw 2 rfl (BZ rfl (qp rfl (qe rfl ?_)))
      exact sn [] h
     ·refine qw 3 rfl (qp rfl (qe rfl ?_))
      exact sn [] h
    ·obtain rfl := sj h
     refine Af (sm [] [(4, bD v10)] [] rfl rfl) (Ap ?_)
     exact ⟨⟨[_], tm, rfl⟩, tv⟩
end Go.Lift
