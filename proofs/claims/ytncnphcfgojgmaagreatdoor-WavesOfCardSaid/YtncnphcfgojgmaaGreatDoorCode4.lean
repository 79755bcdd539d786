/- Lemmas for WavesOfCardSaid, which YtncnphcfgojgmaaGreatDoorFinV8 proves. -/
import Derived.Test.YtncnphcfgojgmaaGreatDoorCode2
namespace Go.Lift
set_option maxRecDepth 10000
open Go.RowKit
open Go.Proofs
theorem ED (N : Nat) (p0 : Aa) (r : Int) (h : BA N p0 = some r) : Ar Tryz.prog 46 [.e (.agg (Ag p0))] [] (iD r) := by
 unfold BA at h
 refine cw (n := 102) (rs := [.tmp 2]) Tryz.func46 fun w0 S0 => ?_
 refine wq rfl (qb rfl (qa rfl (Ad (AN ?_))))
 refine AL h (fun v1 => mk [(1, oD (.ptr 1 0)), (16, bD v1)] [(1, .box (Ag p0))]) (fun j1 h => ?_) (fun v1 h => ?_)
 ·refine Aj Ay rfl (qf Bq rfl (ql A0 rfl (AF Ax rfl (Fe rfl (qm rfl ?_)))))
  refine Dm 11 h rfl (fun h => ?_) fun h => ?_
  ·refine qw 4 rfl (qp rfl (Ad ?_))
   exact sn [] h
  ·refine qf CJ rfl (ql Hs rfl (AF Ek rfl (Fe rfl (qp rfl (Ad ?_)))))
   exact sn [] h
 ·refine A5 h (fun h => ?_) fun h => ?_
  ·refine wq rfl (qe rfl ?_)
   obtain rfl := sj h
   refine Ae (sm [] [(2, iD 3)] [] rfl rfl) (Aq ?_)
   exact ⟨⟨[_], tm, rfl⟩, tv⟩
  ·refine Al (AN ?_)
   refine AL h (fun v4 => mk [(1, oD (.ptr 1 0)), (32, bD v4)] [(1, .box (Ag p0))]) (fun j4 h => ?_) (fun v4 h => ?_)
   ·refine Aj Ay rfl (qf Gx rfl (ql A0 rfl (AF Ax rfl (qf Bq rfl (ql A0 rfl (AF Ax rfl (Bk rfl (qm rfl ?_))))))))
    refine Dm 24 h rfl (fun h => ?_) fun h => ?_
    ·refine qw 7 rfl (qp rfl (Ad ?_))
     exact sn [] h
    ·refine qf HZ rfl (ql A0 rfl (AF Ax rfl (qf Bq rfl (ql A0 rfl (AF Ax rfl (Bk rfl (qp rfl (Ad ?_))))))))
     exact sn [] h
   ·refine A5 h (fun h => ?_) fun h => ?_
    ·refine wq rfl (qe rfl ?_)
     obtain rfl := sj h
     refine Ae (sm [] [(2, iD 6)] [] rfl rfl) (Aq ?_)
     exact ⟨⟨[_], tm, rfl⟩, tv⟩
    ·refine Al (wp rfl (qe rfl ?_))
     refine AH (L := A8 N p0) h (fun v7 => mk [(1, oD (.ptr 1 0)), (3, iD v7)] [(1, .box (Ag p0))]) (fun v8 => mk [(1, oD (.ptr 1 0))] [(1, .box (Ag p0))]) (fun _ _ => rfl) (sm [] _ _ rfl rfl) (fun j7 n7 v7 h => ?_) (fun v8 s h hs => ?_)
     ·unfold A8 at h
      refine wp rfl (qm rfl (qf Bq rfl (ql A0 rfl (AF Ax rfl (AV rfl (Ad ?_))))))
      refine A5 h (fun h => ?_) fun h => ?_
      ·refine Al (AN (AM (wq rfl (qf Bq rfl (ql A0 rfl (qm rfl ?_))))))
       refine BS h fun v10 a10 b10 h => qi Ax CU a10 (Ah b10) rfl (qk BQ rfl (qe rfl ?_))
       refine AL h (fun v11 => mk [(1, oD (.ptr 1 0)), (3, iD v7), (84, bD v11)] [(1, .box (Ag p0))]) (fun j11 h => ?_) (fun v11 h => ?_)
       ·refine Aj Ay rfl (qm rfl (AV rfl (qm rfl ?_)))
        refine Dm 47 h rfl (fun h => ?_) fun h => ?_
        ·refine qw 2 rfl (qp rfl (qw 7 rfl (qp rfl (qw 8 rfl (qp rfl (qw 7 rfl (qp rfl (qw 8 rfl (qp rfl (Ad ?_))))))))))
         exact sn [] h
        ·refine qm rfl (Fe rfl (qp rfl (qm rfl ?_)))
         refine Dm 51 h rfl (fun h => ?_) fun h => ?_
         ·refine qw 6 rfl (qp rfl (qw 8 rfl (qp rfl (qw 7 rfl (qp rfl (qw 8 rfl (qp rfl (Ad ?_))))))))
          exact sn [] h
         ·refine qf Gx rfl (ql A0 rfl (qm rfl ?_))
          refine BS h fun v14 a14 b14 h => qi Ax CU a14 (Ah b14) rfl (qk BQ rfl (AV rfl (qp rfl (qm rfl ?_))))
          refine Dm 59 h rfl (fun h => ?_) fun h => ?_
          ·refine qw 7 rfl (qp rfl (qw 7 rfl (qp rfl (qw 8 rfl (qp rfl (Ad ?_))))))
           exact sn [] h
          ·refine qf Gx rfl (ql A0 rfl (qm rfl ?_))
           refine BS h fun v16 a16 b16 h => qi Ax CU a16 (Ah b16) rfl (qk BQ rfl (qm rfl (EA rfl (qp rfl (qm rfl ?_)))))
           refine Dm 68 h rfl (fun h => ?_) fun h => ?_
           ·refine qw 6 rfl (qp rfl (qw 8 rfl (qp rfl (Ad ?_))))
            exact sn [] h
           ·refine qf HZ rfl (ql A0 rfl (qm rfl ?_))
            refine BS h fun v18 a18 b18 h => qi Ax CU a18 (Ah b18) rfl (qk BQ rfl (AV rfl (qp rfl (qm rfl ?_))))
            refine Dm 76 h rfl (fun h => ?_) fun h => ?_
            ·refine qw 7 rfl (qp rfl (Ad ?_))
             exact sn [] h
            ·refine qf HZ rfl (ql A0 rfl (qm rfl ?_))
             refine BS h fun v20 a20 b20 h => qi Ax CU a20 (Ah b20) rfl (qk BQ rfl (qm rfl (EA rfl (qp rfl (Ad ?_)))))
             exact sn [] h
       ·refine A5 h (fun h => ?_) fun h => ?_
        ·refine wq rfl (qe rfl ?_)
         obtain rfl := sj h
         refine Ae (sm [] [(2, iD 7)] [] rfl rfl) (Aq ?_)
         exact ⟨⟨[_], tm, rfl⟩, tv⟩
        ·refine Al (Aj Ay rfl (qm rfl (Be rfl (qe rfl ?_))))
         exact sn [] h
      ·refine AS ?_
       exact sn [] h
     ·refine Ae hs (wp rfl (qe rfl ?_))
      refine AH (L := A4 N p0) h (fun v22 => mk [(1, oD (.ptr 1 0)), (5, iD v22)] [(1, .box (Ag p0))]) (fun v23 => mk [] []) (fun _ _ => rfl) (sm [] _ _ rfl rfl) (fun j22 n22 v22 h => ?_) (fun v23 s h hs => ?_)
      ·unfold A4 at h
       refine wp rfl (qm rfl (qf CJ rfl (ql Hs rfl (AF Ek rfl (AV rfl (Ad ?_))))))
       refine A5 h (fun h => ?_) fun h => ?_
       ·refine Al (AN (AM (wq rfl (qL Ch B5 rfl (qf CJ rfl (ql Hs rfl (qm rfl ?_)))))))
        refine BS h fun v25 a25 b25 h => qi Ek Ef a25 (Ah b25) rfl (qK Hu Ef rfl ?_)
        refine BH h fun v26 a26 h => As [] (Kd N p0 v25 v26 a26) Yt rfl (qa rfl (AI (by kernel_rfl) (wq rfl (qm rfl (Bk rfl (Ad ?_))))))
        refine A5 h (fun h => ?_) fun h => ?_
        ·refine wq rfl (qm rfl (qe rfl ?_))
         obtain rfl := sj h
         refine Ae (sm [] [(2, iD v26)] [] rfl rfl) (Aq ?_)
         exact ⟨⟨[_], tm, rfl⟩, tv⟩
        ·refine Al (Aj Ay rfl (qm rfl (Be rfl (qe rfl ?_))))
         exact sn [] h
       ·refine AS ?_
        exact sn [] h
      ·refine Ae hs (wq rfl (qe rfl ?_))
       obtain rfl := sj h
       refine Ae (sm [] [(2, iD 0)] [] rfl rfl) (Aq ?_)
       exact ⟨⟨[_], tm, rfl⟩, tv⟩
theorem F8 (N : Nat) (p0 : Aa) (r : Ac × Int) (h : CM N p0 = some r) : Ar Tryz.prog 24 [.e (.agg (Ag p0))] [(1, r.1.fe.map An), (1, r.1.fa.map An), (1, r.1.fc.map Cb)] (.tup [.agg [.own 0, .own 1, .own 2], .one (iC r.2)]) := by
 unfold CM at h
 refine cw (n := 68) (rs := [.cell 2 38, .tmp 3]) Tryz.func24 fun w0 S0 => ?_
 refine wq rfl (qb rfl (qz BU rfl (qa rfl (Ad (wp rfl (qL Ch B5 rfl ?_))))))
 refine BH h fun v1 a1 h => As [] (ED N p0 v1 a1) Wx rfl (qa rfl (Ad (wq rfl (qm rfl (Bk rfl (Ad ?_))))))
 refine A5 h (fun h => ?_) fun h => ?_
 ·refine wq rfl (AU BU FD rfl (qm rfl (qs AE rfl (qe rfl ?_))))
  obtain rfl := sj h
  refine Ae ((Az 2 0 2001 1 _ rfl rfl rfl rfl).trans ((Az 2 1 2002 1 _ rfl rfl rfl rfl).trans ((Az 2 2 2003 1 _ rfl rfl rfl rfl).trans (sm [(1000, 2001), (1001, 2002), (1002, 2003)] [(2, oD (.ptr 2 0)), (3, iD v1)] [(2, .box [.own 1000, .own 1001, .own 1002]), (1000, .vec 1 ((([] : List Int)).map An)), (1001, .vec 1 ((([] : List Int)).map An)), (1002, .vec 1 ((([] : List Int)).map Cb))] rfl rfl)))) (Aq ?_)
  exact ⟨⟨[_, _], ⟨.cellN _ _ _ _ _ _ _ rfl rfl AW AE rfl rfl (FM rfl), tm⟩, rfl⟩, ⟨rfl, rfl, rfl, tv⟩⟩
 ·refine Al (wq rfl (qz BU rfl (Ad (wp rfl (qe rfl ?_)))))
  refine AH (L := BN N p0) h (fun v3 => mk [(1, oD (.ptr 1 0)), (2, oD (.ptr 2 0)), (5, oD (.ptr 5 0)), (6, iD v3.2.2)] [(1, .box (Ag p0)), (2, .box [.pure (.nil0), .pure (.nil0), .pure (.nil0)]), (5, .box [.own 2004, .own 2005, .pure (.nil0)]), (2004, .vec 1 (v3.1.map An)), (2005, .vec 1 (v3.2.1.map An))]) (fun v4 => mk [(1, oD (.ptr 1 0)), (2, oD (.ptr 2 0)), (5, oD (.ptr 5 0))] [(1, .box (Ag p0)), (2, .box [.pure (.nil0), .pure (.nil0), .pure (.nil0)]), (5, .box [.own 2006, .own 2007, .pure (.nil0)]), (2006, .vec 1 (v4.1.map An)), (2007, .vec 1 (v4.2.map An))]) (fun _ _ => rfl) ((Az 5 0 2008 1 _ rfl rfl rfl rfl).trans ((Az 5 1 2009 1 _ rfl rfl rfl rfl).trans (sm [(2004, 2008), (2005, 2009)] _ _ rfl rfl))) (fun j3 n3 v3 h => ?_) (fun v4 s h hs => ?_)
  ·unfold BN at h
   refine wp rfl (qm rfl (qf Bq rfl (ql A0 rfl (AF Ax rfl (AV rfl (Ad ?_))))))
   refine A5 h (fun h => ?_) fun h => ?_
   ·refine Al (AN (AM (wq rfl (qf Ct rfl (ql A0 rfl (qf Gx rfl (ql A0 rfl (qm rfl ?_))))))))
    refine BS h fun v6 a6 b6 h => qi Ax CU a6 (Ah b6) rfl (qk BQ rfl (Eu Ax CU J7 rfl ?_))
    refine E1 h fun c7 h => El (f := An) Ax Ax CU KR J7 c7 rfl (qf Ct rfl (qs MB rfl (AI (by kernel_rfl) (Aj Ay rfl (qf Bl rfl (ql A0 rfl (Eu Ax CU J7 rfl ?_)))))))
    refine E1 h fun c8 h => El (f := An) Ax Ax CU KR J7 c8 rfl (qf Bl rfl (qs MB rfl (Ad (Aj Ay rfl (qm rfl (Be rfl (qe rfl ?_)))))))
    exact sn [(2004, 30), (2005, 35)] h
   ·refine AS ?_
    exact sn [(2006, 2004), (2007, 2005)] h
  ·refine Ae hs (wp rfl (qe rfl ?_))
   refine AH (L := A7 N p0) h (fun v9 => mk [(1, oD (.ptr 1 0)), (2, oD (.ptr 2 0)), (5, oD (.ptr 5 0)), (7, iD v9.2)] [(1, .box (Ag p0)), (2, .box [.pure (.nil0), .pure (.nil0), .pure (.nil0)]), (5, .box [.own 2010, .own 2011, .own 2012]), (2010, .vec 1 (v4.1.map An)), (2011, .vec 1 (v4.2.map An)), (2012, .vec 1 (v9.1.map Cb))]) (fun v10 => mk [(2, oD (.ptr 2 0)), (5, oD (.ptr 5 0))] [(2, .box [.pure (.nil0), .pure (.nil0), .pure (.nil0)]), (5, .box [.own 2013, .own 2014, .own 2015]), (2013, .vec 1 (v4.1.map An)), (2014, .vec 1 (v4.2.map An)), (2015, .vec 1 (v10.map Cb))]) (fun _ _ => rfl) ((Az 5 2 2019 1 _ rfl rfl rfl rfl).trans (sm [(2010, 2006), (2011, 2007), (2012, 2019)] _ _ rfl rfl)) (fun j9 n9 v9 h => ?_) (fun v10 s h hs => ?_)
   ·unfold A7 at h
    refine wp rfl (qm rfl (qf CJ rfl (ql Hs rfl (AF Ek rfl (AV rfl (Ad ?_))))))
    refine A5 h (fun h => ?_) fun h => ?_
    ·refine Al (AN (AM (wq rfl (qe rfl ?_))))
     refine AL h (fun v12 => mk [(1, oD (.ptr 1 0)), (2, oD (.ptr 2 0)), (5, oD (.ptr 5 0)), (7, iD v9.2), (8, pD (.val (.int .u8 v12)))] [(1, .box (Ag p0)), (2, .box [.pure (.nil0), .pure (.nil0), .pure (.nil0)]), (5, .box [.own 2016, .own 2017, .own 2018]), (2016, .vec 1 (v4.1.map An)), (2017, .vec 1 (v4.2.map An)), (2018, .vec 1 (v9.1.map Cb))]) (fun j12 h => ?_) (fun v12 h => ?_)
     ·refine wq rfl (qf CJ rfl (ql Hs rfl (qm rfl ?_)))
      refine BS h fun v13 a13 b13 h => qi Ek Ef a13 (Ah b13) rfl (qK Hu Ef rfl ?_)
      refine BH h fun v14 a14 h => As [] (B4 N v13 v14 a14) O1 rfl (Ad ?_)
      refine A5 h (fun h => ?_) fun h => ?_
      ·refine Aj Ay rfl (qf Gx rfl (ql A0 rfl (qf CJ rfl (ql Hs rfl (qm rfl ?_)))))
       refine BS h fun v16 a16 b16 h => qi Ek Ef a16 (Ah b16) rfl (qg CN rfl (qk BQ rfl ?_))
       refine BS h fun v17 a17 b17 h => qi Ax CU a17 (Ah b17) rfl (qk BQ rfl ?_)
       refine E1 h fun c18 h => IE rfl c18 (qa rfl (AI (by kernel_rfl) ?_))
       exact sn [(2016, 2010), (2017, 2011), (2018, 2012)] h
      ·refine Al ?_
       exact sn [(2016, 2010), (2017, 2011), (2018, 2012)] h
     ·refine Aj Ay rfl (qf Cn rfl (ql GS rfl (qm rfl (Eu C0 FB PA rfl ?_))))
      refine E1 h fun c19 h => El (f := Cb) C0 C0 FB Qx PA c19 rfl (qf Cn rfl (qs Ym rfl (Ad (Aj Ay rfl (qm rfl (Be rfl (qe rfl ?_)))))))
      exact sn [(2010, 2016), (2011, 2017), (2012, 65)] h
    ·refine AS ?_
     exact sn [(2013, 2010), (2014, 2011), (2015, 2012)] h
   ·refine Ae hs (wq rfl (qL AW AE rfl (qs AE rfl (qe rfl ?_))))
    obtain rfl := sj h
    refine Ae (sm [(1000, 2013), (1001, 2014), (1002, 2015)] [(2, oD (.ptr 2 0)), (3, iD 0)] [(2, .box [.own 1000, .own 1001, .own 1002]), (1000, .vec 1 (v4.1.map An)), (1001, .vec 1 (v4.2.map An)), (1002, .vec 1 (v10.map Cb))] rfl rfl) (Aq ?_)
    exact ⟨⟨[_, _], ⟨.cellN _ _ _ _ _ _ _ rfl rfl AW AE rfl rfl (FM rfl), tm⟩, rfl⟩, ⟨rfl, rfl, rfl, tv⟩⟩
theorem Kx (N : Nat) (p0 : Aa) (p1 : List (List Ab)) (r : (List Ac) × Int) (h : Fd N p0 p1 = some r) : Ar Tryz.prog 25 [.e (.agg (Ag p0)), pD (.sl (p1.map (EU Af)))] [(3, r.1.map Ca)] (.tup [.one (.own 0), .one (iC r.2)]) := by
 unfold Fd at h
 refine cw (n := 61) (rs := [.tmp 4, .tmp 5]) Tryz.func25 fun w0 S0 => ?_
 refine wq rfl (qb rfl (qa rfl (qa rfl (Ad (wp rfl (qL Ch B5 rfl ?_))))))
 refine BH h fun v1 a1 h => As [] (FW N p0 v1 a1) Wq rfl (qa rfl (Ad (wq rfl (qm rfl (Bk rfl (Ad ?_))))))
 refine A5 h (fun h => ?_) fun h => ?_
 ·refine wq rfl (qm rfl (qa rfl (qe rfl ?_)))
  obtain rfl := sj h
  refine Ae ((Bt 4 2001 3 rfl rfl rfl).trans (sm [(1000, 2001)] [(4, oD (.own 1000)), (5, iD v1)] [(1000, .vec 3 ((([] : List Ac)).map Ca))] rfl rfl)) (Aq ?_)
  exact ⟨⟨[_, _], ⟨.tmp _ _ rfl, tm⟩, rfl⟩, ⟨rfl, tv⟩⟩
 ·refine Al (wq rfl (qL Ch B5 rfl ?_))
  refine BH h fun v3 a3 h => As [2002, 2003, 2004] (JG N p0 v3 a3) VT rfl (qm rfl (qx rfl (qx rfl (qz BU rfl (qs AE rfl (qa rfl (Ad (wp rfl (qm rfl (Bk rfl (Ad ?_)))))))))))
  refine A5 h (fun h => ?_) fun h => ?_
  ·refine wq rfl (qm rfl (qa rfl (qe rfl ?_)))
   obtain rfl := sj h
   refine Ae ((Bt 4 2005 3 rfl rfl rfl).trans (sm [(1000, 2005)] [(4, oD (.own 1000)), (5, iD v3.2)] [(1000, .vec 3 ((([] : List Ac)).map Ca))] rfl rfl)) (Aq ?_)
   exact ⟨⟨[_, _], ⟨.tmp _ _ rfl, tm⟩, rfl⟩, ⟨rfl, tv⟩⟩
  ·refine Al (wq rfl (qL AW AE rfl (DJ (AQ 2002 _ _ rfl rfl) (DJ (AQ 2003 _ _ rfl rfl) (DJ (AQ 2004 _ _ rfl rfl) (Eu Gg AE BU rfl (qa rfl (Ad (wp rfl (qm rfl (AF Hj rfl (qm rfl (Ad ?_)))))))))))))
   refine AH (L := Eh N p0 p1) h (fun v5 => mk [(2, oD (.ptr 2 0)), (7, oD (.ptr 7 0)), (9, oD (.own 2006)), (29, pD (.sl (p1.map (EU Af)))), (30, iD ((p1.length : Int))), (31, iD v5.2.2)] [(2, .box (Ag p0)), (7, .box (Av v5.1)), (2006, .vec 3 (v5.2.1.map Ca))]) (fun v6 => mk [(9, oD (.own 2007))] [(2007, .vec 3 (v6.map Ca))]) (fun _ _ => rfl) (sm [(2006, 28)] _ _ rfl rfl) (fun j5 n5 v5 h => ?_) (fun v6 s h hs => ?_)
   ·unfold Eh at h
    refine wq rfl (AV rfl (Ad (AN ?_)))
    refine A5 h (fun h => ?_) fun h => ?_
    ·refine Al (AN (AM (wq rfl ?_)))
     refine BS h fun v8 a8 b8 h => qi Hj NG a8 (Ah b8) rfl (qk Q2 rfl (qa rfl (Ad (wp rfl (qL Ch B5 rfl (qL AW AE rfl (qm rfl ?_)))))))
     refine BH h fun v9 a9 h => As [] (I9 N p0 v5.1 v8 v9 a9) V7 rfl (qm rfl (qx rfl (qx rfl (qa rfl (qe rfl ?_)))))
     refine AL h (fun v10 => mk [(2, oD (.ptr 2 0)), (7, oD (.ptr 7 0)), (9, oD (.own 2008)), (11, pD (.sl (v8.map Af))), (29, pD (.sl (p1.map (EU Af)))), (30, iD ((p1.length : Int))), (31, iD v5.2.2), (47, bD v10)] [(2, .box (Ag p0)), (7, .box (Av v5.1)), (2008, .vec 3 (v5.2.1.map Ca))]) (fun j10 h => ?_) (fun v10 h => ?_)
     ·refine Aj Ay rfl (qm rfl (Bk rfl (qm rfl ?_)))
      refine Dm 44 h rfl (fun h => ?_) fun h => ?_
      ·refine qw 2 rfl (qp rfl (Ad ?_))
       exact sn [(2008, 2006)] h
      ·refine qm rfl (BT rfl (qp rfl (Ad ?_)))
       exact sn [(2008, 2006)] h
     ·refine A5 h (fun h => ?_) fun h => ?_
      ·refine wq rfl (qa rfl (qe rfl ?_))
       obtain rfl := sj h
       refine Ae ((Bt 4 2009 3 rfl rfl rfl).trans (sm [(1000, 2009)] [(4, oD (.own 1000)), (5, iD 13)] [(1000, .vec 3 ((([] : List Ac)).map Ca))] rfl rfl)) (Aq ?_)
       exact ⟨⟨[_, _], ⟨.tmp _ _ rfl, tm⟩, rfl⟩, ⟨rfl, tv⟩⟩
      ·refine Al (wq rfl (qL Ch B5 rfl (qL AW AE rfl (qm rfl ?_))))
       refine BH h fun v13 a13 h => As [] (Gz N p0 v5.1 v8 v13 a13) UY rfl (qm rfl (qx rfl (qx rfl (qs AE rfl (Ad (Aj Ay rfl (qm rfl (qL AW AE rfl (Eu Gg AE BU rfl ?_)))))))))
       refine E1 h fun c14 h => El (f := Ca) Gg Gg AE SK BU c14 rfl (qa rfl (Ad (Aj Ay rfl (Be rfl (qm rfl (Ad ?_))))))
       exact sn [(2006, 58)] h
    ·refine AS ?_
     exact sn [(2007, 2006)] h
   ·refine Ae hs (wq rfl (qm rfl (qa rfl (qe rfl ?_))))
    obtain rfl := sj h
    refine Ae (sm [(1000, 2007)] [(4, oD (.own 1000)), (5, iD 0)] [(1000, .vec 3 (v6.map Ca))] rfl rfl) (Aq ?_)
    exact ⟨⟨[_, _], ⟨.tmp _ _ rfl, tm⟩, rfl⟩, ⟨rfl, tv⟩⟩
theorem GH (N : Nat) (p0 : List Ab) (p1 : List Ab) (r : Bool) (h : Cw N p0 p1 = some r) : Ar Tryz.prog 14 [pD (.sl (p0.map Af)), pD (.sl (p1.map Af))] [] (bD r) := by
 unfold Cw at h
 refine cw (n := 26) (rs := [.tmp 4]) Tryz.func14 fun w0 S0 => ?_
 refine wq rfl (qa rfl (Ad (wp rfl (qm rfl (AF A3 rfl (qm rfl (AF A3 rfl (Bk rfl (Ad ?_)))))))))
 refine A5 h (fun h => ?_) fun h => ?_
 ·refine wq rfl (qe rfl ?_)
  obtain rfl := sj h
  refine Ae (sm [] [(4, bD false)] [] rfl rfl) (Aq ?_)
  exact ⟨⟨[_], tm, rfl⟩, tv⟩
 ·refine Al (wp rfl (qe rfl ?_))
  refine AH (L := Cq N p0 p1) h (fun v2 => mk [(0, pD (.sl (p0.map Af))), (1, pD (.sl (p1.map Af))), (5, iD v2)] []) (fun v3 => mk [] []) (fun _ _ => rfl) (sm [] _ _ rfl rfl) (fun j2 n2 v2 h => ?_) (fun v3 s h hs => ?_)
  ·unfold Cq at h
   refine wp rfl (qw 2 rfl (AF A3 rfl (AV rfl (Ad ?_))))
   refine A5 h (fun h => ?_) fun h => ?_
   ·refine Al (AN (AM (wq rfl (qw 2 rfl ?_))))
    refine BS h fun v5 a5 b5 h => qi A3 B8 a5 (Ah b5) rfl (qK Gr B8 rfl (qw 2 rfl ?_))
    refine BS h fun v6 a6 b6 h => qi A3 B8 a6 (Ah b6) rfl (qK Gr B8 rfl ?_)
    refine Xm [.int .i64 v5.ff, .int .i64 v5.fh, .int .i64 v5.fj] [.int .i64 v6.ff, .int .i64 v6.fh, .int .i64 v6.fj] (.p rfl) rfl rfl T4 rfl ?_
    refine AI (by kernel_rfl) ?_
    refine A5 h (fun h => ?_) fun h => ?_
    ·refine wq rfl (qe rfl ?_)
     obtain rfl := sj h
     refine Ae (sm [] [(4, bD false)] [] rfl rfl) (Aq ?_)
     exact ⟨⟨[_], tm, rfl⟩, tv⟩
    ·refine Al (Aj Ay rfl (qm rfl (Be rfl (qe rfl ?_))))
     exact sn [] h
   ·refine AS ?_
    exact sn [] h
  ·refine Ae hs (wq rfl (qe rfl ?_))
   obtain rfl := sj h
   refine Ae (sm [] [(4, bD true)] [] rfl rfl) (Aq ?_)
   exact ⟨⟨[_], tm, rfl⟩, tv⟩
theorem GI (N : Nat) (p0 : List (List Ab)) (p1 : List (List Ab)) (r : Bool) (h : CX N p0 p1 = some r) : Ar Tryz.prog 17 [pD (.sl (p0.map (EU Af))), pD (.sl (p1.map (EU Af)))] [] (bD r) := by
 unfold CX at h
 refine cw (n := 27) (rs := [.tmp 4]) Tryz.func17 fun w0 S0 => ?_
 refine wq rfl (qa rfl (Ad (wp rfl (qm rfl (AF Hj rfl (qm rfl (AF Hj rfl (Bk rfl (Ad ?_)))))))))
 refine A5 h (fun h => ?_) fun h => ?_
 ·refine wq rfl (qe rfl ?_)
  obtain rfl := sj h
  refine Ae (sm [] [(4, bD false)] [] rfl rfl) (Aq ?_)
  exact ⟨⟨[_], tm, rfl⟩, tv⟩
 ·refine Al (wp rfl (qe rfl ?_))
  refine AH (L := Co N p0 p1) h (fun v2 => mk [(0, pD (.sl (p0.map (EU Af)))), (1, pD (.sl (p1.map (EU Af)))), (5, iD v2)] []) (fun v3 => mk [] []) (fun _ _ => rfl) (sm [] _ _ rfl rfl) (fun j2 n2 v2 h => ?_) (fun v3 s h hs => ?_)
  ·unfold Co at h
   refine wp rfl (qw 2 rfl (AF Hj rfl (AV rfl (Ad ?_))))
   refine A5 h (fun h => ?_) fun h => ?_
   ·refine Al (AN (AM (wq rfl (qw 2 rfl ?_))))
    refine BS h fun v5 a5 b5 h => qi Hj NG a5 (Ah b5) rfl (qk Q2 rfl (qw 2 rfl ?_))
    refine BS h fun v6 a6 b6 h => qi Hj NG a6 (Ah b6) rfl (qk Q2 rfl ?_)
    refine BH h fun v7 a7 h => As [] (GH N v5 v6 v7 a7) VZ rfl (BT rfl (AI (by kernel_rfl) ?_))
    refine A5 h (fun h => ?_) fun h => ?_
    ·refine wq rfl (qe rfl ?_)
     obtain rfl := sj h
     refine Ae (sm [] [(4, bD false)] [] rfl rfl) (Aq ?_)
     exact ⟨⟨[_], tm, rfl⟩, tv⟩
    ·refine Al (Aj Ay rfl (qm rfl (Be rfl (qe rfl ?_))))
     exact sn [] h
   ·refine AS ?_
    exact sn [] h
  ·refine Ae hs (wq rfl (qe rfl ?_))
   obtain rfl := sj h
   refine Ae (sm [] [(4, bD true)] [] rfl rfl) (Aq ?_)
   exact ⟨⟨[_], tm, rfl⟩, tv⟩
theorem Kt (N : Nat) (p0 : Aa) (p1 : List (List Ab)) (r : Bool) (h : EE N p0 p1 = some r) : Ar Tryz.prog 18 [.e (.agg (Ag p0)), pD (.sl (p1.map (EU Af)))] [] (bD r) := by
 unfold EE at h
 refine cw (n := 40) (rs := [.tmp 4]) Tryz.func18 fun w0 S0 => ?_
 refine wq rfl (qb rfl (qa rfl (Ad (wq rfl (qL Ch B5 rfl (qm rfl ?_))))))
 refine BH h fun v1 a1 h => As [2001] (Kx N p0 p1 v1 a1) XC rfl (qm rfl (qx rfl (qx rfl (qa rfl (qa rfl (Ad (wp rfl (qm rfl (Bk rfl (Ad ?_))))))))))
 refine A5 h (fun h => ?_) fun h => ?_
 ·refine wq rfl (qe rfl ?_)
  obtain rfl := sj h
  refine Ae (sm [] [(4, bD false)] [] rfl rfl) (Aq ?_)
  exact ⟨⟨[_], tm, rfl⟩, tv⟩
 ·refine Al (wq rfl (qL Ch B5 rfl (qm rfl ?_)))
  refine BS h fun v3 a3 b3 h => qI Gg AE a3 (Ah b3) rfl (qJ AW AE (Ah b3) rfl ?_)
  refine BH h fun v4 a4 h => As [] (Jn N p0 v3 v4 a4) Wg rfl (qm rfl (qx rfl (qx rfl (qa rfl (qa rfl (AI (by kernel_rfl) ?_))))))
  refine AL h (fun v5 => mk [(4, bD v5)] []) (fun j5 h => ?_) (fun v5 h => ?_)
  ·refine Aj Ay rfl (qm rfl (Bp rfl (qm rfl ?_)))
   refine Dm 27 h rfl (fun h => ?_) fun h => ?_
   ·refine qm rfl (qp rfl (qm rfl ?_))
    refine Dm 30 h rfl (fun h => ?_) fun h => ?_
    ·refine qL Ch B5 rfl (qw 2 rfl (Fr Gg rfl (QN rfl ?_)))
     refine BS h fun v8 a8 b8 h => qI Gg AE a8 (Ah b8) rfl (qJ AW AE (Ah b8) rfl ?_)
     refine BH h fun v9 a9 h => As [] (MR N p0 v8 v9 a9) Xr rfl (qp rfl (qa rfl (AI (by kernel_rfl) ?_)))
     exact sn [] h
    ·refine qw 8 rfl (qp rfl (qa rfl (AI (by kernel_rfl) ?_)))
     exact sn [] h
   ·refine qn rfl (qp rfl (qw 9 rfl (qp rfl (qa rfl (AI (by kernel_rfl) ?_)))))
    exact sn [] h
  ·obtain rfl := sj h
   refine Ae (sm [] [(4, bD v5)] [] rfl rfl) (Aq ?_)
   exact ⟨⟨[_], tm, rfl⟩, tv⟩
theorem Nz (N : Nat) (p0 : List (List Ab)) (r : Int) (h : HJ N p0 = some r) : Ar Tryz.prog 26 [pD (.sl (p0.map (EU Af)))] [] (iD r) := by
 unfold HJ at h
 refine cw (n := 27) (rs := [.tmp 2]) Tryz.func26 fun w0 S0 => ?_
 refine wq rfl (qa rfl (Ad (wq rfl (qa rfl (Ad (wp rfl (qm rfl (AF Hj rfl (qm rfl (Ad ?_))))))))))
 refine AH (L := Fm N p0) h (fun v1 => mk [(3, iD v1.1), (7, pD (.sl (p0.map (EU Af)))), (8, iD ((p0.length : Int))), (9, iD v1.2)] []) (fun v2 => mk [(3, iD v2)] []) (fun _ _ => rfl) (sm [] _ _ rfl rfl) (fun j1 n1 v1 h => ?_) (fun v2 s h hs => ?_)
 ·unfold Fm at h
  refine wq rfl (AV rfl (Ad (AN ?_)))
  refine A5 h (fun h => ?_) fun h => ?_
  ·refine Al (AN (AM (wq rfl ?_)))
   refine BS h fun v4 a4 b4 h => qi Hj NG a4 (Ah b4) rfl (qk Q2 rfl (qa rfl (Ad (wq rfl (qm rfl (AF A3 rfl (qm rfl (Ad ?_))))))))
   refine AH (L := Fk N v4) h (fun v5 => mk [(3, iD v5.1), (7, pD (.sl (p0.map (EU Af)))), (8, iD ((p0.length : Int))), (9, iD v1.2), (14, iD ((v4.length : Int))), (15, iD v5.2)] []) (fun v6 => mk [(3, iD v6), (7, pD (.sl (p0.map (EU Af)))), (8, iD ((p0.length : Int))), (9, iD v1.2)] []) (fun _ _ => rfl) (sm [] _ _ rfl rfl) (fun j5 n5 v5 h => ?_) (fun v6 s h hs => ?_)
   ·unfold Fk at h
    refine wq rfl (AV rfl (Ad (AN ?_)))
    refine A5 h (fun h => ?_) fun h => ?_
    ·refine Al (AN (AM (wq rfl (qm rfl (qa rfl (Ad (Aj Ay rfl (qw 2 rfl (Be rfl ?_)))))))))
     refine RJ (.p rfl) rfl rfl ?_
     refine K7 rfl ?_
     refine RJ (.p rfl) rfl rfl ?_
     refine qa rfl (Ad (Aj Ay rfl (Be rfl (qm rfl (Ad ?_)))))
     exact sn [] h
    ·refine AS ?_
     exact sn [] h
   ·refine Ae hs (Aj Ay rfl (Be rfl (qm rfl (Ad ?_))))
    exact sn [] h
  ·refine AS ?_
   exact sn [] h
 ·refine Ae hs (wq rfl (qm rfl (qe rfl ?_)))
  obtain rfl := sj h
  refine Ae (sm [] [(2, iD v2)] [] rfl rfl) (Aq ?_)
  exact ⟨⟨[_], tm, rfl⟩, tv⟩
theorem HT (N : Nat) (r : Bool) (h : Ea N = some r) : Ar Tryz.prog 8 [] [] (bD r) := by
 unfold Ea at h
 refine cw (n := 107) (rs := [.tmp 0]) Tryz.func8 fun w0 S0 => ?_
 refine wq rfl (qa rfl (Ad (wq rfl ?_)))
 refine BH h fun v1 a1 h => As [2001, 2002, 2003, 2004] (Jz N v1 a1) Yu rfl (qm rfl (qx rfl (qx rfl (qz Qq rfl (qs B5 rfl (qa rfl (Ad (wq rfl (qL Ch B5 rfl (qm rfl (DJ (AQ 2001 _ _ rfl rfl) (DJ (AQ 2002 _ _ rfl rfl) (DJ (AQ 2003 _ _ rfl rfl) (DJ (AQ 2004 _ _ rfl rfl) ?_))))))))))))))
 refine BH h fun v2 a2 h => As [2005] (MX N v1.1 v1.2 v2 a2) WO rfl (qm rfl (qx rfl (qx rfl (qa rfl (qa rfl (Ad (wq rfl (qL Ch B5 rfl ?_))))))))
 refine BH h fun v3 a3 h => As [2006, 2007, 2008] (F8 N v1.1 v3 a3) Wa rfl (qm rfl (qx rfl (qx rfl (qz BU rfl (qs AE rfl (qa rfl (Ad (wq rfl (qL Ch B5 rfl (qL AW AE rfl (qm rfl (DJ (AQ 2006 _ _ rfl rfl) (DJ (AQ 2007 _ _ rfl rfl) (DJ (AQ 2008 _ _ rfl rfl) ?_))))))))))))))
 refine BH h fun v4 a4 h => As [] (Mp N v1.1 v3.1 v1.2 v4 a4) Xx rfl (qm rfl (qx rfl (qx rfl (qa rfl (qa rfl (Ad (wq rfl (qL Ch B5 rfl (qL AW AE rfl (qm rfl ?_))))))))))
 refine E1 h fun c5 h => GA (.p rfl) rfl A3 B8 (EL (f := Af) (n := 3) (fun _ => rfl) _) (.none _) (.some _ _ _ _ c5.1) tv ⟨rfl, tv⟩ (by have := c5.2.1; (try simp only [List.length_map]); omega) (by have := c5.2.2; (try simp only [List.length_map]); omega) (Fv Af v1.2 _ _ ((2 : Int).toNat - 0) rfl) ?_
 refine BH h fun v6 a6 h => As [] (I9 N v1.1 v3.1 (((v1.2.drop 0).take ((2 : Int).toNat - 0))) v6 a6) V7 rfl (qm rfl (qx rfl (qx rfl (qa rfl (qa rfl (AI (by kernel_rfl) (wq rfl (qL Ch B5 rfl (qm rfl (DJ (AQ 2005 _ _ rfl rfl) ?_))))))))))
 refine BH h fun v7 a7 h => As [2009] (Kx N v1.1 v2.1 v7 a7) XC rfl (qm rfl (qx rfl (qx rfl (qa rfl (qe rfl ?_)))))
 refine AL h (fun v8 => mk [(0, bD v8)] []) (fun j8 h => ?_) (fun v8 h => ?_)
 ·refine Aj Ay rfl (qm rfl (Bp rfl (qm rfl ?_)))
  refine Dm 51 h rfl (fun h => ?_) fun h => ?_
  ·refine qw 2 rfl ?_
   refine E1 h fun c10 h => GA (.g rfl rfl) rfl A3 B8 (EL (f := Af) (n := 3) (fun _ => rfl) _) (.none _) (.some _ _ _ _ c10.1) tv ⟨rfl, tv⟩ (by have := c10.2.1; (try simp only [List.length_map]); omega) (by have := c10.2.2; (try simp only [List.length_map]); omega) (Fv Af v1.2 _ _ ((2 : Int).toNat - 0) rfl) ?_
   refine qm rfl ?_
   refine E1 h fun c11 h => GA (.g rfl rfl) rfl A3 B8 (EL (f := Af) (n := 3) (fun _ => rfl) _) (.some _ _ _ _ c11.1) (.none _) ⟨rfl, tv⟩ tv (by have := c11.2.1; (try simp only [List.length_map]); omega) (by have := c11.2.2; (try simp only [List.length_map]); omega) (Fv Af v1.2 _ _ (v1.2.length - (2 : Int).toNat) (by rw [List.length_map])) ?_
   refine Eu Hj NG Sa rfl ?_
   refine BH h fun v12 a12 h => GD [] [57] (GI N v2.1 (([((v1.2.drop 0).take ((2 : Int).toNat - 0)), ((v1.2.drop (2 : Int).toNat).take (v1.2.length - (2 : Int).toNat))] : List (List Ab))) v12 a12) WA EJ rfl (qp rfl (qm rfl ?_))
   refine Dm 60 h rfl (fun h => ?_) fun h => ?_
   ·refine qm rfl (Bp rfl (qp rfl (qm rfl ?_)))
    refine Dm 64 h rfl (fun h => ?_) fun h => ?_
    ·refine qw 2 rfl ?_
     refine BS h fun v15 a15 b15 h => qi A3 B8 a15 (Ah b15) rfl (qK Gr B8 rfl (qm rfl ?_))
     refine BS h fun v16 a16 b16 h => qi A3 B8 a16 (Ah b16) rfl (qK Gr B8 rfl (qm rfl ?_))
     refine BS h fun v17 a17 b17 h => qi A3 B8 a17 (Ah b17) rfl (qK Gr B8 rfl (qm rfl ?_))
     refine BS h fun v18 a18 b18 h => qi A3 B8 a18 (Ah b18) rfl (qK Gr B8 rfl (Eu A3 B8 Iw rfl ?_))
     refine BH h fun v19 a19 h => GD [] [78] (GH N v4.1 (([v15, v16, v17, v18] : List Ab)) v19 a19) VZ EJ rfl (qp rfl (qm rfl ?_))
     refine Dm 81 h rfl (fun h => ?_) fun h => ?_
     ·refine qm rfl (qp rfl (qm rfl ?_))
      refine Dm 84 h rfl (fun h => ?_) fun h => ?_
      ·refine qm rfl (Bp rfl (qp rfl (qm rfl ?_)))
       refine Dm 88 h rfl (fun h => ?_) fun h => ?_
       ·refine qm rfl (Bp rfl (qp rfl (qm rfl ?_)))
        refine Dm 92 h rfl (fun h => ?_) fun h => ?_
        ·refine qm rfl (Fr Gg rfl (Bp rfl (qp rfl (qm rfl ?_))))
         refine Dm 97 h rfl (fun h => ?_) fun h => ?_
         ·refine qL Ch B5 rfl (qm rfl ?_)
          refine BH h fun v25 a25 h => As [] (Kt N v1.1 v2.1 v25 a25) Xv rfl (qp rfl (qm rfl ?_))
          refine Dm 102 h rfl (fun h => ?_) fun h => ?_
          ·refine qm rfl ?_
           refine BH h fun v27 a27 h => As [] (Nz N v2.1 v27 a27) Yc rfl (Bp rfl (qp rfl (qa rfl (AI (by kernel_rfl) ?_))))
           exact sn [] h
          ·refine qw 3 rfl (qp rfl (qa rfl (AI (by kernel_rfl) ?_)))
           exact sn [] h
         ·refine qw 3 rfl (qp rfl (qw 4 rfl (qp rfl (qa rfl (AI (by kernel_rfl) ?_)))))
          exact sn [] h
        ·refine qw 3 rfl (qp rfl (qw 4 rfl (qp rfl (qw 4 rfl (qp rfl (qa rfl (AI (by kernel_rfl) ?_)))))))
         exact sn [] h
       ·refine qw 2 rfl (qp rfl (qw 4 rfl (qp rfl (qw 4 rfl (qp rfl (qw 4 rfl (qp rfl (qa rfl (AI (by kernel_rfl) ?_)))))))))
        exact sn [] h
      ·refine qw 2 rfl (qp rfl (qw 3 rfl (qp rfl (qw 4 rfl (qp rfl (qw 4 rfl (qp rfl (qw 4 rfl (qp rfl (qa rfl (AI (by kernel_rfl) ?_)))))))))))
       exact sn [] h
     ·refine qn rfl (qp rfl (qw 3 rfl (qp rfl (qw 3 rfl (qp rfl (qw 4 rfl (qp rfl (qw 4 rfl (qp rfl (qw 4 rfl (qp rfl (qa rfl (AI (by kernel_rfl) ?_)))))))))))))
      exact sn [] h
    ·refine qw 15 rfl (qp rfl (qw 2 rfl (qp rfl (qw 3 rfl (qp rfl (qw 3 rfl (qp rfl (qw 4 rfl (qp rfl (qw 4 rfl (qp rfl (qw 3 rfl ?_))))))))))))
     refine qn rfl (qp rfl (qa rfl (AI (by kernel_rfl) ?_)))
     exact sn [] h
   ·refine qw 2 rfl (qp rfl (qw 16 rfl (qp rfl (qw 2 rfl (qp rfl (qw 3 rfl (qp rfl (qw 3 rfl (qp rfl (qw 4 rfl (qp rfl (qw 4 rfl ?_))))))))))))
    refine qp rfl (qw 4 rfl (qp rfl (qa rfl (AI (by kernel_rfl) ?_))))
    exact sn [] h
  ·refine qw 7 rfl (qp rfl (qw 3 rfl (qp rfl (qw 16 rfl (qp rfl (qw 2 rfl (qp rfl (qw 3 rfl (qp rfl (qw 3 rfl (qp rfl ?_)))))))))))
   refine qw 4 rfl (qp rfl (qw 4 rfl (qp rfl (qw 4 rfl (qp rfl (qa rfl (AI (by kernel_rfl) ?_)))))))
   exact sn [] h
 ·obtain rfl := sj h
  refine Ae (sm [] [(0, bD v8)] [] rfl rfl) (Aq ?_)
  exact ⟨⟨[_], tm, rfl⟩, tv⟩
theorem DR (N : Nat) (p0 : Ac) (p1 : Int) (r : Int) (h : BB N p0 p1 = some r) : Ar Tryz.prog 28 [.e (.agg (Av p0)), iD p1] [] (pD (.val (.int .u8 r))) := by
 unfold BB at h
 refine cw (n := 27) (rs := [.tmp 4]) Tryz.func28 fun w0 S0 => ?_
 refine wq rfl (qb rfl (qa rfl (Ad (wq rfl (qf Ct rfl (ql A0 rfl (qm rfl ?_)))))))
 refine BS h fun v1 a1 b1 h => qi Ax CU a1 (Ah b1) rfl (qk BQ rfl ?_)
 refine E1 h fun c2 h => IE rfl c2 (qe rfl ?_)
 refine AL h (fun v3 => mk [(5, pD (.val (.int .u8 v3)))] []) (fun j3 h => ?_) (fun v3 h => ?_)
 ·refine wq rfl (qf Bl rfl (ql A0 rfl (qm rfl ?_)))
  refine BS h fun v4 a4 b4 h => qi Ax CU a4 (Ah b4) rfl (qk BQ rfl (EA rfl (Ad ?_)))
  refine A5 h (fun h => ?_) fun h => ?_
  ·refine Aj Ay rfl (qm rfl (qf Bl rfl (ql A0 rfl (qm rfl ?_))))
   refine BS h fun v6 a6 b6 h => qi Ax CU a6 (Ah b6) rfl (qk BQ rfl ?_)
   refine E1 h fun c7 h => IE rfl c7 (TW rfl (qe rfl ?_))
   exact sn [] h
  ·refine Al ?_
   exact sn [] h
 ·refine wq rfl (qm rfl (qe rfl ?_))
  obtain rfl := sj h
  refine Ae (sm [] [(4, pD (.val (.int .u8 v3)))] [] rfl rfl) (Aq ?_)
  exact ⟨⟨[_], tm, rfl⟩, tv⟩
theorem Er (N : Nat) (p0 : Aa) (p1 : Ac) (r : Int) (h : BZ N p0 p1 = some r) : Ar Tryz.prog 30 [.e (.agg (Ag p0)), .e (.agg (Av p1))] [] (iD r) := by
 unfold BZ at h
 refine cw (n := 154) (rs := [.tmp 4]) Tryz.func30 fun w0 S0 => ?_
 refine wq rfl (qb rfl (qb rfl (qa rfl (Ad (wp rfl (qL Ch B5 rfl ?_))))))
 refine BH h fun v1 a1 h => As [] (ED N p0 v1 a1) Wx rfl (qa rfl (Ad (wq rfl (qm rfl (Bk rfl (Ad ?_))))))
 refine A5 h (fun h => ?_) fun h => ?_
 ·refine wq rfl (qm rfl (qe rfl ?_))
  obtain rfl := sj h
  refine Ae (sm [] [(4, iD v1)] [] rfl rfl) (Aq ?_)
  exact ⟨⟨[_], tm, rfl⟩, tv⟩
 ·refine Al (wq rfl (qf Bq rfl (ql A0 rfl (AF Ax rfl (qa rfl (Ad (AN ?_)))))))
  refine AL h (fun v3 => mk [(2, oD (.ptr 2 0)), (3, oD (.ptr 3 0)), (6, iD ((p0.fb.length : Int))), (39, bD v3)] [(2, .box (Ag p0)), (3, .box (Av p1))]) (fun j3 h => ?_) (fun v3 h => ?_)
  ·refine Aj Ay rfl (qf Ct rfl (ql A0 rfl (AF Ax rfl (qm rfl (Bk rfl (qm rfl ?_))))))
   refine Dm 24 h rfl (fun h => ?_) fun h => ?_
   ·refine qw 5 rfl (qp rfl (qw 8 rfl (qp rfl (Ad ?_))))
    exact sn [] h
   ·refine qf Bl rfl (ql A0 rfl (AF Ax rfl (qm rfl (Bk rfl (qp rfl (qm rfl ?_))))))
    refine Dm 31 h rfl (fun h => ?_) fun h => ?_
    ·refine qw 7 rfl (qp rfl (Ad ?_))
     exact sn [] h
    ·refine qf Cn rfl (ql GS rfl (AF C0 rfl (qf CJ rfl (ql Hs rfl (AF Ek rfl (Bk rfl (qp rfl (Ad ?_))))))))
     exact sn [] h
  ·refine A5 h (fun h => ?_) fun h => ?_
   ·refine wq rfl (qe rfl ?_)
    obtain rfl := sj h
    refine Ae (sm [] [(4, iD 6)] [] rfl rfl) (Aq ?_)
    exact ⟨⟨[_], tm, rfl⟩, tv⟩
   ·refine Al (wp rfl (qe rfl ?_))
    refine AH (L := BM N p0 p1) h (fun v7 => mk [(2, oD (.ptr 2 0)), (3, oD (.ptr 3 0)), (6, iD ((p0.fb.length : Int))), (7, iD v7)] [(2, .box (Ag p0)), (3, .box (Av p1))]) (fun v8 => mk [(2, oD (.ptr 2 0)), (3, oD (.ptr 3 0))] [(2, .box (Ag p0)), (3, .box (Av p1))]) (fun _ _ => rfl) (sm [] _ _ rfl rfl) (fun j7 n7 v7 h => ?_) (fun v8 s h hs => ?_)
    ·unfold BM at h
     refine wp rfl (qw 2 rfl (AV rfl (Ad ?_)))
     refine A5 h (fun h => ?_) fun h => ?_
     ·refine Al (AN (AM (AN ?_)))
      refine AL h (fun v10 => mk [(2, oD (.ptr 2 0)), (3, oD (.ptr 3 0)), (6, iD ((p0.fb.length : Int))), (7, iD v7), (84, bD v10)] [(2, .box (Ag p0)), (3, .box (Av p1))]) (fun j10 h => ?_) (fun v10 h => ?_)
      ·refine Aj Ay rfl (qf Ct rfl (ql A0 rfl (qm rfl ?_)))
       refine BS h fun v11 a11 b11 h => qi Ax CU a11 (Ah b11) rfl (qk BQ rfl (AV rfl (qm rfl ?_)))
       refine Dm 51 h rfl (fun h => ?_) fun h => ?_
       ·refine qw 11 rfl (qp rfl (qw 7 rfl (qp rfl (qw 12 rfl (qp rfl (AI (by kernel_rfl) ?_))))))
        exact sn [] h
       ·refine qf Ct rfl (ql A0 rfl (qm rfl ?_))
        refine BS h fun v13 a13 b13 h => qi Ax CU a13 (Ah b13) rfl (qk BQ rfl (qf Bq rfl (ql A0 rfl (qm rfl ?_))))
        refine BS h fun v14 a14 b14 h => qi Ax CU a14 (Ah b14) rfl (qk BQ rfl (EA rfl (qp rfl (qm rfl ?_))))
        refine Dm 64 h rfl (fun h => ?_) fun h => ?_
        ·refine qw 6 rfl (qp rfl (qw 12 rfl (qp rfl (AI (by kernel_rfl) ?_))))
         exact sn [] h
        ·refine qf Bl rfl (ql A0 rfl (qm rfl ?_))
         refine BS h fun v16 a16 b16 h => qi Ax CU a16 (Ah b16) rfl (qk BQ rfl (AV rfl (qp rfl (qm rfl ?_))))
         refine Dm 72 h rfl (fun h => ?_) fun h => ?_
         ·refine qw 11 rfl (qp rfl (AI (by kernel_rfl) ?_))
          exact sn [] h
         ·refine qf Bl rfl (ql A0 rfl (qm rfl ?_))
          refine BS h fun v18 a18 b18 h => qi Ax CU a18 (Ah b18) rfl (qk BQ rfl (qf Bq rfl (ql A0 rfl (qm rfl ?_))))
          refine BS h fun v19 a19 b19 h => qi Ax CU a19 (Ah b19) rfl (qk BQ rfl (EA rfl (qp rfl (AI (by kernel_rfl) ?_))))
          exact sn [] h
      ·refine A5 h (fun h => ?_) fun h => ?_
       ·refine wq rfl (qe rfl ?_)
        obtain rfl := sj h
        refine Ae (sm [] [(4, iD 7)] [] rfl rfl) (Aq ?_)
        exact ⟨⟨[_], tm, rfl⟩, tv⟩
       ·refine Al (wq rfl (qf Ct rfl (ql A0 rfl (qm rfl ?_))))
        refine BS h fun v21 a21 b21 h => qi Ax CU a21 (Ah b21) rfl (qk BQ rfl (qf Bl rfl (ql A0 rfl (qm rfl ?_))))
        refine BS h fun v22 a22 b22 h => qi Ax CU a22 (Ah b22) rfl (qk BQ rfl (Bp rfl (AI (by kernel_rfl) ?_)))
        refine A5 h (fun h => ?_) fun h => ?_
        ·refine wq rfl (qe rfl ?_)
         obtain rfl := sj h
         refine Ae (sm [] [(4, iD 1)] [] rfl rfl) (Aq ?_)
         exact ⟨⟨[_], tm, rfl⟩, tv⟩
        ·refine Al (Aj Ay rfl (qm rfl (Be rfl (qe rfl ?_))))
         exact sn [] h
     ·refine AS ?_
      exact sn [] h
    ·refine Ae hs (wp rfl (qe rfl ?_))
     refine AH (L := BC N p0 p1) h (fun v24 => mk [(2, oD (.ptr 2 0)), (3, oD (.ptr 3 0)), (8, iD v24)] [(2, .box (Ag p0)), (3, .box (Av p1))]) (fun v25 => mk [] []) (fun _ _ => rfl) (sm [] _ _ rfl rfl) (fun j24 n24 v24 h => ?_) (fun v25 s h hs => ?_)
     ·unfold BC at h
      refine wp rfl (qm rfl (qf CJ rfl (ql Hs rfl (AF Ek rfl (AV rfl (Ad ?_))))))
      refine A5 h (fun h => ?_) fun h => ?_
      ·refine Al (AN (AM (wq rfl (qf CJ rfl (ql Hs rfl (qm rfl ?_))))))
       refine BS h fun v27 a27 b27 h => qi Ek Ef a27 (Ah b27) rfl (qK Hu Ef rfl (qz L1 rfl (qs Ef rfl (Ad (wq rfl (qf Bq rfl (ql A0 rfl (qf CN rfl (ql BQ rfl ?_)))))))))
       refine BS h fun v28 a28 b28 h => qi Ax CU a28 (Ah b28) rfl (qk BQ rfl ?_)
       refine E1 h fun c29 h => IE rfl c29 (QN rfl (qe rfl ?_))
       refine AL h (fun v30 => mk [(2, oD (.ptr 2 0)), (3, oD (.ptr 3 0)), (8, iD v24), (153, bD v30)] [(2, .box (Ag p0)), (3, .box (Av p1))]) (fun j30 h => ?_) (fun v30 h => ?_)
       ·refine Aj Ay rfl (qL Hu Ef rfl ?_)
        refine BH h fun v31 a31 h => As [] (B4 N v27 v31 a31) O1 rfl (BT rfl (qm rfl ?_))
        refine Dm 119 h rfl (fun h => ?_) fun h => ?_
        ·refine qf Cn rfl (ql GS rfl (qm rfl ?_))
         refine BS h fun v33 a33 b33 h => qi C0 FB a33 (Ah b33) rfl (qk JD rfl (Bk rfl (qp rfl (qm rfl ?_))))
         refine Dm 127 h rfl (fun h => ?_) fun h => ?_
         ·refine qw 3 rfl (qu rfl (qu rfl (qu rfl (qu rfl (qu rfl (qu rfl (qu rfl (qu rfl (qu rfl (qu rfl (qu rfl (qu rfl (qu rfl (qu rfl (qu rfl (qu rfl (qu rfl (qu rfl (qu rfl (qu rfl (qu rfl (qn rfl (qp rfl (AI (by kernel_rfl) ?_))))))))))))))))))))))))
          exact sn [] h
         ·refine qL Hu Ef rfl ?_
          refine BH h fun v35 a35 h => As [] (B4 N v27 v35 a35) O1 rfl (qm rfl ?_)
          refine Dm 130 h rfl (fun h => ?_) fun h => ?_
          ·refine qf Cn rfl (ql GS rfl (qm rfl ?_))
           refine BS h fun v37 a37 b37 h => qi C0 FB a37 (Ah b37) rfl (qk JD rfl (qm rfl (Ie rfl (Bk rfl (qm rfl ?_)))))
           refine Dm 139 h rfl (fun h => ?_) fun h => ?_
           ·refine qw 11 rfl (qp rfl (qp rfl (qp rfl (AI (by kernel_rfl) ?_))))
            exact sn [] h
           ·refine qL AW AE rfl (qf CN rfl (ql BQ rfl ?_))
            refine BH h fun v39 a39 h => As [] (DR N p1 v27.fg v39 a39) TJ rfl (qf Cn rfl (ql GS rfl (qm rfl ?_)))
            refine BS h fun v40 a40 b40 h => qi C0 FB a40 (Ah b40) rfl (qk JD rfl (Ie rfl (Bk rfl (qp rfl (qp rfl (qp rfl (AI (by kernel_rfl) ?_)))))))
            exact sn [] h
          ·refine qw 9 rfl (qu rfl (qu rfl (qu rfl (qu rfl (qu rfl (qu rfl (qu rfl (qu rfl (qu rfl (qu rfl (qu rfl (qn rfl (qp rfl (qp rfl (AI (by kernel_rfl) ?_)))))))))))))))
           exact sn [] h
        ·refine qw 6 rfl (qp rfl (qm rfl (qL Hu Ef rfl ?_)))
         refine BH h fun v41 a41 h => As [] (B4 N v27 v41 a41) O1 rfl (qm rfl ?_)
         refine Dm 130 h rfl (fun h => ?_) fun h => ?_
         ·refine qf Cn rfl (ql GS rfl (qm rfl ?_))
          refine BS h fun v43 a43 b43 h => qi C0 FB a43 (Ah b43) rfl (qk JD rfl (qm rfl (Ie rfl (Bk rfl (qm rfl ?_)))))
          refine Dm 139 h rfl (fun h => ?_) fun h => ?_
          ·refine qw 11 rfl (qp rfl (qp rfl (qp rfl (AI (by kernel_rfl) ?_))))
           exact sn [] h
          ·refine qL AW AE rfl (qf CN rfl (ql BQ rfl ?_))
           refine BH h fun v45 a45 h => As [] (DR N p1 v27.fg v45 a45) TJ rfl (qf Cn rfl (ql GS rfl (qm rfl ?_)))
           refine BS h fun v46 a46 b46 h => qi C0 FB a46 (Ah b46) rfl (qk JD rfl (Ie rfl (Bk rfl (qp rfl (qp rfl (qp rfl (AI (by kernel_rfl) ?_)))))))
           exact sn [] h
         ·refine qw 9 rfl (qu rfl (qu rfl (qu rfl (qu rfl (qu rfl (qu rfl (qu rfl (qu rfl (qu rfl (qu rfl (qu rfl (qn rfl (qp rfl (qp rfl (AI (by kernel_rfl) ?_)))))))))))))))
          exact sn [] h
       ·refine A5 h (fun h => ?_) fun h => ?_
        ·refine wq rfl (qe rfl ?_)
         obtain rfl := sj h
         refine Ae (sm [] [(4, iD 1)] [] rfl rfl) (Aq ?_)
         exact ⟨⟨[_], tm, rfl⟩, tv⟩
        ·refine Al (Aj Ay rfl (qm rfl (Be rfl (qe rfl ?_))))
         exact sn [] h
      ·refine AS ?_
       exact sn [] h
     ·refine Ae hs (wq rfl (qe rfl ?_))
      obtain rfl := sj h
      refine Ae (sm [] [(4, iD 0)] [] rfl rfl) (Aq ?_)
      exact ⟨⟨[_], tm, rfl⟩, tv⟩
theorem HS (N : Nat) (p0 : Ab) (r : Bool) (h : C8 N p0 = some r) : Ar Tryz.prog 61 [.e (.agg (Cs p0))] [] (bD r) := by
 unfold C8 at h
 refine cw (n := 31) (rs := [.tmp 2]) Tryz.func61 fun w0 S0 => ?_
 refine wq rfl (qb rfl (qe rfl ?_))
 refine AL h (fun v1 => mk [(2, bD v1)] []) (fun j1 h => ?_) (fun v1 h => ?_)
 ·refine Aj Ay rfl (qf D7 rfl (ql BQ rfl (EA rfl (qm rfl ?_))))
  refine Dm 6 h rfl (fun h => ?_) fun h => ?_
  ·refine qf D7 rfl (ql BQ rfl (TL rfl (qp rfl (qm rfl ?_))))
   refine Dm 11 h rfl (fun h => ?_) fun h => ?_
   ·refine qf Ew rfl (ql BQ rfl (EA rfl (qp rfl (qm rfl ?_))))
    refine Dm 16 h rfl (fun h => ?_) fun h => ?_
    ·refine qf F4 rfl (ql BQ rfl (EA rfl (qp rfl (qm rfl ?_))))
     refine Dm 21 h rfl (fun h => ?_) fun h => ?_
     ·refine qf D7 rfl (ql BQ rfl (Bp rfl (qm rfl ?_)))
      refine Dm 25 h rfl (fun h => ?_) fun h => ?_
      ·refine qw 3 rfl (qp rfl (qp rfl (qe rfl ?_)))
       exact sn [] h
      ·refine qf F4 rfl (ql BQ rfl (Bp rfl (qp rfl (qp rfl (qe rfl ?_)))))
       exact sn [] h
     ·refine qw 4 rfl (qu rfl (qu rfl (qu rfl (qn rfl (qp rfl (qe rfl ?_))))))
      exact sn [] h
    ·refine qw 3 rfl (qp rfl (qw 5 rfl (qu rfl (qu rfl (qu rfl (qn rfl (qp rfl (qe rfl ?_))))))))
     exact sn [] h
   ·refine qw 3 rfl (qp rfl (qw 4 rfl (qp rfl (qw 5 rfl (qu rfl (qu rfl (qu rfl (qn rfl (qp rfl (qe rfl ?_))))))))))
    exact sn [] h
  ·refine qw 3 rfl (qp rfl (qw 4 rfl (qp rfl (qw 4 rfl (qp rfl (qw 5 rfl (qu rfl (qu rfl (qu rfl (qn rfl (qp rfl (qe rfl ?_))))))))))))
   exact sn [] h
 ·obtain rfl := sj h
  refine Ae (sm [] [(2, bD v1)] [] rfl rfl) (Aq ?_)
  exact ⟨⟨[_], tm, rfl⟩, tv⟩
theorem FH (N : Nat) (p0 : Int) (p1 : Int) (r : Bool) (h : B6 N p0 p1 = some r) : Ar Tryz.prog 103 [pD (.val (.int .u8 p0)), iD p1] [] (bD r) := by
 unfold B6 at h
 refine cw (n := 10) (rs := [.tmp 4]) Tryz.func103 fun w0 S0 => ?_
 refine wq rfl (qa rfl (Ad (wq rfl (qw 2 rfl ?_))))
 refine E1 h fun c1 h => IX rfl c1 (Mi rfl (Bp rfl (qe rfl ?_)))
 obtain rfl := sj h
 refine Ae (sm [] [(4, bD (((F6 .u8 ((Fi .u8 p0 p1)) 1) == 1)))] [] rfl rfl) (Aq ?_)
 exact ⟨⟨[_], tm, rfl⟩, tv⟩
theorem Kj (N : Nat) (p0 : Aa) (p1 : Ac) (p2 : Ab) (r : Ac × Bool) (h : Di N p0 p1 p2 = some r) : Ar Tryz.prog 88 [.e (.agg (Ag p0)), .e (.agg (Av p1)), .e (.agg (Cs p2))] [(1, r.1.fe.map An), (1, r.1.fa.map An), (1, r.1.fc.map Cb)] (.tup [.agg [.own 0, .own 1, .own 2], .one (.pure (.val (.bool r.2)))]) := by
 unfold Di at h
 refine cw (n := 201) (rs := [.cell 6 38, .tmp 7]) Tryz.func88 fun w0 S0 => ?_
 refine wq rfl (qb rfl (qb rfl (qb rfl (qz BU rfl (qa rfl (Ad (wq rfl (Eu Ax CU J7 rfl (qf Ct rfl (ql A0 rfl ?_))))))))))
 refine E1 h fun c1 h => Hq (f := An) Ax Ax CU KR J7 (fun _ => rfl) c1 rfl (Eu Ax CU J7 rfl (qf Bl rfl (ql A0 rfl ?_)))
 refine E1 h fun c2 h => Hq (f := An) Ax Ax CU KR J7 (fun _ => rfl) c2 rfl (Eu C0 FB PA rfl (qf Cn rfl (ql GS rfl ?_)))
 refine E1 h fun c3 h => Hq (f := Cb) C0 C0 FB Qx PA (fun _ => rfl) c3 rfl (AU BU FD rfl (qz BU rfl (qs AE rfl (AI (by kernel_rfl) (wq rfl (qf Ew rfl (ql BQ rfl (qe rfl ?_))))))))
 refine AL h (fun v4 => mk [(6, oD (.ptr 6 0)), (8, oD (.ptr 8 0))] [(6, .box [.pure (.nil0), .pure (.nil0), .pure (.nil0)]), (8, .box [.own 2001, .own 2002, .own 2003]), (2001, .vec 1 (v4.1.map An)), (2002, .vec 1 (v4.2.1.map An)), (2003, .vec 1 (v4.2.2.map Cb))]) (fun j4 h => ?_) (fun v4 h => ?_)
 ·refine wq rfl (qf D7 rfl (ql BQ rfl (Ad (AM (wq rfl (Bp rfl (qe rfl ?_)))))))
  refine A5 h (fun h => ?_) fun h => ?_
  ·refine AN ?_
   refine AL h (fun v6 => mk [(3, oD (.ptr 3 0)), (5, oD (.ptr 5 0)), (6, oD (.ptr 6 0)), (8, oD (.ptr 8 0)), (9, iD p2.fh), (60, bD v6)] [(3, .box (Ag p0)), (5, .box (Cs p2)), (6, .box [.pure (.nil0), .pure (.nil0), .pure (.nil0)]), (8, .box [.own 2004, .own 2005, .own 2006]), (2004, .vec 1 (((([] : List Int)) ++ p1.fe).map An)), (2005, .vec 1 (((([] : List Int)) ++ p1.fa).map An)), (2006, .vec 1 (((([] : List Int)) ++ p1.fc).map Cb))]) (fun j6 h => ?_) (fun v6 h => ?_)
   ·refine Aj Ay rfl (qf Bl rfl (ql A0 rfl (qm rfl ?_)))
    refine BS h fun v7 a7 b7 h => qi Ax CU a7 (Ah b7) rfl (qk BQ rfl (EA rfl (qm rfl ?_)))
    refine Dm 51 h rfl (fun h => ?_) fun h => ?_
    ·refine qw 8 rfl (qp rfl (AI (by kernel_rfl) ?_))
     exact sn [(2004, 18), (2005, 22), (2006, 26)] h
    ·refine qf F4 rfl (ql BQ rfl (qf Ct rfl (ql A0 rfl (qm rfl ?_))))
     refine BS h fun v9 a9 b9 h => qi Ax CU a9 (Ah b9) rfl (qk BQ rfl (Bp rfl (qp rfl (AI (by kernel_rfl) ?_))))
     exact sn [(2004, 18), (2005, 22), (2006, 26)] h
   ·refine A5 h (fun h => ?_) fun h => ?_
    ·refine wq rfl (AU BU FD rfl (qs AE rfl (qe rfl ?_)))
     obtain rfl := sj h
     refine Ae ((Az 6 0 2007 1 _ rfl rfl rfl rfl).trans ((Az 6 1 2008 1 _ rfl rfl rfl rfl).trans ((Az 6 2 2009 1 _ rfl rfl rfl rfl).trans (sm [(1000, 2007), (1001, 2008), (1002, 2009)] [(6, oD (.ptr 6 0)), (7, bD false)] [(6, .box [.own 1000, .own 1001, .own 1002]), (1000, .vec 1 ((([] : List Int)).map An)), (1001, .vec 1 ((([] : List Int)).map An)), (1002, .vec 1 ((([] : List Int)).map Cb))] rfl rfl)))) (Aq ?_)
     exact ⟨⟨[_, _], ⟨.cellN _ _ _ _ _ _ _ rfl rfl AW AE rfl rfl (FM rfl), tm⟩, rfl⟩, ⟨rfl, rfl, rfl, tv⟩⟩
    ·refine Al (wq rfl (qf Bl rfl (ql A0 rfl (qm rfl (qf F4 rfl (ql BQ rfl ?_))))))
     refine BS h fun v11 a11 b11 h => qI Ax CU a11 (Ah b11) rfl ?_
     refine EN rfl rfl rfl rfl (Ah b11) rfl CU rfl (Jb rfl) (EK An ((([] : List Int)) ++ p1.fa) _ p2.fj) ?_
     refine Ad (wq rfl (qe rfl ?_))
     refine AH (L := BG N p0 p2) h (fun v12 => mk [(3, oD (.ptr 3 0)), (5, oD (.ptr 5 0)), (6, oD (.ptr 6 0)), (8, oD (.ptr 8 0)), (9, iD p2.fh), (10, iD v12.2)] [(3, .box (Ag p0)), (5, .box (Cs p2)), (6, .box [.pure (.nil0), .pure (.nil0), .pure (.nil0)]), (8, .box [.own 2010, .own 2011, .own 2012]), (2010, .vec 1 (((([] : List Int)) ++ p1.fe).map An)), (2011, .vec 1 ((((([] : List Int)) ++ p1.fa).set ((p2.fh).toNat) p2.fj).map An)), (2012, .vec 1 (v12.1.map Cb))]) (fun v13 => mk [(6, oD (.ptr 6 0)), (8, oD (.ptr 8 0))] [(6, .box [.pure (.nil0), .pure (.nil0), .pure (.nil0)]), (8, .box [.own 2013, .own 2014, .own 2015]), (2013, .vec 1 (((([] : List Int)) ++ p1.fe).map An)), (2014, .vec 1 ((((([] : List Int)) ++ p1.fa).set ((p2.fh).toNat) p2.fj).map An)), (2015, .vec 1 (v13.map Cb))]) (fun _ _ => rfl) (sm [(2010, 2004), (2011, 2005), (2012, 2006)] _ _ rfl rfl) (fun j12 n12 v12 h => ?_) (fun v13 s h hs => ?_)
     ·unfold BG at h
      refine wp rfl (qm rfl (qf CJ rfl (ql Hs rfl (AF Ek rfl (AV rfl (Ad ?_))))))
      refine A5 h (fun h => ?_) fun h => ?_
      ·refine Al ?_
       refine AL h (fun v15 => mk [(3, oD (.ptr 3 0)), (5, oD (.ptr 5 0)), (6, oD (.ptr 6 0)), (8, oD (.ptr 8 0)), (9, iD p2.fh), (10, iD v12.2)] [(3, .box (Ag p0)), (5, .box (Cs p2)), (6, .box [.pure (.nil0), .pure (.nil0), .pure (.nil0)]), (8, .box [.own 2016, .own 2017, .own 2018]), (2016, .vec 1 (((([] : List Int)) ++ p1.fe).map An)), (2017, .vec 1 ((((([] : List Int)) ++ p1.fa).set ((p2.fh).toNat) p2.fj).map An)), (2018, .vec 1 (v15.map Cb))]) (fun j15 h => ?_) (fun v15 h => ?_)
       ·refine AM ?_
        refine AL h (fun v16 => mk [(3, oD (.ptr 3 0)), (5, oD (.ptr 5 0)), (6, oD (.ptr 6 0)), (8, oD (.ptr 8 0)), (9, iD p2.fh), (10, iD v12.2), (90, bD v16)] [(3, .box (Ag p0)), (5, .box (Cs p2)), (6, .box [.pure (.nil0), .pure (.nil0), .pure (.nil0)]), (8, .box [.own 2019, .own 2020, .own 2021]), (2019, .vec 1 (((([] : List Int)) ++ p1.fe).map An)), (2020, .vec 1 ((((([] : List Int)) ++ p1.fa).set ((p2.fh).toNat) p2.fj).map An)), (2021, .vec 1 (v12.1.map Cb))]) (fun j16 h => ?_) (fun v16 h => ?_)
        ·refine Aj Ay rfl (qf CJ rfl (ql Hs rfl (qm rfl ?_)))
         refine BS h fun v17 a17 b17 h => qi Ek Ef a17 (Ah b17) rfl (qg CN rfl (qk BQ rfl (qm rfl (Bp rfl (qm rfl ?_)))))
         refine Dm 83 h rfl (fun h => ?_) fun h => ?_
         ·refine qf CJ rfl (ql Hs rfl (qm rfl ?_))
          refine BS h fun v19 a19 b19 h => qi Ek Ef a19 (Ah b19) rfl (qK Hu Ef rfl ?_)
          refine BH h fun v20 a20 h => As [] (B4 N v19 v20 a20) O1 rfl (qp rfl (Ad ?_))
          exact sn [(2019, 2010), (2020, 2011), (2021, 2012)] h
         ·refine qw 6 rfl (qp rfl (Ad ?_))
          exact sn [(2019, 2010), (2020, 2011), (2021, 2012)] h
        ·refine A5 h (fun h => ?_) fun h => ?_
         ·refine Aj Ay rfl (qf Cn rfl (ql GS rfl (qm rfl (qf Cn rfl (ql GS rfl (qm rfl ?_))))))
          refine BS h fun v22 a22 b22 h => qI C0 FB a22 (Ah b22) rfl (qj JD (Ah b22) rfl (qf F4 rfl (ql BQ rfl ?_)))
          refine E1 h fun c23 h => IE rfl c23 (TW rfl ?_)
          refine BS h fun v24 a24 b24 h => qI C0 FB a24 (Ah b24) rfl ?_
          refine EN rfl rfl rfl rfl (Ah b24) rfl FB rfl (Jb rfl) (EK Cb v12.1 _ ((NI .u8 v22 ((Dp .u8 1 p2.fj))))) ?_
          refine AI (by kernel_rfl) ?_
          exact sn [(2016, 2019), (2017, 2020), (2018, 2021)] h
         ·refine Al ?_
          exact sn [(2016, 2019), (2017, 2020), (2018, 2021)] h
       ·refine Aj Ay rfl (qm rfl (Be rfl (qe rfl ?_)))
        exact sn [(2010, 2016), (2011, 2017), (2012, 2018)] h
      ·refine AS ?_
       exact sn [(2013, 2010), (2014, 2011), (2015, 2012)] h
     ·exact S6 _ h (hs.trans (sm [(2001, 2013), (2002, 2014), (2003, 2015)] _ _ rfl rfl))
  ·refine wq rfl (Bp rfl (qe rfl ?_))
   refine A5 h (fun h => ?_) fun h => ?_
   ·refine wp rfl (qf Bl rfl (ql A0 rfl (qm rfl ?_)))
    refine BS h fun v26 a26 b26 h => qi Ax CU a26 (Ah b26) rfl (qk BQ rfl (AV rfl (Ad ?_)))
    refine A5 h (fun h => ?_) fun h => ?_
    ·refine wq rfl (AU BU FD rfl (qs AE rfl (qe rfl ?_)))
     obtain rfl := sj h
     refine Ae ((Az 6 0 2022 1 _ rfl rfl rfl rfl).trans ((Az 6 1 2023 1 _ rfl rfl rfl rfl).trans ((Az 6 2 2024 1 _ rfl rfl rfl rfl).trans (sm [(1000, 2022), (1001, 2023), (1002, 2024)] [(6, oD (.ptr 6 0)), (7, bD false)] [(6, .box [.own 1000, .own 1001, .own 1002]), (1000, .vec 1 ((([] : List Int)).map An)), (1001, .vec 1 ((([] : List Int)).map An)), (1002, .vec 1 ((([] : List Int)).map Cb))] rfl rfl)))) (Aq ?_)
     exact ⟨⟨[_, _], ⟨.cellN _ _ _ _ _ _ _ rfl rfl AW AE rfl rfl (FM rfl), tm⟩, rfl⟩, ⟨rfl, rfl, rfl, tv⟩⟩
    ·refine Al (Aj Ay rfl (qf Ct rfl (ql A0 rfl (qm rfl (qf Bl rfl (ql A0 rfl (qm rfl (qf Bl rfl (ql A0 rfl (qm rfl ?_))))))))))
     refine BS h fun v28 a28 b28 h => qi Ax CU a28 (Ah b28) rfl (qk BQ rfl ?_)
     refine BS h fun v29 a29 b29 h => qI Ax CU a29 (Ah b29) rfl ?_
     refine EN rfl rfl rfl rfl (Ah b29) rfl CU rfl (Jb rfl) (EK An ((([] : List Int)) ++ p1.fe) _ v28) ?_
     refine BS h fun v30 a30 b30 h => qI Ax CU a30 (Ah b30) rfl ?_
     refine EN rfl rfl rfl rfl (Ah b30) rfl CU rfl (Jb rfl) (EK An ((([] : List Int)) ++ p1.fa) _ ((-1))) ?_
     refine AI (by kernel_rfl) ?_
     exact sn [(2001, 18), (2002, 22), (2003, 26)] h
   ·refine wq rfl (Bp rfl (qe rfl ?_))
    refine A5 h (fun h => ?_) fun h => ?_
    ·refine wq rfl (qf CJ rfl (ql Hs rfl (qm rfl ?_)))
     refine BS h fun v32 a32 b32 h => qi Ek Ef a32 (Ah b32) rfl (qK Hu Ef rfl (qz L1 rfl (qs Ef rfl (Ad (wp rfl (qL Hu Ef rfl ?_))))))
     refine BH h fun v33 a33 h => As [] (B4 N v32 v33 a33) O1 rfl (BT rfl (Ad ?_))
     refine A5 h (fun h => ?_) fun h => ?_
     ·refine wq rfl (AU BU FD rfl (qs AE rfl (qe rfl ?_)))
      obtain rfl := sj h
      refine Ae ((Az 6 0 2025 1 _ rfl rfl rfl rfl).trans ((Az 6 1 2026 1 _ rfl rfl rfl rfl).trans ((Az 6 2 2027 1 _ rfl rfl rfl rfl).trans (sm [(1000, 2025), (1001, 2026), (1002, 2027)] [(6, oD (.ptr 6 0)), (7, bD false)] [(6, .box [.own 1000, .own 1001, .own 1002]), (1000, .vec 1 ((([] : List Int)).map An)), (1001, .vec 1 ((([] : List Int)).map An)), (1002, .vec 1 ((([] : List Int)).map Cb))] rfl rfl)))) (Aq ?_)
      exact ⟨⟨[_, _], ⟨.cellN _ _ _ _ _ _ _ rfl rfl AW AE rfl rfl (FM rfl), tm⟩, rfl⟩, ⟨rfl, rfl, rfl, tv⟩⟩
     ·refine Al (wq rfl (qL AW AE rfl (qf CN rfl (ql BQ rfl ?_))))
      refine BH h fun v35 a35 h => As [] (DR N p1 v32.fg v35 a35) TJ rfl (qa rfl (Ad (wp rfl (qf Cn rfl (ql GS rfl (qm rfl ?_))))))
      refine BS h fun v36 a36 b36 h => qi C0 FB a36 (Ah b36) rfl (qk JD rfl (qm rfl (Bp rfl (Ad ?_))))
      refine A5 h (fun h => ?_) fun h => ?_
      ·refine wq rfl (AU BU FD rfl (qs AE rfl (qe rfl ?_)))
       obtain rfl := sj h
       refine Ae ((Az 6 0 2028 1 _ rfl rfl rfl rfl).trans ((Az 6 1 2029 1 _ rfl rfl rfl rfl).trans ((Az 6 2 2030 1 _ rfl rfl rfl rfl).trans (sm [(1000, 2028), (1001, 2029), (1002, 2030)] [(6, oD (.ptr 6 0)), (7, bD false)] [(6, .box [.own 1000, .own 1001, .own 1002]), (1000, .vec 1 ((([] : List Int)).map An)), (1001, .vec 1 ((([] : List Int)).map An)), (1002, .vec 1 ((([] : List Int)).map Cb))] rfl rfl)))) (Aq ?_)
       exact ⟨⟨[_, _], ⟨.cellN _ _ _ _ _ _ _ rfl rfl AW AE rfl rfl (FM rfl), tm⟩, rfl⟩, ⟨rfl, rfl, rfl, tv⟩⟩
      ·refine Al (wp rfl (qe rfl ?_))
       refine AH (L := Bn N p0 p1 p2 v32 v35) h (fun v38 => mk [(3, oD (.ptr 3 0)), (4, oD (.ptr 4 0)), (6, oD (.ptr 6 0)), (8, oD (.ptr 8 0)), (9, iD p2.fh), (11, oD (.ptr 11 0)), (12, pD (.val (.int .u8 v35))), (13, iD v38)] [(3, .box (Ag p0)), (4, .box (Av p1)), (6, .box [.pure (.nil0), .pure (.nil0), .pure (.nil0)]), (8, .box [.own 2031, .own 2032, .own 2033]), (11, .box (Bd v32)), (2031, .vec 1 (((([] : List Int)) ++ p1.fe).map An)), (2032, .vec 1 (((([] : List Int)) ++ p1.fa).map An)), (2033, .vec 1 (((([] : List Int)) ++ p1.fc).map Cb))]) (fun v39 => mk [(6, oD (.ptr 6 0)), (8, oD (.ptr 8 0)), (9, iD p2.fh), (12, pD (.val (.int .u8 v35)))] [(6, .box [.pure (.nil0), .pure (.nil0), .pure (.nil0)]), (8, .box [.own 2034, .own 2035, .own 2036]), (2034, .vec 1 (((([] : List Int)) ++ p1.fe).map An)), (2035, .vec 1 (((([] : List Int)) ++ p1.fa).map An)), (2036, .vec 1 (((([] : List Int)) ++ p1.fc).map Cb))]) (fun _ _ => rfl) (sm [(2031, 18), (2032, 22), (2033, 26)] _ _ rfl rfl) (fun j38 n38 v38 h => ?_) (fun v39 s h hs => ?_)
       ·unfold Bn at h
        refine wp rfl (qm rfl (qf Bq rfl (ql A0 rfl (qf CN rfl (ql BQ rfl ?_)))))
        refine BS h fun v40 a40 b40 h => qi Ax CU a40 (Ah b40) rfl (qk BQ rfl (AV rfl (Ad ?_)))
        refine A5 h (fun h => ?_) fun h => ?_
        ·refine Al (AN (AM ?_))
         refine AL h (fun v42 => mk [(3, oD (.ptr 3 0)), (4, oD (.ptr 4 0)), (6, oD (.ptr 6 0)), (8, oD (.ptr 8 0)), (9, iD p2.fh), (11, oD (.ptr 11 0)), (12, pD (.val (.int .u8 v35))), (13, iD v38), (14, bD v42)] [(3, .box (Ag p0)), (4, .box (Av p1)), (6, .box [.pure (.nil0), .pure (.nil0), .pure (.nil0)]), (8, .box [.own 2037, .own 2038, .own 2039]), (11, .box (Bd v32)), (2037, .vec 1 (((([] : List Int)) ++ p1.fe).map An)), (2038, .vec 1 (((([] : List Int)) ++ p1.fa).map An)), (2039, .vec 1 (((([] : List Int)) ++ p1.fc).map Cb))]) (fun j42 h => ?_) (fun v42 h => ?_)
         ·refine Aj Ay rfl (qf Cn rfl (ql GS rfl (qm rfl ?_)))
          refine BS h fun v43 a43 b43 h => qi C0 FB a43 (Ah b43) rfl (qk JD rfl (qm rfl ?_))
          refine BH h fun v44 a44 h => As [] (FH N v43 v38 v44 a44) RH rfl (qm rfl ?_)
          refine Dm 166 h rfl (fun h => ?_) fun h => ?_
          ·refine qw 2 rfl ?_
           refine BH h fun v46 a46 h => As [] (FH N v35 v38 v46 a46) RH rfl (BT rfl (qp rfl (qe rfl ?_)))
           exact sn [(2037, 2031), (2038, 2032), (2039, 2033)] h
          ·refine qw 4 rfl (qp rfl (qe rfl ?_))
           exact sn [(2037, 2031), (2038, 2032), (2039, 2033)] h
         ·refine AL h (fun v47 => mk [(3, oD (.ptr 3 0)), (4, oD (.ptr 4 0)), (6, oD (.ptr 6 0)), (8, oD (.ptr 8 0)), (9, iD p2.fh), (11, oD (.ptr 11 0)), (12, pD (.val (.int .u8 v35))), (13, iD v38), (193, bD v47)] [(3, .box (Ag p0)), (4, .box (Av p1)), (6, .box [.pure (.nil0), .pure (.nil0), .pure (.nil0)]), (8, .box [.own 2040, .own 2041, .own 2042]), (11, .box (Bd v32)), (2040, .vec 1 (((([] : List Int)) ++ p1.fe).map An)), (2041, .vec 1 (((([] : List Int)) ++ p1.fa).map An)), (2042, .vec 1 (((([] : List Int)) ++ p1.fc).map Cb))]) (fun j47 h => ?_) (fun v47 h => ?_)
          ·refine Aj Ay rfl (qw 2 rfl ?_)
           refine Dm 173 h rfl (fun h => ?_) fun h => ?_
           ·refine qf FF rfl (ql BQ rfl (Bp rfl (qp rfl (qm rfl ?_))))
            refine Dm 178 h rfl (fun h => ?_) fun h => ?_
            ·refine qf GB rfl (ql JS rfl (qm rfl ?_))
             refine BS h fun v50 a50 b50 h => qi Gb Ns a50 (Ah b50) rfl (qk OS rfl (qf Ct rfl (ql A0 rfl (qf CN rfl (ql BQ rfl ?_)))))
             refine BS h fun v51 a51 b51 h => qi Ax CU a51 (Ah b51) rfl (qk BQ rfl ?_)
             refine BS h fun v52 a52 b52 h => qi GX Rk a52 (Ah b52) rfl (qk RN rfl (BT rfl (qp rfl (AI (by kernel_rfl) ?_))))
             exact sn [(2040, 2037), (2041, 2038), (2042, 2039)] h
            ·refine qw 14 rfl (qp rfl (AI (by kernel_rfl) ?_))
             exact sn [(2040, 2037), (2041, 2038), (2042, 2039)] h
           ·refine qw 3 rfl (qp rfl (qw 15 rfl (qp rfl (AI (by kernel_rfl) ?_))))
            exact sn [(2040, 2037), (2041, 2038), (2042, 2039)] h
          ·refine A5 h (fun h => ?_) fun h => ?_
           ·refine wq rfl (AU BU FD rfl (qs AE rfl (qe rfl ?_)))
            obtain rfl := sj h
            refine Ae ((Az 6 0 2043 1 _ rfl rfl rfl rfl).trans ((Az 6 1 2044 1 _ rfl rfl rfl rfl).trans ((Az 6 2 2045 1 _ rfl rfl rfl rfl).trans (sm [(1000, 2043), (1001, 2044), (1002, 2045)] [(6, oD (.ptr 6 0)), (7, bD false)] [(6, .box [.own 1000, .own 1001, .own 1002]), (1000, .vec 1 ((([] : List Int)).map An)), (1001, .vec 1 ((([] : List Int)).map An)), (1002, .vec 1 ((([] : List Int)).map Cb))] rfl rfl)))) (Aq ?_)
            exact ⟨⟨[_, _], ⟨.cellN _ _ _ _ _ _ _ rfl rfl AW AE rfl rfl (FM rfl), tm⟩, rfl⟩, ⟨rfl, rfl, rfl, tv⟩⟩
           ·refine Al (Aj Ay rfl (qm rfl (Be rfl (qe rfl ?_))))
            exact sn [(2031, 2040), (2032, 2041), (2033, 2042)] h
        ·refine AS ?_
         exact sn [(2034, 2031), (2035, 2032), (2036, 2033)] h
       ·refine Ae hs (Aj Ay rfl (qf Cn rfl (ql GS rfl (qw 2 rfl ?_))))
        refine BS h fun v54 a54 b54 h => qI C0 FB a54 (Ah b54) rfl ?_
        refine EN rfl rfl rfl rfl (Ah b54) rfl FB rfl (Jb rfl) (EK Cb ((([] : List Int)) ++ p1.fc) _ v35) ?_
        refine Ad ?_
        exact sn [(2001, 2034), (2002, 2035), (2003, 2036)] h
    ·refine wp rfl (qf Bl rfl (ql A0 rfl (qm rfl ?_)))
     refine BS h fun v55 a55 b55 h => qi Ax CU a55 (Ah b55) rfl (qk BQ rfl (AV rfl (Ad ?_)))
     refine A5 h (fun h => ?_) fun h => ?_
     ·refine wq rfl (AU BU FD rfl (qs AE rfl (qe rfl ?_)))
      obtain rfl := sj h
      refine Ae ((Az 6 0 2046 1 _ rfl rfl rfl rfl).trans ((Az 6 1 2047 1 _ rfl rfl rfl rfl).trans ((Az 6 2 2048 1 _ rfl rfl rfl rfl).trans (sm [(1000, 2046), (1001, 2047), (1002, 2048)] [(6, oD (.ptr 6 0)), (7, bD false)] [(6, .box [.own 1000, .own 1001, .own 1002]), (1000, .vec 1 ((([] : List Int)).map An)), (1001, .vec 1 ((([] : List Int)).map An)), (1002, .vec 1 ((([] : List Int)).map Cb))] rfl rfl)))) (Aq ?_)
      exact ⟨⟨[_, _], ⟨.cellN _ _ _ _ _ _ _ rfl rfl AW AE rfl rfl (FM rfl), tm⟩, rfl⟩, ⟨rfl, rfl, rfl, tv⟩⟩
     ·refine Al (Aj Ay rfl (qf Bl rfl (ql A0 rfl (qm rfl ?_))))
      refine BS h fun v57 a57 b57 h => qI Ax CU a57 (Ah b57) rfl ?_
      refine EN rfl rfl rfl rfl (Ah b57) rfl CU rfl (Jb rfl) (EK An ((([] : List Int)) ++ p1.fa) _ ((-1))) ?_
      refine Ad ?_
      exact sn [(2001, 18), (2002, 22), (2003, 26)] h
 ·refine wq rfl (qL AW AE rfl (qs AE rfl (qe rfl ?_)))
  obtain rfl := sj h
  refine Ae (sm [(1000, 2001), (1001, 2002), (1002, 2003)] [(6, oD (.ptr 6 0)), (7, bD true)] [(6, .box [.own 1000, .own 1001, .own 1002]), (1000, .vec 1 (v4.1.map An)), (1001, .vec 1 (v4.2.1.map An)), (1002, .vec 1 (v4.2.2.map Cb))] rfl rfl) (Aq ?_)
  exact ⟨⟨[_, _], ⟨.cellN _ _ _ _ _ _ _ rfl rfl AW AE rfl rfl (FM rfl), tm⟩, rfl⟩, ⟨rfl, rfl, rfl, tv⟩⟩
theorem HP (N : Nat) (p0 : Aa) (p1 : Ac) (p2 : Ab) (r : Ac × Int) (h : Df N p0 p1 p2 = some r) : Ar Tryz.prog 64 [.e (.agg (Ag p0)), .e (.agg (Av p1)), .e (.agg (Cs p2))] [(1, r.1.fe.map An), (1, r.1.fa.map An), (1, r.1.fc.map Cb)] (.tup [.agg [.own 0, .own 1, .own 2], .one (iC r.2)]) := by
 unfold Df at h
 refine cw (n := 73) (rs := [.cell 6 38, .tmp 7]) Tryz.func64 fun w0 S0 => ?_
 refine wq rfl (qb rfl (qb rfl (qb rfl (qz BU rfl (qa rfl (Ad (wp rfl (qL Ch B5 rfl (qL AW AE rfl ?_)))))))))
 refine BH h fun v1 a1 h => As [] (Er N p0 p1 v1 a1) Tj rfl (qa rfl (Ad (wq rfl (qm rfl (Bk rfl (Ad ?_))))))
 refine A5 h (fun h => ?_) fun h => ?_
 ·refine wq rfl (AU BU FD rfl (qm rfl (qs AE rfl (qe rfl ?_))))
  obtain rfl := sj h
  refine Ae ((Az 6 0 2001 1 _ rfl rfl rfl rfl).trans ((Az 6 1 2002 1 _ rfl rfl rfl rfl).trans ((Az 6 2 2003 1 _ rfl rfl rfl rfl).trans (sm [(1000, 2001), (1001, 2002), (1002, 2003)] [(6, oD (.ptr 6 0)), (7, iD v1)] [(6, .box [.own 1000, .own 1001, .own 1002]), (1000, .vec 1 ((([] : List Int)).map An)), (1001, .vec 1 ((([] : List Int)).map An)), (1002, .vec 1 ((([] : List Int)).map Cb))] rfl rfl)))) (Aq ?_)
  exact ⟨⟨[_, _], ⟨.cellN _ _ _ _ _ _ _ rfl rfl AW AE rfl rfl (FM rfl), tm⟩, rfl⟩, ⟨rfl, rfl, rfl, tv⟩⟩
 ·refine Al (wp rfl (qL Gr B8 rfl ?_))
  refine BH h fun v3 a3 h => As [] (HS N p2 v3 a3) XB rfl (BT rfl (Ad ?_))
  refine A5 h (fun h => ?_) fun h => ?_
  ·refine wq rfl (AU BU FD rfl (qs AE rfl (qe rfl ?_)))
   obtain rfl := sj h
   refine Ae ((Az 6 0 2004 1 _ rfl rfl rfl rfl).trans ((Az 6 1 2005 1 _ rfl rfl rfl rfl).trans ((Az 6 2 2006 1 _ rfl rfl rfl rfl).trans (sm [(1000, 2004), (1001, 2005), (1002, 2006)] [(6, oD (.ptr 6 0)), (7, iD 1)] [(6, .box [.own 1000, .own 1001, .own 1002]), (1000, .vec 1 ((([] : List Int)).map An)), (1001, .vec 1 ((([] : List Int)).map An)), (1002, .vec 1 ((([] : List Int)).map Cb))] rfl rfl)))) (Aq ?_)
   exact ⟨⟨[_, _], ⟨.cellN _ _ _ _ _ _ _ rfl rfl AW AE rfl rfl (FM rfl), tm⟩, rfl⟩, ⟨rfl, rfl, rfl, tv⟩⟩
  ·refine Al (AN ?_)
   refine AL h (fun v5 => mk [(3, oD (.ptr 3 0)), (4, oD (.ptr 4 0)), (5, oD (.ptr 5 0)), (6, oD (.ptr 6 0)), (45, bD v5)] [(3, .box (Ag p0)), (4, .box (Av p1)), (5, .box (Cs p2)), (6, .box [.pure (.nil0), .pure (.nil0), .pure (.nil0)])]) (fun j5 h => ?_) (fun v5 h => ?_)
   ·refine Aj Ay rfl (qf D7 rfl (ql BQ rfl (Bp rfl (qm rfl ?_))))
    refine Dm 25 h rfl (fun h => ?_) fun h => ?_
    ·refine qf Ew rfl (ql BQ rfl (qf CJ rfl (ql Hs rfl (AF Ek rfl (EA rfl (qp rfl (qm rfl ?_)))))))
     refine Dm 33 h rfl (fun h => ?_) fun h => ?_
     ·refine qw 4 rfl (qu rfl (qu rfl (qu rfl (qu rfl (qu rfl (qu rfl (qn rfl (qp rfl (Ad ?_)))))))))
      exact sn [] h
     ·refine qf D7 rfl (ql BQ rfl (Bk rfl (qm rfl ?_)))
      refine Dm 37 h rfl (fun h => ?_) fun h => ?_
      ·refine qf Ew rfl (ql BQ rfl (qf Bq rfl (ql A0 rfl (AF Ax rfl (EA rfl (qp rfl (qp rfl (Ad ?_))))))))
       exact sn [] h
      ·refine qw 6 rfl (qp rfl (qp rfl (Ad ?_)))
       exact sn [] h
    ·refine qw 6 rfl (qp rfl (qm rfl (qf D7 rfl (ql BQ rfl (Bk rfl (qm rfl ?_))))))
     refine Dm 37 h rfl (fun h => ?_) fun h => ?_
     ·refine qf Ew rfl (ql BQ rfl (qf Bq rfl (ql A0 rfl (AF Ax rfl (EA rfl (qp rfl (qp rfl (Ad ?_))))))))
      exact sn [] h
     ·refine qw 6 rfl (qp rfl (qp rfl (Ad ?_)))
      exact sn [] h
   ·refine A5 h (fun h => ?_) fun h => ?_
    ·refine wq rfl (AU BU FD rfl (qs AE rfl (qe rfl ?_)))
     obtain rfl := sj h
     refine Ae ((Az 6 0 2007 1 _ rfl rfl rfl rfl).trans ((Az 6 1 2008 1 _ rfl rfl rfl rfl).trans ((Az 6 2 2009 1 _ rfl rfl rfl rfl).trans (sm [(1000, 2007), (1001, 2008), (1002, 2009)] [(6, oD (.ptr 6 0)), (7, iD 4)] [(6, .box [.own 1000, .own 1001, .own 1002]), (1000, .vec 1 ((([] : List Int)).map An)), (1001, .vec 1 ((([] : List Int)).map An)), (1002, .vec 1 ((([] : List Int)).map Cb))] rfl rfl)))) (Aq ?_)
     exact ⟨⟨[_, _], ⟨.cellN _ _ _ _ _ _ _ rfl rfl AW AE rfl rfl (FM rfl), tm⟩, rfl⟩, ⟨rfl, rfl, rfl, tv⟩⟩
    ·refine Al (AN ?_)
     refine AL h (fun v11 => mk [(3, oD (.ptr 3 0)), (4, oD (.ptr 4 0)), (5, oD (.ptr 5 0)), (6, oD (.ptr 6 0)), (60, bD v11)] [(3, .box (Ag p0)), (4, .box (Av p1)), (5, .box (Cs p2)), (6, .box [.pure (.nil0), .pure (.nil0), .pure (.nil0)])]) (fun j11 h => ?_) (fun v11 h => ?_)
     ·refine Aj Ay rfl (qf D7 rfl (ql BQ rfl (Bp rfl (qm rfl ?_))))
      refine Dm 50 h rfl (fun h => ?_) fun h => ?_
      ·refine qf F4 rfl (ql BQ rfl (qf Bq rfl (ql A0 rfl (qf Ew rfl (ql BQ rfl ?_)))))
       refine BS h fun v13 a13 b13 h => qi Ax CU a13 (Ah b13) rfl (qk BQ rfl (EA rfl (qp rfl (AI (by kernel_rfl) ?_))))
       exact sn [] h
      ·refine qw 9 rfl (qp rfl (AI (by kernel_rfl) ?_))
       exact sn [] h
     ·refine A5 h (fun h => ?_) fun h => ?_
      ·refine wq rfl (AU BU FD rfl (qs AE rfl (qe rfl ?_)))
       obtain rfl := sj h
       refine Ae ((Az 6 0 2010 1 _ rfl rfl rfl rfl).trans ((Az 6 1 2011 1 _ rfl rfl rfl rfl).trans ((Az 6 2 2012 1 _ rfl rfl rfl rfl).trans (sm [(1000, 2010), (1001, 2011), (1002, 2012)] [(6, oD (.ptr 6 0)), (7, iD 4)] [(6, .box [.own 1000, .own 1001, .own 1002]), (1000, .vec 1 ((([] : List Int)).map An)), (1001, .vec 1 ((([] : List Int)).map An)), (1002, .vec 1 ((([] : List Int)).map Cb))] rfl rfl)))) (Aq ?_)
       exact ⟨⟨[_, _], ⟨.cellN _ _ _ _ _ _ _ rfl rfl AW AE rfl rfl (FM rfl), tm⟩, rfl⟩, ⟨rfl, rfl, rfl, tv⟩⟩
      ·refine Al (wq rfl (qL Ch B5 rfl (qL AW AE rfl (qL Gr B8 rfl ?_))))
       refine BH h fun v15 a15 h => As [2013, 2014, 2015] (Kj N p0 p1 p2 v15 a15) X1 rfl (qm rfl (qx rfl (qx rfl (qz BU rfl (qs AE rfl (qa rfl (Ad (wp rfl (qm rfl (BT rfl (Ad ?_)))))))))))
       refine A5 h (fun h => ?_) fun h => ?_
       ·refine wq rfl (AU BU FD rfl (qs AE rfl (qe rfl ?_)))
        obtain rfl := sj h
        refine Ae ((Az 6 0 2016 1 _ rfl rfl rfl rfl).trans ((Az 6 1 2017 1 _ rfl rfl rfl rfl).trans ((Az 6 2 2018 1 _ rfl rfl rfl rfl).trans (sm [(1000, 2016), (1001, 2017), (1002, 2018)] [(6, oD (.ptr 6 0)), (7, iD 11)] [(6, .box [.own 1000, .own 1001, .own 1002]), (1000, .vec 1 ((([] : List Int)).map An)), (1001, .vec 1 ((([] : List Int)).map An)), (1002, .vec 1 ((([] : List Int)).map Cb))] rfl rfl)))) (Aq ?_)
        exact ⟨⟨[_, _], ⟨.cellN _ _ _ _ _ _ _ rfl rfl AW AE rfl rfl (FM rfl), tm⟩, rfl⟩, ⟨rfl, rfl, rfl, tv⟩⟩
       ·refine Al (wq rfl (qL AW AE rfl (qs AE rfl (qe rfl ?_))))
        obtain rfl := sj h
        refine Ae (sm [(1000, 2013), (1001, 2014), (1002, 2015)] [(6, oD (.ptr 6 0)), (7, iD 0)] [(6, .box [.own 1000, .own 1001, .own 1002]), (1000, .vec 1 (v15.1.fe.map An)), (1001, .vec 1 (v15.1.fa.map An)), (1002, .vec 1 (v15.1.fc.map Cb))] rfl rfl) (Aq ?_)
        exact ⟨⟨[_, _], ⟨.cellN _ _ _ _ _ _ _ rfl rfl AW AE rfl rfl (FM rfl), tm⟩, rfl⟩, ⟨rfl, rfl, rfl, tv⟩⟩
theorem JK (N : Nat) (p0 : Ac) (r : Ac) (h : DT N p0 = some r) : Ar Tryz.prog 86 [.e (.agg (Av p0))] [(1, r.fe.map An), (1, r.fa.map An), (1, r.fc.map Cb)] (.e (.agg [.own 0, .own 1, .own 2])) := by
 unfold DT at h
 refine cw (n := 16) (rs := [.cell 2 38]) Tryz.func86 fun w0 S0 => ?_
 refine wq rfl (qb rfl (qz BU rfl (Ad (wq rfl (Eu Ax CU J7 rfl (qf Ct rfl (ql A0 rfl ?_)))))))
 refine E1 h fun c1 h => Hq (f := An) Ax Ax CU KR J7 (fun _ => rfl) c1 rfl (Eu Ax CU J7 rfl (qf Bl rfl (ql A0 rfl ?_)))
 refine E1 h fun c2 h => Hq (f := An) Ax Ax CU KR J7 (fun _ => rfl) c2 rfl (Eu C0 FB PA rfl (qf Cn rfl (ql GS rfl ?_)))
 refine E1 h fun c3 h => Hq (f := Cb) C0 C0 FB Qx PA (fun _ => rfl) c3 rfl (AU BU FD rfl (qs AE rfl (AI (by kernel_rfl) ?_)))
 obtain rfl := sj h
 refine Ae (sm [(1000, 6), (1001, 10), (1002, 14)] [(2, oD (.ptr 2 0))] [(2, .box [.own 1000, .own 1001, .own 1002]), (1000, .vec 1 (((([] : List Int)) ++ p0.fe).map An)), (1001, .vec 1 (((([] : List Int)) ++ p0.fa).map An)), (1002, .vec 1 (((([] : List Int)) ++ p0.fc).map Cb))] rfl rfl) (Aq ?_)
 exact ⟨⟨[_], ⟨.cellN _ _ _ _ _ _ _ rfl rfl AW AE rfl rfl (FM rfl), tv⟩, rfl⟩, ⟨rfl, rfl, rfl, tv⟩⟩
theorem IC (N : Nat) (p0 : Ac) (r : (List Ac)) (h : C5 N p0 = some r) : Ar Tryz.prog 62 [.e (.agg (Av p0))] [(3, r.map Ca)] (oD (.own 0)) := by
 unfold C5 at h
 refine cw (n := 62) (rs := [.tmp 2]) Tryz.func62 fun w0 S0 => ?_
 refine wq rfl (qb rfl (qa rfl (Ad (wq rfl (qa rfl (Ad (wp rfl (qe rfl ?_))))))))
 refine AH (L := B9 N p0) h (fun v1 => mk [(1, oD (.ptr 1 0)), (3, iD v1.1), (4, iD v1.2)] [(1, .box (Av p0))]) (fun v2 => mk [(1, oD (.ptr 1 0)), (3, iD v2)] [(1, .box (Av p0))]) (fun _ _ => rfl) (sm [] _ _ rfl rfl) (fun j1 n1 v1 h => ?_) (fun v2 s h hs => ?_)
 ·unfold B9 at h
  refine wp rfl (qm rfl (qf Bl rfl (ql A0 rfl (AF Ax rfl (AV rfl (Ad ?_))))))
  refine A5 h (fun h => ?_) fun h => ?_
  ·refine Al ?_
   refine AL h (fun v4 => mk [(1, oD (.ptr 1 0)), (3, iD v4), (4, iD v1.2)] [(1, .box (Av p0))]) (fun j4 h => ?_) (fun v4 h => ?_)
   ·refine AM (wq rfl (qf Bl rfl (ql A0 rfl (qm rfl ?_))))
    refine BS h fun v5 a5 b5 h => qi Ax CU a5 (Ah b5) rfl (qk BQ rfl (EA rfl (Ad ?_)))
    refine A5 h (fun h => ?_) fun h => ?_
    ·refine Aj Ay rfl (qm rfl (Be rfl (qe rfl ?_)))
     exact sn [] h
    ·refine Al ?_
     exact sn [] h
   ·refine Aj Ay rfl (qm rfl (Be rfl (qe rfl ?_)))
    exact sn [] h
  ·refine AS ?_
   exact sn [] h
 ·refine Ae hs (wq rfl (qa rfl (Ad (wp rfl (qe rfl ?_)))))
  refine AH (L := Bi N p0 v2) h (fun v7 => mk [(1, oD (.ptr 1 0)), (3, iD v2), (5, oD (.own 2001)), (6, iD v7.2)] [(1, .box (Av p0)), (2001, .vec 3 (v7.1.map Ca))]) (fun v8 => mk [(5, oD (.own 2002))] [(2002, .vec 3 (v8.map Ca))]) (fun _ _ => rfl) ((Bt 5 2022 3 rfl rfl rfl).trans (sm [(2001, 2022)] _ _ rfl rfl)) (fun j7 n7 v7 h => ?_) (fun v8 s h hs => ?_)
  ·unfold Bi at h
   refine wp rfl (qw 2 rfl ?_)
   refine E1 h fun c9 h => IE rfl c9 (AV rfl (Ad ?_))
   refine A5 h (fun h => ?_) fun h => ?_
   ·refine Al (AN (AM (wq rfl (qL AW AE rfl ?_))))
    refine BH h fun v11 a11 h => As [2003, 2004, 2005] (JK N p0 v11 a11) YA rfl (qz BU rfl (qs AE rfl (Ad (wq rfl (qa rfl (Ad (wp rfl (qe rfl ?_))))))))
    refine AH (L := By N p0 v7) h (fun v12 => mk [(1, oD (.ptr 1 0)), (3, iD v2), (5, oD (.own 2009)), (6, iD v7.2), (7, oD (.ptr 7 0)), (8, iD v12.2.1), (9, iD v12.2.2)] [(1, .box (Av p0)), (7, .box [.own 2006, .own 2007, .own 2008]), (2006, .vec 1 (v11.fe.map An)), (2007, .vec 1 (v12.1.map An)), (2008, .vec 1 (v11.fc.map Cb)), (2009, .vec 3 (v7.1.map Ca))]) (fun v13 => mk [(1, oD (.ptr 1 0)), (3, iD v2), (5, oD (.own 2013)), (6, iD v7.2), (7, oD (.ptr 7 0))] [(1, .box (Av p0)), (7, .box [.own 2010, .own 2011, .own 2012]), (2010, .vec 1 (v11.fe.map An)), (2011, .vec 1 (v13.map An)), (2012, .vec 1 (v11.fc.map Cb)), (2013, .vec 3 (v7.1.map Ca))]) (fun _ _ => rfl) (sm [(2006, 2003), (2007, 2004), (2008, 2005), (2009, 2001)] _ _ rfl rfl) (fun j12 n12 v12 h => ?_) (fun v13 s h hs => ?_)
    ·unfold By at h
     refine wp rfl (qm rfl (qf Bl rfl (ql A0 rfl (AF Ax rfl (AV rfl (Ad ?_))))))
     refine A5 h (fun h => ?_) fun h => ?_
     ·refine Al ?_
      refine AL h (fun v15 => mk [(1, oD (.ptr 1 0)), (3, iD v2), (5, oD (.own 2017)), (6, iD v7.2), (7, oD (.ptr 7 0)), (8, iD v15.2), (9, iD v12.2.2)] [(1, .box (Av p0)), (7, .box [.own 2014, .own 2015, .own 2016]), (2014, .vec 1 (v11.fe.map An)), (2015, .vec 1 (v15.1.map An)), (2016, .vec 1 (v11.fc.map Cb)), (2017, .vec 3 (v7.1.map Ca))]) (fun j15 h => ?_) (fun v15 h => ?_)
      ·refine AM (wp rfl (qf Bl rfl (ql A0 rfl (qm rfl ?_))))
       refine BS h fun v16 a16 b16 h => qi Ax CU a16 (Ah b16) rfl (qk BQ rfl (AV rfl (Ad ?_)))
       refine A5 h (fun h => ?_) fun h => ?_
       ·refine AS ?_
        exact sn [(2014, 2006), (2015, 2007), (2016, 2008), (2017, 2009)] h
       ·refine Al ?_
        refine AL h (fun v18 => mk [(1, oD (.ptr 1 0)), (3, iD v2), (5, oD (.own 2021)), (6, iD v7.2), (7, oD (.ptr 7 0)), (8, iD v12.2.1), (9, iD v12.2.2)] [(1, .box (Av p0)), (7, .box [.own 2018, .own 2019, .own 2020]), (2018, .vec 1 (v11.fe.map An)), (2019, .vec 1 (v18.map An)), (2020, .vec 1 (v11.fc.map Cb)), (2021, .vec 3 (v7.1.map Ca))]) (fun j18 h => ?_) (fun v18 h => ?_)
        ·refine wq rfl (qw 2 rfl ?_)
         refine E1 h fun c19 h => IX rfl c19 (Ld rfl (by decide) (Bp rfl (Ad ?_)))
         refine A5 h (fun h => ?_) fun h => ?_
         ·refine Aj Ay rfl (qf Bl rfl (ql A0 rfl (qm rfl ?_)))
          refine BS h fun v21 a21 b21 h => qI Ax CU a21 (Ah b21) rfl ?_
          refine EN rfl rfl rfl rfl (Ah b21) rfl CU rfl (Jb rfl) (EK An v12.1 _ ((-1))) ?_
          refine Ad ?_
          exact sn [(2018, 2006), (2019, 2007), (2020, 2008), (2021, 2009)] h
         ·refine Al ?_
          exact sn [(2018, 2006), (2019, 2007), (2020, 2008), (2021, 2009)] h
        ·refine Aj Ay rfl (qm rfl (Be rfl (qe rfl ?_)))
         exact sn [(2014, 2018), (2015, 2019), (2016, 2020), (2017, 2021)] h
      ·refine Aj Ay rfl (qm rfl (Be rfl (qe rfl ?_)))
       exact sn [(2006, 2014), (2007, 2015), (2008, 2016), (2009, 2017)] h
     ·refine AS ?_
      exact sn [(2010, 2006), (2011, 2007), (2012, 2008), (2013, 2009)] h
    ·refine Ae hs (Aj Ay rfl (qm rfl (qL AW AE rfl (DJ (AQ 2010 _ _ rfl rfl) (DJ (AQ 2011 _ _ rfl rfl) (DJ (AQ 2012 _ _ rfl rfl) (Eu Gg AE BU rfl ?_)))))))
     refine E1 h fun c22 h => El (f := Ca) Gg Gg AE SK BU c22 rfl (qa rfl (Ad (Aj Ay rfl (qm rfl (Be rfl (qe rfl ?_))))))
     exact sn [(2001, 60)] h
   ·refine AS ?_
    exact sn [(2002, 2001)] h
  ·refine Ae hs (wq rfl (qm rfl (qe rfl ?_)))
   obtain rfl := sj h
   refine Ae (sm [(1000, 2002)] [(2, oD (.own 1000))] [(1000, .vec 3 (v8.map Ca))] rfl rfl) (Aq ?_)
   exact ⟨⟨[_], tm, rfl⟩, ⟨rfl, tv⟩⟩
theorem J3 (N : Nat) (p0 : Aa) (p1 : Ac) (r : (List Ac) × Int) (h : EH N p0 p1 = some r) : Ar Tryz.prog 94 [.e (.agg (Ag p0)), .e (.agg (Av p1))] [(3, r.1.map Ca)] (.tup [.one (.own 0), .one (iC r.2)]) := by
 unfold EH at h
 refine cw (n := 15) (rs := [.tmp 4, .tmp 5]) Tryz.func94 fun w0 S0 => ?_
 refine wq rfl (qb rfl (qb rfl (qa rfl (qa rfl (Ad (wp rfl (qL Ch B5 rfl (qL AW AE rfl ?_))))))))
 refine BH h fun v1 a1 h => As [] (Er N p0 p1 v1 a1) Tj rfl (qa rfl (Ad (wq rfl (qm rfl (Bk rfl (Ad ?_))))))
 refine A5 h (fun h => ?_) fun h => ?_
 ·refine wq rfl (qm rfl (qa rfl (qe rfl ?_)))
  obtain rfl := sj h
  refine Ae ((Bt 4 2001 3 rfl rfl rfl).trans (sm [(1000, 2001)] [(4, oD (.own 1000)), (5, iD v1)] [(1000, .vec 3 ((([] : List Ac)).map Ca))] rfl rfl)) (Aq ?_)
  exact ⟨⟨[_, _], ⟨.tmp _ _ rfl, tm⟩, rfl⟩, ⟨rfl, tv⟩⟩
 ·refine Al (wq rfl (qL AW AE rfl ?_))
  refine BH h fun v3 a3 h => As [2002] (IC N p1 v3 a3) W2 rfl (qa rfl (qe rfl ?_))
  obtain rfl := sj h
  refine Ae (sm [(1000, 2002)] [(4, oD (.own 1000)), (5, iD 0)] [(1000, .vec 3 (v3.map Ca))] rfl rfl) (Aq ?_)
  exact ⟨⟨[_, _], ⟨.tmp _ _ rfl, tm⟩, rfl⟩, ⟨rfl, tv⟩⟩
theorem HQ (N : Nat) (p0 : Aa) (p1 : Ac) (r : (List Ai)) (h : C7 N p0 p1 = some r) : Ar Tryz.prog 87 [.e (.agg (Ag p0)), .e (.agg (Av p1))] [(3, r.map AP)] (oD (.own 0)) := by
 unfold C7 at h
 refine cw (n := 111) (rs := [.tmp 4]) Tryz.func87 fun w0 S0 => ?_
 refine wq rfl (qb rfl (qb rfl (qa rfl (Ad (wq rfl (qa rfl (Ad (wp rfl (qe rfl ?_)))))))))
 refine AH (L := Ce N p0 p1) h (fun v1 => mk [(2, oD (.ptr 2 0)), (3, oD (.ptr 3 0)), (5, oD (.own 2001)), (6, iD v1.2)] [(2, .box (Ag p0)), (3, .box (Av p1)), (2001, .vec 3 (v1.1.map AP))]) (fun v2 => mk [(5, oD (.own 2002))] [(2002, .vec 3 (v2.map AP))]) (fun _ _ => rfl) ((Bt 5 2013 3 rfl rfl rfl).trans (sm [(2001, 2013)] _ _ rfl rfl)) (fun j1 n1 v1 h => ?_) (fun v2 s h hs => ?_)
 ·unfold Ce at h
  refine wp rfl (qm rfl (qf CJ rfl (ql Hs rfl (AF Ek rfl (AV rfl (Ad ?_))))))
  refine A5 h (fun h => ?_) fun h => ?_
  ·refine Al (AN (AM (wq rfl (qf CJ rfl (ql Hs rfl (qm rfl ?_))))))
   refine BS h fun v4 a4 b4 h => qi Ek Ef a4 (Ah b4) rfl (qK Hu Ef rfl (qz L1 rfl (qs Ef rfl (Ad (wq rfl (qL AW AE rfl (qf CN rfl (ql BQ rfl ?_))))))))
   refine BH h fun v5 a5 h => As [] (DR N p1 v4.fg v5 a5) TJ rfl (qe rfl ?_)
   refine AL h (fun v6 => mk [(2, oD (.ptr 2 0)), (3, oD (.ptr 3 0)), (5, oD (.own 2003)), (6, iD v1.2), (7, oD (.ptr 7 0)), (8, pD (.val (.int .u8 v6)))] [(2, .box (Ag p0)), (3, .box (Av p1)), (7, .box (Bd v4)), (2003, .vec 3 (v1.1.map AP))]) (fun j6 h => ?_) (fun v6 h => ?_)
   ·refine wq rfl (qL Hu Ef rfl ?_)
    refine BH h fun v7 a7 h => As [] (B4 N v4 v7 a7) O1 rfl (Ad ?_)
    refine A5 h (fun h => ?_) fun h => ?_
    ·refine Aj Ay rfl (qf Cn rfl (ql GS rfl (qm rfl ?_)))
     refine BS h fun v9 a9 b9 h => qi C0 FB a9 (Ah b9) rfl (qk JD rfl (qe rfl ?_))
     exact sn [(2003, 2001)] h
    ·refine Al ?_
     exact sn [(2003, 2001)] h
   ·refine wq rfl (qe rfl ?_)
    refine AH (L := Bo N p0 p1 v1 v4 v6) h (fun v10 => mk [(2, oD (.ptr 2 0)), (3, oD (.ptr 3 0)), (5, oD (.own 2004)), (6, iD v1.2), (7, oD (.ptr 7 0)), (8, pD (.val (.int .u8 v6))), (9, iD v10.2)] [(2, .box (Ag p0)), (3, .box (Av p1)), (7, .box (Bd v4)), (2004, .vec 3 (v10.1.map AP))]) (fun v11 => mk [(2, oD (.ptr 2 0)), (3, oD (.ptr 3 0)), (5, oD (.own 2005)), (6, iD v1.2)] [(2, .box (Ag p0)), (3, .box (Av p1)), (2005, .vec 3 (v11.map AP))]) (fun _ _ => rfl) (sm [(2004, 2003)] _ _ rfl rfl) (fun j10 n10 v10 h => ?_) (fun v11 s h hs => ?_)
    ·unfold Bo at h
     refine wp rfl (qm rfl (qf Bq rfl (ql A0 rfl (qf CN rfl (ql BQ rfl ?_)))))
     refine BS h fun v12 a12 b12 h => qi Ax CU a12 (Ah b12) rfl (qk BQ rfl (AV rfl (Ad ?_)))
     refine A5 h (fun h => ?_) fun h => ?_
     ·refine Al ?_
      refine AL h (fun v14 => mk [(2, oD (.ptr 2 0)), (3, oD (.ptr 3 0)), (5, oD (.own 2006)), (6, iD v1.2), (7, oD (.ptr 7 0)), (8, pD (.val (.int .u8 v6))), (9, iD v10.2)] [(2, .box (Ag p0)), (3, .box (Av p1)), (7, .box (Bd v4)), (2006, .vec 3 (v14.map AP))]) (fun j14 h => ?_) (fun v14 h => ?_)
      ·refine AM (wp rfl (qw 2 rfl ?_))
       refine BH h fun v15 a15 h => As [] (FH N v6 v10.2 v15 a15) RH rfl (BT rfl (Ad ?_))
       refine A5 h (fun h => ?_) fun h => ?_
       ·refine AS ?_
        exact sn [(2006, 2004)] h
       ·refine Al (wq rfl (qa rfl (Ad (wp rfl (qe rfl ?_)))))
        refine AH (L := Bf N p0 p1 v1 v4 v10) h (fun v17 => mk [(2, oD (.ptr 2 0)), (3, oD (.ptr 3 0)), (5, oD (.own 2007)), (6, iD v1.2), (7, oD (.ptr 7 0)), (8, pD (.val (.int .u8 v6))), (9, iD v10.2), (10, bD v17.2.1), (11, iD v17.2.2)] [(2, .box (Ag p0)), (3, .box (Av p1)), (7, .box (Bd v4)), (2007, .vec 3 (v17.1.map AP))]) (fun v18 => mk [(2, oD (.ptr 2 0)), (3, oD (.ptr 3 0)), (5, oD (.own 2008)), (6, iD v1.2), (7, oD (.ptr 7 0)), (8, pD (.val (.int .u8 v6))), (9, iD v10.2), (10, bD v18.2)] [(2, .box (Ag p0)), (3, .box (Av p1)), (7, .box (Bd v4)), (2008, .vec 3 (v18.1.map AP))]) (fun _ _ => rfl) (sm [(2007, 2004)] _ _ rfl rfl) (fun j17 n17 v17 h => ?_) (fun v18 s h hs => ?_)
        ·unfold Bf at h
         refine wp rfl (qm rfl (qf Bq rfl (ql A0 rfl (qf H1 rfl (ql BQ rfl ?_)))))
         refine BS h fun v19 a19 b19 h => qi Ax CU a19 (Ah b19) rfl (qk BQ rfl (AV rfl (Ad ?_)))
         refine A5 h (fun h => ?_) fun h => ?_
         ·refine Al ?_
          refine AL h (fun v21 => mk [(2, oD (.ptr 2 0)), (3, oD (.ptr 3 0)), (5, oD (.own 2009)), (6, iD v1.2), (7, oD (.ptr 7 0)), (8, pD (.val (.int .u8 v6))), (9, iD v10.2), (10, bD v21.2), (11, iD v17.2.2)] [(2, .box (Ag p0)), (3, .box (Av p1)), (7, .box (Bd v4)), (2009, .vec 3 (v21.1.map AP))]) (fun j21 h => ?_) (fun v21 h => ?_)
          ·refine AM (wp rfl (qL AW AE rfl (qf H1 rfl (ql BQ rfl ?_))))
           refine BH h fun v22 a22 h => As [] (DR N p1 v4.fk v22 a22) TJ rfl (qm rfl ?_)
           refine BH h fun v23 a23 h => As [] (FH N v22 v17.2.2 v23 a23) RH rfl (BT rfl (Ad ?_))
           refine A5 h (fun h => ?_) fun h => ?_
           ·refine AS ?_
            exact sn [(2009, 2007)] h
           ·refine Al ?_
            refine AL h (fun v25 => mk [(2, oD (.ptr 2 0)), (3, oD (.ptr 3 0)), (5, oD (.own 2010)), (6, iD v1.2), (7, oD (.ptr 7 0)), (8, pD (.val (.int .u8 v6))), (9, iD v10.2), (10, bD v25), (11, iD v17.2.2)] [(2, .box (Ag p0)), (3, .box (Av p1)), (7, .box (Bd v4)), (2010, .vec 3 (v17.1.map AP))]) (fun j25 h => ?_) (fun v25 h => ?_)
            ·refine Aj Ay rfl (qw 2 rfl ?_)
             refine Dm 67 h rfl (fun h => ?_) fun h => ?_
             ·refine qw 8 rfl (qp rfl (qe rfl ?_))
              exact sn [(2010, 2007)] h
             ·refine qf Jh rfl (ql JS rfl (qm rfl ?_))
              refine BS h fun v27 a27 b27 h => qi Gb Ns a27 (Ah b27) rfl (qk OS rfl (qm rfl ?_))
              refine BS h fun v28 a28 b28 h => qi GX Rk a28 (Ah b28) rfl (qk RN rfl (qp rfl (qe rfl ?_)))
              exact sn [(2010, 2007)] h
            ·refine AL h (fun v29 => mk [(2, oD (.ptr 2 0)), (3, oD (.ptr 3 0)), (5, oD (.own 2011)), (6, iD v1.2), (7, oD (.ptr 7 0)), (8, pD (.val (.int .u8 v6))), (9, iD v10.2), (10, bD v25), (11, iD v17.2.2), (90, bD v29)] [(2, .box (Ag p0)), (3, .box (Av p1)), (7, .box (Bd v4)), (2011, .vec 3 (v17.1.map AP))]) (fun j29 h => ?_) (fun v29 h => ?_)
             ·refine Aj Ay rfl (qf IH rfl (ql RN rfl (BT rfl (qm rfl ?_))))
              refine Dm 80 h rfl (fun h => ?_) fun h => ?_
              ·refine qf Jh rfl (ql JS rfl (qm rfl ?_))
               refine BS h fun v31 a31 b31 h => qi Gb Ns a31 (Ah b31) rfl (qk OS rfl (qm rfl ?_))
               refine BS h fun v32 a32 b32 h => qi GX Rk a32 (Ah b32) rfl (qk RN rfl (BT rfl (qp rfl (Ad ?_))))
               exact sn [(2011, 2010)] h
              ·refine qw 9 rfl (qp rfl (Ad ?_))
               exact sn [(2011, 2010)] h
             ·refine A5 h (fun h => ?_) fun h => ?_
              ·refine Aj Ay rfl (qw 4 rfl (AU F3 Kg rfl (Eu FX DV F3 rfl ?_)))
               refine E1 h fun c34 h => El (f := AP) FX FX DV Ry F3 c34 rfl (qe rfl ?_)
               exact sn [(2009, 97)] h
              ·refine Al ?_
               exact sn [(2009, 2011)] h
          ·refine Aj Ay rfl (qm rfl (Be rfl (qe rfl ?_)))
           exact sn [(2007, 2009)] h
         ·refine AS ?_
          exact sn [(2008, 2007)] h
        ·refine Ae hs ?_
         refine AL h (fun v35 => mk [(2, oD (.ptr 2 0)), (3, oD (.ptr 3 0)), (5, oD (.own 2012)), (6, iD v1.2), (7, oD (.ptr 7 0)), (8, pD (.val (.int .u8 v6))), (9, iD v10.2), (103, bD v35)] [(2, .box (Ag p0)), (3, .box (Av p1)), (7, .box (Bd v4)), (2012, .vec 3 (v18.1.map AP))]) (fun j35 h => ?_) (fun v35 h => ?_)
         ·refine Aj Ay rfl (qf IH rfl (ql RN rfl (qm rfl ?_)))
          refine Dm 100 h rfl (fun h => ?_) fun h => ?_
          ·refine qm rfl (BT rfl (qp rfl (Ad ?_)))
           exact sn [(2012, 2008)] h
          ·refine qw 2 rfl (qp rfl (Ad ?_))
           exact sn [(2012, 2008)] h
         ·refine A5 h (fun h => ?_) fun h => ?_
          ·refine Aj Ay rfl (qw 3 rfl (AU F3 Kg rfl (Eu FX DV F3 rfl ?_)))
           refine E1 h fun c38 h => El (f := AP) FX FX DV Ry F3 c38 rfl (qe rfl ?_)
           exact sn [(2006, 109)] h
          ·refine Al ?_
           exact sn [(2006, 2012)] h
      ·refine Aj Ay rfl (qm rfl (Be rfl (qe rfl ?_)))
       exact sn [(2004, 2006)] h
     ·refine AS ?_
      exact sn [(2005, 2004)] h
    ·refine Ae hs (Aj Ay rfl (qm rfl (Be rfl (qe rfl ?_))))
     exact sn [(2001, 2005)] h
  ·refine AS ?_
   exact sn [(2002, 2001)] h
 ·refine Ae hs (wq rfl (qm rfl (qe rfl ?_)))
  obtain rfl := sj h
  refine Ae (sm [(1000, 2002)] [(4, oD (.own 1000))] [(1000, .vec 3 (v2.map AP))] rfl rfl) (Aq ?_)
  exact ⟨⟨[_], tm, rfl⟩, ⟨rfl, tv⟩⟩
theorem Kc (N : Nat) (p0 : Aa) (p1 : Ac) (r : Ac × Ai × Int) (h : D9 N p0 p1 = some r) : Ar Tryz.prog 73 [.e (.agg (Ag p0)), .e (.agg (Av p1))] [] (.tup [.agg (Av r.1), .agg (Ev r.2.1), .one (iC r.2.2)]) := by
 unfold D9 at h
 refine cw (n := 46) (rs := [.cell 4 38, .cell 5 93, .tmp 6]) Tryz.func73 fun w0 S0 => ?_
 refine wq rfl (qb rfl (qb rfl (qz BU rfl (qz F3 rfl (qa rfl (Ad (wq rfl (qL Ch B5 rfl (qL AW AE rfl ?_)))))))))
 refine BH h fun v1 a1 h => As [2001] (J3 N p0 p1 v1 a1) XT rfl (qm rfl (qx rfl (qx rfl (qa rfl (qa rfl (Ad (wp rfl (qm rfl (Bk rfl (Ad ?_))))))))))
 refine A5 h (fun h => ?_) fun h => ?_
 ·refine wq rfl (AU BU FD rfl (AU F3 Kg rfl (qm rfl (qs AE rfl (qs DV rfl (qe rfl ?_))))))
  obtain rfl := sj h
  refine Ae ((DC 4 _ rfl).trans (sm [] [(4, oD (.ptr 4 0)), (5, oD (.ptr 5 0)), (6, iD v1.2)] [(4, .box [sC ((([] : List Int)).map An), sC ((([] : List Int)).map An), sC ((([] : List Int)).map Cb)]), (5, .box [iC 0, iC 0, iC 0])] rfl rfl)) (Aq ?_)
  exact ⟨⟨[_, _, _], ⟨.cellN _ _ _ _ _ _ _ rfl rfl AW AE rfl rfl (FM rfl), ⟨.cellN _ _ _ _ _ _ _ rfl rfl Ix DV rfl rfl (FM rfl), tm⟩⟩, rfl⟩, tv⟩
 ·refine Al (wp rfl (qe rfl ?_))
  refine AH (L := Cg N p0 v1) h (fun v3 => mk [(2, oD (.ptr 2 0)), (4, oD (.ptr 4 0)), (5, oD (.ptr 5 0)), (7, oD (.own 2002)), (9, iD v3)] [(2, .box (Ag p0)), (4, .box [.pure (.nil0), .pure (.nil0), .pure (.nil0)]), (5, .box [iC 0, iC 0, iC 0]), (2002, .vec 3 (v1.1.map Ca))]) (fun v4 => mk [(4, oD (.ptr 4 0)), (5, oD (.ptr 5 0))] [(4, .box [.pure (.nil0), .pure (.nil0), .pure (.nil0)]), (5, .box [iC 0, iC 0, iC 0])]) (fun _ _ => rfl) (sm [(2002, 2001)] _ _ rfl rfl) (fun j3 n3 v3 h => ?_) (fun v4 s h hs => ?_)
  ·unfold Cg at h
   refine wp rfl (qw 2 rfl (Fr Gg rfl (AV rfl (Ad ?_))))
   refine A5 h (fun h => ?_) fun h => ?_
   ·refine Al (AN (AM (wq rfl (qL Ch B5 rfl (qw 2 rfl ?_)))))
    refine BS h fun v6 a6 b6 h => qI Gg AE a6 (Ah b6) rfl (qJ AW AE (Ah b6) rfl ?_)
    refine BH h fun v7 a7 h => As [2003] (HQ N p0 v6 v7 a7) WN rfl (qa rfl (AI (by kernel_rfl) (wq rfl (qm rfl (Fr FX rfl (Fe rfl (Ad ?_)))))))
    refine A5 h (fun h => ?_) fun h => ?_
    ·refine wq rfl (qw 2 rfl ?_)
     refine BS h fun v9 a9 b9 h => qI Gg AE a9 (Ah b9) rfl (qJ AW AE (Ah b9) rfl (qm rfl ?_))
     refine BS h fun v10 a10 b10 h => qI FX DV a10 (Ah b10) rfl (qJ Ix DV (Ah b10) rfl (qs AE rfl (qs DV rfl (qa rfl (AI (by kernel_rfl) ?_)))))
     obtain rfl := sj h
     refine Ae (sm [] [(4, oD (.ptr 4 0)), (5, oD (.ptr 5 0)), (6, iD 0)] [(4, .box (Av v9)), (5, .box (Ev v10))] rfl rfl) (Aq ?_)
     exact ⟨⟨[_, _, _], ⟨.cellN _ _ _ _ _ _ _ rfl rfl AW AE rfl rfl (FM rfl), ⟨.cellN _ _ _ _ _ _ _ rfl rfl Ix DV rfl rfl (FM rfl), tm⟩⟩, rfl⟩, tv⟩
    ·refine Al (Aj Ay rfl (qm rfl (Be rfl (qe rfl ?_))))
     exact sn [] h
   ·refine AS ?_
    exact sn [] h
  ·refine Ae hs (wq rfl (AU BU FD rfl (AU F3 Kg rfl (qs AE rfl (qs DV rfl (qe rfl ?_))))))
   obtain rfl := sj h
   refine Ae ((DC 4 _ rfl).trans (sm [] [(4, oD (.ptr 4 0)), (5, oD (.ptr 5 0)), (6, iD 15)] [(4, .box [sC ((([] : List Int)).map An), sC ((([] : List Int)).map An), sC ((([] : List Int)).map Cb)]), (5, .box [iC 0, iC 0, iC 0])] rfl rfl)) (Aq ?_)
   exact ⟨⟨[_, _, _], ⟨.cellN _ _ _ _ _ _ _ rfl rfl AW AE rfl rfl (FM rfl), ⟨.cellN _ _ _ _ _ _ _ rfl rfl Ix DV rfl rfl (FM rfl), tm⟩⟩, rfl⟩, tv⟩
theorem KI (N : Nat) (p0 : Aa) (p1 : Ac) (r : Bool) (h : DA N p0 p1 = some r) : Ar Tryz.prog 74 [.e (.agg (Ag p0)), .e (.agg (Av p1))] [] (bD r) := by
 unfold DA at h
 refine cw (n := 36) (rs := [.tmp 4]) Tryz.func74 fun w0 S0 => ?_
 refine wq rfl (qb rfl (qb rfl (qa rfl (Ad (wp rfl (qL Ch B5 rfl (qL AW AE rfl ?_)))))))
 refine BH h fun v1 a1 h => As [] (Er N p0 p1 v1 a1) Tj rfl (Bk rfl (Ad ?_))
 refine A5 h (fun h => ?_) fun h => ?_
 ·refine wq rfl (qe rfl ?_)
  obtain rfl := sj h
  refine Ae (sm [] [(4, bD false)] [] rfl rfl) (Aq ?_)
  exact ⟨⟨[_], tm, rfl⟩, tv⟩
 ·refine Al (wp rfl (qe rfl ?_))
  refine AH (L := Cp N p0 p1) h (fun v3 => mk [(2, oD (.ptr 2 0)), (3, oD (.ptr 3 0)), (5, iD v3)] [(2, .box (Ag p0)), (3, .box (Av p1))]) (fun v4 => mk [] []) (fun _ _ => rfl) (sm [] _ _ rfl rfl) (fun j3 n3 v3 h => ?_) (fun v4 s h hs => ?_)
  ·unfold Cp at h
   refine wp rfl (qm rfl (qf Ct rfl (ql A0 rfl (AF Ax rfl (AV rfl (Ad ?_))))))
   refine A5 h (fun h => ?_) fun h => ?_
   ·refine Al (AN (AM ?_))
    refine AL h (fun v6 => mk [(2, oD (.ptr 2 0)), (3, oD (.ptr 3 0)), (5, iD v3), (35, bD v6)] [(2, .box (Ag p0)), (3, .box (Av p1))]) (fun j6 h => ?_) (fun v6 h => ?_)
    ·refine Aj Ay rfl (qf Bl rfl (ql A0 rfl (qm rfl ?_)))
     refine BS h fun v7 a7 b7 h => qi Ax CU a7 (Ah b7) rfl (qk BQ rfl (EA rfl (qm rfl ?_)))
     refine Dm 23 h rfl (fun h => ?_) fun h => ?_
     ·refine qw 11 rfl (qp rfl (AI (by kernel_rfl) ?_))
      exact sn [] h
     ·refine qf Ct rfl (ql A0 rfl (qm rfl ?_))
      refine BS h fun v9 a9 b9 h => qi Ax CU a9 (Ah b9) rfl (qk BQ rfl (qf HZ rfl (ql A0 rfl (qm rfl ?_))))
      refine BS h fun v10 a10 b10 h => qi Ax CU a10 (Ah b10) rfl (qk BQ rfl (Bk rfl (qp rfl (AI (by kernel_rfl) ?_))))
      exact sn [] h
    ·refine A5 h (fun h => ?_) fun h => ?_
     ·refine wq rfl (qe rfl ?_)
      obtain rfl := sj h
      refine Ae (sm [] [(4, bD false)] [] rfl rfl) (Aq ?_)
      exact ⟨⟨[_], tm, rfl⟩, tv⟩
     ·refine Al (Aj Ay rfl (qm rfl (Be rfl (qe rfl ?_))))
      exact sn [] h
   ·refine AS ?_
    exact sn [] h
  ·refine Ae hs (wq rfl (qe rfl ?_))
   obtain rfl := sj h
   refine Ae (sm [] [(4, bD true)] [] rfl rfl) (Aq ?_)
   exact ⟨⟨[_], tm, rfl⟩, tv⟩
theorem JF (N : Nat) (p0 : Aa) (p1 : List Ab) (r : Int × Ac × Ai × Int) (h : Dt N p0 p1 = some r) : Ar Tryz.prog 49 [.e (.agg (Ag p0)), pD (.sl (p1.map Af))] [] (.tup [.one (iC r.1), .agg (Av r.2.1), .agg (Ev r.2.2.1), .one (iC r.2.2.2)]) := by
 unfold Dt at h
 refine cw (n := 80) (rs := [.tmp 4, .cell 5 38, .cell 6 93, .tmp 7]) Tryz.func49 fun w0 S0 => ?_
 refine wq rfl (qb rfl (qa rfl (qz BU rfl (qz F3 rfl (qa rfl (Ad (wq rfl (qL Ch B5 rfl ?_))))))))
 refine BH h fun v1 a1 h => As [2001, 2002, 2003] (F8 N p0 v1 a1) Wa rfl (qm rfl (qx rfl (qx rfl (qz BU rfl (qs AE rfl (qa rfl (Ad (wp rfl (qm rfl (Bk rfl (Ad ?_)))))))))))
 refine A5 h (fun h => ?_) fun h => ?_
 ·refine wq rfl (AU BU FD rfl (AU F3 Kg rfl (qm rfl (qa rfl (qs AE rfl (qs DV rfl (qe rfl ?_)))))))
  obtain rfl := sj h
  refine Ae ((DC 5 _ rfl).trans (sm [] [(4, iD 0), (5, oD (.ptr 5 0)), (6, oD (.ptr 6 0)), (7, iD v1.2)] [(5, .box [sC ((([] : List Int)).map An), sC ((([] : List Int)).map An), sC ((([] : List Int)).map Cb)]), (6, .box [iC 0, iC 0, iC 0])] rfl rfl)) (Aq ?_)
  exact ⟨⟨[_, _, _, _], ⟨.tmp _ _ rfl, ⟨.cellN _ _ _ _ _ _ _ rfl rfl AW AE rfl rfl (FM rfl), ⟨.cellN _ _ _ _ _ _ _ rfl rfl Ix DV rfl rfl (FM rfl), tm⟩⟩⟩, rfl⟩, tv⟩
 ·refine Al (wp rfl (qe rfl ?_))
  refine AH (L := BR N p0 p1) h (fun v3 => mk [(1, pD (.sl (p1.map Af))), (2, oD (.ptr 2 0)), (5, oD (.ptr 5 0)), (6, oD (.ptr 6 0)), (8, oD (.ptr 8 0)), (10, iD v3.2.2.2)] [(2, .box (Ag p0)), (5, .box [.pure (.nil0), .pure (.nil0), .pure (.nil0)]), (6, .box [iC 0, iC 0, iC 0]), (8, .box [sC (v3.1.map An), sC (v3.2.1.map An), sC (v3.2.2.1.map Cb)])]) (fun v4 => mk [(1, pD (.sl (p1.map Af))), (2, oD (.ptr 2 0)), (5, oD (.ptr 5 0)), (6, oD (.ptr 6 0)), (8, oD (.ptr 8 0))] [(2, .box (Ag p0)), (5, .box [.pure (.nil0), .pure (.nil0), .pure (.nil0)]), (6, .box [iC 0, iC 0, iC 0]), (8, .box (Av v4))]) (fun _ _ => rfl) ((AQ 2001 _ _ rfl rfl).trans ((AQ 2002 _ _ rfl rfl).trans ((AQ 2003 _ _ rfl rfl).trans (sm [] _ _ rfl rfl)))) (fun j3 n3 v3 h => ?_) (fun v4 s h hs => ?_)
  ·unfold BR at h
   refine wp rfl (qw 2 rfl (AF A3 rfl (AV rfl (Ad ?_))))
   refine A5 h (fun h => ?_) fun h => ?_
   ·refine Al (AN (AM ?_))
    refine AL h (fun v6 => mk [(1, pD (.sl (p1.map Af))), (2, oD (.ptr 2 0)), (5, oD (.ptr 5 0)), (6, oD (.ptr 6 0)), (8, oD (.ptr 8 0)), (10, iD v3.2.2.2)] [(2, .box (Ag p0)), (5, .box [.pure (.nil0), .pure (.nil0), .pure (.nil0)]), (6, .box [iC 0, iC 0, iC 0]), (8, .box [sC (v6.1.map An), sC (v6.2.1.map An), sC (v6.2.2.map Cb)])]) (fun j6 h => ?_) (fun v6 h => ?_)
    ·refine wq rfl (qm rfl (EA rfl (Ad ?_)))
     refine A5 h (fun h => ?_) fun h => ?_
     ·refine wq rfl (qL Ch B5 rfl (qL AW AE rfl (qw 2 rfl ?_)))
      refine BS h fun v8 a8 b8 h => qi A3 B8 a8 (Ah b8) rfl (qK Gr B8 rfl ?_)
      refine BH h fun v9 a9 h => As [2004, 2005, 2006] (HP N p0 ((Ac.mk v3.1 v3.2.1 v3.2.2.1)) v8 v9 a9) Xq rfl (qm rfl (qx rfl (qx rfl (qz BU rfl (qs AE rfl (qa rfl (AI (by kernel_rfl) (AN ?_))))))))
      refine AL h (fun v10 => mk [(1, pD (.sl (p1.map Af))), (2, oD (.ptr 2 0)), (5, oD (.ptr 5 0)), (6, oD (.ptr 6 0)), (8, oD (.ptr 8 0)), (10, iD v3.2.2.2), (11, oD (.ptr 11 0)), (53, bD v10)] [(2, .box (Ag p0)), (5, .box [.pure (.nil0), .pure (.nil0), .pure (.nil0)]), (6, .box [iC 0, iC 0, iC 0]), (8, .box [sC (v3.1.map An), sC (v3.2.1.map An), sC (v3.2.2.1.map Cb)]), (11, .box [.own 2007, .own 2008, .own 2009]), (2007, .vec 1 (v9.1.fe.map An)), (2008, .vec 1 (v9.1.fa.map An)), (2009, .vec 1 (v9.1.fc.map Cb))]) (fun j10 h => ?_) (fun v10 h => ?_)
      ·refine Aj Ay rfl (qm rfl (Bk rfl (qm rfl ?_)))
       refine Dm 46 h rfl (fun h => ?_) fun h => ?_
       ·refine qw 6 rfl (qp rfl (Ad ?_))
        exact sn [(2007, 2004), (2008, 2005), (2009, 2006)] h
       ·refine qw 2 rfl ?_
        refine BS h fun v12 a12 b12 h => qi A3 B8 a12 (Ah b12) rfl (qg D7 rfl (qk BQ rfl (Bp rfl (qp rfl (Ad ?_)))))
        exact sn [(2007, 2004), (2008, 2005), (2009, 2006)] h
      ·refine A5 h (fun h => ?_) fun h => ?_
       ·refine wq rfl (qm rfl (AU BU FD rfl (AU F3 Kg rfl (qa rfl (qs AE rfl (qs DV rfl (qe rfl ?_)))))))
        obtain rfl := sj h
        refine Ae ((DC 5 _ rfl).trans (sm [] [(4, iD v3.2.2.2), (5, oD (.ptr 5 0)), (6, oD (.ptr 6 0)), (7, iD 0)] [(5, .box [sC ((([] : List Int)).map An), sC ((([] : List Int)).map An), sC ((([] : List Int)).map Cb)]), (6, .box [iC 0, iC 0, iC 0])] rfl rfl)) (Aq ?_)
        exact ⟨⟨[_, _, _, _], ⟨.tmp _ _ rfl, ⟨.cellN _ _ _ _ _ _ _ rfl rfl AW AE rfl rfl (FM rfl), ⟨.cellN _ _ _ _ _ _ _ rfl rfl Ix DV rfl rfl (FM rfl), tm⟩⟩⟩, rfl⟩, tv⟩
       ·refine Al (Aj Ay rfl (qL AW AE rfl (qs AE rfl (Ad ?_))))
        exact S6 _ h ((AQ 2007 _ _ rfl rfl).trans ((AQ 2008 _ _ rfl rfl).trans ((AQ 2009 _ _ rfl rfl).trans (sm [] _ _ rfl rfl))))
     ·refine Al ?_
      exact sn [] h
    ·refine wq rfl (qL Ch B5 rfl (qL AW AE rfl ?_))
     refine BH h fun v14 a14 h => As [] (Kc N p0 ((Ac.mk v6.1 v6.2.1 v6.2.2)) v14 a14) XR rfl (qm rfl (qx rfl (qx rfl (qx rfl (qz BU rfl (qz F3 rfl (qs AE rfl (qs DV rfl (qa rfl (Ad (wq rfl (qm rfl (Bp rfl (Ad ?_))))))))))))))
     refine A5 h (fun h => ?_) fun h => ?_
     ·refine wq rfl (qm rfl (qL AW AE rfl (qL Ix DV rfl (qa rfl (qs AE rfl (qs DV rfl (qa rfl (AI (by kernel_rfl) ?_))))))))
      obtain rfl := sj h
      refine Ae (sm [] [(4, iD v3.2.2.2), (5, oD (.ptr 5 0)), (6, oD (.ptr 6 0)), (7, iD 0)] [(5, .box (Av v14.1)), (6, .box (Ev v14.2.1))] rfl rfl) (Aq ?_)
      exact ⟨⟨[_, _, _, _], ⟨.tmp _ _ rfl, ⟨.cellN _ _ _ _ _ _ _ rfl rfl AW AE rfl rfl (FM rfl), ⟨.cellN _ _ _ _ _ _ _ rfl rfl Ix DV rfl rfl (FM rfl), tm⟩⟩⟩, rfl⟩, tv⟩
     ·refine Al (Aj Ay rfl (qm rfl (Be rfl (qe rfl ?_))))
      exact sn [] h
   ·refine AS ?_
    exact sn [] h
  ·refine Ae hs (wp rfl (qL Ch B5 rfl (qL AW AE rfl ?_)))
   refine BH h fun v16 a16 h => As [] (KI N p0 v4 v16 a16) X8 rfl (BT rfl (Ad ?_))
   refine A5 h (fun h => ?_) fun h => ?_
   ·refine wq rfl (qm rfl (AF A3 rfl (AU BU FD rfl (AU F3 Kg rfl (qa rfl (qs AE rfl (qs DV rfl (qe rfl ?_))))))))
    obtain rfl := sj h
    refine Ae ((DC 5 _ rfl).trans (sm [] [(4, iD ((p1.length : Int))), (5, oD (.ptr 5 0)), (6, oD (.ptr 6 0)), (7, iD 14)] [(5, .box [sC ((([] : List Int)).map An), sC ((([] : List Int)).map An), sC ((([] : List Int)).map Cb)]), (6, .box [iC 0, iC 0, iC 0])] rfl rfl)) (Aq ?_)
    exact ⟨⟨[_, _, _, _], ⟨.tmp _ _ rfl, ⟨.cellN _ _ _ _ _ _ _ rfl rfl AW AE rfl rfl (FM rfl), ⟨.cellN _ _ _ _ _ _ _ rfl rfl Ix DV rfl rfl (FM rfl), tm⟩⟩⟩, rfl⟩, tv⟩
   ·refine Al (wq rfl (AU BU FD rfl (AU F3 Kg rfl (qa rfl (qs AE rfl (qs DV rfl (qe rfl ?_)))))))
    obtain rfl := sj h
    refine Ae ((DC 5 _ rfl).trans (sm [] [(4, iD 0), (5, oD (.ptr 5 0)), (6, oD (.ptr 6 0)), (7, iD 15)] [(5, .box [sC ((([] : List Int)).map An), sC ((([] : List Int)).map An), sC ((([] : List Int)).map Cb)]), (6, .box [iC 0, iC 0, iC 0])] rfl rfl)) (Aq ?_)
    exact ⟨⟨[_, _, _, _], ⟨.tmp _ _ rfl, ⟨.cellN _ _ _ _ _ _ _ rfl rfl AW AE rfl rfl (FM rfl), ⟨.cellN _ _ _ _ _ _ _ rfl rfl Ix DV rfl rfl (FM rfl), tm⟩⟩⟩, rfl⟩, tv⟩
theorem Kk (N : Nat) (p0 : Aa) (p1 : List Ab) (r : Bool) (h : Ec N p0 p1 = some r) : Ar Tryz.prog 19 [.e (.agg (Ag p0)), pD (.sl (p1.map Af))] [] (bD r) := by
 unfold Ec at h
 refine cw (n := 19) (rs := [.tmp 4]) Tryz.func19 fun w0 S0 => ?_
 refine wq rfl (qb rfl (qa rfl (Ad (wq rfl (qL Ch B5 rfl (qm rfl ?_))))))
 refine BH h fun v1 a1 h => As [] (JF N p0 p1 v1 a1) YN rfl (qm rfl (qx rfl (qx rfl (qx rfl (qx rfl (qz BU rfl (qz F3 rfl (qa rfl (qs AE rfl (qs DV rfl (qa rfl (Ad (wq rfl (qm rfl (Bp rfl (qe rfl ?_))))))))))))))))
 obtain rfl := sj h
 refine Ae (sm [] [(4, bD ((v1.2.2.2 == 15)))] [] rfl rfl) (Aq ?_)
 exact ⟨⟨[_], tm, rfl⟩, tv⟩
theorem KB (N : Nat) (p0 : List Ab) (r : Int) (h : Es N p0 = some r) : Ar Tryz.prog 38 [pD (.sl (p0.map Af))] [] (iD r) := by
 unfold Es at h
 refine cw (n := 47) (rs := [.tmp 2]) Tryz.func38 fun w0 S0 => ?_
 refine wq rfl (qa rfl (Ad (AN ?_)))
 refine AL h (fun v1 => mk [(0, pD (.sl (p0.map Af))), (12, bD v1)] []) (fun j1 h => ?_) (fun v1 h => ?_)
 ·refine Aj Ay rfl (qm rfl (AF A3 rfl (AV rfl (qm rfl ?_))))
  refine Dm 8 h rfl (fun h => ?_) fun h => ?_
  ·refine qw 3 rfl (qp rfl (Ad ?_))
   exact sn [] h
  ·refine qm rfl (AF A3 rfl (Fe rfl (qp rfl (Ad ?_))))
   exact sn [] h
 ·refine A5 h (fun h => ?_) fun h => ?_
  ·refine wq rfl (qe rfl ?_)
   obtain rfl := sj h
   refine Ae (sm [] [(2, iD 6)] [] rfl rfl) (Aq ?_)
   exact ⟨⟨[_], tm, rfl⟩, tv⟩
  ·refine Al (wp rfl (qe rfl ?_))
   refine AH (L := B2 N p0) h (fun v4 => mk [(0, pD (.sl (p0.map Af))), (3, iD v4)] []) (fun v5 => mk [] []) (fun _ _ => rfl) (sm [] _ _ rfl rfl) (fun j4 n4 v4 h => ?_) (fun v5 s h hs => ?_)
   ·unfold B2 at h
    refine wp rfl (qw 2 rfl (AF A3 rfl (AV rfl (Ad ?_))))
    refine A5 h (fun h => ?_) fun h => ?_
    ·refine Al (AN (AM (AN ?_)))
     refine AL h (fun v7 => mk [(0, pD (.sl (p0.map Af))), (3, iD v4), (32, bD v7)] []) (fun j7 h => ?_) (fun v7 h => ?_)
     ·refine Aj Ay rfl (qw 2 rfl ?_)
      refine BS h fun v8 a8 b8 h => qi A3 B8 a8 (Ah b8) rfl (qg D7 rfl (qk BQ rfl (Bp rfl (qm rfl ?_))))
      refine Dm 25 h rfl (fun h => ?_) fun h => ?_
      ·refine qw 6 rfl (qp rfl (Ad ?_))
       exact sn [] h
      ·refine qw 2 rfl ?_
       refine BS h fun v10 a10 b10 h => qi A3 B8 a10 (Ah b10) rfl (qK Gr B8 rfl ?_)
       refine BH h fun v11 a11 h => As [] (HS N v10 v11 a11) XB rfl (BT rfl (qp rfl (Ad ?_)))
       exact sn [] h
     ·refine A5 h (fun h => ?_) fun h => ?_
      ·refine wq rfl (qe rfl ?_)
       obtain rfl := sj h
       refine Ae (sm [] [(2, iD 1)] [] rfl rfl) (Aq ?_)
       exact ⟨⟨[_], tm, rfl⟩, tv⟩
      ·refine Al (wq rfl (qe rfl ?_))
       refine AH (L := CH N p0 v4) h (fun v13 => mk [(0, pD (.sl (p0.map Af))), (3, iD v4), (4, iD v13)] []) (fun v14 => mk [(0, pD (.sl (p0.map Af))), (3, iD v4)] []) (fun _ _ => rfl) (sm [] _ _ rfl rfl) (fun j13 n13 v13 h => ?_) (fun v14 s h hs => ?_)
       ·unfold CH at h
        refine wp rfl (qw 2 rfl (AV rfl (Ad ?_)))
        refine A5 h (fun h => ?_) fun h => ?_
        ·refine Al (AN (AM (wq rfl (qw 2 rfl ?_))))
         refine BS h fun v16 a16 b16 h => qi A3 B8 a16 (Ah b16) rfl (qK Gr B8 rfl (qw 2 rfl ?_))
         refine BS h fun v17 a17 b17 h => qi A3 B8 a17 (Ah b17) rfl (qK Gr B8 rfl ?_)
         refine Vx [.int .i64 v16.ff, .int .i64 v16.fh, .int .i64 v16.fj] [.int .i64 v17.ff, .int .i64 v17.fh, .int .i64 v17.fj] (.p rfl) rfl rfl T4 rfl ?_
         refine AI (by kernel_rfl) ?_
         refine A5 h (fun h => ?_) fun h => ?_
         ·refine wq rfl (qe rfl ?_)
          obtain rfl := sj h
          refine Ae (sm [] [(2, iD 1)] [] rfl rfl) (Aq ?_)
          exact ⟨⟨[_], tm, rfl⟩, tv⟩
         ·refine Al (Aj Ay rfl (qm rfl (Be rfl (qe rfl ?_))))
          exact sn [] h
        ·refine AS ?_
         exact sn [] h
       ·refine Ae hs (Aj Ay rfl (qm rfl (Be rfl (qe rfl ?_))))
        exact sn [] h
    ·refine AS ?_
     exact sn [] h
   ·refine Ae hs (wq rfl (qe rfl ?_))
    obtain rfl := sj h
    refine Ae (sm [] [(2, iD 0)] [] rfl rfl) (Aq ?_)
    exact ⟨⟨[_], tm, rfl⟩, tv⟩
theorem JH (N : Nat) (p0 : Aa) (p1 : Ac) (r : Bool) (h : DS N p0 p1 = some r) : Ar Tryz.prog 63 [.e (.agg (Ag p0)), .e (.agg (Av p1))] [] (bD r) := by
 unfold DS at h
 refine cw (n := 10) (rs := [.tmp 4]) Tryz.func63 fun w0 S0 => ?_
 refine wq rfl (qb rfl (qb rfl (qa rfl (Ad (wq rfl (qL Ch B5 rfl (qL AW AE rfl ?_)))))))
 refine BH h fun v1 a1 h => As [2001] (HQ N p0 p1 v1 a1) WN rfl (Fr FX rfl (Bp rfl (qe rfl ?_)))
 obtain rfl := sj h
 refine Ae (sm [] [(4, bD (((v1.length : Int) == 0)))] [] rfl rfl) (Aq ?_)
 exact ⟨⟨[_], tm, rfl⟩, tv⟩
theorem G6 (N : Nat) (p0 : Aa) (p1 : Ac) (r : Bool) (h : CG N p0 p1 = some r) : Ar Tryz.prog 39 [.e (.agg (Ag p0)), .e (.agg (Av p1))] [] (bD r) := by
 unfold CG at h
 refine cw (n := 22) (rs := [.tmp 4]) Tryz.func39 fun w0 S0 => ?_
 refine wq rfl (qb rfl (qb rfl (qa rfl (Ad (wq rfl (qL AW AE rfl ?_))))))
 refine BH h fun v1 a1 h => As [2001] (IC N p1 v1 a1) W2 rfl (qa rfl (Ad (wp rfl (qe rfl ?_))))
 refine AH (L := BJ N p0 v1) h (fun v2 => mk [(2, oD (.ptr 2 0)), (5, oD (.own 2002)), (6, iD v2)] [(2, .box (Ag p0)), (2002, .vec 3 (v1.map Ca))]) (fun v3 => mk [] []) (fun _ _ => rfl) (sm [(2002, 2001)] _ _ rfl rfl) (fun j2 n2 v2 h => ?_) (fun v3 s h hs => ?_)
 ·unfold BJ at h
  refine wp rfl (qw 2 rfl (Fr Gg rfl (AV rfl (Ad ?_))))
  refine A5 h (fun h => ?_) fun h => ?_
  ·refine Al (AN (AM (wq rfl (qL Ch B5 rfl (qw 2 rfl ?_)))))
   refine BS h fun v5 a5 b5 h => qI Gg AE a5 (Ah b5) rfl (qJ AW AE (Ah b5) rfl ?_)
   refine BH h fun v6 a6 h => As [] (JH N p0 v5 v6 a6) YO rfl (BT rfl (AI (by kernel_rfl) ?_))
   refine A5 h (fun h => ?_) fun h => ?_
   ·refine wq rfl (qe rfl ?_)
    obtain rfl := sj h
    refine Ae (sm [] [(4, bD false)] [] rfl rfl) (Aq ?_)
    exact ⟨⟨[_], tm, rfl⟩, tv⟩
   ·refine Al (Aj Ay rfl (qm rfl (Be rfl (qe rfl ?_))))
    exact sn [] h
  ·refine AS ?_
   exact sn [] h
 ·refine Ae hs (wq rfl (qe rfl ?_))
  obtain rfl := sj h
  refine Ae (sm [] [(4, bD true)] [] rfl rfl) (Aq ?_)
  exact ⟨⟨[_], tm, rfl⟩, tv⟩
theorem JX (N : Nat) (p0 : Int) (r : (List (List Int))) (h : DU N p0 = some r) : Ar Tryz.prog 40 [iD p0] [(1, r.map (EU An))] (oD (.own 0)) := by
 unfold DU at h
 refine cw (n := 64) (rs := [.tmp 2]) Tryz.func40 fun w0 S0 => ?_
 refine wq rfl (qa rfl (Ad (wq rfl (Eu Kl MB Wp rfl (qa rfl (Ad (wp rfl (qe rfl ?_))))))))
 refine AH (L := D6 N p0) h (fun v1 => mk [(0, iD p0), (3, oD (.own 2001)), (4, iD v1.2)] [(2001, .vec 1 (v1.1.map (EU An)))]) (fun v2 => mk [(3, oD (.own 2002))] [(2002, .vec 1 (v2.map (EU An)))]) (fun _ _ => rfl) (sm [(2001, 10)] _ _ rfl rfl) (fun j1 n1 v1 h => ?_) (fun v2 s h hs => ?_)
 ·unfold D6 at h
  refine wp rfl (qw 2 rfl (AV rfl (Ad ?_)))
  refine A5 h (fun h => ?_) fun h => ?_
  ·refine Al (AN (AM (wq rfl (qa rfl (Ad (wp rfl (qe rfl ?_)))))))
   refine AH (L := D8 N p0 v1) h (fun v4 => mk [(0, iD p0), (3, oD (.own 2003)), (4, iD v1.2), (5, oD (.own 2004)), (6, iD v4.2)] [(2003, .vec 1 (v1.1.map (EU An))), (2004, .vec 1 (v4.1.map (EU An)))]) (fun v5 => mk [(0, iD p0), (4, iD v1.2), (5, oD (.own 2005))] [(2005, .vec 1 (v5.map (EU An)))]) (fun _ _ => rfl) ((Bt 5 2018 1 rfl rfl rfl).trans (sm [(2003, 2001), (2004, 2018)] _ _ rfl rfl)) (fun j4 n4 v4 h => ?_) (fun v5 s h hs => ?_)
   ·unfold D8 at h
    refine wp rfl (qw 2 rfl (Fr Kl rfl (AV rfl (Ad ?_))))
    refine A5 h (fun h => ?_) fun h => ?_
    ·refine Al (AN (AM (wq rfl (qe rfl ?_))))
     refine AH (L := D5 N p0 v1 v4) h (fun v7 => mk [(0, iD p0), (3, oD (.own 2006)), (4, iD v1.2), (5, oD (.own 2007)), (6, iD v4.2), (7, iD v7.2)] [(2006, .vec 1 (v1.1.map (EU An))), (2007, .vec 1 (v7.1.map (EU An)))]) (fun v8 => mk [(0, iD p0), (3, oD (.own 2008)), (4, iD v1.2), (5, oD (.own 2009)), (6, iD v4.2)] [(2008, .vec 1 (v1.1.map (EU An))), (2009, .vec 1 (v8.map (EU An)))]) (fun _ _ => rfl) (sm [(2006, 2003), (2007, 2004)] _ _ rfl rfl) (fun j7 n7 v7 h => ?_) (fun v8 s h hs => ?_)
     ·unfold D5 at h
      refine wp rfl (qw 2 rfl (AV rfl (Ad ?_)))
      refine A5 h (fun h => ?_) fun h => ?_
      ·refine Al ?_
       refine AL h (fun v10 => mk [(0, iD p0), (3, oD (.own 2010)), (4, iD v1.2), (5, oD (.own 2011)), (6, iD v4.2), (7, iD v7.2)] [(2010, .vec 1 (v1.1.map (EU An))), (2011, .vec 1 (v10.map (EU An)))]) (fun j10 h => ?_) (fun v10 h => ?_)
       ·refine AM (wq rfl (qa rfl (Ad (wp rfl (qe rfl ?_)))))
        refine AH (L := DQ N v1 v4 v7) h (fun v11 => mk [(0, iD p0), (3, oD (.own 2012)), (4, iD v1.2), (5, oD (.own 2013)), (6, iD v4.2), (7, iD v7.2), (8, bD v11.1), (9, iD v11.2)] [(2012, .vec 1 (v1.1.map (EU An))), (2013, .vec 1 (v7.1.map (EU An)))]) (fun v12 => mk [(0, iD p0), (3, oD (.own 2014)), (4, iD v1.2), (5, oD (.own 2015)), (6, iD v4.2), (7, iD v7.2), (8, bD v12)] [(2014, .vec 1 (v1.1.map (EU An))), (2015, .vec 1 (v7.1.map (EU An)))]) (fun _ _ => rfl) (sm [(2012, 2006), (2013, 2007)] _ _ rfl rfl) (fun j11 n11 v11 h => ?_) (fun v12 s h hs => ?_)
        ·unfold DQ at h
         refine wp rfl (qw 3 rfl ?_)
         refine BS h fun v13 a13 b13 h => qI Kl MB a13 (Ah b13) rfl (qj A0 (Ah b13) rfl (AF Ax rfl (AV rfl (Ad ?_))))
         refine A5 h (fun h => ?_) fun h => ?_
         ·refine Al ?_
          refine AL h (fun v15 => mk [(0, iD p0), (3, oD (.own 2016)), (4, iD v1.2), (5, oD (.own 2017)), (6, iD v4.2), (7, iD v7.2), (8, bD v15), (9, iD v11.2)] [(2016, .vec 1 (v1.1.map (EU An))), (2017, .vec 1 (v7.1.map (EU An)))]) (fun j15 h => ?_) (fun v15 h => ?_)
          ·refine AM (Aj Ay rfl (qw 2 rfl ?_))
           refine Dm 37 h rfl (fun h => ?_) fun h => ?_
           ·refine qw 9 rfl (qp rfl (qe rfl ?_))
            exact sn [(2016, 2012), (2017, 2013)] h
           ·refine qw 2 rfl ?_
            refine BS h fun v17 a17 b17 h => qI Kl MB a17 (Ah b17) rfl (qj A0 (Ah b17) rfl (qm rfl ?_))
            refine BS h fun v18 a18 b18 h => qi Ax CU a18 (Ah b18) rfl (qk BQ rfl (qm rfl (Bp rfl (qp rfl (qe rfl ?_)))))
            exact sn [(2016, 2012), (2017, 2013)] h
          ·refine Aj Ay rfl (qm rfl (Be rfl (qe rfl ?_)))
           exact sn [(2012, 2016), (2013, 2017)] h
         ·refine AS ?_
          exact sn [(2014, 2012), (2015, 2013)] h
        ·refine Ae hs (wq rfl (qm rfl (BT rfl (Ad ?_))))
         refine A5 h (fun h => ?_) fun h => ?_
         ·refine Aj Ay rfl (qm rfl (Eu Ax CU J7 rfl (qw 2 rfl ?_)))
          refine BS h fun v20 a20 b20 h => qI Kl MB a20 (Ah b20) rfl (qj A0 (Ah b20) rfl ?_)
          refine E1 h fun c21 h => Hq (f := An) Ax Ax CU KR J7 (fun _ => rfl) c21 rfl (qm rfl (Eu Ax CU J7 rfl ?_))
          refine E1 h fun c22 h => El (f := An) Ax Ax CU KR J7 c22 rfl (DJ (AQ 59 _ _ rfl rfl) (Eu Kl MB Wp rfl ?_))
          refine E1 h fun c23 h => El (f := (EU An)) Kl Kl MB WT Wp c23 rfl (qe rfl ?_)
          exact sn [(2010, 2014), (2011, 61)] h
         ·refine Al ?_
          exact sn [(2010, 2014), (2011, 2015)] h
       ·refine Aj Ay rfl (qm rfl (Be rfl (qe rfl ?_)))
        exact sn [(2006, 2010), (2007, 2011)] h
      ·refine AS ?_
       exact sn [(2008, 2006), (2009, 2007)] h
     ·refine Ae hs (Aj Ay rfl (qm rfl (Be rfl (qe rfl ?_))))
      exact sn [(2003, 2008), (2004, 2009)] h
    ·refine AS ?_
     exact sn [(2005, 2004)] h
   ·refine Ae hs (Aj Ay rfl (qm rfl (qa rfl (Ad (Aj Ay rfl (qm rfl (Be rfl (qe rfl ?_))))))))
    exact sn [(2001, 2005)] h
  ·refine AS ?_
   exact sn [(2002, 2001)] h
 ·refine Ae hs (wq rfl (qm rfl (qe rfl ?_)))
  obtain rfl := sj h
  refine Ae (sm [(1000, 2002)] [(2, oD (.own 1000))] [(1000, .vec 1 (v2.map (EU An)))] rfl rfl) (Aq ?_)
  exact ⟨⟨[_], tm, rfl⟩, ⟨rfl, tv⟩⟩
theorem FC (N : Nat) (p0 : Aa) (p1 : Ac) (p2 : List Ab) (r : Ac × Bool) (h : BY N p0 p1 p2 = some r) : Ar Tryz.prog 41 [.e (.agg (Ag p0)), .e (.agg (Av p1)), pD (.sl (p2.map Af))] [] (.tup [.agg (Av r.1), .one (.pure (.val (.bool r.2)))]) := by
 unfold BY at h
 refine cw (n := 38) (rs := [.cell 6 38, .tmp 7]) Tryz.func41 fun w0 S0 => ?_
 refine wq rfl (qb rfl (qb rfl (qz BU rfl (qa rfl (Ad (wp rfl (qe rfl ?_)))))))
 refine AH (L := Cj N p0 p2) h (fun v1 => mk [(2, pD (.sl (p2.map Af))), (3, oD (.ptr 3 0)), (4, oD (.ptr 4 0)), (6, oD (.ptr 6 0)), (8, iD v1.2.2.2)] [(3, .box (Ag p0)), (4, .box [sC (v1.1.map An), sC (v1.2.1.map An), sC (v1.2.2.1.map Cb)]), (6, .box [.pure (.nil0), .pure (.nil0), .pure (.nil0)])]) (fun v2 => mk [(4, oD (.ptr 4 0)), (6, oD (.ptr 6 0))] [(4, .box (Av v2)), (6, .box [.pure (.nil0), .pure (.nil0), .pure (.nil0)])]) (fun _ _ => rfl) (sm [] _ _ rfl rfl) (fun j1 n1 v1 h => ?_) (fun v2 s h hs => ?_)
 ·unfold Cj at h
  refine wp rfl (qw 2 rfl (AF A3 rfl (AV rfl (Ad ?_))))
  refine A5 h (fun h => ?_) fun h => ?_
  ·refine Al (AN (AM (wq rfl (qL Ch B5 rfl (qL AW AE rfl (qw 2 rfl ?_))))))
   refine BS h fun v4 a4 b4 h => qi A3 B8 a4 (Ah b4) rfl (qK Gr B8 rfl ?_)
   refine BH h fun v5 a5 h => As [2001, 2002, 2003] (HP N p0 ((Ac.mk v1.1 v1.2.1 v1.2.2.1)) v4 v5 a5) Xq rfl (qm rfl (qx rfl (qx rfl (qz BU rfl (qs AE rfl (qa rfl (AI (by kernel_rfl) (AN ?_))))))))
   refine AL h (fun v6 => mk [(2, pD (.sl (p2.map Af))), (3, oD (.ptr 3 0)), (4, oD (.ptr 4 0)), (6, oD (.ptr 6 0)), (8, iD v1.2.2.2), (9, oD (.ptr 9 0)), (34, bD v6)] [(3, .box (Ag p0)), (4, .box [sC (v1.1.map An), sC (v1.2.1.map An), sC (v1.2.2.1.map Cb)]), (6, .box [.pure (.nil0), .pure (.nil0), .pure (.nil0)]), (9, .box [.own 2004, .own 2005, .own 2006]), (2004, .vec 1 (v5.1.fe.map An)), (2005, .vec 1 (v5.1.fa.map An)), (2006, .vec 1 (v5.1.fc.map Cb))]) (fun j6 h => ?_) (fun v6 h => ?_)
   ·refine Aj Ay rfl (qm rfl (Bk rfl (qm rfl ?_)))
    refine Dm 29 h rfl (fun h => ?_) fun h => ?_
    ·refine qw 4 rfl (qp rfl (Ad ?_))
     exact sn [(2004, 2001), (2005, 2002), (2006, 2003)] h
    ·refine qL Ch B5 rfl (qL AW AE rfl ?_)
     refine BH h fun v8 a8 h => GD [] [2001, 2002, 2003] (G6 N p0 v5.1 v8 a8) WV EJ rfl (BT rfl (qp rfl (Ad ?_)))
     exact sn [(2004, 2001), (2005, 2002), (2006, 2003)] h
   ·refine A5 h (fun h => ?_) fun h => ?_
    ·refine wq rfl (AU BU FD rfl (qs AE rfl (qe rfl ?_)))
     obtain rfl := sj h
     refine Ae ((DC 6 _ rfl).trans (sm [] [(6, oD (.ptr 6 0)), (7, bD false)] [(6, .box [sC ((([] : List Int)).map An), sC ((([] : List Int)).map An), sC ((([] : List Int)).map Cb)])] rfl rfl)) (Aq ?_)
     exact ⟨⟨[_, _], ⟨.cellN _ _ _ _ _ _ _ rfl rfl AW AE rfl rfl (FM rfl), tm⟩, rfl⟩, tv⟩
    ·refine Al (Aj Ay rfl (qL AW AE rfl (qs AE rfl (Ad (Aj Ay rfl (qm rfl (Be rfl (qe rfl ?_))))))))
     exact S6 _ h ((AQ 2004 _ _ rfl rfl).trans ((AQ 2005 _ _ rfl rfl).trans ((AQ 2006 _ _ rfl rfl).trans (sm [] _ _ rfl rfl))))
  ·refine AS ?_
   exact sn [] h
 ·refine Ae hs (wq rfl (qL AW AE rfl (qs AE rfl (qe rfl ?_))))
  obtain rfl := sj h
  refine Ae (sm [] [(6, oD (.ptr 6 0)), (7, bD true)] [(6, .box (Av v2))] rfl rfl) (Aq ?_)
  exact ⟨⟨[_, _], ⟨.cellN _ _ _ _ _ _ _ rfl rfl AW AE rfl rfl (FM rfl), tm⟩, rfl⟩, tv⟩
theorem JA (N : Nat) (p0 : List Ab) (p1 : List Int) (r : (List Ab)) (h : Dz N p0 p1 = some r) : Ar Tryz.prog 42 [pD (.sl (p0.map Af)), pD (.sl (p1.map An))] [(3, r.map Af)] (oD (.own 0)) := by
 unfold Dz at h
 refine cw (n := 24) (rs := [.tmp 4]) Tryz.func42 fun w0 S0 => ?_
 refine wq rfl (qa rfl (Ad (wq rfl (qa rfl (Ad (wp rfl (qe rfl ?_)))))))
 refine AH (L := Cl N p0 p1) h (fun v1 => mk [(0, pD (.sl (p0.map Af))), (1, pD (.sl (p1.map An))), (5, oD (.own 2001)), (6, iD v1.2)] [(2001, .vec 3 (v1.1.map Af))]) (fun v2 => mk [(5, oD (.own 2002))] [(2002, .vec 3 (v2.map Af))]) (fun _ _ => rfl) ((Bt 5 2003 3 rfl rfl rfl).trans (sm [(2001, 2003)] _ _ rfl rfl)) (fun j1 n1 v1 h => ?_) (fun v2 s h hs => ?_)
 ·unfold Cl at h
  refine wp rfl (qw 2 rfl (AF Ax rfl (AV rfl (Ad ?_))))
  refine A5 h (fun h => ?_) fun h => ?_
  ·refine Al (AN (AM (Aj Ay rfl (qw 4 rfl ?_))))
   refine BS h fun v4 a4 b4 h => qi Ax CU a4 (Ah b4) rfl (qk BQ rfl ?_)
   refine BS h fun v5 a5 b5 h => qi A3 B8 a5 (Ah b5) rfl (qK Gr B8 rfl (Eu A3 B8 Iw rfl ?_))
   refine E1 h fun c6 h => El (f := Af) A3 A3 B8 Ot Iw c6 rfl (qa rfl (Ad (Aj Ay rfl (qm rfl (Be rfl (qe rfl ?_))))))
   exact sn [(2001, 22)] h
  ·refine AS ?_
   exact sn [(2002, 2001)] h
 ·refine Ae hs (wq rfl (qm rfl (qe rfl ?_)))
  obtain rfl := sj h
  refine Ae (sm [(1000, 2002)] [(4, oD (.own 1000))] [(1000, .vec 3 (v2.map Af))] rfl rfl) (Aq ?_)
  exact ⟨⟨[_], tm, rfl⟩, ⟨rfl, tv⟩⟩
theorem GF (N : Nat) (p0 : List Int) (p1 : List Int) (r : Int) (h : CW N p0 p1 = some r) : Ar Tryz.prog 89 [pD (.sl (p0.map An)), pD (.sl (p1.map An))] [] (iD r) := by
 unfold CW at h
 refine cw (n := 46) (rs := [.tmp 4]) Tryz.func89 fun w0 S0 => ?_
 refine wq rfl (qa rfl (Ad (wp rfl (qe rfl ?_))))
 refine AH (L := CT N p0 p1) h (fun v1 => mk [(0, pD (.sl (p0.map An))), (1, pD (.sl (p1.map An))), (5, iD v1)] []) (fun v2 => mk [(0, pD (.sl (p0.map An))), (1, pD (.sl (p1.map An)))] []) (fun _ _ => rfl) (sm [] _ _ rfl rfl) (fun j1 n1 v1 h => ?_) (fun v2 s h hs => ?_)
 ·unfold CT at h
  refine AN ?_
  refine AL h (fun v3 => mk [(0, pD (.sl (p0.map An))), (1, pD (.sl (p1.map An))), (5, iD v1), (15, bD v3)] []) (fun j3 h => ?_) (fun v3 h => ?_)
  ·refine Aj Ay rfl (qw 2 rfl (AF Ax rfl (AV rfl (qm rfl ?_))))
   refine Dm 10 h rfl (fun h => ?_) fun h => ?_
   ·refine qw 2 rfl (AF Ax rfl (AV rfl (qp rfl (Ad ?_))))
    exact sn [] h
   ·refine qw 4 rfl (qp rfl (Ad ?_))
    exact sn [] h
  ·refine A5 h (fun h => ?_) fun h => ?_
   ·refine Al (AN (AM (wp rfl (qw 2 rfl ?_))))
    refine BS h fun v6 a6 b6 h => qi Ax CU a6 (Ah b6) rfl (qk BQ rfl (qw 2 rfl ?_))
    refine BS h fun v7 a7 b7 h => qi Ax CU a7 (Ah b7) rfl (qk BQ rfl (AV rfl (AI (by kernel_rfl) ?_)))
    refine A5 h (fun h => ?_) fun h => ?_
    ·refine wq rfl (qe rfl ?_)
     obtain rfl := sj h
     refine Ae (sm [] [(4, iD ((-1)))] [] rfl rfl) (Aq ?_)
     exact ⟨⟨[_], tm, rfl⟩, tv⟩
    ·refine Al (wq rfl (qw 2 rfl ?_))
     refine BS h fun v9 a9 b9 h => qi Ax CU a9 (Ah b9) rfl (qk BQ rfl (qw 2 rfl ?_))
     refine BS h fun v10 a10 b10 h => qi Ax CU a10 (Ah b10) rfl (qk BQ rfl (Fe rfl (AI (by kernel_rfl) ?_)))
     refine A5 h (fun h => ?_) fun h => ?_
     ·refine wq rfl (qe rfl ?_)
      obtain rfl := sj h
      refine Ae (sm [] [(4, iD 1)] [] rfl rfl) (Aq ?_)
      exact ⟨⟨[_], tm, rfl⟩, tv⟩
     ·refine Al (Aj Ay rfl (qm rfl (Be rfl (qe rfl ?_))))
      exact sn [] h
   ·refine AS ?_
    exact sn [] h
 ·refine Ae hs (wp rfl (qm rfl (AF Ax rfl (qm rfl (AF Ax rfl (AV rfl (Ad ?_)))))))
  refine A5 h (fun h => ?_) fun h => ?_
  ·refine wq rfl (qe rfl ?_)
   obtain rfl := sj h
   refine Ae (sm [] [(4, iD ((-1)))] [] rfl rfl) (Aq ?_)
   exact ⟨⟨[_], tm, rfl⟩, tv⟩
  ·refine Al (wp rfl (qm rfl (AF Ax rfl (qm rfl (AF Ax rfl (Fe rfl (Ad ?_)))))))
   refine A5 h (fun h => ?_) fun h => ?_
   ·refine wq rfl (qe rfl ?_)
    obtain rfl := sj h
    refine Ae (sm [] [(4, iD 1)] [] rfl rfl) (Aq ?_)
    exact ⟨⟨[_], tm, rfl⟩, tv⟩
   ·refine Al (wq rfl (qe rfl ?_))
    obtain rfl := sj h
    refine Ae (sm [] [(4, iD 0)] [] rfl rfl) (Aq ?_)
    exact ⟨⟨[_], tm, rfl⟩, tv⟩
theorem Hi (N : Nat) (p0 : List Int) (r : (List Int)) (h : CQ N p0 = some r) : Ar Tryz.prog 90 [pD (.sl (p0.map Cb))] [(1, r.map An)] (oD (.own 0)) := by
 unfold CQ at h
 refine cw (n := 20) (rs := [.tmp 2]) Tryz.func90 fun w0 S0 => ?_
 refine wq rfl (qa rfl (Ad (wq rfl (qa rfl (Ad (wp rfl (qe rfl ?_)))))))
 refine AH (L := Cm N p0) h (fun v1 => mk [(0, pD (.sl (p0.map Cb))), (3, oD (.own 2001)), (4, iD v1.2)] [(2001, .vec 1 (v1.1.map An))]) (fun v2 => mk [(3, oD (.own 2002))] [(2002, .vec 1 (v2.map An))]) (fun _ _ => rfl) ((Bt 3 2003 1 rfl rfl rfl).trans (sm [(2001, 2003)] _ _ rfl rfl)) (fun j1 n1 v1 h => ?_) (fun v2 s h hs => ?_)
 ·unfold Cm at h
  refine wp rfl (qw 2 rfl (AF C0 rfl (AV rfl (Ad ?_))))
  refine A5 h (fun h => ?_) fun h => ?_
  ·refine Al (AN (AM (Aj Ay rfl (qw 3 rfl ?_))))
   refine BS h fun v4 a4 b4 h => qi C0 FB a4 (Ah b4) rfl (qk JD rfl (Jx Yg Vs rfl (Eu Ax CU J7 rfl ?_)))
   refine E1 h fun c5 h => El (f := An) Ax Ax CU KR J7 c5 rfl (qa rfl (Ad (Aj Ay rfl (qm rfl (Be rfl (qe rfl ?_))))))
   exact sn [(2001, 18)] h
  ·refine AS ?_
   exact sn [(2002, 2001)] h
 ·refine Ae hs (wq rfl (qm rfl (qe rfl ?_)))
  obtain rfl := sj h
  refine Ae (sm [(1000, 2002)] [(2, oD (.own 1000))] [(1000, .vec 1 (v2.map An))] rfl rfl) (Aq ?_)
  exact ⟨⟨[_], tm, rfl⟩, ⟨rfl, tv⟩⟩
theorem Jy (N : Nat) (p0 : Ac) (p1 : Ac) (r : Int) (h : Dy N p0 p1 = some r) : Ar Tryz.prog 65 [.e (.agg (Av p0)), .e (.agg (Av p1))] [] (iD r) := by
 unfold Dy at h
 refine cw (n := 30) (rs := [.tmp 4]) Tryz.func65 fun w0 S0 => ?_
 refine wq rfl (qb rfl (qb rfl (qa rfl (Ad (wp rfl (qf Ct rfl (ql A0 rfl (qf Ct rfl (ql A0 rfl ?_)))))))))
 refine BH h fun v1 a1 h => As [] (GF N p0.fe p1.fe v1 a1) We rfl (qa rfl (Ad (wq rfl (qm rfl (Bk rfl (Ad ?_))))))
 refine A5 h (fun h => ?_) fun h => ?_
 ·refine wq rfl (qm rfl (qe rfl ?_))
  obtain rfl := sj h
  refine Ae (sm [] [(4, iD v1)] [] rfl rfl) (Aq ?_)
  exact ⟨⟨[_], tm, rfl⟩, tv⟩
 ·refine Al (wp rfl (qf Bl rfl (ql A0 rfl (qf Bl rfl (ql A0 rfl ?_)))))
  refine BH h fun v3 a3 h => As [] (GF N p0.fa p1.fa v3 a3) We rfl (qa rfl (Ad (wq rfl (qm rfl (Bk rfl (Ad ?_))))))
  refine A5 h (fun h => ?_) fun h => ?_
  ·refine wq rfl (qm rfl (qe rfl ?_))
   obtain rfl := sj h
   refine Ae (sm [] [(4, iD v3)] [] rfl rfl) (Aq ?_)
   exact ⟨⟨[_], tm, rfl⟩, tv⟩
  ·refine Al (wq rfl (qf Cn rfl (ql GS rfl ?_)))
   refine BH h fun v5 a5 h => As [2001] (Hi N p0.fc v5 a5) W7 rfl (qf Cn rfl (ql GS rfl ?_))
   refine BH h fun v6 a6 h => As [2002] (Hi N p1.fc v6 a6) W7 rfl ?_
   refine BH h fun v7 a7 h => GD [] [2001, 2002] (GF N v5 v6 v7 a7) We EJ rfl (qa rfl (AI (by kernel_rfl) ?_))
   obtain rfl := sj h
   refine Ae (sm [] [(4, iD v7)] [] rfl rfl) (Aq ?_)
   exact ⟨⟨[_], tm, rfl⟩, tv⟩
theorem Ke (N : Nat) (p0 : Ac) (p1 : Ac) (r : Bool) (h : Ee N p0 p1 = some r) : Ar Tryz.prog 43 [.e (.agg (Av p0)), .e (.agg (Av p1))] [] (bD r) := by
 unfold Ee at h
 refine cw (n := 9) (rs := [.tmp 4]) Tryz.func43 fun w0 S0 => ?_
 refine wq rfl (qb rfl (qb rfl (qa rfl (Ad (wq rfl (qL AW AE rfl (qL AW AE rfl ?_)))))))
 refine BH h fun v1 a1 h => As [] (Jy N p0 p1 v1 a1) YS rfl (Bp rfl (qe rfl ?_))
 obtain rfl := sj h
 refine Ae (sm [] [(4, bD ((v1 == 0)))] [] rfl rfl) (Aq ?_)
 exact ⟨⟨[_], tm, rfl⟩, tv⟩
theorem Ly (N : Nat) (p0 : Aa) (p1 : Ac) (p2 : List Ab) (r : (List Ab) × Int) (h : D0 N p0 p1 p2 = some r) : Ar Tryz.prog 13 [.e (.agg (Ag p0)), .e (.agg (Av p1)), pD (.sl (p2.map Af))] [] (.tup [.one (sC (r.1.map Af)), .one (iC r.2)]) := by
 unfold D0 at h
 refine cw (n := 73) (rs := [.tmp 6, .tmp 7]) Tryz.func13 fun w0 S0 => ?_
 refine wq rfl (qb rfl (qb rfl (qa rfl (qa rfl (Ad (wp rfl (qL Ch B5 rfl (qL AW AE rfl ?_))))))))
 refine BH h fun v1 a1 h => As [] (Er N p0 p1 v1 a1) Tj rfl (qa rfl (Ad (wq rfl (qm rfl (Bk rfl (Ad ?_))))))
 refine A5 h (fun h => ?_) fun h => ?_
 ·refine wq rfl (qm rfl (qa rfl (qe rfl ?_)))
  obtain rfl := sj h
  refine Ae ((I2 6 _ rfl).trans (sm [] [(6, pD (.sl ((([] : List Ab)).map Af))), (7, iD v1)] [] rfl rfl)) (Aq ?_)
  exact ⟨⟨[_, _], ⟨.tmp _ _ rfl, tm⟩, rfl⟩, tv⟩
 ·refine Al (wp rfl (qm rfl ?_))
  refine BH h fun v3 a3 h => As [] (KB N p2 v3 a3) Yd rfl (qa rfl (Ad (wq rfl (qm rfl (Bk rfl (Ad ?_))))))
  refine A5 h (fun h => ?_) fun h => ?_
  ·refine wq rfl (qm rfl (qa rfl (qe rfl ?_)))
   obtain rfl := sj h
   refine Ae ((I2 6 _ rfl).trans (sm [] [(6, pD (.sl ((([] : List Ab)).map Af))), (7, iD v3)] [] rfl rfl)) (Aq ?_)
   exact ⟨⟨[_, _], ⟨.tmp _ _ rfl, tm⟩, rfl⟩, tv⟩
  ·refine Al (wp rfl (qL Ch B5 rfl (qL AW AE rfl ?_)))
   refine BH h fun v5 a5 h => As [] (G6 N p0 p1 v5 a5) WV rfl (BT rfl (Ad ?_))
   refine A5 h (fun h => ?_) fun h => ?_
   ·refine wq rfl (Eu A3 B8 Iw rfl (qm rfl ?_))
    refine E1 h fun c7 h => Hq (f := Af) A3 A3 B8 Ot Iw (fun _ => rfl) c7 rfl (qa rfl (qe rfl ?_))
    obtain rfl := sj h
    refine Ae ((AQ 34 _ _ rfl rfl).trans (sm [] [(6, pD (.sl (((([] : List Ab)) ++ p2).map Af))), (7, iD 0)] [] rfl rfl)) (Aq ?_)
    exact ⟨⟨[_, _], ⟨.tmp _ _ rfl, tm⟩, rfl⟩, tv⟩
   ·refine Al (wq rfl (qm rfl (AF A3 rfl ?_)))
    refine BH h fun v8 a8 h => As [2001] (JX N ((p2.length : Int)) v8 a8) X5 rfl (qa rfl (Ad (wq rfl (qL Ch B5 rfl (qL AW AE rfl (qm rfl ?_))))))
    refine BH h fun v9 a9 h => As [] (FC N p0 p1 p2 v9 a9) V9 rfl (qm rfl (qx rfl (qx rfl (qz BU rfl (qs AE rfl (qa rfl (Ad (wp rfl (qe rfl ?_)))))))))
    refine AH (L := CO N p0 p1 p2 v8 v9) h (fun v10 => mk [(2, pD (.sl (p2.map Af))), (3, oD (.ptr 3 0)), (4, oD (.ptr 4 0)), (10, oD (.own 2002)), (11, oD (.ptr 11 0)), (13, iD v10)] [(3, .box (Ag p0)), (4, .box (Av p1)), (11, .box (Av v9.1)), (2002, .vec 1 (v8.map (EU An)))]) (fun v11 => mk [] []) (fun _ _ => rfl) (sm [(2002, 2001)] _ _ rfl rfl) (fun j10 n10 v10 h => ?_) (fun v11 s h hs => ?_)
    ·unfold CO at h
     refine wp rfl (qw 2 rfl (Fr Kl rfl (AV rfl (Ad ?_))))
     refine A5 h (fun h => ?_) fun h => ?_
     ·refine Al (AN (AM (wq rfl (qw 3 rfl ?_))))
      refine BS h fun v13 a13 b13 h => qI Kl MB a13 (Ah b13) rfl (qj A0 (Ah b13) rfl ?_)
      refine BH h fun v14 a14 h => As [2003] (JA N p2 v13 v14 a14) Yp rfl (qa rfl (Ad (wq rfl (qL Ch B5 rfl (qL AW AE rfl (qm rfl (DJ (AQ 2003 _ _ rfl rfl) ?_)))))))
      refine BH h fun v15 a15 h => As [] (FC N p0 p1 v14 v15 a15) V9 rfl (qm rfl (qx rfl (qx rfl (qz BU rfl (qs AE rfl (qe rfl ?_))))))
      refine AL h (fun v16 => mk [(2, pD (.sl (p2.map Af))), (3, oD (.ptr 3 0)), (4, oD (.ptr 4 0)), (10, oD (.own 2004)), (11, oD (.ptr 11 0)), (13, iD v10), (14, pD (.sl (v14.map Af))), (71, bD v16)] [(3, .box (Ag p0)), (4, .box (Av p1)), (11, .box (Av v9.1)), (2004, .vec 1 (v8.map (EU An)))]) (fun j16 h => ?_) (fun v16 h => ?_)
      ·refine Aj Ay rfl (qm rfl (BT rfl (qm rfl ?_)))
       refine Dm 66 h rfl (fun h => ?_) fun h => ?_
       ·refine qw 4 rfl (qp rfl (Ad ?_))
        exact sn [(2004, 2002)] h
       ·refine qL AW AE rfl (qL AW AE rfl ?_)
        refine BH h fun v18 a18 h => As [] (Ke N v15.1 v9.1 v18 a18) YC rfl (BT rfl (qp rfl (Ad ?_)))
        exact sn [(2004, 2002)] h
      ·refine A5 h (fun h => ?_) fun h => ?_
       ·refine wq rfl (qm rfl (qa rfl (qe rfl ?_)))
        obtain rfl := sj h
        refine Ae (sm [] [(6, pD (.sl (v14.map Af))), (7, iD 0)] [] rfl rfl) (Aq ?_)
        exact ⟨⟨[_, _], ⟨.tmp _ _ rfl, tm⟩, rfl⟩, tv⟩
       ·refine Al (Aj Ay rfl (qm rfl (Be rfl (qe rfl ?_))))
        exact sn [(2002, 2004)] h
     ·refine AS ?_
      exact sn [] h
    ·refine Ae hs (wq rfl (qa rfl (qe rfl ?_)))
     obtain rfl := sj h
     refine Ae ((I2 6 _ rfl).trans (sm [] [(6, pD (.sl ((([] : List Ab)).map Af))), (7, iD 15)] [] rfl rfl)) (Aq ?_)
     exact ⟨⟨[_, _], ⟨.tmp _ _ rfl, tm⟩, rfl⟩, tv⟩
theorem KM (N : Nat) (p0 : Aa) (p1 : Ac) (p2 : List Ab) (r : Bool × Int) (h : DF N p0 p1 p2 = some r) : Ar Tryz.prog 11 [.e (.agg (Ag p0)), .e (.agg (Av p1)), pD (.sl (p2.map Af))] [] (.tup [.one (.pure (.val (.bool r.1))), .one (iC r.2)]) := by
 unfold DF at h
 refine cw (n := 26) (rs := [.tmp 6, .tmp 7]) Tryz.func11 fun w0 S0 => ?_
 refine wq rfl (qb rfl (qb rfl (qa rfl (qa rfl (Ad (wq rfl (qL Ch B5 rfl (qL AW AE rfl (qm rfl ?_)))))))))
 refine BH h fun v1 a1 h => As [] (Ly N p0 p1 p2 v1 a1) YM rfl (qm rfl (qx rfl (qx rfl (qa rfl (qa rfl (Ad (wp rfl (qm rfl (Bp rfl (Ad ?_))))))))))
 refine A5 h (fun h => ?_) fun h => ?_
 ·refine wq rfl (qa rfl (qe rfl ?_))
  obtain rfl := sj h
  refine Ae (sm [] [(6, bD true), (7, iD 0)] [] rfl rfl) (Aq ?_)
  exact ⟨⟨[_, _], ⟨.tmp _ _ rfl, tm⟩, rfl⟩, tv⟩
 ·refine Al (wp rfl (qL Ch B5 rfl (qL AW AE rfl ?_)))
  refine BH h fun v3 a3 h => As [] (Er N p0 p1 v3 a3) Tj rfl (qa rfl (Ad (wq rfl (qm rfl (Bk rfl (Ad ?_))))))
  refine A5 h (fun h => ?_) fun h => ?_
  ·refine wq rfl (qm rfl (qa rfl (qe rfl ?_)))
   obtain rfl := sj h
   refine Ae (sm [] [(6, bD false), (7, iD v3)] [] rfl rfl) (Aq ?_)
   exact ⟨⟨[_, _], ⟨.tmp _ _ rfl, tm⟩, rfl⟩, tv⟩
  ·refine Al (wq rfl (qa rfl (qe rfl ?_)))
   obtain rfl := sj h
   refine Ae (sm [] [(6, bD false), (7, iD 0)] [] rfl rfl) (Aq ?_)
   exact ⟨⟨[_, _], ⟨.tmp _ _ rfl, tm⟩, rfl⟩, tv⟩
theorem Ki (N : Nat) (p0 : Aa) (p1 : Ac) (p2 : List Ab) (r : Ac) (h : EP N p0 p1 p2 = some r) : Ar Tryz.prog 47 [.e (.agg (Ag p0)), .e (.agg (Av p1)), pD (.sl (p2.map Af))] [] (.e (.agg (Av r))) := by
 unfold EP at h
 refine cw (n := 17) (rs := [.cell 6 38]) Tryz.func47 fun w0 S0 => ?_
 refine wq rfl (qb rfl (qb rfl (qz BU rfl (Ad (wq rfl (qL Ch B5 rfl (qL AW AE rfl (qm rfl ?_))))))))
 refine BH h fun v1 a1 h => As [] (FC N p0 p1 p2 v1 a1) V9 rfl (qm rfl (qx rfl (qx rfl (qz BU rfl (qs AE rfl (qa rfl (Ad (wq rfl (qL AW AE rfl (qs AE rfl (Ad ?_)))))))))))
 obtain rfl := sj h
 refine Ae (sm [] [(6, oD (.ptr 6 0))] [(6, .box (Av v1.1))] rfl rfl) (Aq ?_)
 exact ⟨⟨[_], ⟨.cellN _ _ _ _ _ _ _ rfl rfl AW AE rfl rfl (FM rfl), tv⟩, rfl⟩, tv⟩
theorem LX (N : Nat) (p0 : Aa) (p1 : List Ab) (r : (List (List Ab)) × Int) (h : EO N p0 p1 = some r) : Ar Tryz.prog 16 [.e (.agg (Ag p0)), pD (.sl (p1.map Af))] [(1, r.1.map (EU Af))] (.tup [.one (.own 0), .one (iC r.2)]) := by
 unfold EO at h
 refine cw (n := 70) (rs := [.tmp 4, .tmp 5]) Tryz.func16 fun w0 S0 => ?_
 refine wq rfl (qb rfl (qa rfl (qa rfl (Ad (wp rfl (qL Ch B5 rfl ?_))))))
 refine BH h fun v1 a1 h => As [] (ED N p0 v1 a1) Wx rfl (qa rfl (Ad (wq rfl (qm rfl (Bk rfl (Ad ?_))))))
 refine A5 h (fun h => ?_) fun h => ?_
 ·refine wq rfl (qm rfl (qa rfl (qe rfl ?_)))
  obtain rfl := sj h
  refine Ae ((Bt 4 2001 1 rfl rfl rfl).trans (sm [(1000, 2001)] [(4, oD (.own 1000)), (5, iD v1)] [(1000, .vec 1 ((([] : List (List Ab))).map (EU Af)))] rfl rfl)) (Aq ?_)
  exact ⟨⟨[_, _], ⟨.tmp _ _ rfl, tm⟩, rfl⟩, ⟨rfl, tv⟩⟩
 ·refine Al (wp rfl (qL Ch B5 rfl (qm rfl ?_)))
  refine BH h fun v3 a3 h => As [] (Kk N p0 p1 v3 a3) XS rfl (BT rfl (Ad ?_))
  refine A5 h (fun h => ?_) fun h => ?_
  ·refine wq rfl (qa rfl (qe rfl ?_))
   obtain rfl := sj h
   refine Ae ((Bt 4 2002 1 rfl rfl rfl).trans (sm [(1000, 2002)] [(4, oD (.own 1000)), (5, iD 13)] [(1000, .vec 1 ((([] : List (List Ab))).map (EU Af)))] rfl rfl)) (Aq ?_)
   exact ⟨⟨[_, _], ⟨.tmp _ _ rfl, tm⟩, rfl⟩, ⟨rfl, tv⟩⟩
  ·refine Al (wq rfl (qL Ch B5 rfl ?_))
   refine BH h fun v5 a5 h => As [2003, 2004, 2005] (F8 N p0 v5 a5) Wa rfl (qm rfl (qx rfl (qx rfl (qz BU rfl (qs AE rfl (qa rfl (Ad (wq rfl (qa rfl (Ad (AN ?_)))))))))))
   refine AH (L := C9 N p0) h (fun v6 => mk [(1, pD (.sl (v6.2.2.2.1.map Af))), (2, oD (.ptr 2 0)), (7, oD (.ptr 7 0)), (9, oD (.own 2006))] [(2, .box (Ag p0)), (7, .box [sC (v6.1.map An), sC (v6.2.1.map An), sC (v6.2.2.1.map Cb)]), (2006, .vec 1 (v6.2.2.2.2.map (EU Af)))]) (fun v7 => mk [(9, oD (.own 2007))] [(2007, .vec 1 (v7.map (EU Af)))]) (fun _ _ => rfl) ((Bt 9 2012 1 rfl rfl rfl).trans ((AQ 2003 _ _ rfl rfl).trans ((AQ 2004 _ _ rfl rfl).trans ((AQ 2005 _ _ rfl rfl).trans (sm [(2006, 2012)] _ _ rfl rfl))))) (fun j6 n6 v6 h => ?_) (fun v7 s h hs => ?_)
   ·unfold C9 at h
    refine wp rfl (qm rfl (AF A3 rfl (Fe rfl (Ad ?_))))
    refine A5 h (fun h => ?_) fun h => ?_
    ·refine Al (AM (wq rfl (qa rfl (Ad (wp rfl (qe rfl ?_))))))
     refine AH (L := Dh N p0 v6) h (fun v9 => mk [(1, pD (.sl (v6.2.2.2.1.map Af))), (2, oD (.ptr 2 0)), (7, oD (.ptr 7 0)), (9, oD (.own 2008)), (10, iD v9.1), (11, iD v9.2)] [(2, .box (Ag p0)), (7, .box [sC (v6.1.map An), sC (v6.2.1.map An), sC (v6.2.2.1.map Cb)]), (2008, .vec 1 (v6.2.2.2.2.map (EU Af)))]) (fun v10 => mk [(1, pD (.sl (v6.2.2.2.1.map Af))), (2, oD (.ptr 2 0)), (7, oD (.ptr 7 0)), (9, oD (.own 2009)), (10, iD v10)] [(2, .box (Ag p0)), (7, .box [sC (v6.1.map An), sC (v6.2.1.map An), sC (v6.2.2.1.map Cb)]), (2009, .vec 1 (v6.2.2.2.2.map (EU Af)))]) (fun _ _ => rfl) (sm [(2008, 2006)] _ _ rfl rfl) (fun j9 n9 v9 h => ?_) (fun v10 s h hs => ?_)
     ·unfold Dh at h
      refine AN ?_
      refine AL h (fun v11 => mk [(1, pD (.sl (v6.2.2.2.1.map Af))), (2, oD (.ptr 2 0)), (7, oD (.ptr 7 0)), (9, oD (.own 2010)), (10, iD v9.1), (11, iD v9.2), (38, bD v11)] [(2, .box (Ag p0)), (7, .box [sC (v6.1.map An), sC (v6.2.1.map An), sC (v6.2.2.1.map Cb)]), (2010, .vec 1 (v6.2.2.2.2.map (EU Af)))]) (fun j11 h => ?_) (fun v11 h => ?_)
      ·refine Aj Ay rfl (qw 2 rfl (AF A3 rfl (TL rfl (qm rfl ?_))))
       refine Dm 35 h rfl (fun h => ?_) fun h => ?_
       ·refine qm rfl (TL rfl (qp rfl (Ad ?_)))
        exact sn [(2010, 2008)] h
       ·refine qw 2 rfl (qp rfl (Ad ?_))
        exact sn [(2010, 2008)] h
      ·refine A5 h (fun h => ?_) fun h => ?_
       ·refine Al ?_
        refine AL h (fun v14 => mk [(1, pD (.sl (v6.2.2.2.1.map Af))), (2, oD (.ptr 2 0)), (7, oD (.ptr 7 0)), (9, oD (.own 2011)), (10, iD v14), (11, iD v9.2)] [(2, .box (Ag p0)), (7, .box [sC (v6.1.map An), sC (v6.2.1.map An), sC (v6.2.2.1.map Cb)]), (2011, .vec 1 (v6.2.2.2.2.map (EU Af)))]) (fun j14 h => ?_) (fun v14 h => ?_)
        ·refine AM (wq rfl (qL Ch B5 rfl (qL AW AE rfl (qw 2 rfl ?_))))
         refine E1 h fun c15 h => GA (.p rfl) rfl A3 B8 (EL (f := Af) (n := 3) (fun _ => rfl) _) (.none _) (.some _ _ _ _ c15.1) tv ⟨rfl, tv⟩ (by have := c15.2.1; (try simp only [List.length_map]); omega) (by have := c15.2.2; (try simp only [List.length_map]); omega) (Fv Af v6.2.2.2.1 _ _ ((v9.2).toNat - 0) rfl) ?_
         refine BH h fun v16 a16 h => As [] (KM N p0 ((Ac.mk v6.1 v6.2.1 v6.2.2.1)) (((v6.2.2.2.1.drop 0).take ((v9.2).toNat - 0))) v16 a16) Yl rfl (qm rfl (qx rfl (qx rfl (qa rfl (qa rfl (AI (by kernel_rfl) (wq rfl (qm rfl (Ad ?_)))))))))
         refine A5 h (fun h => ?_) fun h => ?_
         ·refine Aj Ay rfl (qm rfl (qe rfl ?_))
          exact sn [(2011, 2010)] h
         ·refine Al ?_
          exact sn [(2011, 2010)] h
        ·refine Aj Ay rfl (qm rfl (Be rfl (qe rfl ?_)))
         exact sn [(2008, 2011)] h
       ·refine AS ?_
        exact sn [(2009, 2010)] h
     ·refine Ae hs (wq rfl (qm rfl (Eu A3 B8 Iw rfl (qw 2 rfl ?_))))
      refine E1 h fun c18 h => GA (.p rfl) rfl A3 B8 (EL (f := Af) (n := 3) (fun _ => rfl) _) (.none _) (.some _ _ _ _ c18.1) tv ⟨rfl, tv⟩ (by have := c18.2.1; (try simp only [List.length_map]); omega) (by have := c18.2.2; (try simp only [List.length_map]); omega) (Fv Af v6.2.2.2.1 _ _ ((v10).toNat - 0) rfl) ?_
      refine E1 h fun c19 h => Hq (f := Af) A3 A3 B8 Ot Iw (fun _ => rfl) c19 rfl (DJ (AQ 57 _ _ rfl rfl) (Eu Hj NG Sa rfl ?_))
      refine E1 h fun c20 h => El (f := (EU Af)) Hj Hj NG VG Sa c20 rfl (qa rfl (Ad (wq rfl (qL Ch B5 rfl (qL AW AE rfl (qw 2 rfl ?_))))))
      refine E1 h fun c21 h => GA (.p rfl) rfl A3 B8 (EL (f := Af) (n := 3) (fun _ => rfl) _) (.none _) (.some _ _ _ _ c21.1) tv ⟨rfl, tv⟩ (by have := c21.2.1; (try simp only [List.length_map]); omega) (by have := c21.2.2; (try simp only [List.length_map]); omega) (Fv Af v6.2.2.2.1 _ _ ((v10).toNat - 0) rfl) ?_
      refine BH h fun v22 a22 h => As [] (Ki N p0 ((Ac.mk v6.1 v6.2.1 v6.2.2.1)) (((v6.2.2.2.1.drop 0).take ((v10).toNat - 0))) v22 a22) X3 rfl (qs AE rfl (AI (by kernel_rfl) (Aj Ay rfl (qw 2 rfl ?_))))
      refine E1 h fun c23 h => GA (.p rfl) rfl A3 B8 (EL (f := Af) (n := 3) (fun _ => rfl) _) (.some _ _ _ _ c23.1) (.none _) ⟨rfl, tv⟩ tv (by have := c23.2.1; (try simp only [List.length_map]); omega) (by have := c23.2.2; (try simp only [List.length_map]); omega) (Fv Af v6.2.2.2.1 _ _ (v6.2.2.2.1.length - (v10).toNat) (by rw [List.length_map])) ?_
      refine qa rfl (Ad ?_)
      exact sn [(2006, 59)] h
    ·refine AS ?_
     exact sn [(2007, 2006)] h
   ·refine Ae hs (wq rfl (qm rfl (qa rfl (qe rfl ?_))))
    obtain rfl := sj h
    refine Ae (sm [(1000, 2007)] [(4, oD (.own 1000)), (5, iD 0)] [(1000, .vec 1 (v7.map (EU Af)))] rfl rfl) (Aq ?_)
    exact ⟨⟨[_, _], ⟨.tmp _ _ rfl, tm⟩, rfl⟩, ⟨rfl, tv⟩⟩
theorem JB (N : Nat) (p0 : BV) (p1 : List Ab) (r : Bool) (h : Dr N p0 p1 = some r) : Ar Tryz.prog 5 [.e (.agg (Cz p0)), pD (.sl (p1.map Af))] [] (bD r) := by
 unfold Dr at h
 refine cw (n := 82) (rs := [.tmp 4]) Tryz.func5 fun w0 S0 => ?_
 refine wq rfl (qb rfl (qa rfl (Ad (wq rfl (qL XV YP rfl ?_)))))
 refine BH h fun v1 a1 h => As [2001, 2002, 2003, 2004] (LQ N p0 v1 a1) Y0 rfl (qm rfl (qx rfl (qx rfl (qz Qq rfl (qs B5 rfl (qa rfl (Ad (AN ?_))))))))
 refine AL h (fun v2 => mk [(1, pD (.sl (p1.map Af))), (5, oD (.ptr 5 0)), (29, bD v2)] [(5, .box [.own 2005, .own 2006, .own 2007, .own 2008]), (2005, .vec 1 (v1.1.fb.map An)), (2006, .vec 1 (v1.1.fi.map An)), (2007, .vec 1 (v1.1.fo.map An)), (2008, .vec 6 (v1.1.fd.map AT))]) (fun j2 h => ?_) (fun v2 h => ?_)
 ·refine Aj Ay rfl ?_
  refine BH h fun v3 a3 h => As [] (HT N v3 a3) YU rfl (BT rfl (qm rfl ?_))
  refine Dm 21 h rfl (fun h => ?_) fun h => ?_
  ·refine qw 2 rfl (qp rfl (qw 4 rfl (qp rfl (Ad ?_))))
   exact sn [(2005, 2001), (2006, 2002), (2007, 2003), (2008, 2004)] h
  ·refine qm rfl (BT rfl (qp rfl (qm rfl ?_)))
   refine Dm 25 h rfl (fun h => ?_) fun h => ?_
   ·refine qw 3 rfl (qp rfl (Ad ?_))
    exact sn [(2005, 2001), (2006, 2002), (2007, 2003), (2008, 2004)] h
   ·refine qm rfl (AF A3 rfl (Fe rfl (qp rfl (Ad ?_))))
    exact sn [(2005, 2001), (2006, 2002), (2007, 2003), (2008, 2004)] h
 ·refine A5 h (fun h => ?_) fun h => ?_
  ·refine wq rfl ?_
   refine BH h fun v7 a7 h => As [] (HT N v7 a7) YU rfl (qe rfl ?_)
   obtain rfl := sj h
   refine Ae (sm [] [(4, bD v7)] [] rfl rfl) (Aq ?_)
   exact ⟨⟨[_], tm, rfl⟩, tv⟩
  ·refine Al (wq rfl (qL Ch B5 rfl (qm rfl (DJ (AQ 2005 _ _ rfl rfl) (DJ (AQ 2006 _ _ rfl rfl) (DJ (AQ 2007 _ _ rfl rfl) (DJ (AQ 2008 _ _ rfl rfl) ?_)))))))
   refine BH h fun v8 a8 h => As [2009] (MX N v1.1 p1 v8 a8) WO rfl (qm rfl (qx rfl (qx rfl (qa rfl (qa rfl (Ad (wq rfl (qL Ch B5 rfl (qm rfl ?_)))))))))
   refine BH h fun v9 a9 h => As [2010] (LX N v1.1 p1 v9 a9) YK rfl (qm rfl (qx rfl (qx rfl (qa rfl (qa rfl (Ad (AN ?_)))))))
   refine AL h (fun v10 => mk [(1, pD (.sl (p1.map Af))), (5, oD (.ptr 5 0)), (7, oD (.own 2011)), (8, iD v8.2), (9, oD (.own 2012)), (10, iD v9.2), (55, bD v10)] [(5, .box (Ag v1.1)), (2011, .vec 1 (v8.1.map (EU Af))), (2012, .vec 1 (v9.1.map (EU Af)))]) (fun j10 h => ?_) (fun v10 h => ?_)
   ·refine Aj Ay rfl (qw 2 rfl (Bk rfl (qm rfl ?_)))
    refine Dm 46 h rfl (fun h => ?_) fun h => ?_
    ·refine qw 4 rfl (qp rfl (qw 3 rfl (qp rfl (Ad ?_))))
     exact sn [(2011, 2009), (2012, 2010)] h
    ·refine qw 2 rfl ?_
     refine BH h fun v12 a12 h => GD [] [2009, 2010] (GI N v8.1 v9.1 v12 a12) WA EJ rfl (BT rfl (qp rfl (qm rfl ?_)))
     refine Dm 52 h rfl (fun h => ?_) fun h => ?_
     ·refine qw 2 rfl (qp rfl (Ad ?_))
      exact sn [(2011, 2009), (2012, 2010)] h
     ·refine qm rfl (Bk rfl (qp rfl (Ad ?_)))
      exact sn [(2011, 2009), (2012, 2010)] h
   ·refine A5 h (fun h => ?_) fun h => ?_
    ·refine AL h (fun v15 => mk [(4, bD v15)] []) (fun j15 h => ?_) (fun v15 h => ?_)
     ·refine Aj Ay rfl (qw 2 rfl (Bp rfl (qm rfl ?_)))
      refine Dm 59 h rfl (fun h => ?_) fun h => ?_
      ·refine qw 2 rfl ?_
       refine BH h fun v17 a17 h => GD [] [2011, 2012] (GI N v8.1 v9.1 v17 a17) WA EJ rfl (qp rfl (qe rfl ?_))
       exact sn [] h
      ·refine qw 3 rfl (qp rfl (qe rfl ?_))
       exact sn [] h
     ·obtain rfl := sj h
      refine Ae (sm [] [(4, bD v15)] [] rfl rfl) (Aq ?_)
      exact ⟨⟨[_], tm, rfl⟩, tv⟩
    ·refine Al (wq rfl (qa rfl (Ad (wp rfl (qm rfl (Fr Hj rfl (qm rfl (Ad ?_))))))))
     refine AH (L := Cf N v8) h (fun v18 => mk [(1, pD (.sl (p1.map Af))), (5, oD (.ptr 5 0)), (7, oD (.own 2013)), (11, oD (.own 2014)), (64, oD (.own 2013)), (65, iD ((v8.1.length : Int))), (66, iD v18.2)] [(5, .box (Ag v1.1)), (2013, .vec 1 (v8.1.map (EU Af))), (2014, .vec 3 (v18.1.map Af))]) (fun v19 => mk [(1, pD (.sl (p1.map Af))), (5, oD (.ptr 5 0)), (7, oD (.own 2015)), (11, oD (.own 2016))] [(5, .box (Ag v1.1)), (2015, .vec 1 (v8.1.map (EU Af))), (2016, .vec 3 (v19.map Af))]) (fun _ _ => rfl) ((Bt 11 2017 3 rfl rfl rfl).trans (sm [(2013, 2011), (2014, 2017)] _ _ rfl rfl)) (fun j18 n18 v18 h => ?_) (fun v19 s h hs => ?_)
     ·unfold Cf at h
      refine wq rfl (AV rfl (Ad (AN ?_)))
      refine A5 h (fun h => ?_) fun h => ?_
      ·refine Al (AN (AM (wq rfl ?_)))
       refine BS h fun v21 a21 b21 h => qI Hj NG a21 (Ah b21) rfl (qj Q2 (Ah b21) rfl (qa rfl (Ad (Aj Ay rfl (qw 2 rfl ?_)))))
       refine E1 h fun c22 h => Hq (f := Af) A3 A3 B8 Ot Iw (fun _ => rfl) c22 rfl (qa rfl (Ad (Aj Ay rfl (Be rfl (qm rfl (Ad ?_))))))
       exact sn [(2014, 72)] h
      ·refine AS ?_
       exact sn [(2015, 2013), (2016, 2014)] h
     ·refine Ae hs ?_
      refine AL h (fun v23 => mk [(4, bD v23)] []) (fun j23 h => ?_) (fun v23 h => ?_)
      ·refine Aj Ay rfl (qw 2 rfl ?_)
       refine BH h fun v24 a24 h => GD [] [2016] (GH N v19 p1 v24 a24) VZ EJ rfl (qm rfl ?_)
       refine Dm 77 h rfl (fun h => ?_) fun h => ?_
       ·refine qL Ch B5 rfl (qm rfl ?_)
        refine BH h fun v26 a26 h => GD [] [2015] (Kt N v1.1 v8.1 v26 a26) Xv EJ rfl (qp rfl (qe rfl ?_))
        exact sn [] h
       ·refine qw 3 rfl (qp rfl (qe rfl ?_))
        exact sn [] h
      ·obtain rfl := sj h
       refine Ae (sm [] [(4, bD v23)] [] rfl rfl) (Aq ?_)
       exact ⟨⟨[_], tm, rfl⟩, tv⟩
end Go.Lift
