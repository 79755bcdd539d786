/- Lemmas for WavesBadCardSaid, which YtncnphcfgojgmaaGreatDoorFinV4 proves. -/
import Derived.Test.YtncnphcfgojgmaaGreatDoorCode2
namespace Go.Lift
open IntKind renaming wrap → wI
set_option maxRecDepth 10000
open Go.RowKit
open Go.Proofs
theorem Fu (N : Nat) (p0 : Ab) (r : Int) (h : BW N p0 = some r) : Aq Tryz.prog 46 [.e (.agg (Ah p0))] [] (iD r) := by
 unfold BW at h
 refine cw (n := 102) (rs := [.tmp 2]) Tryz.func46 fun w0 S0 => ?_
 refine wq rfl (qb rfl (qa rfl (Aa (AN ?_))))
 refine AK h (fun v1 => mk [(1, oD (.ptr 1 0)), (16, bD v1)] [(1, .box (Ah p0))]) (fun j1 h => ?_) (fun v1 h => ?_)
 ·refine Ag Ay rfl (qf Bg rfl (ql AW rfl (AB Au rfl (EN rfl (qm rfl ?_)))))
  refine Dr 11 h rfl (fun h => ?_) fun h => ?_
  ·refine qw 4 rfl (qp rfl (Aa ?_))
   exact sn [] h
  ·refine qf Ce rfl (ql GF rfl (AB DJ rfl (EN rfl (qp rfl (Aa ?_)))))
   exact sn [] h
 ·refine Be h (fun h => ?_) fun h => ?_
  ·refine wq rfl (qe rfl ?_)
   obtain rfl := sj h
   refine Ae (sm [] [(2, iD 3)] [] rfl rfl) (Ap ?_)
   exact ⟨⟨[_], tm, rfl⟩, tv⟩
  ·refine Al (AN ?_)
   refine AK h (fun v4 => mk [(1, oD (.ptr 1 0)), (32, bD v4)] [(1, .box (Ah p0))]) (fun j4 h => ?_) (fun v4 h => ?_)
   ·refine Ag Ay rfl (qf F1 rfl (ql AW rfl (AB Au rfl (qf Bg rfl (ql AW rfl (AB Au rfl (BF rfl (qm rfl ?_))))))))
    refine Dr 24 h rfl (fun h => ?_) fun h => ?_
    ·refine qw 7 rfl (qp rfl (Aa ?_))
     exact sn [] h
    ·refine qf Ia rfl (ql AW rfl (AB Au rfl (qf Bg rfl (ql AW rfl (AB Au rfl (BF rfl (qp rfl (Aa ?_))))))))
     exact sn [] h
   ·refine Be h (fun h => ?_) fun h => ?_
    ·refine wq rfl (qe rfl ?_)
     obtain rfl := sj h
     refine Ae (sm [] [(2, iD 6)] [] rfl rfl) (Ap ?_)
     exact ⟨⟨[_], tm, rfl⟩, tv⟩
    ·refine Al (wp rfl (qe rfl ?_))
     refine AH (L := A2 N p0) h (fun v7 => mk [(1, oD (.ptr 1 0)), (3, iD v7)] [(1, .box (Ah p0))]) (fun v8 => mk [(1, oD (.ptr 1 0))] [(1, .box (Ah p0))]) (fun _ _ => rfl) (sm [] _ _ rfl rfl) (fun j7 n7 v7 h => ?_) (fun v8 s h hs => ?_)
     ·unfold A2 at h
      refine wp rfl (qm rfl (qf Bg rfl (ql AW rfl (AB Au rfl (AT rfl (Aa ?_))))))
      refine Be h (fun h => ?_) fun h => ?_
      ·refine Al (AN (AM (wq rfl (qf Bg rfl (ql AW rfl (qm rfl ?_))))))
       refine BS h fun v10 a10 b10 h => qi Au Cz a10 (Af b10) rfl (qk BL rfl (qe rfl ?_))
       refine AK h (fun v11 => mk [(1, oD (.ptr 1 0)), (3, iD v7), (84, bD v11)] [(1, .box (Ah p0))]) (fun j11 h => ?_) (fun v11 h => ?_)
       ·refine Ag Ay rfl (qm rfl (AT rfl (qm rfl ?_)))
        refine Dr 47 h rfl (fun h => ?_) fun h => ?_
        ·refine qw 2 rfl (qp rfl (qw 7 rfl (qp rfl (qw 8 rfl (qp rfl (qw 7 rfl (qp rfl (qw 8 rfl (qp rfl (Aa ?_))))))))))
         exact sn [] h
        ·refine qm rfl (EN rfl (qp rfl (qm rfl ?_)))
         refine Dr 51 h rfl (fun h => ?_) fun h => ?_
         ·refine qw 6 rfl (qp rfl (qw 8 rfl (qp rfl (qw 7 rfl (qp rfl (qw 8 rfl (qp rfl (Aa ?_))))))))
          exact sn [] h
         ·refine qf F1 rfl (ql AW rfl (qm rfl ?_))
          refine BS h fun v14 a14 b14 h => qi Au Cz a14 (Af b14) rfl (qk BL rfl (AT rfl (qp rfl (qm rfl ?_))))
          refine Dr 59 h rfl (fun h => ?_) fun h => ?_
          ·refine qw 7 rfl (qp rfl (qw 7 rfl (qp rfl (qw 8 rfl (qp rfl (Aa ?_))))))
           exact sn [] h
          ·refine qf F1 rfl (ql AW rfl (qm rfl ?_))
           refine BS h fun v16 a16 b16 h => qi Au Cz a16 (Af b16) rfl (qk BL rfl (qm rfl (El rfl (qp rfl (qm rfl ?_)))))
           refine Dr 68 h rfl (fun h => ?_) fun h => ?_
           ·refine qw 6 rfl (qp rfl (qw 8 rfl (qp rfl (Aa ?_))))
            exact sn [] h
           ·refine qf Ia rfl (ql AW rfl (qm rfl ?_))
            refine BS h fun v18 a18 b18 h => qi Au Cz a18 (Af b18) rfl (qk BL rfl (AT rfl (qp rfl (qm rfl ?_))))
            refine Dr 76 h rfl (fun h => ?_) fun h => ?_
            ·refine qw 7 rfl (qp rfl (Aa ?_))
             exact sn [] h
            ·refine qf Ia rfl (ql AW rfl (qm rfl ?_))
             refine BS h fun v20 a20 b20 h => qi Au Cz a20 (Af b20) rfl (qk BL rfl (qm rfl (El rfl (qp rfl (Aa ?_)))))
             exact sn [] h
       ·refine Be h (fun h => ?_) fun h => ?_
        ·refine wq rfl (qe rfl ?_)
         obtain rfl := sj h
         refine Ae (sm [] [(2, iD 7)] [] rfl rfl) (Ap ?_)
         exact ⟨⟨[_], tm, rfl⟩, tv⟩
        ·refine Al (Ag Ay rfl (qm rfl (Bd rfl (qe rfl ?_))))
         exact sn [] h
      ·refine AS ?_
       exact sn [] h
     ·refine Ae hs (wp rfl (qe rfl ?_))
      refine AH (L := A0 N p0) h (fun v22 => mk [(1, oD (.ptr 1 0)), (5, iD v22)] [(1, .box (Ah p0))]) (fun v23 => mk [] []) (fun _ _ => rfl) (sm [] _ _ rfl rfl) (fun j22 n22 v22 h => ?_) (fun v23 s h hs => ?_)
      ·unfold A0 at h
       refine wp rfl (qm rfl (qf Ce rfl (ql GF rfl (AB DJ rfl (AT rfl (Aa ?_))))))
       refine Be h (fun h => ?_) fun h => ?_
       ·refine Al (AN (AM (wq rfl (qL CT Cy rfl (qf Ce rfl (ql GF rfl (qm rfl ?_)))))))
        refine BS h fun v25 a25 b25 h => qi DJ Du a25 (Af b25) rfl (qK GB Du rfl ?_)
        refine BT h fun v26 a26 h => Ar [] (JL N p0 v25 v26 a26) Xl rfl (qa rfl (AI (by kernel_rfl) (wq rfl (qm rfl (BF rfl (Aa ?_))))))
        refine Be h (fun h => ?_) fun h => ?_
        ·refine wq rfl (qm rfl (qe rfl ?_))
         obtain rfl := sj h
         refine Ae (sm [] [(2, iD v26)] [] rfl rfl) (Ap ?_)
         exact ⟨⟨[_], tm, rfl⟩, tv⟩
        ·refine Al (Ag Ay rfl (qm rfl (Bd rfl (qe rfl ?_))))
         exact sn [] h
       ·refine AS ?_
        exact sn [] h
      ·refine Ae hs (wq rfl (qe rfl ?_))
       obtain rfl := sj h
       refine Ae (sm [] [(2, iD 0)] [] rfl rfl) (Ap ?_)
       exact ⟨⟨[_], tm, rfl⟩, tv⟩
theorem JN (N : Nat) (p0 : Ab) (r : Ac × Int) (h : Fs N p0 = some r) : Aq Tryz.prog 24 [.e (.agg (Ah p0))] [(1, r.1.fd.map An), (1, r.1.fa.map An), (1, r.1.fc.map B3)] (.tup [.agg [.own 0, .own 1, .own 2], .one (iC r.2)]) := by
 unfold Fs at h
 refine cw (n := 68) (rs := [.cell 2 38, .tmp 3]) Tryz.func24 fun w0 S0 => ?_
 refine wq rfl (qb rfl (qz Cc rfl (qa rfl (Aa (wp rfl (qL CT Cy rfl ?_))))))
 refine BT h fun v1 a1 h => Ar [] (Fu N p0 v1 a1) Wi rfl (qa rfl (Aa (wq rfl (qm rfl (BF rfl (Aa ?_))))))
 refine Be h (fun h => ?_) fun h => ?_
 ·refine wq rfl (A8 Cc F3 rfl (qm rfl (qs AF rfl (qe rfl ?_))))
  obtain rfl := sj h
  refine Ae ((Ax 2 0 2001 1 _ rfl rfl rfl rfl).trans ((Ax 2 1 2002 1 _ rfl rfl rfl rfl).trans ((Ax 2 2 2003 1 _ rfl rfl rfl rfl).trans (sm [(1000, 2001), (1001, 2002), (1002, 2003)] [(2, oD (.ptr 2 0)), (3, iD v1)] [(2, .box [.own 1000, .own 1001, .own 1002]), (1000, .vec 1 ((([] : List Int)).map An)), (1001, .vec 1 ((([] : List Int)).map An)), (1002, .vec 1 ((([] : List Int)).map B3))] rfl rfl)))) (Ap ?_)
  exact ⟨⟨[_, _], ⟨.cellN _ _ _ _ _ _ _ rfl rfl A3 AF rfl rfl (GS rfl), tm⟩, rfl⟩, ⟨rfl, rfl, rfl, tv⟩⟩
 ·refine Al (wq rfl (qz Cc rfl (Aa (wp rfl (qe rfl ?_)))))
  refine AH (L := DY N p0) h (fun v3 => mk [(1, oD (.ptr 1 0)), (2, oD (.ptr 2 0)), (5, oD (.ptr 5 0)), (6, iD v3.2.2)] [(1, .box (Ah p0)), (2, .box [.pure (.nil0), .pure (.nil0), .pure (.nil0)]), (5, .box [.own 2004, .own 2005, .pure (.nil0)]), (2004, .vec 1 (v3.1.map An)), (2005, .vec 1 (v3.2.1.map An))]) (fun v4 => mk [(1, oD (.ptr 1 0)), (2, oD (.ptr 2 0)), (5, oD (.ptr 5 0))] [(1, .box (Ah p0)), (2, .box [.pure (.nil0), .pure (.nil0), .pure (.nil0)]), (5, .box [.own 2006, .own 2007, .pure (.nil0)]), (2006, .vec 1 (v4.1.map An)), (2007, .vec 1 (v4.2.map An))]) (fun _ _ => rfl) ((Ax 5 0 2008 1 _ rfl rfl rfl rfl).trans ((Ax 5 1 2009 1 _ rfl rfl rfl rfl).trans (sm [(2004, 2008), (2005, 2009)] _ _ rfl rfl))) (fun j3 n3 v3 h => ?_) (fun v4 s h hs => ?_)
  ·unfold DY at h
   refine wp rfl (qm rfl (qf Bg rfl (ql AW rfl (AB Au rfl (AT rfl (Aa ?_))))))
   refine Be h (fun h => ?_) fun h => ?_
   ·refine Al (AN (AM (wq rfl (qf Cf rfl (ql AW rfl (qf F1 rfl (ql AW rfl (qm rfl ?_))))))))
    refine BS h fun v6 a6 b6 h => qi Au Cz a6 (Af b6) rfl (qk BL rfl (D4 Au Cz I0 rfl ?_))
    refine Ex h fun c7 h => DC (f := An) Au Au Cz Ja I0 c7 rfl (qf Cf rfl (qs KD rfl (AI (by kernel_rfl) (Ag Ay rfl (qf Bf rfl (ql AW rfl (D4 Au Cz I0 rfl ?_)))))))
    refine Ex h fun c8 h => DC (f := An) Au Au Cz Ja I0 c8 rfl (qf Bf rfl (qs KD rfl (Aa (Ag Ay rfl (qm rfl (Bd rfl (qe rfl ?_)))))))
    exact sn [(2004, 30), (2005, 35)] h
   ·refine AS ?_
    exact sn [(2006, 2004), (2007, 2005)] h
  ·refine Ae hs (wp rfl (qe rfl ?_))
   refine AH (L := DT N p0) h (fun v9 => mk [(1, oD (.ptr 1 0)), (2, oD (.ptr 2 0)), (5, oD (.ptr 5 0)), (7, iD v9.2)] [(1, .box (Ah p0)), (2, .box [.pure (.nil0), .pure (.nil0), .pure (.nil0)]), (5, .box [.own 2010, .own 2011, .own 2012]), (2010, .vec 1 (v4.1.map An)), (2011, .vec 1 (v4.2.map An)), (2012, .vec 1 (v9.1.map B3))]) (fun v10 => mk [(2, oD (.ptr 2 0)), (5, oD (.ptr 5 0))] [(2, .box [.pure (.nil0), .pure (.nil0), .pure (.nil0)]), (5, .box [.own 2013, .own 2014, .own 2015]), (2013, .vec 1 (v4.1.map An)), (2014, .vec 1 (v4.2.map An)), (2015, .vec 1 (v10.map B3))]) (fun _ _ => rfl) ((Ax 5 2 2019 1 _ rfl rfl rfl rfl).trans (sm [(2010, 2006), (2011, 2007), (2012, 2019)] _ _ rfl rfl)) (fun j9 n9 v9 h => ?_) (fun v10 s h hs => ?_)
   ·unfold DT at h
    refine wp rfl (qm rfl (qf Ce rfl (ql GF rfl (AB DJ rfl (AT rfl (Aa ?_))))))
    refine Be h (fun h => ?_) fun h => ?_
    ·refine Al (AN (AM (wq rfl (qe rfl ?_))))
     refine AK h (fun v12 => mk [(1, oD (.ptr 1 0)), (2, oD (.ptr 2 0)), (5, oD (.ptr 5 0)), (7, iD v9.2), (8, pD (.val (.int .u8 v12)))] [(1, .box (Ah p0)), (2, .box [.pure (.nil0), .pure (.nil0), .pure (.nil0)]), (5, .box [.own 2016, .own 2017, .own 2018]), (2016, .vec 1 (v4.1.map An)), (2017, .vec 1 (v4.2.map An)), (2018, .vec 1 (v9.1.map B3))]) (fun j12 h => ?_) (fun v12 h => ?_)
     ·refine wq rfl (qf Ce rfl (ql GF rfl (qm rfl ?_)))
      refine BS h fun v13 a13 b13 h => qi DJ Du a13 (Af b13) rfl (qK GB Du rfl ?_)
      refine BT h fun v14 a14 h => Ar [] (Bz N v13 v14 a14) MS rfl (Aa ?_)
      refine Be h (fun h => ?_) fun h => ?_
      ·refine Ag Ay rfl (qf F1 rfl (ql AW rfl (qf Ce rfl (ql GF rfl (qm rfl ?_)))))
       refine BS h fun v16 a16 b16 h => qi DJ Du a16 (Af b16) rfl (qg Ci rfl (qk BL rfl ?_))
       refine BS h fun v17 a17 b17 h => qi Au Cz a17 (Af b17) rfl (qk BL rfl ?_)
       refine Ex h fun c18 h => HU rfl c18 (qa rfl (AI (by kernel_rfl) ?_))
       exact sn [(2016, 2010), (2017, 2011), (2018, 2012)] h
      ·refine Al ?_
       exact sn [(2016, 2010), (2017, 2011), (2018, 2012)] h
     ·refine Ag Ay rfl (qf BZ rfl (ql F5 rfl (qm rfl (D4 Cv EP Mn rfl ?_))))
      refine Ex h fun c19 h => DC (f := B3) Cv Cv EP Nj Mn c19 rfl (qf BZ rfl (qs Wt rfl (Aa (Ag Ay rfl (qm rfl (Bd rfl (qe rfl ?_)))))))
      exact sn [(2010, 2016), (2011, 2017), (2012, 65)] h
    ·refine AS ?_
     exact sn [(2013, 2010), (2014, 2011), (2015, 2012)] h
   ·refine Ae hs (wq rfl (qL A3 AF rfl (qs AF rfl (qe rfl ?_))))
    obtain rfl := sj h
    refine Ae (sm [(1000, 2013), (1001, 2014), (1002, 2015)] [(2, oD (.ptr 2 0)), (3, iD 0)] [(2, .box [.own 1000, .own 1001, .own 1002]), (1000, .vec 1 (v4.1.map An)), (1001, .vec 1 (v4.2.map An)), (1002, .vec 1 (v10.map B3))] rfl rfl) (Ap ?_)
    exact ⟨⟨[_, _], ⟨.cellN _ _ _ _ _ _ _ rfl rfl A3 AF rfl rfl (GS rfl), tm⟩, rfl⟩, ⟨rfl, rfl, rfl, tv⟩⟩
theorem JT (N : Nat) (p0 : Ab) (p1 : List (List Ad)) (r : (List Ac) × Int) (h : GG N p0 p1 = some r) : Aq Tryz.prog 25 [.e (.agg (Ah p0)), pD (.sl (p1.map (Fg Ai)))] [(3, r.1.map Cj)] (.tup [.one (.own 0), .one (iC r.2)]) := by
 unfold GG at h
 refine cw (n := 61) (rs := [.tmp 4, .tmp 5]) Tryz.func25 fun w0 S0 => ?_
 refine wq rfl (qb rfl (qa rfl (qa rfl (Aa (wp rfl (qL CT Cy rfl ?_))))))
 refine BT h fun v1 a1 h => Ar [] (Fv N p0 v1 a1) U3 rfl (qa rfl (Aa (wq rfl (qm rfl (BF rfl (Aa ?_))))))
 refine Be h (fun h => ?_) fun h => ?_
 ·refine wq rfl (qm rfl (qa rfl (qe rfl ?_)))
  obtain rfl := sj h
  refine Ae ((B2 4 2001 3 rfl rfl rfl).trans (sm [(1000, 2001)] [(4, oD (.own 1000)), (5, iD v1)] [(1000, .vec 3 ((([] : List Ac)).map Cj))] rfl rfl)) (Ap ?_)
  exact ⟨⟨[_, _], ⟨.tmp _ _ rfl, tm⟩, rfl⟩, ⟨rfl, tv⟩⟩
 ·refine Al (wq rfl (qL CT Cy rfl ?_))
  refine BT h fun v3 a3 h => Ar [2002, 2003, 2004] (I8 N p0 v3 a3) Vr rfl (qm rfl (qx rfl (qx rfl (qz Cc rfl (qs AF rfl (qa rfl (Aa (wp rfl (qm rfl (BF rfl (Aa ?_)))))))))))
  refine Be h (fun h => ?_) fun h => ?_
  ·refine wq rfl (qm rfl (qa rfl (qe rfl ?_)))
   obtain rfl := sj h
   refine Ae ((B2 4 2005 3 rfl rfl rfl).trans (sm [(1000, 2005)] [(4, oD (.own 1000)), (5, iD v3.2)] [(1000, .vec 3 ((([] : List Ac)).map Cj))] rfl rfl)) (Ap ?_)
   exact ⟨⟨[_, _], ⟨.tmp _ _ rfl, tm⟩, rfl⟩, ⟨rfl, tv⟩⟩
  ·refine Al (wq rfl (qL A3 AF rfl (C6 (AU 2002 _ _ rfl rfl) (C6 (AU 2003 _ _ rfl rfl) (C6 (AU 2004 _ _ rfl rfl) (D4 GR AF Cc rfl (qa rfl (Aa (wp rfl (qm rfl (AB Ix rfl (qm rfl (Aa ?_)))))))))))))
   refine AH (L := Fc N p0 p1) h (fun v5 => mk [(2, oD (.ptr 2 0)), (7, oD (.ptr 7 0)), (9, oD (.own 2006)), (29, pD (.sl (p1.map (Fg Ai)))), (30, iD ((p1.length : Int))), (31, iD v5.2.2)] [(2, .box (Ah p0)), (7, .box (Az v5.1)), (2006, .vec 3 (v5.2.1.map Cj))]) (fun v6 => mk [(9, oD (.own 2007))] [(2007, .vec 3 (v6.map Cj))]) (fun _ _ => rfl) (sm [(2006, 28)] _ _ rfl rfl) (fun j5 n5 v5 h => ?_) (fun v6 s h hs => ?_)
   ·unfold Fc at h
    refine wq rfl (AT rfl (Aa (AN ?_)))
    refine Be h (fun h => ?_) fun h => ?_
    ·refine Al (AN (AM (wq rfl ?_)))
     refine BS h fun v8 a8 b8 h => qi Ix OQ a8 (Af b8) rfl (qk Ro rfl (qa rfl (Aa (wp rfl (qL CT Cy rfl (qL A3 AF rfl (qm rfl ?_)))))))
     refine BT h fun v9 a9 h => Ar [] (ID N p0 v5.1 v8 v9 a9) Vg rfl (qm rfl (qx rfl (qx rfl (qa rfl (qe rfl ?_)))))
     refine AK h (fun v10 => mk [(2, oD (.ptr 2 0)), (7, oD (.ptr 7 0)), (9, oD (.own 2008)), (11, pD (.sl (v8.map Ai))), (29, pD (.sl (p1.map (Fg Ai)))), (30, iD ((p1.length : Int))), (31, iD v5.2.2), (47, bD v10)] [(2, .box (Ah p0)), (7, .box (Az v5.1)), (2008, .vec 3 (v5.2.1.map Cj))]) (fun j10 h => ?_) (fun v10 h => ?_)
     ·refine Ag Ay rfl (qm rfl (BF rfl (qm rfl ?_)))
      refine Dr 44 h rfl (fun h => ?_) fun h => ?_
      ·refine qw 2 rfl (qp rfl (Aa ?_))
       exact sn [(2008, 2006)] h
      ·refine qm rfl (BX rfl (qp rfl (Aa ?_)))
       exact sn [(2008, 2006)] h
     ·refine Be h (fun h => ?_) fun h => ?_
      ·refine wq rfl (qa rfl (qe rfl ?_))
       obtain rfl := sj h
       refine Ae ((B2 4 2009 3 rfl rfl rfl).trans (sm [(1000, 2009)] [(4, oD (.own 1000)), (5, iD 13)] [(1000, .vec 3 ((([] : List Ac)).map Cj))] rfl rfl)) (Ap ?_)
       exact ⟨⟨[_, _], ⟨.tmp _ _ rfl, tm⟩, rfl⟩, ⟨rfl, tv⟩⟩
      ·refine Al (wq rfl (qL CT Cy rfl (qL A3 AF rfl (qm rfl ?_))))
       refine BT h fun v13 a13 h => Ar [] (FY N p0 v5.1 v8 v13 a13) Ts rfl (qm rfl (qx rfl (qx rfl (qs AF rfl (Aa (Ag Ay rfl (qm rfl (qL A3 AF rfl (D4 GR AF Cc rfl ?_)))))))))
       refine Ex h fun c14 h => DC (f := Cj) GR GR AF SC Cc c14 rfl (qa rfl (Aa (Ag Ay rfl (Bd rfl (qm rfl (Aa ?_))))))
       exact sn [(2006, 58)] h
    ·refine AS ?_
     exact sn [(2007, 2006)] h
   ·refine Ae hs (wq rfl (qm rfl (qa rfl (qe rfl ?_))))
    obtain rfl := sj h
    refine Ae (sm [(1000, 2007)] [(4, oD (.own 1000)), (5, iD 0)] [(1000, .vec 3 (v6.map Cj))] rfl rfl) (Ap ?_)
    exact ⟨⟨[_, _], ⟨.tmp _ _ rfl, tm⟩, rfl⟩, ⟨rfl, tv⟩⟩
theorem F2 (N : Nat) (p0 : List Ad) (p1 : List Ad) (r : Bool) (h : CL N p0 p1 = some r) : Aq Tryz.prog 14 [pD (.sl (p0.map Ai)), pD (.sl (p1.map Ai))] [] (bD r) := by
 unfold CL at h
 refine cw (n := 26) (rs := [.tmp 4]) Tryz.func14 fun w0 S0 => ?_
 refine wq rfl (qa rfl (Aa (wp rfl (qm rfl (AB Bo rfl (qm rfl (AB Bo rfl (BF rfl (Aa ?_)))))))))
 refine Be h (fun h => ?_) fun h => ?_
 ·refine wq rfl (qe rfl ?_)
  obtain rfl := sj h
  refine Ae (sm [] [(4, bD false)] [] rfl rfl) (Ap ?_)
  exact ⟨⟨[_], tm, rfl⟩, tv⟩
 ·refine Al (wp rfl (qe rfl ?_))
  refine AH (L := Ca N p0 p1) h (fun v2 => mk [(0, pD (.sl (p0.map Ai))), (1, pD (.sl (p1.map Ai))), (5, iD v2)] []) (fun v3 => mk [] []) (fun _ _ => rfl) (sm [] _ _ rfl rfl) (fun j2 n2 v2 h => ?_) (fun v3 s h hs => ?_)
  ·unfold Ca at h
   refine wp rfl (qw 2 rfl (AB Bo rfl (AT rfl (Aa ?_))))
   refine Be h (fun h => ?_) fun h => ?_
   ·refine Al (AN (AM (wq rfl (qw 2 rfl ?_))))
    refine BS h fun v5 a5 b5 h => qi Bo Ch a5 (Af b5) rfl (qK F7 Ch rfl (qw 2 rfl ?_))
    refine BS h fun v6 a6 b6 h => qi Bo Ch a6 (Af b6) rfl (qK F7 Ch rfl ?_)
    refine Ws [.int .i64 v5.ff, .int .i64 v5.fh, .int .i64 v5.fi] [.int .i64 v6.ff, .int .i64 v6.fh, .int .i64 v6.fi] (.p rfl) rfl rfl R8 rfl ?_
    refine AI (by kernel_rfl) ?_
    refine Be h (fun h => ?_) fun h => ?_
    ·refine wq rfl (qe rfl ?_)
     obtain rfl := sj h
     refine Ae (sm [] [(4, bD false)] [] rfl rfl) (Ap ?_)
     exact ⟨⟨[_], tm, rfl⟩, tv⟩
    ·refine Al (Ag Ay rfl (qm rfl (Bd rfl (qe rfl ?_))))
     exact sn [] h
   ·refine AS ?_
    exact sn [] h
  ·refine Ae hs (wq rfl (qe rfl ?_))
   obtain rfl := sj h
   refine Ae (sm [] [(4, bD true)] [] rfl rfl) (Ap ?_)
   exact ⟨⟨[_], tm, rfl⟩, tv⟩
theorem J6 (N : Nat) (p0 : List (List Ad)) (p1 : List (List Ad)) (r : Bool) (h : FD N p0 p1 = some r) : Aq Tryz.prog 17 [pD (.sl (p0.map (Fg Ai))), pD (.sl (p1.map (Fg Ai)))] [] (bD r) := by
 unfold FD at h
 refine cw (n := 27) (rs := [.tmp 4]) Tryz.func17 fun w0 S0 => ?_
 refine wq rfl (qa rfl (Aa (wp rfl (qm rfl (AB Ix rfl (qm rfl (AB Ix rfl (BF rfl (Aa ?_)))))))))
 refine Be h (fun h => ?_) fun h => ?_
 ·refine wq rfl (qe rfl ?_)
  obtain rfl := sj h
  refine Ae (sm [] [(4, bD false)] [] rfl rfl) (Ap ?_)
  exact ⟨⟨[_], tm, rfl⟩, tv⟩
 ·refine Al (wp rfl (qe rfl ?_))
  refine AH (L := D6 N p0 p1) h (fun v2 => mk [(0, pD (.sl (p0.map (Fg Ai)))), (1, pD (.sl (p1.map (Fg Ai)))), (5, iD v2)] []) (fun v3 => mk [] []) (fun _ _ => rfl) (sm [] _ _ rfl rfl) (fun j2 n2 v2 h => ?_) (fun v3 s h hs => ?_)
  ·unfold D6 at h
   refine wp rfl (qw 2 rfl (AB Ix rfl (AT rfl (Aa ?_))))
   refine Be h (fun h => ?_) fun h => ?_
   ·refine Al (AN (AM (wq rfl (qw 2 rfl ?_))))
    refine BS h fun v5 a5 b5 h => qi Ix OQ a5 (Af b5) rfl (qk Ro rfl (qw 2 rfl ?_))
    refine BS h fun v6 a6 b6 h => qi Ix OQ a6 (Af b6) rfl (qk Ro rfl ?_)
    refine BT h fun v7 a7 h => Ar [] (F2 N v5 v6 v7 a7) Vf rfl (BX rfl (AI (by kernel_rfl) ?_))
    refine Be h (fun h => ?_) fun h => ?_
    ·refine wq rfl (qe rfl ?_)
     obtain rfl := sj h
     refine Ae (sm [] [(4, bD false)] [] rfl rfl) (Ap ?_)
     exact ⟨⟨[_], tm, rfl⟩, tv⟩
    ·refine Al (Ag Ay rfl (qm rfl (Bd rfl (qe rfl ?_))))
     exact sn [] h
   ·refine AS ?_
    exact sn [] h
  ·refine Ae hs (wq rfl (qe rfl ?_))
   obtain rfl := sj h
   refine Ae (sm [] [(4, bD true)] [] rfl rfl) (Ap ?_)
   exact ⟨⟨[_], tm, rfl⟩, tv⟩
theorem M0 (N : Nat) (p0 : Ab) (p1 : List (List Ad)) (r : Bool) (h : HV N p0 p1 = some r) : Aq Tryz.prog 18 [.e (.agg (Ah p0)), pD (.sl (p1.map (Fg Ai)))] [] (bD r) := by
 unfold HV at h
 refine cw (n := 40) (rs := [.tmp 4]) Tryz.func18 fun w0 S0 => ?_
 refine wq rfl (qb rfl (qa rfl (Aa (wq rfl (qL CT Cy rfl (qm rfl ?_))))))
 refine BT h fun v1 a1 h => Ar [2001] (JT N p0 p1 v1 a1) Wa rfl (qm rfl (qx rfl (qx rfl (qa rfl (qa rfl (Aa (wp rfl (qm rfl (BF rfl (Aa ?_))))))))))
 refine Be h (fun h => ?_) fun h => ?_
 ·refine wq rfl (qe rfl ?_)
  obtain rfl := sj h
  refine Ae (sm [] [(4, bD false)] [] rfl rfl) (Ap ?_)
  exact ⟨⟨[_], tm, rfl⟩, tv⟩
 ·refine Al (wq rfl (qL CT Cy rfl (qm rfl ?_)))
  refine BS h fun v3 a3 b3 h => qI GR AF a3 (Af b3) rfl (qJ A3 AF (Af b3) rfl ?_)
  refine BT h fun v4 a4 h => Ar [] (IK N p0 v3 v4 a4) Vp rfl (qm rfl (qx rfl (qx rfl (qa rfl (qa rfl (AI (by kernel_rfl) ?_))))))
  refine AK h (fun v5 => mk [(4, bD v5)] []) (fun j5 h => ?_) (fun v5 h => ?_)
  ·refine Ag Ay rfl (qm rfl (Bs rfl (qm rfl ?_)))
   refine Dr 27 h rfl (fun h => ?_) fun h => ?_
   ·refine qm rfl (qp rfl (qm rfl ?_))
    refine Dr 30 h rfl (fun h => ?_) fun h => ?_
    ·refine qL CT Cy rfl (qw 2 rfl (FF GR rfl (NQ rfl ?_)))
     refine BS h fun v8 a8 b8 h => qI GR AF a8 (Af b8) rfl (qJ A3 AF (Af b8) rfl ?_)
     refine BT h fun v9 a9 h => Ar [] (L6 N p0 v8 v9 a9) VI rfl (qp rfl (qa rfl (AI (by kernel_rfl) ?_)))
     exact sn [] h
    ·refine qw 8 rfl (qp rfl (qa rfl (AI (by kernel_rfl) ?_)))
     exact sn [] h
   ·refine qn rfl (qp rfl (qw 9 rfl (qp rfl (qa rfl (AI (by kernel_rfl) ?_)))))
    exact sn [] h
  ·obtain rfl := sj h
   refine Ae (sm [] [(4, bD v5)] [] rfl rfl) (Ap ?_)
   exact ⟨⟨[_], tm, rfl⟩, tv⟩
theorem L2 (N : Nat) (p0 : List (List Ad)) (r : Int) (h : Hk N p0 = some r) : Aq Tryz.prog 26 [pD (.sl (p0.map (Fg Ai)))] [] (iD r) := by
 unfold Hk at h
 refine cw (n := 27) (rs := [.tmp 2]) Tryz.func26 fun w0 S0 => ?_
 refine wq rfl (qa rfl (Aa (wq rfl (qa rfl (Aa (wp rfl (qm rfl (AB Ix rfl (qm rfl (Aa ?_))))))))))
 refine AH (L := EX N p0) h (fun v1 => mk [(3, iD v1.1), (7, pD (.sl (p0.map (Fg Ai)))), (8, iD ((p0.length : Int))), (9, iD v1.2)] []) (fun v2 => mk [(3, iD v2)] []) (fun _ _ => rfl) (sm [] _ _ rfl rfl) (fun j1 n1 v1 h => ?_) (fun v2 s h hs => ?_)
 ·unfold EX at h
  refine wq rfl (AT rfl (Aa (AN ?_)))
  refine Be h (fun h => ?_) fun h => ?_
  ·refine Al (AN (AM (wq rfl ?_)))
   refine BS h fun v4 a4 b4 h => qi Ix OQ a4 (Af b4) rfl (qk Ro rfl (qa rfl (Aa (wq rfl (qm rfl (AB Bo rfl (qm rfl (Aa ?_))))))))
   refine AH (L := ET N v4) h (fun v5 => mk [(3, iD v5.1), (7, pD (.sl (p0.map (Fg Ai)))), (8, iD ((p0.length : Int))), (9, iD v1.2), (14, iD ((v4.length : Int))), (15, iD v5.2)] []) (fun v6 => mk [(3, iD v6), (7, pD (.sl (p0.map (Fg Ai)))), (8, iD ((p0.length : Int))), (9, iD v1.2)] []) (fun _ _ => rfl) (sm [] _ _ rfl rfl) (fun j5 n5 v5 h => ?_) (fun v6 s h hs => ?_)
   ·unfold ET at h
    refine wq rfl (AT rfl (Aa (AN ?_)))
    refine Be h (fun h => ?_) fun h => ?_
    ·refine Al (AN (AM (wq rfl (qm rfl (qa rfl (Aa (Ag Ay rfl (qw 2 rfl (Bd rfl ?_)))))))))
     refine QF (.p rfl) rfl rfl ?_
     refine Km rfl ?_
     refine QF (.p rfl) rfl rfl ?_
     refine qa rfl (Aa (Ag Ay rfl (Bd rfl (qm rfl (Aa ?_)))))
     exact sn [] h
    ·refine AS ?_
     exact sn [] h
   ·refine Ae hs (Ag Ay rfl (Bd rfl (qm rfl (Aa ?_))))
    exact sn [] h
  ·refine AS ?_
   exact sn [] h
 ·refine Ae hs (wq rfl (qm rfl (qe rfl ?_)))
  obtain rfl := sj h
  refine Ae (sm [] [(2, iD v2)] [] rfl rfl) (Ap ?_)
  exact ⟨⟨[_], tm, rfl⟩, tv⟩
theorem Ht (N : Nat) (r : Bool) (h : DR N = some r) : Aq Tryz.prog 8 [] [] (bD r) := by
 unfold DR at h
 refine cw (n := 107) (rs := [.tmp 0]) Tryz.func8 fun w0 S0 => ?_
 refine wq rfl (qa rfl (Aa (wq rfl ?_)))
 refine BT h fun v1 a1 h => Ar [2001, 2002, 2003, 2004] (I4 N v1 a1) Xa rfl (qm rfl (qx rfl (qx rfl (qz Pn rfl (qs Cy rfl (qa rfl (Aa (wq rfl (qL CT Cy rfl (qm rfl (C6 (AU 2001 _ _ rfl rfl) (C6 (AU 2002 _ _ rfl rfl) (C6 (AU 2003 _ _ rfl rfl) (C6 (AU 2004 _ _ rfl rfl) ?_))))))))))))))
 refine BT h fun v2 a2 h => Ar [2005] (P4 N v1.1 v1.2 v2 a2) Xs rfl (qm rfl (qx rfl (qx rfl (qa rfl (qa rfl (Aa (wq rfl (qL CT Cy rfl ?_))))))))
 refine BT h fun v3 a3 h => Ar [2006, 2007, 2008] (JN N v1.1 v3 a3) W7 rfl (qm rfl (qx rfl (qx rfl (qz Cc rfl (qs AF rfl (qa rfl (Aa (wq rfl (qL CT Cy rfl (qL A3 AF rfl (qm rfl (C6 (AU 2006 _ _ rfl rfl) (C6 (AU 2007 _ _ rfl rfl) (C6 (AU 2008 _ _ rfl rfl) ?_))))))))))))))
 refine BT h fun v4 a4 h => Ar [] (Jt N v1.1 v3.1 v1.2 v4 a4) U7 rfl (qm rfl (qx rfl (qx rfl (qa rfl (qa rfl (Aa (wq rfl (qL CT Cy rfl (qL A3 AF rfl (qm rfl ?_))))))))))
 refine Ex h fun c5 h => Ic (.p rfl) rfl Bo Ch (FP (f := Ai) (n := 3) (fun _ => rfl) _) (.none _) (.some _ _ _ _ c5.1) tv ⟨rfl, tv⟩ (by have := c5.2.1; (try simp only [List.length_map]); omega) (by have := c5.2.2; (try simp only [List.length_map]); omega) (Hf Ai v1.2 _ _ ((2 : Int).toNat - 0) rfl) ?_
 refine BT h fun v6 a6 h => Ar [] (ID N v1.1 v3.1 (((v1.2.drop 0).take ((2 : Int).toNat - 0))) v6 a6) Vg rfl (qm rfl (qx rfl (qx rfl (qa rfl (qa rfl (AI (by kernel_rfl) (wq rfl (qL CT Cy rfl (qm rfl (C6 (AU 2005 _ _ rfl rfl) ?_))))))))))
 refine BT h fun v7 a7 h => Ar [2009] (JT N v1.1 v2.1 v7 a7) Wa rfl (qm rfl (qx rfl (qx rfl (qa rfl (qe rfl ?_)))))
 refine AK h (fun v8 => mk [(0, bD v8)] []) (fun j8 h => ?_) (fun v8 h => ?_)
 ·refine Ag Ay rfl (qm rfl (Bs rfl (qm rfl ?_)))
  refine Dr 51 h rfl (fun h => ?_) fun h => ?_
  ·refine qw 2 rfl ?_
   refine Ex h fun c10 h => Ic (.g rfl rfl) rfl Bo Ch (FP (f := Ai) (n := 3) (fun _ => rfl) _) (.none _) (.some _ _ _ _ c10.1) tv ⟨rfl, tv⟩ (by have := c10.2.1; (try simp only [List.length_map]); omega) (by have := c10.2.2; (try simp only [List.length_map]); omega) (Hf Ai v1.2 _ _ ((2 : Int).toNat - 0) rfl) ?_
   refine qm rfl ?_
   refine Ex h fun c11 h => Ic (.g rfl rfl) rfl Bo Ch (FP (f := Ai) (n := 3) (fun _ => rfl) _) (.some _ _ _ _ c11.1) (.none _) ⟨rfl, tv⟩ tv (by have := c11.2.1; (try simp only [List.length_map]); omega) (by have := c11.2.2; (try simp only [List.length_map]); omega) (Hf Ai v1.2 _ _ (v1.2.length - (2 : Int).toNat) (by rw [List.length_map])) ?_
   refine D4 Ix OQ TJ rfl ?_
   refine BT h fun v12 a12 h => G6 [] [57] (J6 N v2.1 (([((v1.2.drop 0).take ((2 : Int).toNat - 0)), ((v1.2.drop (2 : Int).toNat).take (v1.2.length - (2 : Int).toNat))] : List (List Ad))) v12 a12) XG E4 rfl (qp rfl (qm rfl ?_))
   refine Dr 60 h rfl (fun h => ?_) fun h => ?_
   ·refine qm rfl (Bs rfl (qp rfl (qm rfl ?_)))
    refine Dr 64 h rfl (fun h => ?_) fun h => ?_
    ·refine qw 2 rfl ?_
     refine BS h fun v15 a15 b15 h => qi Bo Ch a15 (Af b15) rfl (qK F7 Ch rfl (qm rfl ?_))
     refine BS h fun v16 a16 b16 h => qi Bo Ch a16 (Af b16) rfl (qK F7 Ch rfl (qm rfl ?_))
     refine BS h fun v17 a17 b17 h => qi Bo Ch a17 (Af b17) rfl (qK F7 Ch rfl (qm rfl ?_))
     refine BS h fun v18 a18 b18 h => qi Bo Ch a18 (Af b18) rfl (qK F7 Ch rfl (D4 Bo Ch IS rfl ?_))
     refine BT h fun v19 a19 h => G6 [] [78] (F2 N v4.1 (([v15, v16, v17, v18] : List Ad)) v19 a19) Vf E4 rfl (qp rfl (qm rfl ?_))
     refine Dr 81 h rfl (fun h => ?_) fun h => ?_
     ·refine qm rfl (qp rfl (qm rfl ?_))
      refine Dr 84 h rfl (fun h => ?_) fun h => ?_
      ·refine qm rfl (Bs rfl (qp rfl (qm rfl ?_)))
       refine Dr 88 h rfl (fun h => ?_) fun h => ?_
       ·refine qm rfl (Bs rfl (qp rfl (qm rfl ?_)))
        refine Dr 92 h rfl (fun h => ?_) fun h => ?_
        ·refine qm rfl (FF GR rfl (Bs rfl (qp rfl (qm rfl ?_))))
         refine Dr 97 h rfl (fun h => ?_) fun h => ?_
         ·refine qL CT Cy rfl (qm rfl ?_)
          refine BT h fun v25 a25 h => Ar [] (M0 N v1.1 v2.1 v25 a25) Xi rfl (qp rfl (qm rfl ?_))
          refine Dr 102 h rfl (fun h => ?_) fun h => ?_
          ·refine qm rfl ?_
           refine BT h fun v27 a27 h => Ar [] (L2 N v2.1 v27 a27) WG rfl (Bs rfl (qp rfl (qa rfl (AI (by kernel_rfl) ?_))))
           exact sn [] h
          ·refine qw 3 rfl (qp rfl (qa rfl (AI (by kernel_rfl) ?_)))
           exact sn [] h
         ·refine qw 3 rfl (qp rfl (qw 4 rfl (qp rfl (qa rfl (AI (by kernel_rfl) ?_)))))
          exact sn [] h
        ·refine qw 3 rfl (qp rfl (qw 4 rfl (qp rfl (qw 4 rfl (qp rfl (qa rfl (AI (by kernel_rfl) ?_)))))))
         exact sn [] h
       ·refine qw 2 rfl (qp rfl (qw 4 rfl (qp rfl (qw 4 rfl (qp rfl (qw 4 rfl (qp rfl (qa rfl (AI (by kernel_rfl) ?_)))))))))
        exact sn [] h
      ·refine qw 2 rfl (qp rfl (qw 3 rfl (qp rfl (qw 4 rfl (qp rfl (qw 4 rfl (qp rfl (qw 4 rfl (qp rfl (qa rfl (AI (by kernel_rfl) ?_)))))))))))
       exact sn [] h
     ·refine qn rfl (qp rfl (qw 3 rfl (qp rfl (qw 3 rfl (qp rfl (qw 4 rfl (qp rfl (qw 4 rfl (qp rfl (qw 4 rfl (qp rfl (qa rfl (AI (by kernel_rfl) ?_)))))))))))))
      exact sn [] h
    ·refine qw 15 rfl (qp rfl (qw 2 rfl (qp rfl (qw 3 rfl (qp rfl (qw 3 rfl (qp rfl (qw 4 rfl (qp rfl (qw 4 rfl (qp rfl (qw 3 rfl ?_))))))))))))
     refine qn rfl (qp rfl (qa rfl (AI (by kernel_rfl) ?_)))
     exact sn [] h
   ·refine qw 2 rfl (qp rfl (qw 16 rfl (qp rfl (qw 2 rfl (qp rfl (qw 3 rfl (qp rfl (qw 3 rfl (qp rfl (qw 4 rfl (qp rfl (qw 4 rfl ?_))))))))))))
    refine qp rfl (qw 4 rfl (qp rfl (qa rfl (AI (by kernel_rfl) ?_))))
    exact sn [] h
  ·refine qw 7 rfl (qp rfl (qw 3 rfl (qp rfl (qw 16 rfl (qp rfl (qw 2 rfl (qp rfl (qw 3 rfl (qp rfl (qw 3 rfl (qp rfl ?_)))))))))))
   refine qw 4 rfl (qp rfl (qw 4 rfl (qp rfl (qw 4 rfl (qp rfl (qa rfl (AI (by kernel_rfl) ?_)))))))
   exact sn [] h
 ·obtain rfl := sj h
  refine Ae (sm [] [(0, bD v8)] [] rfl rfl) (Ap ?_)
  exact ⟨⟨[_], tm, rfl⟩, tv⟩
theorem F9 (N : Nat) (p0 : List Int) (p1 : Int) (r : Int) (h : CH N p0 p1 = some r) : Aq Tryz.prog 27 [pD (.sl (p0.map B3)), iD p1] [] (iD r) := by
 unfold CH at h
 refine cw (n := 14) (rs := [.tmp 4]) Tryz.func27 fun w0 S0 => ?_
 refine wq rfl (qa rfl (Aa (wp rfl (qw 2 rfl (AB ML rfl (AT rfl (Aa ?_)))))))
 refine Be h (fun h => ?_) fun h => ?_
 ·refine wq rfl (qw 2 rfl ?_)
  refine BS h fun v2 a2 b2 h => qi ML XK a2 (Af b2) rfl (qk Vy rfl (Iu Vh Tr rfl (qe rfl ?_)))
  obtain rfl := sj h
  refine Ae (sm [] [(4, iD ((wI .i64 v2)))] [] rfl rfl) (Ap ?_)
  exact ⟨⟨[_], tm, rfl⟩, tv⟩
 ·refine Al (wq rfl (qe rfl ?_))
  obtain rfl := sj h
  refine Ae (sm [] [(4, iD 0)] [] rfl rfl) (Ap ?_)
  exact ⟨⟨[_], tm, rfl⟩, tv⟩
theorem CR (N : Nat) (p0 : Ac) (p1 : Int) (r : Int) (h : Bl N p0 p1 = some r) : Aq Tryz.prog 28 [.e (.agg (Az p0)), iD p1] [] (pD (.val (.int .u8 r))) := by
 unfold Bl at h
 refine cw (n := 27) (rs := [.tmp 4]) Tryz.func28 fun w0 S0 => ?_
 refine wq rfl (qb rfl (qa rfl (Aa (wq rfl (qf Cf rfl (ql AW rfl (qm rfl ?_)))))))
 refine BS h fun v1 a1 b1 h => qi Au Cz a1 (Af b1) rfl (qk BL rfl ?_)
 refine Ex h fun c2 h => HU rfl c2 (qe rfl ?_)
 refine AK h (fun v3 => mk [(5, pD (.val (.int .u8 v3)))] []) (fun j3 h => ?_) (fun v3 h => ?_)
 ·refine wq rfl (qf Bf rfl (ql AW rfl (qm rfl ?_)))
  refine BS h fun v4 a4 b4 h => qi Au Cz a4 (Af b4) rfl (qk BL rfl (El rfl (Aa ?_)))
  refine Be h (fun h => ?_) fun h => ?_
  ·refine Ag Ay rfl (qm rfl (qf Bf rfl (ql AW rfl (qm rfl ?_))))
   refine BS h fun v6 a6 b6 h => qi Au Cz a6 (Af b6) rfl (qk BL rfl ?_)
   refine Ex h fun c7 h => HU rfl c7 (Q2 rfl (qe rfl ?_))
   exact sn [] h
  ·refine Al ?_
   exact sn [] h
 ·refine wq rfl (qm rfl (qe rfl ?_))
  obtain rfl := sj h
  refine Ae (sm [] [(4, pD (.val (.int .u8 v3)))] [] rfl rfl) (Ap ?_)
  exact ⟨⟨[_], tm, rfl⟩, tv⟩
theorem K8 (N : Nat) (p0 : Ab) (p1 : Bj) (r : Ac) (h : DU N p0 p1 = some r) : Aq Tryz.prog 9 [.e (.agg (Ah p0)), .e (.agg (CN p1))] [(1, r.fd.map An), (1, r.fa.map An), (1, r.fc.map B3)] (.e (.agg [.own 0, .own 1, .own 2])) := by
 unfold DU at h
 refine cw (n := 99) (rs := [.cell 4 38]) Tryz.func9 fun w0 S0 => ?_
 refine wq rfl (qb rfl (qb rfl (qz Cc rfl (Aa (wq rfl (qz Cc rfl (Aa (wp rfl (qe rfl ?_)))))))))
 refine AH (L := B5 N p0 p1) h (fun v1 => mk [(2, oD (.ptr 2 0)), (3, oD (.ptr 3 0)), (4, oD (.ptr 4 0)), (5, oD (.ptr 5 0)), (6, iD v1.2.2)] [(2, .box (Ah p0)), (3, .box (CN p1)), (4, .box [.pure (.nil0), .pure (.nil0), .pure (.nil0)]), (5, .box [.own 2001, .own 2002, .pure (.nil0)]), (2001, .vec 1 (v1.1.map An)), (2002, .vec 1 (v1.2.1.map An))]) (fun v2 => mk [(2, oD (.ptr 2 0)), (3, oD (.ptr 3 0)), (4, oD (.ptr 4 0)), (5, oD (.ptr 5 0))] [(2, .box (Ah p0)), (3, .box (CN p1)), (4, .box [.pure (.nil0), .pure (.nil0), .pure (.nil0)]), (5, .box [.own 2003, .own 2004, .pure (.nil0)]), (2003, .vec 1 (v2.1.map An)), (2004, .vec 1 (v2.2.map An))]) (fun _ _ => rfl) ((Ax 5 0 2007 1 _ rfl rfl rfl rfl).trans ((Ax 5 1 2008 1 _ rfl rfl rfl rfl).trans (sm [(2001, 2007), (2002, 2008)] _ _ rfl rfl))) (fun j1 n1 v1 h => ?_) (fun v2 s h hs => ?_)
 ·unfold B5 at h
  refine wp rfl (qm rfl (qf Bg rfl (ql AW rfl (AB Au rfl (AT rfl (Aa ?_))))))
  refine Be h (fun h => ?_) fun h => ?_
  ·refine Al (AN (AM (wq rfl (qf Bg rfl (ql AW rfl (qm rfl ?_))))))
   refine BS h fun v4 a4 b4 h => qi Au Cz a4 (Af b4) rfl (qk BL rfl (qa rfl (Aa (wq rfl (qf TO rfl (ql Pm rfl (qm rfl ?_)))))))
   refine BT h fun v5 a5 h => Ar [] (F9 N p1.fd v1.2.2 v5 a5) UG rfl (qm rfl ?_)
   refine Ex h fun c6 h => IX rfl c6 (qa rfl (Aa (wq rfl (qe rfl ?_))))
   refine AK h (fun v7 => mk [(2, oD (.ptr 2 0)), (3, oD (.ptr 3 0)), (4, oD (.ptr 4 0)), (5, oD (.ptr 5 0)), (6, iD v1.2.2), (8, iD ((Int.tmod v5 v4))), (9, iD v7)] [(2, .box (Ah p0)), (3, .box (CN p1)), (4, .box [.pure (.nil0), .pure (.nil0), .pure (.nil0)]), (5, .box [.own 2005, .own 2006, .pure (.nil0)]), (2005, .vec 1 (v1.1.map An)), (2006, .vec 1 (v1.2.1.map An))]) (fun j7 h => ?_) (fun v7 h => ?_)
   ·refine wq rfl (qf TY rfl (ql Pm rfl (qm rfl ?_)))
    refine BT h fun v8 a8 h => Ar [] (F9 N p1.fa v1.2.2 v8 a8) UG rfl (qm rfl ?_)
    refine Ex h fun c9 h => IX rfl c9 (qa rfl (Aa (wq rfl (qm rfl (EN rfl (Aa ?_))))))
    refine Be h (fun h => ?_) fun h => ?_
    ·refine Ag Ay rfl (qw 2 rfl (Bd rfl (qm rfl ?_)))
     refine Ex h fun c11 h => IX rfl c11 (qe rfl ?_)
     exact sn [(2005, 2001), (2006, 2002)] h
    ·refine Al ?_
     exact sn [(2005, 2001), (2006, 2002)] h
   ·refine wq rfl (qf Cf rfl (ql AW rfl (qm rfl (D4 Au Cz I0 rfl ?_))))
    refine Ex h fun c12 h => DC (f := An) Au Au Cz Ja I0 c12 rfl (qf Cf rfl (qs KD rfl (Aa (Ag Ay rfl (qf Bf rfl (ql AW rfl (qm rfl (D4 Au Cz I0 rfl ?_))))))))
    refine Ex h fun c13 h => DC (f := An) Au Au Cz Ja I0 c13 rfl (qf Bf rfl (qs KD rfl (Aa (Ag Ay rfl (qm rfl (Bd rfl (qe rfl ?_)))))))
    exact sn [(2001, 50), (2002, 56)] h
  ·refine AS ?_
   exact sn [(2003, 2001), (2004, 2002)] h
 ·refine Ae hs (wp rfl (qe rfl ?_))
  refine AH (L := A5 N p0 p1 v2) h (fun v14 => mk [(2, oD (.ptr 2 0)), (3, oD (.ptr 3 0)), (4, oD (.ptr 4 0)), (5, oD (.ptr 5 0)), (11, iD v14.2)] [(2, .box (Ah p0)), (3, .box (CN p1)), (4, .box [.pure (.nil0), .pure (.nil0), .pure (.nil0)]), (5, .box [.own 2009, .own 2010, .own 2011]), (2009, .vec 1 (v2.1.map An)), (2010, .vec 1 (v2.2.map An)), (2011, .vec 1 (v14.1.map B3))]) (fun v15 => mk [(4, oD (.ptr 4 0)), (5, oD (.ptr 5 0))] [(4, .box [.pure (.nil0), .pure (.nil0), .pure (.nil0)]), (5, .box [.own 2012, .own 2013, .own 2014]), (2012, .vec 1 (v2.1.map An)), (2013, .vec 1 (v2.2.map An)), (2014, .vec 1 (v15.map B3))]) (fun _ _ => rfl) ((Ax 5 2 2018 1 _ rfl rfl rfl rfl).trans (sm [(2009, 2003), (2010, 2004), (2011, 2018)] _ _ rfl rfl)) (fun j14 n14 v14 h => ?_) (fun v15 s h hs => ?_)
  ·unfold A5 at h
   refine wp rfl (qm rfl (qf Ce rfl (ql GF rfl (AB DJ rfl (AT rfl (Aa ?_))))))
   refine Be h (fun h => ?_) fun h => ?_
   ·refine Al (AN (AM (wq rfl (qf Ce rfl (ql GF rfl (qm rfl ?_))))))
    refine BS h fun v17 a17 b17 h => qi DJ Du a17 (Af b17) rfl (qK GB Du rfl (qz KR rfl (qs Du rfl (Aa (wq rfl (qe rfl ?_))))))
    refine AK h (fun v18 => mk [(2, oD (.ptr 2 0)), (3, oD (.ptr 3 0)), (4, oD (.ptr 4 0)), (5, oD (.ptr 5 0)), (11, iD v14.2), (13, pD (.val (.int .u8 v18)))] [(2, .box (Ah p0)), (3, .box (CN p1)), (4, .box [.pure (.nil0), .pure (.nil0), .pure (.nil0)]), (5, .box [.own 2015, .own 2016, .own 2017]), (2015, .vec 1 (v2.1.map An)), (2016, .vec 1 (v2.2.map An)), (2017, .vec 1 (v14.1.map B3))]) (fun j18 h => ?_) (fun v18 h => ?_)
    ·refine wq rfl (qL GB Du rfl ?_)
     refine BT h fun v19 a19 h => Ar [] (Bz N v17 v19 a19) MS rfl (Aa ?_)
     refine Be h (fun h => ?_) fun h => ?_
     ·refine wq rfl (qf Bg rfl (ql AW rfl (qf Ci rfl (ql BL rfl ?_))))
      refine BS h fun v21 a21 b21 h => qi Au Cz a21 (Af b21) rfl (qk BL rfl ?_)
      refine Ex h fun c22 h => HU rfl c22 (NQ rfl (qa rfl (Aa (Ag Ay rfl (qL A3 AF rfl (qf Ci rfl (ql BL rfl ?_)))))))
      refine BT h fun v23 a23 h => G6 [] [2009, 2010, 2011] (CR N ((Ac.mk v2.1 v2.2 v14.1)) v17.fg v23 a23) Q5 E4 rfl (qf SZ rfl (ql Pm rfl (qm rfl ?_)))
      refine BT h fun v24 a24 h => Ar [] (F9 N p1.fc v14.2 v24 a24) UG rfl (Iu XH W1 rfl (qm rfl (KS rfl (Q2 rfl (qa rfl (AI (by kernel_rfl) ?_))))))
      exact sn [(2015, 2009), (2016, 2010), (2017, 2011)] h
     ·refine Al ?_
      exact sn [(2015, 2009), (2016, 2010), (2017, 2011)] h
    ·refine Ag Ay rfl (qf BZ rfl (ql F5 rfl (qm rfl (D4 Cv EP Mn rfl ?_))))
     refine Ex h fun c25 h => DC (f := B3) Cv Cv EP Nj Mn c25 rfl (qf BZ rfl (qs Wt rfl (Aa (Ag Ay rfl (qm rfl (Bd rfl (qe rfl ?_)))))))
     exact sn [(2009, 2015), (2010, 2016), (2011, 96)] h
   ·refine AS ?_
    exact sn [(2012, 2009), (2013, 2010), (2014, 2011)] h
  ·refine Ae hs (wq rfl (qL A3 AF rfl (qs AF rfl (Aa ?_))))
   obtain rfl := sj h
   refine Ae (sm [(1000, 2012), (1001, 2013), (1002, 2014)] [(4, oD (.ptr 4 0))] [(4, .box [.own 1000, .own 1001, .own 1002]), (1000, .vec 1 (v2.1.map An)), (1001, .vec 1 (v2.2.map An)), (1002, .vec 1 (v15.map B3))] rfl rfl) (Ap ?_)
   exact ⟨⟨[_], ⟨.cellN _ _ _ _ _ _ _ rfl rfl A3 AF rfl rfl (GS rfl), tv⟩, rfl⟩, ⟨rfl, rfl, rfl, tv⟩⟩
theorem Hr (N : Nat) (p0 : Ab) (p1 : Ac) (r : Int) (h : C2 N p0 p1 = some r) : Aq Tryz.prog 30 [.e (.agg (Ah p0)), .e (.agg (Az p1))] [] (iD r) := by
 unfold C2 at h
 refine cw (n := 154) (rs := [.tmp 4]) Tryz.func30 fun w0 S0 => ?_
 refine wq rfl (qb rfl (qb rfl (qa rfl (Aa (wp rfl (qL CT Cy rfl ?_))))))
 refine BT h fun v1 a1 h => Ar [] (Fu N p0 v1 a1) Wi rfl (qa rfl (Aa (wq rfl (qm rfl (BF rfl (Aa ?_))))))
 refine Be h (fun h => ?_) fun h => ?_
 ·refine wq rfl (qm rfl (qe rfl ?_))
  obtain rfl := sj h
  refine Ae (sm [] [(4, iD v1)] [] rfl rfl) (Ap ?_)
  exact ⟨⟨[_], tm, rfl⟩, tv⟩
 ·refine Al (wq rfl (qf Bg rfl (ql AW rfl (AB Au rfl (qa rfl (Aa (AN ?_)))))))
  refine AK h (fun v3 => mk [(2, oD (.ptr 2 0)), (3, oD (.ptr 3 0)), (6, iD ((p0.fb.length : Int))), (39, bD v3)] [(2, .box (Ah p0)), (3, .box (Az p1))]) (fun j3 h => ?_) (fun v3 h => ?_)
  ·refine Ag Ay rfl (qf Cf rfl (ql AW rfl (AB Au rfl (qm rfl (BF rfl (qm rfl ?_))))))
   refine Dr 24 h rfl (fun h => ?_) fun h => ?_
   ·refine qw 5 rfl (qp rfl (qw 8 rfl (qp rfl (Aa ?_))))
    exact sn [] h
   ·refine qf Bf rfl (ql AW rfl (AB Au rfl (qm rfl (BF rfl (qp rfl (qm rfl ?_))))))
    refine Dr 31 h rfl (fun h => ?_) fun h => ?_
    ·refine qw 7 rfl (qp rfl (Aa ?_))
     exact sn [] h
    ·refine qf BZ rfl (ql F5 rfl (AB Cv rfl (qf Ce rfl (ql GF rfl (AB DJ rfl (BF rfl (qp rfl (Aa ?_))))))))
     exact sn [] h
  ·refine Be h (fun h => ?_) fun h => ?_
   ·refine wq rfl (qe rfl ?_)
    obtain rfl := sj h
    refine Ae (sm [] [(4, iD 6)] [] rfl rfl) (Ap ?_)
    exact ⟨⟨[_], tm, rfl⟩, tv⟩
   ·refine Al (wp rfl (qe rfl ?_))
    refine AH (L := BJ N p0 p1) h (fun v7 => mk [(2, oD (.ptr 2 0)), (3, oD (.ptr 3 0)), (6, iD ((p0.fb.length : Int))), (7, iD v7)] [(2, .box (Ah p0)), (3, .box (Az p1))]) (fun v8 => mk [(2, oD (.ptr 2 0)), (3, oD (.ptr 3 0))] [(2, .box (Ah p0)), (3, .box (Az p1))]) (fun _ _ => rfl) (sm [] _ _ rfl rfl) (fun j7 n7 v7 h => ?_) (fun v8 s h hs => ?_)
    ·unfold BJ at h
     refine wp rfl (qw 2 rfl (AT rfl (Aa ?_)))
     refine Be h (fun h => ?_) fun h => ?_
     ·refine Al (AN (AM (AN ?_)))
      refine AK h (fun v10 => mk [(2, oD (.ptr 2 0)), (3, oD (.ptr 3 0)), (6, iD ((p0.fb.length : Int))), (7, iD v7), (84, bD v10)] [(2, .box (Ah p0)), (3, .box (Az p1))]) (fun j10 h => ?_) (fun v10 h => ?_)
      ·refine Ag Ay rfl (qf Cf rfl (ql AW rfl (qm rfl ?_)))
       refine BS h fun v11 a11 b11 h => qi Au Cz a11 (Af b11) rfl (qk BL rfl (AT rfl (qm rfl ?_)))
       refine Dr 51 h rfl (fun h => ?_) fun h => ?_
       ·refine qw 11 rfl (qp rfl (qw 7 rfl (qp rfl (qw 12 rfl (qp rfl (AI (by kernel_rfl) ?_))))))
        exact sn [] h
       ·refine qf Cf rfl (ql AW rfl (qm rfl ?_))
        refine BS h fun v13 a13 b13 h => qi Au Cz a13 (Af b13) rfl (qk BL rfl (qf Bg rfl (ql AW rfl (qm rfl ?_))))
        refine BS h fun v14 a14 b14 h => qi Au Cz a14 (Af b14) rfl (qk BL rfl (El rfl (qp rfl (qm rfl ?_))))
        refine Dr 64 h rfl (fun h => ?_) fun h => ?_
        ·refine qw 6 rfl (qp rfl (qw 12 rfl (qp rfl (AI (by kernel_rfl) ?_))))
         exact sn [] h
        ·refine qf Bf rfl (ql AW rfl (qm rfl ?_))
         refine BS h fun v16 a16 b16 h => qi Au Cz a16 (Af b16) rfl (qk BL rfl (AT rfl (qp rfl (qm rfl ?_))))
         refine Dr 72 h rfl (fun h => ?_) fun h => ?_
         ·refine qw 11 rfl (qp rfl (AI (by kernel_rfl) ?_))
          exact sn [] h
         ·refine qf Bf rfl (ql AW rfl (qm rfl ?_))
          refine BS h fun v18 a18 b18 h => qi Au Cz a18 (Af b18) rfl (qk BL rfl (qf Bg rfl (ql AW rfl (qm rfl ?_))))
          refine BS h fun v19 a19 b19 h => qi Au Cz a19 (Af b19) rfl (qk BL rfl (El rfl (qp rfl (AI (by kernel_rfl) ?_))))
          exact sn [] h
      ·refine Be h (fun h => ?_) fun h => ?_
       ·refine wq rfl (qe rfl ?_)
        obtain rfl := sj h
        refine Ae (sm [] [(4, iD 7)] [] rfl rfl) (Ap ?_)
        exact ⟨⟨[_], tm, rfl⟩, tv⟩
       ·refine Al (wq rfl (qf Cf rfl (ql AW rfl (qm rfl ?_))))
        refine BS h fun v21 a21 b21 h => qi Au Cz a21 (Af b21) rfl (qk BL rfl (qf Bf rfl (ql AW rfl (qm rfl ?_))))
        refine BS h fun v22 a22 b22 h => qi Au Cz a22 (Af b22) rfl (qk BL rfl (Bs rfl (AI (by kernel_rfl) ?_)))
        refine Be h (fun h => ?_) fun h => ?_
        ·refine wq rfl (qe rfl ?_)
         obtain rfl := sj h
         refine Ae (sm [] [(4, iD 1)] [] rfl rfl) (Ap ?_)
         exact ⟨⟨[_], tm, rfl⟩, tv⟩
        ·refine Al (Ag Ay rfl (qm rfl (Bd rfl (qe rfl ?_))))
         exact sn [] h
     ·refine AS ?_
      exact sn [] h
    ·refine Ae hs (wp rfl (qe rfl ?_))
     refine AH (L := BC N p0 p1) h (fun v24 => mk [(2, oD (.ptr 2 0)), (3, oD (.ptr 3 0)), (8, iD v24)] [(2, .box (Ah p0)), (3, .box (Az p1))]) (fun v25 => mk [] []) (fun _ _ => rfl) (sm [] _ _ rfl rfl) (fun j24 n24 v24 h => ?_) (fun v25 s h hs => ?_)
     ·unfold BC at h
      refine wp rfl (qm rfl (qf Ce rfl (ql GF rfl (AB DJ rfl (AT rfl (Aa ?_))))))
      refine Be h (fun h => ?_) fun h => ?_
      ·refine Al (AN (AM (wq rfl (qf Ce rfl (ql GF rfl (qm rfl ?_))))))
       refine BS h fun v27 a27 b27 h => qi DJ Du a27 (Af b27) rfl (qK GB Du rfl (qz KR rfl (qs Du rfl (Aa (wq rfl (qf Bg rfl (ql AW rfl (qf Ci rfl (ql BL rfl ?_)))))))))
       refine BS h fun v28 a28 b28 h => qi Au Cz a28 (Af b28) rfl (qk BL rfl ?_)
       refine Ex h fun c29 h => HU rfl c29 (NQ rfl (qe rfl ?_))
       refine AK h (fun v30 => mk [(2, oD (.ptr 2 0)), (3, oD (.ptr 3 0)), (8, iD v24), (153, bD v30)] [(2, .box (Ah p0)), (3, .box (Az p1))]) (fun j30 h => ?_) (fun v30 h => ?_)
       ·refine Ag Ay rfl (qL GB Du rfl ?_)
        refine BT h fun v31 a31 h => Ar [] (Bz N v27 v31 a31) MS rfl (BX rfl (qm rfl ?_))
        refine Dr 119 h rfl (fun h => ?_) fun h => ?_
        ·refine qf BZ rfl (ql F5 rfl (qm rfl ?_))
         refine BS h fun v33 a33 b33 h => qi Cv EP a33 (Af b33) rfl (qk I6 rfl (BF rfl (qp rfl (qm rfl ?_))))
         refine Dr 127 h rfl (fun h => ?_) fun h => ?_
         ·refine qw 3 rfl (qu rfl (qu rfl (qu rfl (qu rfl (qu rfl (qu rfl (qu rfl (qu rfl (qu rfl (qu rfl (qu rfl (qu rfl (qu rfl (qu rfl (qu rfl (qu rfl (qu rfl (qu rfl (qu rfl (qu rfl (qu rfl (qn rfl (qp rfl (AI (by kernel_rfl) ?_))))))))))))))))))))))))
          exact sn [] h
         ·refine qL GB Du rfl ?_
          refine BT h fun v35 a35 h => Ar [] (Bz N v27 v35 a35) MS rfl (qm rfl ?_)
          refine Dr 130 h rfl (fun h => ?_) fun h => ?_
          ·refine qf BZ rfl (ql F5 rfl (qm rfl ?_))
           refine BS h fun v37 a37 b37 h => qi Cv EP a37 (Af b37) rfl (qk I6 rfl (qm rfl (H2 rfl (BF rfl (qm rfl ?_)))))
           refine Dr 139 h rfl (fun h => ?_) fun h => ?_
           ·refine qw 11 rfl (qp rfl (qp rfl (qp rfl (AI (by kernel_rfl) ?_))))
            exact sn [] h
           ·refine qL A3 AF rfl (qf Ci rfl (ql BL rfl ?_))
            refine BT h fun v39 a39 h => Ar [] (CR N p1 v27.fg v39 a39) Q5 rfl (qf BZ rfl (ql F5 rfl (qm rfl ?_)))
            refine BS h fun v40 a40 b40 h => qi Cv EP a40 (Af b40) rfl (qk I6 rfl (H2 rfl (BF rfl (qp rfl (qp rfl (qp rfl (AI (by kernel_rfl) ?_)))))))
            exact sn [] h
          ·refine qw 9 rfl (qu rfl (qu rfl (qu rfl (qu rfl (qu rfl (qu rfl (qu rfl (qu rfl (qu rfl (qu rfl (qu rfl (qn rfl (qp rfl (qp rfl (AI (by kernel_rfl) ?_)))))))))))))))
           exact sn [] h
        ·refine qw 6 rfl (qp rfl (qm rfl (qL GB Du rfl ?_)))
         refine BT h fun v41 a41 h => Ar [] (Bz N v27 v41 a41) MS rfl (qm rfl ?_)
         refine Dr 130 h rfl (fun h => ?_) fun h => ?_
         ·refine qf BZ rfl (ql F5 rfl (qm rfl ?_))
          refine BS h fun v43 a43 b43 h => qi Cv EP a43 (Af b43) rfl (qk I6 rfl (qm rfl (H2 rfl (BF rfl (qm rfl ?_)))))
          refine Dr 139 h rfl (fun h => ?_) fun h => ?_
          ·refine qw 11 rfl (qp rfl (qp rfl (qp rfl (AI (by kernel_rfl) ?_))))
           exact sn [] h
          ·refine qL A3 AF rfl (qf Ci rfl (ql BL rfl ?_))
           refine BT h fun v45 a45 h => Ar [] (CR N p1 v27.fg v45 a45) Q5 rfl (qf BZ rfl (ql F5 rfl (qm rfl ?_)))
           refine BS h fun v46 a46 b46 h => qi Cv EP a46 (Af b46) rfl (qk I6 rfl (H2 rfl (BF rfl (qp rfl (qp rfl (qp rfl (AI (by kernel_rfl) ?_)))))))
           exact sn [] h
         ·refine qw 9 rfl (qu rfl (qu rfl (qu rfl (qu rfl (qu rfl (qu rfl (qu rfl (qu rfl (qu rfl (qu rfl (qu rfl (qn rfl (qp rfl (qp rfl (AI (by kernel_rfl) ?_)))))))))))))))
          exact sn [] h
       ·refine Be h (fun h => ?_) fun h => ?_
        ·refine wq rfl (qe rfl ?_)
         obtain rfl := sj h
         refine Ae (sm [] [(4, iD 1)] [] rfl rfl) (Ap ?_)
         exact ⟨⟨[_], tm, rfl⟩, tv⟩
        ·refine Al (Ag Ay rfl (qm rfl (Bd rfl (qe rfl ?_))))
         exact sn [] h
      ·refine AS ?_
       exact sn [] h
     ·refine Ae hs (wq rfl (qe rfl ?_))
      obtain rfl := sj h
      refine Ae (sm [] [(4, iD 0)] [] rfl rfl) (Ap ?_)
      exact ⟨⟨[_], tm, rfl⟩, tv⟩
theorem Ho (N : Nat) (p0 : Ad) (r : Bool) (h : C3 N p0 = some r) : Aq Tryz.prog 61 [.e (.agg (Cd p0))] [] (bD r) := by
 unfold C3 at h
 refine cw (n := 31) (rs := [.tmp 2]) Tryz.func61 fun w0 S0 => ?_
 refine wq rfl (qb rfl (qe rfl ?_))
 refine AK h (fun v1 => mk [(2, bD v1)] []) (fun j1 h => ?_) (fun v1 h => ?_)
 ·refine Ag Ay rfl (qf DW rfl (ql BL rfl (El rfl (qm rfl ?_))))
  refine Dr 6 h rfl (fun h => ?_) fun h => ?_
  ·refine qf DW rfl (ql BL rfl (VF rfl (qp rfl (qm rfl ?_))))
   refine Dr 11 h rfl (fun h => ?_) fun h => ?_
   ·refine qf D7 rfl (ql BL rfl (El rfl (qp rfl (qm rfl ?_))))
    refine Dr 16 h rfl (fun h => ?_) fun h => ?_
    ·refine qf Fy rfl (ql BL rfl (El rfl (qp rfl (qm rfl ?_))))
     refine Dr 21 h rfl (fun h => ?_) fun h => ?_
     ·refine qf DW rfl (ql BL rfl (Bs rfl (qm rfl ?_)))
      refine Dr 25 h rfl (fun h => ?_) fun h => ?_
      ·refine qw 3 rfl (qp rfl (qp rfl (qe rfl ?_)))
       exact sn [] h
      ·refine qf Fy rfl (ql BL rfl (Bs rfl (qp rfl (qp rfl (qe rfl ?_)))))
       exact sn [] h
     ·refine qw 4 rfl (qu rfl (qu rfl (qu rfl (qn rfl (qp rfl (qe rfl ?_))))))
      exact sn [] h
    ·refine qw 3 rfl (qp rfl (qw 5 rfl (qu rfl (qu rfl (qu rfl (qn rfl (qp rfl (qe rfl ?_))))))))
     exact sn [] h
   ·refine qw 3 rfl (qp rfl (qw 4 rfl (qp rfl (qw 5 rfl (qu rfl (qu rfl (qu rfl (qn rfl (qp rfl (qe rfl ?_))))))))))
    exact sn [] h
  ·refine qw 3 rfl (qp rfl (qw 4 rfl (qp rfl (qw 4 rfl (qp rfl (qw 5 rfl (qu rfl (qu rfl (qu rfl (qn rfl (qp rfl (qe rfl ?_))))))))))))
   exact sn [] h
 ·obtain rfl := sj h
  refine Ae (sm [] [(2, bD v1)] [] rfl rfl) (Ap ?_)
  exact ⟨⟨[_], tm, rfl⟩, tv⟩
theorem Kh (N : Nat) (p0 : List Ad) (r : Int) (h : D5 N p0 = some r) : Aq Tryz.prog 38 [pD (.sl (p0.map Ai))] [] (iD r) := by
 unfold D5 at h
 refine cw (n := 47) (rs := [.tmp 2]) Tryz.func38 fun w0 S0 => ?_
 refine wq rfl (qa rfl (Aa (AN ?_)))
 refine AK h (fun v1 => mk [(0, pD (.sl (p0.map Ai))), (12, bD v1)] []) (fun j1 h => ?_) (fun v1 h => ?_)
 ·refine Ag Ay rfl (qm rfl (AB Bo rfl (AT rfl (qm rfl ?_))))
  refine Dr 8 h rfl (fun h => ?_) fun h => ?_
  ·refine qw 3 rfl (qp rfl (Aa ?_))
   exact sn [] h
  ·refine qm rfl (AB Bo rfl (EN rfl (qp rfl (Aa ?_))))
   exact sn [] h
 ·refine Be h (fun h => ?_) fun h => ?_
  ·refine wq rfl (qe rfl ?_)
   obtain rfl := sj h
   refine Ae (sm [] [(2, iD 6)] [] rfl rfl) (Ap ?_)
   exact ⟨⟨[_], tm, rfl⟩, tv⟩
  ·refine Al (wp rfl (qe rfl ?_))
   refine AH (L := BR N p0) h (fun v4 => mk [(0, pD (.sl (p0.map Ai))), (3, iD v4)] []) (fun v5 => mk [] []) (fun _ _ => rfl) (sm [] _ _ rfl rfl) (fun j4 n4 v4 h => ?_) (fun v5 s h hs => ?_)
   ·unfold BR at h
    refine wp rfl (qw 2 rfl (AB Bo rfl (AT rfl (Aa ?_))))
    refine Be h (fun h => ?_) fun h => ?_
    ·refine Al (AN (AM (AN ?_)))
     refine AK h (fun v7 => mk [(0, pD (.sl (p0.map Ai))), (3, iD v4), (32, bD v7)] []) (fun j7 h => ?_) (fun v7 h => ?_)
     ·refine Ag Ay rfl (qw 2 rfl ?_)
      refine BS h fun v8 a8 b8 h => qi Bo Ch a8 (Af b8) rfl (qg DW rfl (qk BL rfl (Bs rfl (qm rfl ?_))))
      refine Dr 25 h rfl (fun h => ?_) fun h => ?_
      ·refine qw 6 rfl (qp rfl (Aa ?_))
       exact sn [] h
      ·refine qw 2 rfl ?_
       refine BS h fun v10 a10 b10 h => qi Bo Ch a10 (Af b10) rfl (qK F7 Ch rfl ?_)
       refine BT h fun v11 a11 h => Ar [] (Ho N v10 v11 a11) WB rfl (BX rfl (qp rfl (Aa ?_)))
       exact sn [] h
     ·refine Be h (fun h => ?_) fun h => ?_
      ·refine wq rfl (qe rfl ?_)
       obtain rfl := sj h
       refine Ae (sm [] [(2, iD 1)] [] rfl rfl) (Ap ?_)
       exact ⟨⟨[_], tm, rfl⟩, tv⟩
      ·refine Al (wq rfl (qe rfl ?_))
       refine AH (L := Cs N p0 v4) h (fun v13 => mk [(0, pD (.sl (p0.map Ai))), (3, iD v4), (4, iD v13)] []) (fun v14 => mk [(0, pD (.sl (p0.map Ai))), (3, iD v4)] []) (fun _ _ => rfl) (sm [] _ _ rfl rfl) (fun j13 n13 v13 h => ?_) (fun v14 s h hs => ?_)
       ·unfold Cs at h
        refine wp rfl (qw 2 rfl (AT rfl (Aa ?_)))
        refine Be h (fun h => ?_) fun h => ?_
        ·refine Al (AN (AM (wq rfl (qw 2 rfl ?_))))
         refine BS h fun v16 a16 b16 h => qi Bo Ch a16 (Af b16) rfl (qK F7 Ch rfl (qw 2 rfl ?_))
         refine BS h fun v17 a17 b17 h => qi Bo Ch a17 (Af b17) rfl (qK F7 Ch rfl ?_)
         refine Ur [.int .i64 v16.ff, .int .i64 v16.fh, .int .i64 v16.fi] [.int .i64 v17.ff, .int .i64 v17.fh, .int .i64 v17.fi] (.p rfl) rfl rfl R8 rfl ?_
         refine AI (by kernel_rfl) ?_
         refine Be h (fun h => ?_) fun h => ?_
         ·refine wq rfl (qe rfl ?_)
          obtain rfl := sj h
          refine Ae (sm [] [(2, iD 1)] [] rfl rfl) (Ap ?_)
          exact ⟨⟨[_], tm, rfl⟩, tv⟩
         ·refine Al (Ag Ay rfl (qm rfl (Bd rfl (qe rfl ?_))))
          exact sn [] h
        ·refine AS ?_
         exact sn [] h
       ·refine Ae hs (Ag Ay rfl (qm rfl (Bd rfl (qe rfl ?_))))
        exact sn [] h
    ·refine AS ?_
     exact sn [] h
   ·refine Ae hs (wq rfl (qe rfl ?_))
    obtain rfl := sj h
    refine Ae (sm [] [(2, iD 0)] [] rfl rfl) (Ap ?_)
    exact ⟨⟨[_], tm, rfl⟩, tv⟩
theorem Jb (N : Nat) (p0 : Ac) (r : Ac) (h : DA N p0 = some r) : Aq Tryz.prog 86 [.e (.agg (Az p0))] [(1, r.fd.map An), (1, r.fa.map An), (1, r.fc.map B3)] (.e (.agg [.own 0, .own 1, .own 2])) := by
 unfold DA at h
 refine cw (n := 16) (rs := [.cell 2 38]) Tryz.func86 fun w0 S0 => ?_
 refine wq rfl (qb rfl (qz Cc rfl (Aa (wq rfl (D4 Au Cz I0 rfl (qf Cf rfl (ql AW rfl ?_)))))))
 refine Ex h fun c1 h => HJ (f := An) Au Au Cz Ja I0 (fun _ => rfl) c1 rfl (D4 Au Cz I0 rfl (qf Bf rfl (ql AW rfl ?_)))
 refine Ex h fun c2 h => HJ (f := An) Au Au Cz Ja I0 (fun _ => rfl) c2 rfl (D4 Cv EP Mn rfl (qf BZ rfl (ql F5 rfl ?_)))
 refine Ex h fun c3 h => HJ (f := B3) Cv Cv EP Nj Mn (fun _ => rfl) c3 rfl (A8 Cc F3 rfl (qs AF rfl (AI (by kernel_rfl) ?_)))
 obtain rfl := sj h
 refine Ae (sm [(1000, 6), (1001, 10), (1002, 14)] [(2, oD (.ptr 2 0))] [(2, .box [.own 1000, .own 1001, .own 1002]), (1000, .vec 1 (((([] : List Int)) ++ p0.fd).map An)), (1001, .vec 1 (((([] : List Int)) ++ p0.fa).map An)), (1002, .vec 1 (((([] : List Int)) ++ p0.fc).map B3))] rfl rfl) (Ap ?_)
 exact ⟨⟨[_], ⟨.cellN _ _ _ _ _ _ _ rfl rfl A3 AF rfl rfl (GS rfl), tv⟩, rfl⟩, ⟨rfl, rfl, rfl, tv⟩⟩
theorem Kr (N : Nat) (p0 : Ac) (r : (List Ac)) (h : DF N p0 = some r) : Aq Tryz.prog 62 [.e (.agg (Az p0))] [(3, r.map Cj)] (oD (.own 0)) := by
 unfold DF at h
 refine cw (n := 62) (rs := [.tmp 2]) Tryz.func62 fun w0 S0 => ?_
 refine wq rfl (qb rfl (qa rfl (Aa (wq rfl (qa rfl (Aa (wp rfl (qe rfl ?_))))))))
 refine AH (L := BY N p0) h (fun v1 => mk [(1, oD (.ptr 1 0)), (3, iD v1.1), (4, iD v1.2)] [(1, .box (Az p0))]) (fun v2 => mk [(1, oD (.ptr 1 0)), (3, iD v2)] [(1, .box (Az p0))]) (fun _ _ => rfl) (sm [] _ _ rfl rfl) (fun j1 n1 v1 h => ?_) (fun v2 s h hs => ?_)
 ·unfold BY at h
  refine wp rfl (qm rfl (qf Bf rfl (ql AW rfl (AB Au rfl (AT rfl (Aa ?_))))))
  refine Be h (fun h => ?_) fun h => ?_
  ·refine Al ?_
   refine AK h (fun v4 => mk [(1, oD (.ptr 1 0)), (3, iD v4), (4, iD v1.2)] [(1, .box (Az p0))]) (fun j4 h => ?_) (fun v4 h => ?_)
   ·refine AM (wq rfl (qf Bf rfl (ql AW rfl (qm rfl ?_))))
    refine BS h fun v5 a5 b5 h => qi Au Cz a5 (Af b5) rfl (qk BL rfl (El rfl (Aa ?_)))
    refine Be h (fun h => ?_) fun h => ?_
    ·refine Ag Ay rfl (qm rfl (Bd rfl (qe rfl ?_)))
     exact sn [] h
    ·refine Al ?_
     exact sn [] h
   ·refine Ag Ay rfl (qm rfl (Bd rfl (qe rfl ?_)))
    exact sn [] h
  ·refine AS ?_
   exact sn [] h
 ·refine Ae hs (wq rfl (qa rfl (Aa (wp rfl (qe rfl ?_)))))
  refine AH (L := Bi N p0 v2) h (fun v7 => mk [(1, oD (.ptr 1 0)), (3, iD v2), (5, oD (.own 2001)), (6, iD v7.2)] [(1, .box (Az p0)), (2001, .vec 3 (v7.1.map Cj))]) (fun v8 => mk [(5, oD (.own 2002))] [(2002, .vec 3 (v8.map Cj))]) (fun _ _ => rfl) ((B2 5 2022 3 rfl rfl rfl).trans (sm [(2001, 2022)] _ _ rfl rfl)) (fun j7 n7 v7 h => ?_) (fun v8 s h hs => ?_)
  ·unfold Bi at h
   refine wp rfl (qw 2 rfl ?_)
   refine Ex h fun c9 h => HU rfl c9 (AT rfl (Aa ?_))
   refine Be h (fun h => ?_) fun h => ?_
   ·refine Al (AN (AM (wq rfl (qL A3 AF rfl ?_))))
    refine BT h fun v11 a11 h => Ar [2003, 2004, 2005] (Jb N p0 v11 a11) XF rfl (qz Cc rfl (qs AF rfl (Aa (wq rfl (qa rfl (Aa (wp rfl (qe rfl ?_))))))))
    refine AH (L := Bv N p0 v7) h (fun v12 => mk [(1, oD (.ptr 1 0)), (3, iD v2), (5, oD (.own 2009)), (6, iD v7.2), (7, oD (.ptr 7 0)), (8, iD v12.2.1), (9, iD v12.2.2)] [(1, .box (Az p0)), (7, .box [.own 2006, .own 2007, .own 2008]), (2006, .vec 1 (v11.fd.map An)), (2007, .vec 1 (v12.1.map An)), (2008, .vec 1 (v11.fc.map B3)), (2009, .vec 3 (v7.1.map Cj))]) (fun v13 => mk [(1, oD (.ptr 1 0)), (3, iD v2), (5, oD (.own 2013)), (6, iD v7.2), (7, oD (.ptr 7 0))] [(1, .box (Az p0)), (7, .box [.own 2010, .own 2011, .own 2012]), (2010, .vec 1 (v11.fd.map An)), (2011, .vec 1 (v13.map An)), (2012, .vec 1 (v11.fc.map B3)), (2013, .vec 3 (v7.1.map Cj))]) (fun _ _ => rfl) (sm [(2006, 2003), (2007, 2004), (2008, 2005), (2009, 2001)] _ _ rfl rfl) (fun j12 n12 v12 h => ?_) (fun v13 s h hs => ?_)
    ·unfold Bv at h
     refine wp rfl (qm rfl (qf Bf rfl (ql AW rfl (AB Au rfl (AT rfl (Aa ?_))))))
     refine Be h (fun h => ?_) fun h => ?_
     ·refine Al ?_
      refine AK h (fun v15 => mk [(1, oD (.ptr 1 0)), (3, iD v2), (5, oD (.own 2017)), (6, iD v7.2), (7, oD (.ptr 7 0)), (8, iD v15.2), (9, iD v12.2.2)] [(1, .box (Az p0)), (7, .box [.own 2014, .own 2015, .own 2016]), (2014, .vec 1 (v11.fd.map An)), (2015, .vec 1 (v15.1.map An)), (2016, .vec 1 (v11.fc.map B3)), (2017, .vec 3 (v7.1.map Cj))]) (fun j15 h => ?_) (fun v15 h => ?_)
      ·refine AM (wp rfl (qf Bf rfl (ql AW rfl (qm rfl ?_))))
       refine BS h fun v16 a16 b16 h => qi Au Cz a16 (Af b16) rfl (qk BL rfl (AT rfl (Aa ?_)))
       refine Be h (fun h => ?_) fun h => ?_
       ·refine AS ?_
        exact sn [(2014, 2006), (2015, 2007), (2016, 2008), (2017, 2009)] h
       ·refine Al ?_
        refine AK h (fun v18 => mk [(1, oD (.ptr 1 0)), (3, iD v2), (5, oD (.own 2021)), (6, iD v7.2), (7, oD (.ptr 7 0)), (8, iD v12.2.1), (9, iD v12.2.2)] [(1, .box (Az p0)), (7, .box [.own 2018, .own 2019, .own 2020]), (2018, .vec 1 (v11.fd.map An)), (2019, .vec 1 (v18.map An)), (2020, .vec 1 (v11.fc.map B3)), (2021, .vec 3 (v7.1.map Cj))]) (fun j18 h => ?_) (fun v18 h => ?_)
        ·refine wq rfl (qw 2 rfl ?_)
         refine Ex h fun c19 h => Iv rfl c19 (IX rfl (by decide) (Bs rfl (Aa ?_)))
         refine Be h (fun h => ?_) fun h => ?_
         ·refine Ag Ay rfl (qf Bf rfl (ql AW rfl (qm rfl ?_)))
          refine BS h fun v21 a21 b21 h => qI Au Cz a21 (Af b21) rfl ?_
          refine Ek rfl rfl rfl rfl (Af b21) rfl Cz rfl (IE rfl) (Ej An v12.1 _ ((-1))) ?_
          refine Aa ?_
          exact sn [(2018, 2006), (2019, 2007), (2020, 2008), (2021, 2009)] h
         ·refine Al ?_
          exact sn [(2018, 2006), (2019, 2007), (2020, 2008), (2021, 2009)] h
        ·refine Ag Ay rfl (qm rfl (Bd rfl (qe rfl ?_)))
         exact sn [(2014, 2018), (2015, 2019), (2016, 2020), (2017, 2021)] h
      ·refine Ag Ay rfl (qm rfl (Bd rfl (qe rfl ?_)))
       exact sn [(2006, 2014), (2007, 2015), (2008, 2016), (2009, 2017)] h
     ·refine AS ?_
      exact sn [(2010, 2006), (2011, 2007), (2012, 2008), (2013, 2009)] h
    ·refine Ae hs (Ag Ay rfl (qm rfl (qL A3 AF rfl (C6 (AU 2010 _ _ rfl rfl) (C6 (AU 2011 _ _ rfl rfl) (C6 (AU 2012 _ _ rfl rfl) (D4 GR AF Cc rfl ?_)))))))
     refine Ex h fun c22 h => DC (f := Cj) GR GR AF SC Cc c22 rfl (qa rfl (Aa (Ag Ay rfl (qm rfl (Bd rfl (qe rfl ?_))))))
     exact sn [(2001, 60)] h
   ·refine AS ?_
    exact sn [(2002, 2001)] h
  ·refine Ae hs (wq rfl (qm rfl (qe rfl ?_)))
   obtain rfl := sj h
   refine Ae (sm [(1000, 2002)] [(2, oD (.own 1000))] [(1000, .vec 3 (v8.map Cj))] rfl rfl) (Ap ?_)
   exact ⟨⟨[_], tm, rfl⟩, ⟨rfl, tv⟩⟩
theorem Fa (N : Nat) (p0 : Int) (p1 : Int) (r : Bool) (h : BU N p0 p1 = some r) : Aq Tryz.prog 103 [pD (.val (.int .u8 p0)), iD p1] [] (bD r) := by
 unfold BU at h
 refine cw (n := 10) (rs := [.tmp 4]) Tryz.func103 fun w0 S0 => ?_
 refine wq rfl (qa rfl (Aa (wq rfl (qw 2 rfl ?_))))
 refine Ex h fun c1 h => Iv rfl c1 (KS rfl (Bs rfl (qe rfl ?_)))
 obtain rfl := sj h
 refine Ae (sm [] [(4, bD (((EM .u8 ((EL .u8 p0 p1)) 1) == 1)))] [] rfl rfl) (Ap ?_)
 exact ⟨⟨[_], tm, rfl⟩, tv⟩
theorem JO (N : Nat) (p0 : Ab) (p1 : Ac) (r : (List Aj)) (h : DO N p0 p1 = some r) : Aq Tryz.prog 87 [.e (.agg (Ah p0)), .e (.agg (Az p1))] [(3, r.map AP)] (oD (.own 0)) := by
 unfold DO at h
 refine cw (n := 111) (rs := [.tmp 4]) Tryz.func87 fun w0 S0 => ?_
 refine wq rfl (qb rfl (qb rfl (qa rfl (Aa (wq rfl (qa rfl (Aa (wp rfl (qe rfl ?_)))))))))
 refine AH (L := B0 N p0 p1) h (fun v1 => mk [(2, oD (.ptr 2 0)), (3, oD (.ptr 3 0)), (5, oD (.own 2001)), (6, iD v1.2)] [(2, .box (Ah p0)), (3, .box (Az p1)), (2001, .vec 3 (v1.1.map AP))]) (fun v2 => mk [(5, oD (.own 2002))] [(2002, .vec 3 (v2.map AP))]) (fun _ _ => rfl) ((B2 5 2013 3 rfl rfl rfl).trans (sm [(2001, 2013)] _ _ rfl rfl)) (fun j1 n1 v1 h => ?_) (fun v2 s h hs => ?_)
 ·unfold B0 at h
  refine wp rfl (qm rfl (qf Ce rfl (ql GF rfl (AB DJ rfl (AT rfl (Aa ?_))))))
  refine Be h (fun h => ?_) fun h => ?_
  ·refine Al (AN (AM (wq rfl (qf Ce rfl (ql GF rfl (qm rfl ?_))))))
   refine BS h fun v4 a4 b4 h => qi DJ Du a4 (Af b4) rfl (qK GB Du rfl (qz KR rfl (qs Du rfl (Aa (wq rfl (qL A3 AF rfl (qf Ci rfl (ql BL rfl ?_))))))))
   refine BT h fun v5 a5 h => Ar [] (CR N p1 v4.fg v5 a5) Q5 rfl (qe rfl ?_)
   refine AK h (fun v6 => mk [(2, oD (.ptr 2 0)), (3, oD (.ptr 3 0)), (5, oD (.own 2003)), (6, iD v1.2), (7, oD (.ptr 7 0)), (8, pD (.val (.int .u8 v6)))] [(2, .box (Ah p0)), (3, .box (Az p1)), (7, .box (A7 v4)), (2003, .vec 3 (v1.1.map AP))]) (fun j6 h => ?_) (fun v6 h => ?_)
   ·refine wq rfl (qL GB Du rfl ?_)
    refine BT h fun v7 a7 h => Ar [] (Bz N v4 v7 a7) MS rfl (Aa ?_)
    refine Be h (fun h => ?_) fun h => ?_
    ·refine Ag Ay rfl (qf BZ rfl (ql F5 rfl (qm rfl ?_)))
     refine BS h fun v9 a9 b9 h => qi Cv EP a9 (Af b9) rfl (qk I6 rfl (qe rfl ?_))
     exact sn [(2003, 2001)] h
    ·refine Al ?_
     exact sn [(2003, 2001)] h
   ·refine wq rfl (qe rfl ?_)
    refine AH (L := Bn N p0 p1 v1 v4 v6) h (fun v10 => mk [(2, oD (.ptr 2 0)), (3, oD (.ptr 3 0)), (5, oD (.own 2004)), (6, iD v1.2), (7, oD (.ptr 7 0)), (8, pD (.val (.int .u8 v6))), (9, iD v10.2)] [(2, .box (Ah p0)), (3, .box (Az p1)), (7, .box (A7 v4)), (2004, .vec 3 (v10.1.map AP))]) (fun v11 => mk [(2, oD (.ptr 2 0)), (3, oD (.ptr 3 0)), (5, oD (.own 2005)), (6, iD v1.2)] [(2, .box (Ah p0)), (3, .box (Az p1)), (2005, .vec 3 (v11.map AP))]) (fun _ _ => rfl) (sm [(2004, 2003)] _ _ rfl rfl) (fun j10 n10 v10 h => ?_) (fun v11 s h hs => ?_)
    ·unfold Bn at h
     refine wp rfl (qm rfl (qf Bg rfl (ql AW rfl (qf Ci rfl (ql BL rfl ?_)))))
     refine BS h fun v12 a12 b12 h => qi Au Cz a12 (Af b12) rfl (qk BL rfl (AT rfl (Aa ?_)))
     refine Be h (fun h => ?_) fun h => ?_
     ·refine Al ?_
      refine AK h (fun v14 => mk [(2, oD (.ptr 2 0)), (3, oD (.ptr 3 0)), (5, oD (.own 2006)), (6, iD v1.2), (7, oD (.ptr 7 0)), (8, pD (.val (.int .u8 v6))), (9, iD v10.2)] [(2, .box (Ah p0)), (3, .box (Az p1)), (7, .box (A7 v4)), (2006, .vec 3 (v14.map AP))]) (fun j14 h => ?_) (fun v14 h => ?_)
      ·refine AM (wp rfl (qw 2 rfl ?_))
       refine BT h fun v15 a15 h => Ar [] (Fa N v6 v10.2 v15 a15) QD rfl (BX rfl (Aa ?_))
       refine Be h (fun h => ?_) fun h => ?_
       ·refine AS ?_
        exact sn [(2006, 2004)] h
       ·refine Al (wq rfl (qa rfl (Aa (wp rfl (qe rfl ?_)))))
        refine AH (L := A9 N p0 p1 v1 v4 v10) h (fun v17 => mk [(2, oD (.ptr 2 0)), (3, oD (.ptr 3 0)), (5, oD (.own 2007)), (6, iD v1.2), (7, oD (.ptr 7 0)), (8, pD (.val (.int .u8 v6))), (9, iD v10.2), (10, bD v17.2.1), (11, iD v17.2.2)] [(2, .box (Ah p0)), (3, .box (Az p1)), (7, .box (A7 v4)), (2007, .vec 3 (v17.1.map AP))]) (fun v18 => mk [(2, oD (.ptr 2 0)), (3, oD (.ptr 3 0)), (5, oD (.own 2008)), (6, iD v1.2), (7, oD (.ptr 7 0)), (8, pD (.val (.int .u8 v6))), (9, iD v10.2), (10, bD v18.2)] [(2, .box (Ah p0)), (3, .box (Az p1)), (7, .box (A7 v4)), (2008, .vec 3 (v18.1.map AP))]) (fun _ _ => rfl) (sm [(2007, 2004)] _ _ rfl rfl) (fun j17 n17 v17 h => ?_) (fun v18 s h hs => ?_)
        ·unfold A9 at h
         refine wp rfl (qm rfl (qf Bg rfl (ql AW rfl (qf Hw rfl (ql BL rfl ?_)))))
         refine BS h fun v19 a19 b19 h => qi Au Cz a19 (Af b19) rfl (qk BL rfl (AT rfl (Aa ?_)))
         refine Be h (fun h => ?_) fun h => ?_
         ·refine Al ?_
          refine AK h (fun v21 => mk [(2, oD (.ptr 2 0)), (3, oD (.ptr 3 0)), (5, oD (.own 2009)), (6, iD v1.2), (7, oD (.ptr 7 0)), (8, pD (.val (.int .u8 v6))), (9, iD v10.2), (10, bD v21.2), (11, iD v17.2.2)] [(2, .box (Ah p0)), (3, .box (Az p1)), (7, .box (A7 v4)), (2009, .vec 3 (v21.1.map AP))]) (fun j21 h => ?_) (fun v21 h => ?_)
          ·refine AM (wp rfl (qL A3 AF rfl (qf Hw rfl (ql BL rfl ?_))))
           refine BT h fun v22 a22 h => Ar [] (CR N p1 v4.fj v22 a22) Q5 rfl (qm rfl ?_)
           refine BT h fun v23 a23 h => Ar [] (Fa N v22 v17.2.2 v23 a23) QD rfl (BX rfl (Aa ?_))
           refine Be h (fun h => ?_) fun h => ?_
           ·refine AS ?_
            exact sn [(2009, 2007)] h
           ·refine Al ?_
            refine AK h (fun v25 => mk [(2, oD (.ptr 2 0)), (3, oD (.ptr 3 0)), (5, oD (.own 2010)), (6, iD v1.2), (7, oD (.ptr 7 0)), (8, pD (.val (.int .u8 v6))), (9, iD v10.2), (10, bD v25), (11, iD v17.2.2)] [(2, .box (Ah p0)), (3, .box (Az p1)), (7, .box (A7 v4)), (2010, .vec 3 (v17.1.map AP))]) (fun j25 h => ?_) (fun v25 h => ?_)
            ·refine Ag Ay rfl (qw 2 rfl ?_)
             refine Dr 67 h rfl (fun h => ?_) fun h => ?_
             ·refine qw 8 rfl (qp rfl (qe rfl ?_))
              exact sn [(2010, 2007)] h
             ·refine qf IL rfl (ql Jj rfl (qm rfl ?_))
              refine BS h fun v27 a27 b27 h => qi FI LW a27 (Af b27) rfl (qk NT rfl (qm rfl ?_))
              refine BS h fun v28 a28 b28 h => qi GE Qg a28 (Af b28) rfl (qk Qu rfl (qp rfl (qe rfl ?_)))
              exact sn [(2010, 2007)] h
            ·refine AK h (fun v29 => mk [(2, oD (.ptr 2 0)), (3, oD (.ptr 3 0)), (5, oD (.own 2011)), (6, iD v1.2), (7, oD (.ptr 7 0)), (8, pD (.val (.int .u8 v6))), (9, iD v10.2), (10, bD v25), (11, iD v17.2.2), (90, bD v29)] [(2, .box (Ah p0)), (3, .box (Az p1)), (7, .box (A7 v4)), (2011, .vec 3 (v17.1.map AP))]) (fun j29 h => ?_) (fun v29 h => ?_)
             ·refine Ag Ay rfl (qf H8 rfl (ql Qu rfl (BX rfl (qm rfl ?_))))
              refine Dr 80 h rfl (fun h => ?_) fun h => ?_
              ·refine qf IL rfl (ql Jj rfl (qm rfl ?_))
               refine BS h fun v31 a31 b31 h => qi FI LW a31 (Af b31) rfl (qk NT rfl (qm rfl ?_))
               refine BS h fun v32 a32 b32 h => qi GE Qg a32 (Af b32) rfl (qk Qu rfl (BX rfl (qp rfl (Aa ?_))))
               exact sn [(2011, 2010)] h
              ·refine qw 9 rfl (qp rfl (Aa ?_))
               exact sn [(2011, 2010)] h
             ·refine Be h (fun h => ?_) fun h => ?_
              ·refine Ag Ay rfl (qw 4 rfl (A8 HB MZ rfl (D4 Ge Fx HB rfl ?_)))
               refine Ex h fun c34 h => DC (f := AP) Ge Ge Fx Qy HB c34 rfl (qe rfl ?_)
               exact sn [(2009, 97)] h
              ·refine Al ?_
               exact sn [(2009, 2011)] h
          ·refine Ag Ay rfl (qm rfl (Bd rfl (qe rfl ?_)))
           exact sn [(2007, 2009)] h
         ·refine AS ?_
          exact sn [(2008, 2007)] h
        ·refine Ae hs ?_
         refine AK h (fun v35 => mk [(2, oD (.ptr 2 0)), (3, oD (.ptr 3 0)), (5, oD (.own 2012)), (6, iD v1.2), (7, oD (.ptr 7 0)), (8, pD (.val (.int .u8 v6))), (9, iD v10.2), (103, bD v35)] [(2, .box (Ah p0)), (3, .box (Az p1)), (7, .box (A7 v4)), (2012, .vec 3 (v18.1.map AP))]) (fun j35 h => ?_) (fun v35 h => ?_)
         ·refine Ag Ay rfl (qf H8 rfl (ql Qu rfl (qm rfl ?_)))
          refine Dr 100 h rfl (fun h => ?_) fun h => ?_
          ·refine qm rfl (BX rfl (qp rfl (Aa ?_)))
           exact sn [(2012, 2008)] h
          ·refine qw 2 rfl (qp rfl (Aa ?_))
           exact sn [(2012, 2008)] h
         ·refine Be h (fun h => ?_) fun h => ?_
          ·refine Ag Ay rfl (qw 3 rfl (A8 HB MZ rfl (D4 Ge Fx HB rfl ?_)))
           refine Ex h fun c38 h => DC (f := AP) Ge Ge Fx Qy HB c38 rfl (qe rfl ?_)
           exact sn [(2006, 109)] h
          ·refine Al ?_
           exact sn [(2006, 2012)] h
      ·refine Ag Ay rfl (qm rfl (Bd rfl (qe rfl ?_)))
       exact sn [(2004, 2006)] h
     ·refine AS ?_
      exact sn [(2005, 2004)] h
    ·refine Ae hs (Ag Ay rfl (qm rfl (Bd rfl (qe rfl ?_))))
     exact sn [(2001, 2005)] h
  ·refine AS ?_
   exact sn [(2002, 2001)] h
 ·refine Ae hs (wq rfl (qm rfl (qe rfl ?_)))
  obtain rfl := sj h
  refine Ae (sm [(1000, 2002)] [(4, oD (.own 1000))] [(1000, .vec 3 (v2.map AP))] rfl rfl) (Ap ?_)
  exact ⟨⟨[_], tm, rfl⟩, ⟨rfl, tv⟩⟩
theorem I9 (N : Nat) (p0 : Ab) (p1 : Ac) (r : Bool) (h : Dz N p0 p1 = some r) : Aq Tryz.prog 63 [.e (.agg (Ah p0)), .e (.agg (Az p1))] [] (bD r) := by
 unfold Dz at h
 refine cw (n := 10) (rs := [.tmp 4]) Tryz.func63 fun w0 S0 => ?_
 refine wq rfl (qb rfl (qb rfl (qa rfl (Aa (wq rfl (qL CT Cy rfl (qL A3 AF rfl ?_)))))))
 refine BT h fun v1 a1 h => Ar [2001] (JO N p0 p1 v1 a1) WY rfl (FF Ge rfl (Bs rfl (qe rfl ?_)))
 obtain rfl := sj h
 refine Ae (sm [] [(4, bD (((v1.length : Int) == 0)))] [] rfl rfl) (Ap ?_)
 exact ⟨⟨[_], tm, rfl⟩, tv⟩
theorem Gr (N : Nat) (p0 : Ab) (p1 : Ac) (r : Bool) (h : Cq N p0 p1 = some r) : Aq Tryz.prog 39 [.e (.agg (Ah p0)), .e (.agg (Az p1))] [] (bD r) := by
 unfold Cq at h
 refine cw (n := 22) (rs := [.tmp 4]) Tryz.func39 fun w0 S0 => ?_
 refine wq rfl (qb rfl (qb rfl (qa rfl (Aa (wq rfl (qL A3 AF rfl ?_))))))
 refine BT h fun v1 a1 h => Ar [2001] (Kr N p1 v1 a1) W6 rfl (qa rfl (Aa (wp rfl (qe rfl ?_))))
 refine AH (L := BG N p0 v1) h (fun v2 => mk [(2, oD (.ptr 2 0)), (5, oD (.own 2002)), (6, iD v2)] [(2, .box (Ah p0)), (2002, .vec 3 (v1.map Cj))]) (fun v3 => mk [] []) (fun _ _ => rfl) (sm [(2002, 2001)] _ _ rfl rfl) (fun j2 n2 v2 h => ?_) (fun v3 s h hs => ?_)
 ·unfold BG at h
  refine wp rfl (qw 2 rfl (FF GR rfl (AT rfl (Aa ?_))))
  refine Be h (fun h => ?_) fun h => ?_
  ·refine Al (AN (AM (wq rfl (qL CT Cy rfl (qw 2 rfl ?_)))))
   refine BS h fun v5 a5 b5 h => qI GR AF a5 (Af b5) rfl (qJ A3 AF (Af b5) rfl ?_)
   refine BT h fun v6 a6 h => Ar [] (I9 N p0 v5 v6 a6) WW rfl (BX rfl (AI (by kernel_rfl) ?_))
   refine Be h (fun h => ?_) fun h => ?_
   ·refine wq rfl (qe rfl ?_)
    obtain rfl := sj h
    refine Ae (sm [] [(4, bD false)] [] rfl rfl) (Ap ?_)
    exact ⟨⟨[_], tm, rfl⟩, tv⟩
   ·refine Al (Ag Ay rfl (qm rfl (Bd rfl (qe rfl ?_))))
    exact sn [] h
  ·refine AS ?_
   exact sn [] h
 ·refine Ae hs (wq rfl (qe rfl ?_))
  obtain rfl := sj h
  refine Ae (sm [] [(4, bD true)] [] rfl rfl) (Ap ?_)
  exact ⟨⟨[_], tm, rfl⟩, tv⟩
theorem Jn (N : Nat) (p0 : Int) (r : (List (List Int))) (h : DB N p0 = some r) : Aq Tryz.prog 40 [iD p0] [(1, r.map (Fg An))] (oD (.own 0)) := by
 unfold DB at h
 refine cw (n := 64) (rs := [.tmp 2]) Tryz.func40 fun w0 S0 => ?_
 refine wq rfl (qa rfl (Aa (wq rfl (D4 JW KD Vm rfl (qa rfl (Aa (wp rfl (qe rfl ?_))))))))
 refine AH (L := DM N p0) h (fun v1 => mk [(0, iD p0), (3, oD (.own 2001)), (4, iD v1.2)] [(2001, .vec 1 (v1.1.map (Fg An)))]) (fun v2 => mk [(3, oD (.own 2002))] [(2002, .vec 1 (v2.map (Fg An)))]) (fun _ _ => rfl) (sm [(2001, 10)] _ _ rfl rfl) (fun j1 n1 v1 h => ?_) (fun v2 s h hs => ?_)
 ·unfold DM at h
  refine wp rfl (qw 2 rfl (AT rfl (Aa ?_)))
  refine Be h (fun h => ?_) fun h => ?_
  ·refine Al (AN (AM (wq rfl (qa rfl (Aa (wp rfl (qe rfl ?_)))))))
   refine AH (L := DK N p0 v1) h (fun v4 => mk [(0, iD p0), (3, oD (.own 2003)), (4, iD v1.2), (5, oD (.own 2004)), (6, iD v4.2)] [(2003, .vec 1 (v1.1.map (Fg An))), (2004, .vec 1 (v4.1.map (Fg An)))]) (fun v5 => mk [(0, iD p0), (4, iD v1.2), (5, oD (.own 2005))] [(2005, .vec 1 (v5.map (Fg An)))]) (fun _ _ => rfl) ((B2 5 2018 1 rfl rfl rfl).trans (sm [(2003, 2001), (2004, 2018)] _ _ rfl rfl)) (fun j4 n4 v4 h => ?_) (fun v5 s h hs => ?_)
   ·unfold DK at h
    refine wp rfl (qw 2 rfl (FF JW rfl (AT rfl (Aa ?_))))
    refine Be h (fun h => ?_) fun h => ?_
    ·refine Al (AN (AM (wq rfl (qe rfl ?_))))
     refine AH (L := DL N p0 v1 v4) h (fun v7 => mk [(0, iD p0), (3, oD (.own 2006)), (4, iD v1.2), (5, oD (.own 2007)), (6, iD v4.2), (7, iD v7.2)] [(2006, .vec 1 (v1.1.map (Fg An))), (2007, .vec 1 (v7.1.map (Fg An)))]) (fun v8 => mk [(0, iD p0), (3, oD (.own 2008)), (4, iD v1.2), (5, oD (.own 2009)), (6, iD v4.2)] [(2008, .vec 1 (v1.1.map (Fg An))), (2009, .vec 1 (v8.map (Fg An)))]) (fun _ _ => rfl) (sm [(2006, 2003), (2007, 2004)] _ _ rfl rfl) (fun j7 n7 v7 h => ?_) (fun v8 s h hs => ?_)
     ·unfold DL at h
      refine wp rfl (qw 2 rfl (AT rfl (Aa ?_)))
      refine Be h (fun h => ?_) fun h => ?_
      ·refine Al ?_
       refine AK h (fun v10 => mk [(0, iD p0), (3, oD (.own 2010)), (4, iD v1.2), (5, oD (.own 2011)), (6, iD v4.2), (7, iD v7.2)] [(2010, .vec 1 (v1.1.map (Fg An))), (2011, .vec 1 (v10.map (Fg An)))]) (fun j10 h => ?_) (fun v10 h => ?_)
       ·refine AM (wq rfl (qa rfl (Aa (wp rfl (qe rfl ?_)))))
        refine AH (L := Dy N v1 v4 v7) h (fun v11 => mk [(0, iD p0), (3, oD (.own 2012)), (4, iD v1.2), (5, oD (.own 2013)), (6, iD v4.2), (7, iD v7.2), (8, bD v11.1), (9, iD v11.2)] [(2012, .vec 1 (v1.1.map (Fg An))), (2013, .vec 1 (v7.1.map (Fg An)))]) (fun v12 => mk [(0, iD p0), (3, oD (.own 2014)), (4, iD v1.2), (5, oD (.own 2015)), (6, iD v4.2), (7, iD v7.2), (8, bD v12)] [(2014, .vec 1 (v1.1.map (Fg An))), (2015, .vec 1 (v7.1.map (Fg An)))]) (fun _ _ => rfl) (sm [(2012, 2006), (2013, 2007)] _ _ rfl rfl) (fun j11 n11 v11 h => ?_) (fun v12 s h hs => ?_)
        ·unfold Dy at h
         refine wp rfl (qw 3 rfl ?_)
         refine BS h fun v13 a13 b13 h => qI JW KD a13 (Af b13) rfl (qj AW (Af b13) rfl (AB Au rfl (AT rfl (Aa ?_))))
         refine Be h (fun h => ?_) fun h => ?_
         ·refine Al ?_
          refine AK h (fun v15 => mk [(0, iD p0), (3, oD (.own 2016)), (4, iD v1.2), (5, oD (.own 2017)), (6, iD v4.2), (7, iD v7.2), (8, bD v15), (9, iD v11.2)] [(2016, .vec 1 (v1.1.map (Fg An))), (2017, .vec 1 (v7.1.map (Fg An)))]) (fun j15 h => ?_) (fun v15 h => ?_)
          ·refine AM (Ag Ay rfl (qw 2 rfl ?_))
           refine Dr 37 h rfl (fun h => ?_) fun h => ?_
           ·refine qw 9 rfl (qp rfl (qe rfl ?_))
            exact sn [(2016, 2012), (2017, 2013)] h
           ·refine qw 2 rfl ?_
            refine BS h fun v17 a17 b17 h => qI JW KD a17 (Af b17) rfl (qj AW (Af b17) rfl (qm rfl ?_))
            refine BS h fun v18 a18 b18 h => qi Au Cz a18 (Af b18) rfl (qk BL rfl (qm rfl (Bs rfl (qp rfl (qe rfl ?_)))))
            exact sn [(2016, 2012), (2017, 2013)] h
          ·refine Ag Ay rfl (qm rfl (Bd rfl (qe rfl ?_)))
           exact sn [(2012, 2016), (2013, 2017)] h
         ·refine AS ?_
          exact sn [(2014, 2012), (2015, 2013)] h
        ·refine Ae hs (wq rfl (qm rfl (BX rfl (Aa ?_))))
         refine Be h (fun h => ?_) fun h => ?_
         ·refine Ag Ay rfl (qm rfl (D4 Au Cz I0 rfl (qw 2 rfl ?_)))
          refine BS h fun v20 a20 b20 h => qI JW KD a20 (Af b20) rfl (qj AW (Af b20) rfl ?_)
          refine Ex h fun c21 h => HJ (f := An) Au Au Cz Ja I0 (fun _ => rfl) c21 rfl (qm rfl (D4 Au Cz I0 rfl ?_))
          refine Ex h fun c22 h => DC (f := An) Au Au Cz Ja I0 c22 rfl (C6 (AU 59 _ _ rfl rfl) (D4 JW KD Vm rfl ?_))
          refine Ex h fun c23 h => DC (f := (Fg An)) JW JW KD VK Vm c23 rfl (qe rfl ?_)
          exact sn [(2010, 2014), (2011, 61)] h
         ·refine Al ?_
          exact sn [(2010, 2014), (2011, 2015)] h
       ·refine Ag Ay rfl (qm rfl (Bd rfl (qe rfl ?_)))
        exact sn [(2006, 2010), (2007, 2011)] h
      ·refine AS ?_
       exact sn [(2008, 2006), (2009, 2007)] h
     ·refine Ae hs (Ag Ay rfl (qm rfl (Bd rfl (qe rfl ?_))))
      exact sn [(2003, 2008), (2004, 2009)] h
    ·refine AS ?_
     exact sn [(2005, 2004)] h
   ·refine Ae hs (Ag Ay rfl (qm rfl (qa rfl (Aa (Ag Ay rfl (qm rfl (Bd rfl (qe rfl ?_))))))))
    exact sn [(2001, 2005)] h
  ·refine AS ?_
   exact sn [(2002, 2001)] h
 ·refine Ae hs (wq rfl (qm rfl (qe rfl ?_)))
  obtain rfl := sj h
  refine Ae (sm [(1000, 2002)] [(2, oD (.own 1000))] [(1000, .vec 1 (v2.map (Fg An)))] rfl rfl) (Ap ?_)
  exact ⟨⟨[_], tm, rfl⟩, ⟨rfl, tv⟩⟩
theorem JK (N : Nat) (p0 : Ab) (p1 : Ac) (p2 : Ad) (r : Ac × Bool) (h : C0 N p0 p1 p2 = some r) : Aq Tryz.prog 88 [.e (.agg (Ah p0)), .e (.agg (Az p1)), .e (.agg (Cd p2))] [(1, r.1.fd.map An), (1, r.1.fa.map An), (1, r.1.fc.map B3)] (.tup [.agg [.own 0, .own 1, .own 2], .one (.pure (.val (.bool r.2)))]) := by
 unfold C0 at h
 refine cw (n := 201) (rs := [.cell 6 38, .tmp 7]) Tryz.func88 fun w0 S0 => ?_
 refine wq rfl (qb rfl (qb rfl (qb rfl (qz Cc rfl (qa rfl (Aa (wq rfl (D4 Au Cz I0 rfl (qf Cf rfl (ql AW rfl ?_))))))))))
 refine Ex h fun c1 h => HJ (f := An) Au Au Cz Ja I0 (fun _ => rfl) c1 rfl (D4 Au Cz I0 rfl (qf Bf rfl (ql AW rfl ?_)))
 refine Ex h fun c2 h => HJ (f := An) Au Au Cz Ja I0 (fun _ => rfl) c2 rfl (D4 Cv EP Mn rfl (qf BZ rfl (ql F5 rfl ?_)))
 refine Ex h fun c3 h => HJ (f := B3) Cv Cv EP Nj Mn (fun _ => rfl) c3 rfl (A8 Cc F3 rfl (qz Cc rfl (qs AF rfl (AI (by kernel_rfl) (wq rfl (qf D7 rfl (ql BL rfl (qe rfl ?_))))))))
 refine AK h (fun v4 => mk [(6, oD (.ptr 6 0)), (8, oD (.ptr 8 0))] [(6, .box [.pure (.nil0), .pure (.nil0), .pure (.nil0)]), (8, .box [.own 2001, .own 2002, .own 2003]), (2001, .vec 1 (v4.1.map An)), (2002, .vec 1 (v4.2.1.map An)), (2003, .vec 1 (v4.2.2.map B3))]) (fun j4 h => ?_) (fun v4 h => ?_)
 ·refine wq rfl (qf DW rfl (ql BL rfl (Aa (AM (wq rfl (Bs rfl (qe rfl ?_)))))))
  refine Be h (fun h => ?_) fun h => ?_
  ·refine AN ?_
   refine AK h (fun v6 => mk [(3, oD (.ptr 3 0)), (5, oD (.ptr 5 0)), (6, oD (.ptr 6 0)), (8, oD (.ptr 8 0)), (9, iD p2.fh), (60, bD v6)] [(3, .box (Ah p0)), (5, .box (Cd p2)), (6, .box [.pure (.nil0), .pure (.nil0), .pure (.nil0)]), (8, .box [.own 2004, .own 2005, .own 2006]), (2004, .vec 1 (((([] : List Int)) ++ p1.fd).map An)), (2005, .vec 1 (((([] : List Int)) ++ p1.fa).map An)), (2006, .vec 1 (((([] : List Int)) ++ p1.fc).map B3))]) (fun j6 h => ?_) (fun v6 h => ?_)
   ·refine Ag Ay rfl (qf Bf rfl (ql AW rfl (qm rfl ?_)))
    refine BS h fun v7 a7 b7 h => qi Au Cz a7 (Af b7) rfl (qk BL rfl (El rfl (qm rfl ?_)))
    refine Dr 51 h rfl (fun h => ?_) fun h => ?_
    ·refine qw 8 rfl (qp rfl (AI (by kernel_rfl) ?_))
     exact sn [(2004, 18), (2005, 22), (2006, 26)] h
    ·refine qf Fy rfl (ql BL rfl (qf Cf rfl (ql AW rfl (qm rfl ?_))))
     refine BS h fun v9 a9 b9 h => qi Au Cz a9 (Af b9) rfl (qk BL rfl (Bs rfl (qp rfl (AI (by kernel_rfl) ?_))))
     exact sn [(2004, 18), (2005, 22), (2006, 26)] h
   ·refine Be h (fun h => ?_) fun h => ?_
    ·refine wq rfl (A8 Cc F3 rfl (qs AF rfl (qe rfl ?_)))
     obtain rfl := sj h
     refine Ae ((Ax 6 0 2007 1 _ rfl rfl rfl rfl).trans ((Ax 6 1 2008 1 _ rfl rfl rfl rfl).trans ((Ax 6 2 2009 1 _ rfl rfl rfl rfl).trans (sm [(1000, 2007), (1001, 2008), (1002, 2009)] [(6, oD (.ptr 6 0)), (7, bD false)] [(6, .box [.own 1000, .own 1001, .own 1002]), (1000, .vec 1 ((([] : List Int)).map An)), (1001, .vec 1 ((([] : List Int)).map An)), (1002, .vec 1 ((([] : List Int)).map B3))] rfl rfl)))) (Ap ?_)
     exact ⟨⟨[_, _], ⟨.cellN _ _ _ _ _ _ _ rfl rfl A3 AF rfl rfl (GS rfl), tm⟩, rfl⟩, ⟨rfl, rfl, rfl, tv⟩⟩
    ·refine Al (wq rfl (qf Bf rfl (ql AW rfl (qm rfl (qf Fy rfl (ql BL rfl ?_))))))
     refine BS h fun v11 a11 b11 h => qI Au Cz a11 (Af b11) rfl ?_
     refine Ek rfl rfl rfl rfl (Af b11) rfl Cz rfl (IE rfl) (Ej An ((([] : List Int)) ++ p1.fa) _ p2.fi) ?_
     refine Aa (wq rfl (qe rfl ?_))
     refine AH (L := Bx N p0 p2) h (fun v12 => mk [(3, oD (.ptr 3 0)), (5, oD (.ptr 5 0)), (6, oD (.ptr 6 0)), (8, oD (.ptr 8 0)), (9, iD p2.fh), (10, iD v12.2)] [(3, .box (Ah p0)), (5, .box (Cd p2)), (6, .box [.pure (.nil0), .pure (.nil0), .pure (.nil0)]), (8, .box [.own 2010, .own 2011, .own 2012]), (2010, .vec 1 (((([] : List Int)) ++ p1.fd).map An)), (2011, .vec 1 ((((([] : List Int)) ++ p1.fa).set ((p2.fh).toNat) p2.fi).map An)), (2012, .vec 1 (v12.1.map B3))]) (fun v13 => mk [(6, oD (.ptr 6 0)), (8, oD (.ptr 8 0))] [(6, .box [.pure (.nil0), .pure (.nil0), .pure (.nil0)]), (8, .box [.own 2013, .own 2014, .own 2015]), (2013, .vec 1 (((([] : List Int)) ++ p1.fd).map An)), (2014, .vec 1 ((((([] : List Int)) ++ p1.fa).set ((p2.fh).toNat) p2.fi).map An)), (2015, .vec 1 (v13.map B3))]) (fun _ _ => rfl) (sm [(2010, 2004), (2011, 2005), (2012, 2006)] _ _ rfl rfl) (fun j12 n12 v12 h => ?_) (fun v13 s h hs => ?_)
     ·unfold Bx at h
      refine wp rfl (qm rfl (qf Ce rfl (ql GF rfl (AB DJ rfl (AT rfl (Aa ?_))))))
      refine Be h (fun h => ?_) fun h => ?_
      ·refine Al ?_
       refine AK h (fun v15 => mk [(3, oD (.ptr 3 0)), (5, oD (.ptr 5 0)), (6, oD (.ptr 6 0)), (8, oD (.ptr 8 0)), (9, iD p2.fh), (10, iD v12.2)] [(3, .box (Ah p0)), (5, .box (Cd p2)), (6, .box [.pure (.nil0), .pure (.nil0), .pure (.nil0)]), (8, .box [.own 2016, .own 2017, .own 2018]), (2016, .vec 1 (((([] : List Int)) ++ p1.fd).map An)), (2017, .vec 1 ((((([] : List Int)) ++ p1.fa).set ((p2.fh).toNat) p2.fi).map An)), (2018, .vec 1 (v15.map B3))]) (fun j15 h => ?_) (fun v15 h => ?_)
       ·refine AM ?_
        refine AK h (fun v16 => mk [(3, oD (.ptr 3 0)), (5, oD (.ptr 5 0)), (6, oD (.ptr 6 0)), (8, oD (.ptr 8 0)), (9, iD p2.fh), (10, iD v12.2), (90, bD v16)] [(3, .box (Ah p0)), (5, .box (Cd p2)), (6, .box [.pure (.nil0), .pure (.nil0), .pure (.nil0)]), (8, .box [.own 2019, .own 2020, .own 2021]), (2019, .vec 1 (((([] : List Int)) ++ p1.fd).map An)), (2020, .vec 1 ((((([] : List Int)) ++ p1.fa).set ((p2.fh).toNat) p2.fi).map An)), (2021, .vec 1 (v12.1.map B3))]) (fun j16 h => ?_) (fun v16 h => ?_)
        ·refine Ag Ay rfl (qf Ce rfl (ql GF rfl (qm rfl ?_)))
         refine BS h fun v17 a17 b17 h => qi DJ Du a17 (Af b17) rfl (qg Ci rfl (qk BL rfl (qm rfl (Bs rfl (qm rfl ?_)))))
         refine Dr 83 h rfl (fun h => ?_) fun h => ?_
         ·refine qf Ce rfl (ql GF rfl (qm rfl ?_))
          refine BS h fun v19 a19 b19 h => qi DJ Du a19 (Af b19) rfl (qK GB Du rfl ?_)
          refine BT h fun v20 a20 h => Ar [] (Bz N v19 v20 a20) MS rfl (qp rfl (Aa ?_))
          exact sn [(2019, 2010), (2020, 2011), (2021, 2012)] h
         ·refine qw 6 rfl (qp rfl (Aa ?_))
          exact sn [(2019, 2010), (2020, 2011), (2021, 2012)] h
        ·refine Be h (fun h => ?_) fun h => ?_
         ·refine Ag Ay rfl (qf BZ rfl (ql F5 rfl (qm rfl (qf BZ rfl (ql F5 rfl (qm rfl ?_))))))
          refine BS h fun v22 a22 b22 h => qI Cv EP a22 (Af b22) rfl (qj I6 (Af b22) rfl (qf Fy rfl (ql BL rfl ?_)))
          refine Ex h fun c23 h => HU rfl c23 (Q2 rfl ?_)
          refine BS h fun v24 a24 b24 h => qI Cv EP a24 (Af b24) rfl ?_
          refine Ek rfl rfl rfl rfl (Af b24) rfl EP rfl (IE rfl) (Ej B3 v12.1 _ ((KW .u8 v22 ((C8 .u8 1 p2.fi))))) ?_
          refine AI (by kernel_rfl) ?_
          exact sn [(2016, 2019), (2017, 2020), (2018, 2021)] h
         ·refine Al ?_
          exact sn [(2016, 2019), (2017, 2020), (2018, 2021)] h
       ·refine Ag Ay rfl (qm rfl (Bd rfl (qe rfl ?_)))
        exact sn [(2010, 2016), (2011, 2017), (2012, 2018)] h
      ·refine AS ?_
       exact sn [(2013, 2010), (2014, 2011), (2015, 2012)] h
     ·exact Th _ h (hs.trans (sm [(2001, 2013), (2002, 2014), (2003, 2015)] _ _ rfl rfl))
  ·refine wq rfl (Bs rfl (qe rfl ?_))
   refine Be h (fun h => ?_) fun h => ?_
   ·refine wp rfl (qf Bf rfl (ql AW rfl (qm rfl ?_)))
    refine BS h fun v26 a26 b26 h => qi Au Cz a26 (Af b26) rfl (qk BL rfl (AT rfl (Aa ?_)))
    refine Be h (fun h => ?_) fun h => ?_
    ·refine wq rfl (A8 Cc F3 rfl (qs AF rfl (qe rfl ?_)))
     obtain rfl := sj h
     refine Ae ((Ax 6 0 2022 1 _ rfl rfl rfl rfl).trans ((Ax 6 1 2023 1 _ rfl rfl rfl rfl).trans ((Ax 6 2 2024 1 _ rfl rfl rfl rfl).trans (sm [(1000, 2022), (1001, 2023), (1002, 2024)] [(6, oD (.ptr 6 0)), (7, bD false)] [(6, .box [.own 1000, .own 1001, .own 1002]), (1000, .vec 1 ((([] : List Int)).map An)), (1001, .vec 1 ((([] : List Int)).map An)), (1002, .vec 1 ((([] : List Int)).map B3))] rfl rfl)))) (Ap ?_)
     exact ⟨⟨[_, _], ⟨.cellN _ _ _ _ _ _ _ rfl rfl A3 AF rfl rfl (GS rfl), tm⟩, rfl⟩, ⟨rfl, rfl, rfl, tv⟩⟩
    ·refine Al (Ag Ay rfl (qf Cf rfl (ql AW rfl (qm rfl (qf Bf rfl (ql AW rfl (qm rfl (qf Bf rfl (ql AW rfl (qm rfl ?_))))))))))
     refine BS h fun v28 a28 b28 h => qi Au Cz a28 (Af b28) rfl (qk BL rfl ?_)
     refine BS h fun v29 a29 b29 h => qI Au Cz a29 (Af b29) rfl ?_
     refine Ek rfl rfl rfl rfl (Af b29) rfl Cz rfl (IE rfl) (Ej An ((([] : List Int)) ++ p1.fd) _ v28) ?_
     refine BS h fun v30 a30 b30 h => qI Au Cz a30 (Af b30) rfl ?_
     refine Ek rfl rfl rfl rfl (Af b30) rfl Cz rfl (IE rfl) (Ej An ((([] : List Int)) ++ p1.fa) _ ((-1))) ?_
     refine AI (by kernel_rfl) ?_
     exact sn [(2001, 18), (2002, 22), (2003, 26)] h
   ·refine wq rfl (Bs rfl (qe rfl ?_))
    refine Be h (fun h => ?_) fun h => ?_
    ·refine wq rfl (qf Ce rfl (ql GF rfl (qm rfl ?_)))
     refine BS h fun v32 a32 b32 h => qi DJ Du a32 (Af b32) rfl (qK GB Du rfl (qz KR rfl (qs Du rfl (Aa (wp rfl (qL GB Du rfl ?_))))))
     refine BT h fun v33 a33 h => Ar [] (Bz N v32 v33 a33) MS rfl (BX rfl (Aa ?_))
     refine Be h (fun h => ?_) fun h => ?_
     ·refine wq rfl (A8 Cc F3 rfl (qs AF rfl (qe rfl ?_)))
      obtain rfl := sj h
      refine Ae ((Ax 6 0 2025 1 _ rfl rfl rfl rfl).trans ((Ax 6 1 2026 1 _ rfl rfl rfl rfl).trans ((Ax 6 2 2027 1 _ rfl rfl rfl rfl).trans (sm [(1000, 2025), (1001, 2026), (1002, 2027)] [(6, oD (.ptr 6 0)), (7, bD false)] [(6, .box [.own 1000, .own 1001, .own 1002]), (1000, .vec 1 ((([] : List Int)).map An)), (1001, .vec 1 ((([] : List Int)).map An)), (1002, .vec 1 ((([] : List Int)).map B3))] rfl rfl)))) (Ap ?_)
      exact ⟨⟨[_, _], ⟨.cellN _ _ _ _ _ _ _ rfl rfl A3 AF rfl rfl (GS rfl), tm⟩, rfl⟩, ⟨rfl, rfl, rfl, tv⟩⟩
     ·refine Al (wq rfl (qL A3 AF rfl (qf Ci rfl (ql BL rfl ?_))))
      refine BT h fun v35 a35 h => Ar [] (CR N p1 v32.fg v35 a35) Q5 rfl (qa rfl (Aa (wp rfl (qf BZ rfl (ql F5 rfl (qm rfl ?_))))))
      refine BS h fun v36 a36 b36 h => qi Cv EP a36 (Af b36) rfl (qk I6 rfl (qm rfl (Bs rfl (Aa ?_))))
      refine Be h (fun h => ?_) fun h => ?_
      ·refine wq rfl (A8 Cc F3 rfl (qs AF rfl (qe rfl ?_)))
       obtain rfl := sj h
       refine Ae ((Ax 6 0 2028 1 _ rfl rfl rfl rfl).trans ((Ax 6 1 2029 1 _ rfl rfl rfl rfl).trans ((Ax 6 2 2030 1 _ rfl rfl rfl rfl).trans (sm [(1000, 2028), (1001, 2029), (1002, 2030)] [(6, oD (.ptr 6 0)), (7, bD false)] [(6, .box [.own 1000, .own 1001, .own 1002]), (1000, .vec 1 ((([] : List Int)).map An)), (1001, .vec 1 ((([] : List Int)).map An)), (1002, .vec 1 ((([] : List Int)).map B3))] rfl rfl)))) (Ap ?_)
       exact ⟨⟨[_, _], ⟨.cellN _ _ _ _ _ _ _ rfl rfl A3 AF rfl rfl (GS rfl), tm⟩, rfl⟩, ⟨rfl, rfl, rfl, tv⟩⟩
      ·refine Al (wp rfl (qe rfl ?_))
       refine AH (L := Bm N p0 p1 p2 v32 v35) h (fun v38 => mk [(3, oD (.ptr 3 0)), (4, oD (.ptr 4 0)), (6, oD (.ptr 6 0)), (8, oD (.ptr 8 0)), (9, iD p2.fh), (11, oD (.ptr 11 0)), (12, pD (.val (.int .u8 v35))), (13, iD v38)] [(3, .box (Ah p0)), (4, .box (Az p1)), (6, .box [.pure (.nil0), .pure (.nil0), .pure (.nil0)]), (8, .box [.own 2031, .own 2032, .own 2033]), (11, .box (A7 v32)), (2031, .vec 1 (((([] : List Int)) ++ p1.fd).map An)), (2032, .vec 1 (((([] : List Int)) ++ p1.fa).map An)), (2033, .vec 1 (((([] : List Int)) ++ p1.fc).map B3))]) (fun v39 => mk [(6, oD (.ptr 6 0)), (8, oD (.ptr 8 0)), (9, iD p2.fh), (12, pD (.val (.int .u8 v35)))] [(6, .box [.pure (.nil0), .pure (.nil0), .pure (.nil0)]), (8, .box [.own 2034, .own 2035, .own 2036]), (2034, .vec 1 (((([] : List Int)) ++ p1.fd).map An)), (2035, .vec 1 (((([] : List Int)) ++ p1.fa).map An)), (2036, .vec 1 (((([] : List Int)) ++ p1.fc).map B3))]) (fun _ _ => rfl) (sm [(2031, 18), (2032, 22), (2033, 26)] _ _ rfl rfl) (fun j38 n38 v38 h => ?_) (fun v39 s h hs => ?_)
       ·unfold Bm at h
        refine wp rfl (qm rfl (qf Bg rfl (ql AW rfl (qf Ci rfl (ql BL rfl ?_)))))
        refine BS h fun v40 a40 b40 h => qi Au Cz a40 (Af b40) rfl (qk BL rfl (AT rfl (Aa ?_)))
        refine Be h (fun h => ?_) fun h => ?_
        ·refine Al (AN (AM ?_))
         refine AK h (fun v42 => mk [(3, oD (.ptr 3 0)), (4, oD (.ptr 4 0)), (6, oD (.ptr 6 0)), (8, oD (.ptr 8 0)), (9, iD p2.fh), (11, oD (.ptr 11 0)), (12, pD (.val (.int .u8 v35))), (13, iD v38), (14, bD v42)] [(3, .box (Ah p0)), (4, .box (Az p1)), (6, .box [.pure (.nil0), .pure (.nil0), .pure (.nil0)]), (8, .box [.own 2037, .own 2038, .own 2039]), (11, .box (A7 v32)), (2037, .vec 1 (((([] : List Int)) ++ p1.fd).map An)), (2038, .vec 1 (((([] : List Int)) ++ p1.fa).map An)), (2039, .vec 1 (((([] : List Int)) ++ p1.fc).map B3))]) (fun j42 h => ?_) (fun v42 h => ?_)
         ·refine Ag Ay rfl (qf BZ rfl (ql F5 rfl (qm rfl ?_)))
          refine BS h fun v43 a43 b43 h => qi Cv EP a43 (Af b43) rfl (qk I6 rfl (qm rfl ?_))
          refine BT h fun v44 a44 h => Ar [] (Fa N v43 v38 v44 a44) QD rfl (qm rfl ?_)
          refine Dr 166 h rfl (fun h => ?_) fun h => ?_
          ·refine qw 2 rfl ?_
           refine BT h fun v46 a46 h => Ar [] (Fa N v35 v38 v46 a46) QD rfl (BX rfl (qp rfl (qe rfl ?_)))
           exact sn [(2037, 2031), (2038, 2032), (2039, 2033)] h
          ·refine qw 4 rfl (qp rfl (qe rfl ?_))
           exact sn [(2037, 2031), (2038, 2032), (2039, 2033)] h
         ·refine AK h (fun v47 => mk [(3, oD (.ptr 3 0)), (4, oD (.ptr 4 0)), (6, oD (.ptr 6 0)), (8, oD (.ptr 8 0)), (9, iD p2.fh), (11, oD (.ptr 11 0)), (12, pD (.val (.int .u8 v35))), (13, iD v38), (193, bD v47)] [(3, .box (Ah p0)), (4, .box (Az p1)), (6, .box [.pure (.nil0), .pure (.nil0), .pure (.nil0)]), (8, .box [.own 2040, .own 2041, .own 2042]), (11, .box (A7 v32)), (2040, .vec 1 (((([] : List Int)) ++ p1.fd).map An)), (2041, .vec 1 (((([] : List Int)) ++ p1.fa).map An)), (2042, .vec 1 (((([] : List Int)) ++ p1.fc).map B3))]) (fun j47 h => ?_) (fun v47 h => ?_)
          ·refine Ag Ay rfl (qw 2 rfl ?_)
           refine Dr 173 h rfl (fun h => ?_) fun h => ?_
           ·refine qf E8 rfl (ql BL rfl (Bs rfl (qp rfl (qm rfl ?_))))
            refine Dr 178 h rfl (fun h => ?_) fun h => ?_
            ·refine qf FX rfl (ql Jj rfl (qm rfl ?_))
             refine BS h fun v50 a50 b50 h => qi FI LW a50 (Af b50) rfl (qk NT rfl (qf Cf rfl (ql AW rfl (qf Ci rfl (ql BL rfl ?_)))))
             refine BS h fun v51 a51 b51 h => qi Au Cz a51 (Af b51) rfl (qk BL rfl ?_)
             refine BS h fun v52 a52 b52 h => qi GE Qg a52 (Af b52) rfl (qk Qu rfl (BX rfl (qp rfl (AI (by kernel_rfl) ?_))))
             exact sn [(2040, 2037), (2041, 2038), (2042, 2039)] h
            ·refine qw 14 rfl (qp rfl (AI (by kernel_rfl) ?_))
             exact sn [(2040, 2037), (2041, 2038), (2042, 2039)] h
           ·refine qw 3 rfl (qp rfl (qw 15 rfl (qp rfl (AI (by kernel_rfl) ?_))))
            exact sn [(2040, 2037), (2041, 2038), (2042, 2039)] h
          ·refine Be h (fun h => ?_) fun h => ?_
           ·refine wq rfl (A8 Cc F3 rfl (qs AF rfl (qe rfl ?_)))
            obtain rfl := sj h
            refine Ae ((Ax 6 0 2043 1 _ rfl rfl rfl rfl).trans ((Ax 6 1 2044 1 _ rfl rfl rfl rfl).trans ((Ax 6 2 2045 1 _ rfl rfl rfl rfl).trans (sm [(1000, 2043), (1001, 2044), (1002, 2045)] [(6, oD (.ptr 6 0)), (7, bD false)] [(6, .box [.own 1000, .own 1001, .own 1002]), (1000, .vec 1 ((([] : List Int)).map An)), (1001, .vec 1 ((([] : List Int)).map An)), (1002, .vec 1 ((([] : List Int)).map B3))] rfl rfl)))) (Ap ?_)
            exact ⟨⟨[_, _], ⟨.cellN _ _ _ _ _ _ _ rfl rfl A3 AF rfl rfl (GS rfl), tm⟩, rfl⟩, ⟨rfl, rfl, rfl, tv⟩⟩
           ·refine Al (Ag Ay rfl (qm rfl (Bd rfl (qe rfl ?_))))
            exact sn [(2031, 2040), (2032, 2041), (2033, 2042)] h
        ·refine AS ?_
         exact sn [(2034, 2031), (2035, 2032), (2036, 2033)] h
       ·refine Ae hs (Ag Ay rfl (qf BZ rfl (ql F5 rfl (qw 2 rfl ?_))))
        refine BS h fun v54 a54 b54 h => qI Cv EP a54 (Af b54) rfl ?_
        refine Ek rfl rfl rfl rfl (Af b54) rfl EP rfl (IE rfl) (Ej B3 ((([] : List Int)) ++ p1.fc) _ v35) ?_
        refine Aa ?_
        exact sn [(2001, 2034), (2002, 2035), (2003, 2036)] h
    ·refine wp rfl (qf Bf rfl (ql AW rfl (qm rfl ?_)))
     refine BS h fun v55 a55 b55 h => qi Au Cz a55 (Af b55) rfl (qk BL rfl (AT rfl (Aa ?_)))
     refine Be h (fun h => ?_) fun h => ?_
     ·refine wq rfl (A8 Cc F3 rfl (qs AF rfl (qe rfl ?_)))
      obtain rfl := sj h
      refine Ae ((Ax 6 0 2046 1 _ rfl rfl rfl rfl).trans ((Ax 6 1 2047 1 _ rfl rfl rfl rfl).trans ((Ax 6 2 2048 1 _ rfl rfl rfl rfl).trans (sm [(1000, 2046), (1001, 2047), (1002, 2048)] [(6, oD (.ptr 6 0)), (7, bD false)] [(6, .box [.own 1000, .own 1001, .own 1002]), (1000, .vec 1 ((([] : List Int)).map An)), (1001, .vec 1 ((([] : List Int)).map An)), (1002, .vec 1 ((([] : List Int)).map B3))] rfl rfl)))) (Ap ?_)
      exact ⟨⟨[_, _], ⟨.cellN _ _ _ _ _ _ _ rfl rfl A3 AF rfl rfl (GS rfl), tm⟩, rfl⟩, ⟨rfl, rfl, rfl, tv⟩⟩
     ·refine Al (Ag Ay rfl (qf Bf rfl (ql AW rfl (qm rfl ?_))))
      refine BS h fun v57 a57 b57 h => qI Au Cz a57 (Af b57) rfl ?_
      refine Ek rfl rfl rfl rfl (Af b57) rfl Cz rfl (IE rfl) (Ej An ((([] : List Int)) ++ p1.fa) _ ((-1))) ?_
      refine Aa ?_
      exact sn [(2001, 18), (2002, 22), (2003, 26)] h
 ·refine wq rfl (qL A3 AF rfl (qs AF rfl (qe rfl ?_)))
  obtain rfl := sj h
  refine Ae (sm [(1000, 2001), (1001, 2002), (1002, 2003)] [(6, oD (.ptr 6 0)), (7, bD true)] [(6, .box [.own 1000, .own 1001, .own 1002]), (1000, .vec 1 (v4.1.map An)), (1001, .vec 1 (v4.2.1.map An)), (1002, .vec 1 (v4.2.2.map B3))] rfl rfl) (Ap ?_)
  exact ⟨⟨[_, _], ⟨.cellN _ _ _ _ _ _ _ rfl rfl A3 AF rfl rfl (GS rfl), tm⟩, rfl⟩, ⟨rfl, rfl, rfl, tv⟩⟩
theorem JM (N : Nat) (p0 : Ab) (p1 : Ac) (p2 : Ad) (r : Ac × Int) (h : DQ N p0 p1 p2 = some r) : Aq Tryz.prog 64 [.e (.agg (Ah p0)), .e (.agg (Az p1)), .e (.agg (Cd p2))] [(1, r.1.fd.map An), (1, r.1.fa.map An), (1, r.1.fc.map B3)] (.tup [.agg [.own 0, .own 1, .own 2], .one (iC r.2)]) := by
 unfold DQ at h
 refine cw (n := 73) (rs := [.cell 6 38, .tmp 7]) Tryz.func64 fun w0 S0 => ?_
 refine wq rfl (qb rfl (qb rfl (qb rfl (qz Cc rfl (qa rfl (Aa (wp rfl (qL CT Cy rfl (qL A3 AF rfl ?_)))))))))
 refine BT h fun v1 a1 h => Ar [] (Hr N p0 p1 v1 a1) VW rfl (qa rfl (Aa (wq rfl (qm rfl (BF rfl (Aa ?_))))))
 refine Be h (fun h => ?_) fun h => ?_
 ·refine wq rfl (A8 Cc F3 rfl (qm rfl (qs AF rfl (qe rfl ?_))))
  obtain rfl := sj h
  refine Ae ((Ax 6 0 2001 1 _ rfl rfl rfl rfl).trans ((Ax 6 1 2002 1 _ rfl rfl rfl rfl).trans ((Ax 6 2 2003 1 _ rfl rfl rfl rfl).trans (sm [(1000, 2001), (1001, 2002), (1002, 2003)] [(6, oD (.ptr 6 0)), (7, iD v1)] [(6, .box [.own 1000, .own 1001, .own 1002]), (1000, .vec 1 ((([] : List Int)).map An)), (1001, .vec 1 ((([] : List Int)).map An)), (1002, .vec 1 ((([] : List Int)).map B3))] rfl rfl)))) (Ap ?_)
  exact ⟨⟨[_, _], ⟨.cellN _ _ _ _ _ _ _ rfl rfl A3 AF rfl rfl (GS rfl), tm⟩, rfl⟩, ⟨rfl, rfl, rfl, tv⟩⟩
 ·refine Al (wp rfl (qL F7 Ch rfl ?_))
  refine BT h fun v3 a3 h => Ar [] (Ho N p2 v3 a3) WB rfl (BX rfl (Aa ?_))
  refine Be h (fun h => ?_) fun h => ?_
  ·refine wq rfl (A8 Cc F3 rfl (qs AF rfl (qe rfl ?_)))
   obtain rfl := sj h
   refine Ae ((Ax 6 0 2004 1 _ rfl rfl rfl rfl).trans ((Ax 6 1 2005 1 _ rfl rfl rfl rfl).trans ((Ax 6 2 2006 1 _ rfl rfl rfl rfl).trans (sm [(1000, 2004), (1001, 2005), (1002, 2006)] [(6, oD (.ptr 6 0)), (7, iD 1)] [(6, .box [.own 1000, .own 1001, .own 1002]), (1000, .vec 1 ((([] : List Int)).map An)), (1001, .vec 1 ((([] : List Int)).map An)), (1002, .vec 1 ((([] : List Int)).map B3))] rfl rfl)))) (Ap ?_)
   exact ⟨⟨[_, _], ⟨.cellN _ _ _ _ _ _ _ rfl rfl A3 AF rfl rfl (GS rfl), tm⟩, rfl⟩, ⟨rfl, rfl, rfl, tv⟩⟩
  ·refine Al (AN ?_)
   refine AK h (fun v5 => mk [(3, oD (.ptr 3 0)), (4, oD (.ptr 4 0)), (5, oD (.ptr 5 0)), (6, oD (.ptr 6 0)), (45, bD v5)] [(3, .box (Ah p0)), (4, .box (Az p1)), (5, .box (Cd p2)), (6, .box [.pure (.nil0), .pure (.nil0), .pure (.nil0)])]) (fun j5 h => ?_) (fun v5 h => ?_)
   ·refine Ag Ay rfl (qf DW rfl (ql BL rfl (Bs rfl (qm rfl ?_))))
    refine Dr 25 h rfl (fun h => ?_) fun h => ?_
    ·refine qf D7 rfl (ql BL rfl (qf Ce rfl (ql GF rfl (AB DJ rfl (El rfl (qp rfl (qm rfl ?_)))))))
     refine Dr 33 h rfl (fun h => ?_) fun h => ?_
     ·refine qw 4 rfl (qu rfl (qu rfl (qu rfl (qu rfl (qu rfl (qu rfl (qn rfl (qp rfl (Aa ?_)))))))))
      exact sn [] h
     ·refine qf DW rfl (ql BL rfl (BF rfl (qm rfl ?_)))
      refine Dr 37 h rfl (fun h => ?_) fun h => ?_
      ·refine qf D7 rfl (ql BL rfl (qf Bg rfl (ql AW rfl (AB Au rfl (El rfl (qp rfl (qp rfl (Aa ?_))))))))
       exact sn [] h
      ·refine qw 6 rfl (qp rfl (qp rfl (Aa ?_)))
       exact sn [] h
    ·refine qw 6 rfl (qp rfl (qm rfl (qf DW rfl (ql BL rfl (BF rfl (qm rfl ?_))))))
     refine Dr 37 h rfl (fun h => ?_) fun h => ?_
     ·refine qf D7 rfl (ql BL rfl (qf Bg rfl (ql AW rfl (AB Au rfl (El rfl (qp rfl (qp rfl (Aa ?_))))))))
      exact sn [] h
     ·refine qw 6 rfl (qp rfl (qp rfl (Aa ?_)))
      exact sn [] h
   ·refine Be h (fun h => ?_) fun h => ?_
    ·refine wq rfl (A8 Cc F3 rfl (qs AF rfl (qe rfl ?_)))
     obtain rfl := sj h
     refine Ae ((Ax 6 0 2007 1 _ rfl rfl rfl rfl).trans ((Ax 6 1 2008 1 _ rfl rfl rfl rfl).trans ((Ax 6 2 2009 1 _ rfl rfl rfl rfl).trans (sm [(1000, 2007), (1001, 2008), (1002, 2009)] [(6, oD (.ptr 6 0)), (7, iD 4)] [(6, .box [.own 1000, .own 1001, .own 1002]), (1000, .vec 1 ((([] : List Int)).map An)), (1001, .vec 1 ((([] : List Int)).map An)), (1002, .vec 1 ((([] : List Int)).map B3))] rfl rfl)))) (Ap ?_)
     exact ⟨⟨[_, _], ⟨.cellN _ _ _ _ _ _ _ rfl rfl A3 AF rfl rfl (GS rfl), tm⟩, rfl⟩, ⟨rfl, rfl, rfl, tv⟩⟩
    ·refine Al (AN ?_)
     refine AK h (fun v11 => mk [(3, oD (.ptr 3 0)), (4, oD (.ptr 4 0)), (5, oD (.ptr 5 0)), (6, oD (.ptr 6 0)), (60, bD v11)] [(3, .box (Ah p0)), (4, .box (Az p1)), (5, .box (Cd p2)), (6, .box [.pure (.nil0), .pure (.nil0), .pure (.nil0)])]) (fun j11 h => ?_) (fun v11 h => ?_)
     ·refine Ag Ay rfl (qf DW rfl (ql BL rfl (Bs rfl (qm rfl ?_))))
      refine Dr 50 h rfl (fun h => ?_) fun h => ?_
      ·refine qf Fy rfl (ql BL rfl (qf Bg rfl (ql AW rfl (qf D7 rfl (ql BL rfl ?_)))))
       refine BS h fun v13 a13 b13 h => qi Au Cz a13 (Af b13) rfl (qk BL rfl (El rfl (qp rfl (AI (by kernel_rfl) ?_))))
       exact sn [] h
      ·refine qw 9 rfl (qp rfl (AI (by kernel_rfl) ?_))
       exact sn [] h
     ·refine Be h (fun h => ?_) fun h => ?_
      ·refine wq rfl (A8 Cc F3 rfl (qs AF rfl (qe rfl ?_)))
       obtain rfl := sj h
       refine Ae ((Ax 6 0 2010 1 _ rfl rfl rfl rfl).trans ((Ax 6 1 2011 1 _ rfl rfl rfl rfl).trans ((Ax 6 2 2012 1 _ rfl rfl rfl rfl).trans (sm [(1000, 2010), (1001, 2011), (1002, 2012)] [(6, oD (.ptr 6 0)), (7, iD 4)] [(6, .box [.own 1000, .own 1001, .own 1002]), (1000, .vec 1 ((([] : List Int)).map An)), (1001, .vec 1 ((([] : List Int)).map An)), (1002, .vec 1 ((([] : List Int)).map B3))] rfl rfl)))) (Ap ?_)
       exact ⟨⟨[_, _], ⟨.cellN _ _ _ _ _ _ _ rfl rfl A3 AF rfl rfl (GS rfl), tm⟩, rfl⟩, ⟨rfl, rfl, rfl, tv⟩⟩
      ·refine Al (wq rfl (qL CT Cy rfl (qL A3 AF rfl (qL F7 Ch rfl ?_))))
       refine BT h fun v15 a15 h => Ar [2013, 2014, 2015] (JK N p0 p1 p2 v15 a15) WQ rfl (qm rfl (qx rfl (qx rfl (qz Cc rfl (qs AF rfl (qa rfl (Aa (wp rfl (qm rfl (BX rfl (Aa ?_)))))))))))
       refine Be h (fun h => ?_) fun h => ?_
       ·refine wq rfl (A8 Cc F3 rfl (qs AF rfl (qe rfl ?_)))
        obtain rfl := sj h
        refine Ae ((Ax 6 0 2016 1 _ rfl rfl rfl rfl).trans ((Ax 6 1 2017 1 _ rfl rfl rfl rfl).trans ((Ax 6 2 2018 1 _ rfl rfl rfl rfl).trans (sm [(1000, 2016), (1001, 2017), (1002, 2018)] [(6, oD (.ptr 6 0)), (7, iD 11)] [(6, .box [.own 1000, .own 1001, .own 1002]), (1000, .vec 1 ((([] : List Int)).map An)), (1001, .vec 1 ((([] : List Int)).map An)), (1002, .vec 1 ((([] : List Int)).map B3))] rfl rfl)))) (Ap ?_)
        exact ⟨⟨[_, _], ⟨.cellN _ _ _ _ _ _ _ rfl rfl A3 AF rfl rfl (GS rfl), tm⟩, rfl⟩, ⟨rfl, rfl, rfl, tv⟩⟩
       ·refine Al (wq rfl (qL A3 AF rfl (qs AF rfl (qe rfl ?_))))
        obtain rfl := sj h
        refine Ae (sm [(1000, 2013), (1001, 2014), (1002, 2015)] [(6, oD (.ptr 6 0)), (7, iD 0)] [(6, .box [.own 1000, .own 1001, .own 1002]), (1000, .vec 1 (v15.1.fd.map An)), (1001, .vec 1 (v15.1.fa.map An)), (1002, .vec 1 (v15.1.fc.map B3))] rfl rfl) (Ap ?_)
        exact ⟨⟨[_, _], ⟨.cellN _ _ _ _ _ _ _ rfl rfl A3 AF rfl rfl (GS rfl), tm⟩, rfl⟩, ⟨rfl, rfl, rfl, tv⟩⟩
theorem GO (N : Nat) (p0 : Ab) (p1 : Ac) (p2 : List Ad) (r : Ac × Bool) (h : CE N p0 p1 p2 = some r) : Aq Tryz.prog 41 [.e (.agg (Ah p0)), .e (.agg (Az p1)), pD (.sl (p2.map Ai))] [] (.tup [.agg (Az r.1), .one (.pure (.val (.bool r.2)))]) := by
 unfold CE at h
 refine cw (n := 38) (rs := [.cell 6 38, .tmp 7]) Tryz.func41 fun w0 S0 => ?_
 refine wq rfl (qb rfl (qb rfl (qz Cc rfl (qa rfl (Aa (wp rfl (qe rfl ?_)))))))
 refine AH (L := B8 N p0 p2) h (fun v1 => mk [(2, pD (.sl (p2.map Ai))), (3, oD (.ptr 3 0)), (4, oD (.ptr 4 0)), (6, oD (.ptr 6 0)), (8, iD v1.2.2.2)] [(3, .box (Ah p0)), (4, .box [sC (v1.1.map An), sC (v1.2.1.map An), sC (v1.2.2.1.map B3)]), (6, .box [.pure (.nil0), .pure (.nil0), .pure (.nil0)])]) (fun v2 => mk [(4, oD (.ptr 4 0)), (6, oD (.ptr 6 0))] [(4, .box (Az v2)), (6, .box [.pure (.nil0), .pure (.nil0), .pure (.nil0)])]) (fun _ _ => rfl) (sm [] _ _ rfl rfl) (fun j1 n1 v1 h => ?_) (fun v2 s h hs => ?_)
 ·unfold B8 at h
  refine wp rfl (qw 2 rfl (AB Bo rfl (AT rfl (Aa ?_))))
  refine Be h (fun h => ?_) fun h => ?_
  ·refine Al (AN (AM (wq rfl (qL CT Cy rfl (qL A3 AF rfl (qw 2 rfl ?_))))))
   refine BS h fun v4 a4 b4 h => qi Bo Ch a4 (Af b4) rfl (qK F7 Ch rfl ?_)
   refine BT h fun v5 a5 h => Ar [2001, 2002, 2003] (JM N p0 ((Ac.mk v1.1 v1.2.1 v1.2.2.1)) v4 v5 a5) XL rfl (qm rfl (qx rfl (qx rfl (qz Cc rfl (qs AF rfl (qa rfl (AI (by kernel_rfl) (AN ?_))))))))
   refine AK h (fun v6 => mk [(2, pD (.sl (p2.map Ai))), (3, oD (.ptr 3 0)), (4, oD (.ptr 4 0)), (6, oD (.ptr 6 0)), (8, iD v1.2.2.2), (9, oD (.ptr 9 0)), (34, bD v6)] [(3, .box (Ah p0)), (4, .box [sC (v1.1.map An), sC (v1.2.1.map An), sC (v1.2.2.1.map B3)]), (6, .box [.pure (.nil0), .pure (.nil0), .pure (.nil0)]), (9, .box [.own 2004, .own 2005, .own 2006]), (2004, .vec 1 (v5.1.fd.map An)), (2005, .vec 1 (v5.1.fa.map An)), (2006, .vec 1 (v5.1.fc.map B3))]) (fun j6 h => ?_) (fun v6 h => ?_)
   ·refine Ag Ay rfl (qm rfl (BF rfl (qm rfl ?_)))
    refine Dr 29 h rfl (fun h => ?_) fun h => ?_
    ·refine qw 4 rfl (qp rfl (Aa ?_))
     exact sn [(2004, 2001), (2005, 2002), (2006, 2003)] h
    ·refine qL CT Cy rfl (qL A3 AF rfl ?_)
     refine BT h fun v8 a8 h => G6 [] [2001, 2002, 2003] (Gr N p0 v5.1 v8 a8) V9 E4 rfl (BX rfl (qp rfl (Aa ?_)))
     exact sn [(2004, 2001), (2005, 2002), (2006, 2003)] h
   ·refine Be h (fun h => ?_) fun h => ?_
    ·refine wq rfl (A8 Cc F3 rfl (qs AF rfl (qe rfl ?_)))
     obtain rfl := sj h
     refine Ae ((E3 6 _ rfl).trans (sm [] [(6, oD (.ptr 6 0)), (7, bD false)] [(6, .box [sC ((([] : List Int)).map An), sC ((([] : List Int)).map An), sC ((([] : List Int)).map B3)])] rfl rfl)) (Ap ?_)
     exact ⟨⟨[_, _], ⟨.cellN _ _ _ _ _ _ _ rfl rfl A3 AF rfl rfl (GS rfl), tm⟩, rfl⟩, tv⟩
    ·refine Al (Ag Ay rfl (qL A3 AF rfl (qs AF rfl (Aa (Ag Ay rfl (qm rfl (Bd rfl (qe rfl ?_))))))))
     exact Th _ h ((AU 2004 _ _ rfl rfl).trans ((AU 2005 _ _ rfl rfl).trans ((AU 2006 _ _ rfl rfl).trans (sm [] _ _ rfl rfl))))
  ·refine AS ?_
   exact sn [] h
 ·refine Ae hs (wq rfl (qL A3 AF rfl (qs AF rfl (qe rfl ?_))))
  obtain rfl := sj h
  refine Ae (sm [] [(6, oD (.ptr 6 0)), (7, bD true)] [(6, .box (Az v2))] rfl rfl) (Ap ?_)
  exact ⟨⟨[_, _], ⟨.cellN _ _ _ _ _ _ _ rfl rfl A3 AF rfl rfl (GS rfl), tm⟩, rfl⟩, tv⟩
theorem I1 (N : Nat) (p0 : List Ad) (p1 : List Int) (r : (List Ad)) (h : Dd N p0 p1 = some r) : Aq Tryz.prog 42 [pD (.sl (p0.map Ai)), pD (.sl (p1.map An))] [(3, r.map Ai)] (oD (.own 0)) := by
 unfold Dd at h
 refine cw (n := 24) (rs := [.tmp 4]) Tryz.func42 fun w0 S0 => ?_
 refine wq rfl (qa rfl (Aa (wq rfl (qa rfl (Aa (wp rfl (qe rfl ?_)))))))
 refine AH (L := B6 N p0 p1) h (fun v1 => mk [(0, pD (.sl (p0.map Ai))), (1, pD (.sl (p1.map An))), (5, oD (.own 2001)), (6, iD v1.2)] [(2001, .vec 3 (v1.1.map Ai))]) (fun v2 => mk [(5, oD (.own 2002))] [(2002, .vec 3 (v2.map Ai))]) (fun _ _ => rfl) ((B2 5 2003 3 rfl rfl rfl).trans (sm [(2001, 2003)] _ _ rfl rfl)) (fun j1 n1 v1 h => ?_) (fun v2 s h hs => ?_)
 ·unfold B6 at h
  refine wp rfl (qw 2 rfl (AB Au rfl (AT rfl (Aa ?_))))
  refine Be h (fun h => ?_) fun h => ?_
  ·refine Al (AN (AM (Ag Ay rfl (qw 4 rfl ?_))))
   refine BS h fun v4 a4 b4 h => qi Au Cz a4 (Af b4) rfl (qk BL rfl ?_)
   refine BS h fun v5 a5 b5 h => qi Bo Ch a5 (Af b5) rfl (qK F7 Ch rfl (D4 Bo Ch IS rfl ?_))
   refine Ex h fun c6 h => DC (f := Ai) Bo Bo Ch QA IS c6 rfl (qa rfl (Aa (Ag Ay rfl (qm rfl (Bd rfl (qe rfl ?_))))))
   exact sn [(2001, 22)] h
  ·refine AS ?_
   exact sn [(2002, 2001)] h
 ·refine Ae hs (wq rfl (qm rfl (qe rfl ?_)))
  obtain rfl := sj h
  refine Ae (sm [(1000, 2002)] [(4, oD (.own 1000))] [(1000, .vec 3 (v2.map Ai))] rfl rfl) (Ap ?_)
  exact ⟨⟨[_], tm, rfl⟩, ⟨rfl, tv⟩⟩
theorem Ga (N : Nat) (p0 : List Int) (p1 : List Int) (r : Int) (h : CM N p0 p1 = some r) : Aq Tryz.prog 89 [pD (.sl (p0.map An)), pD (.sl (p1.map An))] [] (iD r) := by
 unfold CM at h
 refine cw (n := 46) (rs := [.tmp 4]) Tryz.func89 fun w0 S0 => ?_
 refine wq rfl (qa rfl (Aa (wp rfl (qe rfl ?_))))
 refine AH (L := CD N p0 p1) h (fun v1 => mk [(0, pD (.sl (p0.map An))), (1, pD (.sl (p1.map An))), (5, iD v1)] []) (fun v2 => mk [(0, pD (.sl (p0.map An))), (1, pD (.sl (p1.map An)))] []) (fun _ _ => rfl) (sm [] _ _ rfl rfl) (fun j1 n1 v1 h => ?_) (fun v2 s h hs => ?_)
 ·unfold CD at h
  refine AN ?_
  refine AK h (fun v3 => mk [(0, pD (.sl (p0.map An))), (1, pD (.sl (p1.map An))), (5, iD v1), (15, bD v3)] []) (fun j3 h => ?_) (fun v3 h => ?_)
  ·refine Ag Ay rfl (qw 2 rfl (AB Au rfl (AT rfl (qm rfl ?_))))
   refine Dr 10 h rfl (fun h => ?_) fun h => ?_
   ·refine qw 2 rfl (AB Au rfl (AT rfl (qp rfl (Aa ?_))))
    exact sn [] h
   ·refine qw 4 rfl (qp rfl (Aa ?_))
    exact sn [] h
  ·refine Be h (fun h => ?_) fun h => ?_
   ·refine Al (AN (AM (wp rfl (qw 2 rfl ?_))))
    refine BS h fun v6 a6 b6 h => qi Au Cz a6 (Af b6) rfl (qk BL rfl (qw 2 rfl ?_))
    refine BS h fun v7 a7 b7 h => qi Au Cz a7 (Af b7) rfl (qk BL rfl (AT rfl (AI (by kernel_rfl) ?_)))
    refine Be h (fun h => ?_) fun h => ?_
    ·refine wq rfl (qe rfl ?_)
     obtain rfl := sj h
     refine Ae (sm [] [(4, iD ((-1)))] [] rfl rfl) (Ap ?_)
     exact ⟨⟨[_], tm, rfl⟩, tv⟩
    ·refine Al (wq rfl (qw 2 rfl ?_))
     refine BS h fun v9 a9 b9 h => qi Au Cz a9 (Af b9) rfl (qk BL rfl (qw 2 rfl ?_))
     refine BS h fun v10 a10 b10 h => qi Au Cz a10 (Af b10) rfl (qk BL rfl (EN rfl (AI (by kernel_rfl) ?_)))
     refine Be h (fun h => ?_) fun h => ?_
     ·refine wq rfl (qe rfl ?_)
      obtain rfl := sj h
      refine Ae (sm [] [(4, iD 1)] [] rfl rfl) (Ap ?_)
      exact ⟨⟨[_], tm, rfl⟩, tv⟩
     ·refine Al (Ag Ay rfl (qm rfl (Bd rfl (qe rfl ?_))))
      exact sn [] h
   ·refine AS ?_
    exact sn [] h
 ·refine Ae hs (wp rfl (qm rfl (AB Au rfl (qm rfl (AB Au rfl (AT rfl (Aa ?_)))))))
  refine Be h (fun h => ?_) fun h => ?_
  ·refine wq rfl (qe rfl ?_)
   obtain rfl := sj h
   refine Ae (sm [] [(4, iD ((-1)))] [] rfl rfl) (Ap ?_)
   exact ⟨⟨[_], tm, rfl⟩, tv⟩
  ·refine Al (wp rfl (qm rfl (AB Au rfl (qm rfl (AB Au rfl (EN rfl (Aa ?_)))))))
   refine Be h (fun h => ?_) fun h => ?_
   ·refine wq rfl (qe rfl ?_)
    obtain rfl := sj h
    refine Ae (sm [] [(4, iD 1)] [] rfl rfl) (Ap ?_)
    exact ⟨⟨[_], tm, rfl⟩, tv⟩
   ·refine Al (wq rfl (qe rfl ?_))
    obtain rfl := sj h
    refine Ae (sm [] [(4, iD 0)] [] rfl rfl) (Ap ?_)
    exact ⟨⟨[_], tm, rfl⟩, tv⟩
theorem GP (N : Nat) (p0 : List Int) (r : (List Int)) (h : CB N p0 = some r) : Aq Tryz.prog 90 [pD (.sl (p0.map B3))] [(1, r.map An)] (oD (.own 0)) := by
 unfold CB at h
 refine cw (n := 20) (rs := [.tmp 2]) Tryz.func90 fun w0 S0 => ?_
 refine wq rfl (qa rfl (Aa (wq rfl (qa rfl (Aa (wp rfl (qe rfl ?_)))))))
 refine AH (L := B7 N p0) h (fun v1 => mk [(0, pD (.sl (p0.map B3))), (3, oD (.own 2001)), (4, iD v1.2)] [(2001, .vec 1 (v1.1.map An))]) (fun v2 => mk [(3, oD (.own 2002))] [(2002, .vec 1 (v2.map An))]) (fun _ _ => rfl) ((B2 3 2003 1 rfl rfl rfl).trans (sm [(2001, 2003)] _ _ rfl rfl)) (fun j1 n1 v1 h => ?_) (fun v2 s h hs => ?_)
 ·unfold B7 at h
  refine wp rfl (qw 2 rfl (AB Cv rfl (AT rfl (Aa ?_))))
  refine Be h (fun h => ?_) fun h => ?_
  ·refine Al (AN (AM (Ag Ay rfl (qw 3 rfl ?_))))
   refine BS h fun v4 a4 b4 h => qi Cv EP a4 (Af b4) rfl (qk I6 rfl (Iu Xf Tr rfl (D4 Au Cz I0 rfl ?_)))
   refine Ex h fun c5 h => DC (f := An) Au Au Cz Ja I0 c5 rfl (qa rfl (Aa (Ag Ay rfl (qm rfl (Bd rfl (qe rfl ?_))))))
   exact sn [(2001, 18)] h
  ·refine AS ?_
   exact sn [(2002, 2001)] h
 ·refine Ae hs (wq rfl (qm rfl (qe rfl ?_)))
  obtain rfl := sj h
  refine Ae (sm [(1000, 2002)] [(2, oD (.own 1000))] [(1000, .vec 1 (v2.map An))] rfl rfl) (Ap ?_)
  exact ⟨⟨[_], tm, rfl⟩, ⟨rfl, tv⟩⟩
theorem I2 (N : Nat) (p0 : Ac) (p1 : Ac) (r : Int) (h : Dc N p0 p1 = some r) : Aq Tryz.prog 65 [.e (.agg (Az p0)), .e (.agg (Az p1))] [] (iD r) := by
 unfold Dc at h
 refine cw (n := 30) (rs := [.tmp 4]) Tryz.func65 fun w0 S0 => ?_
 refine wq rfl (qb rfl (qb rfl (qa rfl (Aa (wp rfl (qf Cf rfl (ql AW rfl (qf Cf rfl (ql AW rfl ?_)))))))))
 refine BT h fun v1 a1 h => Ar [] (Ga N p0.fd p1.fd v1 a1) Uy rfl (qa rfl (Aa (wq rfl (qm rfl (BF rfl (Aa ?_))))))
 refine Be h (fun h => ?_) fun h => ?_
 ·refine wq rfl (qm rfl (qe rfl ?_))
  obtain rfl := sj h
  refine Ae (sm [] [(4, iD v1)] [] rfl rfl) (Ap ?_)
  exact ⟨⟨[_], tm, rfl⟩, tv⟩
 ·refine Al (wp rfl (qf Bf rfl (ql AW rfl (qf Bf rfl (ql AW rfl ?_)))))
  refine BT h fun v3 a3 h => Ar [] (Ga N p0.fa p1.fa v3 a3) Uy rfl (qa rfl (Aa (wq rfl (qm rfl (BF rfl (Aa ?_))))))
  refine Be h (fun h => ?_) fun h => ?_
  ·refine wq rfl (qm rfl (qe rfl ?_))
   obtain rfl := sj h
   refine Ae (sm [] [(4, iD v3)] [] rfl rfl) (Ap ?_)
   exact ⟨⟨[_], tm, rfl⟩, tv⟩
  ·refine Al (wq rfl (qf BZ rfl (ql F5 rfl ?_)))
   refine BT h fun v5 a5 h => Ar [2001] (GP N p0.fc v5 a5) V0 rfl (qf BZ rfl (ql F5 rfl ?_))
   refine BT h fun v6 a6 h => Ar [2002] (GP N p1.fc v6 a6) V0 rfl ?_
   refine BT h fun v7 a7 h => G6 [] [2001, 2002] (Ga N v5 v6 v7 a7) Uy E4 rfl (qa rfl (AI (by kernel_rfl) ?_))
   obtain rfl := sj h
   refine Ae (sm [] [(4, iD v7)] [] rfl rfl) (Ap ?_)
   exact ⟨⟨[_], tm, rfl⟩, tv⟩
theorem JI (N : Nat) (p0 : Ac) (p1 : Ac) (r : Bool) (h : DS N p0 p1 = some r) : Aq Tryz.prog 43 [.e (.agg (Az p0)), .e (.agg (Az p1))] [] (bD r) := by
 unfold DS at h
 refine cw (n := 9) (rs := [.tmp 4]) Tryz.func43 fun w0 S0 => ?_
 refine wq rfl (qb rfl (qb rfl (qa rfl (Aa (wq rfl (qL A3 AF rfl (qL A3 AF rfl ?_)))))))
 refine BT h fun v1 a1 h => Ar [] (I2 N p0 p1 v1 a1) W0 rfl (Bs rfl (qe rfl ?_))
 obtain rfl := sj h
 refine Ae (sm [] [(4, bD ((v1 == 0)))] [] rfl rfl) (Ap ?_)
 exact ⟨⟨[_], tm, rfl⟩, tv⟩
theorem KN (N : Nat) (p0 : Ab) (p1 : Ac) (p2 : List Ad) (r : (List Ad) × Int) (h : DH N p0 p1 p2 = some r) : Aq Tryz.prog 13 [.e (.agg (Ah p0)), .e (.agg (Az p1)), pD (.sl (p2.map Ai))] [] (.tup [.one (sC (r.1.map Ai)), .one (iC r.2)]) := by
 unfold DH at h
 refine cw (n := 73) (rs := [.tmp 6, .tmp 7]) Tryz.func13 fun w0 S0 => ?_
 refine wq rfl (qb rfl (qb rfl (qa rfl (qa rfl (Aa (wp rfl (qL CT Cy rfl (qL A3 AF rfl ?_))))))))
 refine BT h fun v1 a1 h => Ar [] (Hr N p0 p1 v1 a1) VW rfl (qa rfl (Aa (wq rfl (qm rfl (BF rfl (Aa ?_))))))
 refine Be h (fun h => ?_) fun h => ?_
 ·refine wq rfl (qm rfl (qa rfl (qe rfl ?_)))
  obtain rfl := sj h
  refine Ae ((Iq 6 _ rfl).trans (sm [] [(6, pD (.sl ((([] : List Ad)).map Ai))), (7, iD v1)] [] rfl rfl)) (Ap ?_)
  exact ⟨⟨[_, _], ⟨.tmp _ _ rfl, tm⟩, rfl⟩, tv⟩
 ·refine Al (wp rfl (qm rfl ?_))
  refine BT h fun v3 a3 h => Ar [] (Kh N p2 v3 a3) WX rfl (qa rfl (Aa (wq rfl (qm rfl (BF rfl (Aa ?_))))))
  refine Be h (fun h => ?_) fun h => ?_
  ·refine wq rfl (qm rfl (qa rfl (qe rfl ?_)))
   obtain rfl := sj h
   refine Ae ((Iq 6 _ rfl).trans (sm [] [(6, pD (.sl ((([] : List Ad)).map Ai))), (7, iD v3)] [] rfl rfl)) (Ap ?_)
   exact ⟨⟨[_, _], ⟨.tmp _ _ rfl, tm⟩, rfl⟩, tv⟩
  ·refine Al (wp rfl (qL CT Cy rfl (qL A3 AF rfl ?_)))
   refine BT h fun v5 a5 h => Ar [] (Gr N p0 p1 v5 a5) V9 rfl (BX rfl (Aa ?_))
   refine Be h (fun h => ?_) fun h => ?_
   ·refine wq rfl (D4 Bo Ch IS rfl (qm rfl ?_))
    refine Ex h fun c7 h => HJ (f := Ai) Bo Bo Ch QA IS (fun _ => rfl) c7 rfl (qa rfl (qe rfl ?_))
    obtain rfl := sj h
    refine Ae ((AU 34 _ _ rfl rfl).trans (sm [] [(6, pD (.sl (((([] : List Ad)) ++ p2).map Ai))), (7, iD 0)] [] rfl rfl)) (Ap ?_)
    exact ⟨⟨[_, _], ⟨.tmp _ _ rfl, tm⟩, rfl⟩, tv⟩
   ·refine Al (wq rfl (qm rfl (AB Bo rfl ?_)))
    refine BT h fun v8 a8 h => Ar [2001] (Jn N ((p2.length : Int)) v8 a8) W8 rfl (qa rfl (Aa (wq rfl (qL CT Cy rfl (qL A3 AF rfl (qm rfl ?_))))))
    refine BT h fun v9 a9 h => Ar [] (GO N p0 p1 p2 v9 a9) Wc rfl (qm rfl (qx rfl (qx rfl (qz Cc rfl (qs AF rfl (qa rfl (Aa (wp rfl (qe rfl ?_)))))))))
    refine AH (L := CA N p0 p1 p2 v8 v9) h (fun v10 => mk [(2, pD (.sl (p2.map Ai))), (3, oD (.ptr 3 0)), (4, oD (.ptr 4 0)), (10, oD (.own 2002)), (11, oD (.ptr 11 0)), (13, iD v10)] [(3, .box (Ah p0)), (4, .box (Az p1)), (11, .box (Az v9.1)), (2002, .vec 1 (v8.map (Fg An)))]) (fun v11 => mk [] []) (fun _ _ => rfl) (sm [(2002, 2001)] _ _ rfl rfl) (fun j10 n10 v10 h => ?_) (fun v11 s h hs => ?_)
    ·unfold CA at h
     refine wp rfl (qw 2 rfl (FF JW rfl (AT rfl (Aa ?_))))
     refine Be h (fun h => ?_) fun h => ?_
     ·refine Al (AN (AM (wq rfl (qw 3 rfl ?_))))
      refine BS h fun v13 a13 b13 h => qI JW KD a13 (Af b13) rfl (qj AW (Af b13) rfl ?_)
      refine BT h fun v14 a14 h => Ar [2003] (I1 N p2 v13 v14 a14) Xy rfl (qa rfl (Aa (wq rfl (qL CT Cy rfl (qL A3 AF rfl (qm rfl (C6 (AU 2003 _ _ rfl rfl) ?_)))))))
      refine BT h fun v15 a15 h => Ar [] (GO N p0 p1 v14 v15 a15) Wc rfl (qm rfl (qx rfl (qx rfl (qz Cc rfl (qs AF rfl (qe rfl ?_))))))
      refine AK h (fun v16 => mk [(2, pD (.sl (p2.map Ai))), (3, oD (.ptr 3 0)), (4, oD (.ptr 4 0)), (10, oD (.own 2004)), (11, oD (.ptr 11 0)), (13, iD v10), (14, pD (.sl (v14.map Ai))), (71, bD v16)] [(3, .box (Ah p0)), (4, .box (Az p1)), (11, .box (Az v9.1)), (2004, .vec 1 (v8.map (Fg An)))]) (fun j16 h => ?_) (fun v16 h => ?_)
      ·refine Ag Ay rfl (qm rfl (BX rfl (qm rfl ?_)))
       refine Dr 66 h rfl (fun h => ?_) fun h => ?_
       ·refine qw 4 rfl (qp rfl (Aa ?_))
        exact sn [(2004, 2002)] h
       ·refine qL A3 AF rfl (qL A3 AF rfl ?_)
        refine BT h fun v18 a18 h => Ar [] (JI N v15.1 v9.1 v18 a18) XD rfl (BX rfl (qp rfl (Aa ?_)))
        exact sn [(2004, 2002)] h
      ·refine Be h (fun h => ?_) fun h => ?_
       ·refine wq rfl (qm rfl (qa rfl (qe rfl ?_)))
        obtain rfl := sj h
        refine Ae (sm [] [(6, pD (.sl (v14.map Ai))), (7, iD 0)] [] rfl rfl) (Ap ?_)
        exact ⟨⟨[_, _], ⟨.tmp _ _ rfl, tm⟩, rfl⟩, tv⟩
       ·refine Al (Ag Ay rfl (qm rfl (Bd rfl (qe rfl ?_))))
        exact sn [(2002, 2004)] h
     ·refine AS ?_
      exact sn [] h
    ·refine Ae hs (wq rfl (qa rfl (qe rfl ?_)))
     obtain rfl := sj h
     refine Ae ((Iq 6 _ rfl).trans (sm [] [(6, pD (.sl ((([] : List Ad)).map Ai))), (7, iD 15)] [] rfl rfl)) (Ap ?_)
     exact ⟨⟨[_, _], ⟨.tmp _ _ rfl, tm⟩, rfl⟩, tv⟩
theorem IU (N : Nat) (p0 : BE) (p1 : Bj) (p2 : List Ad) (r : Bool) (h : CZ N p0 p1 p2 = some r) : Aq Tryz.prog 4 [.e (.agg (Cl p0)), .e (.agg (CN p1)), pD (.sl (p2.map Ai))] [] (bD r) := by
 unfold CZ at h
 refine cw (n := 56) (rs := [.tmp 6]) Tryz.func4 fun w0 S0 => ?_
 refine wq rfl (qb rfl (qb rfl (qa rfl (Aa (wq rfl (qL WS XE rfl ?_))))))
 refine BT h fun v1 a1 h => Ar [2001, 2002, 2003, 2004] (K3 N p0 v1 a1) XV rfl (qm rfl (qx rfl (qx rfl (qz Pn rfl (qs Cy rfl (qa rfl (Aa (AN ?_))))))))
 refine AK h (fun v2 => mk [(2, pD (.sl (p2.map Ai))), (4, oD (.ptr 4 0)), (7, oD (.ptr 7 0)), (29, bD v2)] [(4, .box (CN p1)), (7, .box [.own 2005, .own 2006, .own 2007, .own 2008]), (2005, .vec 1 (v1.1.fb.map An)), (2006, .vec 1 (v1.1.fm.map An)), (2007, .vec 1 (v1.1.fo.map An)), (2008, .vec 6 (v1.1.fe.map AQ))]) (fun j2 h => ?_) (fun v2 h => ?_)
 ·refine Ag Ay rfl ?_
  refine BT h fun v3 a3 h => Ar [] (Ht N v3 a3) XM rfl (BX rfl (qm rfl ?_))
  refine Dr 21 h rfl (fun h => ?_) fun h => ?_
  ·refine qw 2 rfl (qp rfl (qw 4 rfl (qp rfl (Aa ?_))))
   exact sn [(2005, 2001), (2006, 2002), (2007, 2003), (2008, 2004)] h
  ·refine qm rfl (BX rfl (qp rfl (qm rfl ?_)))
   refine Dr 25 h rfl (fun h => ?_) fun h => ?_
   ·refine qw 3 rfl (qp rfl (Aa ?_))
    exact sn [(2005, 2001), (2006, 2002), (2007, 2003), (2008, 2004)] h
   ·refine qm rfl (AB Bo rfl (EN rfl (qp rfl (Aa ?_))))
    exact sn [(2005, 2001), (2006, 2002), (2007, 2003), (2008, 2004)] h
 ·refine Be h (fun h => ?_) fun h => ?_
  ·refine wq rfl ?_
   refine BT h fun v7 a7 h => Ar [] (Ht N v7 a7) XM rfl (qe rfl ?_)
   obtain rfl := sj h
   refine Ae (sm [] [(6, bD v7)] [] rfl rfl) (Ap ?_)
   exact ⟨⟨[_], tm, rfl⟩, tv⟩
  ·refine Al (wq rfl (qL CT Cy rfl (qL Xg Xt rfl ?_)))
   refine BT h fun v8 a8 h => G6 [2009, 2010, 2011] [2005, 2006, 2007, 2008] (K8 N v1.1 p1 v8 a8) XU (IN (fun _ => rfl) (IN (fun _ => rfl) (IN (fun _ => rfl) E4))) rfl (qz Cc rfl (qs AF rfl (Aa (wq rfl (qL CT Cy rfl (qL A3 AF rfl (qm rfl (C6 (AU 2005 _ _ rfl rfl) (C6 (AU 2006 _ _ rfl rfl) (C6 (AU 2007 _ _ rfl rfl) (C6 (AU 2008 _ _ rfl rfl) (C6 (AU 2009 _ _ rfl rfl) (C6 (AU 2010 _ _ rfl rfl) (C6 (AU 2011 _ _ rfl rfl) ?_))))))))))))))
   refine BT h fun v9 a9 h => Ar [] (Jt N v1.1 v8 p2 v9 a9) U7 rfl (qm rfl (qx rfl (qx rfl (qa rfl (qa rfl (Aa (wq rfl (qL CT Cy rfl (qL A3 AF rfl (qm rfl ?_))))))))))
   refine BT h fun v10 a10 h => Ar [] (KN N v1.1 v8 p2 v10 a10) W2 rfl (qm rfl (qx rfl (qx rfl (qa rfl (qe rfl ?_)))))
   refine AK h (fun v11 => mk [(6, bD v11)] []) (fun j11 h => ?_) (fun v11 h => ?_)
   ·refine Ag Ay rfl (qw 2 rfl (Bs rfl (qm rfl ?_)))
    refine Dr 51 h rfl (fun h => ?_) fun h => ?_
    ·refine qw 2 rfl ?_
     refine BT h fun v13 a13 h => Ar [] (F2 N v9.1 v10.1 v13 a13) Vf rfl (qp rfl (qe rfl ?_))
     exact sn [] h
    ·refine qw 3 rfl (qp rfl (qe rfl ?_))
     exact sn [] h
   ·obtain rfl := sj h
    refine Ae (sm [] [(6, bD v11)] [] rfl rfl) (Ap ?_)
    exact ⟨⟨[_], tm, rfl⟩, tv⟩
end Go.Lift
