/- Lemmas for WavesFineCardSaid, which YtncnphcfgojgmaaGreatDoorFinV3 proves. -/
import Derived.Test.YtncnphcfgojgmaaGreatDoorCode2
namespace Go.Lift
open IntKind renaming wrap → wI
set_option maxRecDepth 10000
open Go.RowKit
open Go.Proofs
theorem Fq (N : Nat) (p0 : Ab) (r : Int) (h : BW N p0 = some r) : Aq Tryz.prog 46 [.e (.agg (Ah p0))] [] (iD r) := by
 unfold BW at h
 refine cw (n := 102) (rs := [.tmp 2]) Tryz.func46 fun w0 S0 => ?_
 refine wq rfl (qb rfl (qa rfl (Aa (AO ?_))))
 refine AK h (fun v1 => mk [(1, oD (.ptr 1 0)), (16, bD v1)] [(1, .box (Ah p0))]) (fun j1 h => ?_) (fun v1 h => ?_)
 ·refine Ag Az rfl (qf Bg rfl (ql AV rfl (AB Au rfl (EP rfl (qm rfl ?_)))))
  refine Dm 11 h rfl (fun h => ?_) fun h => ?_
  ·refine qw 4 rfl (qp rfl (Aa ?_))
   exact sn [] h
  ·refine qf Cd rfl (ql GD rfl (AB DG rfl (EP rfl (qp rfl (Aa ?_)))))
   exact sn [] h
 ·refine Bc h (fun h => ?_) fun h => ?_
  ·refine wq rfl (qe rfl ?_)
   obtain rfl := sj h
   refine Ae (sm [] [(2, iD 3)] [] rfl rfl) (Ap ?_)
   exact ⟨⟨[_], tm, rfl⟩, tv⟩
  ·refine Al (AO ?_)
   refine AK h (fun v4 => mk [(1, oD (.ptr 1 0)), (32, bD v4)] [(1, .box (Ah p0))]) (fun j4 h => ?_) (fun v4 h => ?_)
   ·refine Ag Az rfl (qf F4 rfl (ql AV rfl (AB Au rfl (qf Bg rfl (ql AV rfl (AB Au rfl (BB rfl (qm rfl ?_))))))))
    refine Dm 24 h rfl (fun h => ?_) fun h => ?_
    ·refine qw 7 rfl (qp rfl (Aa ?_))
     exact sn [] h
    ·refine qf H8 rfl (ql AV rfl (AB Au rfl (qf Bg rfl (ql AV rfl (AB Au rfl (BB rfl (qp rfl (Aa ?_))))))))
     exact sn [] h
   ·refine Bc h (fun h => ?_) fun h => ?_
    ·refine wq rfl (qe rfl ?_)
     obtain rfl := sj h
     refine Ae (sm [] [(2, iD 6)] [] rfl rfl) (Ap ?_)
     exact ⟨⟨[_], tm, rfl⟩, tv⟩
    ·refine Al (wp rfl (qe rfl ?_))
     refine AH (L := A2 N p0) h (fun v7 => mk [(1, oD (.ptr 1 0)), (3, iD v7)] [(1, .box (Ah p0))]) (fun v8 => mk [(1, oD (.ptr 1 0))] [(1, .box (Ah p0))]) (fun _ _ => rfl) (sm [] _ _ rfl rfl) (fun j7 n7 v7 h => ?_) (fun v8 s h hs => ?_)
     ·unfold A2 at h
      refine wp rfl (qm rfl (qf Bg rfl (ql AV rfl (AB Au rfl (AT rfl (Aa ?_))))))
      refine Bc h (fun h => ?_) fun h => ?_
      ·refine Al (AO (AM (wq rfl (qf Bg rfl (ql AV rfl (qm rfl ?_))))))
       refine BT h fun v10 a10 b10 h => qi Au Cy a10 (Af b10) rfl (qk BL rfl (qe rfl ?_))
       refine AK h (fun v11 => mk [(1, oD (.ptr 1 0)), (3, iD v7), (84, bD v11)] [(1, .box (Ah p0))]) (fun j11 h => ?_) (fun v11 h => ?_)
       ·refine Ag Az rfl (qm rfl (AT rfl (qm rfl ?_)))
        refine Dm 47 h rfl (fun h => ?_) fun h => ?_
        ·refine qw 2 rfl (qp rfl (qw 7 rfl (qp rfl (qw 8 rfl (qp rfl (qw 7 rfl (qp rfl (qw 8 rfl (qp rfl (Aa ?_))))))))))
         exact sn [] h
        ·refine qm rfl (EP rfl (qp rfl (qm rfl ?_)))
         refine Dm 51 h rfl (fun h => ?_) fun h => ?_
         ·refine qw 6 rfl (qp rfl (qw 8 rfl (qp rfl (qw 7 rfl (qp rfl (qw 8 rfl (qp rfl (Aa ?_))))))))
          exact sn [] h
         ·refine qf F4 rfl (ql AV rfl (qm rfl ?_))
          refine BT h fun v14 a14 b14 h => qi Au Cy a14 (Af b14) rfl (qk BL rfl (AT rfl (qp rfl (qm rfl ?_))))
          refine Dm 59 h rfl (fun h => ?_) fun h => ?_
          ·refine qw 7 rfl (qp rfl (qw 7 rfl (qp rfl (qw 8 rfl (qp rfl (Aa ?_))))))
           exact sn [] h
          ·refine qf F4 rfl (ql AV rfl (qm rfl ?_))
           refine BT h fun v16 a16 b16 h => qi Au Cy a16 (Af b16) rfl (qk BL rfl (qm rfl (Ep rfl (qp rfl (qm rfl ?_)))))
           refine Dm 68 h rfl (fun h => ?_) fun h => ?_
           ·refine qw 6 rfl (qp rfl (qw 8 rfl (qp rfl (Aa ?_))))
            exact sn [] h
           ·refine qf H8 rfl (ql AV rfl (qm rfl ?_))
            refine BT h fun v18 a18 b18 h => qi Au Cy a18 (Af b18) rfl (qk BL rfl (AT rfl (qp rfl (qm rfl ?_))))
            refine Dm 76 h rfl (fun h => ?_) fun h => ?_
            ·refine qw 7 rfl (qp rfl (Aa ?_))
             exact sn [] h
            ·refine qf H8 rfl (ql AV rfl (qm rfl ?_))
             refine BT h fun v20 a20 b20 h => qi Au Cy a20 (Af b20) rfl (qk BL rfl (qm rfl (Ep rfl (qp rfl (Aa ?_)))))
             exact sn [] h
       ·refine Bc h (fun h => ?_) fun h => ?_
        ·refine wq rfl (qe rfl ?_)
         obtain rfl := sj h
         refine Ae (sm [] [(2, iD 7)] [] rfl rfl) (Ap ?_)
         exact ⟨⟨[_], tm, rfl⟩, tv⟩
        ·refine Al (Ag Az rfl (qm rfl (Be rfl (qe rfl ?_))))
         exact sn [] h
      ·refine AS ?_
       exact sn [] h
     ·refine Ae hs (wp rfl (qe rfl ?_))
      refine AH (L := AY N p0) h (fun v22 => mk [(1, oD (.ptr 1 0)), (5, iD v22)] [(1, .box (Ah p0))]) (fun v23 => mk [] []) (fun _ _ => rfl) (sm [] _ _ rfl rfl) (fun j22 n22 v22 h => ?_) (fun v23 s h hs => ?_)
      ·unfold AY at h
       refine wp rfl (qm rfl (qf Cd rfl (ql GD rfl (AB DG rfl (AT rfl (Aa ?_))))))
       refine Bc h (fun h => ?_) fun h => ?_
       ·refine Al (AO (AM (wq rfl (qL CL Cp rfl (qf Cd rfl (ql GD rfl (qm rfl ?_)))))))
        refine BT h fun v25 a25 b25 h => qi DG Dr a25 (Af b25) rfl (qK Gv Dr rfl ?_)
        refine BS h fun v26 a26 h => Ar [] (JQ N p0 v25 v26 a26) W4 rfl (qa rfl (AI (by kernel_rfl) (wq rfl (qm rfl (BB rfl (Aa ?_))))))
        refine Bc h (fun h => ?_) fun h => ?_
        ·refine wq rfl (qm rfl (qe rfl ?_))
         obtain rfl := sj h
         refine Ae (sm [] [(2, iD v26)] [] rfl rfl) (Ap ?_)
         exact ⟨⟨[_], tm, rfl⟩, tv⟩
        ·refine Al (Ag Az rfl (qm rfl (Be rfl (qe rfl ?_))))
         exact sn [] h
       ·refine AS ?_
        exact sn [] h
      ·refine Ae hs (wq rfl (qe rfl ?_))
       obtain rfl := sj h
       refine Ae (sm [] [(2, iD 0)] [] rfl rfl) (Ap ?_)
       exact ⟨⟨[_], tm, rfl⟩, tv⟩
theorem JJ (N : Nat) (p0 : Ab) (r : Ac × Int) (h : Fu N p0 = some r) : Aq Tryz.prog 24 [.e (.agg (Ah p0))] [(1, r.1.fd.map An), (1, r.1.fa.map An), (1, r.1.fc.map B3)] (.tup [.agg [.own 0, .own 1, .own 2], .one (iC r.2)]) := by
 unfold Fu at h
 refine cw (n := 68) (rs := [.cell 2 38, .tmp 3]) Tryz.func24 fun w0 S0 => ?_
 refine wq rfl (qb rfl (qz Cb rfl (qa rfl (Aa (wp rfl (qL CL Cp rfl ?_))))))
 refine BS h fun v1 a1 h => Ar [] (Fq N p0 v1 a1) V3 rfl (qa rfl (Aa (wq rfl (qm rfl (BB rfl (Aa ?_))))))
 refine Bc h (fun h => ?_) fun h => ?_
 ·refine wq rfl (A8 Cb F5 rfl (qm rfl (qs AF rfl (qe rfl ?_))))
  obtain rfl := sj h
  refine Ae ((Ax 2 0 2001 1 _ rfl rfl rfl rfl).trans ((Ax 2 1 2002 1 _ rfl rfl rfl rfl).trans ((Ax 2 2 2003 1 _ rfl rfl rfl rfl).trans (sm [(1000, 2001), (1001, 2002), (1002, 2003)] [(2, oD (.ptr 2 0)), (3, iD v1)] [(2, .box [.own 1000, .own 1001, .own 1002]), (1000, .vec 1 ((([] : List Int)).map An)), (1001, .vec 1 ((([] : List Int)).map An)), (1002, .vec 1 ((([] : List Int)).map B3))] rfl rfl)))) (Ap ?_)
  exact ⟨⟨[_, _], ⟨.cellN _ _ _ _ _ _ _ rfl rfl A0 AF rfl rfl (GV rfl), tm⟩, rfl⟩, ⟨rfl, rfl, rfl, tv⟩⟩
 ·refine Al (wq rfl (qz Cb rfl (Aa (wp rfl (qe rfl ?_)))))
  refine AH (L := DV N p0) h (fun v3 => mk [(1, oD (.ptr 1 0)), (2, oD (.ptr 2 0)), (5, oD (.ptr 5 0)), (6, iD v3.2.2)] [(1, .box (Ah p0)), (2, .box [.pure (.nil0), .pure (.nil0), .pure (.nil0)]), (5, .box [.own 2004, .own 2005, .pure (.nil0)]), (2004, .vec 1 (v3.1.map An)), (2005, .vec 1 (v3.2.1.map An))]) (fun v4 => mk [(1, oD (.ptr 1 0)), (2, oD (.ptr 2 0)), (5, oD (.ptr 5 0))] [(1, .box (Ah p0)), (2, .box [.pure (.nil0), .pure (.nil0), .pure (.nil0)]), (5, .box [.own 2006, .own 2007, .pure (.nil0)]), (2006, .vec 1 (v4.1.map An)), (2007, .vec 1 (v4.2.map An))]) (fun _ _ => rfl) ((Ax 5 0 2008 1 _ rfl rfl rfl rfl).trans ((Ax 5 1 2009 1 _ rfl rfl rfl rfl).trans (sm [(2004, 2008), (2005, 2009)] _ _ rfl rfl))) (fun j3 n3 v3 h => ?_) (fun v4 s h hs => ?_)
  ·unfold DV at h
   refine wp rfl (qm rfl (qf Bg rfl (ql AV rfl (AB Au rfl (AT rfl (Aa ?_))))))
   refine Bc h (fun h => ?_) fun h => ?_
   ·refine Al (AO (AM (wq rfl (qf Ce rfl (ql AV rfl (qf F4 rfl (ql AV rfl (qm rfl ?_))))))))
    refine BT h fun v6 a6 b6 h => qi Au Cy a6 (Af b6) rfl (qk BL rfl (D1 Au Cy I1 rfl ?_))
    refine Ey h fun c7 h => Dz (f := An) Au Au Cy Ja I1 c7 rfl (qf Ce rfl (qs Kr rfl (AI (by kernel_rfl) (Ag Az rfl (qf Bf rfl (ql AV rfl (D1 Au Cy I1 rfl ?_)))))))
    refine Ey h fun c8 h => Dz (f := An) Au Au Cy Ja I1 c8 rfl (qf Bf rfl (qs Kr rfl (Aa (Ag Az rfl (qm rfl (Be rfl (qe rfl ?_)))))))
    exact sn [(2004, 30), (2005, 35)] h
   ·refine AS ?_
    exact sn [(2006, 2004), (2007, 2005)] h
  ·refine Ae hs (wp rfl (qe rfl ?_))
   refine AH (L := DU N p0) h (fun v9 => mk [(1, oD (.ptr 1 0)), (2, oD (.ptr 2 0)), (5, oD (.ptr 5 0)), (7, iD v9.2)] [(1, .box (Ah p0)), (2, .box [.pure (.nil0), .pure (.nil0), .pure (.nil0)]), (5, .box [.own 2010, .own 2011, .own 2012]), (2010, .vec 1 (v4.1.map An)), (2011, .vec 1 (v4.2.map An)), (2012, .vec 1 (v9.1.map B3))]) (fun v10 => mk [(2, oD (.ptr 2 0)), (5, oD (.ptr 5 0))] [(2, .box [.pure (.nil0), .pure (.nil0), .pure (.nil0)]), (5, .box [.own 2013, .own 2014, .own 2015]), (2013, .vec 1 (v4.1.map An)), (2014, .vec 1 (v4.2.map An)), (2015, .vec 1 (v10.map B3))]) (fun _ _ => rfl) ((Ax 5 2 2019 1 _ rfl rfl rfl rfl).trans (sm [(2010, 2006), (2011, 2007), (2012, 2019)] _ _ rfl rfl)) (fun j9 n9 v9 h => ?_) (fun v10 s h hs => ?_)
   ·unfold DU at h
    refine wp rfl (qm rfl (qf Cd rfl (ql GD rfl (AB DG rfl (AT rfl (Aa ?_))))))
    refine Bc h (fun h => ?_) fun h => ?_
    ·refine Al (AO (AM (wq rfl (qe rfl ?_))))
     refine AK h (fun v12 => mk [(1, oD (.ptr 1 0)), (2, oD (.ptr 2 0)), (5, oD (.ptr 5 0)), (7, iD v9.2), (8, pD (.val (.int .u8 v12)))] [(1, .box (Ah p0)), (2, .box [.pure (.nil0), .pure (.nil0), .pure (.nil0)]), (5, .box [.own 2016, .own 2017, .own 2018]), (2016, .vec 1 (v4.1.map An)), (2017, .vec 1 (v4.2.map An)), (2018, .vec 1 (v9.1.map B3))]) (fun j12 h => ?_) (fun v12 h => ?_)
     ·refine wq rfl (qf Cd rfl (ql GD rfl (qm rfl ?_)))
      refine BT h fun v13 a13 b13 h => qi DG Dr a13 (Af b13) rfl (qK Gv Dr rfl ?_)
      refine BS h fun v14 a14 h => Ar [] (Bx N v13 v14 a14) MP rfl (Aa ?_)
      refine Bc h (fun h => ?_) fun h => ?_
      ·refine Ag Az rfl (qf F4 rfl (ql AV rfl (qf Cd rfl (ql GD rfl (qm rfl ?_)))))
       refine BT h fun v16 a16 b16 h => qi DG Dr a16 (Af b16) rfl (qg Ck rfl (qk BL rfl ?_))
       refine BT h fun v17 a17 b17 h => qi Au Cy a17 (Af b17) rfl (qk BL rfl ?_)
       refine Ey h fun c18 h => H6 rfl c18 (qa rfl (AI (by kernel_rfl) ?_))
       exact sn [(2016, 2010), (2017, 2011), (2018, 2012)] h
      ·refine Al ?_
       exact sn [(2016, 2010), (2017, 2011), (2018, 2012)] h
     ·refine Ag Az rfl (qf BZ rfl (ql Ge rfl (qm rfl (D1 Cw EQ Mt rfl ?_))))
      refine Ey h fun c19 h => Dz (f := B3) Cw Cw EQ Ni Mt c19 rfl (qf BZ rfl (qs VV rfl (Aa (Ag Az rfl (qm rfl (Be rfl (qe rfl ?_)))))))
      exact sn [(2010, 2016), (2011, 2017), (2012, 65)] h
    ·refine AS ?_
     exact sn [(2013, 2010), (2014, 2011), (2015, 2012)] h
   ·refine Ae hs (wq rfl (qL A0 AF rfl (qs AF rfl (qe rfl ?_))))
    obtain rfl := sj h
    refine Ae (sm [(1000, 2013), (1001, 2014), (1002, 2015)] [(2, oD (.ptr 2 0)), (3, iD 0)] [(2, .box [.own 1000, .own 1001, .own 1002]), (1000, .vec 1 (v4.1.map An)), (1001, .vec 1 (v4.2.map An)), (1002, .vec 1 (v10.map B3))] rfl rfl) (Ap ?_)
    exact ⟨⟨[_, _], ⟨.cellN _ _ _ _ _ _ _ rfl rfl A0 AF rfl rfl (GV rfl), tm⟩, rfl⟩, ⟨rfl, rfl, rfl, tv⟩⟩
theorem JX (N : Nat) (p0 : Ab) (p1 : List (List Ad)) (r : (List Ac) × Int) (h : GM N p0 p1 = some r) : Aq Tryz.prog 25 [.e (.agg (Ah p0)), pD (.sl (p1.map (Fj Ai)))] [(3, r.1.map Co)] (.tup [.one (.own 0), .one (iC r.2)]) := by
 unfold GM at h
 refine cw (n := 61) (rs := [.tmp 4, .tmp 5]) Tryz.func25 fun w0 S0 => ?_
 refine wq rfl (qb rfl (qa rfl (qa rfl (Aa (wp rfl (qL CL Cp rfl ?_))))))
 refine BS h fun v1 a1 h => Ar [] (Fv N p0 v1 a1) Vb rfl (qa rfl (Aa (wq rfl (qm rfl (BB rfl (Aa ?_))))))
 refine Bc h (fun h => ?_) fun h => ?_
 ·refine wq rfl (qm rfl (qa rfl (qe rfl ?_)))
  obtain rfl := sj h
  refine Ae ((B2 4 2001 3 rfl rfl rfl).trans (sm [(1000, 2001)] [(4, oD (.own 1000)), (5, iD v1)] [(1000, .vec 3 ((([] : List Ac)).map Co))] rfl rfl)) (Ap ?_)
  exact ⟨⟨[_, _], ⟨.tmp _ _ rfl, tm⟩, rfl⟩, ⟨rfl, tv⟩⟩
 ·refine Al (wq rfl (qL CL Cp rfl ?_))
  refine BS h fun v3 a3 h => Ar [2002, 2003, 2004] (Jm N p0 v3 a3) U8 rfl (qm rfl (qx rfl (qx rfl (qz Cb rfl (qs AF rfl (qa rfl (Aa (wp rfl (qm rfl (BB rfl (Aa ?_)))))))))))
  refine Bc h (fun h => ?_) fun h => ?_
  ·refine wq rfl (qm rfl (qa rfl (qe rfl ?_)))
   obtain rfl := sj h
   refine Ae ((B2 4 2005 3 rfl rfl rfl).trans (sm [(1000, 2005)] [(4, oD (.own 1000)), (5, iD v3.2)] [(1000, .vec 3 ((([] : List Ac)).map Co))] rfl rfl)) (Ap ?_)
   exact ⟨⟨[_, _], ⟨.tmp _ _ rfl, tm⟩, rfl⟩, ⟨rfl, tv⟩⟩
  ·refine Al (wq rfl (qL A0 AF rfl (D2 (A5 2002 _ _ rfl rfl) (D2 (A5 2003 _ _ rfl rfl) (D2 (A5 2004 _ _ rfl rfl) (D1 GT AF Cb rfl (qa rfl (Aa (wp rfl (qm rfl (AB ID rfl (qm rfl (Aa ?_)))))))))))))
   refine AH (L := Ff N p0 p1) h (fun v5 => mk [(2, oD (.ptr 2 0)), (7, oD (.ptr 7 0)), (9, oD (.own 2006)), (29, pD (.sl (p1.map (Fj Ai)))), (30, iD ((p1.length : Int))), (31, iD v5.2.2)] [(2, .box (Ah p0)), (7, .box (Ay v5.1)), (2006, .vec 3 (v5.2.1.map Co))]) (fun v6 => mk [(9, oD (.own 2007))] [(2007, .vec 3 (v6.map Co))]) (fun _ _ => rfl) (sm [(2006, 28)] _ _ rfl rfl) (fun j5 n5 v5 h => ?_) (fun v6 s h hs => ?_)
   ·unfold Ff at h
    refine wq rfl (AT rfl (Aa (AO ?_)))
    refine Bc h (fun h => ?_) fun h => ?_
    ·refine Al (AO (AM (wq rfl ?_)))
     refine BT h fun v8 a8 b8 h => qi ID OW a8 (Af b8) rfl (qk Rk rfl (qa rfl (Aa (wp rfl (qL CL Cp rfl (qL A0 AF rfl (qm rfl ?_)))))))
     refine BS h fun v9 a9 h => Ar [] (HC N p0 v5.1 v8 v9 a9) T9 rfl (qm rfl (qx rfl (qx rfl (qa rfl (qe rfl ?_)))))
     refine AK h (fun v10 => mk [(2, oD (.ptr 2 0)), (7, oD (.ptr 7 0)), (9, oD (.own 2008)), (11, pD (.sl (v8.map Ai))), (29, pD (.sl (p1.map (Fj Ai)))), (30, iD ((p1.length : Int))), (31, iD v5.2.2), (47, bD v10)] [(2, .box (Ah p0)), (7, .box (Ay v5.1)), (2008, .vec 3 (v5.2.1.map Co))]) (fun j10 h => ?_) (fun v10 h => ?_)
     ·refine Ag Az rfl (qm rfl (BB rfl (qm rfl ?_)))
      refine Dm 44 h rfl (fun h => ?_) fun h => ?_
      ·refine qw 2 rfl (qp rfl (Aa ?_))
       exact sn [(2008, 2006)] h
      ·refine qm rfl (BX rfl (qp rfl (Aa ?_)))
       exact sn [(2008, 2006)] h
     ·refine Bc h (fun h => ?_) fun h => ?_
      ·refine wq rfl (qa rfl (qe rfl ?_))
       obtain rfl := sj h
       refine Ae ((B2 4 2009 3 rfl rfl rfl).trans (sm [(1000, 2009)] [(4, oD (.own 1000)), (5, iD 13)] [(1000, .vec 3 ((([] : List Ac)).map Co))] rfl rfl)) (Ap ?_)
       exact ⟨⟨[_, _], ⟨.tmp _ _ rfl, tm⟩, rfl⟩, ⟨rfl, tv⟩⟩
      ·refine Al (wq rfl (qL CL Cp rfl (qL A0 AF rfl (qm rfl ?_))))
       refine BS h fun v13 a13 h => Ar [] (F2 N p0 v5.1 v8 v13 a13) SY rfl (qm rfl (qx rfl (qx rfl (qs AF rfl (Aa (Ag Az rfl (qm rfl (qL A0 AF rfl (D1 GT AF Cb rfl ?_)))))))))
       refine Ey h fun c14 h => Dz (f := Co) GT GT AF Sz Cb c14 rfl (qa rfl (Aa (Ag Az rfl (Be rfl (qm rfl (Aa ?_))))))
       exact sn [(2006, 58)] h
    ·refine AS ?_
     exact sn [(2007, 2006)] h
   ·refine Ae hs (wq rfl (qm rfl (qa rfl (qe rfl ?_))))
    obtain rfl := sj h
    refine Ae (sm [(1000, 2007)] [(4, oD (.own 1000)), (5, iD 0)] [(1000, .vec 3 (v6.map Co))] rfl rfl) (Ap ?_)
    exact ⟨⟨[_, _], ⟨.tmp _ _ rfl, tm⟩, rfl⟩, ⟨rfl, tv⟩⟩
theorem HT (N : Nat) (p0 : List Ad) (p1 : List Ad) (r : Bool) (h : Ez N p0 p1 = some r) : Aq Tryz.prog 14 [pD (.sl (p0.map Ai)), pD (.sl (p1.map Ai))] [] (bD r) := by
 unfold Ez at h
 refine cw (n := 26) (rs := [.tmp 4]) Tryz.func14 fun w0 S0 => ?_
 refine wq rfl (qa rfl (Aa (wp rfl (qm rfl (AB Bo rfl (qm rfl (AB Bo rfl (BB rfl (Aa ?_)))))))))
 refine Bc h (fun h => ?_) fun h => ?_
 ·refine wq rfl (qe rfl ?_)
  obtain rfl := sj h
  refine Ae (sm [] [(4, bD false)] [] rfl rfl) (Ap ?_)
  exact ⟨⟨[_], tm, rfl⟩, tv⟩
 ·refine Al (wp rfl (qe rfl ?_))
  refine AH (L := D8 N p0 p1) h (fun v2 => mk [(0, pD (.sl (p0.map Ai))), (1, pD (.sl (p1.map Ai))), (5, iD v2)] []) (fun v3 => mk [] []) (fun _ _ => rfl) (sm [] _ _ rfl rfl) (fun j2 n2 v2 h => ?_) (fun v3 s h hs => ?_)
  ·unfold D8 at h
   refine wp rfl (qw 2 rfl (AB Bo rfl (AT rfl (Aa ?_))))
   refine Bc h (fun h => ?_) fun h => ?_
   ·refine Al (AO (AM (wq rfl (qw 2 rfl ?_))))
    refine BT h fun v5 a5 b5 h => qi Bo Cg a5 (Af b5) rfl (qK Gb Cg rfl (qw 2 rfl ?_))
    refine BT h fun v6 a6 b6 h => qi Bo Cg a6 (Af b6) rfl (qK Gb Cg rfl ?_)
    refine Wu [.int .i64 v5.ff, .int .i64 v5.fh, .int .i64 v5.fi] [.int .i64 v6.ff, .int .i64 v6.fh, .int .i64 v6.fi] (.p rfl) rfl rfl RJ rfl ?_
    refine AI (by kernel_rfl) ?_
    refine Bc h (fun h => ?_) fun h => ?_
    ·refine wq rfl (qe rfl ?_)
     obtain rfl := sj h
     refine Ae (sm [] [(4, bD false)] [] rfl rfl) (Ap ?_)
     exact ⟨⟨[_], tm, rfl⟩, tv⟩
    ·refine Al (Ag Az rfl (qm rfl (Be rfl (qe rfl ?_))))
     exact sn [] h
   ·refine AS ?_
    exact sn [] h
  ·refine Ae hs (wq rfl (qe rfl ?_))
   obtain rfl := sj h
   refine Ae (sm [] [(4, bD true)] [] rfl rfl) (Ap ?_)
   exact ⟨⟨[_], tm, rfl⟩, tv⟩
theorem J8 (N : Nat) (p0 : List (List Ad)) (p1 : List (List Ad)) (r : Bool) (h : FH N p0 p1 = some r) : Aq Tryz.prog 17 [pD (.sl (p0.map (Fj Ai))), pD (.sl (p1.map (Fj Ai)))] [] (bD r) := by
 unfold FH at h
 refine cw (n := 27) (rs := [.tmp 4]) Tryz.func17 fun w0 S0 => ?_
 refine wq rfl (qa rfl (Aa (wp rfl (qm rfl (AB ID rfl (qm rfl (AB ID rfl (BB rfl (Aa ?_)))))))))
 refine Bc h (fun h => ?_) fun h => ?_
 ·refine wq rfl (qe rfl ?_)
  obtain rfl := sj h
  refine Ae (sm [] [(4, bD false)] [] rfl rfl) (Ap ?_)
  exact ⟨⟨[_], tm, rfl⟩, tv⟩
 ·refine Al (wp rfl (qe rfl ?_))
  refine AH (L := D7 N p0 p1) h (fun v2 => mk [(0, pD (.sl (p0.map (Fj Ai)))), (1, pD (.sl (p1.map (Fj Ai)))), (5, iD v2)] []) (fun v3 => mk [] []) (fun _ _ => rfl) (sm [] _ _ rfl rfl) (fun j2 n2 v2 h => ?_) (fun v3 s h hs => ?_)
  ·unfold D7 at h
   refine wp rfl (qw 2 rfl (AB ID rfl (AT rfl (Aa ?_))))
   refine Bc h (fun h => ?_) fun h => ?_
   ·refine Al (AO (AM (wq rfl (qw 2 rfl ?_))))
    refine BT h fun v5 a5 b5 h => qi ID OW a5 (Af b5) rfl (qk Rk rfl (qw 2 rfl ?_))
    refine BT h fun v6 a6 b6 h => qi ID OW a6 (Af b6) rfl (qk Rk rfl ?_)
    refine BS h fun v7 a7 h => Ar [] (HT N v5 v6 v7 a7) Wj rfl (BX rfl (AI (by kernel_rfl) ?_))
    refine Bc h (fun h => ?_) fun h => ?_
    ·refine wq rfl (qe rfl ?_)
     obtain rfl := sj h
     refine Ae (sm [] [(4, bD false)] [] rfl rfl) (Ap ?_)
     exact ⟨⟨[_], tm, rfl⟩, tv⟩
    ·refine Al (Ag Az rfl (qm rfl (Be rfl (qe rfl ?_))))
     exact sn [] h
   ·refine AS ?_
    exact sn [] h
  ·refine Ae hs (wq rfl (qe rfl ?_))
   obtain rfl := sj h
   refine Ae (sm [] [(4, bD true)] [] rfl rfl) (Ap ?_)
   exact ⟨⟨[_], tm, rfl⟩, tv⟩
theorem M1 (N : Nat) (p0 : Ab) (p1 : List (List Ad)) (r : Bool) (h : H4 N p0 p1 = some r) : Aq Tryz.prog 18 [.e (.agg (Ah p0)), pD (.sl (p1.map (Fj Ai)))] [] (bD r) := by
 unfold H4 at h
 refine cw (n := 40) (rs := [.tmp 4]) Tryz.func18 fun w0 S0 => ?_
 refine wq rfl (qb rfl (qa rfl (Aa (wq rfl (qL CL Cp rfl (qm rfl ?_))))))
 refine BS h fun v1 a1 h => Ar [2001] (JX N p0 p1 v1 a1) VQ rfl (qm rfl (qx rfl (qx rfl (qa rfl (qa rfl (Aa (wp rfl (qm rfl (BB rfl (Aa ?_))))))))))
 refine Bc h (fun h => ?_) fun h => ?_
 ·refine wq rfl (qe rfl ?_)
  obtain rfl := sj h
  refine Ae (sm [] [(4, bD false)] [] rfl rfl) (Ap ?_)
  exact ⟨⟨[_], tm, rfl⟩, tv⟩
 ·refine Al (wq rfl (qL CL Cp rfl (qm rfl ?_)))
  refine BT h fun v3 a3 b3 h => qI GT AF a3 (Af b3) rfl (qJ A0 AF (Af b3) rfl ?_)
  refine BS h fun v4 a4 h => Ar [] (IF N p0 v3 v4 a4) U9 rfl (qm rfl (qx rfl (qx rfl (qa rfl (qa rfl (AI (by kernel_rfl) ?_))))))
  refine AK h (fun v5 => mk [(4, bD v5)] []) (fun j5 h => ?_) (fun v5 h => ?_)
  ·refine Ag Az rfl (qm rfl (Br rfl (qm rfl ?_)))
   refine Dm 27 h rfl (fun h => ?_) fun h => ?_
   ·refine qm rfl (qp rfl (qm rfl ?_))
    refine Dm 30 h rfl (fun h => ?_) fun h => ?_
    ·refine qL CL Cp rfl (qw 2 rfl (FI GT rfl (NL rfl ?_)))
     refine BT h fun v8 a8 b8 h => qI GT AF a8 (Af b8) rfl (qJ A0 AF (Af b8) rfl ?_)
     refine BS h fun v9 a9 h => Ar [] (MF N p0 v8 v9 a9) Wg rfl (qp rfl (qa rfl (AI (by kernel_rfl) ?_)))
     exact sn [] h
    ·refine qw 8 rfl (qp rfl (qa rfl (AI (by kernel_rfl) ?_)))
     exact sn [] h
   ·refine qn rfl (qp rfl (qw 9 rfl (qp rfl (qa rfl (AI (by kernel_rfl) ?_)))))
    exact sn [] h
  ·obtain rfl := sj h
   refine Ae (sm [] [(4, bD v5)] [] rfl rfl) (Ap ?_)
   exact ⟨⟨[_], tm, rfl⟩, tv⟩
theorem Mh (N : Nat) (p0 : List (List Ad)) (r : Int) (h : Ho N p0 = some r) : Aq Tryz.prog 26 [pD (.sl (p0.map (Fj Ai)))] [] (iD r) := by
 unfold Ho at h
 refine cw (n := 27) (rs := [.tmp 2]) Tryz.func26 fun w0 S0 => ?_
 refine wq rfl (qa rfl (Aa (wq rfl (qa rfl (Aa (wp rfl (qm rfl (AB ID rfl (qm rfl (Aa ?_))))))))))
 refine AH (L := EW N p0) h (fun v1 => mk [(3, iD v1.1), (7, pD (.sl (p0.map (Fj Ai)))), (8, iD ((p0.length : Int))), (9, iD v1.2)] []) (fun v2 => mk [(3, iD v2)] []) (fun _ _ => rfl) (sm [] _ _ rfl rfl) (fun j1 n1 v1 h => ?_) (fun v2 s h hs => ?_)
 ·unfold EW at h
  refine wq rfl (AT rfl (Aa (AO ?_)))
  refine Bc h (fun h => ?_) fun h => ?_
  ·refine Al (AO (AM (wq rfl ?_)))
   refine BT h fun v4 a4 b4 h => qi ID OW a4 (Af b4) rfl (qk Rk rfl (qa rfl (Aa (wq rfl (qm rfl (AB Bo rfl (qm rfl (Aa ?_))))))))
   refine AH (L := ER N v4) h (fun v5 => mk [(3, iD v5.1), (7, pD (.sl (p0.map (Fj Ai)))), (8, iD ((p0.length : Int))), (9, iD v1.2), (14, iD ((v4.length : Int))), (15, iD v5.2)] []) (fun v6 => mk [(3, iD v6), (7, pD (.sl (p0.map (Fj Ai)))), (8, iD ((p0.length : Int))), (9, iD v1.2)] []) (fun _ _ => rfl) (sm [] _ _ rfl rfl) (fun j5 n5 v5 h => ?_) (fun v6 s h hs => ?_)
   ·unfold ER at h
    refine wq rfl (AT rfl (Aa (AO ?_)))
    refine Bc h (fun h => ?_) fun h => ?_
    ·refine Al (AO (AM (wq rfl (qm rfl (qa rfl (Aa (Ag Az rfl (qw 2 rfl (Be rfl ?_)))))))))
     refine QD (.p rfl) rfl rfl ?_
     refine KA rfl ?_
     refine QD (.p rfl) rfl rfl ?_
     refine qa rfl (Aa (Ag Az rfl (Be rfl (qm rfl (Aa ?_)))))
     exact sn [] h
    ·refine AS ?_
     exact sn [] h
   ·refine Ae hs (Ag Az rfl (Be rfl (qm rfl (Aa ?_))))
    exact sn [] h
  ·refine AS ?_
   exact sn [] h
 ·refine Ae hs (wq rfl (qm rfl (qe rfl ?_)))
  obtain rfl := sj h
  refine Ae (sm [] [(2, iD v2)] [] rfl rfl) (Ap ?_)
  exact ⟨⟨[_], tm, rfl⟩, tv⟩
theorem Hu (N : Nat) (r : Bool) (h : DP N = some r) : Aq Tryz.prog 8 [] [] (bD r) := by
 unfold DP at h
 refine cw (n := 107) (rs := [.tmp 0]) Tryz.func8 fun w0 S0 => ?_
 refine wq rfl (qa rfl (Aa (wq rfl ?_)))
 refine BS h fun v1 a1 h => Ar [2001, 2002, 2003, 2004] (I6 N v1 a1) Xb rfl (qm rfl (qx rfl (qx rfl (qz PF rfl (qs Cp rfl (qa rfl (Aa (wq rfl (qL CL Cp rfl (qm rfl (D2 (A5 2001 _ _ rfl rfl) (D2 (A5 2002 _ _ rfl rfl) (D2 (A5 2003 _ _ rfl rfl) (D2 (A5 2004 _ _ rfl rfl) ?_))))))))))))))
 refine BS h fun v2 a2 h => Ar [2005] (P1 N v1.1 v1.2 v2 a2) WY rfl (qm rfl (qx rfl (qx rfl (qa rfl (qa rfl (Aa (wq rfl (qL CL Cp rfl ?_))))))))
 refine BS h fun v3 a3 h => Ar [2006, 2007, 2008] (JJ N v1.1 v3 a3) Xz rfl (qm rfl (qx rfl (qx rfl (qz Cb rfl (qs AF rfl (qa rfl (Aa (wq rfl (qL CL Cp rfl (qL A0 AF rfl (qm rfl (D2 (A5 2006 _ _ rfl rfl) (D2 (A5 2007 _ _ rfl rfl) (D2 (A5 2008 _ _ rfl rfl) ?_))))))))))))))
 refine BS h fun v4 a4 h => Ar [] (LI N v1.1 v3.1 v1.2 v4 a4) Wh rfl (qm rfl (qx rfl (qx rfl (qa rfl (qa rfl (Aa (wq rfl (qL CL Cp rfl (qL A0 AF rfl (qm rfl ?_))))))))))
 refine Ey h fun c5 h => Id (.p rfl) rfl Bo Cg (FV (f := Ai) (n := 3) (fun _ => rfl) _) (.none _) (.some _ _ _ _ c5.1) tv ⟨rfl, tv⟩ (by have := c5.2.1; (try simp only [List.length_map]); omega) (by have := c5.2.2; (try simp only [List.length_map]); omega) (He Ai v1.2 _ _ ((2 : Int).toNat - 0) rfl) ?_
 refine BS h fun v6 a6 h => Ar [] (HC N v1.1 v3.1 (((v1.2.drop 0).take ((2 : Int).toNat - 0))) v6 a6) T9 rfl (qm rfl (qx rfl (qx rfl (qa rfl (qa rfl (AI (by kernel_rfl) (wq rfl (qL CL Cp rfl (qm rfl (D2 (A5 2005 _ _ rfl rfl) ?_))))))))))
 refine BS h fun v7 a7 h => Ar [2009] (JX N v1.1 v2.1 v7 a7) VQ rfl (qm rfl (qx rfl (qx rfl (qa rfl (qe rfl ?_)))))
 refine AK h (fun v8 => mk [(0, bD v8)] []) (fun j8 h => ?_) (fun v8 h => ?_)
 ·refine Ag Az rfl (qm rfl (Br rfl (qm rfl ?_)))
  refine Dm 51 h rfl (fun h => ?_) fun h => ?_
  ·refine qw 2 rfl ?_
   refine Ey h fun c10 h => Id (.g rfl rfl) rfl Bo Cg (FV (f := Ai) (n := 3) (fun _ => rfl) _) (.none _) (.some _ _ _ _ c10.1) tv ⟨rfl, tv⟩ (by have := c10.2.1; (try simp only [List.length_map]); omega) (by have := c10.2.2; (try simp only [List.length_map]); omega) (He Ai v1.2 _ _ ((2 : Int).toNat - 0) rfl) ?_
   refine qm rfl ?_
   refine Ey h fun c11 h => Id (.g rfl rfl) rfl Bo Cg (FV (f := Ai) (n := 3) (fun _ => rfl) _) (.some _ _ _ _ c11.1) (.none _) ⟨rfl, tv⟩ tv (by have := c11.2.1; (try simp only [List.length_map]); omega) (by have := c11.2.2; (try simp only [List.length_map]); omega) (He Ai v1.2 _ _ (v1.2.length - (2 : Int).toNat) (by rw [List.length_map])) ?_
   refine D1 ID OW TW rfl ?_
   refine BS h fun v12 a12 h => FY [] [57] (J8 N v2.1 (([((v1.2.drop 0).take ((2 : Int).toNat - 0)), ((v1.2.drop (2 : Int).toNat).take (v1.2.length - (2 : Int).toNat))] : List (List Ad))) v12 a12) WN Eh rfl (qp rfl (qm rfl ?_))
   refine Dm 60 h rfl (fun h => ?_) fun h => ?_
   ·refine qm rfl (Br rfl (qp rfl (qm rfl ?_)))
    refine Dm 64 h rfl (fun h => ?_) fun h => ?_
    ·refine qw 2 rfl ?_
     refine BT h fun v15 a15 b15 h => qi Bo Cg a15 (Af b15) rfl (qK Gb Cg rfl (qm rfl ?_))
     refine BT h fun v16 a16 b16 h => qi Bo Cg a16 (Af b16) rfl (qK Gb Cg rfl (qm rfl ?_))
     refine BT h fun v17 a17 b17 h => qi Bo Cg a17 (Af b17) rfl (qK Gb Cg rfl (qm rfl ?_))
     refine BT h fun v18 a18 b18 h => qi Bo Cg a18 (Af b18) rfl (qK Gb Cg rfl (D1 Bo Cg IV rfl ?_))
     refine BS h fun v19 a19 h => FY [] [78] (HT N v4.1 (([v15, v16, v17, v18] : List Ad)) v19 a19) Wj Eh rfl (qp rfl (qm rfl ?_))
     refine Dm 81 h rfl (fun h => ?_) fun h => ?_
     ·refine qm rfl (qp rfl (qm rfl ?_))
      refine Dm 84 h rfl (fun h => ?_) fun h => ?_
      ·refine qm rfl (Br rfl (qp rfl (qm rfl ?_)))
       refine Dm 88 h rfl (fun h => ?_) fun h => ?_
       ·refine qm rfl (Br rfl (qp rfl (qm rfl ?_)))
        refine Dm 92 h rfl (fun h => ?_) fun h => ?_
        ·refine qm rfl (FI GT rfl (Br rfl (qp rfl (qm rfl ?_))))
         refine Dm 97 h rfl (fun h => ?_) fun h => ?_
         ·refine qL CL Cp rfl (qm rfl ?_)
          refine BS h fun v25 a25 h => Ar [] (M1 N v1.1 v2.1 v25 a25) WO rfl (qp rfl (qm rfl ?_))
          refine Dm 102 h rfl (fun h => ?_) fun h => ?_
          ·refine qm rfl ?_
           refine BS h fun v27 a27 h => Ar [] (Mh N v2.1 v27 a27) XK rfl (Br rfl (qp rfl (qa rfl (AI (by kernel_rfl) ?_))))
           exact sn [] h
          ·refine qw 3 rfl (qp rfl (qa rfl (AI (by kernel_rfl) ?_)))
           exact sn [] h
         ·refine qw 3 rfl (qp rfl (qw 4 rfl (qp rfl (qa rfl (AI (by kernel_rfl) ?_)))))
          exact sn [] h
        ·refine qw 3 rfl (qp rfl (qw 4 rfl (qp rfl (qw 4 rfl (qp rfl (qa rfl (AI (by kernel_rfl) ?_)))))))
         exact sn [] h
       ·refine qw 2 rfl (qp rfl (qw 4 rfl (qp rfl (qw 4 rfl (qp rfl (qw 4 rfl (qp rfl (qa rfl (AI (by kernel_rfl) ?_)))))))))
        exact sn [] h
      ·refine qw 2 rfl (qp rfl (qw 3 rfl (qp rfl (qw 4 rfl (qp rfl (qw 4 rfl (qp rfl (qw 4 rfl (qp rfl (qa rfl (AI (by kernel_rfl) ?_)))))))))))
       exact sn [] h
     ·refine qn rfl (qp rfl (qw 3 rfl (qp rfl (qw 3 rfl (qp rfl (qw 4 rfl (qp rfl (qw 4 rfl (qp rfl (qw 4 rfl (qp rfl (qa rfl (AI (by kernel_rfl) ?_)))))))))))))
      exact sn [] h
    ·refine qw 15 rfl (qp rfl (qw 2 rfl (qp rfl (qw 3 rfl (qp rfl (qw 3 rfl (qp rfl (qw 4 rfl (qp rfl (qw 4 rfl (qp rfl (qw 3 rfl ?_))))))))))))
     refine qn rfl (qp rfl (qa rfl (AI (by kernel_rfl) ?_)))
     exact sn [] h
   ·refine qw 2 rfl (qp rfl (qw 16 rfl (qp rfl (qw 2 rfl (qp rfl (qw 3 rfl (qp rfl (qw 3 rfl (qp rfl (qw 4 rfl (qp rfl (qw 4 rfl ?_))))))))))))
    refine qp rfl (qw 4 rfl (qp rfl (qa rfl (AI (by kernel_rfl) ?_))))
    exact sn [] h
  ·refine qw 7 rfl (qp rfl (qw 3 rfl (qp rfl (qw 16 rfl (qp rfl (qw 2 rfl (qp rfl (qw 3 rfl (qp rfl (qw 3 rfl (qp rfl ?_)))))))))))
   refine qw 4 rfl (qp rfl (qw 4 rfl (qp rfl (qw 4 rfl (qp rfl (qa rfl (AI (by kernel_rfl) ?_)))))))
   exact sn [] h
 ·obtain rfl := sj h
  refine Ae (sm [] [(0, bD v8)] [] rfl rfl) (Ap ?_)
  exact ⟨⟨[_], tm, rfl⟩, tv⟩
theorem Gd (N : Nat) (p0 : List Int) (p1 : Int) (r : Int) (h : CM N p0 p1 = some r) : Aq Tryz.prog 27 [pD (.sl (p0.map B3)), iD p1] [] (iD r) := by
 unfold CM at h
 refine cw (n := 14) (rs := [.tmp 4]) Tryz.func27 fun w0 S0 => ?_
 refine wq rfl (qa rfl (Aa (wp rfl (qw 2 rfl (AB Ml rfl (AT rfl (Aa ?_)))))))
 refine Bc h (fun h => ?_) fun h => ?_
 ·refine wq rfl (qw 2 rfl ?_)
  refine BT h fun v2 a2 b2 h => qi Ml Xq a2 (Af b2) rfl (qk VC rfl (Iv UZ TX rfl (qe rfl ?_)))
  obtain rfl := sj h
  refine Ae (sm [] [(4, iD ((wI .i64 v2)))] [] rfl rfl) (Ap ?_)
  exact ⟨⟨[_], tm, rfl⟩, tv⟩
 ·refine Al (wq rfl (qe rfl ?_))
  obtain rfl := sj h
  refine Ae (sm [] [(4, iD 0)] [] rfl rfl) (Ap ?_)
  exact ⟨⟨[_], tm, rfl⟩, tv⟩
theorem CT (N : Nat) (p0 : Ac) (p1 : Int) (r : Int) (h : Bl N p0 p1 = some r) : Aq Tryz.prog 28 [.e (.agg (Ay p0)), iD p1] [] (pD (.val (.int .u8 r))) := by
 unfold Bl at h
 refine cw (n := 27) (rs := [.tmp 4]) Tryz.func28 fun w0 S0 => ?_
 refine wq rfl (qb rfl (qa rfl (Aa (wq rfl (qf Ce rfl (ql AV rfl (qm rfl ?_)))))))
 refine BT h fun v1 a1 b1 h => qi Au Cy a1 (Af b1) rfl (qk BL rfl ?_)
 refine Ey h fun c2 h => H6 rfl c2 (qe rfl ?_)
 refine AK h (fun v3 => mk [(5, pD (.val (.int .u8 v3)))] []) (fun j3 h => ?_) (fun v3 h => ?_)
 ·refine wq rfl (qf Bf rfl (ql AV rfl (qm rfl ?_)))
  refine BT h fun v4 a4 b4 h => qi Au Cy a4 (Af b4) rfl (qk BL rfl (Ep rfl (Aa ?_)))
  refine Bc h (fun h => ?_) fun h => ?_
  ·refine Ag Az rfl (qm rfl (qf Bf rfl (ql AV rfl (qm rfl ?_))))
   refine BT h fun v6 a6 b6 h => qi Au Cy a6 (Af b6) rfl (qk BL rfl ?_)
   refine Ey h fun c7 h => H6 rfl c7 (Rd rfl (qe rfl ?_))
   exact sn [] h
  ·refine Al ?_
   exact sn [] h
 ·refine wq rfl (qm rfl (qe rfl ?_))
  obtain rfl := sj h
  refine Ae (sm [] [(4, pD (.val (.int .u8 v3)))] [] rfl rfl) (Ap ?_)
  exact ⟨⟨[_], tm, rfl⟩, tv⟩
theorem K3 (N : Nat) (p0 : Ab) (p1 : Bk) (r : Ac) (h : DR N p0 p1 = some r) : Aq Tryz.prog 9 [.e (.agg (Ah p0)), .e (.agg (CP p1))] [(1, r.fd.map An), (1, r.fa.map An), (1, r.fc.map B3)] (.e (.agg [.own 0, .own 1, .own 2])) := by
 unfold DR at h
 refine cw (n := 99) (rs := [.cell 4 38]) Tryz.func9 fun w0 S0 => ?_
 refine wq rfl (qb rfl (qb rfl (qz Cb rfl (Aa (wq rfl (qz Cb rfl (Aa (wp rfl (qe rfl ?_)))))))))
 refine AH (L := B4 N p0 p1) h (fun v1 => mk [(2, oD (.ptr 2 0)), (3, oD (.ptr 3 0)), (4, oD (.ptr 4 0)), (5, oD (.ptr 5 0)), (6, iD v1.2.2)] [(2, .box (Ah p0)), (3, .box (CP p1)), (4, .box [.pure (.nil0), .pure (.nil0), .pure (.nil0)]), (5, .box [.own 2001, .own 2002, .pure (.nil0)]), (2001, .vec 1 (v1.1.map An)), (2002, .vec 1 (v1.2.1.map An))]) (fun v2 => mk [(2, oD (.ptr 2 0)), (3, oD (.ptr 3 0)), (4, oD (.ptr 4 0)), (5, oD (.ptr 5 0))] [(2, .box (Ah p0)), (3, .box (CP p1)), (4, .box [.pure (.nil0), .pure (.nil0), .pure (.nil0)]), (5, .box [.own 2003, .own 2004, .pure (.nil0)]), (2003, .vec 1 (v2.1.map An)), (2004, .vec 1 (v2.2.map An))]) (fun _ _ => rfl) ((Ax 5 0 2007 1 _ rfl rfl rfl rfl).trans ((Ax 5 1 2008 1 _ rfl rfl rfl rfl).trans (sm [(2001, 2007), (2002, 2008)] _ _ rfl rfl))) (fun j1 n1 v1 h => ?_) (fun v2 s h hs => ?_)
 ·unfold B4 at h
  refine wp rfl (qm rfl (qf Bg rfl (ql AV rfl (AB Au rfl (AT rfl (Aa ?_))))))
  refine Bc h (fun h => ?_) fun h => ?_
  ·refine Al (AO (AM (wq rfl (qf Bg rfl (ql AV rfl (qm rfl ?_))))))
   refine BT h fun v4 a4 b4 h => qi Au Cy a4 (Af b4) rfl (qk BL rfl (qa rfl (Aa (wq rfl (qf S8 rfl (ql Py rfl (qm rfl ?_)))))))
   refine BS h fun v5 a5 h => Ar [] (Gd N p1.fd v1.2.2 v5 a5) Vc rfl (qm rfl ?_)
   refine Ey h fun c6 h => I0 rfl c6 (qa rfl (Aa (wq rfl (qe rfl ?_))))
   refine AK h (fun v7 => mk [(2, oD (.ptr 2 0)), (3, oD (.ptr 3 0)), (4, oD (.ptr 4 0)), (5, oD (.ptr 5 0)), (6, iD v1.2.2), (8, iD ((Int.tmod v5 v4))), (9, iD v7)] [(2, .box (Ah p0)), (3, .box (CP p1)), (4, .box [.pure (.nil0), .pure (.nil0), .pure (.nil0)]), (5, .box [.own 2005, .own 2006, .pure (.nil0)]), (2005, .vec 1 (v1.1.map An)), (2006, .vec 1 (v1.2.1.map An))]) (fun j7 h => ?_) (fun v7 h => ?_)
   ·refine wq rfl (qf Tv rfl (ql Py rfl (qm rfl ?_)))
    refine BS h fun v8 a8 h => Ar [] (Gd N p1.fa v1.2.2 v8 a8) Vc rfl (qm rfl ?_)
    refine Ey h fun c9 h => I0 rfl c9 (qa rfl (Aa (wq rfl (qm rfl (EP rfl (Aa ?_))))))
    refine Bc h (fun h => ?_) fun h => ?_
    ·refine Ag Az rfl (qw 2 rfl (Be rfl (qm rfl ?_)))
     refine Ey h fun c11 h => I0 rfl c11 (qe rfl ?_)
     exact sn [(2005, 2001), (2006, 2002)] h
    ·refine Al ?_
     exact sn [(2005, 2001), (2006, 2002)] h
   ·refine wq rfl (qf Ce rfl (ql AV rfl (qm rfl (D1 Au Cy I1 rfl ?_))))
    refine Ey h fun c12 h => Dz (f := An) Au Au Cy Ja I1 c12 rfl (qf Ce rfl (qs Kr rfl (Aa (Ag Az rfl (qf Bf rfl (ql AV rfl (qm rfl (D1 Au Cy I1 rfl ?_))))))))
    refine Ey h fun c13 h => Dz (f := An) Au Au Cy Ja I1 c13 rfl (qf Bf rfl (qs Kr rfl (Aa (Ag Az rfl (qm rfl (Be rfl (qe rfl ?_)))))))
    exact sn [(2001, 50), (2002, 56)] h
  ·refine AS ?_
   exact sn [(2003, 2001), (2004, 2002)] h
 ·refine Ae hs (wp rfl (qe rfl ?_))
  refine AH (L := A4 N p0 p1 v2) h (fun v14 => mk [(2, oD (.ptr 2 0)), (3, oD (.ptr 3 0)), (4, oD (.ptr 4 0)), (5, oD (.ptr 5 0)), (11, iD v14.2)] [(2, .box (Ah p0)), (3, .box (CP p1)), (4, .box [.pure (.nil0), .pure (.nil0), .pure (.nil0)]), (5, .box [.own 2009, .own 2010, .own 2011]), (2009, .vec 1 (v2.1.map An)), (2010, .vec 1 (v2.2.map An)), (2011, .vec 1 (v14.1.map B3))]) (fun v15 => mk [(4, oD (.ptr 4 0)), (5, oD (.ptr 5 0))] [(4, .box [.pure (.nil0), .pure (.nil0), .pure (.nil0)]), (5, .box [.own 2012, .own 2013, .own 2014]), (2012, .vec 1 (v2.1.map An)), (2013, .vec 1 (v2.2.map An)), (2014, .vec 1 (v15.map B3))]) (fun _ _ => rfl) ((Ax 5 2 2018 1 _ rfl rfl rfl rfl).trans (sm [(2009, 2003), (2010, 2004), (2011, 2018)] _ _ rfl rfl)) (fun j14 n14 v14 h => ?_) (fun v15 s h hs => ?_)
  ·unfold A4 at h
   refine wp rfl (qm rfl (qf Cd rfl (ql GD rfl (AB DG rfl (AT rfl (Aa ?_))))))
   refine Bc h (fun h => ?_) fun h => ?_
   ·refine Al (AO (AM (wq rfl (qf Cd rfl (ql GD rfl (qm rfl ?_))))))
    refine BT h fun v17 a17 b17 h => qi DG Dr a17 (Af b17) rfl (qK Gv Dr rfl (qz KU rfl (qs Dr rfl (Aa (wq rfl (qe rfl ?_))))))
    refine AK h (fun v18 => mk [(2, oD (.ptr 2 0)), (3, oD (.ptr 3 0)), (4, oD (.ptr 4 0)), (5, oD (.ptr 5 0)), (11, iD v14.2), (13, pD (.val (.int .u8 v18)))] [(2, .box (Ah p0)), (3, .box (CP p1)), (4, .box [.pure (.nil0), .pure (.nil0), .pure (.nil0)]), (5, .box [.own 2015, .own 2016, .own 2017]), (2015, .vec 1 (v2.1.map An)), (2016, .vec 1 (v2.2.map An)), (2017, .vec 1 (v14.1.map B3))]) (fun j18 h => ?_) (fun v18 h => ?_)
    ·refine wq rfl (qL Gv Dr rfl ?_)
     refine BS h fun v19 a19 h => Ar [] (Bx N v17 v19 a19) MP rfl (Aa ?_)
     refine Bc h (fun h => ?_) fun h => ?_
     ·refine wq rfl (qf Bg rfl (ql AV rfl (qf Ck rfl (ql BL rfl ?_))))
      refine BT h fun v21 a21 b21 h => qi Au Cy a21 (Af b21) rfl (qk BL rfl ?_)
      refine Ey h fun c22 h => H6 rfl c22 (NL rfl (qa rfl (Aa (Ag Az rfl (qL A0 AF rfl (qf Ck rfl (ql BL rfl ?_)))))))
      refine BS h fun v23 a23 h => FY [] [2009, 2010, 2011] (CT N ((Ac.mk v2.1 v2.2 v14.1)) v17.fg v23 a23) Rn Eh rfl (qf Tw rfl (ql Py rfl (qm rfl ?_)))
      refine BS h fun v24 a24 h => Ar [] (Gd N p1.fc v14.2 v24 a24) Vc rfl (Iv Xt XR rfl (qm rfl (Km rfl (Rd rfl (qa rfl (AI (by kernel_rfl) ?_))))))
      exact sn [(2015, 2009), (2016, 2010), (2017, 2011)] h
     ·refine Al ?_
      exact sn [(2015, 2009), (2016, 2010), (2017, 2011)] h
    ·refine Ag Az rfl (qf BZ rfl (ql Ge rfl (qm rfl (D1 Cw EQ Mt rfl ?_))))
     refine Ey h fun c25 h => Dz (f := B3) Cw Cw EQ Ni Mt c25 rfl (qf BZ rfl (qs VV rfl (Aa (Ag Az rfl (qm rfl (Be rfl (qe rfl ?_)))))))
     exact sn [(2009, 2015), (2010, 2016), (2011, 96)] h
   ·refine AS ?_
    exact sn [(2012, 2009), (2013, 2010), (2014, 2011)] h
  ·refine Ae hs (wq rfl (qL A0 AF rfl (qs AF rfl (Aa ?_))))
   obtain rfl := sj h
   refine Ae (sm [(1000, 2012), (1001, 2013), (1002, 2014)] [(4, oD (.ptr 4 0))] [(4, .box [.own 1000, .own 1001, .own 1002]), (1000, .vec 1 (v2.1.map An)), (1001, .vec 1 (v2.2.map An)), (1002, .vec 1 (v15.map B3))] rfl rfl) (Ap ?_)
   exact ⟨⟨[_], ⟨.cellN _ _ _ _ _ _ _ rfl rfl A0 AF rfl rfl (GV rfl), tv⟩, rfl⟩, ⟨rfl, rfl, rfl, tv⟩⟩
theorem FE (N : Nat) (p0 : Ab) (p1 : Ac) (r : Int) (h : Cv N p0 p1 = some r) : Aq Tryz.prog 30 [.e (.agg (Ah p0)), .e (.agg (Ay p1))] [] (iD r) := by
 unfold Cv at h
 refine cw (n := 154) (rs := [.tmp 4]) Tryz.func30 fun w0 S0 => ?_
 refine wq rfl (qb rfl (qb rfl (qa rfl (Aa (wp rfl (qL CL Cp rfl ?_))))))
 refine BS h fun v1 a1 h => Ar [] (Fq N p0 v1 a1) V3 rfl (qa rfl (Aa (wq rfl (qm rfl (BB rfl (Aa ?_))))))
 refine Bc h (fun h => ?_) fun h => ?_
 ·refine wq rfl (qm rfl (qe rfl ?_))
  obtain rfl := sj h
  refine Ae (sm [] [(4, iD v1)] [] rfl rfl) (Ap ?_)
  exact ⟨⟨[_], tm, rfl⟩, tv⟩
 ·refine Al (wq rfl (qf Bg rfl (ql AV rfl (AB Au rfl (qa rfl (Aa (AO ?_)))))))
  refine AK h (fun v3 => mk [(2, oD (.ptr 2 0)), (3, oD (.ptr 3 0)), (6, iD ((p0.fb.length : Int))), (39, bD v3)] [(2, .box (Ah p0)), (3, .box (Ay p1))]) (fun j3 h => ?_) (fun v3 h => ?_)
  ·refine Ag Az rfl (qf Ce rfl (ql AV rfl (AB Au rfl (qm rfl (BB rfl (qm rfl ?_))))))
   refine Dm 24 h rfl (fun h => ?_) fun h => ?_
   ·refine qw 5 rfl (qp rfl (qw 8 rfl (qp rfl (Aa ?_))))
    exact sn [] h
   ·refine qf Bf rfl (ql AV rfl (AB Au rfl (qm rfl (BB rfl (qp rfl (qm rfl ?_))))))
    refine Dm 31 h rfl (fun h => ?_) fun h => ?_
    ·refine qw 7 rfl (qp rfl (Aa ?_))
     exact sn [] h
    ·refine qf BZ rfl (ql Ge rfl (AB Cw rfl (qf Cd rfl (ql GD rfl (AB DG rfl (BB rfl (qp rfl (Aa ?_))))))))
     exact sn [] h
  ·refine Bc h (fun h => ?_) fun h => ?_
   ·refine wq rfl (qe rfl ?_)
    obtain rfl := sj h
    refine Ae (sm [] [(4, iD 6)] [] rfl rfl) (Ap ?_)
    exact ⟨⟨[_], tm, rfl⟩, tv⟩
   ·refine Al (wp rfl (qe rfl ?_))
    refine AH (L := BJ N p0 p1) h (fun v7 => mk [(2, oD (.ptr 2 0)), (3, oD (.ptr 3 0)), (6, iD ((p0.fb.length : Int))), (7, iD v7)] [(2, .box (Ah p0)), (3, .box (Ay p1))]) (fun v8 => mk [(2, oD (.ptr 2 0)), (3, oD (.ptr 3 0))] [(2, .box (Ah p0)), (3, .box (Ay p1))]) (fun _ _ => rfl) (sm [] _ _ rfl rfl) (fun j7 n7 v7 h => ?_) (fun v8 s h hs => ?_)
    ·unfold BJ at h
     refine wp rfl (qw 2 rfl (AT rfl (Aa ?_)))
     refine Bc h (fun h => ?_) fun h => ?_
     ·refine Al (AO (AM (AO ?_)))
      refine AK h (fun v10 => mk [(2, oD (.ptr 2 0)), (3, oD (.ptr 3 0)), (6, iD ((p0.fb.length : Int))), (7, iD v7), (84, bD v10)] [(2, .box (Ah p0)), (3, .box (Ay p1))]) (fun j10 h => ?_) (fun v10 h => ?_)
      ·refine Ag Az rfl (qf Ce rfl (ql AV rfl (qm rfl ?_)))
       refine BT h fun v11 a11 b11 h => qi Au Cy a11 (Af b11) rfl (qk BL rfl (AT rfl (qm rfl ?_)))
       refine Dm 51 h rfl (fun h => ?_) fun h => ?_
       ·refine qw 11 rfl (qp rfl (qw 7 rfl (qp rfl (qw 12 rfl (qp rfl (AI (by kernel_rfl) ?_))))))
        exact sn [] h
       ·refine qf Ce rfl (ql AV rfl (qm rfl ?_))
        refine BT h fun v13 a13 b13 h => qi Au Cy a13 (Af b13) rfl (qk BL rfl (qf Bg rfl (ql AV rfl (qm rfl ?_))))
        refine BT h fun v14 a14 b14 h => qi Au Cy a14 (Af b14) rfl (qk BL rfl (Ep rfl (qp rfl (qm rfl ?_))))
        refine Dm 64 h rfl (fun h => ?_) fun h => ?_
        ·refine qw 6 rfl (qp rfl (qw 12 rfl (qp rfl (AI (by kernel_rfl) ?_))))
         exact sn [] h
        ·refine qf Bf rfl (ql AV rfl (qm rfl ?_))
         refine BT h fun v16 a16 b16 h => qi Au Cy a16 (Af b16) rfl (qk BL rfl (AT rfl (qp rfl (qm rfl ?_))))
         refine Dm 72 h rfl (fun h => ?_) fun h => ?_
         ·refine qw 11 rfl (qp rfl (AI (by kernel_rfl) ?_))
          exact sn [] h
         ·refine qf Bf rfl (ql AV rfl (qm rfl ?_))
          refine BT h fun v18 a18 b18 h => qi Au Cy a18 (Af b18) rfl (qk BL rfl (qf Bg rfl (ql AV rfl (qm rfl ?_))))
          refine BT h fun v19 a19 b19 h => qi Au Cy a19 (Af b19) rfl (qk BL rfl (Ep rfl (qp rfl (AI (by kernel_rfl) ?_))))
          exact sn [] h
      ·refine Bc h (fun h => ?_) fun h => ?_
       ·refine wq rfl (qe rfl ?_)
        obtain rfl := sj h
        refine Ae (sm [] [(4, iD 7)] [] rfl rfl) (Ap ?_)
        exact ⟨⟨[_], tm, rfl⟩, tv⟩
       ·refine Al (wq rfl (qf Ce rfl (ql AV rfl (qm rfl ?_))))
        refine BT h fun v21 a21 b21 h => qi Au Cy a21 (Af b21) rfl (qk BL rfl (qf Bf rfl (ql AV rfl (qm rfl ?_))))
        refine BT h fun v22 a22 b22 h => qi Au Cy a22 (Af b22) rfl (qk BL rfl (Br rfl (AI (by kernel_rfl) ?_)))
        refine Bc h (fun h => ?_) fun h => ?_
        ·refine wq rfl (qe rfl ?_)
         obtain rfl := sj h
         refine Ae (sm [] [(4, iD 1)] [] rfl rfl) (Ap ?_)
         exact ⟨⟨[_], tm, rfl⟩, tv⟩
        ·refine Al (Ag Az rfl (qm rfl (Be rfl (qe rfl ?_))))
         exact sn [] h
     ·refine AS ?_
      exact sn [] h
    ·refine Ae hs (wp rfl (qe rfl ?_))
     refine AH (L := BD N p0 p1) h (fun v24 => mk [(2, oD (.ptr 2 0)), (3, oD (.ptr 3 0)), (8, iD v24)] [(2, .box (Ah p0)), (3, .box (Ay p1))]) (fun v25 => mk [] []) (fun _ _ => rfl) (sm [] _ _ rfl rfl) (fun j24 n24 v24 h => ?_) (fun v25 s h hs => ?_)
     ·unfold BD at h
      refine wp rfl (qm rfl (qf Cd rfl (ql GD rfl (AB DG rfl (AT rfl (Aa ?_))))))
      refine Bc h (fun h => ?_) fun h => ?_
      ·refine Al (AO (AM (wq rfl (qf Cd rfl (ql GD rfl (qm rfl ?_))))))
       refine BT h fun v27 a27 b27 h => qi DG Dr a27 (Af b27) rfl (qK Gv Dr rfl (qz KU rfl (qs Dr rfl (Aa (wq rfl (qf Bg rfl (ql AV rfl (qf Ck rfl (ql BL rfl ?_)))))))))
       refine BT h fun v28 a28 b28 h => qi Au Cy a28 (Af b28) rfl (qk BL rfl ?_)
       refine Ey h fun c29 h => H6 rfl c29 (NL rfl (qe rfl ?_))
       refine AK h (fun v30 => mk [(2, oD (.ptr 2 0)), (3, oD (.ptr 3 0)), (8, iD v24), (153, bD v30)] [(2, .box (Ah p0)), (3, .box (Ay p1))]) (fun j30 h => ?_) (fun v30 h => ?_)
       ·refine Ag Az rfl (qL Gv Dr rfl ?_)
        refine BS h fun v31 a31 h => Ar [] (Bx N v27 v31 a31) MP rfl (BX rfl (qm rfl ?_))
        refine Dm 119 h rfl (fun h => ?_) fun h => ?_
        ·refine qf BZ rfl (ql Ge rfl (qm rfl ?_))
         refine BT h fun v33 a33 b33 h => qi Cw EQ a33 (Af b33) rfl (qk I9 rfl (BB rfl (qp rfl (qm rfl ?_))))
         refine Dm 127 h rfl (fun h => ?_) fun h => ?_
         ·refine qw 3 rfl (qu rfl (qu rfl (qu rfl (qu rfl (qu rfl (qu rfl (qu rfl (qu rfl (qu rfl (qu rfl (qu rfl (qu rfl (qu rfl (qu rfl (qu rfl (qu rfl (qu rfl (qu rfl (qu rfl (qu rfl (qu rfl (qn rfl (qp rfl (AI (by kernel_rfl) ?_))))))))))))))))))))))))
          exact sn [] h
         ·refine qL Gv Dr rfl ?_
          refine BS h fun v35 a35 h => Ar [] (Bx N v27 v35 a35) MP rfl (qm rfl ?_)
          refine Dm 130 h rfl (fun h => ?_) fun h => ?_
          ·refine qf BZ rfl (ql Ge rfl (qm rfl ?_))
           refine BT h fun v37 a37 b37 h => qi Cw EQ a37 (Af b37) rfl (qk I9 rfl (qm rfl (HO rfl (BB rfl (qm rfl ?_)))))
           refine Dm 139 h rfl (fun h => ?_) fun h => ?_
           ·refine qw 11 rfl (qp rfl (qp rfl (qp rfl (AI (by kernel_rfl) ?_))))
            exact sn [] h
           ·refine qL A0 AF rfl (qf Ck rfl (ql BL rfl ?_))
            refine BS h fun v39 a39 h => Ar [] (CT N p1 v27.fg v39 a39) Rn rfl (qf BZ rfl (ql Ge rfl (qm rfl ?_)))
            refine BT h fun v40 a40 b40 h => qi Cw EQ a40 (Af b40) rfl (qk I9 rfl (HO rfl (BB rfl (qp rfl (qp rfl (qp rfl (AI (by kernel_rfl) ?_)))))))
            exact sn [] h
          ·refine qw 9 rfl (qu rfl (qu rfl (qu rfl (qu rfl (qu rfl (qu rfl (qu rfl (qu rfl (qu rfl (qu rfl (qu rfl (qn rfl (qp rfl (qp rfl (AI (by kernel_rfl) ?_)))))))))))))))
           exact sn [] h
        ·refine qw 6 rfl (qp rfl (qm rfl (qL Gv Dr rfl ?_)))
         refine BS h fun v41 a41 h => Ar [] (Bx N v27 v41 a41) MP rfl (qm rfl ?_)
         refine Dm 130 h rfl (fun h => ?_) fun h => ?_
         ·refine qf BZ rfl (ql Ge rfl (qm rfl ?_))
          refine BT h fun v43 a43 b43 h => qi Cw EQ a43 (Af b43) rfl (qk I9 rfl (qm rfl (HO rfl (BB rfl (qm rfl ?_)))))
          refine Dm 139 h rfl (fun h => ?_) fun h => ?_
          ·refine qw 11 rfl (qp rfl (qp rfl (qp rfl (AI (by kernel_rfl) ?_))))
           exact sn [] h
          ·refine qL A0 AF rfl (qf Ck rfl (ql BL rfl ?_))
           refine BS h fun v45 a45 h => Ar [] (CT N p1 v27.fg v45 a45) Rn rfl (qf BZ rfl (ql Ge rfl (qm rfl ?_)))
           refine BT h fun v46 a46 b46 h => qi Cw EQ a46 (Af b46) rfl (qk I9 rfl (HO rfl (BB rfl (qp rfl (qp rfl (qp rfl (AI (by kernel_rfl) ?_)))))))
           exact sn [] h
         ·refine qw 9 rfl (qu rfl (qu rfl (qu rfl (qu rfl (qu rfl (qu rfl (qu rfl (qu rfl (qu rfl (qu rfl (qu rfl (qn rfl (qp rfl (qp rfl (AI (by kernel_rfl) ?_)))))))))))))))
          exact sn [] h
       ·refine Bc h (fun h => ?_) fun h => ?_
        ·refine wq rfl (qe rfl ?_)
         obtain rfl := sj h
         refine Ae (sm [] [(4, iD 1)] [] rfl rfl) (Ap ?_)
         exact ⟨⟨[_], tm, rfl⟩, tv⟩
        ·refine Al (Ag Az rfl (qm rfl (Be rfl (qe rfl ?_))))
         exact sn [] h
      ·refine AS ?_
       exact sn [] h
     ·refine Ae hs (wq rfl (qe rfl ?_))
      obtain rfl := sj h
      refine Ae (sm [] [(4, iD 0)] [] rfl rfl) (Ap ?_)
      exact ⟨⟨[_], tm, rfl⟩, tv⟩
theorem Hr (N : Nat) (p0 : Ad) (r : Bool) (h : C0 N p0 = some r) : Aq Tryz.prog 61 [.e (.agg (Cc p0))] [] (bD r) := by
 unfold C0 at h
 refine cw (n := 31) (rs := [.tmp 2]) Tryz.func61 fun w0 S0 => ?_
 refine wq rfl (qb rfl (qe rfl ?_))
 refine AK h (fun v1 => mk [(2, bD v1)] []) (fun j1 h => ?_) (fun v1 h => ?_)
 ·refine Ag Az rfl (qf DS rfl (ql BL rfl (Ep rfl (qm rfl ?_))))
  refine Dm 6 h rfl (fun h => ?_) fun h => ?_
  ·refine qf DS rfl (ql BL rfl (WG rfl (qp rfl (qm rfl ?_))))
   refine Dm 11 h rfl (fun h => ?_) fun h => ?_
   ·refine qf D6 rfl (ql BL rfl (Ep rfl (qp rfl (qm rfl ?_))))
    refine Dm 16 h rfl (fun h => ?_) fun h => ?_
    ·refine qf FC rfl (ql BL rfl (Ep rfl (qp rfl (qm rfl ?_))))
     refine Dm 21 h rfl (fun h => ?_) fun h => ?_
     ·refine qf DS rfl (ql BL rfl (Br rfl (qm rfl ?_)))
      refine Dm 25 h rfl (fun h => ?_) fun h => ?_
      ·refine qw 3 rfl (qp rfl (qp rfl (qe rfl ?_)))
       exact sn [] h
      ·refine qf FC rfl (ql BL rfl (Br rfl (qp rfl (qp rfl (qe rfl ?_)))))
       exact sn [] h
     ·refine qw 4 rfl (qu rfl (qu rfl (qu rfl (qn rfl (qp rfl (qe rfl ?_))))))
      exact sn [] h
    ·refine qw 3 rfl (qp rfl (qw 5 rfl (qu rfl (qu rfl (qu rfl (qn rfl (qp rfl (qe rfl ?_))))))))
     exact sn [] h
   ·refine qw 3 rfl (qp rfl (qw 4 rfl (qp rfl (qw 5 rfl (qu rfl (qu rfl (qu rfl (qn rfl (qp rfl (qe rfl ?_))))))))))
    exact sn [] h
  ·refine qw 3 rfl (qp rfl (qw 4 rfl (qp rfl (qw 4 rfl (qp rfl (qw 5 rfl (qu rfl (qu rfl (qu rfl (qn rfl (qp rfl (qe rfl ?_))))))))))))
   exact sn [] h
 ·obtain rfl := sj h
  refine Ae (sm [] [(2, bD v1)] [] rfl rfl) (Ap ?_)
  exact ⟨⟨[_], tm, rfl⟩, tv⟩
theorem Kg (N : Nat) (p0 : List Ad) (r : Int) (h : D0 N p0 = some r) : Aq Tryz.prog 38 [pD (.sl (p0.map Ai))] [] (iD r) := by
 unfold D0 at h
 refine cw (n := 47) (rs := [.tmp 2]) Tryz.func38 fun w0 S0 => ?_
 refine wq rfl (qa rfl (Aa (AO ?_)))
 refine AK h (fun v1 => mk [(0, pD (.sl (p0.map Ai))), (12, bD v1)] []) (fun j1 h => ?_) (fun v1 h => ?_)
 ·refine Ag Az rfl (qm rfl (AB Bo rfl (AT rfl (qm rfl ?_))))
  refine Dm 8 h rfl (fun h => ?_) fun h => ?_
  ·refine qw 3 rfl (qp rfl (Aa ?_))
   exact sn [] h
  ·refine qm rfl (AB Bo rfl (EP rfl (qp rfl (Aa ?_))))
   exact sn [] h
 ·refine Bc h (fun h => ?_) fun h => ?_
  ·refine wq rfl (qe rfl ?_)
   obtain rfl := sj h
   refine Ae (sm [] [(2, iD 6)] [] rfl rfl) (Ap ?_)
   exact ⟨⟨[_], tm, rfl⟩, tv⟩
  ·refine Al (wp rfl (qe rfl ?_))
   refine AH (L := BO N p0) h (fun v4 => mk [(0, pD (.sl (p0.map Ai))), (3, iD v4)] []) (fun v5 => mk [] []) (fun _ _ => rfl) (sm [] _ _ rfl rfl) (fun j4 n4 v4 h => ?_) (fun v5 s h hs => ?_)
   ·unfold BO at h
    refine wp rfl (qw 2 rfl (AB Bo rfl (AT rfl (Aa ?_))))
    refine Bc h (fun h => ?_) fun h => ?_
    ·refine Al (AO (AM (AO ?_)))
     refine AK h (fun v7 => mk [(0, pD (.sl (p0.map Ai))), (3, iD v4), (32, bD v7)] []) (fun j7 h => ?_) (fun v7 h => ?_)
     ·refine Ag Az rfl (qw 2 rfl ?_)
      refine BT h fun v8 a8 b8 h => qi Bo Cg a8 (Af b8) rfl (qg DS rfl (qk BL rfl (Br rfl (qm rfl ?_))))
      refine Dm 25 h rfl (fun h => ?_) fun h => ?_
      ·refine qw 6 rfl (qp rfl (Aa ?_))
       exact sn [] h
      ·refine qw 2 rfl ?_
       refine BT h fun v10 a10 b10 h => qi Bo Cg a10 (Af b10) rfl (qK Gb Cg rfl ?_)
       refine BS h fun v11 a11 h => Ar [] (Hr N v10 v11 a11) VE rfl (BX rfl (qp rfl (Aa ?_)))
       exact sn [] h
     ·refine Bc h (fun h => ?_) fun h => ?_
      ·refine wq rfl (qe rfl ?_)
       obtain rfl := sj h
       refine Ae (sm [] [(2, iD 1)] [] rfl rfl) (Ap ?_)
       exact ⟨⟨[_], tm, rfl⟩, tv⟩
      ·refine Al (wq rfl (qe rfl ?_))
       refine AH (L := Cr N p0 v4) h (fun v13 => mk [(0, pD (.sl (p0.map Ai))), (3, iD v4), (4, iD v13)] []) (fun v14 => mk [(0, pD (.sl (p0.map Ai))), (3, iD v4)] []) (fun _ _ => rfl) (sm [] _ _ rfl rfl) (fun j13 n13 v13 h => ?_) (fun v14 s h hs => ?_)
       ·unfold Cr at h
        refine wp rfl (qw 2 rfl (AT rfl (Aa ?_)))
        refine Bc h (fun h => ?_) fun h => ?_
        ·refine Al (AO (AM (wq rfl (qw 2 rfl ?_))))
         refine BT h fun v16 a16 b16 h => qi Bo Cg a16 (Af b16) rfl (qK Gb Cg rfl (qw 2 rfl ?_))
         refine BT h fun v17 a17 b17 h => qi Bo Cg a17 (Af b17) rfl (qK Gb Cg rfl ?_)
         refine UB [.int .i64 v16.ff, .int .i64 v16.fh, .int .i64 v16.fi] [.int .i64 v17.ff, .int .i64 v17.fh, .int .i64 v17.fi] (.p rfl) rfl rfl RJ rfl ?_
         refine AI (by kernel_rfl) ?_
         refine Bc h (fun h => ?_) fun h => ?_
         ·refine wq rfl (qe rfl ?_)
          obtain rfl := sj h
          refine Ae (sm [] [(2, iD 1)] [] rfl rfl) (Ap ?_)
          exact ⟨⟨[_], tm, rfl⟩, tv⟩
         ·refine Al (Ag Az rfl (qm rfl (Be rfl (qe rfl ?_))))
          exact sn [] h
        ·refine AS ?_
         exact sn [] h
       ·refine Ae hs (Ag Az rfl (qm rfl (Be rfl (qe rfl ?_))))
        exact sn [] h
    ·refine AS ?_
     exact sn [] h
   ·refine Ae hs (wq rfl (qe rfl ?_))
    obtain rfl := sj h
    refine Ae (sm [] [(2, iD 0)] [] rfl rfl) (Ap ?_)
    exact ⟨⟨[_], tm, rfl⟩, tv⟩
theorem Jh (N : Nat) (p0 : Ac) (r : Ac) (h : Dx N p0 = some r) : Aq Tryz.prog 86 [.e (.agg (Ay p0))] [(1, r.fd.map An), (1, r.fa.map An), (1, r.fc.map B3)] (.e (.agg [.own 0, .own 1, .own 2])) := by
 unfold Dx at h
 refine cw (n := 16) (rs := [.cell 2 38]) Tryz.func86 fun w0 S0 => ?_
 refine wq rfl (qb rfl (qz Cb rfl (Aa (wq rfl (D1 Au Cy I1 rfl (qf Ce rfl (ql AV rfl ?_)))))))
 refine Ey h fun c1 h => HM (f := An) Au Au Cy Ja I1 (fun _ => rfl) c1 rfl (D1 Au Cy I1 rfl (qf Bf rfl (ql AV rfl ?_)))
 refine Ey h fun c2 h => HM (f := An) Au Au Cy Ja I1 (fun _ => rfl) c2 rfl (D1 Cw EQ Mt rfl (qf BZ rfl (ql Ge rfl ?_)))
 refine Ey h fun c3 h => HM (f := B3) Cw Cw EQ Ni Mt (fun _ => rfl) c3 rfl (A8 Cb F5 rfl (qs AF rfl (AI (by kernel_rfl) ?_)))
 obtain rfl := sj h
 refine Ae (sm [(1000, 6), (1001, 10), (1002, 14)] [(2, oD (.ptr 2 0))] [(2, .box [.own 1000, .own 1001, .own 1002]), (1000, .vec 1 (((([] : List Int)) ++ p0.fd).map An)), (1001, .vec 1 (((([] : List Int)) ++ p0.fa).map An)), (1002, .vec 1 (((([] : List Int)) ++ p0.fc).map B3))] rfl rfl) (Ap ?_)
 exact ⟨⟨[_], ⟨.cellN _ _ _ _ _ _ _ rfl rfl A0 AF rfl rfl (GV rfl), tv⟩, rfl⟩, ⟨rfl, rfl, rfl, tv⟩⟩
theorem KD (N : Nat) (p0 : Ac) (r : (List Ac)) (h : DE N p0 = some r) : Aq Tryz.prog 62 [.e (.agg (Ay p0))] [(3, r.map Co)] (oD (.own 0)) := by
 unfold DE at h
 refine cw (n := 62) (rs := [.tmp 2]) Tryz.func62 fun w0 S0 => ?_
 refine wq rfl (qb rfl (qa rfl (Aa (wq rfl (qa rfl (Aa (wp rfl (qe rfl ?_))))))))
 refine AH (L := BY N p0) h (fun v1 => mk [(1, oD (.ptr 1 0)), (3, iD v1.1), (4, iD v1.2)] [(1, .box (Ay p0))]) (fun v2 => mk [(1, oD (.ptr 1 0)), (3, iD v2)] [(1, .box (Ay p0))]) (fun _ _ => rfl) (sm [] _ _ rfl rfl) (fun j1 n1 v1 h => ?_) (fun v2 s h hs => ?_)
 ·unfold BY at h
  refine wp rfl (qm rfl (qf Bf rfl (ql AV rfl (AB Au rfl (AT rfl (Aa ?_))))))
  refine Bc h (fun h => ?_) fun h => ?_
  ·refine Al ?_
   refine AK h (fun v4 => mk [(1, oD (.ptr 1 0)), (3, iD v4), (4, iD v1.2)] [(1, .box (Ay p0))]) (fun j4 h => ?_) (fun v4 h => ?_)
   ·refine AM (wq rfl (qf Bf rfl (ql AV rfl (qm rfl ?_))))
    refine BT h fun v5 a5 b5 h => qi Au Cy a5 (Af b5) rfl (qk BL rfl (Ep rfl (Aa ?_)))
    refine Bc h (fun h => ?_) fun h => ?_
    ·refine Ag Az rfl (qm rfl (Be rfl (qe rfl ?_)))
     exact sn [] h
    ·refine Al ?_
     exact sn [] h
   ·refine Ag Az rfl (qm rfl (Be rfl (qe rfl ?_)))
    exact sn [] h
  ·refine AS ?_
   exact sn [] h
 ·refine Ae hs (wq rfl (qa rfl (Aa (wp rfl (qe rfl ?_)))))
  refine AH (L := Bh N p0 v2) h (fun v7 => mk [(1, oD (.ptr 1 0)), (3, iD v2), (5, oD (.own 2001)), (6, iD v7.2)] [(1, .box (Ay p0)), (2001, .vec 3 (v7.1.map Co))]) (fun v8 => mk [(5, oD (.own 2002))] [(2002, .vec 3 (v8.map Co))]) (fun _ _ => rfl) ((B2 5 2022 3 rfl rfl rfl).trans (sm [(2001, 2022)] _ _ rfl rfl)) (fun j7 n7 v7 h => ?_) (fun v8 s h hs => ?_)
  ·unfold Bh at h
   refine wp rfl (qw 2 rfl ?_)
   refine Ey h fun c9 h => H6 rfl c9 (AT rfl (Aa ?_))
   refine Bc h (fun h => ?_) fun h => ?_
   ·refine Al (AO (AM (wq rfl (qL A0 AF rfl ?_))))
    refine BS h fun v11 a11 h => Ar [2003, 2004, 2005] (Jh N p0 v11 a11) W8 rfl (qz Cb rfl (qs AF rfl (Aa (wq rfl (qa rfl (Aa (wp rfl (qe rfl ?_))))))))
    refine AH (L := Bv N p0 v7) h (fun v12 => mk [(1, oD (.ptr 1 0)), (3, iD v2), (5, oD (.own 2009)), (6, iD v7.2), (7, oD (.ptr 7 0)), (8, iD v12.2.1), (9, iD v12.2.2)] [(1, .box (Ay p0)), (7, .box [.own 2006, .own 2007, .own 2008]), (2006, .vec 1 (v11.fd.map An)), (2007, .vec 1 (v12.1.map An)), (2008, .vec 1 (v11.fc.map B3)), (2009, .vec 3 (v7.1.map Co))]) (fun v13 => mk [(1, oD (.ptr 1 0)), (3, iD v2), (5, oD (.own 2013)), (6, iD v7.2), (7, oD (.ptr 7 0))] [(1, .box (Ay p0)), (7, .box [.own 2010, .own 2011, .own 2012]), (2010, .vec 1 (v11.fd.map An)), (2011, .vec 1 (v13.map An)), (2012, .vec 1 (v11.fc.map B3)), (2013, .vec 3 (v7.1.map Co))]) (fun _ _ => rfl) (sm [(2006, 2003), (2007, 2004), (2008, 2005), (2009, 2001)] _ _ rfl rfl) (fun j12 n12 v12 h => ?_) (fun v13 s h hs => ?_)
    ·unfold Bv at h
     refine wp rfl (qm rfl (qf Bf rfl (ql AV rfl (AB Au rfl (AT rfl (Aa ?_))))))
     refine Bc h (fun h => ?_) fun h => ?_
     ·refine Al ?_
      refine AK h (fun v15 => mk [(1, oD (.ptr 1 0)), (3, iD v2), (5, oD (.own 2017)), (6, iD v7.2), (7, oD (.ptr 7 0)), (8, iD v15.2), (9, iD v12.2.2)] [(1, .box (Ay p0)), (7, .box [.own 2014, .own 2015, .own 2016]), (2014, .vec 1 (v11.fd.map An)), (2015, .vec 1 (v15.1.map An)), (2016, .vec 1 (v11.fc.map B3)), (2017, .vec 3 (v7.1.map Co))]) (fun j15 h => ?_) (fun v15 h => ?_)
      ·refine AM (wp rfl (qf Bf rfl (ql AV rfl (qm rfl ?_))))
       refine BT h fun v16 a16 b16 h => qi Au Cy a16 (Af b16) rfl (qk BL rfl (AT rfl (Aa ?_)))
       refine Bc h (fun h => ?_) fun h => ?_
       ·refine AS ?_
        exact sn [(2014, 2006), (2015, 2007), (2016, 2008), (2017, 2009)] h
       ·refine Al ?_
        refine AK h (fun v18 => mk [(1, oD (.ptr 1 0)), (3, iD v2), (5, oD (.own 2021)), (6, iD v7.2), (7, oD (.ptr 7 0)), (8, iD v12.2.1), (9, iD v12.2.2)] [(1, .box (Ay p0)), (7, .box [.own 2018, .own 2019, .own 2020]), (2018, .vec 1 (v11.fd.map An)), (2019, .vec 1 (v18.map An)), (2020, .vec 1 (v11.fc.map B3)), (2021, .vec 3 (v7.1.map Co))]) (fun j18 h => ?_) (fun v18 h => ?_)
        ·refine wq rfl (qw 2 rfl ?_)
         refine Ey h fun c19 h => Ix rfl c19 (I0 rfl (by decide) (Br rfl (Aa ?_)))
         refine Bc h (fun h => ?_) fun h => ?_
         ·refine Ag Az rfl (qf Bf rfl (ql AV rfl (qm rfl ?_)))
          refine BT h fun v21 a21 b21 h => qI Au Cy a21 (Af b21) rfl ?_
          refine Ej rfl rfl rfl rfl (Af b21) rfl Cy rfl (IY rfl) (Eo An v12.1 _ ((-1))) ?_
          refine Aa ?_
          exact sn [(2018, 2006), (2019, 2007), (2020, 2008), (2021, 2009)] h
         ·refine Al ?_
          exact sn [(2018, 2006), (2019, 2007), (2020, 2008), (2021, 2009)] h
        ·refine Ag Az rfl (qm rfl (Be rfl (qe rfl ?_)))
         exact sn [(2014, 2018), (2015, 2019), (2016, 2020), (2017, 2021)] h
      ·refine Ag Az rfl (qm rfl (Be rfl (qe rfl ?_)))
       exact sn [(2006, 2014), (2007, 2015), (2008, 2016), (2009, 2017)] h
     ·refine AS ?_
      exact sn [(2010, 2006), (2011, 2007), (2012, 2008), (2013, 2009)] h
    ·refine Ae hs (Ag Az rfl (qm rfl (qL A0 AF rfl (D2 (A5 2010 _ _ rfl rfl) (D2 (A5 2011 _ _ rfl rfl) (D2 (A5 2012 _ _ rfl rfl) (D1 GT AF Cb rfl ?_)))))))
     refine Ey h fun c22 h => Dz (f := Co) GT GT AF Sz Cb c22 rfl (qa rfl (Aa (Ag Az rfl (qm rfl (Be rfl (qe rfl ?_))))))
     exact sn [(2001, 60)] h
   ·refine AS ?_
    exact sn [(2002, 2001)] h
  ·refine Ae hs (wq rfl (qm rfl (qe rfl ?_)))
   obtain rfl := sj h
   refine Ae (sm [(1000, 2002)] [(2, oD (.own 1000))] [(1000, .vec 3 (v8.map Co))] rfl rfl) (Ap ?_)
   exact ⟨⟨[_], tm, rfl⟩, ⟨rfl, tv⟩⟩
theorem Fe (N : Nat) (p0 : Int) (p1 : Int) (r : Bool) (h : BV N p0 p1 = some r) : Aq Tryz.prog 103 [pD (.val (.int .u8 p0)), iD p1] [] (bD r) := by
 unfold BV at h
 refine cw (n := 10) (rs := [.tmp 4]) Tryz.func103 fun w0 S0 => ?_
 refine wq rfl (qa rfl (Aa (wq rfl (qw 2 rfl ?_))))
 refine Ey h fun c1 h => Ix rfl c1 (Km rfl (Br rfl (qe rfl ?_)))
 obtain rfl := sj h
 refine Ae (sm [] [(4, bD (((EN .u8 ((EO .u8 p0 p1)) 1) == 1)))] [] rfl rfl) (Ap ?_)
 exact ⟨⟨[_], tm, rfl⟩, tv⟩
theorem JL (N : Nat) (p0 : Ab) (p1 : Ac) (r : (List Ak)) (h : DN N p0 p1 = some r) : Aq Tryz.prog 87 [.e (.agg (Ah p0)), .e (.agg (Ay p1))] [(3, r.map AP)] (oD (.own 0)) := by
 unfold DN at h
 refine cw (n := 111) (rs := [.tmp 4]) Tryz.func87 fun w0 S0 => ?_
 refine wq rfl (qb rfl (qb rfl (qa rfl (Aa (wq rfl (qa rfl (Aa (wp rfl (qe rfl ?_)))))))))
 refine AH (L := B1 N p0 p1) h (fun v1 => mk [(2, oD (.ptr 2 0)), (3, oD (.ptr 3 0)), (5, oD (.own 2001)), (6, iD v1.2)] [(2, .box (Ah p0)), (3, .box (Ay p1)), (2001, .vec 3 (v1.1.map AP))]) (fun v2 => mk [(5, oD (.own 2002))] [(2002, .vec 3 (v2.map AP))]) (fun _ _ => rfl) ((B2 5 2013 3 rfl rfl rfl).trans (sm [(2001, 2013)] _ _ rfl rfl)) (fun j1 n1 v1 h => ?_) (fun v2 s h hs => ?_)
 ·unfold B1 at h
  refine wp rfl (qm rfl (qf Cd rfl (ql GD rfl (AB DG rfl (AT rfl (Aa ?_))))))
  refine Bc h (fun h => ?_) fun h => ?_
  ·refine Al (AO (AM (wq rfl (qf Cd rfl (ql GD rfl (qm rfl ?_))))))
   refine BT h fun v4 a4 b4 h => qi DG Dr a4 (Af b4) rfl (qK Gv Dr rfl (qz KU rfl (qs Dr rfl (Aa (wq rfl (qL A0 AF rfl (qf Ck rfl (ql BL rfl ?_))))))))
   refine BS h fun v5 a5 h => Ar [] (CT N p1 v4.fg v5 a5) Rn rfl (qe rfl ?_)
   refine AK h (fun v6 => mk [(2, oD (.ptr 2 0)), (3, oD (.ptr 3 0)), (5, oD (.own 2003)), (6, iD v1.2), (7, oD (.ptr 7 0)), (8, pD (.val (.int .u8 v6)))] [(2, .box (Ah p0)), (3, .box (Ay p1)), (7, .box (A7 v4)), (2003, .vec 3 (v1.1.map AP))]) (fun j6 h => ?_) (fun v6 h => ?_)
   ·refine wq rfl (qL Gv Dr rfl ?_)
    refine BS h fun v7 a7 h => Ar [] (Bx N v4 v7 a7) MP rfl (Aa ?_)
    refine Bc h (fun h => ?_) fun h => ?_
    ·refine Ag Az rfl (qf BZ rfl (ql Ge rfl (qm rfl ?_)))
     refine BT h fun v9 a9 b9 h => qi Cw EQ a9 (Af b9) rfl (qk I9 rfl (qe rfl ?_))
     exact sn [(2003, 2001)] h
    ·refine Al ?_
     exact sn [(2003, 2001)] h
   ·refine wq rfl (qe rfl ?_)
    refine AH (L := Bm N p0 p1 v1 v4 v6) h (fun v10 => mk [(2, oD (.ptr 2 0)), (3, oD (.ptr 3 0)), (5, oD (.own 2004)), (6, iD v1.2), (7, oD (.ptr 7 0)), (8, pD (.val (.int .u8 v6))), (9, iD v10.2)] [(2, .box (Ah p0)), (3, .box (Ay p1)), (7, .box (A7 v4)), (2004, .vec 3 (v10.1.map AP))]) (fun v11 => mk [(2, oD (.ptr 2 0)), (3, oD (.ptr 3 0)), (5, oD (.own 2005)), (6, iD v1.2)] [(2, .box (Ah p0)), (3, .box (Ay p1)), (2005, .vec 3 (v11.map AP))]) (fun _ _ => rfl) (sm [(2004, 2003)] _ _ rfl rfl) (fun j10 n10 v10 h => ?_) (fun v11 s h hs => ?_)
    ·unfold Bm at h
     refine wp rfl (qm rfl (qf Bg rfl (ql AV rfl (qf Ck rfl (ql BL rfl ?_)))))
     refine BT h fun v12 a12 b12 h => qi Au Cy a12 (Af b12) rfl (qk BL rfl (AT rfl (Aa ?_)))
     refine Bc h (fun h => ?_) fun h => ?_
     ·refine Al ?_
      refine AK h (fun v14 => mk [(2, oD (.ptr 2 0)), (3, oD (.ptr 3 0)), (5, oD (.own 2006)), (6, iD v1.2), (7, oD (.ptr 7 0)), (8, pD (.val (.int .u8 v6))), (9, iD v10.2)] [(2, .box (Ah p0)), (3, .box (Ay p1)), (7, .box (A7 v4)), (2006, .vec 3 (v14.map AP))]) (fun j14 h => ?_) (fun v14 h => ?_)
      ·refine AM (wp rfl (qw 2 rfl ?_))
       refine BS h fun v15 a15 h => Ar [] (Fe N v6 v10.2 v15 a15) Qy rfl (BX rfl (Aa ?_))
       refine Bc h (fun h => ?_) fun h => ?_
       ·refine AS ?_
        exact sn [(2006, 2004)] h
       ·refine Al (wq rfl (qa rfl (Aa (wp rfl (qe rfl ?_)))))
        refine AH (L := A9 N p0 p1 v1 v4 v10) h (fun v17 => mk [(2, oD (.ptr 2 0)), (3, oD (.ptr 3 0)), (5, oD (.own 2007)), (6, iD v1.2), (7, oD (.ptr 7 0)), (8, pD (.val (.int .u8 v6))), (9, iD v10.2), (10, bD v17.2.1), (11, iD v17.2.2)] [(2, .box (Ah p0)), (3, .box (Ay p1)), (7, .box (A7 v4)), (2007, .vec 3 (v17.1.map AP))]) (fun v18 => mk [(2, oD (.ptr 2 0)), (3, oD (.ptr 3 0)), (5, oD (.own 2008)), (6, iD v1.2), (7, oD (.ptr 7 0)), (8, pD (.val (.int .u8 v6))), (9, iD v10.2), (10, bD v18.2)] [(2, .box (Ah p0)), (3, .box (Ay p1)), (7, .box (A7 v4)), (2008, .vec 3 (v18.1.map AP))]) (fun _ _ => rfl) (sm [(2007, 2004)] _ _ rfl rfl) (fun j17 n17 v17 h => ?_) (fun v18 s h hs => ?_)
        ·unfold A9 at h
         refine wp rfl (qm rfl (qf Bg rfl (ql AV rfl (qf Hy rfl (ql BL rfl ?_)))))
         refine BT h fun v19 a19 b19 h => qi Au Cy a19 (Af b19) rfl (qk BL rfl (AT rfl (Aa ?_)))
         refine Bc h (fun h => ?_) fun h => ?_
         ·refine Al ?_
          refine AK h (fun v21 => mk [(2, oD (.ptr 2 0)), (3, oD (.ptr 3 0)), (5, oD (.own 2009)), (6, iD v1.2), (7, oD (.ptr 7 0)), (8, pD (.val (.int .u8 v6))), (9, iD v10.2), (10, bD v21.2), (11, iD v17.2.2)] [(2, .box (Ah p0)), (3, .box (Ay p1)), (7, .box (A7 v4)), (2009, .vec 3 (v21.1.map AP))]) (fun j21 h => ?_) (fun v21 h => ?_)
          ·refine AM (wp rfl (qL A0 AF rfl (qf Hy rfl (ql BL rfl ?_))))
           refine BS h fun v22 a22 h => Ar [] (CT N p1 v4.fj v22 a22) Rn rfl (qm rfl ?_)
           refine BS h fun v23 a23 h => Ar [] (Fe N v22 v17.2.2 v23 a23) Qy rfl (BX rfl (Aa ?_))
           refine Bc h (fun h => ?_) fun h => ?_
           ·refine AS ?_
            exact sn [(2009, 2007)] h
           ·refine Al ?_
            refine AK h (fun v25 => mk [(2, oD (.ptr 2 0)), (3, oD (.ptr 3 0)), (5, oD (.own 2010)), (6, iD v1.2), (7, oD (.ptr 7 0)), (8, pD (.val (.int .u8 v6))), (9, iD v10.2), (10, bD v25), (11, iD v17.2.2)] [(2, .box (Ah p0)), (3, .box (Ay p1)), (7, .box (A7 v4)), (2010, .vec 3 (v17.1.map AP))]) (fun j25 h => ?_) (fun v25 h => ?_)
            ·refine Ag Az rfl (qw 2 rfl ?_)
             refine Dm 67 h rfl (fun h => ?_) fun h => ?_
             ·refine qw 8 rfl (qp rfl (qe rfl ?_))
              exact sn [(2010, 2007)] h
             ·refine qf IZ rfl (ql Je rfl (qm rfl ?_))
              refine BT h fun v27 a27 b27 h => qi FL MM a27 (Af b27) rfl (qk N3 rfl (qm rfl ?_))
              refine BT h fun v28 a28 b28 h => qi GI P2 a28 (Af b28) rfl (qk QZ rfl (qp rfl (qe rfl ?_)))
              exact sn [(2010, 2007)] h
            ·refine AK h (fun v29 => mk [(2, oD (.ptr 2 0)), (3, oD (.ptr 3 0)), (5, oD (.own 2011)), (6, iD v1.2), (7, oD (.ptr 7 0)), (8, pD (.val (.int .u8 v6))), (9, iD v10.2), (10, bD v25), (11, iD v17.2.2), (90, bD v29)] [(2, .box (Ah p0)), (3, .box (Ay p1)), (7, .box (A7 v4)), (2011, .vec 3 (v17.1.map AP))]) (fun j29 h => ?_) (fun v29 h => ?_)
             ·refine Ag Az rfl (qf If rfl (ql QZ rfl (BX rfl (qm rfl ?_))))
              refine Dm 80 h rfl (fun h => ?_) fun h => ?_
              ·refine qf IZ rfl (ql Je rfl (qm rfl ?_))
               refine BT h fun v31 a31 b31 h => qi FL MM a31 (Af b31) rfl (qk N3 rfl (qm rfl ?_))
               refine BT h fun v32 a32 b32 h => qi GI P2 a32 (Af b32) rfl (qk QZ rfl (BX rfl (qp rfl (Aa ?_))))
               exact sn [(2011, 2010)] h
              ·refine qw 9 rfl (qp rfl (Aa ?_))
               exact sn [(2011, 2010)] h
             ·refine Bc h (fun h => ?_) fun h => ?_
              ·refine Ag Az rfl (qw 4 rfl (A8 HD MW rfl (D1 F6 Fz HD rfl ?_)))
               refine Ey h fun c34 h => Dz (f := AP) F6 F6 Fz QJ HD c34 rfl (qe rfl ?_)
               exact sn [(2009, 97)] h
              ·refine Al ?_
               exact sn [(2009, 2011)] h
          ·refine Ag Az rfl (qm rfl (Be rfl (qe rfl ?_)))
           exact sn [(2007, 2009)] h
         ·refine AS ?_
          exact sn [(2008, 2007)] h
        ·refine Ae hs ?_
         refine AK h (fun v35 => mk [(2, oD (.ptr 2 0)), (3, oD (.ptr 3 0)), (5, oD (.own 2012)), (6, iD v1.2), (7, oD (.ptr 7 0)), (8, pD (.val (.int .u8 v6))), (9, iD v10.2), (103, bD v35)] [(2, .box (Ah p0)), (3, .box (Ay p1)), (7, .box (A7 v4)), (2012, .vec 3 (v18.1.map AP))]) (fun j35 h => ?_) (fun v35 h => ?_)
         ·refine Ag Az rfl (qf If rfl (ql QZ rfl (qm rfl ?_)))
          refine Dm 100 h rfl (fun h => ?_) fun h => ?_
          ·refine qm rfl (BX rfl (qp rfl (Aa ?_)))
           exact sn [(2012, 2008)] h
          ·refine qw 2 rfl (qp rfl (Aa ?_))
           exact sn [(2012, 2008)] h
         ·refine Bc h (fun h => ?_) fun h => ?_
          ·refine Ag Az rfl (qw 3 rfl (A8 HD MW rfl (D1 F6 Fz HD rfl ?_)))
           refine Ey h fun c38 h => Dz (f := AP) F6 F6 Fz QJ HD c38 rfl (qe rfl ?_)
           exact sn [(2006, 109)] h
          ·refine Al ?_
           exact sn [(2006, 2012)] h
      ·refine Ag Az rfl (qm rfl (Be rfl (qe rfl ?_)))
       exact sn [(2004, 2006)] h
     ·refine AS ?_
      exact sn [(2005, 2004)] h
    ·refine Ae hs (Ag Az rfl (qm rfl (Be rfl (qe rfl ?_))))
     exact sn [(2001, 2005)] h
  ·refine AS ?_
   exact sn [(2002, 2001)] h
 ·refine Ae hs (wq rfl (qm rfl (qe rfl ?_)))
  obtain rfl := sj h
  refine Ae (sm [(1000, 2002)] [(4, oD (.own 1000))] [(1000, .vec 3 (v2.map AP))] rfl rfl) (Ap ?_)
  exact ⟨⟨[_], tm, rfl⟩, ⟨rfl, tv⟩⟩
theorem Jy (N : Nat) (p0 : Ab) (p1 : Ac) (r : Bool) (h : Dy N p0 p1 = some r) : Aq Tryz.prog 63 [.e (.agg (Ah p0)), .e (.agg (Ay p1))] [] (bD r) := by
 unfold Dy at h
 refine cw (n := 10) (rs := [.tmp 4]) Tryz.func63 fun w0 S0 => ?_
 refine wq rfl (qb rfl (qb rfl (qa rfl (Aa (wq rfl (qL CL Cp rfl (qL A0 AF rfl ?_)))))))
 refine BS h fun v1 a1 h => Ar [2001] (JL N p0 p1 v1 a1) XC rfl (FI F6 rfl (Br rfl (qe rfl ?_)))
 obtain rfl := sj h
 refine Ae (sm [] [(4, bD (((v1.length : Int) == 0)))] [] rfl rfl) (Ap ?_)
 exact ⟨⟨[_], tm, rfl⟩, tv⟩
theorem GC (N : Nat) (p0 : Ab) (p1 : Ac) (r : Bool) (h : Cq N p0 p1 = some r) : Aq Tryz.prog 39 [.e (.agg (Ah p0)), .e (.agg (Ay p1))] [] (bD r) := by
 unfold Cq at h
 refine cw (n := 22) (rs := [.tmp 4]) Tryz.func39 fun w0 S0 => ?_
 refine wq rfl (qb rfl (qb rfl (qa rfl (Aa (wq rfl (qL A0 AF rfl ?_))))))
 refine BS h fun v1 a1 h => Ar [2001] (KD N p1 v1 a1) Xr rfl (qa rfl (Aa (wp rfl (qe rfl ?_))))
 refine AH (L := BG N p0 v1) h (fun v2 => mk [(2, oD (.ptr 2 0)), (5, oD (.own 2002)), (6, iD v2)] [(2, .box (Ah p0)), (2002, .vec 3 (v1.map Co))]) (fun v3 => mk [] []) (fun _ _ => rfl) (sm [(2002, 2001)] _ _ rfl rfl) (fun j2 n2 v2 h => ?_) (fun v3 s h hs => ?_)
 ·unfold BG at h
  refine wp rfl (qw 2 rfl (FI GT rfl (AT rfl (Aa ?_))))
  refine Bc h (fun h => ?_) fun h => ?_
  ·refine Al (AO (AM (wq rfl (qL CL Cp rfl (qw 2 rfl ?_)))))
   refine BT h fun v5 a5 b5 h => qI GT AF a5 (Af b5) rfl (qJ A0 AF (Af b5) rfl ?_)
   refine BS h fun v6 a6 h => Ar [] (Jy N p0 v5 v6 a6) Xs rfl (BX rfl (AI (by kernel_rfl) ?_))
   refine Bc h (fun h => ?_) fun h => ?_
   ·refine wq rfl (qe rfl ?_)
    obtain rfl := sj h
    refine Ae (sm [] [(4, bD false)] [] rfl rfl) (Ap ?_)
    exact ⟨⟨[_], tm, rfl⟩, tv⟩
   ·refine Al (Ag Az rfl (qm rfl (Be rfl (qe rfl ?_))))
    exact sn [] h
  ·refine AS ?_
   exact sn [] h
 ·refine Ae hs (wq rfl (qe rfl ?_))
  obtain rfl := sj h
  refine Ae (sm [] [(4, bD true)] [] rfl rfl) (Ap ?_)
  exact ⟨⟨[_], tm, rfl⟩, tv⟩
theorem Jw (N : Nat) (p0 : Int) (r : (List (List Int))) (h : Dw N p0 = some r) : Aq Tryz.prog 40 [iD p0] [(1, r.map (Fj An))] (oD (.own 0)) := by
 unfold Dw at h
 refine cw (n := 64) (rs := [.tmp 2]) Tryz.func40 fun w0 S0 => ?_
 refine wq rfl (qa rfl (Aa (wq rfl (D1 JV Kr UV rfl (qa rfl (Aa (wp rfl (qe rfl ?_))))))))
 refine AH (L := DI N p0) h (fun v1 => mk [(0, iD p0), (3, oD (.own 2001)), (4, iD v1.2)] [(2001, .vec 1 (v1.1.map (Fj An)))]) (fun v2 => mk [(3, oD (.own 2002))] [(2002, .vec 1 (v2.map (Fj An)))]) (fun _ _ => rfl) (sm [(2001, 10)] _ _ rfl rfl) (fun j1 n1 v1 h => ?_) (fun v2 s h hs => ?_)
 ·unfold DI at h
  refine wp rfl (qw 2 rfl (AT rfl (Aa ?_)))
  refine Bc h (fun h => ?_) fun h => ?_
  ·refine Al (AO (AM (wq rfl (qa rfl (Aa (wp rfl (qe rfl ?_)))))))
   refine AH (L := DH N p0 v1) h (fun v4 => mk [(0, iD p0), (3, oD (.own 2003)), (4, iD v1.2), (5, oD (.own 2004)), (6, iD v4.2)] [(2003, .vec 1 (v1.1.map (Fj An))), (2004, .vec 1 (v4.1.map (Fj An)))]) (fun v5 => mk [(0, iD p0), (4, iD v1.2), (5, oD (.own 2005))] [(2005, .vec 1 (v5.map (Fj An)))]) (fun _ _ => rfl) ((B2 5 2018 1 rfl rfl rfl).trans (sm [(2003, 2001), (2004, 2018)] _ _ rfl rfl)) (fun j4 n4 v4 h => ?_) (fun v5 s h hs => ?_)
   ·unfold DH at h
    refine wp rfl (qw 2 rfl (FI JV rfl (AT rfl (Aa ?_))))
    refine Bc h (fun h => ?_) fun h => ?_
    ·refine Al (AO (AM (wq rfl (qe rfl ?_))))
     refine AH (L := DJ N p0 v1 v4) h (fun v7 => mk [(0, iD p0), (3, oD (.own 2006)), (4, iD v1.2), (5, oD (.own 2007)), (6, iD v4.2), (7, iD v7.2)] [(2006, .vec 1 (v1.1.map (Fj An))), (2007, .vec 1 (v7.1.map (Fj An)))]) (fun v8 => mk [(0, iD p0), (3, oD (.own 2008)), (4, iD v1.2), (5, oD (.own 2009)), (6, iD v4.2)] [(2008, .vec 1 (v1.1.map (Fj An))), (2009, .vec 1 (v8.map (Fj An)))]) (fun _ _ => rfl) (sm [(2006, 2003), (2007, 2004)] _ _ rfl rfl) (fun j7 n7 v7 h => ?_) (fun v8 s h hs => ?_)
     ·unfold DJ at h
      refine wp rfl (qw 2 rfl (AT rfl (Aa ?_)))
      refine Bc h (fun h => ?_) fun h => ?_
      ·refine Al ?_
       refine AK h (fun v10 => mk [(0, iD p0), (3, oD (.own 2010)), (4, iD v1.2), (5, oD (.own 2011)), (6, iD v4.2), (7, iD v7.2)] [(2010, .vec 1 (v1.1.map (Fj An))), (2011, .vec 1 (v10.map (Fj An)))]) (fun j10 h => ?_) (fun v10 h => ?_)
       ·refine AM (wq rfl (qa rfl (Aa (wp rfl (qe rfl ?_)))))
        refine AH (L := Du N v1 v4 v7) h (fun v11 => mk [(0, iD p0), (3, oD (.own 2012)), (4, iD v1.2), (5, oD (.own 2013)), (6, iD v4.2), (7, iD v7.2), (8, bD v11.1), (9, iD v11.2)] [(2012, .vec 1 (v1.1.map (Fj An))), (2013, .vec 1 (v7.1.map (Fj An)))]) (fun v12 => mk [(0, iD p0), (3, oD (.own 2014)), (4, iD v1.2), (5, oD (.own 2015)), (6, iD v4.2), (7, iD v7.2), (8, bD v12)] [(2014, .vec 1 (v1.1.map (Fj An))), (2015, .vec 1 (v7.1.map (Fj An)))]) (fun _ _ => rfl) (sm [(2012, 2006), (2013, 2007)] _ _ rfl rfl) (fun j11 n11 v11 h => ?_) (fun v12 s h hs => ?_)
        ·unfold Du at h
         refine wp rfl (qw 3 rfl ?_)
         refine BT h fun v13 a13 b13 h => qI JV Kr a13 (Af b13) rfl (qj AV (Af b13) rfl (AB Au rfl (AT rfl (Aa ?_))))
         refine Bc h (fun h => ?_) fun h => ?_
         ·refine Al ?_
          refine AK h (fun v15 => mk [(0, iD p0), (3, oD (.own 2016)), (4, iD v1.2), (5, oD (.own 2017)), (6, iD v4.2), (7, iD v7.2), (8, bD v15), (9, iD v11.2)] [(2016, .vec 1 (v1.1.map (Fj An))), (2017, .vec 1 (v7.1.map (Fj An)))]) (fun j15 h => ?_) (fun v15 h => ?_)
          ·refine AM (Ag Az rfl (qw 2 rfl ?_))
           refine Dm 37 h rfl (fun h => ?_) fun h => ?_
           ·refine qw 9 rfl (qp rfl (qe rfl ?_))
            exact sn [(2016, 2012), (2017, 2013)] h
           ·refine qw 2 rfl ?_
            refine BT h fun v17 a17 b17 h => qI JV Kr a17 (Af b17) rfl (qj AV (Af b17) rfl (qm rfl ?_))
            refine BT h fun v18 a18 b18 h => qi Au Cy a18 (Af b18) rfl (qk BL rfl (qm rfl (Br rfl (qp rfl (qe rfl ?_)))))
            exact sn [(2016, 2012), (2017, 2013)] h
          ·refine Ag Az rfl (qm rfl (Be rfl (qe rfl ?_)))
           exact sn [(2012, 2016), (2013, 2017)] h
         ·refine AS ?_
          exact sn [(2014, 2012), (2015, 2013)] h
        ·refine Ae hs (wq rfl (qm rfl (BX rfl (Aa ?_))))
         refine Bc h (fun h => ?_) fun h => ?_
         ·refine Ag Az rfl (qm rfl (D1 Au Cy I1 rfl (qw 2 rfl ?_)))
          refine BT h fun v20 a20 b20 h => qI JV Kr a20 (Af b20) rfl (qj AV (Af b20) rfl ?_)
          refine Ey h fun c21 h => HM (f := An) Au Au Cy Ja I1 (fun _ => rfl) c21 rfl (qm rfl (D1 Au Cy I1 rfl ?_))
          refine Ey h fun c22 h => Dz (f := An) Au Au Cy Ja I1 c22 rfl (D2 (A5 59 _ _ rfl rfl) (D1 JV Kr UV rfl ?_))
          refine Ey h fun c23 h => Dz (f := (Fj An)) JV JV Kr Ws UV c23 rfl (qe rfl ?_)
          exact sn [(2010, 2014), (2011, 61)] h
         ·refine Al ?_
          exact sn [(2010, 2014), (2011, 2015)] h
       ·refine Ag Az rfl (qm rfl (Be rfl (qe rfl ?_)))
        exact sn [(2006, 2010), (2007, 2011)] h
      ·refine AS ?_
       exact sn [(2008, 2006), (2009, 2007)] h
     ·refine Ae hs (Ag Az rfl (qm rfl (Be rfl (qe rfl ?_))))
      exact sn [(2003, 2008), (2004, 2009)] h
    ·refine AS ?_
     exact sn [(2005, 2004)] h
   ·refine Ae hs (Ag Az rfl (qm rfl (qa rfl (Aa (Ag Az rfl (qm rfl (Be rfl (qe rfl ?_))))))))
    exact sn [(2001, 2005)] h
  ·refine AS ?_
   exact sn [(2002, 2001)] h
 ·refine Ae hs (wq rfl (qm rfl (qe rfl ?_)))
  obtain rfl := sj h
  refine Ae (sm [(1000, 2002)] [(2, oD (.own 1000))] [(1000, .vec 1 (v2.map (Fj An)))] rfl rfl) (Ap ?_)
  exact ⟨⟨[_], tm, rfl⟩, ⟨rfl, tv⟩⟩
theorem JN (N : Nat) (p0 : Ab) (p1 : Ac) (p2 : Ad) (r : Ac × Bool) (h : C2 N p0 p1 p2 = some r) : Aq Tryz.prog 88 [.e (.agg (Ah p0)), .e (.agg (Ay p1)), .e (.agg (Cc p2))] [(1, r.1.fd.map An), (1, r.1.fa.map An), (1, r.1.fc.map B3)] (.tup [.agg [.own 0, .own 1, .own 2], .one (.pure (.val (.bool r.2)))]) := by
 unfold C2 at h
 refine cw (n := 201) (rs := [.cell 6 38, .tmp 7]) Tryz.func88 fun w0 S0 => ?_
 refine wq rfl (qb rfl (qb rfl (qb rfl (qz Cb rfl (qa rfl (Aa (wq rfl (D1 Au Cy I1 rfl (qf Ce rfl (ql AV rfl ?_))))))))))
 refine Ey h fun c1 h => HM (f := An) Au Au Cy Ja I1 (fun _ => rfl) c1 rfl (D1 Au Cy I1 rfl (qf Bf rfl (ql AV rfl ?_)))
 refine Ey h fun c2 h => HM (f := An) Au Au Cy Ja I1 (fun _ => rfl) c2 rfl (D1 Cw EQ Mt rfl (qf BZ rfl (ql Ge rfl ?_)))
 refine Ey h fun c3 h => HM (f := B3) Cw Cw EQ Ni Mt (fun _ => rfl) c3 rfl (A8 Cb F5 rfl (qz Cb rfl (qs AF rfl (AI (by kernel_rfl) (wq rfl (qf D6 rfl (ql BL rfl (qe rfl ?_))))))))
 refine AK h (fun v4 => mk [(6, oD (.ptr 6 0)), (8, oD (.ptr 8 0))] [(6, .box [.pure (.nil0), .pure (.nil0), .pure (.nil0)]), (8, .box [.own 2001, .own 2002, .own 2003]), (2001, .vec 1 (v4.1.map An)), (2002, .vec 1 (v4.2.1.map An)), (2003, .vec 1 (v4.2.2.map B3))]) (fun j4 h => ?_) (fun v4 h => ?_)
 ·refine wq rfl (qf DS rfl (ql BL rfl (Aa (AM (wq rfl (Br rfl (qe rfl ?_)))))))
  refine Bc h (fun h => ?_) fun h => ?_
  ·refine AO ?_
   refine AK h (fun v6 => mk [(3, oD (.ptr 3 0)), (5, oD (.ptr 5 0)), (6, oD (.ptr 6 0)), (8, oD (.ptr 8 0)), (9, iD p2.fh), (60, bD v6)] [(3, .box (Ah p0)), (5, .box (Cc p2)), (6, .box [.pure (.nil0), .pure (.nil0), .pure (.nil0)]), (8, .box [.own 2004, .own 2005, .own 2006]), (2004, .vec 1 (((([] : List Int)) ++ p1.fd).map An)), (2005, .vec 1 (((([] : List Int)) ++ p1.fa).map An)), (2006, .vec 1 (((([] : List Int)) ++ p1.fc).map B3))]) (fun j6 h => ?_) (fun v6 h => ?_)
   ·refine Ag Az rfl (qf Bf rfl (ql AV rfl (qm rfl ?_)))
    refine BT h fun v7 a7 b7 h => qi Au Cy a7 (Af b7) rfl (qk BL rfl (Ep rfl (qm rfl ?_)))
    refine Dm 51 h rfl (fun h => ?_) fun h => ?_
    ·refine qw 8 rfl (qp rfl (AI (by kernel_rfl) ?_))
     exact sn [(2004, 18), (2005, 22), (2006, 26)] h
    ·refine qf FC rfl (ql BL rfl (qf Ce rfl (ql AV rfl (qm rfl ?_))))
     refine BT h fun v9 a9 b9 h => qi Au Cy a9 (Af b9) rfl (qk BL rfl (Br rfl (qp rfl (AI (by kernel_rfl) ?_))))
     exact sn [(2004, 18), (2005, 22), (2006, 26)] h
   ·refine Bc h (fun h => ?_) fun h => ?_
    ·refine wq rfl (A8 Cb F5 rfl (qs AF rfl (qe rfl ?_)))
     obtain rfl := sj h
     refine Ae ((Ax 6 0 2007 1 _ rfl rfl rfl rfl).trans ((Ax 6 1 2008 1 _ rfl rfl rfl rfl).trans ((Ax 6 2 2009 1 _ rfl rfl rfl rfl).trans (sm [(1000, 2007), (1001, 2008), (1002, 2009)] [(6, oD (.ptr 6 0)), (7, bD false)] [(6, .box [.own 1000, .own 1001, .own 1002]), (1000, .vec 1 ((([] : List Int)).map An)), (1001, .vec 1 ((([] : List Int)).map An)), (1002, .vec 1 ((([] : List Int)).map B3))] rfl rfl)))) (Ap ?_)
     exact ⟨⟨[_, _], ⟨.cellN _ _ _ _ _ _ _ rfl rfl A0 AF rfl rfl (GV rfl), tm⟩, rfl⟩, ⟨rfl, rfl, rfl, tv⟩⟩
    ·refine Al (wq rfl (qf Bf rfl (ql AV rfl (qm rfl (qf FC rfl (ql BL rfl ?_))))))
     refine BT h fun v11 a11 b11 h => qI Au Cy a11 (Af b11) rfl ?_
     refine Ej rfl rfl rfl rfl (Af b11) rfl Cy rfl (IY rfl) (Eo An ((([] : List Int)) ++ p1.fa) _ p2.fi) ?_
     refine Aa (wq rfl (qe rfl ?_))
     refine AH (L := Bz N p0 p2) h (fun v12 => mk [(3, oD (.ptr 3 0)), (5, oD (.ptr 5 0)), (6, oD (.ptr 6 0)), (8, oD (.ptr 8 0)), (9, iD p2.fh), (10, iD v12.2)] [(3, .box (Ah p0)), (5, .box (Cc p2)), (6, .box [.pure (.nil0), .pure (.nil0), .pure (.nil0)]), (8, .box [.own 2010, .own 2011, .own 2012]), (2010, .vec 1 (((([] : List Int)) ++ p1.fd).map An)), (2011, .vec 1 ((((([] : List Int)) ++ p1.fa).set ((p2.fh).toNat) p2.fi).map An)), (2012, .vec 1 (v12.1.map B3))]) (fun v13 => mk [(6, oD (.ptr 6 0)), (8, oD (.ptr 8 0))] [(6, .box [.pure (.nil0), .pure (.nil0), .pure (.nil0)]), (8, .box [.own 2013, .own 2014, .own 2015]), (2013, .vec 1 (((([] : List Int)) ++ p1.fd).map An)), (2014, .vec 1 ((((([] : List Int)) ++ p1.fa).set ((p2.fh).toNat) p2.fi).map An)), (2015, .vec 1 (v13.map B3))]) (fun _ _ => rfl) (sm [(2010, 2004), (2011, 2005), (2012, 2006)] _ _ rfl rfl) (fun j12 n12 v12 h => ?_) (fun v13 s h hs => ?_)
     ·unfold Bz at h
      refine wp rfl (qm rfl (qf Cd rfl (ql GD rfl (AB DG rfl (AT rfl (Aa ?_))))))
      refine Bc h (fun h => ?_) fun h => ?_
      ·refine Al ?_
       refine AK h (fun v15 => mk [(3, oD (.ptr 3 0)), (5, oD (.ptr 5 0)), (6, oD (.ptr 6 0)), (8, oD (.ptr 8 0)), (9, iD p2.fh), (10, iD v12.2)] [(3, .box (Ah p0)), (5, .box (Cc p2)), (6, .box [.pure (.nil0), .pure (.nil0), .pure (.nil0)]), (8, .box [.own 2016, .own 2017, .own 2018]), (2016, .vec 1 (((([] : List Int)) ++ p1.fd).map An)), (2017, .vec 1 ((((([] : List Int)) ++ p1.fa).set ((p2.fh).toNat) p2.fi).map An)), (2018, .vec 1 (v15.map B3))]) (fun j15 h => ?_) (fun v15 h => ?_)
       ·refine AM ?_
        refine AK h (fun v16 => mk [(3, oD (.ptr 3 0)), (5, oD (.ptr 5 0)), (6, oD (.ptr 6 0)), (8, oD (.ptr 8 0)), (9, iD p2.fh), (10, iD v12.2), (90, bD v16)] [(3, .box (Ah p0)), (5, .box (Cc p2)), (6, .box [.pure (.nil0), .pure (.nil0), .pure (.nil0)]), (8, .box [.own 2019, .own 2020, .own 2021]), (2019, .vec 1 (((([] : List Int)) ++ p1.fd).map An)), (2020, .vec 1 ((((([] : List Int)) ++ p1.fa).set ((p2.fh).toNat) p2.fi).map An)), (2021, .vec 1 (v12.1.map B3))]) (fun j16 h => ?_) (fun v16 h => ?_)
        ·refine Ag Az rfl (qf Cd rfl (ql GD rfl (qm rfl ?_)))
         refine BT h fun v17 a17 b17 h => qi DG Dr a17 (Af b17) rfl (qg Ck rfl (qk BL rfl (qm rfl (Br rfl (qm rfl ?_)))))
         refine Dm 83 h rfl (fun h => ?_) fun h => ?_
         ·refine qf Cd rfl (ql GD rfl (qm rfl ?_))
          refine BT h fun v19 a19 b19 h => qi DG Dr a19 (Af b19) rfl (qK Gv Dr rfl ?_)
          refine BS h fun v20 a20 h => Ar [] (Bx N v19 v20 a20) MP rfl (qp rfl (Aa ?_))
          exact sn [(2019, 2010), (2020, 2011), (2021, 2012)] h
         ·refine qw 6 rfl (qp rfl (Aa ?_))
          exact sn [(2019, 2010), (2020, 2011), (2021, 2012)] h
        ·refine Bc h (fun h => ?_) fun h => ?_
         ·refine Ag Az rfl (qf BZ rfl (ql Ge rfl (qm rfl (qf BZ rfl (ql Ge rfl (qm rfl ?_))))))
          refine BT h fun v22 a22 b22 h => qI Cw EQ a22 (Af b22) rfl (qj I9 (Af b22) rfl (qf FC rfl (ql BL rfl ?_)))
          refine Ey h fun c23 h => H6 rfl c23 (Rd rfl ?_)
          refine BT h fun v24 a24 b24 h => qI Cw EQ a24 (Af b24) rfl ?_
          refine Ej rfl rfl rfl rfl (Af b24) rfl EQ rfl (IY rfl) (Eo B3 v12.1 _ ((KX .u8 v22 ((C7 .u8 1 p2.fi))))) ?_
          refine AI (by kernel_rfl) ?_
          exact sn [(2016, 2019), (2017, 2020), (2018, 2021)] h
         ·refine Al ?_
          exact sn [(2016, 2019), (2017, 2020), (2018, 2021)] h
       ·refine Ag Az rfl (qm rfl (Be rfl (qe rfl ?_)))
        exact sn [(2010, 2016), (2011, 2017), (2012, 2018)] h
      ·refine AS ?_
       exact sn [(2013, 2010), (2014, 2011), (2015, 2012)] h
     ·exact TM _ h (hs.trans (sm [(2001, 2013), (2002, 2014), (2003, 2015)] _ _ rfl rfl))
  ·refine wq rfl (Br rfl (qe rfl ?_))
   refine Bc h (fun h => ?_) fun h => ?_
   ·refine wp rfl (qf Bf rfl (ql AV rfl (qm rfl ?_)))
    refine BT h fun v26 a26 b26 h => qi Au Cy a26 (Af b26) rfl (qk BL rfl (AT rfl (Aa ?_)))
    refine Bc h (fun h => ?_) fun h => ?_
    ·refine wq rfl (A8 Cb F5 rfl (qs AF rfl (qe rfl ?_)))
     obtain rfl := sj h
     refine Ae ((Ax 6 0 2022 1 _ rfl rfl rfl rfl).trans ((Ax 6 1 2023 1 _ rfl rfl rfl rfl).trans ((Ax 6 2 2024 1 _ rfl rfl rfl rfl).trans (sm [(1000, 2022), (1001, 2023), (1002, 2024)] [(6, oD (.ptr 6 0)), (7, bD false)] [(6, .box [.own 1000, .own 1001, .own 1002]), (1000, .vec 1 ((([] : List Int)).map An)), (1001, .vec 1 ((([] : List Int)).map An)), (1002, .vec 1 ((([] : List Int)).map B3))] rfl rfl)))) (Ap ?_)
     exact ⟨⟨[_, _], ⟨.cellN _ _ _ _ _ _ _ rfl rfl A0 AF rfl rfl (GV rfl), tm⟩, rfl⟩, ⟨rfl, rfl, rfl, tv⟩⟩
    ·refine Al (Ag Az rfl (qf Ce rfl (ql AV rfl (qm rfl (qf Bf rfl (ql AV rfl (qm rfl (qf Bf rfl (ql AV rfl (qm rfl ?_))))))))))
     refine BT h fun v28 a28 b28 h => qi Au Cy a28 (Af b28) rfl (qk BL rfl ?_)
     refine BT h fun v29 a29 b29 h => qI Au Cy a29 (Af b29) rfl ?_
     refine Ej rfl rfl rfl rfl (Af b29) rfl Cy rfl (IY rfl) (Eo An ((([] : List Int)) ++ p1.fd) _ v28) ?_
     refine BT h fun v30 a30 b30 h => qI Au Cy a30 (Af b30) rfl ?_
     refine Ej rfl rfl rfl rfl (Af b30) rfl Cy rfl (IY rfl) (Eo An ((([] : List Int)) ++ p1.fa) _ ((-1))) ?_
     refine AI (by kernel_rfl) ?_
     exact sn [(2001, 18), (2002, 22), (2003, 26)] h
   ·refine wq rfl (Br rfl (qe rfl ?_))
    refine Bc h (fun h => ?_) fun h => ?_
    ·refine wq rfl (qf Cd rfl (ql GD rfl (qm rfl ?_)))
     refine BT h fun v32 a32 b32 h => qi DG Dr a32 (Af b32) rfl (qK Gv Dr rfl (qz KU rfl (qs Dr rfl (Aa (wp rfl (qL Gv Dr rfl ?_))))))
     refine BS h fun v33 a33 h => Ar [] (Bx N v32 v33 a33) MP rfl (BX rfl (Aa ?_))
     refine Bc h (fun h => ?_) fun h => ?_
     ·refine wq rfl (A8 Cb F5 rfl (qs AF rfl (qe rfl ?_)))
      obtain rfl := sj h
      refine Ae ((Ax 6 0 2025 1 _ rfl rfl rfl rfl).trans ((Ax 6 1 2026 1 _ rfl rfl rfl rfl).trans ((Ax 6 2 2027 1 _ rfl rfl rfl rfl).trans (sm [(1000, 2025), (1001, 2026), (1002, 2027)] [(6, oD (.ptr 6 0)), (7, bD false)] [(6, .box [.own 1000, .own 1001, .own 1002]), (1000, .vec 1 ((([] : List Int)).map An)), (1001, .vec 1 ((([] : List Int)).map An)), (1002, .vec 1 ((([] : List Int)).map B3))] rfl rfl)))) (Ap ?_)
      exact ⟨⟨[_, _], ⟨.cellN _ _ _ _ _ _ _ rfl rfl A0 AF rfl rfl (GV rfl), tm⟩, rfl⟩, ⟨rfl, rfl, rfl, tv⟩⟩
     ·refine Al (wq rfl (qL A0 AF rfl (qf Ck rfl (ql BL rfl ?_))))
      refine BS h fun v35 a35 h => Ar [] (CT N p1 v32.fg v35 a35) Rn rfl (qa rfl (Aa (wp rfl (qf BZ rfl (ql Ge rfl (qm rfl ?_))))))
      refine BT h fun v36 a36 b36 h => qi Cw EQ a36 (Af b36) rfl (qk I9 rfl (qm rfl (Br rfl (Aa ?_))))
      refine Bc h (fun h => ?_) fun h => ?_
      ·refine wq rfl (A8 Cb F5 rfl (qs AF rfl (qe rfl ?_)))
       obtain rfl := sj h
       refine Ae ((Ax 6 0 2028 1 _ rfl rfl rfl rfl).trans ((Ax 6 1 2029 1 _ rfl rfl rfl rfl).trans ((Ax 6 2 2030 1 _ rfl rfl rfl rfl).trans (sm [(1000, 2028), (1001, 2029), (1002, 2030)] [(6, oD (.ptr 6 0)), (7, bD false)] [(6, .box [.own 1000, .own 1001, .own 1002]), (1000, .vec 1 ((([] : List Int)).map An)), (1001, .vec 1 ((([] : List Int)).map An)), (1002, .vec 1 ((([] : List Int)).map B3))] rfl rfl)))) (Ap ?_)
       exact ⟨⟨[_, _], ⟨.cellN _ _ _ _ _ _ _ rfl rfl A0 AF rfl rfl (GV rfl), tm⟩, rfl⟩, ⟨rfl, rfl, rfl, tv⟩⟩
      ·refine Al (wp rfl (qe rfl ?_))
       refine AH (L := Bn N p0 p1 p2 v32 v35) h (fun v38 => mk [(3, oD (.ptr 3 0)), (4, oD (.ptr 4 0)), (6, oD (.ptr 6 0)), (8, oD (.ptr 8 0)), (9, iD p2.fh), (11, oD (.ptr 11 0)), (12, pD (.val (.int .u8 v35))), (13, iD v38)] [(3, .box (Ah p0)), (4, .box (Ay p1)), (6, .box [.pure (.nil0), .pure (.nil0), .pure (.nil0)]), (8, .box [.own 2031, .own 2032, .own 2033]), (11, .box (A7 v32)), (2031, .vec 1 (((([] : List Int)) ++ p1.fd).map An)), (2032, .vec 1 (((([] : List Int)) ++ p1.fa).map An)), (2033, .vec 1 (((([] : List Int)) ++ p1.fc).map B3))]) (fun v39 => mk [(6, oD (.ptr 6 0)), (8, oD (.ptr 8 0)), (9, iD p2.fh), (12, pD (.val (.int .u8 v35)))] [(6, .box [.pure (.nil0), .pure (.nil0), .pure (.nil0)]), (8, .box [.own 2034, .own 2035, .own 2036]), (2034, .vec 1 (((([] : List Int)) ++ p1.fd).map An)), (2035, .vec 1 (((([] : List Int)) ++ p1.fa).map An)), (2036, .vec 1 (((([] : List Int)) ++ p1.fc).map B3))]) (fun _ _ => rfl) (sm [(2031, 18), (2032, 22), (2033, 26)] _ _ rfl rfl) (fun j38 n38 v38 h => ?_) (fun v39 s h hs => ?_)
       ·unfold Bn at h
        refine wp rfl (qm rfl (qf Bg rfl (ql AV rfl (qf Ck rfl (ql BL rfl ?_)))))
        refine BT h fun v40 a40 b40 h => qi Au Cy a40 (Af b40) rfl (qk BL rfl (AT rfl (Aa ?_)))
        refine Bc h (fun h => ?_) fun h => ?_
        ·refine Al (AO (AM ?_))
         refine AK h (fun v42 => mk [(3, oD (.ptr 3 0)), (4, oD (.ptr 4 0)), (6, oD (.ptr 6 0)), (8, oD (.ptr 8 0)), (9, iD p2.fh), (11, oD (.ptr 11 0)), (12, pD (.val (.int .u8 v35))), (13, iD v38), (14, bD v42)] [(3, .box (Ah p0)), (4, .box (Ay p1)), (6, .box [.pure (.nil0), .pure (.nil0), .pure (.nil0)]), (8, .box [.own 2037, .own 2038, .own 2039]), (11, .box (A7 v32)), (2037, .vec 1 (((([] : List Int)) ++ p1.fd).map An)), (2038, .vec 1 (((([] : List Int)) ++ p1.fa).map An)), (2039, .vec 1 (((([] : List Int)) ++ p1.fc).map B3))]) (fun j42 h => ?_) (fun v42 h => ?_)
         ·refine Ag Az rfl (qf BZ rfl (ql Ge rfl (qm rfl ?_)))
          refine BT h fun v43 a43 b43 h => qi Cw EQ a43 (Af b43) rfl (qk I9 rfl (qm rfl ?_))
          refine BS h fun v44 a44 h => Ar [] (Fe N v43 v38 v44 a44) Qy rfl (qm rfl ?_)
          refine Dm 166 h rfl (fun h => ?_) fun h => ?_
          ·refine qw 2 rfl ?_
           refine BS h fun v46 a46 h => Ar [] (Fe N v35 v38 v46 a46) Qy rfl (BX rfl (qp rfl (qe rfl ?_)))
           exact sn [(2037, 2031), (2038, 2032), (2039, 2033)] h
          ·refine qw 4 rfl (qp rfl (qe rfl ?_))
           exact sn [(2037, 2031), (2038, 2032), (2039, 2033)] h
         ·refine AK h (fun v47 => mk [(3, oD (.ptr 3 0)), (4, oD (.ptr 4 0)), (6, oD (.ptr 6 0)), (8, oD (.ptr 8 0)), (9, iD p2.fh), (11, oD (.ptr 11 0)), (12, pD (.val (.int .u8 v35))), (13, iD v38), (193, bD v47)] [(3, .box (Ah p0)), (4, .box (Ay p1)), (6, .box [.pure (.nil0), .pure (.nil0), .pure (.nil0)]), (8, .box [.own 2040, .own 2041, .own 2042]), (11, .box (A7 v32)), (2040, .vec 1 (((([] : List Int)) ++ p1.fd).map An)), (2041, .vec 1 (((([] : List Int)) ++ p1.fa).map An)), (2042, .vec 1 (((([] : List Int)) ++ p1.fc).map B3))]) (fun j47 h => ?_) (fun v47 h => ?_)
          ·refine Ag Az rfl (qw 2 rfl ?_)
           refine Dm 173 h rfl (fun h => ?_) fun h => ?_
           ·refine qf Fa rfl (ql BL rfl (Br rfl (qp rfl (qm rfl ?_))))
            refine Dm 178 h rfl (fun h => ?_) fun h => ?_
            ·refine qf FZ rfl (ql Je rfl (qm rfl ?_))
             refine BT h fun v50 a50 b50 h => qi FL MM a50 (Af b50) rfl (qk N3 rfl (qf Ce rfl (ql AV rfl (qf Ck rfl (ql BL rfl ?_)))))
             refine BT h fun v51 a51 b51 h => qi Au Cy a51 (Af b51) rfl (qk BL rfl ?_)
             refine BT h fun v52 a52 b52 h => qi GI P2 a52 (Af b52) rfl (qk QZ rfl (BX rfl (qp rfl (AI (by kernel_rfl) ?_))))
             exact sn [(2040, 2037), (2041, 2038), (2042, 2039)] h
            ·refine qw 14 rfl (qp rfl (AI (by kernel_rfl) ?_))
             exact sn [(2040, 2037), (2041, 2038), (2042, 2039)] h
           ·refine qw 3 rfl (qp rfl (qw 15 rfl (qp rfl (AI (by kernel_rfl) ?_))))
            exact sn [(2040, 2037), (2041, 2038), (2042, 2039)] h
          ·refine Bc h (fun h => ?_) fun h => ?_
           ·refine wq rfl (A8 Cb F5 rfl (qs AF rfl (qe rfl ?_)))
            obtain rfl := sj h
            refine Ae ((Ax 6 0 2043 1 _ rfl rfl rfl rfl).trans ((Ax 6 1 2044 1 _ rfl rfl rfl rfl).trans ((Ax 6 2 2045 1 _ rfl rfl rfl rfl).trans (sm [(1000, 2043), (1001, 2044), (1002, 2045)] [(6, oD (.ptr 6 0)), (7, bD false)] [(6, .box [.own 1000, .own 1001, .own 1002]), (1000, .vec 1 ((([] : List Int)).map An)), (1001, .vec 1 ((([] : List Int)).map An)), (1002, .vec 1 ((([] : List Int)).map B3))] rfl rfl)))) (Ap ?_)
            exact ⟨⟨[_, _], ⟨.cellN _ _ _ _ _ _ _ rfl rfl A0 AF rfl rfl (GV rfl), tm⟩, rfl⟩, ⟨rfl, rfl, rfl, tv⟩⟩
           ·refine Al (Ag Az rfl (qm rfl (Be rfl (qe rfl ?_))))
            exact sn [(2031, 2040), (2032, 2041), (2033, 2042)] h
        ·refine AS ?_
         exact sn [(2034, 2031), (2035, 2032), (2036, 2033)] h
       ·refine Ae hs (Ag Az rfl (qf BZ rfl (ql Ge rfl (qw 2 rfl ?_))))
        refine BT h fun v54 a54 b54 h => qI Cw EQ a54 (Af b54) rfl ?_
        refine Ej rfl rfl rfl rfl (Af b54) rfl EQ rfl (IY rfl) (Eo B3 ((([] : List Int)) ++ p1.fc) _ v35) ?_
        refine Aa ?_
        exact sn [(2001, 2034), (2002, 2035), (2003, 2036)] h
    ·refine wp rfl (qf Bf rfl (ql AV rfl (qm rfl ?_)))
     refine BT h fun v55 a55 b55 h => qi Au Cy a55 (Af b55) rfl (qk BL rfl (AT rfl (Aa ?_)))
     refine Bc h (fun h => ?_) fun h => ?_
     ·refine wq rfl (A8 Cb F5 rfl (qs AF rfl (qe rfl ?_)))
      obtain rfl := sj h
      refine Ae ((Ax 6 0 2046 1 _ rfl rfl rfl rfl).trans ((Ax 6 1 2047 1 _ rfl rfl rfl rfl).trans ((Ax 6 2 2048 1 _ rfl rfl rfl rfl).trans (sm [(1000, 2046), (1001, 2047), (1002, 2048)] [(6, oD (.ptr 6 0)), (7, bD false)] [(6, .box [.own 1000, .own 1001, .own 1002]), (1000, .vec 1 ((([] : List Int)).map An)), (1001, .vec 1 ((([] : List Int)).map An)), (1002, .vec 1 ((([] : List Int)).map B3))] rfl rfl)))) (Ap ?_)
      exact ⟨⟨[_, _], ⟨.cellN _ _ _ _ _ _ _ rfl rfl A0 AF rfl rfl (GV rfl), tm⟩, rfl⟩, ⟨rfl, rfl, rfl, tv⟩⟩
     ·refine Al (Ag Az rfl (qf Bf rfl (ql AV rfl (qm rfl ?_))))
      refine BT h fun v57 a57 b57 h => qI Au Cy a57 (Af b57) rfl ?_
      refine Ej rfl rfl rfl rfl (Af b57) rfl Cy rfl (IY rfl) (Eo An ((([] : List Int)) ++ p1.fa) _ ((-1))) ?_
      refine Aa ?_
      exact sn [(2001, 18), (2002, 22), (2003, 26)] h
 ·refine wq rfl (qL A0 AF rfl (qs AF rfl (qe rfl ?_)))
  obtain rfl := sj h
  refine Ae (sm [(1000, 2001), (1001, 2002), (1002, 2003)] [(6, oD (.ptr 6 0)), (7, bD true)] [(6, .box [.own 1000, .own 1001, .own 1002]), (1000, .vec 1 (v4.1.map An)), (1001, .vec 1 (v4.2.1.map An)), (1002, .vec 1 (v4.2.2.map B3))] rfl rfl) (Ap ?_)
  exact ⟨⟨[_, _], ⟨.cellN _ _ _ _ _ _ _ rfl rfl A0 AF rfl rfl (GV rfl), tm⟩, rfl⟩, ⟨rfl, rfl, rfl, tv⟩⟩
theorem JK (N : Nat) (p0 : Ab) (p1 : Ac) (p2 : Ad) (r : Ac × Int) (h : DM N p0 p1 p2 = some r) : Aq Tryz.prog 64 [.e (.agg (Ah p0)), .e (.agg (Ay p1)), .e (.agg (Cc p2))] [(1, r.1.fd.map An), (1, r.1.fa.map An), (1, r.1.fc.map B3)] (.tup [.agg [.own 0, .own 1, .own 2], .one (iC r.2)]) := by
 unfold DM at h
 refine cw (n := 73) (rs := [.cell 6 38, .tmp 7]) Tryz.func64 fun w0 S0 => ?_
 refine wq rfl (qb rfl (qb rfl (qb rfl (qz Cb rfl (qa rfl (Aa (wp rfl (qL CL Cp rfl (qL A0 AF rfl ?_)))))))))
 refine BS h fun v1 a1 h => Ar [] (FE N p0 p1 v1 a1) U2 rfl (qa rfl (Aa (wq rfl (qm rfl (BB rfl (Aa ?_))))))
 refine Bc h (fun h => ?_) fun h => ?_
 ·refine wq rfl (A8 Cb F5 rfl (qm rfl (qs AF rfl (qe rfl ?_))))
  obtain rfl := sj h
  refine Ae ((Ax 6 0 2001 1 _ rfl rfl rfl rfl).trans ((Ax 6 1 2002 1 _ rfl rfl rfl rfl).trans ((Ax 6 2 2003 1 _ rfl rfl rfl rfl).trans (sm [(1000, 2001), (1001, 2002), (1002, 2003)] [(6, oD (.ptr 6 0)), (7, iD v1)] [(6, .box [.own 1000, .own 1001, .own 1002]), (1000, .vec 1 ((([] : List Int)).map An)), (1001, .vec 1 ((([] : List Int)).map An)), (1002, .vec 1 ((([] : List Int)).map B3))] rfl rfl)))) (Ap ?_)
  exact ⟨⟨[_, _], ⟨.cellN _ _ _ _ _ _ _ rfl rfl A0 AF rfl rfl (GV rfl), tm⟩, rfl⟩, ⟨rfl, rfl, rfl, tv⟩⟩
 ·refine Al (wp rfl (qL Gb Cg rfl ?_))
  refine BS h fun v3 a3 h => Ar [] (Hr N p2 v3 a3) VE rfl (BX rfl (Aa ?_))
  refine Bc h (fun h => ?_) fun h => ?_
  ·refine wq rfl (A8 Cb F5 rfl (qs AF rfl (qe rfl ?_)))
   obtain rfl := sj h
   refine Ae ((Ax 6 0 2004 1 _ rfl rfl rfl rfl).trans ((Ax 6 1 2005 1 _ rfl rfl rfl rfl).trans ((Ax 6 2 2006 1 _ rfl rfl rfl rfl).trans (sm [(1000, 2004), (1001, 2005), (1002, 2006)] [(6, oD (.ptr 6 0)), (7, iD 1)] [(6, .box [.own 1000, .own 1001, .own 1002]), (1000, .vec 1 ((([] : List Int)).map An)), (1001, .vec 1 ((([] : List Int)).map An)), (1002, .vec 1 ((([] : List Int)).map B3))] rfl rfl)))) (Ap ?_)
   exact ⟨⟨[_, _], ⟨.cellN _ _ _ _ _ _ _ rfl rfl A0 AF rfl rfl (GV rfl), tm⟩, rfl⟩, ⟨rfl, rfl, rfl, tv⟩⟩
  ·refine Al (AO ?_)
   refine AK h (fun v5 => mk [(3, oD (.ptr 3 0)), (4, oD (.ptr 4 0)), (5, oD (.ptr 5 0)), (6, oD (.ptr 6 0)), (45, bD v5)] [(3, .box (Ah p0)), (4, .box (Ay p1)), (5, .box (Cc p2)), (6, .box [.pure (.nil0), .pure (.nil0), .pure (.nil0)])]) (fun j5 h => ?_) (fun v5 h => ?_)
   ·refine Ag Az rfl (qf DS rfl (ql BL rfl (Br rfl (qm rfl ?_))))
    refine Dm 25 h rfl (fun h => ?_) fun h => ?_
    ·refine qf D6 rfl (ql BL rfl (qf Cd rfl (ql GD rfl (AB DG rfl (Ep rfl (qp rfl (qm rfl ?_)))))))
     refine Dm 33 h rfl (fun h => ?_) fun h => ?_
     ·refine qw 4 rfl (qu rfl (qu rfl (qu rfl (qu rfl (qu rfl (qu rfl (qn rfl (qp rfl (Aa ?_)))))))))
      exact sn [] h
     ·refine qf DS rfl (ql BL rfl (BB rfl (qm rfl ?_)))
      refine Dm 37 h rfl (fun h => ?_) fun h => ?_
      ·refine qf D6 rfl (ql BL rfl (qf Bg rfl (ql AV rfl (AB Au rfl (Ep rfl (qp rfl (qp rfl (Aa ?_))))))))
       exact sn [] h
      ·refine qw 6 rfl (qp rfl (qp rfl (Aa ?_)))
       exact sn [] h
    ·refine qw 6 rfl (qp rfl (qm rfl (qf DS rfl (ql BL rfl (BB rfl (qm rfl ?_))))))
     refine Dm 37 h rfl (fun h => ?_) fun h => ?_
     ·refine qf D6 rfl (ql BL rfl (qf Bg rfl (ql AV rfl (AB Au rfl (Ep rfl (qp rfl (qp rfl (Aa ?_))))))))
      exact sn [] h
     ·refine qw 6 rfl (qp rfl (qp rfl (Aa ?_)))
      exact sn [] h
   ·refine Bc h (fun h => ?_) fun h => ?_
    ·refine wq rfl (A8 Cb F5 rfl (qs AF rfl (qe rfl ?_)))
     obtain rfl := sj h
     refine Ae ((Ax 6 0 2007 1 _ rfl rfl rfl rfl).trans ((Ax 6 1 2008 1 _ rfl rfl rfl rfl).trans ((Ax 6 2 2009 1 _ rfl rfl rfl rfl).trans (sm [(1000, 2007), (1001, 2008), (1002, 2009)] [(6, oD (.ptr 6 0)), (7, iD 4)] [(6, .box [.own 1000, .own 1001, .own 1002]), (1000, .vec 1 ((([] : List Int)).map An)), (1001, .vec 1 ((([] : List Int)).map An)), (1002, .vec 1 ((([] : List Int)).map B3))] rfl rfl)))) (Ap ?_)
     exact ⟨⟨[_, _], ⟨.cellN _ _ _ _ _ _ _ rfl rfl A0 AF rfl rfl (GV rfl), tm⟩, rfl⟩, ⟨rfl, rfl, rfl, tv⟩⟩
    ·refine Al (AO ?_)
     refine AK h (fun v11 => mk [(3, oD (.ptr 3 0)), (4, oD (.ptr 4 0)), (5, oD (.ptr 5 0)), (6, oD (.ptr 6 0)), (60, bD v11)] [(3, .box (Ah p0)), (4, .box (Ay p1)), (5, .box (Cc p2)), (6, .box [.pure (.nil0), .pure (.nil0), .pure (.nil0)])]) (fun j11 h => ?_) (fun v11 h => ?_)
     ·refine Ag Az rfl (qf DS rfl (ql BL rfl (Br rfl (qm rfl ?_))))
      refine Dm 50 h rfl (fun h => ?_) fun h => ?_
      ·refine qf FC rfl (ql BL rfl (qf Bg rfl (ql AV rfl (qf D6 rfl (ql BL rfl ?_)))))
       refine BT h fun v13 a13 b13 h => qi Au Cy a13 (Af b13) rfl (qk BL rfl (Ep rfl (qp rfl (AI (by kernel_rfl) ?_))))
       exact sn [] h
      ·refine qw 9 rfl (qp rfl (AI (by kernel_rfl) ?_))
       exact sn [] h
     ·refine Bc h (fun h => ?_) fun h => ?_
      ·refine wq rfl (A8 Cb F5 rfl (qs AF rfl (qe rfl ?_)))
       obtain rfl := sj h
       refine Ae ((Ax 6 0 2010 1 _ rfl rfl rfl rfl).trans ((Ax 6 1 2011 1 _ rfl rfl rfl rfl).trans ((Ax 6 2 2012 1 _ rfl rfl rfl rfl).trans (sm [(1000, 2010), (1001, 2011), (1002, 2012)] [(6, oD (.ptr 6 0)), (7, iD 4)] [(6, .box [.own 1000, .own 1001, .own 1002]), (1000, .vec 1 ((([] : List Int)).map An)), (1001, .vec 1 ((([] : List Int)).map An)), (1002, .vec 1 ((([] : List Int)).map B3))] rfl rfl)))) (Ap ?_)
       exact ⟨⟨[_, _], ⟨.cellN _ _ _ _ _ _ _ rfl rfl A0 AF rfl rfl (GV rfl), tm⟩, rfl⟩, ⟨rfl, rfl, rfl, tv⟩⟩
      ·refine Al (wq rfl (qL CL Cp rfl (qL A0 AF rfl (qL Gb Cg rfl ?_))))
       refine BS h fun v15 a15 h => Ar [2013, 2014, 2015] (JN N p0 p1 p2 v15 a15) Xw rfl (qm rfl (qx rfl (qx rfl (qz Cb rfl (qs AF rfl (qa rfl (Aa (wp rfl (qm rfl (BX rfl (Aa ?_)))))))))))
       refine Bc h (fun h => ?_) fun h => ?_
       ·refine wq rfl (A8 Cb F5 rfl (qs AF rfl (qe rfl ?_)))
        obtain rfl := sj h
        refine Ae ((Ax 6 0 2016 1 _ rfl rfl rfl rfl).trans ((Ax 6 1 2017 1 _ rfl rfl rfl rfl).trans ((Ax 6 2 2018 1 _ rfl rfl rfl rfl).trans (sm [(1000, 2016), (1001, 2017), (1002, 2018)] [(6, oD (.ptr 6 0)), (7, iD 11)] [(6, .box [.own 1000, .own 1001, .own 1002]), (1000, .vec 1 ((([] : List Int)).map An)), (1001, .vec 1 ((([] : List Int)).map An)), (1002, .vec 1 ((([] : List Int)).map B3))] rfl rfl)))) (Ap ?_)
        exact ⟨⟨[_, _], ⟨.cellN _ _ _ _ _ _ _ rfl rfl A0 AF rfl rfl (GV rfl), tm⟩, rfl⟩, ⟨rfl, rfl, rfl, tv⟩⟩
       ·refine Al (wq rfl (qL A0 AF rfl (qs AF rfl (qe rfl ?_))))
        obtain rfl := sj h
        refine Ae (sm [(1000, 2013), (1001, 2014), (1002, 2015)] [(6, oD (.ptr 6 0)), (7, iD 0)] [(6, .box [.own 1000, .own 1001, .own 1002]), (1000, .vec 1 (v15.1.fd.map An)), (1001, .vec 1 (v15.1.fa.map An)), (1002, .vec 1 (v15.1.fc.map B3))] rfl rfl) (Ap ?_)
        exact ⟨⟨[_, _], ⟨.cellN _ _ _ _ _ _ _ rfl rfl A0 AF rfl rfl (GV rfl), tm⟩, rfl⟩, ⟨rfl, rfl, rfl, tv⟩⟩
theorem GR (N : Nat) (p0 : Ab) (p1 : Ac) (p2 : List Ad) (r : Ac × Bool) (h : CD N p0 p1 p2 = some r) : Aq Tryz.prog 41 [.e (.agg (Ah p0)), .e (.agg (Ay p1)), pD (.sl (p2.map Ai))] [] (.tup [.agg (Ay r.1), .one (.pure (.val (.bool r.2)))]) := by
 unfold CD at h
 refine cw (n := 38) (rs := [.cell 6 38, .tmp 7]) Tryz.func41 fun w0 S0 => ?_
 refine wq rfl (qb rfl (qb rfl (qz Cb rfl (qa rfl (Aa (wp rfl (qe rfl ?_)))))))
 refine AH (L := B6 N p0 p2) h (fun v1 => mk [(2, pD (.sl (p2.map Ai))), (3, oD (.ptr 3 0)), (4, oD (.ptr 4 0)), (6, oD (.ptr 6 0)), (8, iD v1.2.2.2)] [(3, .box (Ah p0)), (4, .box [sC (v1.1.map An), sC (v1.2.1.map An), sC (v1.2.2.1.map B3)]), (6, .box [.pure (.nil0), .pure (.nil0), .pure (.nil0)])]) (fun v2 => mk [(4, oD (.ptr 4 0)), (6, oD (.ptr 6 0))] [(4, .box (Ay v2)), (6, .box [.pure (.nil0), .pure (.nil0), .pure (.nil0)])]) (fun _ _ => rfl) (sm [] _ _ rfl rfl) (fun j1 n1 v1 h => ?_) (fun v2 s h hs => ?_)
 ·unfold B6 at h
  refine wp rfl (qw 2 rfl (AB Bo rfl (AT rfl (Aa ?_))))
  refine Bc h (fun h => ?_) fun h => ?_
  ·refine Al (AO (AM (wq rfl (qL CL Cp rfl (qL A0 AF rfl (qw 2 rfl ?_))))))
   refine BT h fun v4 a4 b4 h => qi Bo Cg a4 (Af b4) rfl (qK Gb Cg rfl ?_)
   refine BS h fun v5 a5 h => Ar [2001, 2002, 2003] (JK N p0 ((Ac.mk v1.1 v1.2.1 v1.2.2.1)) v4 v5 a5) Xn rfl (qm rfl (qx rfl (qx rfl (qz Cb rfl (qs AF rfl (qa rfl (AI (by kernel_rfl) (AO ?_))))))))
   refine AK h (fun v6 => mk [(2, pD (.sl (p2.map Ai))), (3, oD (.ptr 3 0)), (4, oD (.ptr 4 0)), (6, oD (.ptr 6 0)), (8, iD v1.2.2.2), (9, oD (.ptr 9 0)), (34, bD v6)] [(3, .box (Ah p0)), (4, .box [sC (v1.1.map An), sC (v1.2.1.map An), sC (v1.2.2.1.map B3)]), (6, .box [.pure (.nil0), .pure (.nil0), .pure (.nil0)]), (9, .box [.own 2004, .own 2005, .own 2006]), (2004, .vec 1 (v5.1.fd.map An)), (2005, .vec 1 (v5.1.fa.map An)), (2006, .vec 1 (v5.1.fc.map B3))]) (fun j6 h => ?_) (fun v6 h => ?_)
   ·refine Ag Az rfl (qm rfl (BB rfl (qm rfl ?_)))
    refine Dm 29 h rfl (fun h => ?_) fun h => ?_
    ·refine qw 4 rfl (qp rfl (Aa ?_))
     exact sn [(2004, 2001), (2005, 2002), (2006, 2003)] h
    ·refine qL CL Cp rfl (qL A0 AF rfl ?_)
     refine BS h fun v8 a8 h => FY [] [2001, 2002, 2003] (GC N p0 v5.1 v8 a8) Wy Eh rfl (BX rfl (qp rfl (Aa ?_)))
     exact sn [(2004, 2001), (2005, 2002), (2006, 2003)] h
   ·refine Bc h (fun h => ?_) fun h => ?_
    ·refine wq rfl (A8 Cb F5 rfl (qs AF rfl (qe rfl ?_)))
     obtain rfl := sj h
     refine Ae ((E6 6 _ rfl).trans (sm [] [(6, oD (.ptr 6 0)), (7, bD false)] [(6, .box [sC ((([] : List Int)).map An), sC ((([] : List Int)).map An), sC ((([] : List Int)).map B3)])] rfl rfl)) (Ap ?_)
     exact ⟨⟨[_, _], ⟨.cellN _ _ _ _ _ _ _ rfl rfl A0 AF rfl rfl (GV rfl), tm⟩, rfl⟩, tv⟩
    ·refine Al (Ag Az rfl (qL A0 AF rfl (qs AF rfl (Aa (Ag Az rfl (qm rfl (Be rfl (qe rfl ?_))))))))
     exact TM _ h ((A5 2004 _ _ rfl rfl).trans ((A5 2005 _ _ rfl rfl).trans ((A5 2006 _ _ rfl rfl).trans (sm [] _ _ rfl rfl))))
  ·refine AS ?_
   exact sn [] h
 ·refine Ae hs (wq rfl (qL A0 AF rfl (qs AF rfl (qe rfl ?_))))
  obtain rfl := sj h
  refine Ae (sm [] [(6, oD (.ptr 6 0)), (7, bD true)] [(6, .box (Ay v2))] rfl rfl) (Ap ?_)
  exact ⟨⟨[_, _], ⟨.cellN _ _ _ _ _ _ _ rfl rfl A0 AF rfl rfl (GV rfl), tm⟩, rfl⟩, tv⟩
theorem I8 (N : Nat) (p0 : List Ad) (p1 : List Int) (r : (List Ad)) (h : Dd N p0 p1 = some r) : Aq Tryz.prog 42 [pD (.sl (p0.map Ai)), pD (.sl (p1.map An))] [(3, r.map Ai)] (oD (.own 0)) := by
 unfold Dd at h
 refine cw (n := 24) (rs := [.tmp 4]) Tryz.func42 fun w0 S0 => ?_
 refine wq rfl (qa rfl (Aa (wq rfl (qa rfl (Aa (wp rfl (qe rfl ?_)))))))
 refine AH (L := B9 N p0 p1) h (fun v1 => mk [(0, pD (.sl (p0.map Ai))), (1, pD (.sl (p1.map An))), (5, oD (.own 2001)), (6, iD v1.2)] [(2001, .vec 3 (v1.1.map Ai))]) (fun v2 => mk [(5, oD (.own 2002))] [(2002, .vec 3 (v2.map Ai))]) (fun _ _ => rfl) ((B2 5 2003 3 rfl rfl rfl).trans (sm [(2001, 2003)] _ _ rfl rfl)) (fun j1 n1 v1 h => ?_) (fun v2 s h hs => ?_)
 ·unfold B9 at h
  refine wp rfl (qw 2 rfl (AB Au rfl (AT rfl (Aa ?_))))
  refine Bc h (fun h => ?_) fun h => ?_
  ·refine Al (AO (AM (Ag Az rfl (qw 4 rfl ?_))))
   refine BT h fun v4 a4 b4 h => qi Au Cy a4 (Af b4) rfl (qk BL rfl ?_)
   refine BT h fun v5 a5 b5 h => qi Bo Cg a5 (Af b5) rfl (qK Gb Cg rfl (D1 Bo Cg IV rfl ?_))
   refine Ey h fun c6 h => Dz (f := Ai) Bo Bo Cg QR IV c6 rfl (qa rfl (Aa (Ag Az rfl (qm rfl (Be rfl (qe rfl ?_))))))
   exact sn [(2001, 22)] h
  ·refine AS ?_
   exact sn [(2002, 2001)] h
 ·refine Ae hs (wq rfl (qm rfl (qe rfl ?_)))
  obtain rfl := sj h
  refine Ae (sm [(1000, 2002)] [(4, oD (.own 1000))] [(1000, .vec 3 (v2.map Ai))] rfl rfl) (Ap ?_)
  exact ⟨⟨[_], tm, rfl⟩, ⟨rfl, tv⟩⟩
theorem F8 (N : Nat) (p0 : List Int) (p1 : List Int) (r : Int) (h : CJ N p0 p1 = some r) : Aq Tryz.prog 89 [pD (.sl (p0.map An)), pD (.sl (p1.map An))] [] (iD r) := by
 unfold CJ at h
 refine cw (n := 46) (rs := [.tmp 4]) Tryz.func89 fun w0 S0 => ?_
 refine wq rfl (qa rfl (Aa (wp rfl (qe rfl ?_))))
 refine AH (L := CG N p0 p1) h (fun v1 => mk [(0, pD (.sl (p0.map An))), (1, pD (.sl (p1.map An))), (5, iD v1)] []) (fun v2 => mk [(0, pD (.sl (p0.map An))), (1, pD (.sl (p1.map An)))] []) (fun _ _ => rfl) (sm [] _ _ rfl rfl) (fun j1 n1 v1 h => ?_) (fun v2 s h hs => ?_)
 ·unfold CG at h
  refine AO ?_
  refine AK h (fun v3 => mk [(0, pD (.sl (p0.map An))), (1, pD (.sl (p1.map An))), (5, iD v1), (15, bD v3)] []) (fun j3 h => ?_) (fun v3 h => ?_)
  ·refine Ag Az rfl (qw 2 rfl (AB Au rfl (AT rfl (qm rfl ?_))))
   refine Dm 10 h rfl (fun h => ?_) fun h => ?_
   ·refine qw 2 rfl (AB Au rfl (AT rfl (qp rfl (Aa ?_))))
    exact sn [] h
   ·refine qw 4 rfl (qp rfl (Aa ?_))
    exact sn [] h
  ·refine Bc h (fun h => ?_) fun h => ?_
   ·refine Al (AO (AM (wp rfl (qw 2 rfl ?_))))
    refine BT h fun v6 a6 b6 h => qi Au Cy a6 (Af b6) rfl (qk BL rfl (qw 2 rfl ?_))
    refine BT h fun v7 a7 b7 h => qi Au Cy a7 (Af b7) rfl (qk BL rfl (AT rfl (AI (by kernel_rfl) ?_)))
    refine Bc h (fun h => ?_) fun h => ?_
    ·refine wq rfl (qe rfl ?_)
     obtain rfl := sj h
     refine Ae (sm [] [(4, iD ((-1)))] [] rfl rfl) (Ap ?_)
     exact ⟨⟨[_], tm, rfl⟩, tv⟩
    ·refine Al (wq rfl (qw 2 rfl ?_))
     refine BT h fun v9 a9 b9 h => qi Au Cy a9 (Af b9) rfl (qk BL rfl (qw 2 rfl ?_))
     refine BT h fun v10 a10 b10 h => qi Au Cy a10 (Af b10) rfl (qk BL rfl (EP rfl (AI (by kernel_rfl) ?_)))
     refine Bc h (fun h => ?_) fun h => ?_
     ·refine wq rfl (qe rfl ?_)
      obtain rfl := sj h
      refine Ae (sm [] [(4, iD 1)] [] rfl rfl) (Ap ?_)
      exact ⟨⟨[_], tm, rfl⟩, tv⟩
     ·refine Al (Ag Az rfl (qm rfl (Be rfl (qe rfl ?_))))
      exact sn [] h
   ·refine AS ?_
    exact sn [] h
 ·refine Ae hs (wp rfl (qm rfl (AB Au rfl (qm rfl (AB Au rfl (AT rfl (Aa ?_)))))))
  refine Bc h (fun h => ?_) fun h => ?_
  ·refine wq rfl (qe rfl ?_)
   obtain rfl := sj h
   refine Ae (sm [] [(4, iD ((-1)))] [] rfl rfl) (Ap ?_)
   exact ⟨⟨[_], tm, rfl⟩, tv⟩
  ·refine Al (wp rfl (qm rfl (AB Au rfl (qm rfl (AB Au rfl (EP rfl (Aa ?_)))))))
   refine Bc h (fun h => ?_) fun h => ?_
   ·refine wq rfl (qe rfl ?_)
    obtain rfl := sj h
    refine Ae (sm [] [(4, iD 1)] [] rfl rfl) (Ap ?_)
    exact ⟨⟨[_], tm, rfl⟩, tv⟩
   ·refine Al (wq rfl (qe rfl ?_))
    obtain rfl := sj h
    refine Ae (sm [] [(4, iD 0)] [] rfl rfl) (Ap ?_)
    exact ⟨⟨[_], tm, rfl⟩, tv⟩
theorem GS (N : Nat) (p0 : List Int) (r : (List Int)) (h : Cz N p0 = some r) : Aq Tryz.prog 90 [pD (.sl (p0.map B3))] [(1, r.map An)] (oD (.own 0)) := by
 unfold Cz at h
 refine cw (n := 20) (rs := [.tmp 2]) Tryz.func90 fun w0 S0 => ?_
 refine wq rfl (qa rfl (Aa (wq rfl (qa rfl (Aa (wp rfl (qe rfl ?_)))))))
 refine AH (L := B8 N p0) h (fun v1 => mk [(0, pD (.sl (p0.map B3))), (3, oD (.own 2001)), (4, iD v1.2)] [(2001, .vec 1 (v1.1.map An))]) (fun v2 => mk [(3, oD (.own 2002))] [(2002, .vec 1 (v2.map An))]) (fun _ _ => rfl) ((B2 3 2003 1 rfl rfl rfl).trans (sm [(2001, 2003)] _ _ rfl rfl)) (fun j1 n1 v1 h => ?_) (fun v2 s h hs => ?_)
 ·unfold B8 at h
  refine wp rfl (qw 2 rfl (AB Cw rfl (AT rfl (Aa ?_))))
  refine Bc h (fun h => ?_) fun h => ?_
  ·refine Al (AO (AM (Ag Az rfl (qw 3 rfl ?_))))
   refine BT h fun v4 a4 b4 h => qi Cw EQ a4 (Af b4) rfl (qk I9 rfl (Iv Xk TX rfl (D1 Au Cy I1 rfl ?_)))
   refine Ey h fun c5 h => Dz (f := An) Au Au Cy Ja I1 c5 rfl (qa rfl (Aa (Ag Az rfl (qm rfl (Be rfl (qe rfl ?_))))))
   exact sn [(2001, 18)] h
  ·refine AS ?_
   exact sn [(2002, 2001)] h
 ·refine Ae hs (wq rfl (qm rfl (qe rfl ?_)))
  obtain rfl := sj h
  refine Ae (sm [(1000, 2002)] [(2, oD (.own 1000))] [(1000, .vec 1 (v2.map An))] rfl rfl) (Ap ?_)
  exact ⟨⟨[_], tm, rfl⟩, ⟨rfl, tv⟩⟩
theorem I4 (N : Nat) (p0 : Ac) (p1 : Ac) (r : Int) (h : Df N p0 p1 = some r) : Aq Tryz.prog 65 [.e (.agg (Ay p0)), .e (.agg (Ay p1))] [] (iD r) := by
 unfold Df at h
 refine cw (n := 30) (rs := [.tmp 4]) Tryz.func65 fun w0 S0 => ?_
 refine wq rfl (qb rfl (qb rfl (qa rfl (Aa (wp rfl (qf Ce rfl (ql AV rfl (qf Ce rfl (ql AV rfl ?_)))))))))
 refine BS h fun v1 a1 h => Ar [] (F8 N p0.fd p1.fd v1 a1) UK rfl (qa rfl (Aa (wq rfl (qm rfl (BB rfl (Aa ?_))))))
 refine Bc h (fun h => ?_) fun h => ?_
 ·refine wq rfl (qm rfl (qe rfl ?_))
  obtain rfl := sj h
  refine Ae (sm [] [(4, iD v1)] [] rfl rfl) (Ap ?_)
  exact ⟨⟨[_], tm, rfl⟩, tv⟩
 ·refine Al (wp rfl (qf Bf rfl (ql AV rfl (qf Bf rfl (ql AV rfl ?_)))))
  refine BS h fun v3 a3 h => Ar [] (F8 N p0.fa p1.fa v3 a3) UK rfl (qa rfl (Aa (wq rfl (qm rfl (BB rfl (Aa ?_))))))
  refine Bc h (fun h => ?_) fun h => ?_
  ·refine wq rfl (qm rfl (qe rfl ?_))
   obtain rfl := sj h
   refine Ae (sm [] [(4, iD v3)] [] rfl rfl) (Ap ?_)
   exact ⟨⟨[_], tm, rfl⟩, tv⟩
  ·refine Al (wq rfl (qf BZ rfl (ql Ge rfl ?_)))
   refine BS h fun v5 a5 h => Ar [2001] (GS N p0.fc v5 a5) V0 rfl (qf BZ rfl (ql Ge rfl ?_))
   refine BS h fun v6 a6 h => Ar [2002] (GS N p1.fc v6 a6) V0 rfl ?_
   refine BS h fun v7 a7 h => FY [] [2001, 2002] (F8 N v5 v6 v7 a7) UK Eh rfl (qa rfl (AI (by kernel_rfl) ?_))
   obtain rfl := sj h
   refine Ae (sm [] [(4, iD v7)] [] rfl rfl) (Ap ?_)
   exact ⟨⟨[_], tm, rfl⟩, tv⟩
theorem JM (N : Nat) (p0 : Ac) (p1 : Ac) (r : Bool) (h : DO N p0 p1 = some r) : Aq Tryz.prog 43 [.e (.agg (Ay p0)), .e (.agg (Ay p1))] [] (bD r) := by
 unfold DO at h
 refine cw (n := 9) (rs := [.tmp 4]) Tryz.func43 fun w0 S0 => ?_
 refine wq rfl (qb rfl (qb rfl (qa rfl (Aa (wq rfl (qL A0 AF rfl (qL A0 AF rfl ?_)))))))
 refine BS h fun v1 a1 h => Ar [] (I4 N p0 p1 v1 a1) Xy rfl (Br rfl (qe rfl ?_))
 obtain rfl := sj h
 refine Ae (sm [] [(4, bD ((v1 == 0)))] [] rfl rfl) (Ap ?_)
 exact ⟨⟨[_], tm, rfl⟩, tv⟩
theorem Ky (N : Nat) (p0 : Ab) (p1 : Ac) (p2 : List Ad) (r : (List Ad) × Int) (h : DF N p0 p1 p2 = some r) : Aq Tryz.prog 13 [.e (.agg (Ah p0)), .e (.agg (Ay p1)), pD (.sl (p2.map Ai))] [] (.tup [.one (sC (r.1.map Ai)), .one (iC r.2)]) := by
 unfold DF at h
 refine cw (n := 73) (rs := [.tmp 6, .tmp 7]) Tryz.func13 fun w0 S0 => ?_
 refine wq rfl (qb rfl (qb rfl (qa rfl (qa rfl (Aa (wp rfl (qL CL Cp rfl (qL A0 AF rfl ?_))))))))
 refine BS h fun v1 a1 h => Ar [] (FE N p0 p1 v1 a1) U2 rfl (qa rfl (Aa (wq rfl (qm rfl (BB rfl (Aa ?_))))))
 refine Bc h (fun h => ?_) fun h => ?_
 ·refine wq rfl (qm rfl (qa rfl (qe rfl ?_)))
  obtain rfl := sj h
  refine Ae ((Iy 6 _ rfl).trans (sm [] [(6, pD (.sl ((([] : List Ad)).map Ai))), (7, iD v1)] [] rfl rfl)) (Ap ?_)
  exact ⟨⟨[_, _], ⟨.tmp _ _ rfl, tm⟩, rfl⟩, tv⟩
 ·refine Al (wp rfl (qm rfl ?_))
  refine BS h fun v3 a3 h => Ar [] (Kg N p2 v3 a3) W5 rfl (qa rfl (Aa (wq rfl (qm rfl (BB rfl (Aa ?_))))))
  refine Bc h (fun h => ?_) fun h => ?_
  ·refine wq rfl (qm rfl (qa rfl (qe rfl ?_)))
   obtain rfl := sj h
   refine Ae ((Iy 6 _ rfl).trans (sm [] [(6, pD (.sl ((([] : List Ad)).map Ai))), (7, iD v3)] [] rfl rfl)) (Ap ?_)
   exact ⟨⟨[_, _], ⟨.tmp _ _ rfl, tm⟩, rfl⟩, tv⟩
  ·refine Al (wp rfl (qL CL Cp rfl (qL A0 AF rfl ?_)))
   refine BS h fun v5 a5 h => Ar [] (GC N p0 p1 v5 a5) Wy rfl (BX rfl (Aa ?_))
   refine Bc h (fun h => ?_) fun h => ?_
   ·refine wq rfl (D1 Bo Cg IV rfl (qm rfl ?_))
    refine Ey h fun c7 h => HM (f := Ai) Bo Bo Cg QR IV (fun _ => rfl) c7 rfl (qa rfl (qe rfl ?_))
    obtain rfl := sj h
    refine Ae ((A5 34 _ _ rfl rfl).trans (sm [] [(6, pD (.sl (((([] : List Ad)) ++ p2).map Ai))), (7, iD 0)] [] rfl rfl)) (Ap ?_)
    exact ⟨⟨[_, _], ⟨.tmp _ _ rfl, tm⟩, rfl⟩, tv⟩
   ·refine Al (wq rfl (qm rfl (AB Bo rfl ?_)))
    refine BS h fun v8 a8 h => Ar [2001] (Jw N ((p2.length : Int)) v8 a8) W3 rfl (qa rfl (Aa (wq rfl (qL CL Cp rfl (qL A0 AF rfl (qm rfl ?_))))))
    refine BS h fun v9 a9 h => Ar [] (GR N p0 p1 p2 v9 a9) Wm rfl (qm rfl (qx rfl (qx rfl (qz Cb rfl (qs AF rfl (qa rfl (Aa (wp rfl (qe rfl ?_)))))))))
    refine AH (L := CE N p0 p1 p2 v8 v9) h (fun v10 => mk [(2, pD (.sl (p2.map Ai))), (3, oD (.ptr 3 0)), (4, oD (.ptr 4 0)), (10, oD (.own 2002)), (11, oD (.ptr 11 0)), (13, iD v10)] [(3, .box (Ah p0)), (4, .box (Ay p1)), (11, .box (Ay v9.1)), (2002, .vec 1 (v8.map (Fj An)))]) (fun v11 => mk [] []) (fun _ _ => rfl) (sm [(2002, 2001)] _ _ rfl rfl) (fun j10 n10 v10 h => ?_) (fun v11 s h hs => ?_)
    ·unfold CE at h
     refine wp rfl (qw 2 rfl (FI JV rfl (AT rfl (Aa ?_))))
     refine Bc h (fun h => ?_) fun h => ?_
     ·refine Al (AO (AM (wq rfl (qw 3 rfl ?_))))
      refine BT h fun v13 a13 b13 h => qI JV Kr a13 (Af b13) rfl (qj AV (Af b13) rfl ?_)
      refine BS h fun v14 a14 h => Ar [2003] (I8 N p2 v13 v14 a14) WU rfl (qa rfl (Aa (wq rfl (qL CL Cp rfl (qL A0 AF rfl (qm rfl (D2 (A5 2003 _ _ rfl rfl) ?_)))))))
      refine BS h fun v15 a15 h => Ar [] (GR N p0 p1 v14 v15 a15) Wm rfl (qm rfl (qx rfl (qx rfl (qz Cb rfl (qs AF rfl (qe rfl ?_))))))
      refine AK h (fun v16 => mk [(2, pD (.sl (p2.map Ai))), (3, oD (.ptr 3 0)), (4, oD (.ptr 4 0)), (10, oD (.own 2004)), (11, oD (.ptr 11 0)), (13, iD v10), (14, pD (.sl (v14.map Ai))), (71, bD v16)] [(3, .box (Ah p0)), (4, .box (Ay p1)), (11, .box (Ay v9.1)), (2004, .vec 1 (v8.map (Fj An)))]) (fun j16 h => ?_) (fun v16 h => ?_)
      ·refine Ag Az rfl (qm rfl (BX rfl (qm rfl ?_)))
       refine Dm 66 h rfl (fun h => ?_) fun h => ?_
       ·refine qw 4 rfl (qp rfl (Aa ?_))
        exact sn [(2004, 2002)] h
       ·refine qL A0 AF rfl (qL A0 AF rfl ?_)
        refine BS h fun v18 a18 h => Ar [] (JM N v15.1 v9.1 v18 a18) Xg rfl (BX rfl (qp rfl (Aa ?_)))
        exact sn [(2004, 2002)] h
      ·refine Bc h (fun h => ?_) fun h => ?_
       ·refine wq rfl (qm rfl (qa rfl (qe rfl ?_)))
        obtain rfl := sj h
        refine Ae (sm [] [(6, pD (.sl (v14.map Ai))), (7, iD 0)] [] rfl rfl) (Ap ?_)
        exact ⟨⟨[_, _], ⟨.tmp _ _ rfl, tm⟩, rfl⟩, tv⟩
       ·refine Al (Ag Az rfl (qm rfl (Be rfl (qe rfl ?_))))
        exact sn [(2002, 2004)] h
     ·refine AS ?_
      exact sn [] h
    ·refine Ae hs (wq rfl (qa rfl (qe rfl ?_)))
     obtain rfl := sj h
     refine Ae ((Iy 6 _ rfl).trans (sm [] [(6, pD (.sl ((([] : List Ad)).map Ai))), (7, iD 15)] [] rfl rfl)) (Ap ?_)
     exact ⟨⟨[_, _], ⟨.tmp _ _ rfl, tm⟩, rfl⟩, tv⟩
theorem J3 (N : Nat) (p0 : Ab) (p1 : Ac) (p2 : List Ad) (r : Bool × Int) (h : D3 N p0 p1 p2 = some r) : Aq Tryz.prog 11 [.e (.agg (Ah p0)), .e (.agg (Ay p1)), pD (.sl (p2.map Ai))] [] (.tup [.one (.pure (.val (.bool r.1))), .one (iC r.2)]) := by
 unfold D3 at h
 refine cw (n := 26) (rs := [.tmp 6, .tmp 7]) Tryz.func11 fun w0 S0 => ?_
 refine wq rfl (qb rfl (qb rfl (qa rfl (qa rfl (Aa (wq rfl (qL CL Cp rfl (qL A0 AF rfl (qm rfl ?_)))))))))
 refine BS h fun v1 a1 h => Ar [] (Ky N p0 p1 p2 v1 a1) WZ rfl (qm rfl (qx rfl (qx rfl (qa rfl (qa rfl (Aa (wp rfl (qm rfl (Br rfl (Aa ?_))))))))))
 refine Bc h (fun h => ?_) fun h => ?_
 ·refine wq rfl (qa rfl (qe rfl ?_))
  obtain rfl := sj h
  refine Ae (sm [] [(6, bD true), (7, iD 0)] [] rfl rfl) (Ap ?_)
  exact ⟨⟨[_, _], ⟨.tmp _ _ rfl, tm⟩, rfl⟩, tv⟩
 ·refine Al (wp rfl (qL CL Cp rfl (qL A0 AF rfl ?_)))
  refine BS h fun v3 a3 h => Ar [] (FE N p0 p1 v3 a3) U2 rfl (qa rfl (Aa (wq rfl (qm rfl (BB rfl (Aa ?_))))))
  refine Bc h (fun h => ?_) fun h => ?_
  ·refine wq rfl (qm rfl (qa rfl (qe rfl ?_)))
   obtain rfl := sj h
   refine Ae (sm [] [(6, bD false), (7, iD v3)] [] rfl rfl) (Ap ?_)
   exact ⟨⟨[_, _], ⟨.tmp _ _ rfl, tm⟩, rfl⟩, tv⟩
  ·refine Al (wq rfl (qa rfl (qe rfl ?_)))
   obtain rfl := sj h
   refine Ae (sm [] [(6, bD false), (7, iD 0)] [] rfl rfl) (Ap ?_)
   exact ⟨⟨[_, _], ⟨.tmp _ _ rfl, tm⟩, rfl⟩, tv⟩
theorem Iu (N : Nat) (p0 : BF) (p1 : Bk) (p2 : List Ad) (r : Bool) (h : CU N p0 p1 p2 = some r) : Aq Tryz.prog 3 [.e (.agg (Cj p0)), .e (.agg (CP p1)), pD (.sl (p2.map Ai))] [] (bD r) := by
 unfold CU at h
 refine cw (n := 56) (rs := [.tmp 6]) Tryz.func3 fun w0 S0 => ?_
 refine wq rfl (qb rfl (qb rfl (qa rfl (Aa (wq rfl (qL XB WT rfl ?_))))))
 refine BS h fun v1 a1 h => Ar [2001, 2002, 2003, 2004] (K5 N p0 v1 a1) XZ rfl (qm rfl (qx rfl (qx rfl (qz PF rfl (qs Cp rfl (qa rfl (Aa (AO ?_))))))))
 refine AK h (fun v2 => mk [(2, pD (.sl (p2.map Ai))), (4, oD (.ptr 4 0)), (7, oD (.ptr 7 0)), (29, bD v2)] [(4, .box (CP p1)), (7, .box [.own 2005, .own 2006, .own 2007, .own 2008]), (2005, .vec 1 (v1.1.fb.map An)), (2006, .vec 1 (v1.1.fm.map An)), (2007, .vec 1 (v1.1.fo.map An)), (2008, .vec 6 (v1.1.fe.map AQ))]) (fun j2 h => ?_) (fun v2 h => ?_)
 ·refine Ag Az rfl ?_
  refine BS h fun v3 a3 h => Ar [] (Hu N v3 a3) XS rfl (BX rfl (qm rfl ?_))
  refine Dm 21 h rfl (fun h => ?_) fun h => ?_
  ·refine qw 2 rfl (qp rfl (qw 4 rfl (qp rfl (Aa ?_))))
   exact sn [(2005, 2001), (2006, 2002), (2007, 2003), (2008, 2004)] h
  ·refine qm rfl (BX rfl (qp rfl (qm rfl ?_)))
   refine Dm 25 h rfl (fun h => ?_) fun h => ?_
   ·refine qw 3 rfl (qp rfl (Aa ?_))
    exact sn [(2005, 2001), (2006, 2002), (2007, 2003), (2008, 2004)] h
   ·refine qm rfl (AB Bo rfl (EP rfl (qp rfl (Aa ?_))))
    exact sn [(2005, 2001), (2006, 2002), (2007, 2003), (2008, 2004)] h
 ·refine Bc h (fun h => ?_) fun h => ?_
  ·refine wq rfl ?_
   refine BS h fun v7 a7 h => Ar [] (Hu N v7 a7) XS rfl (qe rfl ?_)
   obtain rfl := sj h
   refine Ae (sm [] [(6, bD v7)] [] rfl rfl) (Ap ?_)
   exact ⟨⟨[_], tm, rfl⟩, tv⟩
  ·refine Al (wq rfl (qL CL Cp rfl (qL W7 Xa rfl ?_)))
   refine BS h fun v8 a8 h => FY [2009, 2010, 2011] [2005, 2006, 2007, 2008] (K3 N v1.1 p1 v8 a8) XY (IW (fun _ => rfl) (IW (fun _ => rfl) (IW (fun _ => rfl) Eh))) rfl (qz Cb rfl (qs AF rfl (Aa (wq rfl (qL CL Cp rfl (qL A0 AF rfl (qm rfl ?_)))))))
   refine BS h fun v9 a9 h => FY [] [2005, 2006, 2007, 2008, 2009, 2010, 2011] (HC N v1.1 v8 p2 v9 a9) T9 Eh rfl (qm rfl (qx rfl (qx rfl (qa rfl (qa rfl (Aa (wq rfl (qL CL Cp rfl (qL A0 AF rfl (qm rfl ?_))))))))))
   refine BS h fun v10 a10 h => FY [] [2005, 2006, 2007, 2008, 2009, 2010, 2011] (J3 N v1.1 v8 p2 v10 a10) Xp Eh rfl (qm rfl (qx rfl (qx rfl (qa rfl (qe rfl ?_)))))
   refine AK h (fun v11 => mk [(6, bD v11)] []) (fun j11 h => ?_) (fun v11 h => ?_)
   ·refine Ag Az rfl (qw 2 rfl ?_)
    refine Gl (.p rfl) rfl rfl (RK _ _ _ _ XX) rfl ?_
    refine qm rfl ?_
    refine Dm 51 h rfl (fun h => ?_) fun h => ?_
    ·refine qw 2 rfl (Br rfl (qp rfl (qe rfl ?_)))
     exact sn [] h
    ·refine qw 3 rfl (qp rfl (qe rfl ?_))
     exact sn [] h
   ·obtain rfl := sj h
    refine Ae (sm [] [(6, bD v11)] [] rfl rfl) (Ap ?_)
    exact ⟨⟨[_], tm, rfl⟩, tv⟩
end Go.Lift
