/- Lemmas for WavesPlansCardSaid, which YtncnphcfgojgmaaGreatDoorFinV9 proves. -/
import Derived.Test.YtncnphcfgojgmaaGreatDoorCode2
namespace Go.Lift
set_option maxRecDepth 10000
open Go.RowKit
open Go.Proofs
theorem Fg (N : Nat) (p0 : Aa) (r : Int) (h : BY N p0 = some r) : As Tryz.prog 46 [.e (.agg (Ah p0))] [] (iD r) := by
 unfold BY at h
 refine cw (n := 102) (rs := [.tmp 2]) Tryz.func46 fun w0 S0 => ?_
 refine wq rfl (qb rfl (qa rfl (Ad (AP ?_))))
 refine AM h (fun v1 => mk [(1, oD (.ptr 1 0)), (16, bD v1)] [(1, .box (Ah p0))]) (fun j1 h => ?_) (fun v1 h => ?_)
 ·refine Aj Az rfl (qf Bn rfl (ql A0 rfl (AG Ax rfl (E0 rfl (qm rfl ?_)))))
  refine Dp 11 h rfl (fun h => ?_) fun h => ?_
  ·refine qw 4 rfl (qp rfl (Ad ?_))
   exact sn [] h
  ·refine qf Ct rfl (ql GI rfl (AG DI rfl (E0 rfl (qp rfl (Ad ?_)))))
   exact sn [] h
 ·refine Bh h (fun h => ?_) fun h => ?_
  ·refine wq rfl (qe rfl ?_)
   obtain rfl := sj h
   refine Ae (sm [] [(2, iD 3)] [] rfl rfl) (Aq ?_)
   exact ⟨⟨[_], tm, rfl⟩, tv⟩
  ·refine Am (AP ?_)
   refine AM h (fun v4 => mk [(1, oD (.ptr 1 0)), (32, bD v4)] [(1, .box (Ah p0))]) (fun j4 h => ?_) (fun v4 h => ?_)
   ·refine Aj Az rfl (qf zFS rfl (ql A0 rfl (AG Ax rfl (qf Bn rfl (ql A0 rfl (AG Ax rfl (By rfl (qm rfl ?_))))))))
    refine Dp 24 h rfl (fun h => ?_) fun h => ?_
    ·refine qw 7 rfl (qp rfl (Ad ?_))
     exact sn [] h
    ·refine qf Hd rfl (ql A0 rfl (AG Ax rfl (qf Bn rfl (ql A0 rfl (AG Ax rfl (By rfl (qp rfl (Ad ?_))))))))
     exact sn [] h
   ·refine Bh h (fun h => ?_) fun h => ?_
    ·refine wq rfl (qe rfl ?_)
     obtain rfl := sj h
     refine Ae (sm [] [(2, iD 6)] [] rfl rfl) (Aq ?_)
     exact ⟨⟨[_], tm, rfl⟩, tv⟩
    ·refine Am (wp rfl (qe rfl ?_))
     refine AJ (L := A2 N p0) h (fun v7 => mk [(1, oD (.ptr 1 0)), (3, iD v7)] [(1, .box (Ah p0))]) (fun v8 => mk [(1, oD (.ptr 1 0))] [(1, .box (Ah p0))]) (fun _ _ => rfl) (sm [] _ _ rfl rfl) (fun j7 n7 v7 h => ?_) (fun v8 s h hs => ?_)
     ·unfold A2 at h
      refine wp rfl (qm rfl (qf Bn rfl (ql A0 rfl (AG Ax rfl (A1 rfl (Ad ?_))))))
      refine Bh h (fun h => ?_) fun h => ?_
      ·refine Am (AP (AO (wq rfl (qf Bn rfl (ql A0 rfl (qm rfl ?_))))))
       refine B3 h fun v10 a10 b10 h => qi Ax CT a10 (Ag b10) rfl (qk BV rfl (qe rfl ?_))
       refine AM h (fun v11 => mk [(1, oD (.ptr 1 0)), (3, iD v7), (84, bD v11)] [(1, .box (Ah p0))]) (fun j11 h => ?_) (fun v11 h => ?_)
       ·refine Aj Az rfl (qm rfl (A1 rfl (qm rfl ?_)))
        refine Dp 47 h rfl (fun h => ?_) fun h => ?_
        ·refine qw 2 rfl (qp rfl (qw 7 rfl (qp rfl (qw 8 rfl (qp rfl (qw 7 rfl (qp rfl (qw 8 rfl (qp rfl (Ad ?_))))))))))
         exact sn [] h
        ·refine qm rfl (E0 rfl (qp rfl (qm rfl ?_)))
         refine Dp 51 h rfl (fun h => ?_) fun h => ?_
         ·refine qw 6 rfl (qp rfl (qw 8 rfl (qp rfl (qw 7 rfl (qp rfl (qw 8 rfl (qp rfl (Ad ?_))))))))
          exact sn [] h
         ·refine qf zFS rfl (ql A0 rfl (qm rfl ?_))
          refine B3 h fun v14 a14 b14 h => qi Ax CT a14 (Ag b14) rfl (qk BV rfl (A1 rfl (qp rfl (qm rfl ?_))))
          refine Dp 59 h rfl (fun h => ?_) fun h => ?_
          ·refine qw 7 rfl (qp rfl (qw 7 rfl (qp rfl (qw 8 rfl (qp rfl (Ad ?_))))))
           exact sn [] h
          ·refine qf zFS rfl (ql A0 rfl (qm rfl ?_))
           refine B3 h fun v16 a16 b16 h => qi Ax CT a16 (Ag b16) rfl (qk BV rfl (qm rfl (D1 rfl (qp rfl (qm rfl ?_)))))
           refine Dp 68 h rfl (fun h => ?_) fun h => ?_
           ·refine qw 6 rfl (qp rfl (qw 8 rfl (qp rfl (Ad ?_))))
            exact sn [] h
           ·refine qf Hd rfl (ql A0 rfl (qm rfl ?_))
            refine B3 h fun v18 a18 b18 h => qi Ax CT a18 (Ag b18) rfl (qk BV rfl (A1 rfl (qp rfl (qm rfl ?_))))
            refine Dp 76 h rfl (fun h => ?_) fun h => ?_
            ·refine qw 7 rfl (qp rfl (Ad ?_))
             exact sn [] h
            ·refine qf Hd rfl (ql A0 rfl (qm rfl ?_))
             refine B3 h fun v20 a20 b20 h => qi Ax CT a20 (Ag b20) rfl (qk BV rfl (qm rfl (D1 rfl (qp rfl (Ad ?_)))))
             exact sn [] h
       ·refine Bh h (fun h => ?_) fun h => ?_
        ·refine wq rfl (qe rfl ?_)
         obtain rfl := sj h
         refine Ae (sm [] [(2, iD 7)] [] rfl rfl) (Aq ?_)
         exact ⟨⟨[_], tm, rfl⟩, tv⟩
        ·refine Am (Aj Az rfl (qm rfl (Bq rfl (qe rfl ?_))))
         exact sn [] h
      ·refine AY ?_
       exact sn [] h
     ·refine Ae hs (wp rfl (qe rfl ?_))
      refine AJ (L := AZ N p0) h (fun v22 => mk [(1, oD (.ptr 1 0)), (5, iD v22)] [(1, .box (Ah p0))]) (fun v23 => mk [] []) (fun _ _ => rfl) (sm [] _ _ rfl rfl) (fun j22 n22 v22 h => ?_) (fun v23 s h hs => ?_)
      ·unfold AZ at h
       refine wp rfl (qm rfl (qf Ct rfl (ql GI rfl (AG DI rfl (A1 rfl (Ad ?_))))))
       refine Bh h (fun h => ?_) fun h => ?_
       ·refine Am (AP (AO (wq rfl (qL CI Cv rfl (qf Ct rfl (ql GI rfl (qm rfl ?_)))))))
        refine B3 h fun v25 a25 b25 h => qi DI DH a25 (Ag b25) rfl (qK GB DH rfl ?_)
        refine B9 h fun v26 a26 h => Av [] (Jx N p0 v25 v26 a26) Xg rfl (qa rfl (AH (by kernel_rfl) (wq rfl (qm rfl (By rfl (Ad ?_))))))
        refine Bh h (fun h => ?_) fun h => ?_
        ·refine wq rfl (qm rfl (qe rfl ?_))
         obtain rfl := sj h
         refine Ae (sm [] [(2, iD v26)] [] rfl rfl) (Aq ?_)
         exact ⟨⟨[_], tm, rfl⟩, tv⟩
        ·refine Am (Aj Az rfl (qm rfl (Bq rfl (qe rfl ?_))))
         exact sn [] h
       ·refine AY ?_
        exact sn [] h
      ·refine Ae hs (wq rfl (qe rfl ?_))
       obtain rfl := sj h
       refine Ae (sm [] [(2, iD 0)] [] rfl rfl) (Aq ?_)
       exact ⟨⟨[_], tm, rfl⟩, tv⟩
theorem G6 (N : Nat) (p0 : Aa) (r : Ab × Int) (h : CO N p0 = some r) : As Tryz.prog 24 [.e (.agg (Ah p0))] [(1, r.1.fe.map Ao), (1, r.1.fa.map Ao), (1, r.1.fd.map B6)] (.tup [.agg [.own 0, .own 1, .own 2], .one (iC r.2)]) := by
 unfold CO at h
 refine cw (n := 68) (rs := [.cell 2 38, .tmp 3]) Tryz.func24 fun w0 S0 => ?_
 refine wq rfl (qb rfl (qz B4 rfl (qa rfl (Ad (wp rfl (qL CI Cv rfl ?_))))))
 refine B9 h fun v1 a1 h => Av [] (Fg N p0 v1 a1) V8 rfl (qa rfl (Ad (wq rfl (qm rfl (By rfl (Ad ?_))))))
 refine Bh h (fun h => ?_) fun h => ?_
 ·refine wq rfl (AR B4 E6 rfl (qm rfl (qs AE rfl (qe rfl ?_))))
  obtain rfl := sj h
  refine Ae ((Aw 2 0 2001 1 _ rfl rfl rfl rfl).trans ((Aw 2 1 2002 1 _ rfl rfl rfl rfl).trans ((Aw 2 2 2003 1 _ rfl rfl rfl rfl).trans (sm [(1000, 2001), (1001, 2002), (1002, 2003)] [(2, oD (.ptr 2 0)), (3, iD v1)] [(2, .box [.own 1000, .own 1001, .own 1002]), (1000, .vec 1 ((([] : List Int)).map Ao)), (1001, .vec 1 ((([] : List Int)).map Ao)), (1002, .vec 1 ((([] : List Int)).map B6))] rfl rfl)))) (Aq ?_)
  exact ⟨⟨[_, _], ⟨.cellN _ _ _ _ _ _ _ rfl rfl A7 AE rfl rfl (Fq rfl), tm⟩, rfl⟩, ⟨rfl, rfl, rfl, tv⟩⟩
 ·refine Am (wq rfl (qz B4 rfl (Ad (wp rfl (qe rfl ?_)))))
  refine AJ (L := BJ N p0) h (fun v3 => mk [(1, oD (.ptr 1 0)), (2, oD (.ptr 2 0)), (5, oD (.ptr 5 0)), (6, iD v3.2.2)] [(1, .box (Ah p0)), (2, .box [.pure (.nil0), .pure (.nil0), .pure (.nil0)]), (5, .box [.own 2004, .own 2005, .pure (.nil0)]), (2004, .vec 1 (v3.1.map Ao)), (2005, .vec 1 (v3.2.1.map Ao))]) (fun v4 => mk [(1, oD (.ptr 1 0)), (2, oD (.ptr 2 0)), (5, oD (.ptr 5 0))] [(1, .box (Ah p0)), (2, .box [.pure (.nil0), .pure (.nil0), .pure (.nil0)]), (5, .box [.own 2006, .own 2007, .pure (.nil0)]), (2006, .vec 1 (v4.1.map Ao)), (2007, .vec 1 (v4.2.map Ao))]) (fun _ _ => rfl) ((Aw 5 0 2008 1 _ rfl rfl rfl rfl).trans ((Aw 5 1 2009 1 _ rfl rfl rfl rfl).trans (sm [(2004, 2008), (2005, 2009)] _ _ rfl rfl))) (fun j3 n3 v3 h => ?_) (fun v4 s h hs => ?_)
  ·unfold BJ at h
   refine wp rfl (qm rfl (qf Bn rfl (ql A0 rfl (AG Ax rfl (A1 rfl (Ad ?_))))))
   refine Bh h (fun h => ?_) fun h => ?_
   ·refine Am (AP (AO (wq rfl (qf Cs rfl (ql A0 rfl (qf zFS rfl (ql A0 rfl (qm rfl ?_))))))))
    refine B3 h fun v6 a6 b6 h => qi Ax CT a6 (Ag b6) rfl (qk BV rfl (El Ax CT KG rfl ?_))
    refine E1 h fun c7 h => Ek (f := Ao) Ax Ax CT Lz KG c7 rfl (qf Cs rfl (qs RU rfl (AH (by kernel_rfl) (Aj Az rfl (qf Bo rfl (ql A0 rfl (El Ax CT KG rfl ?_)))))))
    refine E1 h fun c8 h => Ek (f := Ao) Ax Ax CT Lz KG c8 rfl (qf Bo rfl (qs RU rfl (Ad (Aj Az rfl (qm rfl (Bq rfl (qe rfl ?_)))))))
    exact sn [(2004, 30), (2005, 35)] h
   ·refine AY ?_
    exact sn [(2006, 2004), (2007, 2005)] h
  ·refine Ae hs (wp rfl (qe rfl ?_))
   refine AJ (L := A3 N p0) h (fun v9 => mk [(1, oD (.ptr 1 0)), (2, oD (.ptr 2 0)), (5, oD (.ptr 5 0)), (7, iD v9.2)] [(1, .box (Ah p0)), (2, .box [.pure (.nil0), .pure (.nil0), .pure (.nil0)]), (5, .box [.own 2010, .own 2011, .own 2012]), (2010, .vec 1 (v4.1.map Ao)), (2011, .vec 1 (v4.2.map Ao)), (2012, .vec 1 (v9.1.map B6))]) (fun v10 => mk [(2, oD (.ptr 2 0)), (5, oD (.ptr 5 0))] [(2, .box [.pure (.nil0), .pure (.nil0), .pure (.nil0)]), (5, .box [.own 2013, .own 2014, .own 2015]), (2013, .vec 1 (v4.1.map Ao)), (2014, .vec 1 (v4.2.map Ao)), (2015, .vec 1 (v10.map B6))]) (fun _ _ => rfl) ((Aw 5 2 2019 1 _ rfl rfl rfl rfl).trans (sm [(2010, 2006), (2011, 2007), (2012, 2019)] _ _ rfl rfl)) (fun j9 n9 v9 h => ?_) (fun v10 s h hs => ?_)
   ·unfold A3 at h
    refine wp rfl (qm rfl (qf Ct rfl (ql GI rfl (AG DI rfl (A1 rfl (Ad ?_))))))
    refine Bh h (fun h => ?_) fun h => ?_
    ·refine Am (AP (AO (wq rfl (qe rfl ?_))))
     refine AM h (fun v12 => mk [(1, oD (.ptr 1 0)), (2, oD (.ptr 2 0)), (5, oD (.ptr 5 0)), (7, iD v9.2), (8, pD (.val (.int .u8 v12)))] [(1, .box (Ah p0)), (2, .box [.pure (.nil0), .pure (.nil0), .pure (.nil0)]), (5, .box [.own 2016, .own 2017, .own 2018]), (2016, .vec 1 (v4.1.map Ao)), (2017, .vec 1 (v4.2.map Ao)), (2018, .vec 1 (v9.1.map B6))]) (fun j12 h => ?_) (fun v12 h => ?_)
     ·refine wq rfl (qf Ct rfl (ql GI rfl (qm rfl ?_)))
      refine B3 h fun v13 a13 b13 h => qi DI DH a13 (Ag b13) rfl (qK GB DH rfl ?_)
      refine B9 h fun v14 a14 h => Av [] (BT N v13 v14 a14) On rfl (Ad ?_)
      refine Bh h (fun h => ?_) fun h => ?_
      ·refine Aj Az rfl (qf zFS rfl (ql A0 rfl (qf Ct rfl (ql GI rfl (qm rfl ?_)))))
       refine B3 h fun v16 a16 b16 h => qi DI DH a16 (Ag b16) rfl (qg Cy rfl (qk BV rfl ?_))
       refine B3 h fun v17 a17 b17 h => qi Ax CT a17 (Ag b17) rfl (qk BV rfl ?_)
       refine E1 h fun c18 h => HU rfl c18 (qa rfl (AH (by kernel_rfl) ?_))
       exact sn [(2016, 2010), (2017, 2011), (2018, 2012)] h
      ·refine Am ?_
       exact sn [(2016, 2010), (2017, 2011), (2018, 2012)] h
     ·refine Aj Az rfl (qf Ck rfl (ql Gv rfl (qm rfl (El CK E5 NQ rfl ?_))))
      refine E1 h fun c19 h => Ek (f := B6) CK CK E5 Ps NQ c19 rfl (qf Ck rfl (qs WI rfl (Ad (Aj Az rfl (qm rfl (Bq rfl (qe rfl ?_)))))))
      exact sn [(2010, 2016), (2011, 2017), (2012, 65)] h
    ·refine AY ?_
     exact sn [(2013, 2010), (2014, 2011), (2015, 2012)] h
   ·refine Ae hs (wq rfl (qL A7 AE rfl (qs AE rfl (qe rfl ?_))))
    obtain rfl := sj h
    refine Ae (sm [(1000, 2013), (1001, 2014), (1002, 2015)] [(2, oD (.ptr 2 0)), (3, iD 0)] [(2, .box [.own 1000, .own 1001, .own 1002]), (1000, .vec 1 (v4.1.map Ao)), (1001, .vec 1 (v4.2.map Ao)), (1002, .vec 1 (v10.map B6))] rfl rfl) (Aq ?_)
    exact ⟨⟨[_, _], ⟨.cellN _ _ _ _ _ _ _ rfl rfl A7 AE rfl rfl (Fq rfl), tm⟩, rfl⟩, ⟨rfl, rfl, rfl, tv⟩⟩
theorem JL (N : Nat) (p0 : Aa) (p1 : List (List Ac)) (r : (List Ab) × Int) (h : Gr N p0 p1 = some r) : As Tryz.prog 25 [.e (.agg (Ah p0)), pD (.sl (p1.map (GF Ai)))] [(3, r.1.map B5)] (.tup [.one (.own 0), .one (iC r.2)]) := by
 unfold Gr at h
 refine cw (n := 61) (rs := [.tmp 4, .tmp 5]) Tryz.func25 fun w0 S0 => ?_
 refine wq rfl (qb rfl (qa rfl (qa rfl (Ad (wp rfl (qL CI Cv rfl ?_))))))
 refine B9 h fun v1 a1 h => Av [] (Fc N p0 v1 a1) Vd rfl (qa rfl (Ad (wq rfl (qm rfl (By rfl (Ad ?_))))))
 refine Bh h (fun h => ?_) fun h => ?_
 ·refine wq rfl (qm rfl (qa rfl (qe rfl ?_)))
  obtain rfl := sj h
  refine Ae ((Ca 4 2001 3 rfl rfl rfl).trans (sm [(1000, 2001)] [(4, oD (.own 1000)), (5, iD v1)] [(1000, .vec 3 ((([] : List Ab)).map B5))] rfl rfl)) (Aq ?_)
  exact ⟨⟨[_, _], ⟨.tmp _ _ rfl, tm⟩, rfl⟩, ⟨rfl, tv⟩⟩
 ·refine Am (wq rfl (qL CI Cv rfl ?_))
  refine B9 h fun v3 a3 h => Av [2002, 2003, 2004] (Jh N p0 v3 a3) UW rfl (qm rfl (qx rfl (qx rfl (qz B4 rfl (qs AE rfl (qa rfl (Ad (wp rfl (qm rfl (By rfl (Ad ?_)))))))))))
  refine Bh h (fun h => ?_) fun h => ?_
  ·refine wq rfl (qm rfl (qa rfl (qe rfl ?_)))
   obtain rfl := sj h
   refine Ae ((Ca 4 2005 3 rfl rfl rfl).trans (sm [(1000, 2005)] [(4, oD (.own 1000)), (5, iD v3.2)] [(1000, .vec 3 ((([] : List Ab)).map B5))] rfl rfl)) (Aq ?_)
   exact ⟨⟨[_, _], ⟨.tmp _ _ rfl, tm⟩, rfl⟩, ⟨rfl, tv⟩⟩
  ·refine Am (wq rfl (qL A7 AE rfl (DA (AW 2002 _ _ rfl rfl) (DA (AW 2003 _ _ rfl rfl) (DA (AW 2004 _ _ rfl rfl) (El Ge AE B4 rfl (qa rfl (Ad (wp rfl (qm rfl (AG Hp rfl (qm rfl (Ad ?_)))))))))))))
   refine AJ (L := E3 N p0 p1) h (fun v5 => mk [(2, oD (.ptr 2 0)), (7, oD (.ptr 7 0)), (9, oD (.own 2006)), (29, pD (.sl (p1.map (GF Ai)))), (30, iD ((p1.length : Int))), (31, iD v5.2.2)] [(2, .box (Ah p0)), (7, .box (Ay v5.1)), (2006, .vec 3 (v5.2.1.map B5))]) (fun v6 => mk [(9, oD (.own 2007))] [(2007, .vec 3 (v6.map B5))]) (fun _ _ => rfl) (sm [(2006, 28)] _ _ rfl rfl) (fun j5 n5 v5 h => ?_) (fun v6 s h hs => ?_)
   ·unfold E3 at h
    refine wq rfl (A1 rfl (Ad (AP ?_)))
    refine Bh h (fun h => ?_) fun h => ?_
    ·refine Am (AP (AO (wq rfl ?_)))
     refine B3 h fun v8 a8 b8 h => qi Hp NS a8 (Ag b8) rfl (qk P6 rfl (qa rfl (Ad (wp rfl (qL CI Cv rfl (qL A7 AE rfl (qm rfl ?_)))))))
     refine B9 h fun v9 a9 h => Av [] (Iz N p0 v5.1 v8 v9 a9) Vf rfl (qm rfl (qx rfl (qx rfl (qa rfl (qe rfl ?_)))))
     refine AM h (fun v10 => mk [(2, oD (.ptr 2 0)), (7, oD (.ptr 7 0)), (9, oD (.own 2008)), (11, pD (.sl (v8.map Ai))), (29, pD (.sl (p1.map (GF Ai)))), (30, iD ((p1.length : Int))), (31, iD v5.2.2), (47, bD v10)] [(2, .box (Ah p0)), (7, .box (Ay v5.1)), (2008, .vec 3 (v5.2.1.map B5))]) (fun j10 h => ?_) (fun v10 h => ?_)
     ·refine Aj Az rfl (qm rfl (By rfl (qm rfl ?_)))
      refine Dp 44 h rfl (fun h => ?_) fun h => ?_
      ·refine qw 2 rfl (qp rfl (Ad ?_))
       exact sn [(2008, 2006)] h
      ·refine qm rfl (Cd rfl (qp rfl (Ad ?_)))
       exact sn [(2008, 2006)] h
     ·refine Bh h (fun h => ?_) fun h => ?_
      ·refine wq rfl (qa rfl (qe rfl ?_))
       obtain rfl := sj h
       refine Ae ((Ca 4 2009 3 rfl rfl rfl).trans (sm [(1000, 2009)] [(4, oD (.own 1000)), (5, iD 13)] [(1000, .vec 3 ((([] : List Ab)).map B5))] rfl rfl)) (Aq ?_)
       exact ⟨⟨[_, _], ⟨.tmp _ _ rfl, tm⟩, rfl⟩, ⟨rfl, tv⟩⟩
      ·refine Am (wq rfl (qL CI Cv rfl (qL A7 AE rfl (qm rfl ?_))))
       refine B9 h fun v13 a13 h => Av [] (FV N p0 v5.1 v8 v13 a13) TT rfl (qm rfl (qx rfl (qx rfl (qs AE rfl (Ad (Aj Az rfl (qm rfl (qL A7 AE rfl (El Ge AE B4 rfl ?_)))))))))
       refine E1 h fun c14 h => Ek (f := B5) Ge Ge AE RH B4 c14 rfl (qa rfl (Ad (Aj Az rfl (Bq rfl (qm rfl (Ad ?_))))))
       exact sn [(2006, 58)] h
    ·refine AY ?_
     exact sn [(2007, 2006)] h
   ·refine Ae hs (wq rfl (qm rfl (qa rfl (qe rfl ?_))))
    obtain rfl := sj h
    refine Ae (sm [(1000, 2007)] [(4, oD (.own 1000)), (5, iD 0)] [(1000, .vec 3 (v6.map B5))] rfl rfl) (Aq ?_)
    exact ⟨⟨[_, _], ⟨.tmp _ _ rfl, tm⟩, rfl⟩, ⟨rfl, tv⟩⟩
theorem Hu (N : Nat) (p0 : List Ac) (p1 : List Ac) (r : Bool) (h : Em N p0 p1 = some r) : As Tryz.prog 14 [pD (.sl (p0.map Ai)), pD (.sl (p1.map Ai))] [] (bD r) := by
 unfold Em at h
 refine cw (n := 26) (rs := [.tmp 4]) Tryz.func14 fun w0 S0 => ?_
 refine wq rfl (qa rfl (Ad (wp rfl (qm rfl (AG Bk rfl (qm rfl (AG Bk rfl (By rfl (Ad ?_)))))))))
 refine Bh h (fun h => ?_) fun h => ?_
 ·refine wq rfl (qe rfl ?_)
  obtain rfl := sj h
  refine Ae (sm [] [(4, bD false)] [] rfl rfl) (Aq ?_)
  exact ⟨⟨[_], tm, rfl⟩, tv⟩
 ·refine Am (wp rfl (qe rfl ?_))
  refine AJ (L := DS N p0 p1) h (fun v2 => mk [(0, pD (.sl (p0.map Ai))), (1, pD (.sl (p1.map Ai))), (5, iD v2)] []) (fun v3 => mk [] []) (fun _ _ => rfl) (sm [] _ _ rfl rfl) (fun j2 n2 v2 h => ?_) (fun v3 s h hs => ?_)
  ·unfold DS at h
   refine wp rfl (qw 2 rfl (AG Bk rfl (A1 rfl (Ad ?_))))
   refine Bh h (fun h => ?_) fun h => ?_
   ·refine Am (AP (AO (wq rfl (qw 2 rfl ?_))))
    refine B3 h fun v5 a5 b5 h => qi Bk Cr a5 (Ag b5) rfl (qK Gw Cr rfl (qw 2 rfl ?_))
    refine B3 h fun v6 a6 b6 h => qi Bk Cr a6 (Ag b6) rfl (qK Gw Cr rfl ?_)
    refine VO [.int .i64 v5.ff, .int .i64 v5.fh, .int .i64 v5.fj] [.int .i64 v6.ff, .int .i64 v6.fh, .int .i64 v6.fj] (.p rfl) rfl rfl Ut rfl ?_
    refine AH (by kernel_rfl) ?_
    refine Bh h (fun h => ?_) fun h => ?_
    ·refine wq rfl (qe rfl ?_)
     obtain rfl := sj h
     refine Ae (sm [] [(4, bD false)] [] rfl rfl) (Aq ?_)
     exact ⟨⟨[_], tm, rfl⟩, tv⟩
    ·refine Am (Aj Az rfl (qm rfl (Bq rfl (qe rfl ?_))))
     exact sn [] h
   ·refine AY ?_
    exact sn [] h
  ·refine Ae hs (wq rfl (qe rfl ?_))
   obtain rfl := sj h
   refine Ae (sm [] [(4, bD true)] [] rfl rfl) (Aq ?_)
   exact ⟨⟨[_], tm, rfl⟩, tv⟩
theorem JT (N : Nat) (p0 : List (List Ac)) (p1 : List (List Ac)) (r : Bool) (h : Fz N p0 p1 = some r) : As Tryz.prog 17 [pD (.sl (p0.map (GF Ai))), pD (.sl (p1.map (GF Ai)))] [] (bD r) := by
 unfold Fz at h
 refine cw (n := 27) (rs := [.tmp 4]) Tryz.func17 fun w0 S0 => ?_
 refine wq rfl (qa rfl (Ad (wp rfl (qm rfl (AG Hp rfl (qm rfl (AG Hp rfl (By rfl (Ad ?_)))))))))
 refine Bh h (fun h => ?_) fun h => ?_
 ·refine wq rfl (qe rfl ?_)
  obtain rfl := sj h
  refine Ae (sm [] [(4, bD false)] [] rfl rfl) (Aq ?_)
  exact ⟨⟨[_], tm, rfl⟩, tv⟩
 ·refine Am (wp rfl (qe rfl ?_))
  refine AJ (L := DU N p0 p1) h (fun v2 => mk [(0, pD (.sl (p0.map (GF Ai)))), (1, pD (.sl (p1.map (GF Ai)))), (5, iD v2)] []) (fun v3 => mk [] []) (fun _ _ => rfl) (sm [] _ _ rfl rfl) (fun j2 n2 v2 h => ?_) (fun v3 s h hs => ?_)
  ·unfold DU at h
   refine wp rfl (qw 2 rfl (AG Hp rfl (A1 rfl (Ad ?_))))
   refine Bh h (fun h => ?_) fun h => ?_
   ·refine Am (AP (AO (wq rfl (qw 2 rfl ?_))))
    refine B3 h fun v5 a5 b5 h => qi Hp NS a5 (Ag b5) rfl (qk P6 rfl (qw 2 rfl ?_))
    refine B3 h fun v6 a6 b6 h => qi Hp NS a6 (Ag b6) rfl (qk P6 rfl ?_)
    refine B9 h fun v7 a7 h => Av [] (Hu N v5 v6 v7 a7) V5 rfl (Cd rfl (AH (by kernel_rfl) ?_))
    refine Bh h (fun h => ?_) fun h => ?_
    ·refine wq rfl (qe rfl ?_)
     obtain rfl := sj h
     refine Ae (sm [] [(4, bD false)] [] rfl rfl) (Aq ?_)
     exact ⟨⟨[_], tm, rfl⟩, tv⟩
    ·refine Am (Aj Az rfl (qm rfl (Bq rfl (qe rfl ?_))))
     exact sn [] h
   ·refine AY ?_
    exact sn [] h
  ·refine Ae hs (wq rfl (qe rfl ?_))
   obtain rfl := sj h
   refine Ae (sm [] [(4, bD true)] [] rfl rfl) (Aq ?_)
   exact ⟨⟨[_], tm, rfl⟩, tv⟩
theorem MN (N : Nat) (p0 : Aa) (p1 : List (List Ac)) (r : Bool) (h : Hz N p0 p1 = some r) : As Tryz.prog 18 [.e (.agg (Ah p0)), pD (.sl (p1.map (GF Ai)))] [] (bD r) := by
 unfold Hz at h
 refine cw (n := 40) (rs := [.tmp 4]) Tryz.func18 fun w0 S0 => ?_
 refine wq rfl (qb rfl (qa rfl (Ad (wq rfl (qL CI Cv rfl (qm rfl ?_))))))
 refine B9 h fun v1 a1 h => Av [2001] (JL N p0 p1 v1 a1) VN rfl (qm rfl (qx rfl (qx rfl (qa rfl (qa rfl (Ad (wp rfl (qm rfl (By rfl (Ad ?_))))))))))
 refine Bh h (fun h => ?_) fun h => ?_
 ·refine wq rfl (qe rfl ?_)
  obtain rfl := sj h
  refine Ae (sm [] [(4, bD false)] [] rfl rfl) (Aq ?_)
  exact ⟨⟨[_], tm, rfl⟩, tv⟩
 ·refine Am (wq rfl (qL CI Cv rfl (qm rfl ?_)))
  refine B3 h fun v3 a3 b3 h => qI Ge AE a3 (Ag b3) rfl (qJ A7 AE (Ag b3) rfl ?_)
  refine B9 h fun v4 a4 h => Av [] (Is N p0 v3 v4 a4) U4 rfl (qm rfl (qx rfl (qx rfl (qa rfl (qa rfl (AH (by kernel_rfl) ?_))))))
  refine AM h (fun v5 => mk [(4, bD v5)] []) (fun j5 h => ?_) (fun v5 h => ?_)
  ·refine Aj Az rfl (qm rfl (Bv rfl (qm rfl ?_)))
   refine Dp 27 h rfl (fun h => ?_) fun h => ?_
   ·refine qm rfl (qp rfl (qm rfl ?_))
    refine Dp 30 h rfl (fun h => ?_) fun h => ?_
    ·refine qL CI Cv rfl (qw 2 rfl (E9 Ge rfl (PI rfl ?_)))
     refine B3 h fun v8 a8 b8 h => qI Ge AE a8 (Ag b8) rfl (qJ A7 AE (Ag b8) rfl ?_)
     refine B9 h fun v9 a9 h => Av [] (LY N p0 v8 v9 a9) V4 rfl (qp rfl (qa rfl (AH (by kernel_rfl) ?_)))
     exact sn [] h
    ·refine qw 8 rfl (qp rfl (qa rfl (AH (by kernel_rfl) ?_)))
     exact sn [] h
   ·refine qn rfl (qp rfl (qw 9 rfl (qp rfl (qa rfl (AH (by kernel_rfl) ?_)))))
    exact sn [] h
  ·obtain rfl := sj h
   refine Ae (sm [] [(4, bD v5)] [] rfl rfl) (Aq ?_)
   exact ⟨⟨[_], tm, rfl⟩, tv⟩
theorem L0 (N : Nat) (p0 : List (List Ac)) (r : Int) (h : GW N p0 = some r) : As Tryz.prog 26 [pD (.sl (p0.map (GF Ai)))] [] (iD r) := by
 unfold GW at h
 refine cw (n := 27) (rs := [.tmp 2]) Tryz.func26 fun w0 S0 => ?_
 refine wq rfl (qa rfl (Ad (wq rfl (qa rfl (Ad (wp rfl (qm rfl (AG Hp rfl (qm rfl (Ad ?_))))))))))
 refine AJ (L := EE N p0) h (fun v1 => mk [(3, iD v1.1), (7, pD (.sl (p0.map (GF Ai)))), (8, iD ((p0.length : Int))), (9, iD v1.2)] []) (fun v2 => mk [(3, iD v2)] []) (fun _ _ => rfl) (sm [] _ _ rfl rfl) (fun j1 n1 v1 h => ?_) (fun v2 s h hs => ?_)
 ·unfold EE at h
  refine wq rfl (A1 rfl (Ad (AP ?_)))
  refine Bh h (fun h => ?_) fun h => ?_
  ·refine Am (AP (AO (wq rfl ?_)))
   refine B3 h fun v4 a4 b4 h => qi Hp NS a4 (Ag b4) rfl (qk P6 rfl (qa rfl (Ad (wq rfl (qm rfl (AG Bk rfl (qm rfl (Ad ?_))))))))
   refine AJ (L := EJ N v4) h (fun v5 => mk [(3, iD v5.1), (7, pD (.sl (p0.map (GF Ai)))), (8, iD ((p0.length : Int))), (9, iD v1.2), (14, iD ((v4.length : Int))), (15, iD v5.2)] []) (fun v6 => mk [(3, iD v6), (7, pD (.sl (p0.map (GF Ai)))), (8, iD ((p0.length : Int))), (9, iD v1.2)] []) (fun _ _ => rfl) (sm [] _ _ rfl rfl) (fun j5 n5 v5 h => ?_) (fun v6 s h hs => ?_)
   ·unfold EJ at h
    refine wq rfl (A1 rfl (Ad (AP ?_)))
    refine Bh h (fun h => ?_) fun h => ?_
    ·refine Am (AP (AO (wq rfl (qm rfl (qa rfl (Ad (Aj Az rfl (qw 2 rfl (Bq rfl ?_)))))))))
     refine QE (.p rfl) rfl rfl ?_
     refine Ki rfl ?_
     refine QE (.p rfl) rfl rfl ?_
     refine qa rfl (Ad (Aj Az rfl (Bq rfl (qm rfl (Ad ?_)))))
     exact sn [] h
    ·refine AY ?_
     exact sn [] h
   ·refine Ae hs (Aj Az rfl (Bq rfl (qm rfl (Ad ?_))))
    exact sn [] h
  ·refine AY ?_
   exact sn [] h
 ·refine Ae hs (wq rfl (qm rfl (qe rfl ?_)))
  obtain rfl := sj h
  refine Ae (sm [] [(2, iD v2)] [] rfl rfl) (Aq ?_)
  exact ⟨⟨[_], tm, rfl⟩, tv⟩
theorem G8 (N : Nat) (r : Bool) (h : DD N = some r) : As Tryz.prog 8 [] [] (bD r) := by
 unfold DD at h
 refine cw (n := 107) (rs := [.tmp 0]) Tryz.func8 fun w0 S0 => ?_
 refine wq rfl (qa rfl (Ad (wq rfl ?_)))
 refine B9 h fun v1 a1 h => Av [2001, 2002, 2003, 2004] (IU N v1 a1) Xd rfl (qm rfl (qx rfl (qx rfl (qz ON rfl (qs Cv rfl (qa rfl (Ad (wq rfl (qL CI Cv rfl (qm rfl (DA (AW 2001 _ _ rfl rfl) (DA (AW 2002 _ _ rfl rfl) (DA (AW 2003 _ _ rfl rfl) (DA (AW 2004 _ _ rfl rfl) ?_))))))))))))))
 refine B9 h fun v2 a2 h => Av [2005] (Ma N v1.1 v1.2 v2 a2) Vt rfl (qm rfl (qx rfl (qx rfl (qa rfl (qa rfl (Ad (wq rfl (qL CI Cv rfl ?_))))))))
 refine B9 h fun v3 a3 h => Av [2006, 2007, 2008] (G6 N v1.1 v3 a3) VS rfl (qm rfl (qx rfl (qx rfl (qz B4 rfl (qs AE rfl (qa rfl (Ad (wq rfl (qL CI Cv rfl (qL A7 AE rfl (qm rfl (DA (AW 2006 _ _ rfl rfl) (DA (AW 2007 _ _ rfl rfl) (DA (AW 2008 _ _ rfl rfl) ?_))))))))))))))
 refine B9 h fun v4 a4 h => Av [] (Le N v1.1 v3.1 v1.2 v4 a4) V6 rfl (qm rfl (qx rfl (qx rfl (qa rfl (qa rfl (Ad (wq rfl (qL CI Cv rfl (qL A7 AE rfl (qm rfl ?_))))))))))
 refine E1 h fun c5 h => H0 (.p rfl) rfl Bk Cr (FI (f := Ai) (n := 3) (fun _ => rfl) _) (.none _) (.some _ _ _ _ c5.1) tv ⟨rfl, tv⟩ (by have := c5.2.1; (try simp only [List.length_map]); omega) (by have := c5.2.2; (try simp only [List.length_map]); omega) (GO Ai v1.2 _ _ ((2 : Int).toNat - 0) rfl) ?_
 refine B9 h fun v6 a6 h => Av [] (Iz N v1.1 v3.1 (((v1.2.drop 0).take ((2 : Int).toNat - 0))) v6 a6) Vf rfl (qm rfl (qx rfl (qx rfl (qa rfl (qa rfl (AH (by kernel_rfl) (wq rfl (qL CI Cv rfl (qm rfl (DA (AW 2005 _ _ rfl rfl) ?_))))))))))
 refine B9 h fun v7 a7 h => Av [2009] (JL N v1.1 v2.1 v7 a7) VN rfl (qm rfl (qx rfl (qx rfl (qa rfl (qe rfl ?_)))))
 refine AM h (fun v8 => mk [(0, bD v8)] []) (fun j8 h => ?_) (fun v8 h => ?_)
 ·refine Aj Az rfl (qm rfl (Bv rfl (qm rfl ?_)))
  refine Dp 51 h rfl (fun h => ?_) fun h => ?_
  ·refine qw 2 rfl ?_
   refine E1 h fun c10 h => H0 (.g rfl rfl) rfl Bk Cr (FI (f := Ai) (n := 3) (fun _ => rfl) _) (.none _) (.some _ _ _ _ c10.1) tv ⟨rfl, tv⟩ (by have := c10.2.1; (try simp only [List.length_map]); omega) (by have := c10.2.2; (try simp only [List.length_map]); omega) (GO Ai v1.2 _ _ ((2 : Int).toNat - 0) rfl) ?_
   refine qm rfl ?_
   refine E1 h fun c11 h => H0 (.g rfl rfl) rfl Bk Cr (FI (f := Ai) (n := 3) (fun _ => rfl) _) (.some _ _ _ _ c11.1) (.none _) ⟨rfl, tv⟩ tv (by have := c11.2.1; (try simp only [List.length_map]); omega) (by have := c11.2.2; (try simp only [List.length_map]); omega) (GO Ai v1.2 _ _ (v1.2.length - (2 : Int).toNat) (by rw [List.length_map])) ?_
   refine El Hp NS Td rfl ?_
   refine B9 h fun v12 a12 h => Ip [] [57] (JT N v2.1 (([((v1.2.drop 0).take ((2 : Int).toNat - 0)), ((v1.2.drop (2 : Int).toNat).take (v1.2.length - (2 : Int).toNat))] : List (List Ac))) v12 a12) Xn GC rfl (qp rfl (qm rfl ?_))
   refine Dp 60 h rfl (fun h => ?_) fun h => ?_
   ·refine qm rfl (Bv rfl (qp rfl (qm rfl ?_)))
    refine Dp 64 h rfl (fun h => ?_) fun h => ?_
    ·refine qw 2 rfl ?_
     refine B3 h fun v15 a15 b15 h => qi Bk Cr a15 (Ag b15) rfl (qK Gw Cr rfl (qm rfl ?_))
     refine B3 h fun v16 a16 b16 h => qi Bk Cr a16 (Ag b16) rfl (qK Gw Cr rfl (qm rfl ?_))
     refine B3 h fun v17 a17 b17 h => qi Bk Cr a17 (Ag b17) rfl (qK Gw Cr rfl (qm rfl ?_))
     refine B3 h fun v18 a18 b18 h => qi Bk Cr a18 (Ag b18) rfl (qK Gw Cr rfl (El Bk Cr Ix rfl ?_))
     refine B9 h fun v19 a19 h => Ip [] [78] (Hu N v4.1 (([v15, v16, v17, v18] : List Ac)) v19 a19) V5 GC rfl (qp rfl (qm rfl ?_))
     refine Dp 81 h rfl (fun h => ?_) fun h => ?_
     ·refine qm rfl (qp rfl (qm rfl ?_))
      refine Dp 84 h rfl (fun h => ?_) fun h => ?_
      ·refine qm rfl (Bv rfl (qp rfl (qm rfl ?_)))
       refine Dp 88 h rfl (fun h => ?_) fun h => ?_
       ·refine qm rfl (Bv rfl (qp rfl (qm rfl ?_)))
        refine Dp 92 h rfl (fun h => ?_) fun h => ?_
        ·refine qm rfl (E9 Ge rfl (Bv rfl (qp rfl (qm rfl ?_))))
         refine Dp 97 h rfl (fun h => ?_) fun h => ?_
         ·refine qL CI Cv rfl (qm rfl ?_)
          refine B9 h fun v25 a25 h => Av [] (MN N v1.1 v2.1 v25 a25) Xc rfl (qp rfl (qm rfl ?_))
          refine Dp 102 h rfl (fun h => ?_) fun h => ?_
          ·refine qm rfl ?_
           refine B9 h fun v27 a27 h => Av [] (L0 N v2.1 v27 a27) WM rfl (Bv rfl (qp rfl (qa rfl (AH (by kernel_rfl) ?_))))
           exact sn [] h
          ·refine qw 3 rfl (qp rfl (qa rfl (AH (by kernel_rfl) ?_)))
           exact sn [] h
         ·refine qw 3 rfl (qp rfl (qw 4 rfl (qp rfl (qa rfl (AH (by kernel_rfl) ?_)))))
          exact sn [] h
        ·refine qw 3 rfl (qp rfl (qw 4 rfl (qp rfl (qw 4 rfl (qp rfl (qa rfl (AH (by kernel_rfl) ?_)))))))
         exact sn [] h
       ·refine qw 2 rfl (qp rfl (qw 4 rfl (qp rfl (qw 4 rfl (qp rfl (qw 4 rfl (qp rfl (qa rfl (AH (by kernel_rfl) ?_)))))))))
        exact sn [] h
      ·refine qw 2 rfl (qp rfl (qw 3 rfl (qp rfl (qw 4 rfl (qp rfl (qw 4 rfl (qp rfl (qw 4 rfl (qp rfl (qa rfl (AH (by kernel_rfl) ?_)))))))))))
       exact sn [] h
     ·refine qn rfl (qp rfl (qw 3 rfl (qp rfl (qw 3 rfl (qp rfl (qw 4 rfl (qp rfl (qw 4 rfl (qp rfl (qw 4 rfl (qp rfl (qa rfl (AH (by kernel_rfl) ?_)))))))))))))
      exact sn [] h
    ·refine qw 15 rfl (qp rfl (qw 2 rfl (qp rfl (qw 3 rfl (qp rfl (qw 3 rfl (qp rfl (qw 4 rfl (qp rfl (qw 4 rfl (qp rfl (qw 3 rfl ?_))))))))))))
     refine qn rfl (qp rfl (qa rfl (AH (by kernel_rfl) ?_)))
     exact sn [] h
   ·refine qw 2 rfl (qp rfl (qw 16 rfl (qp rfl (qw 2 rfl (qp rfl (qw 3 rfl (qp rfl (qw 3 rfl (qp rfl (qw 4 rfl (qp rfl (qw 4 rfl ?_))))))))))))
    refine qp rfl (qw 4 rfl (qp rfl (qa rfl (AH (by kernel_rfl) ?_))))
    exact sn [] h
  ·refine qw 7 rfl (qp rfl (qw 3 rfl (qp rfl (qw 16 rfl (qp rfl (qw 2 rfl (qp rfl (qw 3 rfl (qp rfl (qw 3 rfl (qp rfl ?_)))))))))))
   refine qw 4 rfl (qp rfl (qw 4 rfl (qp rfl (qw 4 rfl (qp rfl (qa rfl (AH (by kernel_rfl) ?_)))))))
   exact sn [] h
 ·obtain rfl := sj h
  refine Ae (sm [] [(0, bD v8)] [] rfl rfl) (Aq ?_)
  exact ⟨⟨[_], tm, rfl⟩, tv⟩
theorem Dk (N : Nat) (p0 : Ab) (p1 : Int) (r : Int) (h : BA N p0 p1 = some r) : As Tryz.prog 28 [.e (.agg (Ay p0)), iD p1] [] (pD (.val (.int .u8 r))) := by
 unfold BA at h
 refine cw (n := 27) (rs := [.tmp 4]) Tryz.func28 fun w0 S0 => ?_
 refine wq rfl (qb rfl (qa rfl (Ad (wq rfl (qf Cs rfl (ql A0 rfl (qm rfl ?_)))))))
 refine B3 h fun v1 a1 b1 h => qi Ax CT a1 (Ag b1) rfl (qk BV rfl ?_)
 refine E1 h fun c2 h => HU rfl c2 (qe rfl ?_)
 refine AM h (fun v3 => mk [(5, pD (.val (.int .u8 v3)))] []) (fun j3 h => ?_) (fun v3 h => ?_)
 ·refine wq rfl (qf Bo rfl (ql A0 rfl (qm rfl ?_)))
  refine B3 h fun v4 a4 b4 h => qi Ax CT a4 (Ag b4) rfl (qk BV rfl (D1 rfl (Ad ?_)))
  refine Bh h (fun h => ?_) fun h => ?_
  ·refine Aj Az rfl (qm rfl (qf Bo rfl (ql A0 rfl (qm rfl ?_))))
   refine B3 h fun v6 a6 b6 h => qi Ax CT a6 (Ag b6) rfl (qk BV rfl ?_)
   refine E1 h fun c7 h => HU rfl c7 (RV rfl (qe rfl ?_))
   exact sn [] h
  ·refine Am ?_
   exact sn [] h
 ·refine wq rfl (qm rfl (qe rfl ?_))
  obtain rfl := sj h
  refine Ae (sm [] [(4, pD (.val (.int .u8 v3)))] [] rfl rfl) (Aq ?_)
  exact ⟨⟨[_], tm, rfl⟩, tv⟩
theorem Fv (N : Nat) (p0 : Aa) (p1 : Ab) (r : Int) (h : Cw N p0 p1 = some r) : As Tryz.prog 30 [.e (.agg (Ah p0)), .e (.agg (Ay p1))] [] (iD r) := by
 unfold Cw at h
 refine cw (n := 154) (rs := [.tmp 4]) Tryz.func30 fun w0 S0 => ?_
 refine wq rfl (qb rfl (qb rfl (qa rfl (Ad (wp rfl (qL CI Cv rfl ?_))))))
 refine B9 h fun v1 a1 h => Av [] (Fg N p0 v1 a1) V8 rfl (qa rfl (Ad (wq rfl (qm rfl (By rfl (Ad ?_))))))
 refine Bh h (fun h => ?_) fun h => ?_
 ·refine wq rfl (qm rfl (qe rfl ?_))
  obtain rfl := sj h
  refine Ae (sm [] [(4, iD v1)] [] rfl rfl) (Aq ?_)
  exact ⟨⟨[_], tm, rfl⟩, tv⟩
 ·refine Am (wq rfl (qf Bn rfl (ql A0 rfl (AG Ax rfl (qa rfl (Ad (AP ?_)))))))
  refine AM h (fun v3 => mk [(2, oD (.ptr 2 0)), (3, oD (.ptr 3 0)), (6, iD ((p0.fb.length : Int))), (39, bD v3)] [(2, .box (Ah p0)), (3, .box (Ay p1))]) (fun j3 h => ?_) (fun v3 h => ?_)
  ·refine Aj Az rfl (qf Cs rfl (ql A0 rfl (AG Ax rfl (qm rfl (By rfl (qm rfl ?_))))))
   refine Dp 24 h rfl (fun h => ?_) fun h => ?_
   ·refine qw 5 rfl (qp rfl (qw 8 rfl (qp rfl (Ad ?_))))
    exact sn [] h
   ·refine qf Bo rfl (ql A0 rfl (AG Ax rfl (qm rfl (By rfl (qp rfl (qm rfl ?_))))))
    refine Dp 31 h rfl (fun h => ?_) fun h => ?_
    ·refine qw 7 rfl (qp rfl (Ad ?_))
     exact sn [] h
    ·refine qf Ck rfl (ql Gv rfl (AG CK rfl (qf Ct rfl (ql GI rfl (AG DI rfl (By rfl (qp rfl (Ad ?_))))))))
     exact sn [] h
  ·refine Bh h (fun h => ?_) fun h => ?_
   ·refine wq rfl (qe rfl ?_)
    obtain rfl := sj h
    refine Ae (sm [] [(4, iD 6)] [] rfl rfl) (Aq ?_)
    exact ⟨⟨[_], tm, rfl⟩, tv⟩
   ·refine Am (wp rfl (qe rfl ?_))
    refine AJ (L := BL N p0 p1) h (fun v7 => mk [(2, oD (.ptr 2 0)), (3, oD (.ptr 3 0)), (6, iD ((p0.fb.length : Int))), (7, iD v7)] [(2, .box (Ah p0)), (3, .box (Ay p1))]) (fun v8 => mk [(2, oD (.ptr 2 0)), (3, oD (.ptr 3 0))] [(2, .box (Ah p0)), (3, .box (Ay p1))]) (fun _ _ => rfl) (sm [] _ _ rfl rfl) (fun j7 n7 v7 h => ?_) (fun v8 s h hs => ?_)
    ·unfold BL at h
     refine wp rfl (qw 2 rfl (A1 rfl (Ad ?_)))
     refine Bh h (fun h => ?_) fun h => ?_
     ·refine Am (AP (AO (AP ?_)))
      refine AM h (fun v10 => mk [(2, oD (.ptr 2 0)), (3, oD (.ptr 3 0)), (6, iD ((p0.fb.length : Int))), (7, iD v7), (84, bD v10)] [(2, .box (Ah p0)), (3, .box (Ay p1))]) (fun j10 h => ?_) (fun v10 h => ?_)
      ·refine Aj Az rfl (qf Cs rfl (ql A0 rfl (qm rfl ?_)))
       refine B3 h fun v11 a11 b11 h => qi Ax CT a11 (Ag b11) rfl (qk BV rfl (A1 rfl (qm rfl ?_)))
       refine Dp 51 h rfl (fun h => ?_) fun h => ?_
       ·refine qw 11 rfl (qp rfl (qw 7 rfl (qp rfl (qw 12 rfl (qp rfl (AH (by kernel_rfl) ?_))))))
        exact sn [] h
       ·refine qf Cs rfl (ql A0 rfl (qm rfl ?_))
        refine B3 h fun v13 a13 b13 h => qi Ax CT a13 (Ag b13) rfl (qk BV rfl (qf Bn rfl (ql A0 rfl (qm rfl ?_))))
        refine B3 h fun v14 a14 b14 h => qi Ax CT a14 (Ag b14) rfl (qk BV rfl (D1 rfl (qp rfl (qm rfl ?_))))
        refine Dp 64 h rfl (fun h => ?_) fun h => ?_
        ·refine qw 6 rfl (qp rfl (qw 12 rfl (qp rfl (AH (by kernel_rfl) ?_))))
         exact sn [] h
        ·refine qf Bo rfl (ql A0 rfl (qm rfl ?_))
         refine B3 h fun v16 a16 b16 h => qi Ax CT a16 (Ag b16) rfl (qk BV rfl (A1 rfl (qp rfl (qm rfl ?_))))
         refine Dp 72 h rfl (fun h => ?_) fun h => ?_
         ·refine qw 11 rfl (qp rfl (AH (by kernel_rfl) ?_))
          exact sn [] h
         ·refine qf Bo rfl (ql A0 rfl (qm rfl ?_))
          refine B3 h fun v18 a18 b18 h => qi Ax CT a18 (Ag b18) rfl (qk BV rfl (qf Bn rfl (ql A0 rfl (qm rfl ?_))))
          refine B3 h fun v19 a19 b19 h => qi Ax CT a19 (Ag b19) rfl (qk BV rfl (D1 rfl (qp rfl (AH (by kernel_rfl) ?_))))
          exact sn [] h
      ·refine Bh h (fun h => ?_) fun h => ?_
       ·refine wq rfl (qe rfl ?_)
        obtain rfl := sj h
        refine Ae (sm [] [(4, iD 7)] [] rfl rfl) (Aq ?_)
        exact ⟨⟨[_], tm, rfl⟩, tv⟩
       ·refine Am (wq rfl (qf Cs rfl (ql A0 rfl (qm rfl ?_))))
        refine B3 h fun v21 a21 b21 h => qi Ax CT a21 (Ag b21) rfl (qk BV rfl (qf Bo rfl (ql A0 rfl (qm rfl ?_))))
        refine B3 h fun v22 a22 b22 h => qi Ax CT a22 (Ag b22) rfl (qk BV rfl (Bv rfl (AH (by kernel_rfl) ?_)))
        refine Bh h (fun h => ?_) fun h => ?_
        ·refine wq rfl (qe rfl ?_)
         obtain rfl := sj h
         refine Ae (sm [] [(4, iD 1)] [] rfl rfl) (Aq ?_)
         exact ⟨⟨[_], tm, rfl⟩, tv⟩
        ·refine Am (Aj Az rfl (qm rfl (Bq rfl (qe rfl ?_))))
         exact sn [] h
     ·refine AY ?_
      exact sn [] h
    ·refine Ae hs (wp rfl (qe rfl ?_))
     refine AJ (L := BE N p0 p1) h (fun v24 => mk [(2, oD (.ptr 2 0)), (3, oD (.ptr 3 0)), (8, iD v24)] [(2, .box (Ah p0)), (3, .box (Ay p1))]) (fun v25 => mk [] []) (fun _ _ => rfl) (sm [] _ _ rfl rfl) (fun j24 n24 v24 h => ?_) (fun v25 s h hs => ?_)
     ·unfold BE at h
      refine wp rfl (qm rfl (qf Ct rfl (ql GI rfl (AG DI rfl (A1 rfl (Ad ?_))))))
      refine Bh h (fun h => ?_) fun h => ?_
      ·refine Am (AP (AO (wq rfl (qf Ct rfl (ql GI rfl (qm rfl ?_))))))
       refine B3 h fun v27 a27 b27 h => qi DI DH a27 (Ag b27) rfl (qK GB DH rfl (qz KK rfl (qs DH rfl (Ad (wq rfl (qf Bn rfl (ql A0 rfl (qf Cy rfl (ql BV rfl ?_)))))))))
       refine B3 h fun v28 a28 b28 h => qi Ax CT a28 (Ag b28) rfl (qk BV rfl ?_)
       refine E1 h fun c29 h => HU rfl c29 (PI rfl (qe rfl ?_))
       refine AM h (fun v30 => mk [(2, oD (.ptr 2 0)), (3, oD (.ptr 3 0)), (8, iD v24), (153, bD v30)] [(2, .box (Ah p0)), (3, .box (Ay p1))]) (fun j30 h => ?_) (fun v30 h => ?_)
       ·refine Aj Az rfl (qL GB DH rfl ?_)
        refine B9 h fun v31 a31 h => Av [] (BT N v27 v31 a31) On rfl (Cd rfl (qm rfl ?_))
        refine Dp 119 h rfl (fun h => ?_) fun h => ?_
        ·refine qf Ck rfl (ql Gv rfl (qm rfl ?_))
         refine B3 h fun v33 a33 b33 h => qi CK E5 a33 (Ag b33) rfl (qk I2 rfl (By rfl (qp rfl (qm rfl ?_))))
         refine Dp 127 h rfl (fun h => ?_) fun h => ?_
         ·refine qw 3 rfl (qu rfl (qu rfl (qu rfl (qu rfl (qu rfl (qu rfl (qu rfl (qu rfl (qu rfl (qu rfl (qu rfl (qu rfl (qu rfl (qu rfl (qu rfl (qu rfl (qu rfl (qu rfl (qu rfl (qu rfl (qu rfl (qn rfl (qp rfl (AH (by kernel_rfl) ?_))))))))))))))))))))))))
          exact sn [] h
         ·refine qL GB DH rfl ?_
          refine B9 h fun v35 a35 h => Av [] (BT N v27 v35 a35) On rfl (qm rfl ?_)
          refine Dp 130 h rfl (fun h => ?_) fun h => ?_
          ·refine qf Ck rfl (ql Gv rfl (qm rfl ?_))
           refine B3 h fun v37 a37 b37 h => qi CK E5 a37 (Ag b37) rfl (qk I2 rfl (qm rfl (HD rfl (By rfl (qm rfl ?_)))))
           refine Dp 139 h rfl (fun h => ?_) fun h => ?_
           ·refine qw 11 rfl (qp rfl (qp rfl (qp rfl (AH (by kernel_rfl) ?_))))
            exact sn [] h
           ·refine qL A7 AE rfl (qf Cy rfl (ql BV rfl ?_))
            refine B9 h fun v39 a39 h => Av [] (Dk N p1 v27.fg v39 a39) RJ rfl (qf Ck rfl (ql Gv rfl (qm rfl ?_)))
            refine B3 h fun v40 a40 b40 h => qi CK E5 a40 (Ag b40) rfl (qk I2 rfl (HD rfl (By rfl (qp rfl (qp rfl (qp rfl (AH (by kernel_rfl) ?_)))))))
            exact sn [] h
          ·refine qw 9 rfl (qu rfl (qu rfl (qu rfl (qu rfl (qu rfl (qu rfl (qu rfl (qu rfl (qu rfl (qu rfl (qu rfl (qn rfl (qp rfl (qp rfl (AH (by kernel_rfl) ?_)))))))))))))))
           exact sn [] h
        ·refine qw 6 rfl (qp rfl (qm rfl (qL GB DH rfl ?_)))
         refine B9 h fun v41 a41 h => Av [] (BT N v27 v41 a41) On rfl (qm rfl ?_)
         refine Dp 130 h rfl (fun h => ?_) fun h => ?_
         ·refine qf Ck rfl (ql Gv rfl (qm rfl ?_))
          refine B3 h fun v43 a43 b43 h => qi CK E5 a43 (Ag b43) rfl (qk I2 rfl (qm rfl (HD rfl (By rfl (qm rfl ?_)))))
          refine Dp 139 h rfl (fun h => ?_) fun h => ?_
          ·refine qw 11 rfl (qp rfl (qp rfl (qp rfl (AH (by kernel_rfl) ?_))))
           exact sn [] h
          ·refine qL A7 AE rfl (qf Cy rfl (ql BV rfl ?_))
           refine B9 h fun v45 a45 h => Av [] (Dk N p1 v27.fg v45 a45) RJ rfl (qf Ck rfl (ql Gv rfl (qm rfl ?_)))
           refine B3 h fun v46 a46 b46 h => qi CK E5 a46 (Ag b46) rfl (qk I2 rfl (HD rfl (By rfl (qp rfl (qp rfl (qp rfl (AH (by kernel_rfl) ?_)))))))
           exact sn [] h
         ·refine qw 9 rfl (qu rfl (qu rfl (qu rfl (qu rfl (qu rfl (qu rfl (qu rfl (qu rfl (qu rfl (qu rfl (qu rfl (qn rfl (qp rfl (qp rfl (AH (by kernel_rfl) ?_)))))))))))))))
          exact sn [] h
       ·refine Bh h (fun h => ?_) fun h => ?_
        ·refine wq rfl (qe rfl ?_)
         obtain rfl := sj h
         refine Ae (sm [] [(4, iD 1)] [] rfl rfl) (Aq ?_)
         exact ⟨⟨[_], tm, rfl⟩, tv⟩
        ·refine Am (Aj Az rfl (qm rfl (Bq rfl (qe rfl ?_))))
         exact sn [] h
      ·refine AY ?_
       exact sn [] h
     ·refine Ae hs (wq rfl (qe rfl ?_))
      obtain rfl := sj h
      refine Ae (sm [] [(4, iD 0)] [] rfl rfl) (Aq ?_)
      exact ⟨⟨[_], tm, rfl⟩, tv⟩
theorem Jq (N : Nat) (p0 : Ac) (r : Bool) (h : DC N p0 = some r) : As Tryz.prog 61 [.e (.agg (Ce p0))] [] (bD r) := by
 unfold DC at h
 refine cw (n := 31) (rs := [.tmp 2]) Tryz.func61 fun w0 S0 => ?_
 refine wq rfl (qb rfl (qe rfl ?_))
 refine AM h (fun v1 => mk [(2, bD v1)] []) (fun j1 h => ?_) (fun v1 h => ?_)
 ·refine Aj Az rfl (qf DK rfl (ql BV rfl (D1 rfl (qm rfl ?_))))
  refine Dp 6 h rfl (fun h => ?_) fun h => ?_
  ·refine qf DK rfl (ql BV rfl (Wt rfl (qp rfl (qm rfl ?_))))
   refine Dp 11 h rfl (fun h => ?_) fun h => ?_
   ·refine qf DR rfl (ql BV rfl (D1 rfl (qp rfl (qm rfl ?_))))
    refine Dp 16 h rfl (fun h => ?_) fun h => ?_
    ·refine qf Fs rfl (ql BV rfl (D1 rfl (qp rfl (qm rfl ?_))))
     refine Dp 21 h rfl (fun h => ?_) fun h => ?_
     ·refine qf DK rfl (ql BV rfl (Bv rfl (qm rfl ?_)))
      refine Dp 25 h rfl (fun h => ?_) fun h => ?_
      ·refine qw 3 rfl (qp rfl (qp rfl (qe rfl ?_)))
       exact sn [] h
      ·refine qf Fs rfl (ql BV rfl (Bv rfl (qp rfl (qp rfl (qe rfl ?_)))))
       exact sn [] h
     ·refine qw 4 rfl (qu rfl (qu rfl (qu rfl (qn rfl (qp rfl (qe rfl ?_))))))
      exact sn [] h
    ·refine qw 3 rfl (qp rfl (qw 5 rfl (qu rfl (qu rfl (qu rfl (qn rfl (qp rfl (qe rfl ?_))))))))
     exact sn [] h
   ·refine qw 3 rfl (qp rfl (qw 4 rfl (qp rfl (qw 5 rfl (qu rfl (qu rfl (qu rfl (qn rfl (qp rfl (qe rfl ?_))))))))))
    exact sn [] h
  ·refine qw 3 rfl (qp rfl (qw 4 rfl (qp rfl (qw 4 rfl (qp rfl (qw 5 rfl (qu rfl (qu rfl (qu rfl (qn rfl (qp rfl (qe rfl ?_))))))))))))
   exact sn [] h
 ·obtain rfl := sj h
  refine Ae (sm [] [(2, bD v1)] [] rfl rfl) (Aq ?_)
  exact ⟨⟨[_], tm, rfl⟩, tv⟩
theorem EW (N : Nat) (p0 : Int) (p1 : Int) (r : Bool) (h : BW N p0 p1 = some r) : As Tryz.prog 103 [pD (.val (.int .u8 p0)), iD p1] [] (bD r) := by
 unfold BW at h
 refine cw (n := 10) (rs := [.tmp 4]) Tryz.func103 fun w0 S0 => ?_
 refine wq rfl (qa rfl (Ad (wq rfl (qw 2 rfl ?_))))
 refine E1 h fun c1 h => If rfl c1 (Lq rfl (Bv rfl (qe rfl ?_)))
 obtain rfl := sj h
 refine Ae (sm [] [(4, bD (((Ft .u8 ((EA .u8 p0 p1)) 1) == 1)))] [] rfl rfl) (Aq ?_)
 exact ⟨⟨[_], tm, rfl⟩, tv⟩
theorem Jw (N : Nat) (p0 : Aa) (p1 : Ab) (p2 : Ac) (r : Ab × Bool) (h : CP N p0 p1 p2 = some r) : As Tryz.prog 88 [.e (.agg (Ah p0)), .e (.agg (Ay p1)), .e (.agg (Ce p2))] [(1, r.1.fe.map Ao), (1, r.1.fa.map Ao), (1, r.1.fd.map B6)] (.tup [.agg [.own 0, .own 1, .own 2], .one (.pure (.val (.bool r.2)))]) := by
 unfold CP at h
 refine cw (n := 201) (rs := [.cell 6 38, .tmp 7]) Tryz.func88 fun w0 S0 => ?_
 refine wq rfl (qb rfl (qb rfl (qb rfl (qz B4 rfl (qa rfl (Ad (wq rfl (El Ax CT KG rfl (qf Cs rfl (ql A0 rfl ?_))))))))))
 refine E1 h fun c1 h => H8 (f := Ao) Ax Ax CT Lz KG (fun _ => rfl) c1 rfl (El Ax CT KG rfl (qf Bo rfl (ql A0 rfl ?_)))
 refine E1 h fun c2 h => H8 (f := Ao) Ax Ax CT Lz KG (fun _ => rfl) c2 rfl (El CK E5 NQ rfl (qf Ck rfl (ql Gv rfl ?_)))
 refine E1 h fun c3 h => H8 (f := B6) CK CK E5 Ps NQ (fun _ => rfl) c3 rfl (AR B4 E6 rfl (qz B4 rfl (qs AE rfl (AH (by kernel_rfl) (wq rfl (qf DR rfl (ql BV rfl (qe rfl ?_))))))))
 refine AM h (fun v4 => mk [(6, oD (.ptr 6 0)), (8, oD (.ptr 8 0))] [(6, .box [.pure (.nil0), .pure (.nil0), .pure (.nil0)]), (8, .box [.own 2001, .own 2002, .own 2003]), (2001, .vec 1 (v4.1.map Ao)), (2002, .vec 1 (v4.2.1.map Ao)), (2003, .vec 1 (v4.2.2.map B6))]) (fun j4 h => ?_) (fun v4 h => ?_)
 ·refine wq rfl (qf DK rfl (ql BV rfl (Ad (AO (wq rfl (Bv rfl (qe rfl ?_)))))))
  refine Bh h (fun h => ?_) fun h => ?_
  ·refine AP ?_
   refine AM h (fun v6 => mk [(3, oD (.ptr 3 0)), (5, oD (.ptr 5 0)), (6, oD (.ptr 6 0)), (8, oD (.ptr 8 0)), (9, iD p2.fh), (60, bD v6)] [(3, .box (Ah p0)), (5, .box (Ce p2)), (6, .box [.pure (.nil0), .pure (.nil0), .pure (.nil0)]), (8, .box [.own 2004, .own 2005, .own 2006]), (2004, .vec 1 (((([] : List Int)) ++ p1.fe).map Ao)), (2005, .vec 1 (((([] : List Int)) ++ p1.fa).map Ao)), (2006, .vec 1 (((([] : List Int)) ++ p1.fd).map B6))]) (fun j6 h => ?_) (fun v6 h => ?_)
   ·refine Aj Az rfl (qf Bo rfl (ql A0 rfl (qm rfl ?_)))
    refine B3 h fun v7 a7 b7 h => qi Ax CT a7 (Ag b7) rfl (qk BV rfl (D1 rfl (qm rfl ?_)))
    refine Dp 51 h rfl (fun h => ?_) fun h => ?_
    ·refine qw 8 rfl (qp rfl (AH (by kernel_rfl) ?_))
     exact sn [(2004, 18), (2005, 22), (2006, 26)] h
    ·refine qf Fs rfl (ql BV rfl (qf Cs rfl (ql A0 rfl (qm rfl ?_))))
     refine B3 h fun v9 a9 b9 h => qi Ax CT a9 (Ag b9) rfl (qk BV rfl (Bv rfl (qp rfl (AH (by kernel_rfl) ?_))))
     exact sn [(2004, 18), (2005, 22), (2006, 26)] h
   ·refine Bh h (fun h => ?_) fun h => ?_
    ·refine wq rfl (AR B4 E6 rfl (qs AE rfl (qe rfl ?_)))
     obtain rfl := sj h
     refine Ae ((Aw 6 0 2007 1 _ rfl rfl rfl rfl).trans ((Aw 6 1 2008 1 _ rfl rfl rfl rfl).trans ((Aw 6 2 2009 1 _ rfl rfl rfl rfl).trans (sm [(1000, 2007), (1001, 2008), (1002, 2009)] [(6, oD (.ptr 6 0)), (7, bD false)] [(6, .box [.own 1000, .own 1001, .own 1002]), (1000, .vec 1 ((([] : List Int)).map Ao)), (1001, .vec 1 ((([] : List Int)).map Ao)), (1002, .vec 1 ((([] : List Int)).map B6))] rfl rfl)))) (Aq ?_)
     exact ⟨⟨[_, _], ⟨.cellN _ _ _ _ _ _ _ rfl rfl A7 AE rfl rfl (Fq rfl), tm⟩, rfl⟩, ⟨rfl, rfl, rfl, tv⟩⟩
    ·refine Am (wq rfl (qf Bo rfl (ql A0 rfl (qm rfl (qf Fs rfl (ql BV rfl ?_))))))
     refine B3 h fun v11 a11 b11 h => qI Ax CT a11 (Ag b11) rfl ?_
     refine Ea rfl rfl rfl rfl (Ag b11) rfl CT rfl (Iq rfl) (Ec Ao ((([] : List Int)) ++ p1.fa) _ p2.fj) ?_
     refine Ad (wq rfl (qe rfl ?_))
     refine AJ (L := BC N p0 p2) h (fun v12 => mk [(3, oD (.ptr 3 0)), (5, oD (.ptr 5 0)), (6, oD (.ptr 6 0)), (8, oD (.ptr 8 0)), (9, iD p2.fh), (10, iD v12.2)] [(3, .box (Ah p0)), (5, .box (Ce p2)), (6, .box [.pure (.nil0), .pure (.nil0), .pure (.nil0)]), (8, .box [.own 2010, .own 2011, .own 2012]), (2010, .vec 1 (((([] : List Int)) ++ p1.fe).map Ao)), (2011, .vec 1 ((((([] : List Int)) ++ p1.fa).set ((p2.fh).toNat) p2.fj).map Ao)), (2012, .vec 1 (v12.1.map B6))]) (fun v13 => mk [(6, oD (.ptr 6 0)), (8, oD (.ptr 8 0))] [(6, .box [.pure (.nil0), .pure (.nil0), .pure (.nil0)]), (8, .box [.own 2013, .own 2014, .own 2015]), (2013, .vec 1 (((([] : List Int)) ++ p1.fe).map Ao)), (2014, .vec 1 ((((([] : List Int)) ++ p1.fa).set ((p2.fh).toNat) p2.fj).map Ao)), (2015, .vec 1 (v13.map B6))]) (fun _ _ => rfl) (sm [(2010, 2004), (2011, 2005), (2012, 2006)] _ _ rfl rfl) (fun j12 n12 v12 h => ?_) (fun v13 s h hs => ?_)
     ·unfold BC at h
      refine wp rfl (qm rfl (qf Ct rfl (ql GI rfl (AG DI rfl (A1 rfl (Ad ?_))))))
      refine Bh h (fun h => ?_) fun h => ?_
      ·refine Am ?_
       refine AM h (fun v15 => mk [(3, oD (.ptr 3 0)), (5, oD (.ptr 5 0)), (6, oD (.ptr 6 0)), (8, oD (.ptr 8 0)), (9, iD p2.fh), (10, iD v12.2)] [(3, .box (Ah p0)), (5, .box (Ce p2)), (6, .box [.pure (.nil0), .pure (.nil0), .pure (.nil0)]), (8, .box [.own 2016, .own 2017, .own 2018]), (2016, .vec 1 (((([] : List Int)) ++ p1.fe).map Ao)), (2017, .vec 1 ((((([] : List Int)) ++ p1.fa).set ((p2.fh).toNat) p2.fj).map Ao)), (2018, .vec 1 (v15.map B6))]) (fun j15 h => ?_) (fun v15 h => ?_)
       ·refine AO ?_
        refine AM h (fun v16 => mk [(3, oD (.ptr 3 0)), (5, oD (.ptr 5 0)), (6, oD (.ptr 6 0)), (8, oD (.ptr 8 0)), (9, iD p2.fh), (10, iD v12.2), (90, bD v16)] [(3, .box (Ah p0)), (5, .box (Ce p2)), (6, .box [.pure (.nil0), .pure (.nil0), .pure (.nil0)]), (8, .box [.own 2019, .own 2020, .own 2021]), (2019, .vec 1 (((([] : List Int)) ++ p1.fe).map Ao)), (2020, .vec 1 ((((([] : List Int)) ++ p1.fa).set ((p2.fh).toNat) p2.fj).map Ao)), (2021, .vec 1 (v12.1.map B6))]) (fun j16 h => ?_) (fun v16 h => ?_)
        ·refine Aj Az rfl (qf Ct rfl (ql GI rfl (qm rfl ?_)))
         refine B3 h fun v17 a17 b17 h => qi DI DH a17 (Ag b17) rfl (qg Cy rfl (qk BV rfl (qm rfl (Bv rfl (qm rfl ?_)))))
         refine Dp 83 h rfl (fun h => ?_) fun h => ?_
         ·refine qf Ct rfl (ql GI rfl (qm rfl ?_))
          refine B3 h fun v19 a19 b19 h => qi DI DH a19 (Ag b19) rfl (qK GB DH rfl ?_)
          refine B9 h fun v20 a20 h => Av [] (BT N v19 v20 a20) On rfl (qp rfl (Ad ?_))
          exact sn [(2019, 2010), (2020, 2011), (2021, 2012)] h
         ·refine qw 6 rfl (qp rfl (Ad ?_))
          exact sn [(2019, 2010), (2020, 2011), (2021, 2012)] h
        ·refine Bh h (fun h => ?_) fun h => ?_
         ·refine Aj Az rfl (qf Ck rfl (ql Gv rfl (qm rfl (qf Ck rfl (ql Gv rfl (qm rfl ?_))))))
          refine B3 h fun v22 a22 b22 h => qI CK E5 a22 (Ag b22) rfl (qj I2 (Ag b22) rfl (qf Fs rfl (ql BV rfl ?_)))
          refine E1 h fun c23 h => HU rfl c23 (RV rfl ?_)
          refine B3 h fun v24 a24 b24 h => qI CK E5 a24 (Ag b24) rfl ?_
          refine Ea rfl rfl rfl rfl (Ag b24) rfl E5 rfl (Iq rfl) (Ec B6 v12.1 _ ((ME .u8 v22 ((C0 .u8 1 p2.fj))))) ?_
          refine AH (by kernel_rfl) ?_
          exact sn [(2016, 2019), (2017, 2020), (2018, 2021)] h
         ·refine Am ?_
          exact sn [(2016, 2019), (2017, 2020), (2018, 2021)] h
       ·refine Aj Az rfl (qm rfl (Bq rfl (qe rfl ?_)))
        exact sn [(2010, 2016), (2011, 2017), (2012, 2018)] h
      ·refine AY ?_
       exact sn [(2013, 2010), (2014, 2011), (2015, 2012)] h
     ·exact R7 _ h (hs.trans (sm [(2001, 2013), (2002, 2014), (2003, 2015)] _ _ rfl rfl))
  ·refine wq rfl (Bv rfl (qe rfl ?_))
   refine Bh h (fun h => ?_) fun h => ?_
   ·refine wp rfl (qf Bo rfl (ql A0 rfl (qm rfl ?_)))
    refine B3 h fun v26 a26 b26 h => qi Ax CT a26 (Ag b26) rfl (qk BV rfl (A1 rfl (Ad ?_)))
    refine Bh h (fun h => ?_) fun h => ?_
    ·refine wq rfl (AR B4 E6 rfl (qs AE rfl (qe rfl ?_)))
     obtain rfl := sj h
     refine Ae ((Aw 6 0 2022 1 _ rfl rfl rfl rfl).trans ((Aw 6 1 2023 1 _ rfl rfl rfl rfl).trans ((Aw 6 2 2024 1 _ rfl rfl rfl rfl).trans (sm [(1000, 2022), (1001, 2023), (1002, 2024)] [(6, oD (.ptr 6 0)), (7, bD false)] [(6, .box [.own 1000, .own 1001, .own 1002]), (1000, .vec 1 ((([] : List Int)).map Ao)), (1001, .vec 1 ((([] : List Int)).map Ao)), (1002, .vec 1 ((([] : List Int)).map B6))] rfl rfl)))) (Aq ?_)
     exact ⟨⟨[_, _], ⟨.cellN _ _ _ _ _ _ _ rfl rfl A7 AE rfl rfl (Fq rfl), tm⟩, rfl⟩, ⟨rfl, rfl, rfl, tv⟩⟩
    ·refine Am (Aj Az rfl (qf Cs rfl (ql A0 rfl (qm rfl (qf Bo rfl (ql A0 rfl (qm rfl (qf Bo rfl (ql A0 rfl (qm rfl ?_))))))))))
     refine B3 h fun v28 a28 b28 h => qi Ax CT a28 (Ag b28) rfl (qk BV rfl ?_)
     refine B3 h fun v29 a29 b29 h => qI Ax CT a29 (Ag b29) rfl ?_
     refine Ea rfl rfl rfl rfl (Ag b29) rfl CT rfl (Iq rfl) (Ec Ao ((([] : List Int)) ++ p1.fe) _ v28) ?_
     refine B3 h fun v30 a30 b30 h => qI Ax CT a30 (Ag b30) rfl ?_
     refine Ea rfl rfl rfl rfl (Ag b30) rfl CT rfl (Iq rfl) (Ec Ao ((([] : List Int)) ++ p1.fa) _ ((-1))) ?_
     refine AH (by kernel_rfl) ?_
     exact sn [(2001, 18), (2002, 22), (2003, 26)] h
   ·refine wq rfl (Bv rfl (qe rfl ?_))
    refine Bh h (fun h => ?_) fun h => ?_
    ·refine wq rfl (qf Ct rfl (ql GI rfl (qm rfl ?_)))
     refine B3 h fun v32 a32 b32 h => qi DI DH a32 (Ag b32) rfl (qK GB DH rfl (qz KK rfl (qs DH rfl (Ad (wp rfl (qL GB DH rfl ?_))))))
     refine B9 h fun v33 a33 h => Av [] (BT N v32 v33 a33) On rfl (Cd rfl (Ad ?_))
     refine Bh h (fun h => ?_) fun h => ?_
     ·refine wq rfl (AR B4 E6 rfl (qs AE rfl (qe rfl ?_)))
      obtain rfl := sj h
      refine Ae ((Aw 6 0 2025 1 _ rfl rfl rfl rfl).trans ((Aw 6 1 2026 1 _ rfl rfl rfl rfl).trans ((Aw 6 2 2027 1 _ rfl rfl rfl rfl).trans (sm [(1000, 2025), (1001, 2026), (1002, 2027)] [(6, oD (.ptr 6 0)), (7, bD false)] [(6, .box [.own 1000, .own 1001, .own 1002]), (1000, .vec 1 ((([] : List Int)).map Ao)), (1001, .vec 1 ((([] : List Int)).map Ao)), (1002, .vec 1 ((([] : List Int)).map B6))] rfl rfl)))) (Aq ?_)
      exact ⟨⟨[_, _], ⟨.cellN _ _ _ _ _ _ _ rfl rfl A7 AE rfl rfl (Fq rfl), tm⟩, rfl⟩, ⟨rfl, rfl, rfl, tv⟩⟩
     ·refine Am (wq rfl (qL A7 AE rfl (qf Cy rfl (ql BV rfl ?_))))
      refine B9 h fun v35 a35 h => Av [] (Dk N p1 v32.fg v35 a35) RJ rfl (qa rfl (Ad (wp rfl (qf Ck rfl (ql Gv rfl (qm rfl ?_))))))
      refine B3 h fun v36 a36 b36 h => qi CK E5 a36 (Ag b36) rfl (qk I2 rfl (qm rfl (Bv rfl (Ad ?_))))
      refine Bh h (fun h => ?_) fun h => ?_
      ·refine wq rfl (AR B4 E6 rfl (qs AE rfl (qe rfl ?_)))
       obtain rfl := sj h
       refine Ae ((Aw 6 0 2028 1 _ rfl rfl rfl rfl).trans ((Aw 6 1 2029 1 _ rfl rfl rfl rfl).trans ((Aw 6 2 2030 1 _ rfl rfl rfl rfl).trans (sm [(1000, 2028), (1001, 2029), (1002, 2030)] [(6, oD (.ptr 6 0)), (7, bD false)] [(6, .box [.own 1000, .own 1001, .own 1002]), (1000, .vec 1 ((([] : List Int)).map Ao)), (1001, .vec 1 ((([] : List Int)).map Ao)), (1002, .vec 1 ((([] : List Int)).map B6))] rfl rfl)))) (Aq ?_)
       exact ⟨⟨[_, _], ⟨.cellN _ _ _ _ _ _ _ rfl rfl A7 AE rfl rfl (Fq rfl), tm⟩, rfl⟩, ⟨rfl, rfl, rfl, tv⟩⟩
      ·refine Am (wp rfl (qe rfl ?_))
       refine AJ (L := Bi N p0 p1 p2 v32 v35) h (fun v38 => mk [(3, oD (.ptr 3 0)), (4, oD (.ptr 4 0)), (6, oD (.ptr 6 0)), (8, oD (.ptr 8 0)), (9, iD p2.fh), (11, oD (.ptr 11 0)), (12, pD (.val (.int .u8 v35))), (13, iD v38)] [(3, .box (Ah p0)), (4, .box (Ay p1)), (6, .box [.pure (.nil0), .pure (.nil0), .pure (.nil0)]), (8, .box [.own 2031, .own 2032, .own 2033]), (11, .box (A9 v32)), (2031, .vec 1 (((([] : List Int)) ++ p1.fe).map Ao)), (2032, .vec 1 (((([] : List Int)) ++ p1.fa).map Ao)), (2033, .vec 1 (((([] : List Int)) ++ p1.fd).map B6))]) (fun v39 => mk [(6, oD (.ptr 6 0)), (8, oD (.ptr 8 0)), (9, iD p2.fh), (12, pD (.val (.int .u8 v35)))] [(6, .box [.pure (.nil0), .pure (.nil0), .pure (.nil0)]), (8, .box [.own 2034, .own 2035, .own 2036]), (2034, .vec 1 (((([] : List Int)) ++ p1.fe).map Ao)), (2035, .vec 1 (((([] : List Int)) ++ p1.fa).map Ao)), (2036, .vec 1 (((([] : List Int)) ++ p1.fd).map B6))]) (fun _ _ => rfl) (sm [(2031, 18), (2032, 22), (2033, 26)] _ _ rfl rfl) (fun j38 n38 v38 h => ?_) (fun v39 s h hs => ?_)
       ·unfold Bi at h
        refine wp rfl (qm rfl (qf Bn rfl (ql A0 rfl (qf Cy rfl (ql BV rfl ?_)))))
        refine B3 h fun v40 a40 b40 h => qi Ax CT a40 (Ag b40) rfl (qk BV rfl (A1 rfl (Ad ?_)))
        refine Bh h (fun h => ?_) fun h => ?_
        ·refine Am (AP (AO ?_))
         refine AM h (fun v42 => mk [(3, oD (.ptr 3 0)), (4, oD (.ptr 4 0)), (6, oD (.ptr 6 0)), (8, oD (.ptr 8 0)), (9, iD p2.fh), (11, oD (.ptr 11 0)), (12, pD (.val (.int .u8 v35))), (13, iD v38), (14, bD v42)] [(3, .box (Ah p0)), (4, .box (Ay p1)), (6, .box [.pure (.nil0), .pure (.nil0), .pure (.nil0)]), (8, .box [.own 2037, .own 2038, .own 2039]), (11, .box (A9 v32)), (2037, .vec 1 (((([] : List Int)) ++ p1.fe).map Ao)), (2038, .vec 1 (((([] : List Int)) ++ p1.fa).map Ao)), (2039, .vec 1 (((([] : List Int)) ++ p1.fd).map B6))]) (fun j42 h => ?_) (fun v42 h => ?_)
         ·refine Aj Az rfl (qf Ck rfl (ql Gv rfl (qm rfl ?_)))
          refine B3 h fun v43 a43 b43 h => qi CK E5 a43 (Ag b43) rfl (qk I2 rfl (qm rfl ?_))
          refine B9 h fun v44 a44 h => Av [] (EW N v43 v38 v44 a44) Qr rfl (qm rfl ?_)
          refine Dp 166 h rfl (fun h => ?_) fun h => ?_
          ·refine qw 2 rfl ?_
           refine B9 h fun v46 a46 h => Av [] (EW N v35 v38 v46 a46) Qr rfl (Cd rfl (qp rfl (qe rfl ?_)))
           exact sn [(2037, 2031), (2038, 2032), (2039, 2033)] h
          ·refine qw 4 rfl (qp rfl (qe rfl ?_))
           exact sn [(2037, 2031), (2038, 2032), (2039, 2033)] h
         ·refine AM h (fun v47 => mk [(3, oD (.ptr 3 0)), (4, oD (.ptr 4 0)), (6, oD (.ptr 6 0)), (8, oD (.ptr 8 0)), (9, iD p2.fh), (11, oD (.ptr 11 0)), (12, pD (.val (.int .u8 v35))), (13, iD v38), (193, bD v47)] [(3, .box (Ah p0)), (4, .box (Ay p1)), (6, .box [.pure (.nil0), .pure (.nil0), .pure (.nil0)]), (8, .box [.own 2040, .own 2041, .own 2042]), (11, .box (A9 v32)), (2040, .vec 1 (((([] : List Int)) ++ p1.fe).map Ao)), (2041, .vec 1 (((([] : List Int)) ++ p1.fa).map Ao)), (2042, .vec 1 (((([] : List Int)) ++ p1.fd).map B6))]) (fun j47 h => ?_) (fun v47 h => ?_)
          ·refine Aj Az rfl (qw 2 rfl ?_)
           refine Dp 173 h rfl (fun h => ?_) fun h => ?_
           ·refine qf EV rfl (ql BV rfl (Bv rfl (qp rfl (qm rfl ?_))))
            refine Dp 178 h rfl (fun h => ?_) fun h => ?_
            ·refine qf FT rfl (ql Je rfl (qm rfl ?_))
             refine B3 h fun v50 a50 b50 h => qi FQ L7 a50 (Ag b50) rfl (qk Om rfl (qf Cs rfl (ql A0 rfl (qf Cy rfl (ql BV rfl ?_)))))
             refine B3 h fun v51 a51 b51 h => qi Ax CT a51 (Ag b51) rfl (qk BV rfl ?_)
             refine B3 h fun v52 a52 b52 h => qi Gn P2 a52 (Ag b52) rfl (qk Qz rfl (Cd rfl (qp rfl (AH (by kernel_rfl) ?_))))
             exact sn [(2040, 2037), (2041, 2038), (2042, 2039)] h
            ·refine qw 14 rfl (qp rfl (AH (by kernel_rfl) ?_))
             exact sn [(2040, 2037), (2041, 2038), (2042, 2039)] h
           ·refine qw 3 rfl (qp rfl (qw 15 rfl (qp rfl (AH (by kernel_rfl) ?_))))
            exact sn [(2040, 2037), (2041, 2038), (2042, 2039)] h
          ·refine Bh h (fun h => ?_) fun h => ?_
           ·refine wq rfl (AR B4 E6 rfl (qs AE rfl (qe rfl ?_)))
            obtain rfl := sj h
            refine Ae ((Aw 6 0 2043 1 _ rfl rfl rfl rfl).trans ((Aw 6 1 2044 1 _ rfl rfl rfl rfl).trans ((Aw 6 2 2045 1 _ rfl rfl rfl rfl).trans (sm [(1000, 2043), (1001, 2044), (1002, 2045)] [(6, oD (.ptr 6 0)), (7, bD false)] [(6, .box [.own 1000, .own 1001, .own 1002]), (1000, .vec 1 ((([] : List Int)).map Ao)), (1001, .vec 1 ((([] : List Int)).map Ao)), (1002, .vec 1 ((([] : List Int)).map B6))] rfl rfl)))) (Aq ?_)
            exact ⟨⟨[_, _], ⟨.cellN _ _ _ _ _ _ _ rfl rfl A7 AE rfl rfl (Fq rfl), tm⟩, rfl⟩, ⟨rfl, rfl, rfl, tv⟩⟩
           ·refine Am (Aj Az rfl (qm rfl (Bq rfl (qe rfl ?_))))
            exact sn [(2031, 2040), (2032, 2041), (2033, 2042)] h
        ·refine AY ?_
         exact sn [(2034, 2031), (2035, 2032), (2036, 2033)] h
       ·refine Ae hs (Aj Az rfl (qf Ck rfl (ql Gv rfl (qw 2 rfl ?_))))
        refine B3 h fun v54 a54 b54 h => qI CK E5 a54 (Ag b54) rfl ?_
        refine Ea rfl rfl rfl rfl (Ag b54) rfl E5 rfl (Iq rfl) (Ec B6 ((([] : List Int)) ++ p1.fd) _ v35) ?_
        refine Ad ?_
        exact sn [(2001, 2034), (2002, 2035), (2003, 2036)] h
    ·refine wp rfl (qf Bo rfl (ql A0 rfl (qm rfl ?_)))
     refine B3 h fun v55 a55 b55 h => qi Ax CT a55 (Ag b55) rfl (qk BV rfl (A1 rfl (Ad ?_)))
     refine Bh h (fun h => ?_) fun h => ?_
     ·refine wq rfl (AR B4 E6 rfl (qs AE rfl (qe rfl ?_)))
      obtain rfl := sj h
      refine Ae ((Aw 6 0 2046 1 _ rfl rfl rfl rfl).trans ((Aw 6 1 2047 1 _ rfl rfl rfl rfl).trans ((Aw 6 2 2048 1 _ rfl rfl rfl rfl).trans (sm [(1000, 2046), (1001, 2047), (1002, 2048)] [(6, oD (.ptr 6 0)), (7, bD false)] [(6, .box [.own 1000, .own 1001, .own 1002]), (1000, .vec 1 ((([] : List Int)).map Ao)), (1001, .vec 1 ((([] : List Int)).map Ao)), (1002, .vec 1 ((([] : List Int)).map B6))] rfl rfl)))) (Aq ?_)
      exact ⟨⟨[_, _], ⟨.cellN _ _ _ _ _ _ _ rfl rfl A7 AE rfl rfl (Fq rfl), tm⟩, rfl⟩, ⟨rfl, rfl, rfl, tv⟩⟩
     ·refine Am (Aj Az rfl (qf Bo rfl (ql A0 rfl (qm rfl ?_))))
      refine B3 h fun v57 a57 b57 h => qI Ax CT a57 (Ag b57) rfl ?_
      refine Ea rfl rfl rfl rfl (Ag b57) rfl CT rfl (Iq rfl) (Ec Ao ((([] : List Int)) ++ p1.fa) _ ((-1))) ?_
      refine Ad ?_
      exact sn [(2001, 18), (2002, 22), (2003, 26)] h
 ·refine wq rfl (qL A7 AE rfl (qs AE rfl (qe rfl ?_)))
  obtain rfl := sj h
  refine Ae (sm [(1000, 2001), (1001, 2002), (1002, 2003)] [(6, oD (.ptr 6 0)), (7, bD true)] [(6, .box [.own 1000, .own 1001, .own 1002]), (1000, .vec 1 (v4.1.map Ao)), (1001, .vec 1 (v4.2.1.map Ao)), (1002, .vec 1 (v4.2.2.map B6))] rfl rfl) (Aq ?_)
  exact ⟨⟨[_, _], ⟨.cellN _ _ _ _ _ _ _ rfl rfl A7 AE rfl rfl (Fq rfl), tm⟩, rfl⟩, ⟨rfl, rfl, rfl, tv⟩⟩
theorem Js (N : Nat) (p0 : Aa) (p1 : Ab) (p2 : Ac) (r : Ab × Int) (h : DF N p0 p1 p2 = some r) : As Tryz.prog 64 [.e (.agg (Ah p0)), .e (.agg (Ay p1)), .e (.agg (Ce p2))] [(1, r.1.fe.map Ao), (1, r.1.fa.map Ao), (1, r.1.fd.map B6)] (.tup [.agg [.own 0, .own 1, .own 2], .one (iC r.2)]) := by
 unfold DF at h
 refine cw (n := 73) (rs := [.cell 6 38, .tmp 7]) Tryz.func64 fun w0 S0 => ?_
 refine wq rfl (qb rfl (qb rfl (qb rfl (qz B4 rfl (qa rfl (Ad (wp rfl (qL CI Cv rfl (qL A7 AE rfl ?_)))))))))
 refine B9 h fun v1 a1 h => Av [] (Fv N p0 p1 v1 a1) UO rfl (qa rfl (Ad (wq rfl (qm rfl (By rfl (Ad ?_))))))
 refine Bh h (fun h => ?_) fun h => ?_
 ·refine wq rfl (AR B4 E6 rfl (qm rfl (qs AE rfl (qe rfl ?_))))
  obtain rfl := sj h
  refine Ae ((Aw 6 0 2001 1 _ rfl rfl rfl rfl).trans ((Aw 6 1 2002 1 _ rfl rfl rfl rfl).trans ((Aw 6 2 2003 1 _ rfl rfl rfl rfl).trans (sm [(1000, 2001), (1001, 2002), (1002, 2003)] [(6, oD (.ptr 6 0)), (7, iD v1)] [(6, .box [.own 1000, .own 1001, .own 1002]), (1000, .vec 1 ((([] : List Int)).map Ao)), (1001, .vec 1 ((([] : List Int)).map Ao)), (1002, .vec 1 ((([] : List Int)).map B6))] rfl rfl)))) (Aq ?_)
  exact ⟨⟨[_, _], ⟨.cellN _ _ _ _ _ _ _ rfl rfl A7 AE rfl rfl (Fq rfl), tm⟩, rfl⟩, ⟨rfl, rfl, rfl, tv⟩⟩
 ·refine Am (wp rfl (qL Gw Cr rfl ?_))
  refine B9 h fun v3 a3 h => Av [] (Jq N p2 v3 a3) Xe rfl (Cd rfl (Ad ?_))
  refine Bh h (fun h => ?_) fun h => ?_
  ·refine wq rfl (AR B4 E6 rfl (qs AE rfl (qe rfl ?_)))
   obtain rfl := sj h
   refine Ae ((Aw 6 0 2004 1 _ rfl rfl rfl rfl).trans ((Aw 6 1 2005 1 _ rfl rfl rfl rfl).trans ((Aw 6 2 2006 1 _ rfl rfl rfl rfl).trans (sm [(1000, 2004), (1001, 2005), (1002, 2006)] [(6, oD (.ptr 6 0)), (7, iD 1)] [(6, .box [.own 1000, .own 1001, .own 1002]), (1000, .vec 1 ((([] : List Int)).map Ao)), (1001, .vec 1 ((([] : List Int)).map Ao)), (1002, .vec 1 ((([] : List Int)).map B6))] rfl rfl)))) (Aq ?_)
   exact ⟨⟨[_, _], ⟨.cellN _ _ _ _ _ _ _ rfl rfl A7 AE rfl rfl (Fq rfl), tm⟩, rfl⟩, ⟨rfl, rfl, rfl, tv⟩⟩
  ·refine Am (AP ?_)
   refine AM h (fun v5 => mk [(3, oD (.ptr 3 0)), (4, oD (.ptr 4 0)), (5, oD (.ptr 5 0)), (6, oD (.ptr 6 0)), (45, bD v5)] [(3, .box (Ah p0)), (4, .box (Ay p1)), (5, .box (Ce p2)), (6, .box [.pure (.nil0), .pure (.nil0), .pure (.nil0)])]) (fun j5 h => ?_) (fun v5 h => ?_)
   ·refine Aj Az rfl (qf DK rfl (ql BV rfl (Bv rfl (qm rfl ?_))))
    refine Dp 25 h rfl (fun h => ?_) fun h => ?_
    ·refine qf DR rfl (ql BV rfl (qf Ct rfl (ql GI rfl (AG DI rfl (D1 rfl (qp rfl (qm rfl ?_)))))))
     refine Dp 33 h rfl (fun h => ?_) fun h => ?_
     ·refine qw 4 rfl (qu rfl (qu rfl (qu rfl (qu rfl (qu rfl (qu rfl (qn rfl (qp rfl (Ad ?_)))))))))
      exact sn [] h
     ·refine qf DK rfl (ql BV rfl (By rfl (qm rfl ?_)))
      refine Dp 37 h rfl (fun h => ?_) fun h => ?_
      ·refine qf DR rfl (ql BV rfl (qf Bn rfl (ql A0 rfl (AG Ax rfl (D1 rfl (qp rfl (qp rfl (Ad ?_))))))))
       exact sn [] h
      ·refine qw 6 rfl (qp rfl (qp rfl (Ad ?_)))
       exact sn [] h
    ·refine qw 6 rfl (qp rfl (qm rfl (qf DK rfl (ql BV rfl (By rfl (qm rfl ?_))))))
     refine Dp 37 h rfl (fun h => ?_) fun h => ?_
     ·refine qf DR rfl (ql BV rfl (qf Bn rfl (ql A0 rfl (AG Ax rfl (D1 rfl (qp rfl (qp rfl (Ad ?_))))))))
      exact sn [] h
     ·refine qw 6 rfl (qp rfl (qp rfl (Ad ?_)))
      exact sn [] h
   ·refine Bh h (fun h => ?_) fun h => ?_
    ·refine wq rfl (AR B4 E6 rfl (qs AE rfl (qe rfl ?_)))
     obtain rfl := sj h
     refine Ae ((Aw 6 0 2007 1 _ rfl rfl rfl rfl).trans ((Aw 6 1 2008 1 _ rfl rfl rfl rfl).trans ((Aw 6 2 2009 1 _ rfl rfl rfl rfl).trans (sm [(1000, 2007), (1001, 2008), (1002, 2009)] [(6, oD (.ptr 6 0)), (7, iD 4)] [(6, .box [.own 1000, .own 1001, .own 1002]), (1000, .vec 1 ((([] : List Int)).map Ao)), (1001, .vec 1 ((([] : List Int)).map Ao)), (1002, .vec 1 ((([] : List Int)).map B6))] rfl rfl)))) (Aq ?_)
     exact ⟨⟨[_, _], ⟨.cellN _ _ _ _ _ _ _ rfl rfl A7 AE rfl rfl (Fq rfl), tm⟩, rfl⟩, ⟨rfl, rfl, rfl, tv⟩⟩
    ·refine Am (AP ?_)
     refine AM h (fun v11 => mk [(3, oD (.ptr 3 0)), (4, oD (.ptr 4 0)), (5, oD (.ptr 5 0)), (6, oD (.ptr 6 0)), (60, bD v11)] [(3, .box (Ah p0)), (4, .box (Ay p1)), (5, .box (Ce p2)), (6, .box [.pure (.nil0), .pure (.nil0), .pure (.nil0)])]) (fun j11 h => ?_) (fun v11 h => ?_)
     ·refine Aj Az rfl (qf DK rfl (ql BV rfl (Bv rfl (qm rfl ?_))))
      refine Dp 50 h rfl (fun h => ?_) fun h => ?_
      ·refine qf Fs rfl (ql BV rfl (qf Bn rfl (ql A0 rfl (qf DR rfl (ql BV rfl ?_)))))
       refine B3 h fun v13 a13 b13 h => qi Ax CT a13 (Ag b13) rfl (qk BV rfl (D1 rfl (qp rfl (AH (by kernel_rfl) ?_))))
       exact sn [] h
      ·refine qw 9 rfl (qp rfl (AH (by kernel_rfl) ?_))
       exact sn [] h
     ·refine Bh h (fun h => ?_) fun h => ?_
      ·refine wq rfl (AR B4 E6 rfl (qs AE rfl (qe rfl ?_)))
       obtain rfl := sj h
       refine Ae ((Aw 6 0 2010 1 _ rfl rfl rfl rfl).trans ((Aw 6 1 2011 1 _ rfl rfl rfl rfl).trans ((Aw 6 2 2012 1 _ rfl rfl rfl rfl).trans (sm [(1000, 2010), (1001, 2011), (1002, 2012)] [(6, oD (.ptr 6 0)), (7, iD 4)] [(6, .box [.own 1000, .own 1001, .own 1002]), (1000, .vec 1 ((([] : List Int)).map Ao)), (1001, .vec 1 ((([] : List Int)).map Ao)), (1002, .vec 1 ((([] : List Int)).map B6))] rfl rfl)))) (Aq ?_)
       exact ⟨⟨[_, _], ⟨.cellN _ _ _ _ _ _ _ rfl rfl A7 AE rfl rfl (Fq rfl), tm⟩, rfl⟩, ⟨rfl, rfl, rfl, tv⟩⟩
      ·refine Am (wq rfl (qL CI Cv rfl (qL A7 AE rfl (qL Gw Cr rfl ?_))))
       refine B9 h fun v15 a15 h => Av [2013, 2014, 2015] (Jw N p0 p1 p2 v15 a15) WV rfl (qm rfl (qx rfl (qx rfl (qz B4 rfl (qs AE rfl (qa rfl (Ad (wp rfl (qm rfl (Cd rfl (Ad ?_)))))))))))
       refine Bh h (fun h => ?_) fun h => ?_
       ·refine wq rfl (AR B4 E6 rfl (qs AE rfl (qe rfl ?_)))
        obtain rfl := sj h
        refine Ae ((Aw 6 0 2016 1 _ rfl rfl rfl rfl).trans ((Aw 6 1 2017 1 _ rfl rfl rfl rfl).trans ((Aw 6 2 2018 1 _ rfl rfl rfl rfl).trans (sm [(1000, 2016), (1001, 2017), (1002, 2018)] [(6, oD (.ptr 6 0)), (7, iD 11)] [(6, .box [.own 1000, .own 1001, .own 1002]), (1000, .vec 1 ((([] : List Int)).map Ao)), (1001, .vec 1 ((([] : List Int)).map Ao)), (1002, .vec 1 ((([] : List Int)).map B6))] rfl rfl)))) (Aq ?_)
        exact ⟨⟨[_, _], ⟨.cellN _ _ _ _ _ _ _ rfl rfl A7 AE rfl rfl (Fq rfl), tm⟩, rfl⟩, ⟨rfl, rfl, rfl, tv⟩⟩
       ·refine Am (wq rfl (qL A7 AE rfl (qs AE rfl (qe rfl ?_))))
        obtain rfl := sj h
        refine Ae (sm [(1000, 2013), (1001, 2014), (1002, 2015)] [(6, oD (.ptr 6 0)), (7, iD 0)] [(6, .box [.own 1000, .own 1001, .own 1002]), (1000, .vec 1 (v15.1.fe.map Ao)), (1001, .vec 1 (v15.1.fa.map Ao)), (1002, .vec 1 (v15.1.fd.map B6))] rfl rfl) (Aq ?_)
        exact ⟨⟨[_, _], ⟨.cellN _ _ _ _ _ _ _ rfl rfl A7 AE rfl rfl (Fq rfl), tm⟩, rfl⟩, ⟨rfl, rfl, rfl, tv⟩⟩
theorem Jg (N : Nat) (p0 : Ab) (r : Ab) (h : Dj N p0 = some r) : As Tryz.prog 86 [.e (.agg (Ay p0))] [(1, r.fe.map Ao), (1, r.fa.map Ao), (1, r.fd.map B6)] (.e (.agg [.own 0, .own 1, .own 2])) := by
 unfold Dj at h
 refine cw (n := 16) (rs := [.cell 2 38]) Tryz.func86 fun w0 S0 => ?_
 refine wq rfl (qb rfl (qz B4 rfl (Ad (wq rfl (El Ax CT KG rfl (qf Cs rfl (ql A0 rfl ?_)))))))
 refine E1 h fun c1 h => H8 (f := Ao) Ax Ax CT Lz KG (fun _ => rfl) c1 rfl (El Ax CT KG rfl (qf Bo rfl (ql A0 rfl ?_)))
 refine E1 h fun c2 h => H8 (f := Ao) Ax Ax CT Lz KG (fun _ => rfl) c2 rfl (El CK E5 NQ rfl (qf Ck rfl (ql Gv rfl ?_)))
 refine E1 h fun c3 h => H8 (f := B6) CK CK E5 Ps NQ (fun _ => rfl) c3 rfl (AR B4 E6 rfl (qs AE rfl (AH (by kernel_rfl) ?_)))
 obtain rfl := sj h
 refine Ae (sm [(1000, 6), (1001, 10), (1002, 14)] [(2, oD (.ptr 2 0))] [(2, .box [.own 1000, .own 1001, .own 1002]), (1000, .vec 1 (((([] : List Int)) ++ p0.fe).map Ao)), (1001, .vec 1 (((([] : List Int)) ++ p0.fa).map Ao)), (1002, .vec 1 (((([] : List Int)) ++ p0.fd).map B6))] rfl rfl) (Aq ?_)
 exact ⟨⟨[_], ⟨.cellN _ _ _ _ _ _ _ rfl rfl A7 AE rfl rfl (Fq rfl), tv⟩, rfl⟩, ⟨rfl, rfl, rfl, tv⟩⟩
theorem Kd (N : Nat) (p0 : Ab) (r : (List Ab)) (h : Dq N p0 = some r) : As Tryz.prog 62 [.e (.agg (Ay p0))] [(3, r.map B5)] (oD (.own 0)) := by
 unfold Dq at h
 refine cw (n := 62) (rs := [.tmp 2]) Tryz.func62 fun w0 S0 => ?_
 refine wq rfl (qb rfl (qa rfl (Ad (wq rfl (qa rfl (Ad (wp rfl (qe rfl ?_))))))))
 refine AJ (L := BZ N p0) h (fun v1 => mk [(1, oD (.ptr 1 0)), (3, iD v1.1), (4, iD v1.2)] [(1, .box (Ay p0))]) (fun v2 => mk [(1, oD (.ptr 1 0)), (3, iD v2)] [(1, .box (Ay p0))]) (fun _ _ => rfl) (sm [] _ _ rfl rfl) (fun j1 n1 v1 h => ?_) (fun v2 s h hs => ?_)
 ·unfold BZ at h
  refine wp rfl (qm rfl (qf Bo rfl (ql A0 rfl (AG Ax rfl (A1 rfl (Ad ?_))))))
  refine Bh h (fun h => ?_) fun h => ?_
  ·refine Am ?_
   refine AM h (fun v4 => mk [(1, oD (.ptr 1 0)), (3, iD v4), (4, iD v1.2)] [(1, .box (Ay p0))]) (fun j4 h => ?_) (fun v4 h => ?_)
   ·refine AO (wq rfl (qf Bo rfl (ql A0 rfl (qm rfl ?_))))
    refine B3 h fun v5 a5 b5 h => qi Ax CT a5 (Ag b5) rfl (qk BV rfl (D1 rfl (Ad ?_)))
    refine Bh h (fun h => ?_) fun h => ?_
    ·refine Aj Az rfl (qm rfl (Bq rfl (qe rfl ?_)))
     exact sn [] h
    ·refine Am ?_
     exact sn [] h
   ·refine Aj Az rfl (qm rfl (Bq rfl (qe rfl ?_)))
    exact sn [] h
  ·refine AY ?_
   exact sn [] h
 ·refine Ae hs (wq rfl (qa rfl (Ad (wp rfl (qe rfl ?_)))))
  refine AJ (L := Be N p0 v2) h (fun v7 => mk [(1, oD (.ptr 1 0)), (3, iD v2), (5, oD (.own 2001)), (6, iD v7.2)] [(1, .box (Ay p0)), (2001, .vec 3 (v7.1.map B5))]) (fun v8 => mk [(5, oD (.own 2002))] [(2002, .vec 3 (v8.map B5))]) (fun _ _ => rfl) ((Ca 5 2022 3 rfl rfl rfl).trans (sm [(2001, 2022)] _ _ rfl rfl)) (fun j7 n7 v7 h => ?_) (fun v8 s h hs => ?_)
  ·unfold Be at h
   refine wp rfl (qw 2 rfl ?_)
   refine E1 h fun c9 h => HU rfl c9 (A1 rfl (Ad ?_))
   refine Bh h (fun h => ?_) fun h => ?_
   ·refine Am (AP (AO (wq rfl (qL A7 AE rfl ?_))))
    refine B9 h fun v11 a11 h => Av [2003, 2004, 2005] (Jg N p0 v11 a11) Xh rfl (qz B4 rfl (qs AE rfl (Ad (wq rfl (qa rfl (Ad (wp rfl (qe rfl ?_))))))))
    refine AJ (L := BB N p0 v7) h (fun v12 => mk [(1, oD (.ptr 1 0)), (3, iD v2), (5, oD (.own 2009)), (6, iD v7.2), (7, oD (.ptr 7 0)), (8, iD v12.2.1), (9, iD v12.2.2)] [(1, .box (Ay p0)), (7, .box [.own 2006, .own 2007, .own 2008]), (2006, .vec 1 (v11.fe.map Ao)), (2007, .vec 1 (v12.1.map Ao)), (2008, .vec 1 (v11.fd.map B6)), (2009, .vec 3 (v7.1.map B5))]) (fun v13 => mk [(1, oD (.ptr 1 0)), (3, iD v2), (5, oD (.own 2013)), (6, iD v7.2), (7, oD (.ptr 7 0))] [(1, .box (Ay p0)), (7, .box [.own 2010, .own 2011, .own 2012]), (2010, .vec 1 (v11.fe.map Ao)), (2011, .vec 1 (v13.map Ao)), (2012, .vec 1 (v11.fd.map B6)), (2013, .vec 3 (v7.1.map B5))]) (fun _ _ => rfl) (sm [(2006, 2003), (2007, 2004), (2008, 2005), (2009, 2001)] _ _ rfl rfl) (fun j12 n12 v12 h => ?_) (fun v13 s h hs => ?_)
    ·unfold BB at h
     refine wp rfl (qm rfl (qf Bo rfl (ql A0 rfl (AG Ax rfl (A1 rfl (Ad ?_))))))
     refine Bh h (fun h => ?_) fun h => ?_
     ·refine Am ?_
      refine AM h (fun v15 => mk [(1, oD (.ptr 1 0)), (3, iD v2), (5, oD (.own 2017)), (6, iD v7.2), (7, oD (.ptr 7 0)), (8, iD v15.2), (9, iD v12.2.2)] [(1, .box (Ay p0)), (7, .box [.own 2014, .own 2015, .own 2016]), (2014, .vec 1 (v11.fe.map Ao)), (2015, .vec 1 (v15.1.map Ao)), (2016, .vec 1 (v11.fd.map B6)), (2017, .vec 3 (v7.1.map B5))]) (fun j15 h => ?_) (fun v15 h => ?_)
      ·refine AO (wp rfl (qf Bo rfl (ql A0 rfl (qm rfl ?_))))
       refine B3 h fun v16 a16 b16 h => qi Ax CT a16 (Ag b16) rfl (qk BV rfl (A1 rfl (Ad ?_)))
       refine Bh h (fun h => ?_) fun h => ?_
       ·refine AY ?_
        exact sn [(2014, 2006), (2015, 2007), (2016, 2008), (2017, 2009)] h
       ·refine Am ?_
        refine AM h (fun v18 => mk [(1, oD (.ptr 1 0)), (3, iD v2), (5, oD (.own 2021)), (6, iD v7.2), (7, oD (.ptr 7 0)), (8, iD v12.2.1), (9, iD v12.2.2)] [(1, .box (Ay p0)), (7, .box [.own 2018, .own 2019, .own 2020]), (2018, .vec 1 (v11.fe.map Ao)), (2019, .vec 1 (v18.map Ao)), (2020, .vec 1 (v11.fd.map B6)), (2021, .vec 3 (v7.1.map B5))]) (fun j18 h => ?_) (fun v18 h => ?_)
        ·refine wq rfl (qw 2 rfl ?_)
         refine E1 h fun c19 h => If rfl c19 (JC rfl (by decide) (Bv rfl (Ad ?_)))
         refine Bh h (fun h => ?_) fun h => ?_
         ·refine Aj Az rfl (qf Bo rfl (ql A0 rfl (qm rfl ?_)))
          refine B3 h fun v21 a21 b21 h => qI Ax CT a21 (Ag b21) rfl ?_
          refine Ea rfl rfl rfl rfl (Ag b21) rfl CT rfl (Iq rfl) (Ec Ao v12.1 _ ((-1))) ?_
          refine Ad ?_
          exact sn [(2018, 2006), (2019, 2007), (2020, 2008), (2021, 2009)] h
         ·refine Am ?_
          exact sn [(2018, 2006), (2019, 2007), (2020, 2008), (2021, 2009)] h
        ·refine Aj Az rfl (qm rfl (Bq rfl (qe rfl ?_)))
         exact sn [(2014, 2018), (2015, 2019), (2016, 2020), (2017, 2021)] h
      ·refine Aj Az rfl (qm rfl (Bq rfl (qe rfl ?_)))
       exact sn [(2006, 2014), (2007, 2015), (2008, 2016), (2009, 2017)] h
     ·refine AY ?_
      exact sn [(2010, 2006), (2011, 2007), (2012, 2008), (2013, 2009)] h
    ·refine Ae hs (Aj Az rfl (qm rfl (qL A7 AE rfl (DA (AW 2010 _ _ rfl rfl) (DA (AW 2011 _ _ rfl rfl) (DA (AW 2012 _ _ rfl rfl) (El Ge AE B4 rfl ?_)))))))
     refine E1 h fun c22 h => Ek (f := B5) Ge Ge AE RH B4 c22 rfl (qa rfl (Ad (Aj Az rfl (qm rfl (Bq rfl (qe rfl ?_))))))
     exact sn [(2001, 60)] h
   ·refine AY ?_
    exact sn [(2002, 2001)] h
  ·refine Ae hs (wq rfl (qm rfl (qe rfl ?_)))
   obtain rfl := sj h
   refine Ae (sm [(1000, 2002)] [(2, oD (.own 1000))] [(1000, .vec 3 (v8.map B5))] rfl rfl) (Aq ?_)
   exact ⟨⟨[_], tm, rfl⟩, ⟨rfl, tv⟩⟩
theorem I4 (N : Nat) (p0 : Aa) (p1 : Ab) (r : (List Ab) × Int) (h : D3 N p0 p1 = some r) : As Tryz.prog 94 [.e (.agg (Ah p0)), .e (.agg (Ay p1))] [(3, r.1.map B5)] (.tup [.one (.own 0), .one (iC r.2)]) := by
 unfold D3 at h
 refine cw (n := 15) (rs := [.tmp 4, .tmp 5]) Tryz.func94 fun w0 S0 => ?_
 refine wq rfl (qb rfl (qb rfl (qa rfl (qa rfl (Ad (wp rfl (qL CI Cv rfl (qL A7 AE rfl ?_))))))))
 refine B9 h fun v1 a1 h => Av [] (Fv N p0 p1 v1 a1) UO rfl (qa rfl (Ad (wq rfl (qm rfl (By rfl (Ad ?_))))))
 refine Bh h (fun h => ?_) fun h => ?_
 ·refine wq rfl (qm rfl (qa rfl (qe rfl ?_)))
  obtain rfl := sj h
  refine Ae ((Ca 4 2001 3 rfl rfl rfl).trans (sm [(1000, 2001)] [(4, oD (.own 1000)), (5, iD v1)] [(1000, .vec 3 ((([] : List Ab)).map B5))] rfl rfl)) (Aq ?_)
  exact ⟨⟨[_, _], ⟨.tmp _ _ rfl, tm⟩, rfl⟩, ⟨rfl, tv⟩⟩
 ·refine Am (wq rfl (qL A7 AE rfl ?_))
  refine B9 h fun v3 a3 h => Av [2002] (Kd N p1 v3 a3) WW rfl (qa rfl (qe rfl ?_))
  obtain rfl := sj h
  refine Ae (sm [(1000, 2002)] [(4, oD (.own 1000)), (5, iD 0)] [(1000, .vec 3 (v3.map B5))] rfl rfl) (Aq ?_)
  exact ⟨⟨[_, _], ⟨.tmp _ _ rfl, tm⟩, rfl⟩, ⟨rfl, tv⟩⟩
open IntKind renaming wrap → wI
theorem Jt (N : Nat) (p0 : Aa) (p1 : Ab) (r : (List Af)) (h : DG N p0 p1 = some r) : As Tryz.prog 87 [.e (.agg (Ah p0)), .e (.agg (Ay p1))] [(3, r.map AN)] (oD (.own 0)) := by
 unfold DG at h
 refine cw (n := 111) (rs := [.tmp 4]) Tryz.func87 fun w0 S0 => ?_
 refine wq rfl (qb rfl (qb rfl (qa rfl (Ad (wq rfl (qa rfl (Ad (wp rfl (qe rfl ?_)))))))))
 refine AJ (L := B0 N p0 p1) h (fun v1 => mk [(2, oD (.ptr 2 0)), (3, oD (.ptr 3 0)), (5, oD (.own 2001)), (6, iD v1.2)] [(2, .box (Ah p0)), (3, .box (Ay p1)), (2001, .vec 3 (v1.1.map AN))]) (fun v2 => mk [(5, oD (.own 2002))] [(2002, .vec 3 (v2.map AN))]) (fun _ _ => rfl) ((Ca 5 2013 3 rfl rfl rfl).trans (sm [(2001, 2013)] _ _ rfl rfl)) (fun j1 n1 v1 h => ?_) (fun v2 s h hs => ?_)
 ·unfold B0 at h
  refine wp rfl (qm rfl (qf Ct rfl (ql GI rfl (AG DI rfl (A1 rfl (Ad ?_))))))
  refine Bh h (fun h => ?_) fun h => ?_
  ·refine Am (AP (AO (wq rfl (qf Ct rfl (ql GI rfl (qm rfl ?_))))))
   refine B3 h fun v4 a4 b4 h => qi DI DH a4 (Ag b4) rfl (qK GB DH rfl (qz KK rfl (qs DH rfl (Ad (wq rfl (qL A7 AE rfl (qf Cy rfl (ql BV rfl ?_))))))))
   refine B9 h fun v5 a5 h => Av [] (Dk N p1 v4.fg v5 a5) RJ rfl (qe rfl ?_)
   refine AM h (fun v6 => mk [(2, oD (.ptr 2 0)), (3, oD (.ptr 3 0)), (5, oD (.own 2003)), (6, iD v1.2), (7, oD (.ptr 7 0)), (8, pD (.val (.int .u8 v6)))] [(2, .box (Ah p0)), (3, .box (Ay p1)), (7, .box (A9 v4)), (2003, .vec 3 (v1.1.map AN))]) (fun j6 h => ?_) (fun v6 h => ?_)
   ·refine wq rfl (qL GB DH rfl ?_)
    refine B9 h fun v7 a7 h => Av [] (BT N v4 v7 a7) On rfl (Ad ?_)
    refine Bh h (fun h => ?_) fun h => ?_
    ·refine Aj Az rfl (qf Ck rfl (ql Gv rfl (qm rfl ?_)))
     refine B3 h fun v9 a9 b9 h => qi CK E5 a9 (Ag b9) rfl (qk I2 rfl (qe rfl ?_))
     exact sn [(2003, 2001)] h
    ·refine Am ?_
     exact sn [(2003, 2001)] h
   ·refine wq rfl (qe rfl ?_)
    refine AJ (L := Bj N p0 p1 v1 v4 v6) h (fun v10 => mk [(2, oD (.ptr 2 0)), (3, oD (.ptr 3 0)), (5, oD (.own 2004)), (6, iD v1.2), (7, oD (.ptr 7 0)), (8, pD (.val (.int .u8 v6))), (9, iD v10.2)] [(2, .box (Ah p0)), (3, .box (Ay p1)), (7, .box (A9 v4)), (2004, .vec 3 (v10.1.map AN))]) (fun v11 => mk [(2, oD (.ptr 2 0)), (3, oD (.ptr 3 0)), (5, oD (.own 2005)), (6, iD v1.2)] [(2, .box (Ah p0)), (3, .box (Ay p1)), (2005, .vec 3 (v11.map AN))]) (fun _ _ => rfl) (sm [(2004, 2003)] _ _ rfl rfl) (fun j10 n10 v10 h => ?_) (fun v11 s h hs => ?_)
    ·unfold Bj at h
     refine wp rfl (qm rfl (qf Bn rfl (ql A0 rfl (qf Cy rfl (ql BV rfl ?_)))))
     refine B3 h fun v12 a12 b12 h => qi Ax CT a12 (Ag b12) rfl (qk BV rfl (A1 rfl (Ad ?_)))
     refine Bh h (fun h => ?_) fun h => ?_
     ·refine Am ?_
      refine AM h (fun v14 => mk [(2, oD (.ptr 2 0)), (3, oD (.ptr 3 0)), (5, oD (.own 2006)), (6, iD v1.2), (7, oD (.ptr 7 0)), (8, pD (.val (.int .u8 v6))), (9, iD v10.2)] [(2, .box (Ah p0)), (3, .box (Ay p1)), (7, .box (A9 v4)), (2006, .vec 3 (v14.map AN))]) (fun j14 h => ?_) (fun v14 h => ?_)
      ·refine AO (wp rfl (qw 2 rfl ?_))
       refine B9 h fun v15 a15 h => Av [] (EW N v6 v10.2 v15 a15) Qr rfl (Cd rfl (Ad ?_))
       refine Bh h (fun h => ?_) fun h => ?_
       ·refine AY ?_
        exact sn [(2006, 2004)] h
       ·refine Am (wq rfl (qa rfl (Ad (wp rfl (qe rfl ?_)))))
        refine AJ (L := Ba N p0 p1 v1 v4 v10) h (fun v17 => mk [(2, oD (.ptr 2 0)), (3, oD (.ptr 3 0)), (5, oD (.own 2007)), (6, iD v1.2), (7, oD (.ptr 7 0)), (8, pD (.val (.int .u8 v6))), (9, iD v10.2), (10, bD v17.2.1), (11, iD v17.2.2)] [(2, .box (Ah p0)), (3, .box (Ay p1)), (7, .box (A9 v4)), (2007, .vec 3 (v17.1.map AN))]) (fun v18 => mk [(2, oD (.ptr 2 0)), (3, oD (.ptr 3 0)), (5, oD (.own 2008)), (6, iD v1.2), (7, oD (.ptr 7 0)), (8, pD (.val (.int .u8 v6))), (9, iD v10.2), (10, bD v18.2)] [(2, .box (Ah p0)), (3, .box (Ay p1)), (7, .box (A9 v4)), (2008, .vec 3 (v18.1.map AN))]) (fun _ _ => rfl) (sm [(2007, 2004)] _ _ rfl rfl) (fun j17 n17 v17 h => ?_) (fun v18 s h hs => ?_)
        ·unfold Ba at h
         refine wp rfl (qm rfl (qf Bn rfl (ql A0 rfl (qf Hf rfl (ql BV rfl ?_)))))
         refine B3 h fun v19 a19 b19 h => qi Ax CT a19 (Ag b19) rfl (qk BV rfl (A1 rfl (Ad ?_)))
         refine Bh h (fun h => ?_) fun h => ?_
         ·refine Am ?_
          refine AM h (fun v21 => mk [(2, oD (.ptr 2 0)), (3, oD (.ptr 3 0)), (5, oD (.own 2009)), (6, iD v1.2), (7, oD (.ptr 7 0)), (8, pD (.val (.int .u8 v6))), (9, iD v10.2), (10, bD v21.2), (11, iD v17.2.2)] [(2, .box (Ah p0)), (3, .box (Ay p1)), (7, .box (A9 v4)), (2009, .vec 3 (v21.1.map AN))]) (fun j21 h => ?_) (fun v21 h => ?_)
          ·refine AO (wp rfl (qL A7 AE rfl (qf Hf rfl (ql BV rfl ?_))))
           refine B9 h fun v22 a22 h => Av [] (Dk N p1 v4.fk v22 a22) RJ rfl (qm rfl ?_)
           refine B9 h fun v23 a23 h => Av [] (EW N v22 v17.2.2 v23 a23) Qr rfl (Cd rfl (Ad ?_))
           refine Bh h (fun h => ?_) fun h => ?_
           ·refine AY ?_
            exact sn [(2009, 2007)] h
           ·refine Am ?_
            refine AM h (fun v25 => mk [(2, oD (.ptr 2 0)), (3, oD (.ptr 3 0)), (5, oD (.own 2010)), (6, iD v1.2), (7, oD (.ptr 7 0)), (8, pD (.val (.int .u8 v6))), (9, iD v10.2), (10, bD v25), (11, iD v17.2.2)] [(2, .box (Ah p0)), (3, .box (Ay p1)), (7, .box (A9 v4)), (2010, .vec 3 (v17.1.map AN))]) (fun j25 h => ?_) (fun v25 h => ?_)
            ·refine Aj Az rfl (qw 2 rfl ?_)
             refine Dp 67 h rfl (fun h => ?_) fun h => ?_
             ·refine qw 8 rfl (qp rfl (qe rfl ?_))
              exact sn [(2010, 2007)] h
             ·refine qf Iy rfl (ql Je rfl (qm rfl ?_))
              refine B3 h fun v27 a27 b27 h => qi FQ L7 a27 (Ag b27) rfl (qk Om rfl (qm rfl ?_))
              refine B3 h fun v28 a28 b28 h => qi Gn P2 a28 (Ag b28) rfl (qk Qz rfl (qp rfl (qe rfl ?_)))
              exact sn [(2010, 2007)] h
            ·refine AM h (fun v29 => mk [(2, oD (.ptr 2 0)), (3, oD (.ptr 3 0)), (5, oD (.own 2011)), (6, iD v1.2), (7, oD (.ptr 7 0)), (8, pD (.val (.int .u8 v6))), (9, iD v10.2), (10, bD v25), (11, iD v17.2.2), (90, bD v29)] [(2, .box (Ah p0)), (3, .box (Ay p1)), (7, .box (A9 v4)), (2011, .vec 3 (v17.1.map AN))]) (fun j29 h => ?_) (fun v29 h => ?_)
             ·refine Aj Az rfl (qf HT rfl (ql Qz rfl (Cd rfl (qm rfl ?_))))
              refine Dp 80 h rfl (fun h => ?_) fun h => ?_
              ·refine qf Iy rfl (ql Je rfl (qm rfl ?_))
               refine B3 h fun v31 a31 b31 h => qi FQ L7 a31 (Ag b31) rfl (qk Om rfl (qm rfl ?_))
               refine B3 h fun v32 a32 b32 h => qi Gn P2 a32 (Ag b32) rfl (qk Qz rfl (Cd rfl (qp rfl (Ad ?_))))
               exact sn [(2011, 2010)] h
              ·refine qw 9 rfl (qp rfl (Ad ?_))
               exact sn [(2011, 2010)] h
             ·refine Bh h (fun h => ?_) fun h => ?_
              ·refine Aj Az rfl (qw 4 rfl (AR Fp Jz rfl (El Fy Dr Fp rfl ?_)))
               refine E1 h fun c34 h => Ek (f := AN) Fy Fy Dr Qt Fp c34 rfl (qe rfl ?_)
               exact sn [(2009, 97)] h
              ·refine Am ?_
               exact sn [(2009, 2011)] h
          ·refine Aj Az rfl (qm rfl (Bq rfl (qe rfl ?_)))
           exact sn [(2007, 2009)] h
         ·refine AY ?_
          exact sn [(2008, 2007)] h
        ·refine Ae hs ?_
         refine AM h (fun v35 => mk [(2, oD (.ptr 2 0)), (3, oD (.ptr 3 0)), (5, oD (.own 2012)), (6, iD v1.2), (7, oD (.ptr 7 0)), (8, pD (.val (.int .u8 v6))), (9, iD v10.2), (103, bD v35)] [(2, .box (Ah p0)), (3, .box (Ay p1)), (7, .box (A9 v4)), (2012, .vec 3 (v18.1.map AN))]) (fun j35 h => ?_) (fun v35 h => ?_)
         ·refine Aj Az rfl (qf HT rfl (ql Qz rfl (qm rfl ?_)))
          refine Dp 100 h rfl (fun h => ?_) fun h => ?_
          ·refine qm rfl (Cd rfl (qp rfl (Ad ?_)))
           exact sn [(2012, 2008)] h
          ·refine qw 2 rfl (qp rfl (Ad ?_))
           exact sn [(2012, 2008)] h
         ·refine Bh h (fun h => ?_) fun h => ?_
          ·refine Aj Az rfl (qw 3 rfl (AR Fp Jz rfl (El Fy Dr Fp rfl ?_)))
           refine E1 h fun c38 h => Ek (f := AN) Fy Fy Dr Qt Fp c38 rfl (qe rfl ?_)
           exact sn [(2006, 109)] h
          ·refine Am ?_
           exact sn [(2006, 2012)] h
      ·refine Aj Az rfl (qm rfl (Bq rfl (qe rfl ?_)))
       exact sn [(2004, 2006)] h
     ·refine AY ?_
      exact sn [(2005, 2004)] h
    ·refine Ae hs (Aj Az rfl (qm rfl (Bq rfl (qe rfl ?_))))
     exact sn [(2001, 2005)] h
  ·refine AY ?_
   exact sn [(2002, 2001)] h
 ·refine Ae hs (wq rfl (qm rfl (qe rfl ?_)))
  obtain rfl := sj h
  refine Ae (sm [(1000, 2002)] [(4, oD (.own 1000))] [(1000, .vec 3 (v2.map AN))] rfl rfl) (Aq ?_)
  exact ⟨⟨[_], tm, rfl⟩, ⟨rfl, tv⟩⟩
theorem Jp (N : Nat) (p0 : Aa) (p1 : Ab) (r : Ab × Af × Int) (h : Dz N p0 p1 = some r) : As Tryz.prog 73 [.e (.agg (Ah p0)), .e (.agg (Ay p1))] [] (.tup [.agg (Ay r.1), .agg (DT r.2.1), .one (iC r.2.2)]) := by
 unfold Dz at h
 refine cw (n := 46) (rs := [.cell 4 38, .cell 5 93, .tmp 6]) Tryz.func73 fun w0 S0 => ?_
 refine wq rfl (qb rfl (qb rfl (qz B4 rfl (qz Fp rfl (qa rfl (Ad (wq rfl (qL CI Cv rfl (qL A7 AE rfl ?_)))))))))
 refine B9 h fun v1 a1 h => Av [2001] (I4 N p0 p1 v1 a1) WB rfl (qm rfl (qx rfl (qx rfl (qa rfl (qa rfl (Ad (wp rfl (qm rfl (By rfl (Ad ?_))))))))))
 refine Bh h (fun h => ?_) fun h => ?_
 ·refine wq rfl (AR B4 E6 rfl (AR Fp Jz rfl (qm rfl (qs AE rfl (qs Dr rfl (qe rfl ?_))))))
  obtain rfl := sj h
  refine Ae ((Dn 4 _ rfl).trans (sm [] [(4, oD (.ptr 4 0)), (5, oD (.ptr 5 0)), (6, iD v1.2)] [(4, .box [sC ((([] : List Int)).map Ao), sC ((([] : List Int)).map Ao), sC ((([] : List Int)).map B6)]), (5, .box [iC 0, iC 0, iC 0])] rfl rfl)) (Aq ?_)
  exact ⟨⟨[_, _, _], ⟨.cellN _ _ _ _ _ _ _ rfl rfl A7 AE rfl rfl (Fq rfl), ⟨.cellN _ _ _ _ _ _ _ rfl rfl HQ Dr rfl rfl (Fq rfl), tm⟩⟩, rfl⟩, tv⟩
 ·refine Am (wp rfl (qe rfl ?_))
  refine AJ (L := B1 N p0 v1) h (fun v3 => mk [(2, oD (.ptr 2 0)), (4, oD (.ptr 4 0)), (5, oD (.ptr 5 0)), (7, oD (.own 2002)), (9, iD v3)] [(2, .box (Ah p0)), (4, .box [.pure (.nil0), .pure (.nil0), .pure (.nil0)]), (5, .box [iC 0, iC 0, iC 0]), (2002, .vec 3 (v1.1.map B5))]) (fun v4 => mk [(4, oD (.ptr 4 0)), (5, oD (.ptr 5 0))] [(4, .box [.pure (.nil0), .pure (.nil0), .pure (.nil0)]), (5, .box [iC 0, iC 0, iC 0])]) (fun _ _ => rfl) (sm [(2002, 2001)] _ _ rfl rfl) (fun j3 n3 v3 h => ?_) (fun v4 s h hs => ?_)
  ·unfold B1 at h
   refine wp rfl (qw 2 rfl (E9 Ge rfl (A1 rfl (Ad ?_))))
   refine Bh h (fun h => ?_) fun h => ?_
   ·refine Am (AP (AO (wq rfl (qL CI Cv rfl (qw 2 rfl ?_)))))
    refine B3 h fun v6 a6 b6 h => qI Ge AE a6 (Ag b6) rfl (qJ A7 AE (Ag b6) rfl ?_)
    refine B9 h fun v7 a7 h => Av [2003] (Jt N p0 v6 v7 a7) Wy rfl (qa rfl (AH (by kernel_rfl) (wq rfl (qm rfl (E9 Fy rfl (E0 rfl (Ad ?_)))))))
    refine Bh h (fun h => ?_) fun h => ?_
    ·refine wq rfl (qw 2 rfl ?_)
     refine B3 h fun v9 a9 b9 h => qI Ge AE a9 (Ag b9) rfl (qJ A7 AE (Ag b9) rfl (qm rfl ?_))
     refine B3 h fun v10 a10 b10 h => qI Fy Dr a10 (Ag b10) rfl (qJ HQ Dr (Ag b10) rfl (qs AE rfl (qs Dr rfl (qa rfl (AH (by kernel_rfl) ?_)))))
     obtain rfl := sj h
     refine Ae (sm [] [(4, oD (.ptr 4 0)), (5, oD (.ptr 5 0)), (6, iD 0)] [(4, .box (Ay v9)), (5, .box (DT v10))] rfl rfl) (Aq ?_)
     exact ⟨⟨[_, _, _], ⟨.cellN _ _ _ _ _ _ _ rfl rfl A7 AE rfl rfl (Fq rfl), ⟨.cellN _ _ _ _ _ _ _ rfl rfl HQ Dr rfl rfl (Fq rfl), tm⟩⟩, rfl⟩, tv⟩
    ·refine Am (Aj Az rfl (qm rfl (Bq rfl (qe rfl ?_))))
     exact sn [] h
   ·refine AY ?_
    exact sn [] h
  ·refine Ae hs (wq rfl (AR B4 E6 rfl (AR Fp Jz rfl (qs AE rfl (qs Dr rfl (qe rfl ?_))))))
   obtain rfl := sj h
   refine Ae ((Dn 4 _ rfl).trans (sm [] [(4, oD (.ptr 4 0)), (5, oD (.ptr 5 0)), (6, iD 15)] [(4, .box [sC ((([] : List Int)).map Ao), sC ((([] : List Int)).map Ao), sC ((([] : List Int)).map B6)]), (5, .box [iC 0, iC 0, iC 0])] rfl rfl)) (Aq ?_)
   exact ⟨⟨[_, _, _], ⟨.cellN _ _ _ _ _ _ _ rfl rfl A7 AE rfl rfl (Fq rfl), ⟨.cellN _ _ _ _ _ _ _ rfl rfl HQ Dr rfl rfl (Fq rfl), tm⟩⟩, rfl⟩, tv⟩
theorem JX (N : Nat) (p0 : Aa) (p1 : Ab) (r : Bool) (h : Da N p0 p1 = some r) : As Tryz.prog 74 [.e (.agg (Ah p0)), .e (.agg (Ay p1))] [] (bD r) := by
 unfold Da at h
 refine cw (n := 36) (rs := [.tmp 4]) Tryz.func74 fun w0 S0 => ?_
 refine wq rfl (qb rfl (qb rfl (qa rfl (Ad (wp rfl (qL CI Cv rfl (qL A7 AE rfl ?_)))))))
 refine B9 h fun v1 a1 h => Av [] (Fv N p0 p1 v1 a1) UO rfl (By rfl (Ad ?_))
 refine Bh h (fun h => ?_) fun h => ?_
 ·refine wq rfl (qe rfl ?_)
  obtain rfl := sj h
  refine Ae (sm [] [(4, bD false)] [] rfl rfl) (Aq ?_)
  exact ⟨⟨[_], tm, rfl⟩, tv⟩
 ·refine Am (wp rfl (qe rfl ?_))
  refine AJ (L := Cb N p0 p1) h (fun v3 => mk [(2, oD (.ptr 2 0)), (3, oD (.ptr 3 0)), (5, iD v3)] [(2, .box (Ah p0)), (3, .box (Ay p1))]) (fun v4 => mk [] []) (fun _ _ => rfl) (sm [] _ _ rfl rfl) (fun j3 n3 v3 h => ?_) (fun v4 s h hs => ?_)
  ·unfold Cb at h
   refine wp rfl (qm rfl (qf Cs rfl (ql A0 rfl (AG Ax rfl (A1 rfl (Ad ?_))))))
   refine Bh h (fun h => ?_) fun h => ?_
   ·refine Am (AP (AO ?_))
    refine AM h (fun v6 => mk [(2, oD (.ptr 2 0)), (3, oD (.ptr 3 0)), (5, iD v3), (35, bD v6)] [(2, .box (Ah p0)), (3, .box (Ay p1))]) (fun j6 h => ?_) (fun v6 h => ?_)
    ·refine Aj Az rfl (qf Bo rfl (ql A0 rfl (qm rfl ?_)))
     refine B3 h fun v7 a7 b7 h => qi Ax CT a7 (Ag b7) rfl (qk BV rfl (D1 rfl (qm rfl ?_)))
     refine Dp 23 h rfl (fun h => ?_) fun h => ?_
     ·refine qw 11 rfl (qp rfl (AH (by kernel_rfl) ?_))
      exact sn [] h
     ·refine qf Cs rfl (ql A0 rfl (qm rfl ?_))
      refine B3 h fun v9 a9 b9 h => qi Ax CT a9 (Ag b9) rfl (qk BV rfl (qf Hd rfl (ql A0 rfl (qm rfl ?_))))
      refine B3 h fun v10 a10 b10 h => qi Ax CT a10 (Ag b10) rfl (qk BV rfl (By rfl (qp rfl (AH (by kernel_rfl) ?_))))
      exact sn [] h
    ·refine Bh h (fun h => ?_) fun h => ?_
     ·refine wq rfl (qe rfl ?_)
      obtain rfl := sj h
      refine Ae (sm [] [(4, bD false)] [] rfl rfl) (Aq ?_)
      exact ⟨⟨[_], tm, rfl⟩, tv⟩
     ·refine Am (Aj Az rfl (qm rfl (Bq rfl (qe rfl ?_))))
      exact sn [] h
   ·refine AY ?_
    exact sn [] h
  ·refine Ae hs (wq rfl (qe rfl ?_))
   obtain rfl := sj h
   refine Ae (sm [] [(4, bD true)] [] rfl rfl) (Aq ?_)
   exact ⟨⟨[_], tm, rfl⟩, tv⟩
theorem IT (N : Nat) (p0 : Aa) (p1 : List Ac) (r : Int × Ab × Af × Int) (h : C6 N p0 p1 = some r) : As Tryz.prog 49 [.e (.agg (Ah p0)), pD (.sl (p1.map Ai))] [] (.tup [.one (iC r.1), .agg (Ay r.2.1), .agg (DT r.2.2.1), .one (iC r.2.2.2)]) := by
 unfold C6 at h
 refine cw (n := 80) (rs := [.tmp 4, .cell 5 38, .cell 6 93, .tmp 7]) Tryz.func49 fun w0 S0 => ?_
 refine wq rfl (qb rfl (qa rfl (qz B4 rfl (qz Fp rfl (qa rfl (Ad (wq rfl (qL CI Cv rfl ?_))))))))
 refine B9 h fun v1 a1 h => Av [2001, 2002, 2003] (G6 N p0 v1 a1) VS rfl (qm rfl (qx rfl (qx rfl (qz B4 rfl (qs AE rfl (qa rfl (Ad (wp rfl (qm rfl (By rfl (Ad ?_)))))))))))
 refine Bh h (fun h => ?_) fun h => ?_
 ·refine wq rfl (AR B4 E6 rfl (AR Fp Jz rfl (qm rfl (qa rfl (qs AE rfl (qs Dr rfl (qe rfl ?_)))))))
  obtain rfl := sj h
  refine Ae ((Dn 5 _ rfl).trans (sm [] [(4, iD 0), (5, oD (.ptr 5 0)), (6, oD (.ptr 6 0)), (7, iD v1.2)] [(5, .box [sC ((([] : List Int)).map Ao), sC ((([] : List Int)).map Ao), sC ((([] : List Int)).map B6)]), (6, .box [iC 0, iC 0, iC 0])] rfl rfl)) (Aq ?_)
  exact ⟨⟨[_, _, _, _], ⟨.tmp _ _ rfl, ⟨.cellN _ _ _ _ _ _ _ rfl rfl A7 AE rfl rfl (Fq rfl), ⟨.cellN _ _ _ _ _ _ _ rfl rfl HQ Dr rfl rfl (Fq rfl), tm⟩⟩⟩, rfl⟩, tv⟩
 ·refine Am (wp rfl (qe rfl ?_))
  refine AJ (L := BO N p0 p1) h (fun v3 => mk [(1, pD (.sl (p1.map Ai))), (2, oD (.ptr 2 0)), (5, oD (.ptr 5 0)), (6, oD (.ptr 6 0)), (8, oD (.ptr 8 0)), (10, iD v3.2.2.2)] [(2, .box (Ah p0)), (5, .box [.pure (.nil0), .pure (.nil0), .pure (.nil0)]), (6, .box [iC 0, iC 0, iC 0]), (8, .box [sC (v3.1.map Ao), sC (v3.2.1.map Ao), sC (v3.2.2.1.map B6)])]) (fun v4 => mk [(1, pD (.sl (p1.map Ai))), (2, oD (.ptr 2 0)), (5, oD (.ptr 5 0)), (6, oD (.ptr 6 0)), (8, oD (.ptr 8 0))] [(2, .box (Ah p0)), (5, .box [.pure (.nil0), .pure (.nil0), .pure (.nil0)]), (6, .box [iC 0, iC 0, iC 0]), (8, .box (Ay v4))]) (fun _ _ => rfl) ((AW 2001 _ _ rfl rfl).trans ((AW 2002 _ _ rfl rfl).trans ((AW 2003 _ _ rfl rfl).trans (sm [] _ _ rfl rfl)))) (fun j3 n3 v3 h => ?_) (fun v4 s h hs => ?_)
  ·unfold BO at h
   refine wp rfl (qw 2 rfl (AG Bk rfl (A1 rfl (Ad ?_))))
   refine Bh h (fun h => ?_) fun h => ?_
   ·refine Am (AP (AO ?_))
    refine AM h (fun v6 => mk [(1, pD (.sl (p1.map Ai))), (2, oD (.ptr 2 0)), (5, oD (.ptr 5 0)), (6, oD (.ptr 6 0)), (8, oD (.ptr 8 0)), (10, iD v3.2.2.2)] [(2, .box (Ah p0)), (5, .box [.pure (.nil0), .pure (.nil0), .pure (.nil0)]), (6, .box [iC 0, iC 0, iC 0]), (8, .box [sC (v6.1.map Ao), sC (v6.2.1.map Ao), sC (v6.2.2.map B6)])]) (fun j6 h => ?_) (fun v6 h => ?_)
    ·refine wq rfl (qm rfl (D1 rfl (Ad ?_)))
     refine Bh h (fun h => ?_) fun h => ?_
     ·refine wq rfl (qL CI Cv rfl (qL A7 AE rfl (qw 2 rfl ?_)))
      refine B3 h fun v8 a8 b8 h => qi Bk Cr a8 (Ag b8) rfl (qK Gw Cr rfl ?_)
      refine B9 h fun v9 a9 h => Av [2004, 2005, 2006] (Js N p0 ((Ab.mk v3.1 v3.2.1 v3.2.2.1)) v8 v9 a9) Xp rfl (qm rfl (qx rfl (qx rfl (qz B4 rfl (qs AE rfl (qa rfl (AH (by kernel_rfl) (AP ?_))))))))
      refine AM h (fun v10 => mk [(1, pD (.sl (p1.map Ai))), (2, oD (.ptr 2 0)), (5, oD (.ptr 5 0)), (6, oD (.ptr 6 0)), (8, oD (.ptr 8 0)), (10, iD v3.2.2.2), (11, oD (.ptr 11 0)), (53, bD v10)] [(2, .box (Ah p0)), (5, .box [.pure (.nil0), .pure (.nil0), .pure (.nil0)]), (6, .box [iC 0, iC 0, iC 0]), (8, .box [sC (v3.1.map Ao), sC (v3.2.1.map Ao), sC (v3.2.2.1.map B6)]), (11, .box [.own 2007, .own 2008, .own 2009]), (2007, .vec 1 (v9.1.fe.map Ao)), (2008, .vec 1 (v9.1.fa.map Ao)), (2009, .vec 1 (v9.1.fd.map B6))]) (fun j10 h => ?_) (fun v10 h => ?_)
      ·refine Aj Az rfl (qm rfl (By rfl (qm rfl ?_)))
       refine Dp 46 h rfl (fun h => ?_) fun h => ?_
       ·refine qw 6 rfl (qp rfl (Ad ?_))
        exact sn [(2007, 2004), (2008, 2005), (2009, 2006)] h
       ·refine qw 2 rfl ?_
        refine B3 h fun v12 a12 b12 h => qi Bk Cr a12 (Ag b12) rfl (qg DK rfl (qk BV rfl (Bv rfl (qp rfl (Ad ?_)))))
        exact sn [(2007, 2004), (2008, 2005), (2009, 2006)] h
      ·refine Bh h (fun h => ?_) fun h => ?_
       ·refine wq rfl (qm rfl (AR B4 E6 rfl (AR Fp Jz rfl (qa rfl (qs AE rfl (qs Dr rfl (qe rfl ?_)))))))
        obtain rfl := sj h
        refine Ae ((Dn 5 _ rfl).trans (sm [] [(4, iD v3.2.2.2), (5, oD (.ptr 5 0)), (6, oD (.ptr 6 0)), (7, iD 0)] [(5, .box [sC ((([] : List Int)).map Ao), sC ((([] : List Int)).map Ao), sC ((([] : List Int)).map B6)]), (6, .box [iC 0, iC 0, iC 0])] rfl rfl)) (Aq ?_)
        exact ⟨⟨[_, _, _, _], ⟨.tmp _ _ rfl, ⟨.cellN _ _ _ _ _ _ _ rfl rfl A7 AE rfl rfl (Fq rfl), ⟨.cellN _ _ _ _ _ _ _ rfl rfl HQ Dr rfl rfl (Fq rfl), tm⟩⟩⟩, rfl⟩, tv⟩
       ·refine Am (Aj Az rfl (qL A7 AE rfl (qs AE rfl (Ad ?_))))
        exact R7 _ h ((AW 2007 _ _ rfl rfl).trans ((AW 2008 _ _ rfl rfl).trans ((AW 2009 _ _ rfl rfl).trans (sm [] _ _ rfl rfl))))
     ·refine Am ?_
      exact sn [] h
    ·refine wq rfl (qL CI Cv rfl (qL A7 AE rfl ?_))
     refine B9 h fun v14 a14 h => Av [] (Jp N p0 ((Ab.mk v6.1 v6.2.1 v6.2.2)) v14 a14) WL rfl (qm rfl (qx rfl (qx rfl (qx rfl (qz B4 rfl (qz Fp rfl (qs AE rfl (qs Dr rfl (qa rfl (Ad (wq rfl (qm rfl (Bv rfl (Ad ?_))))))))))))))
     refine Bh h (fun h => ?_) fun h => ?_
     ·refine wq rfl (qm rfl (qL A7 AE rfl (qL HQ Dr rfl (qa rfl (qs AE rfl (qs Dr rfl (qa rfl (AH (by kernel_rfl) ?_))))))))
      obtain rfl := sj h
      refine Ae (sm [] [(4, iD v3.2.2.2), (5, oD (.ptr 5 0)), (6, oD (.ptr 6 0)), (7, iD 0)] [(5, .box (Ay v14.1)), (6, .box (DT v14.2.1))] rfl rfl) (Aq ?_)
      exact ⟨⟨[_, _, _, _], ⟨.tmp _ _ rfl, ⟨.cellN _ _ _ _ _ _ _ rfl rfl A7 AE rfl rfl (Fq rfl), ⟨.cellN _ _ _ _ _ _ _ rfl rfl HQ Dr rfl rfl (Fq rfl), tm⟩⟩⟩, rfl⟩, tv⟩
     ·refine Am (Aj Az rfl (qm rfl (Bq rfl (qe rfl ?_))))
      exact sn [] h
   ·refine AY ?_
    exact sn [] h
  ·refine Ae hs (wp rfl (qL CI Cv rfl (qL A7 AE rfl ?_)))
   refine B9 h fun v16 a16 h => Av [] (JX N p0 v4 v16 a16) Xk rfl (Cd rfl (Ad ?_))
   refine Bh h (fun h => ?_) fun h => ?_
   ·refine wq rfl (qm rfl (AG Bk rfl (AR B4 E6 rfl (AR Fp Jz rfl (qa rfl (qs AE rfl (qs Dr rfl (qe rfl ?_))))))))
    obtain rfl := sj h
    refine Ae ((Dn 5 _ rfl).trans (sm [] [(4, iD ((p1.length : Int))), (5, oD (.ptr 5 0)), (6, oD (.ptr 6 0)), (7, iD 14)] [(5, .box [sC ((([] : List Int)).map Ao), sC ((([] : List Int)).map Ao), sC ((([] : List Int)).map B6)]), (6, .box [iC 0, iC 0, iC 0])] rfl rfl)) (Aq ?_)
    exact ⟨⟨[_, _, _, _], ⟨.tmp _ _ rfl, ⟨.cellN _ _ _ _ _ _ _ rfl rfl A7 AE rfl rfl (Fq rfl), ⟨.cellN _ _ _ _ _ _ _ rfl rfl HQ Dr rfl rfl (Fq rfl), tm⟩⟩⟩, rfl⟩, tv⟩
   ·refine Am (wq rfl (AR B4 E6 rfl (AR Fp Jz rfl (qa rfl (qs AE rfl (qs Dr rfl (qe rfl ?_)))))))
    obtain rfl := sj h
    refine Ae ((Dn 5 _ rfl).trans (sm [] [(4, iD 0), (5, oD (.ptr 5 0)), (6, oD (.ptr 6 0)), (7, iD 15)] [(5, .box [sC ((([] : List Int)).map Ao), sC ((([] : List Int)).map Ao), sC ((([] : List Int)).map B6)]), (6, .box [iC 0, iC 0, iC 0])] rfl rfl)) (Aq ?_)
    exact ⟨⟨[_, _, _, _], ⟨.tmp _ _ rfl, ⟨.cellN _ _ _ _ _ _ _ rfl rfl A7 AE rfl rfl (Fq rfl), ⟨.cellN _ _ _ _ _ _ _ rfl rfl HQ Dr rfl rfl (Fq rfl), tm⟩⟩⟩, rfl⟩, tv⟩
theorem Jr (N : Nat) (p0 : Aa) (p1 : List Ac) (r : Bool) (h : CR N p0 p1 = some r) : As Tryz.prog 19 [.e (.agg (Ah p0)), pD (.sl (p1.map Ai))] [] (bD r) := by
 unfold CR at h
 refine cw (n := 19) (rs := [.tmp 4]) Tryz.func19 fun w0 S0 => ?_
 refine wq rfl (qb rfl (qa rfl (Ad (wq rfl (qL CI Cv rfl (qm rfl ?_))))))
 refine B9 h fun v1 a1 h => Av [] (IT N p0 p1 v1 a1) Xf rfl (qm rfl (qx rfl (qx rfl (qx rfl (qx rfl (qz B4 rfl (qz Fp rfl (qa rfl (qs AE rfl (qs Dr rfl (qa rfl (Ad (wq rfl (qm rfl (Bv rfl (qe rfl ?_))))))))))))))))
 obtain rfl := sj h
 refine Ae (sm [] [(4, bD ((v1.2.2.2 == 15)))] [] rfl rfl) (Aq ?_)
 exact ⟨⟨[_], tm, rfl⟩, tv⟩
theorem H5 (N : Nat) (p0 : BP) (p1 : List Ac) (p2 : List Int) (r : Bool) (h : CA N p0 p1 p2 = some r) : As Tryz.prog 6 [.e (.agg (Co p0)), pD (.sl (p1.map Ai)), pD (.sl (p2.map B6))] [] (bD r) := by
 unfold CA at h
 refine cw (n := 89) (rs := [.tmp 6]) Tryz.func6 fun w0 S0 => ?_
 refine wq rfl (qb rfl (qa rfl (Ad (wq rfl (qL WA WN rfl ?_)))))
 refine B9 h fun v1 a1 h => Av [2001, 2002, 2003, 2004] (KT N p0 v1 a1) XD rfl (qm rfl (qx rfl (qx rfl (qz ON rfl (qs Cv rfl (qa rfl (Ad (AP ?_))))))))
 refine AM h (fun v2 => mk [(1, pD (.sl (p1.map Ai))), (2, pD (.sl (p2.map B6))), (7, oD (.ptr 7 0)), (32, bD v2)] [(7, .box [.own 2005, .own 2006, .own 2007, .own 2008]), (2005, .vec 1 (v1.1.fb.map Ao)), (2006, .vec 1 (v1.1.fi.map Ao)), (2007, .vec 1 (v1.1.fo.map Ao)), (2008, .vec 6 (v1.1.fc.map AQ))]) (fun j2 h => ?_) (fun v2 h => ?_)
 ·refine Aj Az rfl ?_
  refine B9 h fun v3 a3 h => Av [] (G8 N v3 a3) Xv rfl (Cd rfl (qm rfl ?_))
  refine Dp 24 h rfl (fun h => ?_) fun h => ?_
  ·refine qw 2 rfl (qp rfl (qw 4 rfl (qp rfl (Ad ?_))))
   exact sn [(2005, 2001), (2006, 2002), (2007, 2003), (2008, 2004)] h
  ·refine qm rfl (Cd rfl (qp rfl (qm rfl ?_)))
   refine Dp 28 h rfl (fun h => ?_) fun h => ?_
   ·refine qw 3 rfl (qp rfl (Ad ?_))
    exact sn [(2005, 2001), (2006, 2002), (2007, 2003), (2008, 2004)] h
   ·refine qm rfl (AG Bk rfl (E0 rfl (qp rfl (Ad ?_))))
    exact sn [(2005, 2001), (2006, 2002), (2007, 2003), (2008, 2004)] h
 ·refine Bh h (fun h => ?_) fun h => ?_
  ·refine wq rfl ?_
   refine B9 h fun v7 a7 h => Av [] (G8 N v7 a7) Xv rfl (qe rfl ?_)
   obtain rfl := sj h
   refine Ae (sm [] [(6, bD v7)] [] rfl rfl) (Aq ?_)
   exact ⟨⟨[_], tm, rfl⟩, tv⟩
  ·refine Am (wq rfl (qL CI Cv rfl (qm rfl (DA (AW 2005 _ _ rfl rfl) (DA (AW 2006 _ _ rfl rfl) (DA (AW 2007 _ _ rfl rfl) (DA (AW 2008 _ _ rfl rfl) ?_)))))))
   refine B9 h fun v8 a8 h => Av [2009] (Ma N v1.1 p1 v8 a8) Vt rfl (qm rfl (qx rfl (qx rfl (qa rfl (qa rfl (Ad (wp rfl (qm rfl (By rfl (Ad ?_))))))))))
   refine Bh h (fun h => ?_) fun h => ?_
   ·refine wq rfl (qm rfl (Bv rfl (qe rfl ?_)))
    obtain rfl := sj h
    refine Ae (sm [] [(6, bD ((v8.2 == 13)))] [] rfl rfl) (Aq ?_)
    exact ⟨⟨[_], tm, rfl⟩, tv⟩
   ·refine Am (wq rfl (qa rfl (Ad (wq rfl (qa rfl (Ad (wp rfl (qm rfl (E9 Hp rfl (qm rfl (Ad ?_)))))))))))
    refine AJ (L := Bm N p2 v8) h (fun v10 => mk [(2, pD (.sl (p2.map B6))), (7, oD (.ptr 7 0)), (11, oD (.own 2010)), (12, iD v10.2.1), (44, oD (.own 2011)), (45, iD ((v8.1.length : Int))), (46, iD v10.2.2)] [(7, .box (Ah v1.1)), (2010, .vec 3 (v10.1.map Ai)), (2011, .vec 1 (v8.1.map (GF Ai)))]) (fun v11 => mk [(7, oD (.ptr 7 0)), (11, oD (.own 2012))] [(7, .box (Ah v1.1)), (2012, .vec 3 (v11.map Ai))]) (fun _ _ => rfl) ((Ca 11 2022 3 rfl rfl rfl).trans (sm [(2010, 2022), (2011, 2009)] _ _ rfl rfl)) (fun j10 n10 v10 h => ?_) (fun v11 s h hs => ?_)
    ·unfold Bm at h
     refine wq rfl (A1 rfl (Ad (AP ?_)))
     refine Bh h (fun h => ?_) fun h => ?_
     ·refine Am (AP (AO (wq rfl ?_)))
      refine B3 h fun v13 a13 b13 h => qI Hp NS a13 (Ag b13) rfl (qj P6 (Ag b13) rfl (qa rfl (Ad (wq rfl (El Bk Cr Ix rfl (qm rfl ?_))))))
      refine E1 h fun c14 h => H8 (f := Ai) Bk Bk Cr Qn Ix (fun _ => rfl) c14 rfl (qe rfl ?_)
      refine AJ (L := Bl N p2) h (fun v15 => mk [(2, pD (.sl (p2.map B6))), (7, oD (.ptr 7 0)), (11, oD (.own 2013)), (12, iD v15.2.1), (15, oD (.own 2014)), (44, oD (.own 2015)), (45, iD ((v8.1.length : Int))), (46, iD v10.2.2)] [(7, .box (Ah v1.1)), (2013, .vec 3 (v15.1.map Ai)), (2014, .vec 3 (v15.2.2.map Ai)), (2015, .vec 1 (v8.1.map (GF Ai)))]) (fun v16 => mk [(2, pD (.sl (p2.map B6))), (7, oD (.ptr 7 0)), (11, oD (.own 2016)), (12, iD v16.2), (44, oD (.own 2017)), (45, iD ((v8.1.length : Int))), (46, iD v10.2.2)] [(7, .box (Ah v1.1)), (2016, .vec 3 (v16.1.map Ai)), (2017, .vec 1 (v8.1.map (GF Ai)))]) (fun _ _ => rfl) (sm [(2013, 2010), (2014, 52), (2015, 2011)] _ _ rfl rfl) (fun j15 n15 v15 h => ?_) (fun v16 s h hs => ?_)
      ·unfold Bl at h
       refine wp rfl (qm rfl (E9 Bk rfl (E0 rfl (Ad ?_))))
       refine Bh h (fun h => ?_) fun h => ?_
       ·refine Am (AO (wq rfl (qe rfl ?_)))
        refine AM h (fun v18 => mk [(2, pD (.sl (p2.map B6))), (7, oD (.ptr 7 0)), (11, oD (.own 2018)), (12, iD v15.2.1), (15, oD (.own 2019)), (16, iD v18), (44, oD (.own 2020)), (45, iD ((v8.1.length : Int))), (46, iD v10.2.2)] [(7, .box (Ah v1.1)), (2018, .vec 3 (v15.1.map Ai)), (2019, .vec 3 (v15.2.2.map Ai)), (2020, .vec 1 (v8.1.map (GF Ai)))]) (fun j18 h => ?_) (fun v18 h => ?_)
        ·refine wq rfl (qw 2 rfl (AG MA rfl (A1 rfl (Ad ?_))))
         refine Bh h (fun h => ?_) fun h => ?_
         ·refine Aj Az rfl (qw 2 rfl ?_)
          refine B3 h fun v20 a20 b20 h => qi MA W9 a20 (Ag b20) rfl (qk Vp rfl (IS Uv Ur rfl (qm rfl (E9 Bk rfl ?_))))
          refine E1 h fun c21 h => JC rfl c21 (qe rfl ?_)
          exact sn [(2018, 2013), (2019, 2014), (2020, 2015)] h
         ·refine Am ?_
          exact sn [(2018, 2013), (2019, 2014), (2020, 2015)] h
        ·refine wq rfl (qm rfl (Bq rfl (qa rfl (Ad (wq rfl (qw 3 rfl ?_))))))
         refine B3 h fun v22 a22 b22 h => qI Bk Cr a22 (Ag b22) rfl (qJ Gw Cr (Ag b22) rfl (El Bk Cr Ix rfl ?_))
         refine E1 h fun c23 h => Ek (f := Ai) Bk Bk Cr Qn Ix c23 rfl (qa rfl (Ad (Aj Az rfl (qw 2 rfl ?_))))
         obtain ⟨c24, h⟩ := EQ h
         have w25 : 0 + ((v18).toNat) ≤ v15.2.2.length := by have := c24.2.1; have := c24.2.2; omega
         refine Hy Ai v15.2.2 (.p rfl) rfl (Hl Ai _ _ v15.2.2) rfl Bk Cr (.none _) (.some _ _ _ _ c24.1) tv ⟨rfl, tv⟩ c24.2.1 (by rw [Nat.zero_add]; exact c24.2.2) (Nat.zero_add _) rfl ?_
         refine qw 2 rfl (Bq rfl ?_)
         obtain ⟨c26, h⟩ := EQ h
         have w27 : (((wI .i64 (v18 + 1))).toNat) + ((v15.2.2.length - ((wI .i64 (v18 + 1))).toNat)) ≤ v15.2.2.length := by have := c26.2.1; have := c26.2.2; omega
         refine Hy Ai v15.2.2 (.p rfl) rfl (Hl Ai _ _ v15.2.2) rfl Bk Cr (.some _ _ _ _ c26.1) (.none _) ⟨rfl, tv⟩ tv c26.2.1 (by rw [Nat.zero_add]; exact c26.2.2) (Nat.zero_add _) rfl ?_
         obtain ⟨c28, h⟩ := EQ h
         have w30f : 0 + ((v18).toNat) + (((v15.2.2.drop (((wI .i64 (v18 + 1))).toNat)).take ((v15.2.2.length - ((wI .i64 (v18 + 1))).toNat)))).length ≤ v15.2.2.length := by have := c28; omega
         have w29 : (Gq v15.2.2 (0 + ((v18).toNat)) (((v15.2.2.drop (((wI .i64 (v18 + 1))).toNat)).take ((v15.2.2.length - ((wI .i64 (v18 + 1))).toNat))))).length = v15.2.2.length := FY w30f
         have w30 : 0 + ((v18).toNat + (((v15.2.2.drop (((wI .i64 (v18 + 1))).toNat)).take ((v15.2.2.length - ((wI .i64 (v18 + 1))).toNat)))).length) ≤ (Gq v15.2.2 (0 + ((v18).toNat)) (((v15.2.2.drop (((wI .i64 (v18 + 1))).toNat)).take ((v15.2.2.length - ((wI .i64 (v18 + 1))).toNat))))).length := by rw [w29]; have := c28; omega
         refine Mw Ai v15.2.2 (((v15.2.2.drop (((wI .i64 (v18 + 1))).toNat)).take ((v15.2.2.length - ((wI .i64 (v18 + 1))).toNat)))) (.p rfl) rfl (Ij Ai _ _ 0 ((v18).toNat) v15.2.2 w25) rfl rfl (K3 Ai _ _ (((wI .i64 (v18 + 1))).toNat) ((v15.2.2.length - ((wI .i64 (v18 + 1))).toNat)) v15.2.2 w27) ⟨rfl, tv⟩ Bk Bk Cr w30f rfl ?_
         refine qa rfl (AH (by kernel_rfl) ?_)
         exact R7 _ h ((Pu Ai (Gq v15.2.2 (0 + ((v18).toNat)) (((v15.2.2.drop (((wI .i64 (v18 + 1))).toNat)).take ((v15.2.2.length - ((wI .i64 (v18 + 1))).toNat))))) 15 2019 2021 3 (((v18).toNat + (((v15.2.2.drop (((wI .i64 (v18 + 1))).toNat)).take ((v15.2.2.length - ((wI .i64 (v18 + 1))).toNat)))).length)) rfl rfl rfl w30 rfl rfl).trans (sm [(2013, 76), (2014, 2021), (2015, 2020)] _ _ rfl rfl))
       ·refine AY ?_
        exact sn [(2016, 2013), (2017, 2015)] h
      ·refine Ae hs (Aj Az rfl (Bq rfl (qm rfl (Ad ?_))))
       exact sn [(2010, 2016), (2011, 2017)] h
     ·refine AY ?_
      exact sn [(2012, 2010)] h
    ·refine Ae hs (wq rfl (qL CI Cv rfl (qm rfl ?_)))
     refine B9 h fun v31 a31 h => Ip [] [2012] (Jr N v1.1 v11 v31 a31) Xi GC rfl (qe rfl ?_)
     obtain rfl := sj h
     refine Ae (sm [] [(6, bD v31)] [] rfl rfl) (Aq ?_)
     exact ⟨⟨[_], tm, rfl⟩, tv⟩
end Go.Lift
