/- Lemmas for WavesOrderCardSaid, which YtncnphcfgojgmaaDoorFinV5 proves. -/
import Derived.Test.YtncnphcfgojgmaaDoorCode2
namespace Go.Lift
open IntKind renaming wrap → wI
set_option maxRecDepth 10000
open Go.RowKit
open Go.Proofs
theorem GF (N : Nat) (p0 : Aa) (r : Int) (h : C7 N p0 = some r) : Ar Tryd.prog 10 [.e (.agg (Al p0))] [] (iD r) := by
 unfold C7 at h
 refine cw (n := 102) (rs := [.tmp 2]) Tryd.func10 fun w0 S0 => ?_
 refine wq rfl (qb rfl (qa rfl (Ab (AG ?_))))
 refine AO h (fun v1 => mk [(1, oD (.ptr 1 0)), (16, bD v1)] [(1, .box (Al p0))]) (fun j1 h => ?_) (fun v1 h => ?_)
 ·refine Ai Az rfl (qf Bn rfl (ql Bh rfl (AA Ax rfl (Ew rfl (qm rfl ?_)))))
  refine DO 11 h rfl (fun h => ?_) fun h => ?_
  ·refine qw 4 rfl (qp rfl (Ab ?_))
   exact sn [] h
  ·refine qf CO rfl (ql Hq rfl (AA DP rfl (Ew rfl (qp rfl (Ab ?_)))))
   exact sn [] h
 ·refine Bp h (fun h => ?_) fun h => ?_
  ·refine wq rfl (qe rfl ?_)
   obtain rfl := sj h
   refine Af (sm [] [(2, iD 3)] [] rfl rfl) (Ap ?_)
   exact ⟨⟨[_], tm, rfl⟩, tv⟩
  ·refine Am (AG ?_)
   refine AO h (fun v4 => mk [(1, oD (.ptr 1 0)), (32, bD v4)] [(1, .box (Al p0))]) (fun j4 h => ?_) (fun v4 h => ?_)
   ·refine Ai Az rfl (qf EV rfl (ql Bh rfl (AA Ax rfl (qf Bn rfl (ql Bh rfl (AA Ax rfl (BM rfl (qm rfl ?_))))))))
    refine DO 24 h rfl (fun h => ?_) fun h => ?_
    ·refine qw 7 rfl (qp rfl (Ab ?_))
     exact sn [] h
    ·refine qf GM rfl (ql Bh rfl (AA Ax rfl (qf Bn rfl (ql Bh rfl (AA Ax rfl (BM rfl (qp rfl (Ab ?_))))))))
     exact sn [] h
   ·refine Bp h (fun h => ?_) fun h => ?_
    ·refine wq rfl (qe rfl ?_)
     obtain rfl := sj h
     refine Af (sm [] [(2, iD 6)] [] rfl rfl) (Ap ?_)
     exact ⟨⟨[_], tm, rfl⟩, tv⟩
    ·refine Am (wp rfl (qe rfl ?_))
     refine AF (L := BQ N p0) h (fun v7 => mk [(1, oD (.ptr 1 0)), (3, iD v7)] [(1, .box (Al p0))]) (fun v8 => mk [(1, oD (.ptr 1 0))] [(1, .box (Al p0))]) (fun _ _ => rfl) (sm [] _ _ rfl rfl) (fun j7 n7 v7 h => ?_) (fun v8 s h hs => ?_)
     ·unfold BQ at h
      refine wp rfl (qm rfl (qf Bn rfl (ql Bh rfl (AA Ax rfl (A3 rfl (Ab ?_))))))
      refine Bp h (fun h => ?_) fun h => ?_
      ·refine Am (AG (AP (wq rfl (qf Bn rfl (ql Bh rfl (qm rfl ?_))))))
       refine CB h fun v10 a10 b10 h => qi Ax Dk a10 (Aj b10) rfl (qk B6 rfl (qe rfl ?_))
       refine AO h (fun v11 => mk [(1, oD (.ptr 1 0)), (3, iD v7), (84, bD v11)] [(1, .box (Al p0))]) (fun j11 h => ?_) (fun v11 h => ?_)
       ·refine Ai Az rfl (qm rfl (A3 rfl (qm rfl ?_)))
        refine DO 47 h rfl (fun h => ?_) fun h => ?_
        ·refine qw 2 rfl (qp rfl (qw 7 rfl (qp rfl (qw 8 rfl (qp rfl (qw 7 rfl (qp rfl (qw 8 rfl (qp rfl (Ab ?_))))))))))
         exact sn [] h
        ·refine qm rfl (Ew rfl (qp rfl (qm rfl ?_)))
         refine DO 51 h rfl (fun h => ?_) fun h => ?_
         ·refine qw 6 rfl (qp rfl (qw 8 rfl (qp rfl (qw 7 rfl (qp rfl (qw 8 rfl (qp rfl (Ab ?_))))))))
          exact sn [] h
         ·refine qf EV rfl (ql Bh rfl (qm rfl ?_))
          refine CB h fun v14 a14 b14 h => qi Ax Dk a14 (Aj b14) rfl (qk B6 rfl (A3 rfl (qp rfl (qm rfl ?_))))
          refine DO 59 h rfl (fun h => ?_) fun h => ?_
          ·refine qw 7 rfl (qp rfl (qw 7 rfl (qp rfl (qw 8 rfl (qp rfl (Ab ?_))))))
           exact sn [] h
          ·refine qf EV rfl (ql Bh rfl (qm rfl ?_))
           refine CB h fun v16 a16 b16 h => qi Ax Dk a16 (Aj b16) rfl (qk B6 rfl (qm rfl (FA rfl (qp rfl (qm rfl ?_)))))
           refine DO 68 h rfl (fun h => ?_) fun h => ?_
           ·refine qw 6 rfl (qp rfl (qw 8 rfl (qp rfl (Ab ?_))))
            exact sn [] h
           ·refine qf GM rfl (ql Bh rfl (qm rfl ?_))
            refine CB h fun v18 a18 b18 h => qi Ax Dk a18 (Aj b18) rfl (qk B6 rfl (A3 rfl (qp rfl (qm rfl ?_))))
            refine DO 76 h rfl (fun h => ?_) fun h => ?_
            ·refine qw 7 rfl (qp rfl (Ab ?_))
             exact sn [] h
            ·refine qf GM rfl (ql Bh rfl (qm rfl ?_))
             refine CB h fun v20 a20 b20 h => qi Ax Dk a20 (Aj b20) rfl (qk B6 rfl (qm rfl (FA rfl (qp rfl (Ab ?_)))))
             exact sn [] h
       ·refine Bp h (fun h => ?_) fun h => ?_
        ·refine wq rfl (qe rfl ?_)
         obtain rfl := sj h
         refine Af (sm [] [(2, iD 7)] [] rfl rfl) (Ap ?_)
         exact ⟨⟨[_], tm, rfl⟩, tv⟩
        ·refine Am (Ai Az rfl (qm rfl (Bt rfl (qe rfl ?_))))
         exact sn [] h
      ·refine A5 ?_
       exact sn [] h
     ·refine Af hs (wp rfl (qe rfl ?_))
      refine AF (L := BK N p0) h (fun v22 => mk [(1, oD (.ptr 1 0)), (5, iD v22)] [(1, .box (Al p0))]) (fun v23 => mk [] []) (fun _ _ => rfl) (sm [] _ _ rfl rfl) (fun j22 n22 v22 h => ?_) (fun v23 s h hs => ?_)
      ·unfold BK at h
       refine wp rfl (qm rfl (qf CO rfl (ql Hq rfl (AA DP rfl (A3 rfl (Ab ?_))))))
       refine Bp h (fun h => ?_) fun h => ?_
       ·refine Am (AG (AP (wq rfl (qL CI Ce rfl (qf CO rfl (ql Hq rfl (qm rfl ?_)))))))
        refine CB h fun v25 a25 b25 h => qi DP DN a25 (Aj b25) rfl (qK Hc DN rfl ?_)
        refine BT h fun v26 a26 h => As [] (Iq N p0 v25 v26 a26) Vp rfl (qa rfl (AI (by kernel_rfl) (wq rfl (qm rfl (BM rfl (Ab ?_))))))
        refine Bp h (fun h => ?_) fun h => ?_
        ·refine wq rfl (qm rfl (qe rfl ?_))
         obtain rfl := sj h
         refine Af (sm [] [(2, iD v26)] [] rfl rfl) (Ap ?_)
         exact ⟨⟨[_], tm, rfl⟩, tv⟩
        ·refine Am (Ai Az rfl (qm rfl (Bt rfl (qe rfl ?_))))
         exact sn [] h
       ·refine A5 ?_
        exact sn [] h
      ·refine Af hs (wq rfl (qe rfl ?_))
       obtain rfl := sj h
       refine Af (sm [] [(2, iD 0)] [] rfl rfl) (Ap ?_)
       exact ⟨⟨[_], tm, rfl⟩, tv⟩
theorem Io (N : Nat) (p0 : Aa) (r : Ad × Int) (h : Ej N p0 = some r) : Ar Tryd.prog 22 [.e (.agg (Al p0))] [(1, r.1.fe.map Ak), (1, r.1.fa.map Ak), (1, r.1.fc.map B5)] (.tup [.agg [.own 0, .own 1, .own 2], .one (iC r.2)]) := by
 unfold Ej at h
 refine cw (n := 68) (rs := [.cell 2 38, .tmp 3]) Tryd.func22 fun w0 S0 => ?_
 refine wq rfl (qb rfl (qz CM rfl (qa rfl (Ab (wp rfl (qL CI Ce rfl ?_))))))
 refine BT h fun v1 a1 h => As [] (GF N p0 v1 a1) VP rfl (qa rfl (Ab (wq rfl (qm rfl (BM rfl (Ab ?_))))))
 refine Bp h (fun h => ?_) fun h => ?_
 ·refine wq rfl (Bv CM H5 rfl (qm rfl (qs AH rfl (qe rfl ?_))))
  obtain rfl := sj h
  refine Af ((AD 2 0 2001 1 _ rfl rfl rfl rfl).trans ((AD 2 1 2002 1 _ rfl rfl rfl rfl).trans ((AD 2 2 2003 1 _ rfl rfl rfl rfl).trans (sm [(1000, 2001), (1001, 2002), (1002, 2003)] [(2, oD (.ptr 2 0)), (3, iD v1)] [(2, .box [.own 1000, .own 1001, .own 1002]), (1000, .vec 1 ((([] : List Int)).map Ak)), (1001, .vec 1 ((([] : List Int)).map Ak)), (1002, .vec 1 ((([] : List Int)).map B5))] rfl rfl)))) (Ap ?_)
  exact ⟨⟨[_, _], ⟨.cellN _ _ _ _ _ _ _ rfl rfl Br AH rfl rfl (Hi rfl), tm⟩, rfl⟩, ⟨rfl, rfl, rfl, tv⟩⟩
 ·refine Am (wq rfl (qz CM rfl (Ab (wp rfl (qe rfl ?_)))))
  refine AF (L := CS N p0) h (fun v3 => mk [(1, oD (.ptr 1 0)), (2, oD (.ptr 2 0)), (5, oD (.ptr 5 0)), (6, iD v3.2.2)] [(1, .box (Al p0)), (2, .box [.pure (.nil0), .pure (.nil0), .pure (.nil0)]), (5, .box [.own 2004, .own 2005, .pure (.nil0)]), (2004, .vec 1 (v3.1.map Ak)), (2005, .vec 1 (v3.2.1.map Ak))]) (fun v4 => mk [(1, oD (.ptr 1 0)), (2, oD (.ptr 2 0)), (5, oD (.ptr 5 0))] [(1, .box (Al p0)), (2, .box [.pure (.nil0), .pure (.nil0), .pure (.nil0)]), (5, .box [.own 2006, .own 2007, .pure (.nil0)]), (2006, .vec 1 (v4.1.map Ak)), (2007, .vec 1 (v4.2.map Ak))]) (fun _ _ => rfl) ((AD 5 0 2008 1 _ rfl rfl rfl rfl).trans ((AD 5 1 2009 1 _ rfl rfl rfl rfl).trans (sm [(2004, 2008), (2005, 2009)] _ _ rfl rfl))) (fun j3 n3 v3 h => ?_) (fun v4 s h hs => ?_)
  ·unfold CS at h
   refine wp rfl (qm rfl (qf Bn rfl (ql Bh rfl (AA Ax rfl (A3 rfl (Ab ?_))))))
   refine Bp h (fun h => ?_) fun h => ?_
   ·refine Am (AG (AP (wq rfl (qf C3 rfl (ql Bh rfl (qf EV rfl (ql Bh rfl (qm rfl ?_))))))))
    refine CB h fun v6 a6 b6 h => qi Ax Dk a6 (Aj b6) rfl (qk B6 rfl (Ev Ax Dk Ks rfl ?_))
    refine EN h fun c7 h => Dp (f := Ak) Ax Ax Dk Li Ks c7 rfl (qf C3 rfl (qs N9 rfl (AI (by kernel_rfl) (Ai Az rfl (qf B2 rfl (ql Bh rfl (Ev Ax Dk Ks rfl ?_)))))))
    refine EN h fun c8 h => Dp (f := Ak) Ax Ax Dk Li Ks c8 rfl (qf B2 rfl (qs N9 rfl (Ab (Ai Az rfl (qm rfl (Bt rfl (qe rfl ?_)))))))
    exact sn [(2004, 30), (2005, 35)] h
   ·refine A5 ?_
    exact sn [(2006, 2004), (2007, 2005)] h
  ·refine Af hs (wp rfl (qe rfl ?_))
   refine AF (L := CN N p0) h (fun v9 => mk [(1, oD (.ptr 1 0)), (2, oD (.ptr 2 0)), (5, oD (.ptr 5 0)), (7, iD v9.2)] [(1, .box (Al p0)), (2, .box [.pure (.nil0), .pure (.nil0), .pure (.nil0)]), (5, .box [.own 2010, .own 2011, .own 2012]), (2010, .vec 1 (v4.1.map Ak)), (2011, .vec 1 (v4.2.map Ak)), (2012, .vec 1 (v9.1.map B5))]) (fun v10 => mk [(2, oD (.ptr 2 0)), (5, oD (.ptr 5 0))] [(2, .box [.pure (.nil0), .pure (.nil0), .pure (.nil0)]), (5, .box [.own 2013, .own 2014, .own 2015]), (2013, .vec 1 (v4.1.map Ak)), (2014, .vec 1 (v4.2.map Ak)), (2015, .vec 1 (v10.map B5))]) (fun _ _ => rfl) ((AD 5 2 2019 1 _ rfl rfl rfl rfl).trans (sm [(2010, 2006), (2011, 2007), (2012, 2019)] _ _ rfl rfl)) (fun j9 n9 v9 h => ?_) (fun v10 s h hs => ?_)
   ·unfold CN at h
    refine wp rfl (qm rfl (qf CO rfl (ql Hq rfl (AA DP rfl (A3 rfl (Ab ?_))))))
    refine Bp h (fun h => ?_) fun h => ?_
    ·refine Am (AG (AP (wq rfl (qe rfl ?_))))
     refine AO h (fun v12 => mk [(1, oD (.ptr 1 0)), (2, oD (.ptr 2 0)), (5, oD (.ptr 5 0)), (7, iD v9.2), (8, pD (.val (.int .u8 v12)))] [(1, .box (Al p0)), (2, .box [.pure (.nil0), .pure (.nil0), .pure (.nil0)]), (5, .box [.own 2016, .own 2017, .own 2018]), (2016, .vec 1 (v4.1.map Ak)), (2017, .vec 1 (v4.2.map Ak)), (2018, .vec 1 (v9.1.map B5))]) (fun j12 h => ?_) (fun v12 h => ?_)
     ·refine wq rfl (qf CO rfl (ql Hq rfl (qm rfl ?_)))
      refine CB h fun v13 a13 b13 h => qi DP DN a13 (Aj b13) rfl (qK Hc DN rfl ?_)
      refine BT h fun v14 a14 h => As [] (Dl N v13 v14 a14) R5 rfl (Ab ?_)
      refine Bp h (fun h => ?_) fun h => ?_
      ·refine Ai Az rfl (qf EV rfl (ql Bh rfl (qf CO rfl (ql Hq rfl (qm rfl ?_)))))
       refine CB h fun v16 a16 b16 h => qi DP DN a16 (Aj b16) rfl (qg CQ rfl (qk B6 rfl ?_))
       refine CB h fun v17 a17 b17 h => qi Ax Dk a17 (Aj b17) rfl (qk B6 rfl ?_)
       refine EN h fun c18 h => HJ rfl c18 (qa rfl (AI (by kernel_rfl) ?_))
       exact sn [(2016, 2010), (2017, 2011), (2018, 2012)] h
      ·refine Am ?_
       exact sn [(2016, 2010), (2017, 2011), (2018, 2012)] h
     ·refine Ai Az rfl (qf Dn rfl (ql IW rfl (qm rfl (Ev DD GZ Of rfl ?_))))
      refine EN h fun c19 h => Dp (f := B5) DD DD GZ OU Of c19 rfl (qf Dn rfl (qs UE rfl (Ab (Ai Az rfl (qm rfl (Bt rfl (qe rfl ?_)))))))
      exact sn [(2010, 2016), (2011, 2017), (2012, 65)] h
    ·refine A5 ?_
     exact sn [(2013, 2010), (2014, 2011), (2015, 2012)] h
   ·refine Af hs (wq rfl (qL Br AH rfl (qs AH rfl (qe rfl ?_))))
    obtain rfl := sj h
    refine Af (sm [(1000, 2013), (1001, 2014), (1002, 2015)] [(2, oD (.ptr 2 0)), (3, iD 0)] [(2, .box [.own 1000, .own 1001, .own 1002]), (1000, .vec 1 (v4.1.map Ak)), (1001, .vec 1 (v4.2.map Ak)), (1002, .vec 1 (v10.map B5))] rfl rfl) (Ap ?_)
    exact ⟨⟨[_, _], ⟨.cellN _ _ _ _ _ _ _ rfl rfl Br AH rfl rfl (Hi rfl), tm⟩, rfl⟩, ⟨rfl, rfl, rfl, tv⟩⟩
theorem IC (N : Nat) (p0 : Aa) (p1 : List (List Ac)) (r : (List Ad) × Int) (h : Fo N p0 p1 = some r) : Ar Tryd.prog 14 [.e (.agg (Al p0)), pD (.sl (p1.map (FW Ah)))] [(3, r.1.map C6)] (.tup [.one (.own 0), .one (iC r.2)]) := by
 unfold Fo at h
 refine cw (n := 61) (rs := [.tmp 4, .tmp 5]) Tryd.func14 fun w0 S0 => ?_
 refine wq rfl (qb rfl (qa rfl (qa rfl (Ab (wp rfl (qL CI Ce rfl ?_))))))
 refine BT h fun v1 a1 h => As [] (Eu N p0 v1 a1) TD rfl (qa rfl (Ab (wq rfl (qm rfl (BM rfl (Ab ?_))))))
 refine Bp h (fun h => ?_) fun h => ?_
 ·refine wq rfl (qm rfl (qa rfl (qe rfl ?_)))
  obtain rfl := sj h
  refine Af ((BV 4 2001 3 rfl rfl rfl).trans (sm [(1000, 2001)] [(4, oD (.own 1000)), (5, iD v1)] [(1000, .vec 3 ((([] : List Ad)).map C6))] rfl rfl)) (Ap ?_)
  exact ⟨⟨[_, _], ⟨.tmp _ _ rfl, tm⟩, rfl⟩, ⟨rfl, tv⟩⟩
 ·refine Am (wq rfl (qL CI Ce rfl ?_))
  refine BT h fun v3 a3 h => As [2002, 2003, 2004] (HX N p0 v3 a3) Te rfl (qm rfl (qx rfl (qx rfl (qz CM rfl (qs AH rfl (qa rfl (Ab (wp rfl (qm rfl (BM rfl (Ab ?_)))))))))))
  refine Bp h (fun h => ?_) fun h => ?_
  ·refine wq rfl (qm rfl (qa rfl (qe rfl ?_)))
   obtain rfl := sj h
   refine Af ((BV 4 2005 3 rfl rfl rfl).trans (sm [(1000, 2005)] [(4, oD (.own 1000)), (5, iD v3.2)] [(1000, .vec 3 ((([] : List Ad)).map C6))] rfl rfl)) (Ap ?_)
   exact ⟨⟨[_, _], ⟨.tmp _ _ rfl, tm⟩, rfl⟩, ⟨rfl, tv⟩⟩
  ·refine Am (wq rfl (qL Br AH rfl (Dy (Ba 2002 _ _ rfl rfl) (Dy (Ba 2003 _ _ rfl rfl) (Dy (Ba 2004 _ _ rfl rfl) (Ev Ha AH CM rfl (qa rfl (Ab (wp rfl (qm rfl (AA Hd rfl (qm rfl (Ab ?_)))))))))))))
   refine AF (L := Eb N p0 p1) h (fun v5 => mk [(2, oD (.ptr 2 0)), (7, oD (.ptr 7 0)), (9, oD (.own 2006)), (29, pD (.sl (p1.map (FW Ah)))), (30, iD ((p1.length : Int))), (31, iD v5.2.2)] [(2, .box (Al p0)), (7, .box (AE v5.1)), (2006, .vec 3 (v5.2.1.map C6))]) (fun v6 => mk [(9, oD (.own 2007))] [(2007, .vec 3 (v6.map C6))]) (fun _ _ => rfl) (sm [(2006, 28)] _ _ rfl rfl) (fun j5 n5 v5 h => ?_) (fun v6 s h hs => ?_)
   ·unfold Eb at h
    refine wq rfl (A3 rfl (Ab (AG ?_)))
    refine Bp h (fun h => ?_) fun h => ?_
    ·refine Am (AG (AP (wq rfl ?_)))
     refine CB h fun v8 a8 b8 h => qi Hd Nn a8 (Aj b8) rfl (qk Pl rfl (qa rfl (Ab (wp rfl (qL CI Ce rfl (qL Br AH rfl (qm rfl ?_)))))))
     refine BT h fun v9 a9 h => As [] (Fu N p0 v5.1 v8 v9 a9) UA rfl (qm rfl (qx rfl (qx rfl (qa rfl (qe rfl ?_)))))
     refine AO h (fun v10 => mk [(2, oD (.ptr 2 0)), (7, oD (.ptr 7 0)), (9, oD (.own 2008)), (11, pD (.sl (v8.map Ah))), (29, pD (.sl (p1.map (FW Ah)))), (30, iD ((p1.length : Int))), (31, iD v5.2.2), (47, bD v10)] [(2, .box (Al p0)), (7, .box (AE v5.1)), (2008, .vec 3 (v5.2.1.map C6))]) (fun j10 h => ?_) (fun v10 h => ?_)
     ·refine Ai Az rfl (qm rfl (BM rfl (qm rfl ?_)))
      refine DO 44 h rfl (fun h => ?_) fun h => ?_
      ·refine qw 2 rfl (qp rfl (Ab ?_))
       exact sn [(2008, 2006)] h
      ·refine qm rfl (Ck rfl (qp rfl (Ab ?_)))
       exact sn [(2008, 2006)] h
     ·refine Bp h (fun h => ?_) fun h => ?_
      ·refine wq rfl (qa rfl (qe rfl ?_))
       obtain rfl := sj h
       refine Af ((BV 4 2009 3 rfl rfl rfl).trans (sm [(1000, 2009)] [(4, oD (.own 1000)), (5, iD 13)] [(1000, .vec 3 ((([] : List Ad)).map C6))] rfl rfl)) (Ap ?_)
       exact ⟨⟨[_, _], ⟨.tmp _ _ rfl, tm⟩, rfl⟩, ⟨rfl, tv⟩⟩
      ·refine Am (wq rfl (qL CI Ce rfl (qL Br AH rfl (qm rfl ?_))))
       refine BT h fun v13 a13 h => As [] (EU N p0 v5.1 v8 v13 a13) RP rfl (qm rfl (qx rfl (qx rfl (qs AH rfl (Ab (Ai Az rfl (qm rfl (qL Br AH rfl (Ev Ha AH CM rfl ?_)))))))))
       refine EN h fun c14 h => Dp (f := C6) Ha Ha AH So CM c14 rfl (qa rfl (Ab (Ai Az rfl (Bt rfl (qm rfl (Ab ?_))))))
       exact sn [(2006, 58)] h
    ·refine A5 ?_
     exact sn [(2007, 2006)] h
   ·refine Af hs (wq rfl (qm rfl (qa rfl (qe rfl ?_))))
    obtain rfl := sj h
    refine Af (sm [(1000, 2007)] [(4, oD (.own 1000)), (5, iD 0)] [(1000, .vec 3 (v6.map C6))] rfl rfl) (Ap ?_)
    exact ⟨⟨[_, _], ⟨.tmp _ _ rfl, tm⟩, rfl⟩, ⟨rfl, tv⟩⟩
theorem GA (N : Nat) (p0 : List Ac) (p1 : List Ac) (r : Bool) (h : DB N p0 p1 = some r) : Ar Tryd.prog 24 [pD (.sl (p0.map Ah)), pD (.sl (p1.map Ah))] [] (bD r) := by
 unfold DB at h
 refine cw (n := 26) (rs := [.tmp 4]) Tryd.func24 fun w0 S0 => ?_
 refine wq rfl (qa rfl (Ab (wp rfl (qm rfl (AA Bg rfl (qm rfl (AA Bg rfl (BM rfl (Ab ?_)))))))))
 refine Bp h (fun h => ?_) fun h => ?_
 ·refine wq rfl (qe rfl ?_)
  obtain rfl := sj h
  refine Af (sm [] [(4, bD false)] [] rfl rfl) (Ap ?_)
  exact ⟨⟨[_], tm, rfl⟩, tv⟩
 ·refine Am (wp rfl (qe rfl ?_))
  refine AF (L := C1 N p0 p1) h (fun v2 => mk [(0, pD (.sl (p0.map Ah))), (1, pD (.sl (p1.map Ah))), (5, iD v2)] []) (fun v3 => mk [] []) (fun _ _ => rfl) (sm [] _ _ rfl rfl) (fun j2 n2 v2 h => ?_) (fun v3 s h hs => ?_)
  ·unfold C1 at h
   refine wp rfl (qw 2 rfl (AA Bg rfl (A3 rfl (Ab ?_))))
   refine Bp h (fun h => ?_) fun h => ?_
   ·refine Am (AG (AP (wq rfl (qw 2 rfl ?_))))
    refine CB h fun v5 a5 b5 h => qi Bg B9 a5 (Aj b5) rfl (qK FY B9 rfl (qw 2 rfl ?_))
    refine CB h fun v6 a6 b6 h => qi Bg B9 a6 (Aj b6) rfl (qK FY B9 rfl ?_)
    refine T0 [.int .i64 v5.ff, .int .i64 v5.fh, .int .i64 v5.fi] [.int .i64 v6.ff, .int .i64 v6.fh, .int .i64 v6.fi] (.p rfl) rfl rfl Sz rfl ?_
    refine AI (by kernel_rfl) ?_
    refine Bp h (fun h => ?_) fun h => ?_
    ·refine wq rfl (qe rfl ?_)
     obtain rfl := sj h
     refine Af (sm [] [(4, bD false)] [] rfl rfl) (Ap ?_)
     exact ⟨⟨[_], tm, rfl⟩, tv⟩
    ·refine Am (Ai Az rfl (qm rfl (Bt rfl (qe rfl ?_))))
     exact sn [] h
   ·refine A5 ?_
    exact sn [] h
  ·refine Af hs (wq rfl (qe rfl ?_))
   obtain rfl := sj h
   refine Af (sm [] [(4, bD true)] [] rfl rfl) (Ap ?_)
   exact ⟨⟨[_], tm, rfl⟩, tv⟩
theorem IG (N : Nat) (p0 : List (List Ac)) (p1 : List (List Ac)) (r : Bool) (h : ED N p0 p1 = some r) : Ar Tryd.prog 23 [pD (.sl (p0.map (FW Ah))), pD (.sl (p1.map (FW Ah)))] [] (bD r) := by
 unfold ED at h
 refine cw (n := 27) (rs := [.tmp 4]) Tryd.func23 fun w0 S0 => ?_
 refine wq rfl (qa rfl (Ab (wp rfl (qm rfl (AA Hd rfl (qm rfl (AA Hd rfl (BM rfl (Ab ?_)))))))))
 refine Bp h (fun h => ?_) fun h => ?_
 ·refine wq rfl (qe rfl ?_)
  obtain rfl := sj h
  refine Af (sm [] [(4, bD false)] [] rfl rfl) (Ap ?_)
  exact ⟨⟨[_], tm, rfl⟩, tv⟩
 ·refine Am (wp rfl (qe rfl ?_))
  refine AF (L := C2 N p0 p1) h (fun v2 => mk [(0, pD (.sl (p0.map (FW Ah)))), (1, pD (.sl (p1.map (FW Ah)))), (5, iD v2)] []) (fun v3 => mk [] []) (fun _ _ => rfl) (sm [] _ _ rfl rfl) (fun j2 n2 v2 h => ?_) (fun v3 s h hs => ?_)
  ·unfold C2 at h
   refine wp rfl (qw 2 rfl (AA Hd rfl (A3 rfl (Ab ?_))))
   refine Bp h (fun h => ?_) fun h => ?_
   ·refine Am (AG (AP (wq rfl (qw 2 rfl ?_))))
    refine CB h fun v5 a5 b5 h => qi Hd Nn a5 (Aj b5) rfl (qk Pl rfl (qw 2 rfl ?_))
    refine CB h fun v6 a6 b6 h => qi Hd Nn a6 (Aj b6) rfl (qk Pl rfl ?_)
    refine BT h fun v7 a7 h => As [] (GA N v5 v6 v7 a7) Ul rfl (Ck rfl (AI (by kernel_rfl) ?_))
    refine Bp h (fun h => ?_) fun h => ?_
    ·refine wq rfl (qe rfl ?_)
     obtain rfl := sj h
     refine Af (sm [] [(4, bD false)] [] rfl rfl) (Ap ?_)
     exact ⟨⟨[_], tm, rfl⟩, tv⟩
    ·refine Am (Ai Az rfl (qm rfl (Bt rfl (qe rfl ?_))))
     exact sn [] h
   ·refine A5 ?_
    exact sn [] h
  ·refine Af hs (wq rfl (qe rfl ?_))
   obtain rfl := sj h
   refine Af (sm [] [(4, bD true)] [] rfl rfl) (Ap ?_)
   exact ⟨⟨[_], tm, rfl⟩, tv⟩
theorem Ll (N : Nat) (p0 : Aa) (p1 : List (List Ac)) (r : Bool) (h : Gy N p0 p1 = some r) : Ar Tryd.prog 15 [.e (.agg (Al p0)), pD (.sl (p1.map (FW Ah)))] [] (bD r) := by
 unfold Gy at h
 refine cw (n := 40) (rs := [.tmp 4]) Tryd.func15 fun w0 S0 => ?_
 refine wq rfl (qb rfl (qa rfl (Ab (wq rfl (qL CI Ce rfl (qm rfl ?_))))))
 refine BT h fun v1 a1 h => As [2001] (IC N p0 p1 v1 a1) UG rfl (qm rfl (qx rfl (qx rfl (qa rfl (qa rfl (Ab (wp rfl (qm rfl (BM rfl (Ab ?_))))))))))
 refine Bp h (fun h => ?_) fun h => ?_
 ·refine wq rfl (qe rfl ?_)
  obtain rfl := sj h
  refine Af (sm [] [(4, bD false)] [] rfl rfl) (Ap ?_)
  exact ⟨⟨[_], tm, rfl⟩, tv⟩
 ·refine Am (wq rfl (qL CI Ce rfl (qm rfl ?_)))
  refine CB h fun v3 a3 b3 h => qI Ha AH a3 (Aj b3) rfl (qJ Br AH (Aj b3) rfl ?_)
  refine BT h fun v4 a4 h => As [] (Ho N p0 v3 v4 a4) TB rfl (qm rfl (qx rfl (qx rfl (qa rfl (qa rfl (AI (by kernel_rfl) ?_))))))
  refine AO h (fun v5 => mk [(4, bD v5)] []) (fun j5 h => ?_) (fun v5 h => ?_)
  ·refine Ai Az rfl (qm rfl (BC rfl (qm rfl ?_)))
   refine DO 27 h rfl (fun h => ?_) fun h => ?_
   ·refine qm rfl (qp rfl (qm rfl ?_))
    refine DO 30 h rfl (fun h => ?_) fun h => ?_
    ·refine qL CI Ce rfl (qw 2 rfl (FX Ha rfl (KF rfl ?_)))
     refine CB h fun v8 a8 b8 h => qI Ha AH a8 (Aj b8) rfl (qJ Br AH (Aj b8) rfl ?_)
     refine BT h fun v9 a9 h => As [] (Kz N p0 v8 v9 a9) TQ rfl (qp rfl (qa rfl (AI (by kernel_rfl) ?_)))
     exact sn [] h
    ·refine qw 8 rfl (qp rfl (qa rfl (AI (by kernel_rfl) ?_)))
     exact sn [] h
   ·refine qn rfl (qp rfl (qw 9 rfl (qp rfl (qa rfl (AI (by kernel_rfl) ?_)))))
    exact sn [] h
  ·obtain rfl := sj h
   refine Af (sm [] [(4, bD v5)] [] rfl rfl) (Ap ?_)
   exact ⟨⟨[_], tm, rfl⟩, tv⟩
theorem La (N : Nat) (p0 : List (List Ac)) (r : Int) (h : F4 N p0 = some r) : Ar Tryd.prog 16 [pD (.sl (p0.map (FW Ah)))] [] (iD r) := by
 unfold F4 at h
 refine cw (n := 27) (rs := [.tmp 2]) Tryd.func16 fun w0 S0 => ?_
 refine wq rfl (qa rfl (Ab (wq rfl (qa rfl (Ab (wp rfl (qm rfl (AA Hd rfl (qm rfl (Ab ?_))))))))))
 refine AF (L := DX N p0) h (fun v1 => mk [(3, iD v1.1), (7, pD (.sl (p0.map (FW Ah)))), (8, iD ((p0.length : Int))), (9, iD v1.2)] []) (fun v2 => mk [(3, iD v2)] []) (fun _ _ => rfl) (sm [] _ _ rfl rfl) (fun j1 n1 v1 h => ?_) (fun v2 s h hs => ?_)
 ·unfold DX at h
  refine wq rfl (A3 rfl (Ab (AG ?_)))
  refine Bp h (fun h => ?_) fun h => ?_
  ·refine Am (AG (AP (wq rfl ?_)))
   refine CB h fun v4 a4 b4 h => qi Hd Nn a4 (Aj b4) rfl (qk Pl rfl (qa rfl (Ab (wq rfl (qm rfl (AA Bg rfl (qm rfl (Ab ?_))))))))
   refine AF (L := DT N v4) h (fun v5 => mk [(3, iD v5.1), (7, pD (.sl (p0.map (FW Ah)))), (8, iD ((p0.length : Int))), (9, iD v1.2), (14, iD ((v4.length : Int))), (15, iD v5.2)] []) (fun v6 => mk [(3, iD v6), (7, pD (.sl (p0.map (FW Ah)))), (8, iD ((p0.length : Int))), (9, iD v1.2)] []) (fun _ _ => rfl) (sm [] _ _ rfl rfl) (fun j5 n5 v5 h => ?_) (fun v6 s h hs => ?_)
   ·unfold DT at h
    refine wq rfl (A3 rfl (Ab (AG ?_)))
    refine Bp h (fun h => ?_) fun h => ?_
    ·refine Am (AG (AP (wq rfl (qm rfl (qa rfl (Ab (Ai Az rfl (qw 2 rfl (Bt rfl ?_)))))))))
     refine OM (.p rfl) rfl rfl ?_
     refine I3 rfl ?_
     refine OM (.p rfl) rfl rfl ?_
     refine qa rfl (Ab (Ai Az rfl (Bt rfl (qm rfl (Ab ?_)))))
     exact sn [] h
    ·refine A5 ?_
     exact sn [] h
   ·refine Af hs (Ai Az rfl (Bt rfl (qm rfl (Ab ?_))))
    exact sn [] h
  ·refine A5 ?_
   exact sn [] h
 ·refine Af hs (wq rfl (qm rfl (qe rfl ?_)))
  obtain rfl := sj h
  refine Af (sm [] [(2, iD v2)] [] rfl rfl) (Ap ?_)
  exact ⟨⟨[_], tm, rfl⟩, tv⟩
theorem Ga (N : Nat) (r : Bool) (h : CK N = some r) : Ar Tryd.prog 7 [] [] (bD r) := by
 unfold CK at h
 refine cw (n := 107) (rs := [.tmp 0]) Tryd.func7 fun w0 S0 => ?_
 refine wq rfl (qa rfl (Ab (wq rfl ?_)))
 refine BT h fun v1 a1 h => As [2001, 2002, 2003, 2004] (HO N v1 a1) Vs rfl (qm rfl (qx rfl (qx rfl (qz NZ rfl (qs Ce rfl (qa rfl (Ab (wq rfl (qL CI Ce rfl (qm rfl (Dy (Ba 2001 _ _ rfl rfl) (Dy (Ba 2002 _ _ rfl rfl) (Dy (Ba 2003 _ _ rfl rfl) (Dy (Ba 2004 _ _ rfl rfl) ?_))))))))))))))
 refine BT h fun v2 a2 h => As [2005] (Ol N v1.1 v1.2 v2 a2) UN rfl (qm rfl (qx rfl (qx rfl (qa rfl (qa rfl (Ab (wq rfl (qL CI Ce rfl ?_))))))))
 refine BT h fun v3 a3 h => As [2006, 2007, 2008] (Io N v1.1 v3 a3) Vg rfl (qm rfl (qx rfl (qx rfl (qz CM rfl (qs AH rfl (qa rfl (Ab (wq rfl (qL CI Ce rfl (qL Br AH rfl (qm rfl (Dy (Ba 2006 _ _ rfl rfl) (Dy (Ba 2007 _ _ rfl rfl) (Dy (Ba 2008 _ _ rfl rfl) ?_))))))))))))))
 refine BT h fun v4 a4 h => As [] (JV N v1.1 v3.1 v1.2 v4 a4) TP rfl (qm rfl (qx rfl (qx rfl (qa rfl (qa rfl (Ab (wq rfl (qL CI Ce rfl (qL Br AH rfl (qm rfl ?_))))))))))
 refine EN h fun c5 h => GI (.p rfl) rfl Bg B9 (EL (f := Ah) (n := 3) (fun _ => rfl) _) (.none _) (.some _ _ _ _ c5.1) tv ⟨rfl, tv⟩ (by have := c5.2.1; (try simp only [List.length_map]); omega) (by have := c5.2.2; (try simp only [List.length_map]); omega) (FR Ah v1.2 _ _ ((2 : Int).toNat - 0) rfl) ?_
 refine BT h fun v6 a6 h => As [] (Fu N v1.1 v3.1 (((v1.2.drop 0).take ((2 : Int).toNat - 0))) v6 a6) UA rfl (qm rfl (qx rfl (qx rfl (qa rfl (qa rfl (AI (by kernel_rfl) (wq rfl (qL CI Ce rfl (qm rfl (Dy (Ba 2005 _ _ rfl rfl) ?_))))))))))
 refine BT h fun v7 a7 h => As [2009] (IC N v1.1 v2.1 v7 a7) UG rfl (qm rfl (qx rfl (qx rfl (qa rfl (qe rfl ?_)))))
 refine AO h (fun v8 => mk [(0, bD v8)] []) (fun j8 h => ?_) (fun v8 h => ?_)
 ·refine Ai Az rfl (qm rfl (BC rfl (qm rfl ?_)))
  refine DO 51 h rfl (fun h => ?_) fun h => ?_
  ·refine qw 2 rfl ?_
   refine EN h fun c10 h => GI (.g rfl rfl) rfl Bg B9 (EL (f := Ah) (n := 3) (fun _ => rfl) _) (.none _) (.some _ _ _ _ c10.1) tv ⟨rfl, tv⟩ (by have := c10.2.1; (try simp only [List.length_map]); omega) (by have := c10.2.2; (try simp only [List.length_map]); omega) (FR Ah v1.2 _ _ ((2 : Int).toNat - 0) rfl) ?_
   refine qm rfl ?_
   refine EN h fun c11 h => GI (.g rfl rfl) rfl Bg B9 (EL (f := Ah) (n := 3) (fun _ => rfl) _) (.some _ _ _ _ c11.1) (.none _) ⟨rfl, tv⟩ tv (by have := c11.2.1; (try simp only [List.length_map]); omega) (by have := c11.2.2; (try simp only [List.length_map]); omega) (FR Ah v1.2 _ _ (v1.2.length - (2 : Int).toNat) (by rw [List.length_map])) ?_
   refine Ev Hd Nn Q8 rfl ?_
   refine BT h fun v12 a12 h => FL [] [57] (IG N v2.1 (([((v1.2.drop 0).take ((2 : Int).toNat - 0)), ((v1.2.drop (2 : Int).toNat).take (v1.2.length - (2 : Int).toNat))] : List (List Ac))) v12 a12) U7 D7 rfl (qp rfl (qm rfl ?_))
   refine DO 60 h rfl (fun h => ?_) fun h => ?_
   ·refine qm rfl (BC rfl (qp rfl (qm rfl ?_)))
    refine DO 64 h rfl (fun h => ?_) fun h => ?_
    ·refine qw 2 rfl ?_
     refine CB h fun v15 a15 b15 h => qi Bg B9 a15 (Aj b15) rfl (qK FY B9 rfl (qm rfl ?_))
     refine CB h fun v16 a16 b16 h => qi Bg B9 a16 (Aj b16) rfl (qK FY B9 rfl (qm rfl ?_))
     refine CB h fun v17 a17 b17 h => qi Bg B9 a17 (Aj b17) rfl (qK FY B9 rfl (qm rfl ?_))
     refine CB h fun v18 a18 b18 h => qi Bg B9 a18 (Aj b18) rfl (qK FY B9 rfl (Ev Bg B9 H1 rfl ?_))
     refine BT h fun v19 a19 h => FL [] [78] (GA N v4.1 (([v15, v16, v17, v18] : List Ac)) v19 a19) Ul D7 rfl (qp rfl (qm rfl ?_))
     refine DO 81 h rfl (fun h => ?_) fun h => ?_
     ·refine qm rfl (qp rfl (qm rfl ?_))
      refine DO 84 h rfl (fun h => ?_) fun h => ?_
      ·refine qm rfl (BC rfl (qp rfl (qm rfl ?_)))
       refine DO 88 h rfl (fun h => ?_) fun h => ?_
       ·refine qm rfl (BC rfl (qp rfl (qm rfl ?_)))
        refine DO 92 h rfl (fun h => ?_) fun h => ?_
        ·refine qm rfl (FX Ha rfl (BC rfl (qp rfl (qm rfl ?_))))
         refine DO 97 h rfl (fun h => ?_) fun h => ?_
         ·refine qL CI Ce rfl (qm rfl ?_)
          refine BT h fun v25 a25 h => As [] (Ll N v1.1 v2.1 v25 a25) UV rfl (qp rfl (qm rfl ?_))
          refine DO 102 h rfl (fun h => ?_) fun h => ?_
          ·refine qm rfl ?_
           refine BT h fun v27 a27 h => As [] (La N v2.1 v27 a27) UX rfl (BC rfl (qp rfl (qa rfl (AI (by kernel_rfl) ?_))))
           exact sn [] h
          ·refine qw 3 rfl (qp rfl (qa rfl (AI (by kernel_rfl) ?_)))
           exact sn [] h
         ·refine qw 3 rfl (qp rfl (qw 4 rfl (qp rfl (qa rfl (AI (by kernel_rfl) ?_)))))
          exact sn [] h
        ·refine qw 3 rfl (qp rfl (qw 4 rfl (qp rfl (qw 4 rfl (qp rfl (qa rfl (AI (by kernel_rfl) ?_)))))))
         exact sn [] h
       ·refine qw 2 rfl (qp rfl (qw 4 rfl (qp rfl (qw 4 rfl (qp rfl (qw 4 rfl (qp rfl (qa rfl (AI (by kernel_rfl) ?_)))))))))
        exact sn [] h
      ·refine qw 2 rfl (qp rfl (qw 3 rfl (qp rfl (qw 4 rfl (qp rfl (qw 4 rfl (qp rfl (qw 4 rfl (qp rfl (qa rfl (AI (by kernel_rfl) ?_)))))))))))
       exact sn [] h
     ·refine qn rfl (qp rfl (qw 3 rfl (qp rfl (qw 3 rfl (qp rfl (qw 4 rfl (qp rfl (qw 4 rfl (qp rfl (qw 4 rfl (qp rfl (qa rfl (AI (by kernel_rfl) ?_)))))))))))))
      exact sn [] h
    ·refine qw 15 rfl (qp rfl (qw 2 rfl (qp rfl (qw 3 rfl (qp rfl (qw 3 rfl (qp rfl (qw 4 rfl (qp rfl (qw 4 rfl (qp rfl (qw 3 rfl ?_))))))))))))
     refine qn rfl (qp rfl (qa rfl (AI (by kernel_rfl) ?_)))
     exact sn [] h
   ·refine qw 2 rfl (qp rfl (qw 16 rfl (qp rfl (qw 2 rfl (qp rfl (qw 3 rfl (qp rfl (qw 3 rfl (qp rfl (qw 4 rfl (qp rfl (qw 4 rfl ?_))))))))))))
    refine qp rfl (qw 4 rfl (qp rfl (qa rfl (AI (by kernel_rfl) ?_))))
    exact sn [] h
  ·refine qw 7 rfl (qp rfl (qw 3 rfl (qp rfl (qw 16 rfl (qp rfl (qw 2 rfl (qp rfl (qw 3 rfl (qp rfl (qw 3 rfl (qp rfl ?_)))))))))))
   refine qw 4 rfl (qp rfl (qw 4 rfl (qp rfl (qw 4 rfl (qp rfl (qa rfl (AI (by kernel_rfl) ?_)))))))
   exact sn [] h
 ·obtain rfl := sj h
  refine Af (sm [] [(0, bD v8)] [] rfl rfl) (Ap ?_)
  exact ⟨⟨[_], tm, rfl⟩, tv⟩
theorem EZ (N : Nat) (p0 : List Int) (p1 : Int) (r : Int) (h : BX N p0 p1 = some r) : Ar Tryd.prog 25 [pD (.sl (p0.map B5)), iD p1] [] (iD r) := by
 unfold BX at h
 refine cw (n := 14) (rs := [.tmp 4]) Tryd.func25 fun w0 S0 => ?_
 refine wq rfl (qa rfl (Ab (wp rfl (qw 2 rfl (AA K2 rfl (A3 rfl (Ab ?_)))))))
 refine Bp h (fun h => ?_) fun h => ?_
 ·refine wq rfl (qw 2 rfl ?_)
  refine CB h fun v2 a2 b2 h => qi K2 UU a2 (Aj b2) rfl (qk TH rfl (Hv Tn Sr rfl (qe rfl ?_)))
  obtain rfl := sj h
  refine Af (sm [] [(4, iD ((wI .i64 v2)))] [] rfl rfl) (Ap ?_)
  exact ⟨⟨[_], tm, rfl⟩, tv⟩
 ·refine Am (wq rfl (qe rfl ?_))
  obtain rfl := sj h
  refine Af (sm [] [(4, iD 0)] [] rfl rfl) (Ap ?_)
  exact ⟨⟨[_], tm, rfl⟩, tv⟩
theorem HN (N : Nat) (p0 : Ad) (p1 : Int) (r : Int) (h : Cp N p0 p1 = some r) : Ar Tryd.prog 26 [.e (.agg (AE p0)), iD p1] [] (pD (.val (.int .u8 r))) := by
 unfold Cp at h
 refine cw (n := 27) (rs := [.tmp 4]) Tryd.func26 fun w0 S0 => ?_
 refine wq rfl (qb rfl (qa rfl (Ab (wq rfl (qf C3 rfl (ql Bh rfl (qm rfl ?_)))))))
 refine CB h fun v1 a1 b1 h => qi Ax Dk a1 (Aj b1) rfl (qk B6 rfl ?_)
 refine EN h fun c2 h => HJ rfl c2 (qe rfl ?_)
 refine AO h (fun v3 => mk [(5, pD (.val (.int .u8 v3)))] []) (fun j3 h => ?_) (fun v3 h => ?_)
 ·refine wq rfl (qf B2 rfl (ql Bh rfl (qm rfl ?_)))
  refine CB h fun v4 a4 b4 h => qi Ax Dk a4 (Aj b4) rfl (qk B6 rfl (FA rfl (Ab ?_)))
  refine Bp h (fun h => ?_) fun h => ?_
  ·refine Ai Az rfl (qm rfl (qf B2 rfl (ql Bh rfl (qm rfl ?_))))
   refine CB h fun v6 a6 b6 h => qi Ax Dk a6 (Aj b6) rfl (qk B6 rfl ?_)
   refine EN h fun c7 h => HJ rfl c7 (P7 rfl (qe rfl ?_))
   exact sn [] h
  ·refine Am ?_
   exact sn [] h
 ·refine wq rfl (qm rfl (qe rfl ?_))
  obtain rfl := sj h
  refine Af (sm [] [(4, pD (.val (.int .u8 v3)))] [] rfl rfl) (Ap ?_)
  exact ⟨⟨[_], tm, rfl⟩, tv⟩
theorem JP (N : Nat) (p0 : Aa) (p1 : AZ) (r : Ad) (h : CP N p0 p1 = some r) : Ar Tryd.prog 8 [.e (.agg (Al p0)), .e (.agg (BZ p1))] [(1, r.fe.map Ak), (1, r.fa.map Ak), (1, r.fc.map B5)] (.e (.agg [.own 0, .own 1, .own 2])) := by
 unfold CP at h
 refine cw (n := 99) (rs := [.cell 4 38]) Tryd.func8 fun w0 S0 => ?_
 refine wq rfl (qb rfl (qb rfl (qz CM rfl (Ab (wq rfl (qz CM rfl (Ab (wp rfl (qe rfl ?_)))))))))
 refine AF (L := Bw N p0 p1) h (fun v1 => mk [(2, oD (.ptr 2 0)), (3, oD (.ptr 3 0)), (4, oD (.ptr 4 0)), (5, oD (.ptr 5 0)), (6, iD v1.2.2)] [(2, .box (Al p0)), (3, .box (BZ p1)), (4, .box [.pure (.nil0), .pure (.nil0), .pure (.nil0)]), (5, .box [.own 2001, .own 2002, .pure (.nil0)]), (2001, .vec 1 (v1.1.map Ak)), (2002, .vec 1 (v1.2.1.map Ak))]) (fun v2 => mk [(2, oD (.ptr 2 0)), (3, oD (.ptr 3 0)), (4, oD (.ptr 4 0)), (5, oD (.ptr 5 0))] [(2, .box (Al p0)), (3, .box (BZ p1)), (4, .box [.pure (.nil0), .pure (.nil0), .pure (.nil0)]), (5, .box [.own 2003, .own 2004, .pure (.nil0)]), (2003, .vec 1 (v2.1.map Ak)), (2004, .vec 1 (v2.2.map Ak))]) (fun _ _ => rfl) ((AD 5 0 2007 1 _ rfl rfl rfl rfl).trans ((AD 5 1 2008 1 _ rfl rfl rfl rfl).trans (sm [(2001, 2007), (2002, 2008)] _ _ rfl rfl))) (fun j1 n1 v1 h => ?_) (fun v2 s h hs => ?_)
 ·unfold Bw at h
  refine wp rfl (qm rfl (qf Bn rfl (ql Bh rfl (AA Ax rfl (A3 rfl (Ab ?_))))))
  refine Bp h (fun h => ?_) fun h => ?_
  ·refine Am (AG (AP (wq rfl (qf Bn rfl (ql Bh rfl (qm rfl ?_))))))
   refine CB h fun v4 a4 b4 h => qi Ax Dk a4 (Aj b4) rfl (qk B6 rfl (qa rfl (Ab (wq rfl (qf RS rfl (ql Nl rfl (qm rfl ?_)))))))
   refine BT h fun v5 a5 h => As [] (EZ N p1.fe v1.2.2 v5 a5) Tj rfl (qm rfl ?_)
   refine EN h fun c6 h => H3 rfl c6 (qa rfl (Ab (wq rfl (qe rfl ?_))))
   refine AO h (fun v7 => mk [(2, oD (.ptr 2 0)), (3, oD (.ptr 3 0)), (4, oD (.ptr 4 0)), (5, oD (.ptr 5 0)), (6, iD v1.2.2), (8, iD ((Int.tmod v5 v4))), (9, iD v7)] [(2, .box (Al p0)), (3, .box (BZ p1)), (4, .box [.pure (.nil0), .pure (.nil0), .pure (.nil0)]), (5, .box [.own 2005, .own 2006, .pure (.nil0)]), (2005, .vec 1 (v1.1.map Ak)), (2006, .vec 1 (v1.2.1.map Ak))]) (fun j7 h => ?_) (fun v7 h => ?_)
   ·refine wq rfl (qf RF rfl (ql Nl rfl (qm rfl ?_)))
    refine BT h fun v8 a8 h => As [] (EZ N p1.fa v1.2.2 v8 a8) Tj rfl (qm rfl ?_)
    refine EN h fun c9 h => H3 rfl c9 (qa rfl (Ab (wq rfl (qm rfl (Ew rfl (Ab ?_))))))
    refine Bp h (fun h => ?_) fun h => ?_
    ·refine Ai Az rfl (qw 2 rfl (Bt rfl (qm rfl ?_)))
     refine EN h fun c11 h => H3 rfl c11 (qe rfl ?_)
     exact sn [(2005, 2001), (2006, 2002)] h
    ·refine Am ?_
     exact sn [(2005, 2001), (2006, 2002)] h
   ·refine wq rfl (qf C3 rfl (ql Bh rfl (qm rfl (Ev Ax Dk Ks rfl ?_))))
    refine EN h fun c12 h => Dp (f := Ak) Ax Ax Dk Li Ks c12 rfl (qf C3 rfl (qs N9 rfl (Ab (Ai Az rfl (qf B2 rfl (ql Bh rfl (qm rfl (Ev Ax Dk Ks rfl ?_))))))))
    refine EN h fun c13 h => Dp (f := Ak) Ax Ax Dk Li Ks c13 rfl (qf B2 rfl (qs N9 rfl (Ab (Ai Az rfl (qm rfl (Bt rfl (qe rfl ?_)))))))
    exact sn [(2001, 50), (2002, 56)] h
  ·refine A5 ?_
   exact sn [(2003, 2001), (2004, 2002)] h
 ·refine Af hs (wp rfl (qe rfl ?_))
  refine AF (L := AT N p0 p1 v2) h (fun v14 => mk [(2, oD (.ptr 2 0)), (3, oD (.ptr 3 0)), (4, oD (.ptr 4 0)), (5, oD (.ptr 5 0)), (11, iD v14.2)] [(2, .box (Al p0)), (3, .box (BZ p1)), (4, .box [.pure (.nil0), .pure (.nil0), .pure (.nil0)]), (5, .box [.own 2009, .own 2010, .own 2011]), (2009, .vec 1 (v2.1.map Ak)), (2010, .vec 1 (v2.2.map Ak)), (2011, .vec 1 (v14.1.map B5))]) (fun v15 => mk [(4, oD (.ptr 4 0)), (5, oD (.ptr 5 0))] [(4, .box [.pure (.nil0), .pure (.nil0), .pure (.nil0)]), (5, .box [.own 2012, .own 2013, .own 2014]), (2012, .vec 1 (v2.1.map Ak)), (2013, .vec 1 (v2.2.map Ak)), (2014, .vec 1 (v15.map B5))]) (fun _ _ => rfl) ((AD 5 2 2018 1 _ rfl rfl rfl rfl).trans (sm [(2009, 2003), (2010, 2004), (2011, 2018)] _ _ rfl rfl)) (fun j14 n14 v14 h => ?_) (fun v15 s h hs => ?_)
  ·unfold AT at h
   refine wp rfl (qm rfl (qf CO rfl (ql Hq rfl (AA DP rfl (A3 rfl (Ab ?_))))))
   refine Bp h (fun h => ?_) fun h => ?_
   ·refine Am (AG (AP (wq rfl (qf CO rfl (ql Hq rfl (qm rfl ?_))))))
    refine CB h fun v17 a17 b17 h => qi DP DN a17 (Aj b17) rfl (qK Hc DN rfl (qz KQ rfl (qs DN rfl (Ab (wq rfl (qe rfl ?_))))))
    refine AO h (fun v18 => mk [(2, oD (.ptr 2 0)), (3, oD (.ptr 3 0)), (4, oD (.ptr 4 0)), (5, oD (.ptr 5 0)), (11, iD v14.2), (13, pD (.val (.int .u8 v18)))] [(2, .box (Al p0)), (3, .box (BZ p1)), (4, .box [.pure (.nil0), .pure (.nil0), .pure (.nil0)]), (5, .box [.own 2015, .own 2016, .own 2017]), (2015, .vec 1 (v2.1.map Ak)), (2016, .vec 1 (v2.2.map Ak)), (2017, .vec 1 (v14.1.map B5))]) (fun j18 h => ?_) (fun v18 h => ?_)
    ·refine wq rfl (qL Hc DN rfl ?_)
     refine BT h fun v19 a19 h => As [] (Dl N v17 v19 a19) R5 rfl (Ab ?_)
     refine Bp h (fun h => ?_) fun h => ?_
     ·refine wq rfl (qf Bn rfl (ql Bh rfl (qf CQ rfl (ql B6 rfl ?_))))
      refine CB h fun v21 a21 b21 h => qi Ax Dk a21 (Aj b21) rfl (qk B6 rfl ?_)
      refine EN h fun c22 h => HJ rfl c22 (KF rfl (qa rfl (Ab (Ai Az rfl (qL Br AH rfl (qf CQ rfl (ql B6 rfl ?_)))))))
      refine BT h fun v23 a23 h => FL [] [2009, 2010, 2011] (HN N ((Ad.mk v2.1 v2.2 v14.1)) v17.fg v23 a23) UJ D7 rfl (qf RW rfl (ql Nl rfl (qm rfl ?_)))
      refine BT h fun v24 a24 h => As [] (EZ N p1.fc v14.2 v24 a24) Tj rfl (Hv Vi VK rfl (qm rfl (JZ rfl (P7 rfl (qa rfl (AI (by kernel_rfl) ?_))))))
      exact sn [(2015, 2009), (2016, 2010), (2017, 2011)] h
     ·refine Am ?_
      exact sn [(2015, 2009), (2016, 2010), (2017, 2011)] h
    ·refine Ai Az rfl (qf Dn rfl (ql IW rfl (qm rfl (Ev DD GZ Of rfl ?_))))
     refine EN h fun c25 h => Dp (f := B5) DD DD GZ OU Of c25 rfl (qf Dn rfl (qs UE rfl (Ab (Ai Az rfl (qm rfl (Bt rfl (qe rfl ?_)))))))
     exact sn [(2009, 2015), (2010, 2016), (2011, 96)] h
   ·refine A5 ?_
    exact sn [(2012, 2009), (2013, 2010), (2014, 2011)] h
  ·refine Af hs (wq rfl (qL Br AH rfl (qs AH rfl (Ab ?_))))
   obtain rfl := sj h
   refine Af (sm [(1000, 2012), (1001, 2013), (1002, 2014)] [(4, oD (.ptr 4 0))] [(4, .box [.own 1000, .own 1001, .own 1002]), (1000, .vec 1 (v2.1.map Ak)), (1001, .vec 1 (v2.2.map Ak)), (1002, .vec 1 (v15.map B5))] rfl rfl) (Ap ?_)
   exact ⟨⟨[_], ⟨.cellN _ _ _ _ _ _ _ rfl rfl Br AH rfl rfl (Hi rfl), tv⟩, rfl⟩, ⟨rfl, rfl, rfl, tv⟩⟩
theorem G5 (N : Nat) (p0 : A9) (p1 : AZ) (p2 : List Ac) (r : Bool) (h : BS N p0 p1 p2 = some r) : Ar Tryd.prog 3 [.e (.agg (BJ p0)), .e (.agg (BZ p1)), pD (.sl (p2.map Ah))] [] (bD r) := by
 unfold BS at h
 refine cw (n := 75) (rs := [.tmp 6]) Tryd.func3 fun w0 S0 => ?_
 refine wq rfl (qb rfl (qb rfl (qa rfl (Ab (wq rfl (qL Vj VI rfl ?_))))))
 refine BT h fun v1 a1 h => As [2001, 2002, 2003, 2004] (Jy N p0 v1 a1) V0 rfl (qm rfl (qx rfl (qx rfl (qz NZ rfl (qs Ce rfl (qa rfl (Ab (AG ?_))))))))
 refine AO h (fun v2 => mk [(2, pD (.sl (p2.map Ah))), (4, oD (.ptr 4 0)), (7, oD (.ptr 7 0)), (31, bD v2)] [(4, .box (BZ p1)), (7, .box [.own 2005, .own 2006, .own 2007, .own 2008]), (2005, .vec 1 (v1.1.fb.map Ak)), (2006, .vec 1 (v1.1.fm.map Ak)), (2007, .vec 1 (v1.1.fo.map Ak)), (2008, .vec 6 (v1.1.fd.map AC))]) (fun j2 h => ?_) (fun v2 h => ?_)
 ·refine Ai Az rfl ?_
  refine BT h fun v3 a3 h => As [] (Ga N v3 a3) VT rfl (Ck rfl (qm rfl ?_))
  refine DO 23 h rfl (fun h => ?_) fun h => ?_
  ·refine qw 2 rfl (qp rfl (qw 4 rfl (qp rfl (Ab ?_))))
   exact sn [(2005, 2001), (2006, 2002), (2007, 2003), (2008, 2004)] h
  ·refine qm rfl (Ck rfl (qp rfl (qm rfl ?_)))
   refine DO 27 h rfl (fun h => ?_) fun h => ?_
   ·refine qw 3 rfl (qp rfl (Ab ?_))
    exact sn [(2005, 2001), (2006, 2002), (2007, 2003), (2008, 2004)] h
   ·refine qm rfl (AA Bg rfl (Ew rfl (qp rfl (Ab ?_))))
    exact sn [(2005, 2001), (2006, 2002), (2007, 2003), (2008, 2004)] h
 ·refine Bp h (fun h => ?_) fun h => ?_
  ·refine wq rfl ?_
   refine BT h fun v7 a7 h => As [] (Ga N v7 a7) VT rfl (qe rfl ?_)
   obtain rfl := sj h
   refine Af (sm [] [(6, bD v7)] [] rfl rfl) (Ap ?_)
   exact ⟨⟨[_], tm, rfl⟩, tv⟩
  ·refine Am (wq rfl (qL CI Ce rfl (qL Vo VF rfl ?_)))
   refine BT h fun v8 a8 h => FL [2009, 2010, 2011] [2005, 2006, 2007, 2008] (JP N v1.1 p1 v8 a8) VY (Hx (fun _ => rfl) (Hx (fun _ => rfl) (Hx (fun _ => rfl) D7))) rfl (qz CM rfl (qs AH rfl (Ab (wq rfl (qL CI Ce rfl (qL Br AH rfl (qm rfl ?_)))))))
   refine BT h fun v9 a9 h => FL [] [2005, 2006, 2007, 2008, 2009, 2010, 2011] (Fu N v1.1 v8 p2 v9 a9) UA D7 rfl (qm rfl (qx rfl (qx rfl (qa rfl (qa rfl (Ab (wq rfl (qa rfl (Ab (wp rfl (qm rfl (AA Bg rfl (qm rfl (Ab ?_))))))))))))))
   refine AF (L := Be N p2) h (fun v10 => mk [(2, pD (.sl (p2.map Ah))), (7, oD (.ptr 7 0)), (9, oD (.ptr 9 0)), (10, bD v9.1), (11, iD v9.2), (12, oD (.own 2019)), (44, iD ((p2.length : Int))), (45, iD v10.2)] [(7, .box [.own 2012, .own 2013, .own 2014, .own 2015]), (9, .box [.own 2016, .own 2017, .own 2018]), (2012, .vec 1 (v1.1.fb.map Ak)), (2013, .vec 1 (v1.1.fm.map Ak)), (2014, .vec 1 (v1.1.fo.map Ak)), (2015, .vec 6 (v1.1.fd.map AC)), (2016, .vec 1 (v8.fe.map Ak)), (2017, .vec 1 (v8.fa.map Ak)), (2018, .vec 1 (v8.fc.map B5)), (2019, .vec 3 (v10.1.map Ah))]) (fun v11 => mk [(7, oD (.ptr 7 0)), (9, oD (.ptr 9 0)), (10, bD v9.1), (11, iD v9.2), (12, oD (.own 2027))] [(7, .box [.own 2020, .own 2021, .own 2022, .own 2023]), (9, .box [.own 2024, .own 2025, .own 2026]), (2020, .vec 1 (v1.1.fb.map Ak)), (2021, .vec 1 (v1.1.fm.map Ak)), (2022, .vec 1 (v1.1.fo.map Ak)), (2023, .vec 6 (v1.1.fd.map AC)), (2024, .vec 1 (v8.fe.map Ak)), (2025, .vec 1 (v8.fa.map Ak)), (2026, .vec 1 (v8.fc.map B5)), (2027, .vec 3 (v11.map Ah))]) (fun _ _ => rfl) ((BV 12 2028 3 rfl rfl rfl).trans (sm [(2012, 2005), (2013, 2006), (2014, 2007), (2015, 2008), (2016, 2009), (2017, 2010), (2018, 2011), (2019, 2028)] _ _ rfl rfl)) (fun j10 n10 v10 h => ?_) (fun v11 s h hs => ?_)
   ·unfold Be at h
    refine wq rfl (A3 rfl (Ab (AG ?_)))
    refine Bp h (fun h => ?_) fun h => ?_
    ·refine Am (AG (AP (wq rfl (qm rfl (qa rfl (Ab (Ai Az rfl (qw 3 rfl (AA Bg rfl (KF rfl (qm rfl (KF rfl ?_))))))))))))
     refine CB h fun v13 a13 b13 h => qi Bg B9 a13 (Aj b13) rfl (qK FY B9 rfl (Ev Bg B9 H1 rfl ?_))
     refine EN h fun c14 h => Dp (f := Ah) Bg Bg B9 Qx H1 c14 rfl (qa rfl (Ab (Ai Az rfl (Bt rfl (qm rfl (Ab ?_))))))
     exact sn [(2019, 58)] h
    ·refine A5 ?_
     exact sn [(2020, 2012), (2021, 2013), (2022, 2014), (2023, 2015), (2024, 2016), (2025, 2017), (2026, 2018), (2027, 2019)] h
   ·refine Af hs (wq rfl (qL CI Ce rfl (qL Br AH rfl (qm rfl ?_))))
    refine BT h fun v15 a15 h => FL [] [2020, 2021, 2022, 2023, 2024, 2025, 2026, 2027] (Fu N v1.1 v8 v11 v15 a15) UA D7 rfl (qm rfl (qx rfl (qx rfl (qa rfl (qe rfl ?_)))))
    refine AO h (fun v16 => mk [(6, bD v16)] []) (fun j16 h => ?_) (fun v16 h => ?_)
    ·refine Ai Az rfl (qw 2 rfl ?_)
     refine Fp (.p rfl) rfl rfl (Qf _ _ _ _ VZ) rfl ?_
     refine qm rfl ?_
     refine DO 70 h rfl (fun h => ?_) fun h => ?_
     ·refine qw 2 rfl (BC rfl (qp rfl (qe rfl ?_)))
      exact sn [] h
     ·refine qw 3 rfl (qp rfl (qe rfl ?_))
      exact sn [] h
    ·obtain rfl := sj h
     refine Af (sm [] [(6, bD v16)] [] rfl rfl) (Ap ?_)
     exact ⟨⟨[_], tm, rfl⟩, tv⟩
end Go.Lift
