/- Lemmas for UnblockErrorsSaid, which YtjpgllmfenogoaaGreatFinU9 proves. -/
import Derived.Test.YtjpgllmfenogoaaGreatCode1
namespace Go.Lift
open IntKind renaming wrap → wI
set_option maxRecDepth 10000
open Go.RowKit
open Go.Proofs
theorem Mm (N : Nat) (p0 : Ae) (p1 : Ar) (r : (List Ar) × Int) (h : G7 N p0 p1 = some r) : Ao Tryz.prog 123 [.e (.agg (Ah p0)), .e (.agg (A2 p1))] [(3, r.1.map FO)] (.tup [.one (.own 0), .one (iC r.2)]) := by
 unfold G7 at h
 refine cw (n := 75) (rs := [.tmp 4, .tmp 5]) Tryz.func123 fun w0 S0 => ?_
 refine wq rfl (qb rfl (qb rfl (qa rfl (qa rfl (Ac (wp rfl (qL CD Ce rfl (qL C7 BF rfl ?_))))))))
 refine B5 h fun v1 a1 h => Ax [] (GR N p0 p1 v1 a1) QR rfl (qa rfl (Ac (wq rfl (qm rfl (BU rfl (Ac ?_))))))
 refine Bm h (fun h => ?_) fun h => ?_
 ·refine wq rfl (qm rfl (qa rfl (qe rfl ?_)))
  obtain rfl := sj h
  refine Ag ((AW 4 2001 3 rfl rfl rfl).trans (sm [(1000, 2001)] [(4, oD (.own 1000)), (5, iD v1)] [(1000, .vec 3 ((([] : List Ar)).map FO))] rfl rfl)) (Ap ?_)
  exact ⟨⟨[_, _], ⟨.tmp _ _ rfl, tm⟩, rfl⟩, ⟨rfl, tv⟩⟩
 ·refine Al (wq rfl (qa rfl (Ac (wp rfl (qf Dp rfl (ql BG rfl (AB AG rfl (qm rfl (Ac ?_)))))))))
  refine Az (L := EC N p1) h (fun v3 => mk [(3, oD (.ptr 3 0)), (7, oD (.own 2002)), (22, pD (.sl (p1.fd.map Au))), (23, iD ((p1.fd.length : Int))), (24, iD v3.2)] [(3, .box (A2 p1)), (2002, .vec 1 (v3.1.map Au))]) (fun v4 => mk [(3, oD (.ptr 3 0)), (7, oD (.own 2003))] [(3, .box (A2 p1)), (2003, .vec 1 (v4.map Au))]) (fun _ _ => rfl) ((AW 7 2005 1 rfl rfl rfl).trans (sm [(2002, 2005)] _ _ rfl rfl)) (fun j3 n3 v3 h => ?_) (fun v4 s h hs => ?_)
  ·unfold EC at h
   refine wq rfl (AV rfl (Ac (AC ?_)))
   refine Bm h (fun h => ?_) fun h => ?_
   ·refine Al ?_
    refine AN h (fun v6 => mk [(3, oD (.ptr 3 0)), (7, oD (.own 2004)), (22, pD (.sl (p1.fd.map Au))), (23, iD ((p1.fd.length : Int))), (24, iD v3.2)] [(3, .box (A2 p1)), (2004, .vec 1 (v6.map Au))]) (fun j6 h => ?_) (fun v6 h => ?_)
    ·refine AF (wq rfl (qm rfl ?_))
     refine B6 h fun v7 a7 b7 h => qi AG EH a7 (Ai b7) rfl (qk CR rfl (qa rfl (qa rfl (Ac (wq rfl (qm rfl (FY rfl (Ac ?_))))))))
     refine Bm h (fun h => ?_) fun h => ?_
     ·refine Aj Aw rfl (qw 2 rfl (EZ AG EH OO rfl ?_))
      refine GH h fun c9 h => E4 (f := Au) AG AG EH Qn OO c9 rfl (qe rfl ?_)
      exact sn [(2004, 34)] h
     ·refine Al ?_
      exact sn [(2004, 2002)] h
    ·refine Aj Aw rfl (A6 rfl (qm rfl (Ac ?_)))
     exact sn [(2002, 2004)] h
   ·refine AP ?_
    exact sn [(2003, 2002)] h
  ·refine Ag hs (wq rfl (qa rfl (Ac (wp rfl (qm rfl (C0 AG rfl ?_))))))
   refine GH h fun c10 h => J0 rfl c10 (qm rfl (Ac ?_))
   refine Az (L := Eb N p1 v4) h (fun v11 => mk [(3, oD (.ptr 3 0)), (7, oD (.own 2006)), (10, oD (.own 2007)), (38, iD ((GG .i64 1 ((v4.length : Int))))), (39, iD v11.2)] [(3, .box (A2 p1)), (2006, .vec 1 (v4.map Au)), (2007, .vec 3 (v11.1.map FO))]) (fun v12 => mk [(10, oD (.own 2008))] [(2008, .vec 3 (v12.map FO))]) (fun _ _ => rfl) ((AW 10 2027 3 rfl rfl rfl).trans (sm [(2006, 2003), (2007, 2027)] _ _ rfl rfl)) (fun j11 n11 v11 h => ?_) (fun v12 s h hs => ?_)
   ·unfold Eb at h
    refine wq rfl (AV rfl (Ac (AC ?_)))
    refine Bm h (fun h => ?_) fun h => ?_
    ·refine Al (AC (AF (wq rfl (qm rfl (qa rfl (Ac (wq rfl (qf DZ rfl (ql BG rfl ?_)))))))))
     refine B5 h fun v14 a14 h => Ax [2009] (Bp N p1.fe v14 a14) M1 rfl (qf Dp rfl (ql BG rfl ?_))
     refine B5 h fun v15 a15 h => Ax [2010] (Bp N p1.fd v15 a15) M1 rfl (qf Ex rfl (ql JA rfl ?_))
     refine B5 h fun v16 a16 h => Ax [2011] (DO N p1.fg v16 a16) Rj rfl (B3 FG Lm rfl (qz FG rfl (qs BF rfl (AY (by kernel_rfl) (wp rfl (qm rfl (C0 AG rfl (qm rfl (Ac ?_)))))))))
     refine Az (L := D9 N v4 v11) h (fun v17 => mk [(3, oD (.ptr 3 0)), (7, oD (.own 2015)), (10, oD (.own 2016)), (11, iD v11.2), (12, oD (.ptr 12 0)), (38, iD ((GG .i64 1 ((v4.length : Int))))), (39, iD v11.2), (52, oD (.own 2015)), (53, iD ((v4.length : Int))), (54, iD v17.2)] [(3, .box (A2 p1)), (12, .box [.own 2012, .own 2013, .own 2014]), (2012, .vec 1 (v14.map Au)), (2013, .vec 1 (v17.1.map Au)), (2014, .vec 1 (v16.map Er)), (2015, .vec 1 (v4.map Au)), (2016, .vec 3 (v11.1.map FO))]) (fun v18 => mk [(3, oD (.ptr 3 0)), (7, oD (.own 2020)), (10, oD (.own 2021)), (12, oD (.ptr 12 0)), (38, iD ((GG .i64 1 ((v4.length : Int))))), (39, iD v11.2)] [(3, .box (A2 p1)), (12, .box [.own 2017, .own 2018, .own 2019]), (2017, .vec 1 (v14.map Au)), (2018, .vec 1 (v18.map Au)), (2019, .vec 1 (v16.map Er)), (2020, .vec 1 (v4.map Au)), (2021, .vec 3 (v11.1.map FO))]) (fun _ _ => rfl) (sm [(2012, 2009), (2013, 2010), (2014, 2011), (2015, 2006), (2016, 2007)] _ _ rfl rfl) (fun j17 n17 v17 h => ?_) (fun v18 s h hs => ?_)
     ·unfold D9 at h
      refine wq rfl (AV rfl (Ac (AC ?_)))
      refine Bm h (fun h => ?_) fun h => ?_
      ·refine Al ?_
       refine AN h (fun v20 => mk [(3, oD (.ptr 3 0)), (7, oD (.own 2025)), (10, oD (.own 2026)), (11, iD v11.2), (12, oD (.ptr 12 0)), (38, iD ((GG .i64 1 ((v4.length : Int))))), (39, iD v11.2), (52, oD (.own 2025)), (53, iD ((v4.length : Int))), (54, iD v17.2)] [(3, .box (A2 p1)), (12, .box [.own 2022, .own 2023, .own 2024]), (2022, .vec 1 (v14.map Au)), (2023, .vec 1 (v20.map Au)), (2024, .vec 1 (v16.map Er)), (2025, .vec 1 (v4.map Au)), (2026, .vec 3 (v11.1.map FO))]) (fun j20 h => ?_) (fun v20 h => ?_)
       ·refine AF (wq rfl (qm rfl ?_))
        refine B6 h fun v21 a21 b21 h => qI AG EH a21 (Ai b21) rfl (qj CR (Ai b21) rfl (qa rfl (qa rfl (Ac (wq rfl (qw 2 rfl ?_))))))
        refine GH h fun c22 h => Jf rfl c22 (KN rfl (BO rfl (Ac ?_)))
        refine Bm h (fun h => ?_) fun h => ?_
        ·refine Aj Aw rfl (qf Dp rfl (ql BG rfl (qm rfl ?_)))
         refine B6 h fun v24 a24 b24 h => qI AG EH a24 (Ai b24) rfl ?_
         refine D7 rfl rfl rfl rfl (Ai b24) rfl EH rfl (FI rfl) (CX Au v17.1 _ ((-1))) ?_
         refine Ac ?_
         exact sn [(2022, 2012), (2023, 2013), (2024, 2014), (2025, 2015), (2026, 2016)] h
        ·refine Al ?_
         exact sn [(2022, 2012), (2023, 2013), (2024, 2014), (2025, 2015), (2026, 2016)] h
       ·refine Aj Aw rfl (A6 rfl (qm rfl (Ac ?_)))
        exact sn [(2012, 2022), (2013, 2023), (2014, 2024), (2015, 2025), (2016, 2026)] h
      ·refine AP ?_
       exact sn [(2017, 2012), (2018, 2013), (2019, 2014), (2020, 2015), (2021, 2016)] h
     ·refine Ag hs (Aj Aw rfl (qm rfl (qL C7 BF rfl (DU (Cz 2017 _ _ rfl rfl) (DU (Cz 2018 _ _ rfl rfl) (DU (Cz 2019 _ _ rfl rfl) (EZ K6 BF FG rfl ?_)))))))
      refine GH h fun c25 h => E4 (f := FO) K6 K6 BF S1 FG c25 rfl (qa rfl (Ac (Aj Aw rfl (A6 rfl (qm rfl (Ac ?_))))))
      exact sn [(2006, 2020), (2007, 72)] h
    ·refine AP ?_
     exact sn [(2008, 2007)] h
   ·refine Ag hs (wq rfl (qm rfl (qa rfl (qe rfl ?_))))
    obtain rfl := sj h
    refine Ag (sm [(1000, 2008)] [(4, oD (.own 1000)), (5, iD 0)] [(1000, .vec 3 (v12.map FO))] rfl rfl) (Ap ?_)
    exact ⟨⟨[_, _], ⟨.tmp _ _ rfl, tm⟩, rfl⟩, ⟨rfl, tv⟩⟩
theorem J9 (N : Nat) (p0 : Ae) (p1 : Ar) (r : (List Aa)) (h : FE N p0 p1 = some r) : Ao Tryz.prog 124 [.e (.agg (Ah p0)), .e (.agg (A2 p1))] [(3, r.map Ab)] (oD (.own 0)) := by
 unfold FE at h
 refine cw (n := 98) (rs := [.tmp 4]) Tryz.func124 fun w0 S0 => ?_
 refine wq rfl (qb rfl (qb rfl (qa rfl (Ac (wq rfl (qa rfl (Ac (wp rfl (qf BE rfl (ql Fc rfl (AB Co rfl (qm rfl (Ac ?_)))))))))))))
 refine Az (L := DM N p0 p1) h (fun v1 => mk [(3, oD (.ptr 3 0)), (5, oD (.own 2001)), (15, pD (.sl (p0.fb.map AA))), (16, iD ((p0.fb.length : Int))), (17, iD v1.2)] [(3, .box (A2 p1)), (2001, .vec 3 (v1.1.map Ab))]) (fun v2 => mk [(5, oD (.own 2002))] [(2002, .vec 3 (v2.map Ab))]) (fun _ _ => rfl) ((AW 5 2013 3 rfl rfl rfl).trans (sm [(2001, 2013)] _ _ rfl rfl)) (fun j1 n1 v1 h => ?_) (fun v2 s h hs => ?_)
 ·unfold DM at h
  refine wq rfl (AV rfl (Ac (AC ?_)))
  refine Bm h (fun h => ?_) fun h => ?_
  ·refine Al (AC (AF (wq rfl (qm rfl ?_))))
   refine B6 h fun v4 a4 b4 h => qi Co C2 a4 (Ai b4) rfl (qK G4 C2 rfl (qz I0 rfl (qa rfl (qs C2 rfl (Ac (wq rfl (qL C7 BF rfl (qf Ec rfl (ql CR rfl ?_)))))))))
   refine B5 h fun v5 a5 h => Ax [] (G6 N p1 v4.ff v5 a5) Qe rfl (qL C7 BF rfl (qf Ij rfl (ql CR rfl ?_)))
   refine B5 h fun v6 a6 h => Ax [] (G6 N p1 v4.fk v6 a6) Qe rfl (qa rfl (qa rfl (AY (by kernel_rfl) ?_)))
   refine AN h (fun v7 => mk [(3, oD (.ptr 3 0)), (5, oD (.own 2003)), (6, iD v1.2), (7, oD (.ptr 7 0)), (8, pD (.val (.int .u8 v7))), (9, pD (.val (.int .u8 v6))), (15, pD (.sl (p0.fb.map AA))), (16, iD ((p0.fb.length : Int))), (17, iD v1.2)] [(3, .box (A2 p1)), (7, .box (Bu v4)), (2003, .vec 3 (v1.1.map Ab))]) (fun j7 h => ?_) (fun v7 h => ?_)
   ·refine wq rfl (qL G4 C2 rfl ?_)
    refine B5 h fun v8 a8 h => Ax [] (HF N v4 v8 a8) RD rfl (Ac ?_)
    refine Bm h (fun h => ?_) fun h => ?_
    ·refine Aj Aw rfl (qf Ex rfl (ql JA rfl (qm rfl ?_)))
     refine B6 h fun v10 a10 b10 h => qi FC It a10 (Ai b10) rfl (qk NM rfl (qe rfl ?_))
     exact sn [(2003, 2001)] h
    ·refine Al ?_
     exact sn [(2003, 2001)] h
   ·refine wq rfl (qf DE rfl (ql EF rfl (AB CH rfl (qm rfl (Ac ?_)))))
    refine Az (L := DD N v1 v4 v6 v7) h (fun v11 => mk [(3, oD (.ptr 3 0)), (5, oD (.own 2004)), (6, iD v1.2), (7, oD (.ptr 7 0)), (8, pD (.val (.int .u8 v7))), (9, pD (.val (.int .u8 v6))), (15, pD (.sl (p0.fb.map AA))), (16, iD ((p0.fb.length : Int))), (17, iD v1.2), (39, iD ((v4.fh.length : Int))), (40, iD v11.2)] [(3, .box (A2 p1)), (7, .box (Bu v4)), (2004, .vec 3 (v11.1.map Ab))]) (fun v12 => mk [(3, oD (.ptr 3 0)), (5, oD (.own 2005)), (15, pD (.sl (p0.fb.map AA))), (16, iD ((p0.fb.length : Int))), (17, iD v1.2)] [(3, .box (A2 p1)), (2005, .vec 3 (v12.map Ab))]) (fun _ _ => rfl) (sm [(2004, 2003)] _ _ rfl rfl) (fun j11 n11 v11 h => ?_) (fun v12 s h hs => ?_)
    ·unfold DD at h
     refine wq rfl (AV rfl (Ac (AC ?_)))
     refine Bm h (fun h => ?_) fun h => ?_
     ·refine Al ?_
      refine AN h (fun v14 => mk [(3, oD (.ptr 3 0)), (5, oD (.own 2006)), (6, iD v1.2), (7, oD (.ptr 7 0)), (8, pD (.val (.int .u8 v7))), (9, pD (.val (.int .u8 v6))), (15, pD (.sl (p0.fb.map AA))), (16, iD ((p0.fb.length : Int))), (17, iD v1.2), (39, iD ((v4.fh.length : Int))), (40, iD v11.2)] [(3, .box (A2 p1)), (7, .box (Bu v4)), (2006, .vec 3 (v14.map Ab))]) (fun j14 h => ?_) (fun v14 h => ?_)
      ·refine AF (wq rfl (qm rfl (qa rfl (Ac (wp rfl (qw 2 rfl ?_))))))
       refine GH h fun c15 h => Jf rfl c15 (KN rfl (BO rfl (Ac ?_)))
       refine Bm h (fun h => ?_) fun h => ?_
       ·refine AP ?_
        exact sn [(2006, 2004)] h
       ·refine Al (wq rfl (qa rfl (Ac (wp rfl (qf DE rfl (ql EF rfl (qm rfl ?_)))))))
        refine B6 h fun v17 a17 b17 h => qi CH Hd a17 (Ai b17) rfl (qk Jp rfl (AB E8 rfl (qm rfl (Ac ?_))))
        refine Az (L := Dw N v1 v4 v6 v11 v17) h (fun v18 => mk [(3, oD (.ptr 3 0)), (5, oD (.own 2007)), (6, iD v1.2), (7, oD (.ptr 7 0)), (8, pD (.val (.int .u8 v7))), (9, pD (.val (.int .u8 v6))), (10, iD v11.2), (11, bD v18.2.1), (15, pD (.sl (p0.fb.map AA))), (16, iD ((p0.fb.length : Int))), (17, iD v1.2), (39, iD ((v4.fh.length : Int))), (40, iD v11.2), (52, pD (.sl (v17.map eB))), (53, iD ((v17.length : Int))), (54, iD v18.2.2)] [(3, .box (A2 p1)), (7, .box (Bu v4)), (2007, .vec 3 (v18.1.map Ab))]) (fun v19 => mk [(3, oD (.ptr 3 0)), (5, oD (.own 2008)), (6, iD v1.2), (7, oD (.ptr 7 0)), (8, pD (.val (.int .u8 v7))), (9, pD (.val (.int .u8 v6))), (10, iD v11.2), (11, bD v19.2), (15, pD (.sl (p0.fb.map AA))), (16, iD ((p0.fb.length : Int))), (17, iD v1.2), (39, iD ((v4.fh.length : Int))), (40, iD v11.2)] [(3, .box (A2 p1)), (7, .box (Bu v4)), (2008, .vec 3 (v19.1.map Ab))]) (fun _ _ => rfl) (sm [(2007, 2004)] _ _ rfl rfl) (fun j18 n18 v18 h => ?_) (fun v19 s h hs => ?_)
        ·unfold Dw at h
         refine wq rfl (AV rfl (Ac (AC ?_)))
         refine Bm h (fun h => ?_) fun h => ?_
         ·refine Al ?_
          refine AN h (fun v21 => mk [(3, oD (.ptr 3 0)), (5, oD (.own 2009)), (6, iD v1.2), (7, oD (.ptr 7 0)), (8, pD (.val (.int .u8 v7))), (9, pD (.val (.int .u8 v6))), (10, iD v11.2), (11, bD v21.2), (15, pD (.sl (p0.fb.map AA))), (16, iD ((p0.fb.length : Int))), (17, iD v1.2), (39, iD ((v4.fh.length : Int))), (40, iD v11.2), (52, pD (.sl (v17.map eB))), (53, iD ((v17.length : Int))), (54, iD v18.2.2)] [(3, .box (A2 p1)), (7, .box (Bu v4)), (2009, .vec 3 (v21.1.map Ab))]) (fun j21 h => ?_) (fun v21 h => ?_)
          ·refine AF (wq rfl (qm rfl ?_))
           refine B6 h fun v22 a22 b22 h => qi E8 O9 a22 (Ai b22) rfl (qk Ql rfl (qa rfl (qa rfl (Ac (wp rfl (qw 2 rfl ?_))))))
           refine GH h fun c23 h => Jf rfl c23 (KN rfl (BO rfl (Ac ?_)))
           refine Bm h (fun h => ?_) fun h => ?_
           ·refine AP ?_
            exact sn [(2009, 2007)] h
           ·refine Al ?_
            refine AN h (fun v25 => mk [(3, oD (.ptr 3 0)), (5, oD (.own 2010)), (6, iD v1.2), (7, oD (.ptr 7 0)), (8, pD (.val (.int .u8 v7))), (9, pD (.val (.int .u8 v6))), (10, iD v11.2), (11, bD v25), (12, iD v18.2.2), (13, bD v22), (15, pD (.sl (p0.fb.map AA))), (16, iD ((p0.fb.length : Int))), (17, iD v1.2), (39, iD ((v4.fh.length : Int))), (40, iD v11.2), (52, pD (.sl (v17.map eB))), (53, iD ((v17.length : Int))), (54, iD v18.2.2)] [(3, .box (A2 p1)), (7, .box (Bu v4)), (2010, .vec 3 (v18.1.map Ab))]) (fun j25 h => ?_) (fun v25 h => ?_)
            ·refine Aj Aw rfl (qw 2 rfl ?_)
             refine D2 65 h rfl (fun h => ?_) fun h => ?_
             ·refine qn rfl (qp rfl (qe rfl ?_))
              exact sn [(2010, 2007)] h
             ·refine qm rfl (qp rfl (qe rfl ?_))
              exact sn [(2010, 2007)] h
            ·refine AN h (fun v27 => mk [(3, oD (.ptr 3 0)), (5, oD (.own 2011)), (6, iD v1.2), (7, oD (.ptr 7 0)), (8, pD (.val (.int .u8 v7))), (9, pD (.val (.int .u8 v6))), (10, iD v11.2), (11, bD v25), (12, iD v18.2.2), (15, pD (.sl (p0.fb.map AA))), (16, iD ((p0.fb.length : Int))), (17, iD v1.2), (39, iD ((v4.fh.length : Int))), (40, iD v11.2), (52, pD (.sl (v17.map eB))), (53, iD ((v17.length : Int))), (54, iD v18.2.2), (74, bD v27)] [(3, .box (A2 p1)), (7, .box (Bu v4)), (2011, .vec 3 (v18.1.map Ab))]) (fun j27 h => ?_) (fun v27 h => ?_)
             ·refine Aj Aw rfl (qm rfl (Cr rfl (qm rfl ?_)))
              refine D2 70 h rfl (fun h => ?_) fun h => ?_
              ·refine qf Kd rfl (ql Ql rfl (Cr rfl (qp rfl (Ac ?_))))
               exact sn [(2011, 2010)] h
              ·refine qw 3 rfl (qp rfl (Ac ?_))
               exact sn [(2011, 2010)] h
             ·refine Bm h (fun h => ?_) fun h => ?_
              ·refine Aj Aw rfl (qw 4 rfl (B3 Fq NP rfl (EZ A5 BW Fq rfl ?_)))
               refine GH h fun c30 h => E4 (f := Ab) A5 A5 BW JV Fq c30 rfl (qe rfl ?_)
               exact sn [(2009, 81)] h
              ·refine Al ?_
               exact sn [(2009, 2011)] h
          ·refine Aj Aw rfl (A6 rfl (qm rfl (Ac ?_)))
           exact sn [(2007, 2009)] h
         ·refine AP ?_
          exact sn [(2008, 2007)] h
        ·refine Ag hs ?_
         refine AN h (fun v31 => mk [(3, oD (.ptr 3 0)), (5, oD (.own 2012)), (6, iD v1.2), (7, oD (.ptr 7 0)), (8, pD (.val (.int .u8 v7))), (9, pD (.val (.int .u8 v6))), (10, iD v11.2), (15, pD (.sl (p0.fb.map AA))), (16, iD ((p0.fb.length : Int))), (17, iD v1.2), (39, iD ((v4.fh.length : Int))), (40, iD v11.2), (88, bD v31)] [(3, .box (A2 p1)), (7, .box (Bu v4)), (2012, .vec 3 (v19.1.map Ab))]) (fun j31 h => ?_) (fun v31 h => ?_)
         ·refine Aj Aw rfl (qf Kd rfl (ql Ql rfl (qm rfl ?_)))
          refine D2 85 h rfl (fun h => ?_) fun h => ?_
          ·refine qm rfl (Cr rfl (qp rfl (Ac ?_)))
           exact sn [(2012, 2008)] h
          ·refine qw 2 rfl (qp rfl (Ac ?_))
           exact sn [(2012, 2008)] h
         ·refine Bm h (fun h => ?_) fun h => ?_
          ·refine Aj Aw rfl (qw 3 rfl (B3 Fq NP rfl (EZ A5 BW Fq rfl ?_)))
           refine GH h fun c34 h => E4 (f := Ab) A5 A5 BW JV Fq c34 rfl (qe rfl ?_)
           exact sn [(2006, 94)] h
          ·refine Al ?_
           exact sn [(2006, 2012)] h
      ·refine Aj Aw rfl (A6 rfl (qm rfl (Ac ?_)))
       exact sn [(2004, 2006)] h
     ·refine AP ?_
      exact sn [(2005, 2004)] h
    ·refine Ag hs (Aj Aw rfl (A6 rfl (qm rfl (Ac ?_))))
     exact sn [(2001, 2005)] h
  ·refine AP ?_
   exact sn [(2002, 2001)] h
 ·refine Ag hs (wq rfl (qm rfl (qe rfl ?_)))
  obtain rfl := sj h
  refine Ag (sm [(1000, 2002)] [(4, oD (.own 1000))] [(1000, .vec 3 (v2.map Ab))] rfl rfl) (Ap ?_)
  exact ⟨⟨[_], tm, rfl⟩, ⟨rfl, tv⟩⟩
theorem Nc (N : Nat) (p0 : Ae) (p1 : Ar) (r : Ar × Aa × Int) (h : HG N p0 p1 = some r) : Ao Tryz.prog 87 [.e (.agg (Ah p0)), .e (.agg (A2 p1))] [] (.tup [.agg (A2 r.1), .agg (DC r.2.1), .one (iC r.2.2)]) := by
 unfold HG at h
 refine cw (n := 42) (rs := [.cell 4 64, .cell 5 45, .tmp 6]) Tryz.func87 fun w0 S0 => ?_
 refine wq rfl (qb rfl (qb rfl (qz FG rfl (qz Fq rfl (qa rfl (Ac (wq rfl (qL CD Ce rfl (qL C7 BF rfl ?_)))))))))
 refine B5 h fun v1 a1 h => Ax [2001] (Mm N p0 p1 v1 a1) Ta rfl (qm rfl (qx rfl (qx rfl (qa rfl (qa rfl (Ac (wp rfl (qm rfl (BU rfl (Ac ?_))))))))))
 refine Bm h (fun h => ?_) fun h => ?_
 ·refine wq rfl (B3 FG Lm rfl (B3 Fq NP rfl (qm rfl (qs BF rfl (qs BW rfl (qe rfl ?_))))))
  obtain rfl := sj h
  refine Ag ((LU 4 _ rfl).trans (sm [] [(4, oD (.ptr 4 0)), (5, oD (.ptr 5 0)), (6, iD v1.2)] [(4, .box [sC ((([] : List Int)).map Au), sC ((([] : List Int)).map Au), sC ((([] : List Int)).map Er)]), (5, .box [iC 0, iC 0, iC 0])] rfl rfl)) (Ap ?_)
  exact ⟨⟨[_, _, _], ⟨.cellN _ _ _ _ _ _ _ rfl rfl C7 BF rfl rfl (J8 rfl), ⟨.cellN _ _ _ _ _ _ _ rfl rfl GI BW rfl rfl (J8 rfl), tm⟩⟩, rfl⟩, tv⟩
 ·refine Al (wp rfl (qm rfl (C0 K6 rfl (qm rfl (Ac ?_)))))
  refine Az (L := EU N p0 v1) h (fun v3 => mk [(2, oD (.ptr 2 0)), (4, oD (.ptr 4 0)), (5, oD (.ptr 5 0)), (23, oD (.own 2002)), (24, iD ((v1.1.length : Int))), (25, iD v3)] [(2, .box (Ah p0)), (4, .box [.pure (.nil0), .pure (.nil0), .pure (.nil0)]), (5, .box [iC 0, iC 0, iC 0]), (2002, .vec 3 (v1.1.map FO))]) (fun v4 => mk [(4, oD (.ptr 4 0)), (5, oD (.ptr 5 0))] [(4, .box [.pure (.nil0), .pure (.nil0), .pure (.nil0)]), (5, .box [iC 0, iC 0, iC 0])]) (fun _ _ => rfl) (sm [(2002, 2001)] _ _ rfl rfl) (fun j3 n3 v3 h => ?_) (fun v4 s h hs => ?_)
  ·unfold EU at h
   refine wq rfl (AV rfl (Ac (AC ?_)))
   refine Bm h (fun h => ?_) fun h => ?_
   ·refine Al (AC (AF (wq rfl ?_)))
    refine B6 h fun v6 a6 b6 h => qI K6 BF a6 (Ai b6) rfl (qJ C7 BF (Ai b6) rfl (qz FG rfl (qs BF rfl (Ac (wq rfl (qL CD Ce rfl (qL C7 BF rfl ?_)))))))
    refine B5 h fun v7 a7 h => Ax [2003] (J9 N p0 v6 v7 a7) Sv rfl (qa rfl (Ac (wq rfl (qm rfl (C0 A5 rfl (Dx rfl (Ac ?_)))))))
    refine Bm h (fun h => ?_) fun h => ?_
    ·refine wq rfl (qL C7 BF rfl (qm rfl ?_))
     refine B6 h fun v9 a9 b9 h => qI A5 BW a9 (Ai b9) rfl (qJ GI BW (Ai b9) rfl (qs BF rfl (qs BW rfl (qa rfl (AY (by kernel_rfl) ?_)))))
     obtain rfl := sj h
     refine Ag (sm [] [(4, oD (.ptr 4 0)), (5, oD (.ptr 5 0)), (6, iD 0)] [(4, .box (A2 v6)), (5, .box (DC v9))] rfl rfl) (Ap ?_)
     exact ⟨⟨[_, _, _], ⟨.cellN _ _ _ _ _ _ _ rfl rfl C7 BF rfl rfl (J8 rfl), ⟨.cellN _ _ _ _ _ _ _ rfl rfl GI BW rfl rfl (J8 rfl), tm⟩⟩, rfl⟩, tv⟩
    ·refine Al (Aj Aw rfl (A6 rfl (qm rfl (Ac ?_))))
     exact sn [] h
   ·refine AP ?_
    exact sn [] h
  ·refine Ag hs (wq rfl (B3 FG Lm rfl (B3 Fq NP rfl (qs BF rfl (qs BW rfl (qe rfl ?_))))))
   obtain rfl := sj h
   refine Ag ((LU 4 _ rfl).trans (sm [] [(4, oD (.ptr 4 0)), (5, oD (.ptr 5 0)), (6, iD 15)] [(4, .box [sC ((([] : List Int)).map Au), sC ((([] : List Int)).map Au), sC ((([] : List Int)).map Er)]), (5, .box [iC 0, iC 0, iC 0])] rfl rfl)) (Ap ?_)
   exact ⟨⟨[_, _, _], ⟨.cellN _ _ _ _ _ _ _ rfl rfl C7 BF rfl rfl (J8 rfl), ⟨.cellN _ _ _ _ _ _ _ rfl rfl GI BW rfl rfl (J8 rfl), tm⟩⟩, rfl⟩, tv⟩
theorem Jr (N : Nat) (p0 : Ae) (p1 : Ar) (r : Bool × Int) (h : FN N p0 p1 = some r) : Ao Tryz.prog 63 [.e (.agg (Ah p0)), .e (.agg (A2 p1))] [] (.tup [.one (.pure (.val (.bool r.1))), .one (iC r.2)]) := by
 unfold FN at h
 refine cw (n := 22) (rs := [.tmp 4, .tmp 5]) Tryz.func63 fun w0 S0 => ?_
 refine wq rfl (qb rfl (qb rfl (qa rfl (qa rfl (Ac (wq rfl (qL CD Ce rfl (qL C7 BF rfl ?_))))))))
 refine B5 h fun v1 a1 h => Ax [] (Nc N p0 p1 v1 a1) Uc rfl (qm rfl (qx rfl (qx rfl (qx rfl (qz FG rfl (qz Fq rfl (qs BF rfl (qs BW rfl (qa rfl (Ac (wq rfl (qm rfl (Ac (AF (wq rfl (BO rfl (qe rfl ?_)))))))))))))))))
 refine Bm h (fun h => ?_) fun h => ?_
 ·refine wq rfl (qa rfl (qe rfl ?_))
  obtain rfl := sj h
  refine Ag (sm [] [(4, bD false), (5, iD 0)] [] rfl rfl) (Ap ?_)
  exact ⟨⟨[_, _], ⟨.tmp _ _ rfl, tm⟩, rfl⟩, tv⟩
 ·refine wq rfl (BO rfl (qe rfl ?_))
  refine Bm h (fun h => ?_) fun h => ?_
  ·refine wq rfl (qa rfl (qe rfl ?_))
   obtain rfl := sj h
   refine Ag (sm [] [(4, bD true), (5, iD 0)] [] rfl rfl) (Ap ?_)
   exact ⟨⟨[_, _], ⟨.tmp _ _ rfl, tm⟩, rfl⟩, tv⟩
  ·refine wq rfl (qm rfl (qa rfl (qe rfl ?_)))
   obtain rfl := sj h
   refine Ag (sm [] [(4, bD false), (5, iD v1.2.2)] [] rfl rfl) (Ap ?_)
   exact ⟨⟨[_, _], ⟨.tmp _ _ rfl, tm⟩, rfl⟩, tv⟩
theorem K9 (N : Nat) (p0 : Ar) (r : ByteArray) (h : GU N p0 = some r) : Ao Tryz.prog 88 [.e (.agg (A2 p0))] [] (pD (.val (.string r))) := by
 unfold GU at h
 refine cw (n := 53) (rs := [.tmp 2]) Tryz.func88 fun w0 S0 => ?_
 refine wq rfl (qb rfl (qa rfl (Ac (wq rfl (qf DZ rfl (ql BG rfl (AB AG rfl (KY rfl (qf Ex rfl (ql JA rfl (AB FC rfl (A6 rfl ?_))))))))))))
 refine GH h fun c1 h => H3 (.p rfl) rfl rfl rfl KL Tl RL (FI rfl) Su rfl rfl rfl c1.1 c1.2.1 c1.2.2 (Ke Er _ ((0 : Int))) ?_
 refine qa rfl (Ac (wp rfl (qf DZ rfl (ql BG rfl (AB AG rfl (qm rfl (Ac ?_)))))))
 refine Az (L := Fh N p0) h (fun v2 => mk [(1, oD (.ptr 1 0)), (3, oD (.own 2001)), (18, iD ((p0.fe.length : Int))), (19, iD v2.2)] [(1, .box (A2 p0)), (2001, .vec 1 (v2.1.map Er))]) (fun v3 => mk [(1, oD (.ptr 1 0)), (3, oD (.own 2002))] [(1, .box (A2 p0)), (2002, .vec 1 (v3.map Er))]) (fun _ _ => rfl) (sm [(2001, 15)] _ _ rfl rfl) (fun j2 n2 v2 h => ?_) (fun v3 s h hs => ?_)
 ·unfold Fh at h
  refine wq rfl (AV rfl (Ac (AC ?_)))
  refine Bm h (fun h => ?_) fun h => ?_
  ·refine Al (AC (AF (wq rfl (qm rfl (qa rfl (Ac (Aj Aw rfl (qm rfl (qf DZ rfl (ql BG rfl (qm rfl ?_)))))))))))
   refine B6 h fun v5 a5 b5 h => qi AG EH a5 (Ai b5) rfl (qk CR rfl (I9 TK Uy rfl (qf Dp rfl (ql BG rfl (qm rfl ?_)))))
   refine B6 h fun v6 a6 b6 h => qi AG EH a6 (Ai b6) rfl (qk CR rfl (A6 rfl (I9 TK Uy rfl (EZ KL Tl Su rfl ?_))))
   refine GH h fun c7 h => E4 (f := Er) KL KL Tl RL Su c7 rfl (qa rfl (AY (by kernel_rfl) (Aj Aw rfl (A6 rfl (qm rfl (Ac ?_))))))
   exact sn [(2001, 37)] h
  ·refine AP ?_
   exact sn [(2002, 2001)] h
 ·refine Ag hs (wp rfl (qf Ex rfl (ql JA rfl (AB FC rfl (qm rfl (Ac ?_))))))
  refine Az (L := Fu N p0) h (fun v8 => mk [(3, oD (.own 2003)), (40, pD (.sl (p0.fg.map Er))), (41, iD ((p0.fg.length : Int))), (42, iD v8.2)] [(2003, .vec 1 (v8.1.map Er))]) (fun v9 => mk [(3, oD (.own 2004))] [(2004, .vec 1 (v9.map Er))]) (fun _ _ => rfl) (sm [(2003, 2002)] _ _ rfl rfl) (fun j8 n8 v8 h => ?_) (fun v9 s h hs => ?_)
  ·unfold Fu at h
   refine wq rfl (AV rfl (Ac (AC ?_)))
   refine Bm h (fun h => ?_) fun h => ?_
   ·refine Al (AC (AF (wq rfl ?_)))
    refine B6 h fun v11 a11 b11 h => qi FC It a11 (Ai b11) rfl (qk NM rfl (qa rfl (Ac (Aj Aw rfl (qw 2 rfl (EZ KL Tl Su rfl ?_))))))
    refine GH h fun c12 h => E4 (f := Er) KL KL Tl RL Su c12 rfl (qa rfl (Ac (Aj Aw rfl (A6 rfl (qm rfl (Ac ?_))))))
    exact sn [(2003, 49)] h
   ·refine AP ?_
    exact sn [(2004, 2003)] h
  ·refine Ag hs (wq rfl (qm rfl ?_))
   refine P2 v9 (.p rfl) rfl (PR Er _ _ _) ⟨rfl, tv⟩ rfl SR Tt ?_
   refine qa rfl (Ac ?_)
   obtain rfl := sj h
   refine Ag (sm [] [(2, pD (.val (.string ((GO v9)))))] [] rfl rfl) (Ap ?_)
   exact ⟨⟨[_], tm, rfl⟩, tv⟩
theorem NB (N : Nat) (p0 : Ae) (r : (List Am)) (h : Ie N p0 = some r) : Ao Tryz.prog 126 [.e (.agg (Ah p0))] [(3, r.map Av)] (oD (.own 0)) := by
 unfold Ie at h
 refine cw (n := 54) (rs := [.tmp 2]) Tryz.func126 fun w0 S0 => ?_
 refine wq rfl (qb rfl (qa rfl (Ac (wq rfl (qa rfl (Ac (wp rfl (qf B8 rfl (ql BG rfl (AB AG rfl (qm rfl (Ac ?_))))))))))))
 refine Az (L := Ft N p0) h (fun v1 => mk [(1, oD (.ptr 1 0)), (3, oD (.own 2001)), (10, pD (.sl (p0.fa.map Au))), (11, iD ((p0.fa.length : Int))), (12, iD v1.2)] [(1, .box (Ah p0)), (2001, .vec 3 (v1.1.map Av))]) (fun v2 => mk [(1, oD (.ptr 1 0)), (3, oD (.own 2002))] [(1, .box (Ah p0)), (2002, .vec 3 (v2.map Av))]) (fun _ _ => rfl) ((AW 3 2005 3 rfl rfl rfl).trans (sm [(2001, 2005)] _ _ rfl rfl)) (fun j1 n1 v1 h => ?_) (fun v2 s h hs => ?_)
 ·unfold Ft at h
  refine wq rfl (AV rfl (Ac (AC ?_)))
  refine Bm h (fun h => ?_) fun h => ?_
  ·refine Al (AC (AF (wq rfl (qm rfl ?_))))
   refine B6 h fun v4 a4 b4 h => qi AG EH a4 (Ai b4) rfl (qk CR rfl (qa rfl (qa rfl (Ac (wq rfl (qw 2 rfl (Ac ?_)))))))
   refine Az (L := Fr N v1 v4) h (fun v5 => mk [(1, oD (.ptr 1 0)), (3, oD (.own 2003)), (4, iD v1.2), (10, pD (.sl (p0.fa.map Au))), (11, iD ((p0.fa.length : Int))), (12, iD v1.2), (17, iD v4), (18, iD v5.2)] [(1, .box (Ah p0)), (2003, .vec 3 (v5.1.map Av))]) (fun v6 => mk [(1, oD (.ptr 1 0)), (3, oD (.own 2004)), (10, pD (.sl (p0.fa.map Au))), (11, iD ((p0.fa.length : Int))), (12, iD v1.2)] [(1, .box (Ah p0)), (2004, .vec 3 (v6.map Av))]) (fun _ _ => rfl) (sm [(2003, 2001)] _ _ rfl rfl) (fun j5 n5 v5 h => ?_) (fun v6 s h hs => ?_)
   ·unfold Fr at h
    refine wq rfl (AV rfl (Ac (AC ?_)))
    refine Bm h (fun h => ?_) fun h => ?_
    ·refine Al (AC (AF (wq rfl (qm rfl (qa rfl (Ac (Aj Aw rfl (qw 3 rfl (B3 GS PY rfl (EZ DT CA GS rfl ?_))))))))))
     refine GH h fun c8 h => E4 (f := Av) DT DT CA Mf GS c8 rfl (qa rfl (Ac (Aj Aw rfl (A6 rfl (qm rfl (Ac ?_))))))
     exact sn [(2003, 26)] h
    ·refine AP ?_
     exact sn [(2004, 2003)] h
   ·refine Ag hs (Aj Aw rfl (A6 rfl (qm rfl (Ac ?_))))
    exact sn [(2001, 2004)] h
  ·refine AP ?_
   exact sn [(2002, 2001)] h
 ·refine Ag hs (wp rfl (qf B8 rfl (ql BG rfl (AB AG rfl (qm rfl (Ac ?_))))))
  refine Az (L := Fd N p0) h (fun v9 => mk [(1, oD (.ptr 1 0)), (3, oD (.own 2006)), (31, iD ((p0.fa.length : Int))), (32, iD v9.2)] [(1, .box (Ah p0)), (2006, .vec 3 (v9.1.map Av))]) (fun v10 => mk [(1, oD (.ptr 1 0)), (3, oD (.own 2007))] [(1, .box (Ah p0)), (2007, .vec 3 (v10.map Av))]) (fun _ _ => rfl) (sm [(2006, 2002)] _ _ rfl rfl) (fun j9 n9 v9 h => ?_) (fun v10 s h hs => ?_)
  ·unfold Fd at h
   refine wq rfl (AV rfl (Ac (AC ?_)))
   refine Bm h (fun h => ?_) fun h => ?_
   ·refine Al (AC (AF (wq rfl (qm rfl (qa rfl (Ac (Aj Aw rfl (qw 2 rfl (B3 GS PY rfl (EZ DT CA GS rfl ?_))))))))))
    refine GH h fun c12 h => E4 (f := Av) DT DT CA Mf GS c12 rfl (qa rfl (Ac (Aj Aw rfl (A6 rfl (qm rfl (Ac ?_))))))
    exact sn [(2006, 39)] h
   ·refine AP ?_
    exact sn [(2007, 2006)] h
  ·refine Ag hs (wp rfl (qf BE rfl (ql Fc rfl (AB Co rfl (qm rfl (Ac ?_))))))
   refine Az (L := ES N p0) h (fun v13 => mk [(3, oD (.own 2008)), (43, iD ((p0.fb.length : Int))), (44, iD v13.2)] [(2008, .vec 3 (v13.1.map Av))]) (fun v14 => mk [(3, oD (.own 2009))] [(2009, .vec 3 (v14.map Av))]) (fun _ _ => rfl) (sm [(2008, 2007)] _ _ rfl rfl) (fun j13 n13 v13 h => ?_) (fun v14 s h hs => ?_)
   ·unfold ES at h
    refine wq rfl (AV rfl (Ac (AC ?_)))
    refine Bm h (fun h => ?_) fun h => ?_
    ·refine Al (AC (AF (wq rfl (qm rfl (qa rfl (Ac (Aj Aw rfl (qw 2 rfl (B3 GS PY rfl (EZ DT CA GS rfl ?_))))))))))
     refine GH h fun c16 h => E4 (f := Av) DT DT CA Mf GS c16 rfl (qa rfl (Ac (Aj Aw rfl (A6 rfl (qm rfl (Ac ?_))))))
     exact sn [(2008, 51)] h
    ·refine AP ?_
     exact sn [(2009, 2008)] h
   ·refine Ag hs (wq rfl (qm rfl (qe rfl ?_)))
    obtain rfl := sj h
    refine Ag (sm [(1000, 2009)] [(2, oD (.own 1000))] [(1000, .vec 3 (v14.map Av))] rfl rfl) (Ap ?_)
    exact ⟨⟨[_], tm, rfl⟩, ⟨rfl, tv⟩⟩
theorem Ls (N : Nat) (p0 : Ar) (r : Ar) (h : GF N p0 = some r) : Ao Tryz.prog 148 [.e (.agg (A2 p0))] [(1, r.fe.map Au), (1, r.fd.map Au), (1, r.fg.map Er)] (.e (.agg [.own 0, .own 1, .own 2])) := by
 unfold GF at h
 refine cw (n := 13) (rs := [.cell 2 64]) Tryz.func148 fun w0 S0 => ?_
 refine wq rfl (qb rfl (qz FG rfl (Ac (wq rfl (qf DZ rfl (ql BG rfl ?_))))))
 refine B5 h fun v1 a1 h => Ax [2001] (Bp N p0.fe v1 a1) M1 rfl (qf Dp rfl (ql BG rfl ?_))
 refine B5 h fun v2 a2 h => Ax [2002] (Bp N p0.fd v2 a2) M1 rfl (qf Ex rfl (ql JA rfl ?_))
 refine B5 h fun v3 a3 h => Ax [2003] (DO N p0.fg v3 a3) Rj rfl (B3 FG Lm rfl (qs BF rfl (AY (by kernel_rfl) ?_)))
 obtain rfl := sj h
 refine Ag (sm [(1000, 2001), (1001, 2002), (1002, 2003)] [(2, oD (.ptr 2 0))] [(2, .box [.own 1000, .own 1001, .own 1002]), (1000, .vec 1 (v1.map Au)), (1001, .vec 1 (v2.map Au)), (1002, .vec 1 (v3.map Er))] rfl rfl) (Ap ?_)
 exact ⟨⟨[_], ⟨.cellN _ _ _ _ _ _ _ rfl rfl C7 BF rfl rfl (J8 rfl), tv⟩, rfl⟩, ⟨rfl, rfl, rfl, tv⟩⟩
theorem Iz (N : Nat) (p0 : As) (r : Bool) (h : Fn N p0 = some r) : Ao Tryz.prog 156 [.e (.agg (Bu p0))] [] (bD r) := by
 unfold Fn at h
 refine cw (n := 11) (rs := [.tmp 2]) Tryz.func156 fun w0 S0 => ?_
 refine wq rfl (qb rfl (qe rfl ?_))
 refine AN h (fun v1 => mk [(2, bD v1)] []) (fun j1 h => ?_) (fun v1 h => ?_)
 ·refine Aj Aw rfl (qf ET rfl (ql CR rfl (BO rfl (qm rfl ?_))))
  refine D2 6 h rfl (fun h => ?_) fun h => ?_
  ·refine qw 3 rfl (qp rfl (qe rfl ?_))
   exact sn [] h
  ·refine qf ET rfl (ql CR rfl (BO rfl (qp rfl (qe rfl ?_))))
   exact sn [] h
 ·obtain rfl := sj h
  refine Ag (sm [] [(2, bD v1)] [] rfl rfl) (Ap ?_)
  exact ⟨⟨[_], tm, rfl⟩, tv⟩
theorem Mg (N : Nat) (p0 : Ae) (p1 : Ar) (p2 : Am) (r : Bool × (List Int) × (List Int)) (h : Hf N p0 p1 p2 = some r) : B2 Tryz.prog 149 [.e (.agg (Ah p0)), oD (.ptr 90000 0), .e (.agg (Dy p2))] [(.box [.own 90001, .own 90002, .own 90003], .box [.own 90001, .own 90002, .own 90003]), (.vec 1 (p1.fe.map Au), .vec 1 (p1.fe.map Au)), (.vec 1 (p1.fd.map Au), .vec 1 (r.2.1.map Au)), (.vec 1 (p1.fg.map Er), .vec 1 (r.2.2.map Er))] [] (bD r.1) := by
 unfold Hf at h
 refine CW (n := 70) (rs := [.tmp 6]) Tryz.func149 rfl rfl rfl (FI rfl) (FI rfl) rfl rfl (FI rfl) rfl (FI rfl) fun w0 S0 GL => ?_
 refine Ag (sm [] [(0, .e (.agg (Ah p0))), (1, oD (.ptr 90000 0)), (2, .e (.agg (Dy p2)))] [(90000, .box [.own 90001, .own 90002, .own 90003]), (90001, .vec 1 (p1.fe.map Au)), (90002, .vec 1 (p1.fd.map Au)), (90003, .vec 1 (p1.fg.map Er))] rfl rfl) (wq rfl (qb rfl (qb rfl (qa rfl (Ac (AC ?_))))))
 refine AN h (fun v1 => mk [(1, oD (.ptr 90000 0)), (3, oD (.ptr 3 0)), (5, oD (.ptr 5 0)), (30, bD v1)] [(3, .box (Ah p0)), (5, .box (Dy p2)), (90000, .box [.own 90001, .own 90002, .own 90003]), (90001, .vec 1 (p1.fe.map Au)), (90002, .vec 1 (p1.fd.map Au)), (90003, .vec 1 (p1.fg.map Er))]) (fun j1 h => ?_) (fun v1 h => ?_)
 ·refine Aj Aw rfl (qm rfl (QI rfl (qf Dp rfl (ql BG rfl (qf D3 rfl (ql CR rfl ?_))))))
  refine B6 h fun v2 a2 b2 h => qI AG EH a2 (Ai b2) rfl (qj CR (Ai b2) rfl (FY rfl (qm rfl ?_)))
  refine D2 18 h rfl (fun h => ?_) fun h => ?_
  ·refine qw 11 rfl (qp rfl (AY (by kernel_rfl) ?_))
   exact sn [] h
  ·refine qm rfl (QI rfl (qf DZ rfl (ql BG rfl (qf D3 rfl (ql CR rfl ?_)))))
   refine B6 h fun v4 a4 b4 h => qI AG EH a4 (Ai b4) rfl (qj CR (Ai b4) rfl (qf Hm rfl (ql CR rfl (BO rfl (qp rfl (AY (by kernel_rfl) ?_))))))
   exact sn [] h
 ·refine Bm h (fun h => ?_) fun h => ?_
  ·refine wq rfl (qe rfl ?_)
   obtain rfl := sj h
   refine Ag (sm [] [(6, bD false)] [(90000, .box [.own 90001, .own 90002, .own 90003]), (90001, .vec 1 (p1.fe.map Au)), (90002, .vec 1 (p1.fd.map Au)), (90003, .vec 1 (p1.fg.map Er))] rfl rfl) (Ap ?_)
   exact ⟨⟨[_], tm, rfl⟩, ⟨rfl, rfl, rfl, rfl, tv⟩, tv⟩
  ·refine Al (wq rfl (qm rfl (QI rfl (qf Dp rfl (ql BG rfl (qf D3 rfl (ql CR rfl (qf Hm rfl (ql CR rfl ?_)))))))))
   refine B6 h fun v6 a6 b6 h => qI AG EH a6 (Ai b6) rfl ?_
   refine D7 rfl rfl rfl rfl (Ai b6) rfl EH rfl (FI rfl) (CX Au p1.fd _ p2.fv) ?_
   refine AY (by kernel_rfl) (wp rfl (qf BE rfl (ql Fc rfl (AB Co rfl (qm rfl (Ac ?_))))))
   refine Az (L := Ey N p0 p2) h (fun v7 => mk [(1, oD (.ptr 90000 0)), (5, oD (.ptr 5 0)), (41, pD (.sl (p0.fb.map AA))), (42, iD ((p0.fb.length : Int))), (43, iD v7.2)] [(5, .box (Dy p2)), (90000, .box [.own 90001, .own 90002, .own 90003]), (90001, .vec 1 (p1.fe.map Au)), (90002, .vec 1 ((p1.fd.set ((p2.fo).toNat) p2.fv).map Au)), (90003, .vec 1 (v7.1.map Er))]) (fun v8 => mk [] [(90000, .box [.own 90001, .own 90002, .own 90003]), (90001, .vec 1 (p1.fe.map Au)), (90002, .vec 1 ((p1.fd.set ((p2.fo).toNat) p2.fv).map Au)), (90003, .vec 1 (v8.map Er))]) (fun _ _ => rfl) (sm [] _ _ rfl rfl) (fun j7 n7 v7 h => ?_) (fun v8 s h hs => ?_)
   ·unfold Ey at h
    refine wq rfl (AV rfl (Ac (AC ?_)))
    refine Bm h (fun h => ?_) fun h => ?_
    ·refine Al ?_
     refine AN h (fun v10 => mk [(1, oD (.ptr 90000 0)), (5, oD (.ptr 5 0)), (41, pD (.sl (p0.fb.map AA))), (42, iD ((p0.fb.length : Int))), (43, iD v7.2)] [(5, .box (Dy p2)), (90000, .box [.own 90001, .own 90002, .own 90003]), (90001, .vec 1 (p1.fe.map Au)), (90002, .vec 1 ((p1.fd.set ((p2.fo).toNat) p2.fv).map Au)), (90003, .vec 1 (v10.map Er))]) (fun j10 h => ?_) (fun v10 h => ?_)
     ·refine AF (wq rfl (qm rfl ?_))
      refine B6 h fun v11 a11 b11 h => qi Co C2 a11 (Ai b11) rfl (qK G4 C2 rfl (qz I0 rfl (qa rfl (qs C2 rfl (Ac ?_)))))
      refine AN h (fun v12 => mk [(1, oD (.ptr 90000 0)), (5, oD (.ptr 5 0)), (7, iD v7.2), (41, pD (.sl (p0.fb.map AA))), (42, iD ((p0.fb.length : Int))), (43, iD v7.2), (56, bD v12)] [(5, .box (Dy p2)), (90000, .box [.own 90001, .own 90002, .own 90003]), (90001, .vec 1 (p1.fe.map Au)), (90002, .vec 1 ((p1.fd.set ((p2.fo).toNat) p2.fv).map Au)), (90003, .vec 1 (v7.1.map Er))]) (fun j12 h => ?_) (fun v12 h => ?_)
      ·refine Aj Aw rfl (qf Ec rfl (ql CR rfl (qf D3 rfl (ql CR rfl (BO rfl (qm rfl ?_))))))
       refine D2 53 h rfl (fun h => ?_) fun h => ?_
       ·refine qL G4 C2 rfl ?_
        refine B5 h fun v14 a14 h => Ax [] (Iz N v11 v14 a14) RB rfl (qp rfl (Ac ?_))
        exact sn [] h
       ·refine qw 2 rfl (qp rfl (Ac ?_))
        exact sn [] h
      ·refine Bm h (fun h => ?_) fun h => ?_
       ·refine Aj Aw rfl (qm rfl (QI rfl (qf Ex rfl (ql JA rfl (qm rfl ?_)))))
        refine B6 h fun v16 a16 b16 h => qI FC It a16 (Ai b16) rfl (qj NM (Ai b16) rfl (qf Hm rfl (ql CR rfl ?_)))
        refine GH h fun c17 h => J0 rfl c17 (R6 rfl ?_)
        refine B6 h fun v18 a18 b18 h => qI FC It a18 (Ai b18) rfl ?_
        refine D7 rfl rfl rfl rfl (Ai b18) rfl It rfl (FI rfl) (CX Er v7.1 _ ((Qy .u8 v16 ((GG .u8 1 p2.fv))))) ?_
        refine AY (by kernel_rfl) ?_
        exact sn [] h
       ·refine Al ?_
        exact sn [] h
     ·refine Aj Aw rfl (A6 rfl (qm rfl (Ac ?_)))
      exact sn [] h
    ·refine AP ?_
     exact sn [] h
   ·refine Ag hs (wq rfl (qe rfl ?_))
    obtain rfl := sj h
    refine Ag (sm [] [(6, bD true)] [(90000, .box [.own 90001, .own 90002, .own 90003]), (90001, .vec 1 (p1.fe.map Au)), (90002, .vec 1 ((p1.fd.set ((p2.fo).toNat) p2.fv).map Au)), (90003, .vec 1 (v8.map Er))] rfl rfl) (Ap ?_)
    exact ⟨⟨[_], tm, rfl⟩, ⟨rfl, rfl, rfl, rfl, tv⟩, tv⟩
theorem KH (N : Nat) (p0 : Ar) (p1 : Int) (r : Int) (h : F5 N p0 p1 = some r) : Ao Tryz.prog 157 [.e (.agg (A2 p0)), iD p1] [] (pD (.val (.int .u8 r))) := by
 unfold F5 at h
 refine cw (n := 27) (rs := [.tmp 4]) Tryz.func157 fun w0 S0 => ?_
 refine wq rfl (qb rfl (qa rfl (Ac (wq rfl (qf DZ rfl (ql BG rfl (qm rfl ?_)))))))
 refine B6 h fun v1 a1 b1 h => qi AG EH a1 (Ai b1) rfl (qk CR rfl ?_)
 refine GH h fun c2 h => J0 rfl c2 (qe rfl ?_)
 refine AN h (fun v3 => mk [(5, pD (.val (.int .u8 v3)))] []) (fun j3 h => ?_) (fun v3 h => ?_)
 ·refine wq rfl (qf Dp rfl (ql BG rfl (qm rfl ?_)))
  refine B6 h fun v4 a4 b4 h => qi AG EH a4 (Ai b4) rfl (qk CR rfl (FY rfl (Ac ?_)))
  refine Bm h (fun h => ?_) fun h => ?_
  ·refine Aj Aw rfl (qm rfl (qf Dp rfl (ql BG rfl (qm rfl ?_))))
   refine B6 h fun v6 a6 b6 h => qi AG EH a6 (Ai b6) rfl (qk CR rfl ?_)
   refine GH h fun c7 h => J0 rfl c7 (R6 rfl (qe rfl ?_))
   exact sn [] h
  ·refine Al ?_
   exact sn [] h
 ·refine wq rfl (qm rfl (qe rfl ?_))
  obtain rfl := sj h
  refine Ag (sm [] [(4, pD (.val (.int .u8 v3)))] [] rfl rfl) (Ap ?_)
  exact ⟨⟨[_], tm, rfl⟩, tv⟩
theorem Gy (N : Nat) (p0 : Int) (r : Int) (h : Da N p0 = some r) : Ao Tryz.prog 161 [pD (.val (.int .u8 p0))] [] (iD r) := by
 unfold Da at h
 refine cw (n := 6) (rs := [.tmp 2]) Tryz.func161 fun w0 S0 => ?_
 refine wq rfl (qa rfl (Ac (wq rfl (qm rfl ?_))))
 refine B5 h fun v1 a1 h => OM (.p rfl) rfl rfl Tt a1 ?_
 refine I9 UB Ux rfl (qe rfl ?_)
 obtain rfl := sj h
 refine Ag (sm [] [(2, iD ((wI .i64 v1)))] [] rfl rfl) (Ap ?_)
 exact ⟨⟨[_], tm, rfl⟩, tv⟩
theorem I1 (N : Nat) (p0 : As) (p1 : Int) (p2 : Int) (r : Bool) (h : EY N p0 p1 p2 = some r) : Ao Tryz.prog 158 [.e (.agg (Bu p0)), pD (.val (.int .u8 p1)), iD p2] [] (bD r) := by
 unfold EY at h
 refine cw (n := 25) (rs := [.tmp 6]) Tryz.func158 fun w0 S0 => ?_
 refine wq rfl (qb rfl (qa rfl (Ac (wp rfl (qm rfl (qe rfl ?_))))))
 refine Az (L := Dn N p0 p2) h (fun v1 => mk [(2, iD p2), (3, oD (.ptr 3 0)), (7, pD (.val (.int .u8 v1)))] [(3, .box (Bu p0))]) (fun v2 => mk [] []) (fun _ _ => rfl) (sm [] _ _ rfl rfl) (fun j1 n1 v1 h => ?_) (fun v2 s h hs => ?_)
 ·unfold Dn at h
  refine wp rfl (qm rfl (BU rfl (Ac ?_)))
  refine Bm h (fun h => ?_) fun h => ?_
  ·refine Al (AC (AF (wq rfl (qf Dm rfl (ql EF rfl (qm rfl ?_))))))
   refine B5 h fun v4 a4 h => Ax [] (Gy N v1 v4 a4) S6 rfl ?_
   refine B6 h fun v5 a5 b5 h => qi CH Hd a5 (Ai b5) rfl (qk Jp rfl (qm rfl ?_))
   refine B6 h fun v6 a6 b6 h => qi E8 O9 a6 (Ai b6) rfl (qk Ql rfl (Cr rfl (AY (by kernel_rfl) ?_)))
   refine Bm h (fun h => ?_) fun h => ?_
   ·refine wq rfl (qe rfl ?_)
    obtain rfl := sj h
    refine Ag (sm [] [(6, bD false)] [] rfl rfl) (Ap ?_)
    exact ⟨⟨[_], tm, rfl⟩, tv⟩
   ·refine Al (Aj Aw rfl (qw 2 rfl (IY rfl (KN rfl (qe rfl ?_)))))
    exact sn [] h
  ·refine AP ?_
   exact sn [] h
 ·refine Ag hs (wq rfl (qe rfl ?_))
  obtain rfl := sj h
  refine Ag (sm [] [(6, bD true)] [] rfl rfl) (Ap ?_)
  exact ⟨⟨[_], tm, rfl⟩, tv⟩
theorem Mw (N : Nat) (p0 : Ae) (p1 : Ar) (p2 : Int) (r : Bool × (List Int)) (h : Hc N p0 p1 p2 = some r) : B2 Tryz.prog 150 [.e (.agg (Ah p0)), oD (.ptr 90000 0), iD p2] [(.box [.own 90001, .own 90002, .own 90003], .box [.own 90001, .own 90002, .own 90003]), (.vec 1 (p1.fe.map Au), .vec 1 (p1.fe.map Au)), (.vec 1 (p1.fd.map Au), .vec 1 (p1.fd.map Au)), (.vec 1 (p1.fg.map Er), .vec 1 (r.2.map Er))] [] (bD r.1) := by
 unfold Hc at h
 refine CW (n := 68) (rs := [.tmp 6]) Tryz.func150 rfl rfl rfl (FI rfl) (FI rfl) rfl rfl (FI rfl) rfl (FI rfl) fun w0 S0 GL => ?_
 refine Ag (sm [] [(0, .e (.agg (Ah p0))), (1, oD (.ptr 90000 0)), (2, iD p2)] [(90000, .box [.own 90001, .own 90002, .own 90003]), (90001, .vec 1 (p1.fe.map Au)), (90002, .vec 1 (p1.fd.map Au)), (90003, .vec 1 (p1.fg.map Er))] rfl rfl) (wq rfl (qb rfl (qa rfl (Ac (wq rfl (qf BE rfl (ql Fc rfl (qm rfl ?_))))))))
 refine B6 h fun v1 a1 b1 h => qi Co C2 a1 (Ai b1) rfl (qK G4 C2 rfl (qz I0 rfl (qs C2 rfl (Ac (wp rfl (qL G4 C2 rfl ?_))))))
 refine B5 h fun v2 a2 h => Ax [] (Iz N v1 v2 a2) RB rfl (Cr rfl (Ac ?_))
 refine Bm h (fun h => ?_) fun h => ?_
 ·refine wq rfl (qe rfl ?_)
  obtain rfl := sj h
  refine Ag (sm [] [(6, bD false)] [(90000, .box [.own 90001, .own 90002, .own 90003]), (90001, .vec 1 (p1.fe.map Au)), (90002, .vec 1 (p1.fd.map Au)), (90003, .vec 1 (p1.fg.map Er))] rfl rfl) (Ap ?_)
  exact ⟨⟨[_], tm, rfl⟩, ⟨rfl, rfl, rfl, rfl, tv⟩, tv⟩
 ·refine Al (wq rfl (qm rfl (QI rfl (qL C7 BF rfl (qf Ec rfl (ql CR rfl ?_))))))
  refine B5 h fun v4 a4 h => DW [] [90001, 90002, 90003] (KH N p1 v1.ff v4 a4) SM CB rfl (qa rfl (AY (by kernel_rfl) (wq rfl (qm rfl (QI rfl (qf Ex rfl (ql JA rfl (qm rfl ?_))))))))
  refine B6 h fun v5 a5 b5 h => qI FC It a5 (Ai b5) rfl (qj NM (Ai b5) rfl (qm rfl (Kp rfl (qa rfl (Ac (AC ?_))))))
  refine AN h (fun v6 => mk [(1, oD (.ptr 90000 0)), (2, iD p2), (8, pD (.val (.int .u8 v4))), (60, bD v6)] [(90000, .box [.own 90001, .own 90002, .own 90003]), (90001, .vec 1 (p1.fe.map Au)), (90002, .vec 1 (p1.fd.map Au)), (90003, .vec 1 (p1.fg.map Er))]) (fun j6 h => ?_) (fun v6 h => ?_)
  ·refine Aj Aw rfl (qm rfl (QI rfl (qf Ex rfl (ql JA rfl (qm rfl ?_)))))
   refine B6 h fun v7 a7 b7 h => qI FC It a7 (Ai b7) rfl (qj NM (Ai b7) rfl (qm rfl (BO rfl (qm rfl ?_))))
   refine D2 42 h rfl (fun h => ?_) fun h => ?_
   ·refine qw 4 rfl (qu rfl (qu rfl (qu rfl (qu rfl (qu rfl (qu rfl (qu rfl (qu rfl (qu rfl (qu rfl (qu rfl (qu rfl (qn rfl (qp rfl (AY (by kernel_rfl) ?_)))))))))))))))
    exact sn [] h
   ·refine qf ET rfl (ql CR rfl (BO rfl (qm rfl ?_)))
    refine D2 46 h rfl (fun h => ?_) fun h => ?_
    ·refine qL G4 C2 rfl (qw 2 rfl (QI rfl (qf DZ rfl (ql BG rfl (qf Ec rfl (ql CR rfl ?_))))))
     refine B6 h fun v10 a10 b10 h => qI AG EH a10 (Ai b10) rfl (qj CR (Ai b10) rfl ?_)
     refine B5 h fun v11 a11 h => Ax [] (I1 N v1 ((Ht .u8 v5 v4)) v10 v11 a11) Tk rfl (Cr rfl (qp rfl (qp rfl (AY (by kernel_rfl) ?_))))
     exact sn [] h
    ·refine qw 12 rfl (qp rfl (qp rfl (AY (by kernel_rfl) ?_)))
     exact sn [] h
  ·refine Bm h (fun h => ?_) fun h => ?_
   ·refine wq rfl (qe rfl ?_)
    obtain rfl := sj h
    refine Ag (sm [] [(6, bD false)] [(90000, .box [.own 90001, .own 90002, .own 90003]), (90001, .vec 1 (p1.fe.map Au)), (90002, .vec 1 (p1.fd.map Au)), (90003, .vec 1 (p1.fg.map Er))] rfl rfl) (Ap ?_)
    exact ⟨⟨[_], tm, rfl⟩, ⟨rfl, rfl, rfl, rfl, tv⟩, tv⟩
   ·refine Al (wq rfl (qm rfl (QI rfl (qf Ex rfl (ql JA rfl (qw 2 rfl ?_))))))
    refine B6 h fun v13 a13 b13 h => qI FC It a13 (Ai b13) rfl ?_
    refine D7 rfl rfl rfl rfl (Ai b13) rfl It rfl (FI rfl) (CX Er p1.fg _ v4) ?_
    refine Ac (wq rfl (qe rfl ?_))
    obtain rfl := sj h
    refine Ag (sm [] [(6, bD true)] [(90000, .box [.own 90001, .own 90002, .own 90003]), (90001, .vec 1 (p1.fe.map Au)), (90002, .vec 1 (p1.fd.map Au)), (90003, .vec 1 ((p1.fg.set ((p2).toNat) v4).map Er))] rfl rfl) (Ap ?_)
    exact ⟨⟨[_], tm, rfl⟩, ⟨rfl, rfl, rfl, rfl, tv⟩, tv⟩
theorem Jq (N : Nat) (p0 : Ae) (p1 : Ar) (p2 : Am) (r : Ar × Bool) (h : FM N p0 p1 p2 = some r) : Ao Tryz.prog 128 [.e (.agg (Ah p0)), .e (.agg (A2 p1)), .e (.agg (Dy p2))] [(1, r.1.fe.map Au), (1, r.1.fd.map Au), (1, r.1.fg.map Er)] (.tup [.agg [.own 0, .own 1, .own 2], .one (.pure (.val (.bool r.2)))]) := by
 unfold FM at h
 refine cw (n := 51) (rs := [.cell 6 64, .tmp 7]) Tryz.func128 fun w0 S0 => ?_
 refine wq rfl (qb rfl (qb rfl (qb rfl (qz FG rfl (qa rfl (Ac (wq rfl (qL C7 BF rfl ?_))))))))
 refine B5 h fun v1 a1 h => Ax [2001, 2002, 2003] (Ls N p1 v1 a1) Sy rfl (qz FG rfl (qs BF rfl (Ac (wp rfl (qf Gp rfl (ql CR rfl (Ac (AF (wq rfl (BO rfl (qe rfl ?_)))))))))))
 refine Bm h (fun h => ?_) fun h => ?_
 ·refine wq rfl (qL C7 BF rfl (qL CD Ce rfl (qL F9 CA rfl ?_)))
  refine B5 h fun v3 a3 h => Fl (ds0 := [_, _, _]) [8, 2001, 2002, 2003] [] [false, false, true, true] (Mg N p0 v1 p2 v3 a3) (.p rfl) TF rfl ⟨rfl, rfl, rfl, tv⟩ rfl rfl (by decide) ⟨rfl, rfl, rfl, rfl, tv⟩ rfl (Ck rfl) tv ⟨(fun _ => rfl), (fun _ => rfl), (fun h => by cases h), (fun h => by cases h), tv⟩ rfl rfl rfl ?_
  refine qs BF rfl (qa rfl (AY (by kernel_rfl) ?_))
  obtain rfl := sj h
  refine Ag (sm [(1000, 2001), (1001, 2002), (1002, 2003)] [(6, oD (.ptr 6 0)), (7, bD v3.1)] [(6, .box [.own 1000, .own 1001, .own 1002]), (1000, .vec 1 (v1.fe.map Au)), (1001, .vec 1 (v3.2.1.map Au)), (1002, .vec 1 (v3.2.2.map Er))] rfl rfl) (Ap ?_)
  exact ⟨⟨[_, _], ⟨.cellN _ _ _ _ _ _ _ rfl rfl C7 BF rfl rfl (J8 rfl), tm⟩, rfl⟩, ⟨rfl, rfl, rfl, tv⟩⟩
 ·refine wq rfl (BO rfl (qe rfl ?_))
  refine Bm h (fun h => ?_) fun h => ?_
  ·refine wq rfl (qL C7 BF rfl (qL CD Ce rfl (qf D3 rfl (ql CR rfl ?_))))
   refine B5 h fun v5 a5 h => Fl (ds0 := [_, _, _]) [8, 2001, 2002, 2003] [] [false, false, false, true] (Mw N p0 v1 p2.fo v5 a5) (.p rfl) SG rfl ⟨rfl, rfl, rfl, tv⟩ rfl rfl (by decide) ⟨rfl, rfl, rfl, rfl, tv⟩ rfl (Ck rfl) tv ⟨(fun _ => rfl), (fun _ => rfl), (fun _ => rfl), (fun h => by cases h), tv⟩ rfl rfl rfl ?_
   refine qs BF rfl (qa rfl (AY (by kernel_rfl) ?_))
   obtain rfl := sj h
   refine Ag (sm [(1000, 2001), (1001, 2002), (1002, 2003)] [(6, oD (.ptr 6 0)), (7, bD v5.1)] [(6, .box [.own 1000, .own 1001, .own 1002]), (1000, .vec 1 (v1.fe.map Au)), (1001, .vec 1 (v1.fd.map Au)), (1002, .vec 1 (v5.2.map Er))] rfl rfl) (Ap ?_)
   exact ⟨⟨[_, _], ⟨.cellN _ _ _ _ _ _ _ rfl rfl C7 BF rfl rfl (J8 rfl), tm⟩, rfl⟩, ⟨rfl, rfl, rfl, tv⟩⟩
  ·refine Al (wq rfl (qf Dp rfl (ql BG rfl (qf D3 rfl (ql CR rfl ?_)))))
   refine B6 h fun v6 a6 b6 h => qI AG EH a6 (Ai b6) rfl (qj CR (Ai b6) rfl (qa rfl (Ac (wp rfl (qm rfl (AV rfl (Ac ?_)))))))
   refine Bm h (fun h => ?_) fun h => ?_
   ·refine wq rfl (qL C7 BF rfl (qs BF rfl (qe rfl ?_)))
    obtain rfl := sj h
    refine Ag (sm [(1000, 2001), (1001, 2002), (1002, 2003)] [(6, oD (.ptr 6 0)), (7, bD false)] [(6, .box [.own 1000, .own 1001, .own 1002]), (1000, .vec 1 (v1.fe.map Au)), (1001, .vec 1 (v1.fd.map Au)), (1002, .vec 1 (v1.fg.map Er))] rfl rfl) (Ap ?_)
    exact ⟨⟨[_, _], ⟨.cellN _ _ _ _ _ _ _ rfl rfl C7 BF rfl rfl (J8 rfl), tm⟩, rfl⟩, ⟨rfl, rfl, rfl, tv⟩⟩
   ·refine Al (wq rfl (qf Dp rfl (ql BG rfl (qf D3 rfl (ql CR rfl ?_)))))
    refine B6 h fun v8 a8 b8 h => qI AG EH a8 (Ai b8) rfl ?_
    refine D7 rfl rfl rfl rfl (Ai b8) rfl EH rfl (FI rfl) (CX Au v1.fd _ ((-1))) ?_
    refine Ac ?_
    refine AN h (fun v9 => mk [(6, oD (.ptr 6 0)), (8, oD (.ptr 8 0))] [(6, .box [.pure (.nil0), .pure (.nil0), .pure (.nil0)]), (8, .box [.own 2004, .own 2005, .own 2006]), (2004, .vec 1 (v9.map Au)), (2005, .vec 1 ((v1.fd.set ((p2.fo).toNat) ((-1))).map Au)), (2006, .vec 1 (v1.fg.map Er))]) (fun j9 h => ?_) (fun v9 h => ?_)
    ·refine wq rfl (qf Gp rfl (ql CR rfl (BO rfl (Ac ?_))))
     refine Bm h (fun h => ?_) fun h => ?_
     ·refine Aj Aw rfl (qf DZ rfl (ql BG rfl (qf D3 rfl (ql CR rfl (qm rfl ?_)))))
      refine B6 h fun v11 a11 b11 h => qI AG EH a11 (Ai b11) rfl ?_
      refine D7 rfl rfl rfl rfl (Ai b11) rfl EH rfl (FI rfl) (CX Au v1.fe _ v6) ?_
      refine Ac ?_
      exact sn [(2004, 2001), (2005, 2002), (2006, 2003)] h
     ·refine Al ?_
      exact sn [(2004, 2001), (2005, 2002), (2006, 2003)] h
    ·refine wq rfl (qL C7 BF rfl (qs BF rfl (qe rfl ?_)))
     obtain rfl := sj h
     refine Ag (sm [(1000, 2004), (1001, 2005), (1002, 2006)] [(6, oD (.ptr 6 0)), (7, bD true)] [(6, .box [.own 1000, .own 1001, .own 1002]), (1000, .vec 1 (v9.map Au)), (1001, .vec 1 ((v1.fd.set ((p2.fo).toNat) ((-1))).map Au)), (1002, .vec 1 (v1.fg.map Er))] rfl rfl) (Ap ?_)
     exact ⟨⟨[_, _], ⟨.cellN _ _ _ _ _ _ _ rfl rfl C7 BF rfl rfl (J8 rfl), tm⟩, rfl⟩, ⟨rfl, rfl, rfl, tv⟩⟩
theorem JM (N : Nat) (p0 : Am) (p1 : List Int) (p2 : List Int) (p3 : List Int) (p4 : List As) (p5 : List Int) (p6 : List Int) (p7 : List Int) (r : Bool) (h : DB N p0 p1 p2 p3 p4 p5 p6 p7 = some r) : Ao Tryz.prog 127 [.e (.agg (Dy p0)), oD (.rop [.sl (p1.map Au), .sl (p2.map Au), .sl (p3.map Au), .sl (p4.map AA)]), oD (.rop [.sl (p5.map Au), .sl (p6.map Au), .sl (p7.map Er)])] [] (bD r) := by
 unfold DB at h
 refine cw (n := 16) (rs := [.tmp 4]) Tryz.func127 fun w0 S0 => ?_
 refine wq rfl (qb rfl (qa rfl (Ac (wq rfl (qK CD Ce rfl (qK C7 BF rfl (qL F9 CA rfl ?_)))))))
 refine B5 h fun v1 a1 h => Ax [2001, 2002, 2003] (Jq N ((Ae.mk p1 p2 p3 p4)) ((Ar.mk p5 p6 p7)) p0 v1 a1) Rw rfl (qm rfl (qx rfl (qx rfl (qz FG rfl (qs BF rfl (qa rfl (Ac (wq rfl (qm rfl (Cr rfl (qe rfl ?_)))))))))))
 obtain rfl := sj h
 refine Ag (sm [] [(4, bD ((!v1.2)))] [] rfl rfl) (Ap ?_)
 exact ⟨⟨[_], tm, rfl⟩, tv⟩
theorem EG (N : Nat) (p0 : List Am) (p1 : Am → Option Bool) (r : Int) (h : BV N p0 p1 = some r) : Ao Tryz.prog 147 [pD (.sl (p0.map Av)), oD (.clo (Gn (Kb true Av) tB p1))] [] (iD r) := by
 unfold BV at h
 refine cw (n := 19) (rs := [.tmp 4]) Tryz.func147 fun w0 S0 => ?_
 refine wq rfl (qa rfl (Ac (wp rfl (qm rfl (AB DT rfl (qm rfl (Ac ?_)))))))
 refine Az (L := Bk N p0 p1) h (fun v1 => mk [(0, pD (.sl (p0.map Av))), (1, oD (.clo (Gn (Kb true Av) tB p1))), (7, iD ((p0.length : Int))), (8, iD v1)] []) (fun v2 => mk [] []) (fun _ _ => rfl) (sm [] _ _ rfl rfl) (fun j1 n1 v1 h => ?_) (fun v2 s h hs => ?_)
 ·unfold Bk at h
  refine wq rfl (AV rfl (Ac (AC ?_)))
  refine Bm h (fun h => ?_) fun h => ?_
  ·refine Al (AC (AF (wq rfl (qm rfl (qa rfl (Ac (wq rfl (qw 3 rfl ?_))))))))
   refine B6 h fun v4 a4 b4 h => qi DT CA a4 (Ai b4) rfl (qK F9 CA rfl ?_)
   refine B5 h fun v5 a5 h => Je (ds0 := [_]) (ar := (Kb true Av) v4) (.p rfl) rfl rfl ⟨rfl, tv⟩ rfl rfl rfl (In (I7 _ _ Kn) a5) ?_
   refine Ac ?_
   refine Bm h (fun h => ?_) fun h => ?_
   ·refine wq rfl (qm rfl (qe rfl ?_))
    obtain rfl := sj h
    refine Ag (sm [] [(4, iD v1)] [] rfl rfl) (Ap ?_)
    exact ⟨⟨[_], tm, rfl⟩, tv⟩
   ·refine Al (Aj Aw rfl (A6 rfl (qm rfl (Ac ?_))))
    exact sn [] h
  ·refine AP ?_
   exact sn [] h
 ·refine Ag hs (wq rfl (qe rfl ?_))
  obtain rfl := sj h
  refine Ag (sm [] [(4, iD ((-1)))] [] rfl rfl) (Ap ?_)
  exact ⟨⟨[_], tm, rfl⟩, tv⟩
theorem Ev (N : Nat) (p0 : List Am) (p1 : Am → Option Bool) (r : Nat × (List Am)) (h : BT N p0 p1 = some r) : B2 Tryz.prog 125 [oD (.own 90000), oD (.clo (Gn (Kb true Av) tB p1))] [(.vec 3 (p0.map Av), .vec 3 (r.2.map Av))] [] (oD (.view 90000 3 0 r.1)) := by
 unfold BT at h
 refine CW (n := 42) (rs := [.tmp 4]) Tryz.func125 rfl rfl rfl (FI rfl) (FI rfl) rfl rfl (FI rfl) rfl (FI rfl) fun w0 S0 GL => ?_
 refine Ag (sm [] [(0, oD (.own 90000)), (1, oD (.clo (Gn (Kb true Av) tB p1)))] [(90000, .vec 3 (p0.map Av))] rfl rfl) (wq rfl (qa rfl (Ac (wq rfl (qw 2 rfl ?_)))))
 refine B5 h fun v1 a1 h => DW [] [90000] (EG N p0 p1 v1 a1) SV CB rfl (qa rfl (Ac (wp rfl (qm rfl (BO rfl (Ac ?_))))))
 refine Bm h (fun h => ?_) fun h => ?_
 ·refine wq rfl (qm rfl (qe rfl ?_))
  obtain rfl := sj h
  refine Ag ((Ki Av p0 4 90000 3 rfl rfl).trans (sm [] [(4, oD (.view 90000 3 0 p0.length))] [(90000, .vec 3 (p0.map Av))] rfl rfl)) (Ap ?_)
  exact ⟨⟨[_], tm, rfl⟩, ⟨rfl, tv⟩, tv⟩
 ·refine Al (wp rfl (qm rfl (A6 rfl (qe rfl ?_))))
  refine Az (L := Bi N p1) h (fun v3 => mk [(0, oD (.own 90000)), (1, oD (.clo (Gn (Kb true Av) tB p1))), (5, iD v3.2.1), (6, iD v3.2.2)] [(90000, .vec 3 (v3.1.map Av))]) (fun v4 => mk [(0, oD (.own 90000)), (5, iD v4.2)] [(90000, .vec 3 (v4.1.map Av))]) (fun _ _ => rfl) (sm [] _ _ rfl rfl) (fun j3 n3 v3 h => ?_) (fun v4 s h hs => ?_)
  ·unfold Bi at h
   refine wp rfl (qw 2 rfl (C0 DT rfl (AV rfl (Ac ?_))))
   refine Bm h (fun h => ?_) fun h => ?_
   ·refine Al ?_
    refine AN h (fun v6 => mk [(0, oD (.own 90000)), (1, oD (.clo (Gn (Kb true Av) tB p1))), (5, iD v6.2), (6, iD v3.2.2)] [(90000, .vec 3 (v6.1.map Av))]) (fun j6 h => ?_) (fun v6 h => ?_)
    ·refine AF (wq rfl (qw 2 rfl ?_))
     refine B6 h fun v7 a7 b7 h => qI DT CA a7 (Ai b7) rfl (qJ F9 CA (Ai b7) rfl (qz GS rfl (qs CA rfl (Ac (wq rfl (qm rfl (qL F9 CA rfl ?_)))))))
     refine B5 h fun v8 a8 h => Je (ds0 := [_]) (ar := (Kb true Av) v7) (.p rfl) rfl rfl ⟨rfl, tv⟩ rfl rfl rfl (In (I7 _ _ Kn) a8) ?_
     refine Cr rfl (Ac ?_)
     refine Bm h (fun h => ?_) fun h => ?_
     ·refine wq rfl (qw 2 rfl (qL F9 CA rfl ?_))
      refine B6 h fun v10 a10 b10 h => qI DT CA a10 (Ai b10) rfl ?_
      refine D7 rfl rfl rfl rfl (Ai b10) rfl CA rfl (FI rfl) (CX Av v3.1 _ v7) ?_
      refine Ac (Aj Aw rfl (qm rfl (A6 rfl (qe rfl ?_))))
      exact sn [] h
     ·refine Al ?_
      exact sn [] h
    ·refine Aj Aw rfl (qm rfl (A6 rfl (qe rfl ?_)))
     exact sn [] h
   ·refine AP ?_
    exact sn [] h
  ·refine Ag hs (wq rfl (qw 2 rfl ?_))
   obtain ⟨c11, h⟩ := CP h
   have w12 : ((v4.2).toNat) + ((v4.1.length - (v4.2).toNat)) ≤ v4.1.length := by have := c11.2.1; have := c11.2.2; omega
   refine El Av v4.1 (.p rfl) rfl (Ep Av _ _ v4.1) rfl DT CA (.some _ _ _ _ c11.1) (.none _) ⟨rfl, tv⟩ tv c11.2.1 (by rw [Nat.zero_add]; exact c11.2.2) (Nat.zero_add _) rfl ?_
   have w13 : (EW v4.1 ((v4.2).toNat) (List.replicate ((v4.1.length - (v4.2).toNat)) ((Am.mk 0 0 0)))).length = v4.1.length := FK (by rw [List.length_replicate]; exact w12)
   refine Kr Av v4.1 ((Am.mk 0 0 0)) rfl rfl (Gg Av _ _ ((v4.2).toNat) ((v4.1.length - (v4.2).toNat)) v4.1 w12) rfl DT GS rfl rfl rfl rfl ?_
   refine Ac (wq rfl (qw 2 rfl ?_))
   obtain ⟨c14, h⟩ := CP h
   have w15 : 0 + ((v4.2).toNat) ≤ (EW v4.1 ((v4.2).toNat) (List.replicate ((v4.1.length - (v4.2).toNat)) ((Am.mk 0 0 0)))).length := by have := c14.2.1; have := c14.2.2; omega
   refine El Av (EW v4.1 ((v4.2).toNat) (List.replicate ((v4.1.length - (v4.2).toNat)) ((Am.mk 0 0 0)))) (.p rfl) rfl (Ep Av _ _ (EW v4.1 ((v4.2).toNat) (List.replicate ((v4.1.length - (v4.2).toNat)) ((Am.mk 0 0 0))))) rfl DT CA (.none _) (.some _ _ _ _ c14.1) tv ⟨rfl, tv⟩ c14.2.1 (by rw [Nat.zero_add]; exact c14.2.2) (Nat.zero_add _) rfl ?_
   refine qa rfl (Ac ?_)
   obtain rfl := sj h
   refine Ag (sm [] [(4, oD (.view 90000 3 0 ((v4.2).toNat)))] [(90000, .vec 3 ((EW v4.1 ((v4.2).toNat) (List.replicate ((v4.1.length - (v4.2).toNat)) ((Am.mk 0 0 0)))).map Av))] rfl rfl) (Ap ?_)
   exact ⟨⟨[_], tm, rfl⟩, ⟨rfl, tv⟩, tv⟩
theorem Kk (N : Nat) (p0 : Ae) (p1 : Ar) (r : (List Am) × Int) (h : F3 N p0 p1 = some r) : Ao Tryz.prog 89 [.e (.agg (Ah p0)), .e (.agg (A2 p1))] [(3, r.1.map Av)] (.tup [.one (.own 0), .one (iC r.2)]) := by
 unfold F3 at h
 refine cw (n := 17) (rs := [.tmp 4, .tmp 5]) Tryz.func89 fun w0 S0 => ?_
 refine wq rfl (qb rfl (qb rfl (qa rfl (qa rfl (Ac (wp rfl (qL CD Ce rfl (qL C7 BF rfl ?_))))))))
 refine B5 h fun v1 a1 h => Ax [] (GR N p0 p1 v1 a1) QR rfl (qa rfl (Ac (wq rfl (qm rfl (BU rfl (Ac ?_))))))
 refine Bm h (fun h => ?_) fun h => ?_
 ·refine wq rfl (qm rfl (qa rfl (qe rfl ?_)))
  obtain rfl := sj h
  refine Ag ((AW 4 2001 3 rfl rfl rfl).trans (sm [(1000, 2001)] [(4, oD (.own 1000)), (5, iD v1)] [(1000, .vec 3 ((([] : List Am)).map Av))] rfl rfl)) (Ap ?_)
  exact ⟨⟨[_, _], ⟨.tmp _ _ rfl, tm⟩, rfl⟩, ⟨rfl, tv⟩⟩
 ·refine Al (wq rfl (qL CD Ce rfl ?_))
  refine B5 h fun v3 a3 h => Ax [2002] (NB N p0 v3 a3) S5 rfl (DU (Ja 2 [.sl (p0.fa.map Au), .sl (p0.fj.map Au), .sl (p0.fm.map Au), .sl (p0.fb.map AA)] rfl rfl) (DU (Ja 3 [.sl (p1.fe.map Au), .sl (p1.fd.map Au), .sl (p1.fg.map Er)] rfl rfl) ?_))
  refine IM (capD := [_, _]) (Gn (Kb true Av) tB ((fun (x : Am) => DB N x p0.fa p0.fj p0.fm p0.fb p1.fe p1.fd p1.fg))) (.p rfl) Tc rfl ⟨rfl, rfl, tv⟩ rfl (fun ar t ht => by obtain ⟨x, r, rfl, hq, rfl⟩ := Gi ht; exact JM N x p0.fa p0.fj p0.fm p0.fb p1.fe p1.fd p1.fg r hq) ?_
  obtain ⟨v4, a4, h⟩ := bind_some h
  obtain ⟨c5, h⟩ := CP h
  have w6 : 0 + v4.1 ≤ v4.2.length := by rw [Nat.zero_add]; exact c5
  refine Fl (ds0 := [_, _]) [2002] [] [true] (Ev N v3 ((fun (x : Am) => DB N x p0.fa p0.fj p0.fm p0.fb p1.fe p1.fd p1.fg)) v4 a4) (.p rfl) S3 rfl ⟨rfl, rfl, tv⟩ rfl rfl (by decide) ⟨rfl, tv⟩ rfl (Ck rfl) tv ⟨(fun h => by cases h), tv⟩ rfl rfl rfl ?_
  refine DU (NA Av v4.2 16 2002 2003 3 v4.1 rfl rfl rfl rfl rfl c5) (qa rfl (qe rfl ?_))
  obtain rfl := sj h
  refine Ag (sm [(1000, 2003)] [(4, oD (.own 1000)), (5, iD 0)] [(1000, .vec 3 ((v4.2.take v4.1).map Av))] rfl rfl) (Ap ?_)
  exact ⟨⟨[_, _], ⟨.tmp _ _ rfl, tm⟩, rfl⟩, ⟨rfl, tv⟩⟩
theorem Mo (N : Nat) (p0 : Am) (r : Bool) (h : Hb N p0 = some r) : Ao Tryz.prog 151 [.e (.agg (Dy p0))] [] (bD r) := by
 unfold Hb at h
 refine cw (n := 27) (rs := [.tmp 2]) Tryz.func151 fun w0 S0 => ?_
 refine wq rfl (qb rfl (qa rfl (Ac (AC ?_))))
 refine AN h (fun v1 => mk [(1, oD (.ptr 1 0)), (18, bD v1)] [(1, .box (Dy p0))]) (fun j1 h => ?_) (fun v1 h => ?_)
 ·refine Aj Aw rfl (qf D3 rfl (ql CR rfl (qf Hm rfl (ql CR rfl ?_))))
  refine Th (.p rfl) rfl rfl ?_
  refine AV rfl (qm rfl ?_)
  refine D2 9 h rfl (fun h => ?_) fun h => ?_
  ·refine qw 3 rfl (qp rfl (qw 4 rfl (qp rfl (Ac ?_))))
   exact sn [] h
  ·refine qf Gp rfl (ql CR rfl (AV rfl (qp rfl (qm rfl ?_))))
   refine D2 14 h rfl (fun h => ?_) fun h => ?_
   ·refine qw 3 rfl (qp rfl (Ac ?_))
    exact sn [] h
   ·refine qf Gp rfl (ql CR rfl (Dx rfl (qp rfl (Ac ?_))))
    exact sn [] h
 ·refine Bm h (fun h => ?_) fun h => ?_
  ·refine wq rfl (qe rfl ?_)
   obtain rfl := sj h
   refine Ag (sm [] [(2, bD false)] [] rfl rfl) (Ap ?_)
   exact ⟨⟨[_], tm, rfl⟩, tv⟩
  ·refine Al ?_
   refine AN h (fun v5 => mk [(2, bD v5)] []) (fun j5 h => ?_) (fun v5 h => ?_)
   ·refine Aj Aw rfl (qf Gp rfl (ql CR rfl (BO rfl (qm rfl ?_))))
    refine D2 22 h rfl (fun h => ?_) fun h => ?_
    ·refine qw 3 rfl (qp rfl (qe rfl ?_))
     exact sn [] h
    ·refine qf Hm rfl (ql CR rfl (BO rfl (qp rfl (qe rfl ?_))))
     exact sn [] h
   ·obtain rfl := sj h
    refine Ag (sm [] [(2, bD v5)] [] rfl rfl) (Ap ?_)
    exact ⟨⟨[_], tm, rfl⟩, tv⟩
theorem Lo (N : Nat) (p0 : Ae) (p1 : Am) (r : Bool) (h : Gu N p0 p1 = some r) : Ao Tryz.prog 152 [.e (.agg (Ah p0)), .e (.agg (Dy p1))] [] (bD r) := by
 unfold Gu at h
 refine cw (n := 36) (rs := [.tmp 4]) Tryz.func152 fun w0 S0 => ?_
 refine wq rfl (qb rfl (qb rfl (qa rfl (Ac (wp rfl (qf Gp rfl (ql CR rfl (BO rfl (Ac ?_)))))))))
 refine Bm h (fun h => ?_) fun h => ?_
 ·refine wq rfl (qf D3 rfl (ql CR rfl (qf BE rfl (ql Fc rfl (AB Co rfl (AV rfl (qe rfl ?_)))))))
  obtain rfl := sj h
  refine Ag (sm [] [(4, bD ((decide (p1.fo < (p0.fb.length : Int)))))] [] rfl rfl) (Ap ?_)
  exact ⟨⟨[_], tm, rfl⟩, tv⟩
 ·refine Al ?_
  refine AN h (fun v2 => mk [(4, bD v2)] []) (fun j2 h => ?_) (fun v2 h => ?_)
  ·refine Aj Aw rfl (qf D3 rfl (ql CR rfl (qf B8 rfl (ql BG rfl (AB AG rfl (AV rfl (qm rfl ?_)))))))
   refine D2 20 h rfl (fun h => ?_) fun h => ?_
   ·refine qf Gp rfl (ql CR rfl (BU rfl (qm rfl ?_)))
    refine D2 24 h rfl (fun h => ?_) fun h => ?_
    ·refine qw 9 rfl (qp rfl (qp rfl (qa rfl (AY (by kernel_rfl) ?_))))
     exact sn [] h
    ·refine qf Hm rfl (ql CR rfl (qf B8 rfl (ql BG rfl (qf D3 rfl (ql CR rfl ?_)))))
     refine B6 h fun v5 a5 b5 h => qi AG EH a5 (Ai b5) rfl (qk CR rfl (AV rfl (qp rfl (qp rfl (qa rfl (AY (by kernel_rfl) ?_))))))
     exact sn [] h
   ·refine qw 4 rfl (qu rfl (qu rfl (qu rfl (qu rfl (qu rfl (qu rfl (qu rfl (qu rfl (qu rfl (qn rfl (qp rfl (qa rfl (AY (by kernel_rfl) ?_)))))))))))))
    exact sn [] h
  ·obtain rfl := sj h
   refine Ag (sm [] [(4, bD v2)] [] rfl rfl) (Ap ?_)
   exact ⟨⟨[_], tm, rfl⟩, tv⟩
theorem Md (N : Nat) (p0 : Ae) (p1 : Ar) (p2 : Am) (r : Ar × Int) (h : G5 N p0 p1 p2 = some r) : Ao Tryz.prog 129 [.e (.agg (Ah p0)), .e (.agg (A2 p1)), .e (.agg (Dy p2))] [(1, r.1.fe.map Au), (1, r.1.fd.map Au), (1, r.1.fg.map Er)] (.tup [.agg [.own 0, .own 1, .own 2], .one (iC r.2)]) := by
 unfold G5 at h
 refine cw (n := 32) (rs := [.cell 6 64, .tmp 7]) Tryz.func129 fun w0 S0 => ?_
 refine wq rfl (qb rfl (qb rfl (qb rfl (qz FG rfl (qa rfl (Ac (AC (AF (wq rfl (qL F9 CA rfl ?_))))))))))
 refine B5 h fun v1 a1 h => Ax [] (Mo N p2 v1 a1) TE rfl (Cr rfl (qe rfl ?_))
 refine Bm h (fun h => ?_) fun h => ?_
 ·refine wq rfl (B3 FG Lm rfl (qs BF rfl (qe rfl ?_)))
  obtain rfl := sj h
  refine Ag ((A3 6 0 2001 1 _ rfl rfl rfl rfl).trans ((A3 6 1 2002 1 _ rfl rfl rfl rfl).trans ((A3 6 2 2003 1 _ rfl rfl rfl rfl).trans (sm [(1000, 2001), (1001, 2002), (1002, 2003)] [(6, oD (.ptr 6 0)), (7, iD 1)] [(6, .box [.own 1000, .own 1001, .own 1002]), (1000, .vec 1 ((([] : List Int)).map Au)), (1001, .vec 1 ((([] : List Int)).map Au)), (1002, .vec 1 ((([] : List Int)).map Er))] rfl rfl)))) (Ap ?_)
  exact ⟨⟨[_, _], ⟨.cellN _ _ _ _ _ _ _ rfl rfl C7 BF rfl rfl (J8 rfl), tm⟩, rfl⟩, ⟨rfl, rfl, rfl, tv⟩⟩
 ·refine wq rfl (qL CD Ce rfl (qL F9 CA rfl ?_))
  refine B5 h fun v3 a3 h => Ax [] (Lo N p0 p2 v3 a3) Ty rfl (Cr rfl (qe rfl ?_))
  refine Bm h (fun h => ?_) fun h => ?_
  ·refine wq rfl (B3 FG Lm rfl (qs BF rfl (qe rfl ?_)))
   obtain rfl := sj h
   refine Ag ((A3 6 0 2004 1 _ rfl rfl rfl rfl).trans ((A3 6 1 2005 1 _ rfl rfl rfl rfl).trans ((A3 6 2 2006 1 _ rfl rfl rfl rfl).trans (sm [(1000, 2004), (1001, 2005), (1002, 2006)] [(6, oD (.ptr 6 0)), (7, iD 4)] [(6, .box [.own 1000, .own 1001, .own 1002]), (1000, .vec 1 ((([] : List Int)).map Au)), (1001, .vec 1 ((([] : List Int)).map Au)), (1002, .vec 1 ((([] : List Int)).map Er))] rfl rfl)))) (Ap ?_)
   exact ⟨⟨[_, _], ⟨.cellN _ _ _ _ _ _ _ rfl rfl C7 BF rfl rfl (J8 rfl), tm⟩, rfl⟩, ⟨rfl, rfl, rfl, tv⟩⟩
  ·refine Al (wq rfl (qL CD Ce rfl (qL C7 BF rfl (qL F9 CA rfl ?_))))
   refine B5 h fun v5 a5 h => Ax [2007, 2008, 2009] (Jq N p0 p1 p2 v5 a5) Rw rfl (qm rfl (qx rfl (qx rfl (qz FG rfl (qs BF rfl (qa rfl (Ac (wp rfl (qm rfl (Cr rfl (Ac ?_)))))))))))
   refine Bm h (fun h => ?_) fun h => ?_
   ·refine wq rfl (B3 FG Lm rfl (qs BF rfl (qe rfl ?_)))
    obtain rfl := sj h
    refine Ag ((A3 6 0 2010 1 _ rfl rfl rfl rfl).trans ((A3 6 1 2011 1 _ rfl rfl rfl rfl).trans ((A3 6 2 2012 1 _ rfl rfl rfl rfl).trans (sm [(1000, 2010), (1001, 2011), (1002, 2012)] [(6, oD (.ptr 6 0)), (7, iD 11)] [(6, .box [.own 1000, .own 1001, .own 1002]), (1000, .vec 1 ((([] : List Int)).map Au)), (1001, .vec 1 ((([] : List Int)).map Au)), (1002, .vec 1 ((([] : List Int)).map Er))] rfl rfl)))) (Ap ?_)
    exact ⟨⟨[_, _], ⟨.cellN _ _ _ _ _ _ _ rfl rfl C7 BF rfl rfl (J8 rfl), tm⟩, rfl⟩, ⟨rfl, rfl, rfl, tv⟩⟩
   ·refine Al (wq rfl (qL C7 BF rfl (qs BF rfl (qe rfl ?_))))
    obtain rfl := sj h
    refine Ag (sm [(1000, 2007), (1001, 2008), (1002, 2009)] [(6, oD (.ptr 6 0)), (7, iD 0)] [(6, .box [.own 1000, .own 1001, .own 1002]), (1000, .vec 1 (v5.1.fe.map Au)), (1001, .vec 1 (v5.1.fd.map Au)), (1002, .vec 1 (v5.1.fg.map Er))] rfl rfl) (Ap ?_)
    exact ⟨⟨[_, _], ⟨.cellN _ _ _ _ _ _ _ rfl rfl C7 BF rfl rfl (J8 rfl), tm⟩, rfl⟩, ⟨rfl, rfl, rfl, tv⟩⟩
theorem Mn (N : Nat) (p0 : Ae) (p1 : Ar) (p2 : Am) (r : Ar × Int) (h : G8 N p0 p1 p2 = some r) : Ao Tryz.prog 90 [.e (.agg (Ah p0)), .e (.agg (A2 p1)), .e (.agg (Dy p2))] [(1, r.1.fe.map Au), (1, r.1.fd.map Au), (1, r.1.fg.map Er)] (.tup [.agg [.own 0, .own 1, .own 2], .one (iC r.2)]) := by
 unfold G8 at h
 refine cw (n := 22) (rs := [.cell 6 64, .tmp 7]) Tryz.func90 fun w0 S0 => ?_
 refine wq rfl (qb rfl (qb rfl (qb rfl (qz FG rfl (qa rfl (Ac (wp rfl (qL CD Ce rfl (qL C7 BF rfl ?_)))))))))
 refine B5 h fun v1 a1 h => Ax [] (GR N p0 p1 v1 a1) QR rfl (qa rfl (Ac (wq rfl (qm rfl (BU rfl (Ac ?_))))))
 refine Bm h (fun h => ?_) fun h => ?_
 ·refine wq rfl (B3 FG Lm rfl (qm rfl (qs BF rfl (qe rfl ?_))))
  obtain rfl := sj h
  refine Ag ((A3 6 0 2001 1 _ rfl rfl rfl rfl).trans ((A3 6 1 2002 1 _ rfl rfl rfl rfl).trans ((A3 6 2 2003 1 _ rfl rfl rfl rfl).trans (sm [(1000, 2001), (1001, 2002), (1002, 2003)] [(6, oD (.ptr 6 0)), (7, iD v1)] [(6, .box [.own 1000, .own 1001, .own 1002]), (1000, .vec 1 ((([] : List Int)).map Au)), (1001, .vec 1 ((([] : List Int)).map Au)), (1002, .vec 1 ((([] : List Int)).map Er))] rfl rfl)))) (Ap ?_)
  exact ⟨⟨[_, _], ⟨.cellN _ _ _ _ _ _ _ rfl rfl C7 BF rfl rfl (J8 rfl), tm⟩, rfl⟩, ⟨rfl, rfl, rfl, tv⟩⟩
 ·refine Al (wq rfl (qL CD Ce rfl (qL C7 BF rfl (qL F9 CA rfl ?_))))
  refine B5 h fun v3 a3 h => Ax [2004, 2005, 2006] (Md N p0 p1 p2 v3 a3) SF rfl (qx rfl (qx rfl (qs BF rfl (qe rfl ?_))))
  obtain rfl := sj h
  refine Ag (sm [(1000, 2004), (1001, 2005), (1002, 2006)] [(6, oD (.ptr 6 0)), (7, iD v3.2)] [(6, .box [.own 1000, .own 1001, .own 1002]), (1000, .vec 1 (v3.1.fe.map Au)), (1001, .vec 1 (v3.1.fd.map Au)), (1002, .vec 1 (v3.1.fg.map Er))] rfl rfl) (Ap ?_)
  exact ⟨⟨[_, _], ⟨.cellN _ _ _ _ _ _ _ rfl rfl C7 BF rfl rfl (J8 rfl), tm⟩, rfl⟩, ⟨rfl, rfl, rfl, tv⟩⟩
theorem Ln (N : Nat) (p0 : Ae) (p1 : Ar) (r : (List AD) × Int) (h : Gt N p0 p1 = some r) : Ao Tryz.prog 64 [.e (.agg (Ah p0)), .e (.agg (A2 p1))] [] (.tup [.one (sC (r.1.map AO)), .one (iC r.2)]) := by
 unfold Gt at h
 refine cw (n := 119) (rs := [.tmp 4, .tmp 5]) Tryz.func64 fun w0 S0 => ?_
 refine wq rfl (qb rfl (qb rfl (qa rfl (qa rfl (Ac (wq rfl (qL C7 BF rfl (B3 MR RA rfl ?_))))))))
 refine ID [(0, .tmp 21, _)] (.p rfl) rfl ⟨rfl, tv⟩ rfl F6 HN MR rfl rfl (FI rfl) rfl rfl ?_
 refine DU (Hr 22 8 [.s, .s, .s, .s, .s, .s, .s, .x 1 []] _ ((([(AD.mk p1 ((-1)) ((Am.mk 0 0 0)) (([] : List Int)))] : List AD)).map AO) rfl rfl) (qa rfl (Ac (wq rfl ?_)))
 refine OS (.p rfl) rfl ?_
 refine qL C7 BF rfl ?_
 refine B5 h fun v1 a1 h => Ax [] (K9 N p1 v1 a1) Tj rfl ?_
 refine M8 (kv := Value.string) (vt := KP) (m := ([] : List (ByteArray × Int))) (k := v1) (v := 0) rfl (.inr rfl) rfl rfl rfl rfl (JH Mp RH) rfl ?_
 refine qm rfl (qa rfl (Ac (wp rfl (qe rfl ?_))))
 refine Az (L := Eg N p0) h (fun v2 => mk [(2, oD (.ptr 2 0)), (6, oD (.own 2001)), (7, oD (.mref 2002)), (8, iD v2.2.2)] [(2, .box (Ah p0)), (2001, .dvec 8 [.s, .s, .s, .s, .s, .s, .s, .x 1 []] (v2.1.map AO)), (2002, .mp (Gw Value.string KP v2.2.1))]) (fun v3 => mk [(6, oD (.own 2003))] [(2003, .dvec 8 [.s, .s, .s, .s, .s, .s, .s, .x 1 []] (v3.map AO))]) (fun _ _ => rfl) (sm [(2001, 22), (2002, 23)] _ _ rfl rfl) (fun j2 n2 v2 h => ?_) (fun v3 s h hs => ?_)
 ·unfold Eg at h
  refine wp rfl (qw 2 rfl ?_)
  refine N0 (.p rfl) rfl rfl (Ir AO v2.1 _ _) F6 ?_
  refine AV rfl (Ac ?_)
  refine Bm h (fun h => ?_) fun h => ?_
  ·refine Al (AC (AF (wq rfl (qL CD Ce rfl (qw 2 rfl ?_)))))
   refine B6 h fun v5 a5 b5 h => EO (.p rfl) rfl rfl rfl (Ir AO v2.1 _ _) F6 HN a5 (An b5) ?_
   refine qh KO rfl ?_
   refine Nw (.p rfl) rfl C7 BF rfl (Ai b5) rfl rfl (by decide) rfl ?_
   refine B5 h fun v6 a6 h => Ax [2004] (Kk N p0 ((Ar.mk v5.fp.fe v5.fp.fd v5.fp.fg)) v6 a6) Ub rfl (qm rfl (qx rfl (qx rfl (qa rfl (qa rfl (AY (by kernel_rfl) (wp rfl (qm rfl (BU rfl (Ac ?_))))))))))
   refine Bm h (fun h => ?_) fun h => ?_
   ·refine wq rfl (qm rfl (qa rfl (qe rfl ?_)))
    obtain rfl := sj h
    refine Ag ((I5 4 _ rfl).trans (sm [] [(4, pD (.sl ((([] : List AD)).map AO))), (5, iD v6.2)] [] rfl rfl)) (Ap ?_)
    exact ⟨⟨[_, _], ⟨.tmp _ _ rfl, tm⟩, rfl⟩, tv⟩
   ·refine Al (wq rfl (qm rfl (C0 DT rfl (qm rfl (Ac ?_)))))
    refine Az (L := Ea N p0 v2 v6) h (fun v8 => mk [(2, oD (.ptr 2 0)), (6, oD (.own 2005)), (7, oD (.mref 2006)), (8, iD v2.2.2), (46, oD (.own 2007)), (47, iD ((v6.1.length : Int))), (48, iD v8.2.2)] [(2, .box (Ah p0)), (2005, .dvec 8 [.s, .s, .s, .s, .s, .s, .s, .x 1 []] (v8.1.map AO)), (2006, .mp (Gw Value.string KP v8.2.1)), (2007, .vec 3 (v6.1.map Av))]) (fun v9 => mk [(2, oD (.ptr 2 0)), (6, oD (.own 2008)), (7, oD (.mref 2009)), (8, iD v2.2.2)] [(2, .box (Ah p0)), (2008, .dvec 8 [.s, .s, .s, .s, .s, .s, .s, .x 1 []] (v9.1.map AO)), (2009, .mp (Gw Value.string KP v9.2))]) (fun _ _ => rfl) (sm [(2005, 2001), (2006, 2002), (2007, 2004)] _ _ rfl rfl) (fun j8 n8 v8 h => ?_) (fun v9 s h hs => ?_)
    ·unfold Ea at h
     refine wq rfl (AV rfl (Ac (AC ?_)))
     refine Bm h (fun h => ?_) fun h => ?_
     ·refine Al (AC (AF (wq rfl ?_)))
      refine B6 h fun v11 a11 b11 h => qI DT CA a11 (Ai b11) rfl (qJ F9 CA (Ai b11) rfl (qz GS rfl (qs CA rfl (Ac (wq rfl (qL CD Ce rfl (qw 2 rfl ?_)))))))
      refine B6 h fun v12 a12 b12 h => EO (.p rfl) rfl rfl rfl (Ir AO v8.1 _ _) F6 HN a12 (An b12) ?_
      refine qh KO rfl ?_
      refine Nw (.p rfl) rfl C7 BF rfl (Ai b12) rfl rfl (by decide) rfl ?_
      refine qL F9 CA rfl ?_
      refine B5 h fun v13 a13 h => Ax [2010, 2011, 2012] (Mn N p0 ((Ar.mk v12.fp.fe v12.fp.fd v12.fp.fg)) v11 v13 a13) Uh rfl (qm rfl (qx rfl (qx rfl (qz FG rfl (qs BF rfl (qa rfl (AY (by kernel_rfl) (wp rfl (qm rfl (BU rfl (Ac ?_)))))))))))
      refine Bm h (fun h => ?_) fun h => ?_
      ·refine wq rfl (qm rfl (qa rfl (qe rfl ?_)))
       obtain rfl := sj h
       refine Ag ((I5 4 _ rfl).trans (sm [] [(4, pD (.sl ((([] : List AD)).map AO))), (5, iD v13.2)] [] rfl rfl)) (Ap ?_)
       exact ⟨⟨[_, _], ⟨.tmp _ _ rfl, tm⟩, rfl⟩, tv⟩
      ·refine Al (wq rfl (qL C7 BF rfl ?_))
       refine B5 h fun v15 a15 h => DW [] [2010, 2011, 2012] (K9 N v13.1 v15 a15) Tj CB rfl (qa rfl (Ac (wq rfl (qw 2 rfl ?_))))
       refine Pr (kv := Value.string) (vt := KP) (m := v8.2.1) (dv := 0) (.p rfl) rfl rfl rfl (JH Mp RH) (by rw [Mp]; rfl) OO rfl rfl rfl ?_
       refine qm rfl (qx rfl (qx rfl (qa rfl (qe rfl ?_))))
       refine AN h (fun v16 => mk [(2, oD (.ptr 2 0)), (6, oD (.own 2013)), (7, oD (.mref 2014)), (8, iD v2.2.2), (16, iD v16.2.2), (46, oD (.own 2015)), (47, iD ((v6.1.length : Int))), (48, iD v8.2.2)] [(2, .box (Ah p0)), (2013, .dvec 8 [.s, .s, .s, .s, .s, .s, .s, .x 1 []] (v16.1.map AO)), (2014, .mp (Gw Value.string KP v16.2.1)), (2015, .vec 3 (v6.1.map Av))]) (fun j16 h => ?_) (fun v16 h => ?_)
       ·refine wq rfl (qm rfl (Cr rfl (Ac ?_)))
        refine Bm h (fun h => ?_) fun h => ?_
        ·refine AN h (fun v18 => mk [(2, oD (.ptr 2 0)), (6, oD (.own 2016)), (7, oD (.mref 2017)), (8, iD v2.2.2), (15, pD (.val (.string v15))), (16, iD v18.2), (46, oD (.own 2018)), (47, iD ((v6.1.length : Int))), (48, iD v8.2.2)] [(2, .box (Ah p0)), (2016, .dvec 8 [.s, .s, .s, .s, .s, .s, .s, .x 1 []] (v18.1.map AO)), (2017, .mp (Gw Value.string KP v8.2.1)), (2018, .vec 3 (v6.1.map Av))]) (fun j18 h => ?_) (fun v18 h => ?_)
         ·refine wq rfl (qL CD Ce rfl (qL C7 BF rfl ?_))
          refine B5 h fun v19 a19 h => DW [] [2010, 2011, 2012] (Jr N p0 v13.1 v19 a19) SQ CB rfl (qm rfl (qx rfl (qx rfl (qa rfl (qe rfl ?_)))))
          refine AN h (fun v20 => mk [(2, oD (.ptr 2 0)), (6, oD (.own 2022)), (7, oD (.mref 2023)), (8, iD v2.2.2), (12, oD (.ptr 12 0)), (13, oD (.ptr 13 0)), (15, pD (.val (.string v15))), (46, oD (.own 2024)), (47, iD ((v6.1.length : Int))), (48, iD v8.2.2), (87, bD v20)] [(2, .box (Ah p0)), (12, .box (Dy v11)), (13, .box [.own 2019, .own 2020, .own 2021]), (2019, .vec 1 (v13.1.fe.map Au)), (2020, .vec 1 (v13.1.fd.map Au)), (2021, .vec 1 (v13.1.fg.map Er)), (2022, .dvec 8 [.s, .s, .s, .s, .s, .s, .s, .x 1 []] (v8.1.map AO)), (2023, .mp (Gw Value.string KP v8.2.1)), (2024, .vec 3 (v6.1.map Av))]) (fun j20 h => ?_) (fun v20 h => ?_)
          ·refine Aj Aw rfl (qm rfl (BU rfl (qm rfl ?_)))
           refine D2 84 h rfl (fun h => ?_) fun h => ?_
           ·refine qw 2 rfl (qp rfl (Ac ?_))
            exact sn [(2019, 2010), (2020, 2011), (2021, 2012), (2022, 2005), (2023, 2006), (2024, 2007)] h
           ·refine qm rfl (Cr rfl (qp rfl (Ac ?_)))
            exact sn [(2019, 2010), (2020, 2011), (2021, 2012), (2022, 2005), (2023, 2006), (2024, 2007)] h
          ·refine Bm h (fun h => ?_) fun h => ?_
           ·refine Aj Aw rfl (qe rfl ?_)
            exact sn [(2016, 2022), (2017, 2023), (2018, 2024)] h
           ·refine wq rfl (qm rfl ?_)
            refine N0 (.p rfl) rfl rfl (Ir AO v8.1 _ _) F6 ?_
            refine qa rfl (Ac (Aj Aw rfl (qm rfl (qL C7 BF rfl (qm rfl (qL F9 CA rfl (B3 MR RA rfl (DU (Cz 2019 _ _ rfl rfl) (DU (Cz 2020 _ _ rfl rfl) (DU (Cz 2021 _ _ rfl rfl) ?_))))))))))
            refine ID [(0, .tmp 94, _)] (.p rfl) rfl ⟨rfl, tv⟩ rfl F6 HN MR rfl rfl (FI rfl) rfl rfl ?_
            refine DU (Hr 95 8 [.s, .s, .s, .s, .s, .s, .s, .x 1 []] _ ((([(AD.mk v13.1 v2.2.2 v11 (([] : List Int)))] : List AD)).map AO) rfl rfl) ?_
            refine GH h fun c23 h => LI (.p rfl) rfl rfl rfl rfl rfl (by decide) F6 F6 HN RF (FI rfl) MR rfl (Or (f := AO) (g := AO) (xs := v8.1) (ys := (([(AD.mk v13.1 v2.2.2 v11 (([] : List Int)))] : List AD))) c23) (Og AO v8.1 (([(AD.mk v13.1 v2.2.2 v11 (([] : List Int)))] : List AD))) rfl rfl ?_
            refine qa rfl (Ac ?_)
            exact sn [(2016, 96), (2017, 2023), (2018, 2024)] h
         ·refine Aj Aw rfl (qw 3 rfl ?_)
          refine M8 (kv := Value.string) (vt := KP) (m := v8.2.1) (k := v15) (v := v18.2) rfl (.inl rfl) rfl rfl rfl rfl (JH Mp RH) rfl ?_
          refine Ac ?_
          exact sn [(2013, 2016), (2014, 2017), (2015, 2018)] h
        ·refine Al ?_
         exact sn [(2013, 2005), (2014, 2006), (2015, 2007)] h
       ·refine AN h (fun v24 => mk [(2, oD (.ptr 2 0)), (6, oD (.own 2025)), (7, oD (.mref 2026)), (8, iD v2.2.2), (46, oD (.own 2027)), (47, iD ((v6.1.length : Int))), (48, iD v8.2.2)] [(2, .box (Ah p0)), (2025, .dvec 8 [.s, .s, .s, .s, .s, .s, .s, .x 1 []] (v24.map AO)), (2026, .mp (Gw Value.string KP v16.2.1)), (2027, .vec 3 (v6.1.map Av))]) (fun j24 h => ?_) (fun v24 h => ?_)
        ·refine wq rfl (qm rfl (FY rfl (Ac ?_)))
         refine Bm h (fun h => ?_) fun h => ?_
         ·refine Aj Aw rfl (qw 4 rfl ?_)
          refine B6 h fun v26 a26 b26 h => EO (.p rfl) rfl rfl rfl (Ir AO v16.1 _ _) F6 HN a26 (An b26) ?_
          refine qh MQ rfl ?_
          refine R1 (.p rfl) rfl BG rfl (Ai b26) rfl rfl rfl rfl ?_
          refine qm rfl (EZ AG EH OO rfl ?_)
          refine GH h fun c27 h => E4 (f := Au) AG AG EH Qn OO c27 rfl ?_
          refine B6 h fun v28 a28 b28 h => EO (.p rfl) rfl rfl rfl (NF AO v16.1 _ _ _ _ _) F6 HN a28 (An b28) ?_
          refine qh MQ rfl ?_
          refine Pi rfl rfl rfl rfl (rows2 := (v26.fd ++ (([v16.2.2] : List Int))).map Au) (cols2 := []) rfl rfl (Ai b28) (by decide) TP rfl rfl (CX AO v16.1 _ ((AD.mk ((Ar.mk v28.fp.fe v28.fp.fd v28.fp.fg)) v28.ff ((Am.mk v28.fw.fc v28.fw.fo v28.fw.fv)) (v26.fd ++ (([v16.2.2] : List Int)))))) ?_
          refine Ac ?_
          exact sn [(2025, 2013), (2026, 2014), (2027, 2015)] h
         ·refine Al ?_
          exact sn [(2025, 2013), (2026, 2014), (2027, 2015)] h
        ·refine wq rfl (qm rfl ?_)
         refine N0 (.p rfl) rfl rfl (Ir AO v24 _ _) F6 ?_
         refine Dx rfl (Ac ?_)
         refine Bm h (fun h => ?_) fun h => ?_
         ·refine wq rfl (qa rfl (qe rfl ?_))
          obtain rfl := sj h
          refine Ag ((I5 4 _ rfl).trans (sm [] [(4, pD (.sl ((([] : List AD)).map AO))), (5, iD 3)] [] rfl rfl)) (Ap ?_)
          exact ⟨⟨[_, _], ⟨.tmp _ _ rfl, tm⟩, rfl⟩, tv⟩
         ·refine Al (Aj Aw rfl (A6 rfl (qm rfl (Ac ?_))))
          exact sn [(2005, 2025), (2006, 2026), (2007, 2027)] h
     ·refine AP ?_
      exact sn [(2008, 2005), (2009, 2006)] h
    ·refine Ag hs (Aj Aw rfl (qm rfl (A6 rfl (qe rfl ?_))))
     exact sn [(2001, 2008), (2002, 2009)] h
  ·refine AP ?_
   exact sn [(2003, 2001)] h
 ·refine Ag hs (wq rfl (qm rfl (qa rfl (qe rfl ?_))))
  obtain rfl := sj h
  refine Ag ((LQ 2003 _ _ _ rfl rfl).trans (sm [] [(4, pD (.sl (v3.map AO))), (5, iD 0)] [] rfl rfl)) (Ap ?_)
  exact ⟨⟨[_, _], ⟨.tmp _ _ rfl, tm⟩, rfl⟩, tv⟩
theorem Hz (N : Nat) (p0 : List Int) (p1 : List Int) (r : Bool) (h : DQ N p0 p1 = some r) : Ao Tryz.prog 92 [pD (.sl (p0.map Au)), pD (.sl (p1.map Au))] [] (bD r) := by
 unfold DQ at h
 refine cw (n := 26) (rs := [.tmp 4]) Tryz.func92 fun w0 S0 => ?_
 refine wq rfl (qa rfl (Ac (wp rfl (qm rfl (AB AG rfl (qm rfl (AB AG rfl (BU rfl (Ac ?_)))))))))
 refine Bm h (fun h => ?_) fun h => ?_
 ·refine wq rfl (qe rfl ?_)
  obtain rfl := sj h
  refine Ag (sm [] [(4, bD false)] [] rfl rfl) (Ap ?_)
  exact ⟨⟨[_], tm, rfl⟩, tv⟩
 ·refine Al (wp rfl (qm rfl (AB AG rfl (qm rfl (Ac ?_)))))
  refine Az (L := Cw N p0 p1) h (fun v2 => mk [(0, pD (.sl (p0.map Au))), (1, pD (.sl (p1.map Au))), (12, iD ((p0.length : Int))), (13, iD v2)] []) (fun v3 => mk [] []) (fun _ _ => rfl) (sm [] _ _ rfl rfl) (fun j2 n2 v2 h => ?_) (fun v3 s h hs => ?_)
  ·unfold Cw at h
   refine wq rfl (AV rfl (Ac (AC ?_)))
   refine Bm h (fun h => ?_) fun h => ?_
   ·refine Al (AC (AF (wq rfl (qm rfl (qa rfl (Ac (wq rfl (qw 2 rfl ?_))))))))
    refine B6 h fun v5 a5 b5 h => qi AG EH a5 (Ai b5) rfl (qk CR rfl (qw 2 rfl ?_))
    refine B6 h fun v6 a6 b6 h => qi AG EH a6 (Ai b6) rfl (qk CR rfl (BU rfl (AY (by kernel_rfl) ?_)))
    refine Bm h (fun h => ?_) fun h => ?_
    ·refine wq rfl (qe rfl ?_)
     obtain rfl := sj h
     refine Ag (sm [] [(4, bD false)] [] rfl rfl) (Ap ?_)
     exact ⟨⟨[_], tm, rfl⟩, tv⟩
    ·refine Al (Aj Aw rfl (A6 rfl (qm rfl (Ac ?_))))
     exact sn [] h
   ·refine AP ?_
    exact sn [] h
  ·refine Ag hs (wq rfl (qe rfl ?_))
   obtain rfl := sj h
   refine Ag (sm [] [(4, bD true)] [] rfl rfl) (Ap ?_)
   exact ⟨⟨[_], tm, rfl⟩, tv⟩
theorem Gr (N : Nat) (p0 : List Int) (p1 : Int → Option Bool) (r : Int) (h : Db N p0 p1 = some r) : Ao Tryz.prog 131 [pD (.sl (p0.map Au)), oD (.clo (Gn (Kb false Au) tB p1))] [] (iD r) := by
 unfold Db at h
 refine cw (n := 19) (rs := [.tmp 4]) Tryz.func131 fun w0 S0 => ?_
 refine wq rfl (qa rfl (Ac (wp rfl (qm rfl (AB AG rfl (qm rfl (Ac ?_)))))))
 refine Az (L := BZ N p0 p1) h (fun v1 => mk [(0, pD (.sl (p0.map Au))), (1, oD (.clo (Gn (Kb false Au) tB p1))), (7, iD ((p0.length : Int))), (8, iD v1)] []) (fun v2 => mk [] []) (fun _ _ => rfl) (sm [] _ _ rfl rfl) (fun j1 n1 v1 h => ?_) (fun v2 s h hs => ?_)
 ·unfold BZ at h
  refine wq rfl (AV rfl (Ac (AC ?_)))
  refine Bm h (fun h => ?_) fun h => ?_
  ·refine Al (AC (AF (wq rfl (qm rfl (qa rfl (Ac (wq rfl (qw 3 rfl ?_))))))))
   refine B6 h fun v4 a4 b4 h => qi AG EH a4 (Ai b4) rfl (qk CR rfl ?_)
   refine B5 h fun v5 a5 h => Je (ds0 := [_]) (ar := (Kb false Au) v4) (.p rfl) rfl rfl ⟨rfl, tv⟩ rfl rfl rfl (In (I7 _ _ L3) a5) ?_
   refine Ac ?_
   refine Bm h (fun h => ?_) fun h => ?_
   ·refine wq rfl (qm rfl (qe rfl ?_))
    obtain rfl := sj h
    refine Ag (sm [] [(4, iD v1)] [] rfl rfl) (Ap ?_)
    exact ⟨⟨[_], tm, rfl⟩, tv⟩
   ·refine Al (Aj Aw rfl (A6 rfl (qm rfl (Ac ?_))))
    exact sn [] h
  ·refine AP ?_
   exact sn [] h
 ·refine Ag hs (wq rfl (qe rfl ?_))
  obtain rfl := sj h
  refine Ag (sm [] [(4, iD ((-1)))] [] rfl rfl) (Ap ?_)
  exact ⟨⟨[_], tm, rfl⟩, tv⟩
theorem FZ (N : Nat) (p0 : List Int) (p1 : Int → Option Bool) (r : Bool) (h : CT N p0 p1 = some r) : Ao Tryz.prog 93 [pD (.sl (p0.map Au)), oD (.clo (Gn (Kb false Au) tB p1))] [] (bD r) := by
 unfold CT at h
 refine cw (n := 9) (rs := [.tmp 4]) Tryz.func93 fun w0 S0 => ?_
 refine wq rfl (qa rfl (Ac (wq rfl (qw 2 rfl ?_))))
 refine B5 h fun v1 a1 h => Ax [] (Gr N p0 p1 v1 a1) Td rfl (FY rfl (qe rfl ?_))
 obtain rfl := sj h
 refine Ag (sm [] [(4, bD ((decide (0 ≤ v1))))] [] rfl rfl) (Ap ?_)
 exact ⟨⟨[_], tm, rfl⟩, tv⟩
theorem L2 (N : Nat) (p0 : Int) (r : Bool) (h : FT N p0 = some r) : Ao Tryz.prog 94 [iD p0] [] (bD r) := by
 unfold FT at h
 refine cw (n := 5) (rs := [.tmp 2]) Tryz.func94 fun w0 S0 => ?_
 refine wq rfl (qa rfl (Ac (wq rfl (qm rfl (FY rfl (qe rfl ?_))))))
 obtain rfl := sj h
 refine Ag (sm [] [(2, bD ((decide (0 ≤ p0))))] [] rfl rfl) (Ap ?_)
 exact ⟨⟨[_], tm, rfl⟩, tv⟩
theorem NZ (N : Nat) (p0 : Ae) (p1 : Ar) (r : Bool) (h : HW N p0 p1 = some r) : Ao Tryz.prog 67 [.e (.agg (Ah p0)), .e (.agg (A2 p1))] [] (bD r) := by
 unfold HW at h
 refine cw (n := 22) (rs := [.tmp 4]) Tryz.func67 fun w0 S0 => ?_
 refine wq rfl (qb rfl (qb rfl (qe rfl ?_)))
 refine AN h (fun v1 => mk [(4, bD v1)] []) (fun j1 h => ?_) (fun v1 h => ?_)
 ·refine Aj Aw rfl (qL CD Ce rfl (qL C7 BF rfl ?_))
  refine B5 h fun v2 a2 h => Ax [] (GR N p0 p1 v2 a2) QR rfl (BO rfl (qm rfl ?_))
  refine D2 9 h rfl (fun h => ?_) fun h => ?_
  ·refine qf DZ rfl (ql BG rfl (qf GK rfl (ql BG rfl ?_)))
   refine B5 h fun v4 a4 h => Ax [] (Hz N p1.fe p0.fm v4 a4) TR rfl (qp rfl (qm rfl ?_))
   refine D2 16 h rfl (fun h => ?_) fun h => ?_
   ·refine qf Dp rfl (ql BG rfl ?_)
    refine B5 h fun v6 a6 h => Ax [] (Ao.weak (ds' := [pD (.sl (p1.fd.map Au)), oD (.fnc 94)]) (FZ N p1.fd ((fun (x : Int) => FT N x)) v6 a6) ⟨(fun _ _ _ hh => hh), (fun _ _ _ hh => Ot TW (fun ar t ht => by obtain ⟨x, r, rfl, hq, rfl⟩ := Gi ht; exact L2 N x r hq) hh), tv⟩) T3 rfl ?_
    refine Cr rfl (qp rfl (qe rfl ?_))
    exact sn [] h
   ·refine qw 4 rfl (qp rfl (qe rfl ?_))
    exact sn [] h
  ·refine qw 5 rfl (qp rfl (qw 5 rfl (qp rfl (qe rfl ?_))))
   exact sn [] h
 ·obtain rfl := sj h
  refine Ag (sm [] [(4, bD v1)] [] rfl rfl) (Ap ?_)
  exact ⟨⟨[_], tm, rfl⟩, tv⟩
theorem Lp (N : Nat) (p0 : AD) (p1 : List Int) (p2 : List Int) (p3 : List Int) (p4 : List As) (r : Bool) (h : Es N p0 p1 p2 p3 p4 = some r) : Ao Tryz.prog 66 [.e (.agg (OE p0)), oD (.rop [.sl (p1.map Au), .sl (p2.map Au), .sl (p3.map Au), .sl (p4.map AA)])] [] (bD r) := by
 unfold Es at h
 refine cw (n := 8) (rs := [.tmp 3]) Tryz.func66 fun w0 S0 => ?_
 refine wq rfl (qb rfl (qa rfl (Ac (wq rfl (qK CD Ce rfl (qf KO rfl (qL C7 BF rfl ?_)))))))
 refine B5 h fun v1 a1 h => Ax [] (NZ N ((Ae.mk p1 p2 p3 p4)) ((Ar.mk p0.fp.fe p0.fp.fd p0.fp.fg)) v1 a1) TM rfl (qe rfl ?_)
 obtain rfl := sj h
 refine Ag (sm [] [(3, bD v1)] [] rfl rfl) (Ap ?_)
 exact ⟨⟨[_], tm, rfl⟩, tv⟩
theorem Ei (N : Nat) (p0 : List AD) (p1 : AD → Option Bool) (r : Int) (h : BN N p0 p1 = some r) : Ao Tryz.prog 65 [pD (.sl (p0.map AO)), oD (.clo (Gn (Kb true AO) tB p1))] [] (iD r) := by
 unfold BN at h
 refine cw (n := 19) (rs := [.tmp 4]) Tryz.func65 fun w0 S0 => ?_
 refine wq rfl (qa rfl (Ac (wp rfl (qm rfl (AB F6 rfl (qm rfl (Ac ?_)))))))
 refine Az (L := Be N p0 p1) h (fun v1 => mk [(0, pD (.sl (p0.map AO))), (1, oD (.clo (Gn (Kb true AO) tB p1))), (7, iD ((p0.length : Int))), (8, iD v1)] []) (fun v2 => mk [] []) (fun _ _ => rfl) (sm [] _ _ rfl rfl) (fun j1 n1 v1 h => ?_) (fun v2 s h hs => ?_)
 ·unfold Be at h
  refine wq rfl (AV rfl (Ac (AC ?_)))
  refine Bm h (fun h => ?_) fun h => ?_
  ·refine Al (AC (AF (wq rfl (qm rfl (qa rfl (Ac (wq rfl (qw 3 rfl ?_))))))))
   refine B6 h fun v4 a4 b4 h => qi F6 HN a4 (Ai b4) rfl (qK S8 HN rfl ?_)
   refine B5 h fun v5 a5 h => Je (ds0 := [_]) (ar := (Kb true AO) ((AD.mk ((Ar.mk v4.fp.fe v4.fp.fd v4.fp.fg)) v4.ff ((Am.mk v4.fw.fc v4.fw.fo v4.fw.fv)) v4.fd))) (.p rfl) rfl rfl ⟨rfl, tv⟩ rfl rfl rfl (In (I7 _ _ M2) a5) ?_
   refine Ac ?_
   refine Bm h (fun h => ?_) fun h => ?_
   ·refine wq rfl (qm rfl (qe rfl ?_))
    obtain rfl := sj h
    refine Ag (sm [] [(4, iD v1)] [] rfl rfl) (Ap ?_)
    exact ⟨⟨[_], tm, rfl⟩, tv⟩
   ·refine Al (Aj Aw rfl (A6 rfl (qm rfl (Ac ?_))))
    exact sn [] h
  ·refine AP ?_
   exact sn [] h
 ·refine Ag hs (wq rfl (qe rfl ?_))
  obtain rfl := sj h
  refine Ag (sm [] [(4, iD ((-1)))] [] rfl rfl) (Ap ?_)
  exact ⟨⟨[_], tm, rfl⟩, tv⟩
theorem E1 (N : Nat) (p0 : List Am) (r : (List Am)) (h : Cd N p0 = some r) : B2 Tryz.prog 95 [oD (.own 90000)] [(.vec 3 (p0.map Av), .vec 3 (r.map Av))] [] (.tup []) := by
 unfold Cd at h
 refine CW (n := 28) (rs := []) Tryz.func95 rfl rfl rfl (FI rfl) (FI rfl) rfl rfl (FI rfl) rfl (FI rfl) fun w0 S0 GL => TG ?_
 refine Ag (sm [] [(0, oD (.own 90000))] [(90000, .vec 3 (p0.map Av))] rfl rfl) (wq rfl (qm rfl (C0 DT rfl (IY rfl (qa rfl (qe rfl ?_))))))
 refine Az (L := Bq N) h (fun v1 => mk [(0, oD (.own 90000)), (2, iD v1.2.1), (3, iD v1.2.2)] [(90000, .vec 3 (v1.1.map Av))]) (fun v2 => mk [] [(90000, .vec 3 (v2.map Av))]) (fun _ _ => rfl) (sm [] _ _ rfl rfl) (fun j1 n1 v1 h => ?_) (fun v2 s h hs => ?_)
 ·unfold Bq at h
  refine wp rfl (qw 2 rfl (AV rfl (Ac ?_)))
  refine Bm h (fun h => ?_) fun h => ?_
  ·refine Al (AC (AF (Aj Aw rfl (qw 6 rfl ?_))))
   refine B6 h fun v4 a4 b4 h => qI DT CA a4 (Ai b4) rfl (qJ F9 CA (Ai b4) rfl (qw 2 rfl ?_))
   refine B6 h fun v5 a5 b5 h => qI DT CA a5 (Ai b5) rfl (qJ F9 CA (Ai b5) rfl ?_)
   refine B6 h fun v6 a6 b6 h => qI DT CA a6 (Ai b6) rfl ?_
   refine D7 rfl rfl rfl rfl (Ai b6) rfl CA rfl (FI rfl) (CX Av v1.1 _ v4) ?_
   refine B6 h fun v7 a7 b7 h => qI DT CA a7 (Ai b7) rfl ?_
   refine D7 rfl rfl rfl rfl (Ai b7) rfl CA rfl (FI rfl) (CX Av (v1.1.set ((v1.2.1).toNat) v4) _ v5) ?_
   refine AY (by kernel_rfl) (Aj Aw rfl (qm rfl (A6 rfl (qm rfl (IY rfl (qa rfl (qe rfl ?_)))))))
   exact sn [] h
  ·refine AP ?_
   exact sn [] h
 ·obtain rfl := sj h
  refine ⟨_, hs.trans (sm [] [] [(90000, .vec 3 (v2.map Av))] rfl rfl), ?_⟩
  exact ⟨⟨[], tv, rfl⟩, ⟨rfl, tv⟩, tv⟩
theorem NL (N : Nat) (p0 : List AD) (p1 : Int) (r : (List Am)) (h : H8 N p0 p1 = some r) : Ao Tryz.prog 68 [pD (.sl (p0.map AO)), iD p1] [(3, r.map Av)] (oD (.own 0)) := by
 unfold H8 at h
 refine cw (n := 28) (rs := [.tmp 4]) Tryz.func68 fun w0 S0 => ?_
 refine wq rfl (qa rfl (Ac (wq rfl (qa rfl (Ac (AC ?_))))))
 refine Az (L := Fm N p0) h (fun v1 => mk [(0, pD (.sl (p0.map AO))), (1, iD v1.1), (5, oD (.own 2001))] [(2001, .vec 3 (v1.2.map Av))]) (fun v2 => mk [(5, oD (.own 2002))] [(2002, .vec 3 (v2.map Av))]) (fun _ _ => rfl) ((AW 5 2003 3 rfl rfl rfl).trans (sm [(2001, 2003)] _ _ rfl rfl)) (fun j1 n1 v1 h => ?_) (fun v2 s h hs => ?_)
 ·unfold Fm at h
  refine wp rfl (qw 2 rfl ?_)
  refine B6 h fun v3 a3 b3 h => qi F6 HN a3 (Ai b3) rfl (qg MT rfl (qk CR rfl (FY rfl (Ac ?_))))
  refine Bm h (fun h => ?_) fun h => ?_
  ·refine Al (AC (AF (Aj Aw rfl (qw 3 rfl ?_))))
   refine B6 h fun v5 a5 b5 h => qi F6 HN a5 (Ai b5) rfl (qg PZ rfl (qK F9 CA rfl (EZ DT CA GS rfl ?_)))
   refine GH h fun c6 h => E4 (f := Av) DT DT CA Mf GS c6 rfl (qa rfl (Ac (Aj Aw rfl (qw 2 rfl ?_))))
   refine B6 h fun v7 a7 b7 h => qi F6 HN a7 (Ai b7) rfl (qg MT rfl (qk CR rfl (qe rfl ?_)))
   exact sn [(2001, 24)] h
  ·refine AP ?_
   exact sn [(2002, 2001)] h
 ·refine Ag hs (wq rfl (qm rfl ?_))
  refine B5 h fun v8 a8 h => Fl (ds0 := [_]) [2002] [] [true] (E1 N v2 v8 a8) (.p rfl) Uq rfl ⟨rfl, tv⟩ rfl rfl (by decide) ⟨rfl, tv⟩ rfl (Ck rfl) tv ⟨(fun h => by cases h), tv⟩ rfl rfl rfl ?_
  refine Ac (wq rfl (qm rfl (qe rfl ?_)))
  obtain rfl := sj h
  refine Ag (sm [(1000, 2002)] [(4, oD (.own 1000))] [(1000, .vec 3 (v8.map Av))] rfl rfl) (Ap ?_)
  exact ⟨⟨[_], tm, rfl⟩, ⟨rfl, tv⟩⟩
theorem Nu (N : Nat) (p0 : Ae) (p1 : Ar) (r : (List Am) × Int) (h : Hu N p0 p1 = some r) : Ao Tryz.prog 36 [.e (.agg (Ah p0)), .e (.agg (A2 p1))] [(3, r.1.map Av)] (.tup [.one (.own 0), .one (iC r.2)]) := by
 unfold Hu at h
 refine cw (n := 38) (rs := [.tmp 4, .tmp 5]) Tryz.func36 fun w0 S0 => ?_
 refine wq rfl (qb rfl (qb rfl (qa rfl (qa rfl (Ac (wq rfl (qL CD Ce rfl (qL C7 BF rfl ?_))))))))
 refine B5 h fun v1 a1 h => Ax [] (Jr N p0 p1 v1 a1) SQ rfl (qm rfl (qx rfl (qx rfl (qa rfl (qa rfl (Ac (wp rfl (qm rfl (BU rfl (Ac ?_))))))))))
 refine Bm h (fun h => ?_) fun h => ?_
 ·refine wq rfl (qm rfl (qa rfl (qe rfl ?_)))
  obtain rfl := sj h
  refine Ag ((AW 4 2001 3 rfl rfl rfl).trans (sm [(1000, 2001)] [(4, oD (.own 1000)), (5, iD v1.2)] [(1000, .vec 3 ((([] : List Am)).map Av))] rfl rfl)) (Ap ?_)
  exact ⟨⟨[_, _], ⟨.tmp _ _ rfl, tm⟩, rfl⟩, ⟨rfl, tv⟩⟩
 ·refine Al (wp rfl (qm rfl (Cr rfl (Ac ?_))))
  refine Bm h (fun h => ?_) fun h => ?_
  ·refine wq rfl (qa rfl (qe rfl ?_))
   obtain rfl := sj h
   refine Ag ((AW 4 2002 3 rfl rfl rfl).trans (sm [(1000, 2002)] [(4, oD (.own 1000)), (5, iD 13)] [(1000, .vec 3 ((([] : List Am)).map Av))] rfl rfl)) (Ap ?_)
   exact ⟨⟨[_, _], ⟨.tmp _ _ rfl, tm⟩, rfl⟩, ⟨rfl, tv⟩⟩
  ·refine Al (wq rfl (qL CD Ce rfl (qL C7 BF rfl ?_)))
   refine B5 h fun v4 a4 h => Ax [] (Ln N p0 p1 v4 a4) TS rfl (qm rfl (qx rfl (qx rfl (qa rfl (qa rfl (Ac (wp rfl (qm rfl (BU rfl (Ac ?_))))))))))
   refine Bm h (fun h => ?_) fun h => ?_
   ·refine wq rfl (qm rfl (qa rfl (qe rfl ?_)))
    obtain rfl := sj h
    refine Ag ((AW 4 2003 3 rfl rfl rfl).trans (sm [(1000, 2003)] [(4, oD (.own 1000)), (5, iD v4.2)] [(1000, .vec 3 ((([] : List Am)).map Av))] rfl rfl)) (Ap ?_)
    exact ⟨⟨[_, _], ⟨.tmp _ _ rfl, tm⟩, rfl⟩, ⟨rfl, tv⟩⟩
   ·refine Al (wq rfl (qm rfl (DU (Ja 2 [.sl (p0.fa.map Au), .sl (p0.fj.map Au), .sl (p0.fm.map Au), .sl (p0.fb.map AA)] rfl rfl) ?_)))
    refine IM (capD := [_]) (Gn (Kb true AO) tB ((fun (x : AD) => Es N x p0.fa p0.fj p0.fm p0.fb))) (.p rfl) Uw rfl ⟨rfl, tv⟩ rfl (fun ar t ht => by obtain ⟨x, r, rfl, hq, rfl⟩ := Gi ht; exact Lp N x p0.fa p0.fj p0.fm p0.fb r hq) ?_
    refine B5 h fun v6 a6 h => Ax [] (Ei N v4.1 ((fun (x : AD) => Es N x p0.fa p0.fj p0.fm p0.fb)) v6 a6) TV rfl (qa rfl (Ac (wp rfl (qm rfl (AV rfl (Ac ?_))))))
    refine Bm h (fun h => ?_) fun h => ?_
    ·refine wq rfl (qa rfl (qe rfl ?_))
     obtain rfl := sj h
     refine Ag ((AW 4 2004 3 rfl rfl rfl).trans (sm [(1000, 2004)] [(4, oD (.own 1000)), (5, iD 14)] [(1000, .vec 3 ((([] : List Am)).map Av))] rfl rfl)) (Ap ?_)
     exact ⟨⟨[_, _], ⟨.tmp _ _ rfl, tm⟩, rfl⟩, ⟨rfl, tv⟩⟩
    ·refine Al (wq rfl (qw 2 rfl ?_))
     refine B5 h fun v8 a8 h => Ax [2005] (NL N v4.1 v6 v8 a8) T6 rfl (qa rfl (qe rfl ?_))
     obtain rfl := sj h
     refine Ag (sm [(1000, 2005)] [(4, oD (.own 1000)), (5, iD 0)] [(1000, .vec 3 (v8.map Av))] rfl rfl) (Ap ?_)
     exact ⟨⟨[_, _], ⟨.tmp _ _ rfl, tm⟩, rfl⟩, ⟨rfl, tv⟩⟩
theorem MP (N : Nat) (p0 : Ae) (r : (List Am) × Int) (h : Hv N p0 = some r) : Ao Tryz.prog 13 [.e (.agg (Ah p0))] [(3, r.1.map Av)] (.tup [.one (.own 0), .one (iC r.2)]) := by
 unfold Hv at h
 refine cw (n := 19) (rs := [.tmp 2, .tmp 3]) Tryz.func13 fun w0 S0 => ?_
 refine wq rfl (qb rfl (qa rfl (qa rfl (Ac (wq rfl (qL CD Ce rfl ?_))))))
 refine B5 h fun v1 a1 h => Ax [2001, 2002, 2003] (Nf N p0 v1 a1) T8 rfl (qm rfl (qx rfl (qx rfl (qz FG rfl (qs BF rfl (qa rfl (Ac (wp rfl (qm rfl (BU rfl (Ac ?_)))))))))))
 refine Bm h (fun h => ?_) fun h => ?_
 ·refine wq rfl (qm rfl (qa rfl (qe rfl ?_)))
  obtain rfl := sj h
  refine Ag ((AW 2 2004 3 rfl rfl rfl).trans (sm [(1000, 2004)] [(2, oD (.own 1000)), (3, iD v1.2)] [(1000, .vec 3 ((([] : List Am)).map Av))] rfl rfl)) (Ap ?_)
  exact ⟨⟨[_, _], ⟨.tmp _ _ rfl, tm⟩, rfl⟩, ⟨rfl, tv⟩⟩
 ·refine Al (wq rfl (qL CD Ce rfl (qL C7 BF rfl ?_)))
  refine B5 h fun v3 a3 h => DW [2005] [2001, 2002, 2003] (Nu N p0 v1.1 v3 a3) TX (FH (fun _ => rfl) CB) rfl (qx rfl (qx rfl (qa rfl (qe rfl ?_))))
  obtain rfl := sj h
  refine Ag (sm [(1000, 2005)] [(2, oD (.own 1000)), (3, iD v3.2)] [(1000, .vec 3 (v3.1.map Av))] rfl rfl) (Ap ?_)
  exact ⟨⟨[_, _], ⟨.tmp _ _ rfl, tm⟩, rfl⟩, ⟨rfl, tv⟩⟩
theorem Ff (N : Nat) (p0 : Ae) (p1 : List Aa) (r : Bool × Int) (h : Dk N p0 p1 = some r) : Ao Tryz.prog 42 [.e (.agg (Ah p0)), pD (.sl (p1.map Ab))] [] (.tup [.one (.pure (.val (.bool r.1))), .one (iC r.2)]) := by
 unfold Dk at h
 refine cw (n := 20) (rs := [.tmp 4, .tmp 5]) Tryz.func42 fun w0 S0 => ?_
 refine wq rfl (qb rfl (qa rfl (qa rfl (Ac (wq rfl (qL CD Ce rfl (qm rfl ?_)))))))
 refine B5 h fun v1 a1 h => Ax [2001, 2002, 2003] (K5 N p0 p1 v1 a1) T5 rfl ?_
 refine B5 h fun v2 a2 h => DW [2004] [2001, 2002, 2003] (MP N v1 v2 a2) TN (FH (fun _ => rfl) CB) rfl (qm rfl (qx rfl (qx rfl (qa rfl (qa rfl (Ac (wp rfl (qm rfl (BO rfl (Ac ?_))))))))))
 refine Bm h (fun h => ?_) fun h => ?_
 ·refine wq rfl (qm rfl (qa rfl (qe rfl ?_)))
  obtain rfl := sj h
  refine Ag (sm [] [(4, bD false), (5, iD v2.2)] [] rfl rfl) (Ap ?_)
  exact ⟨⟨[_, _], ⟨.tmp _ _ rfl, tm⟩, rfl⟩, tv⟩
 ·refine Al (wq rfl (qm rfl (BO rfl (qa rfl (qe rfl ?_)))))
  obtain rfl := sj h
  refine Ag (sm [] [(4, bD ((v2.2 == 0))), (5, iD 0)] [] rfl rfl) (Ap ?_)
  exact ⟨⟨[_, _], ⟨.tmp _ _ rfl, tm⟩, rfl⟩, tv⟩
theorem FP (N : Nat) (p0 : Ae) (r : (List (List Aa)) × Int) (h : Cv N p0 = some r) : Ao Tryz.prog 24 [.e (.agg (Ah p0))] [(1, r.1.map (DH Ab))] (.tup [.one (.own 0), .one (iC r.2)]) := by
 unfold Cv at h
 refine cw (n := 54) (rs := [.tmp 2, .tmp 3]) Tryz.func24 fun w0 S0 => ?_
 refine wq rfl (qb rfl (qa rfl (qa rfl (Ac (wq rfl (qL CD Ce rfl ?_))))))
 refine B5 h fun v1 a1 h => Ax [2001] (GM N p0 v1 a1) SU rfl (qm rfl (qx rfl (qx rfl (qa rfl (qa rfl (Ac (wp rfl (qm rfl (BU rfl (Ac ?_))))))))))
 refine Bm h (fun h => ?_) fun h => ?_
 ·refine wq rfl (qm rfl (qa rfl (qe rfl ?_)))
  obtain rfl := sj h
  refine Ag ((AW 2 2002 1 rfl rfl rfl).trans (sm [(1000, 2002)] [(2, oD (.own 1000)), (3, iD v1.2)] [(1000, .vec 1 ((([] : List (List Aa))).map (DH Ab)))] rfl rfl)) (Ap ?_)
  exact ⟨⟨[_, _], ⟨.tmp _ _ rfl, tm⟩, rfl⟩, ⟨rfl, tv⟩⟩
 ·refine Al (wp rfl (qm rfl (C0 A5 rfl (Dx rfl (Ac ?_)))))
  refine Bm h (fun h => ?_) fun h => ?_
  ·refine wq rfl (qa rfl (qe rfl ?_))
   obtain rfl := sj h
   refine Ag ((AW 2 2003 1 rfl rfl rfl).trans (sm [(1000, 2003)] [(2, oD (.own 1000)), (3, iD 3)] [(1000, .vec 1 ((([] : List (List Aa))).map (DH Ab)))] rfl rfl)) (Ap ?_)
   exact ⟨⟨[_, _], ⟨.tmp _ _ rfl, tm⟩, rfl⟩, ⟨rfl, tv⟩⟩
  ·refine Al (wp rfl (qe rfl ?_))
   refine Az (L := Ed N p0) h (fun v4 => mk [(1, oD (.ptr 1 0)), (4, pD (.sl (v4.1.map Ab))), (6, iD v4.2)] [(1, .box (Ah p0))]) (fun v5 => mk [] []) (fun _ _ => rfl) ((Cz 2001 _ _ rfl rfl).trans (sm [] _ _ rfl rfl)) (fun j4 n4 v4 h => ?_) (fun v5 s h hs => ?_)
   ·unfold Ed at h
    refine wp rfl (qm rfl (SD rfl (Ac ?_)))
    refine Bm h (fun h => ?_) fun h => ?_
    ·refine Al (AC (AF (wq rfl (qa rfl (Ac (wp rfl (qw 2 rfl ?_)))))))
     refine B5 h fun v7 a7 h => Ax [2004] (Km N v4.1 v4.2 v7 a7) SZ rfl (C0 Fv rfl (qm rfl (Ac ?_)))
     refine Az (L := Ef N p0 v7) h (fun v8 => mk [(1, oD (.ptr 1 0)), (4, pD (.sl (v4.1.map Ab))), (6, iD v4.2), (7, oD (.own 2005)), (29, oD (.own 2006)), (30, iD ((v7.length : Int))), (31, iD v8.2)] [(1, .box (Ah p0)), (2005, .vec 1 (v8.1.map (DH Ab))), (2006, .vec 1 (v7.map (DH Ab)))]) (fun v9 => mk [(1, oD (.ptr 1 0)), (4, pD (.sl (v4.1.map Ab))), (6, iD v4.2), (7, oD (.own 2007))] [(1, .box (Ah p0)), (2007, .vec 1 (v9.map (DH Ab)))]) (fun _ _ => rfl) ((AW 7 2011 1 rfl rfl rfl).trans (sm [(2005, 2011), (2006, 2004)] _ _ rfl rfl)) (fun j8 n8 v8 h => ?_) (fun v9 s h hs => ?_)
     ·unfold Ef at h
      refine wq rfl (AV rfl (Ac (AC ?_)))
      refine Bm h (fun h => ?_) fun h => ?_
      ·refine Al ?_
       refine AN h (fun v11 => mk [(1, oD (.ptr 1 0)), (4, pD (.sl (v4.1.map Ab))), (6, iD v4.2), (7, oD (.own 2008)), (29, oD (.own 2009)), (30, iD ((v7.length : Int))), (31, iD v8.2)] [(1, .box (Ah p0)), (2008, .vec 1 (v11.map (DH Ab))), (2009, .vec 1 (v7.map (DH Ab)))]) (fun j11 h => ?_) (fun v11 h => ?_)
       ·refine AF (wq rfl ?_)
        refine B6 h fun v12 a12 b12 h => qI Fv Lk a12 (Ai b12) rfl (qj Qk (Ai b12) rfl (qa rfl (Ac (wq rfl (qL CD Ce rfl (qm rfl ?_))))))
        refine B5 h fun v13 a13 h => Ax [] (Ff N p0 v12 v13 a13) R7 rfl (qm rfl (qx rfl (qx rfl (qa rfl (qa rfl (Ac (wp rfl (qm rfl (BU rfl (Ac ?_))))))))))
        refine Bm h (fun h => ?_) fun h => ?_
        ·refine wq rfl (qm rfl (qa rfl (qe rfl ?_)))
         obtain rfl := sj h
         refine Ag ((AW 2 2010 1 rfl rfl rfl).trans (sm [(1000, 2010)] [(2, oD (.own 1000)), (3, iD v13.2)] [(1000, .vec 1 ((([] : List (List Aa))).map (DH Ab)))] rfl rfl)) (Ap ?_)
         exact ⟨⟨[_, _], ⟨.tmp _ _ rfl, tm⟩, rfl⟩, ⟨rfl, tv⟩⟩
        ·refine Al (wq rfl (qm rfl (Ac ?_)))
         refine Bm h (fun h => ?_) fun h => ?_
         ·refine Aj Aw rfl (qw 2 rfl (EZ Fv Lk Pp rfl ?_))
          refine GH h fun c16 h => E4 (f := (DH Ab)) Fv Fv Lk Rg Pp c16 rfl (qe rfl ?_)
          exact sn [(2008, 48), (2009, 2006)] h
         ·refine Al ?_
          exact sn [(2008, 2005), (2009, 2006)] h
       ·refine Aj Aw rfl (A6 rfl (qm rfl (Ac ?_)))
        exact sn [(2005, 2008), (2006, 2009)] h
      ·refine AP ?_
       exact sn [(2007, 2005)] h
     ·refine Ag hs (wq rfl (qm rfl (C0 Fv rfl (Dx rfl (Ac ?_)))))
      refine Bm h (fun h => ?_) fun h => ?_
      ·refine wq rfl (qm rfl (qa rfl (qe rfl ?_)))
       obtain rfl := sj h
       refine Ag (sm [(1000, 2007)] [(2, oD (.own 1000)), (3, iD 0)] [(1000, .vec 1 (v9.map (DH Ab)))] rfl rfl) (Ap ?_)
       exact ⟨⟨[_, _], ⟨.tmp _ _ rfl, tm⟩, rfl⟩, ⟨rfl, tv⟩⟩
      ·refine Al (Aj Aw rfl (qm rfl (A6 rfl (qe rfl ?_))))
       exact sn [] h
    ·refine AP ?_
     exact sn [] h
   ·refine Ag hs (wq rfl (qa rfl (qe rfl ?_)))
    obtain rfl := sj h
    refine Ag ((AW 2 2012 1 rfl rfl rfl).trans (sm [(1000, 2012)] [(2, oD (.own 1000)), (3, iD 14)] [(1000, .vec 1 ((([] : List (List Aa))).map (DH Ab)))] rfl rfl)) (Ap ?_)
    exact ⟨⟨[_, _], ⟨.tmp _ _ rfl, tm⟩, rfl⟩, ⟨rfl, tv⟩⟩
theorem D8 (N : Nat) (p0 : List Aa) (p1 : Aa) (r : Int) (h : Bh N p0 p1 = some r) : Ao Tryz.prog 96 [pD (.sl (p0.map Ab)), .e (.agg (DC p1))] [] (iD r) := by
 unfold Bh at h
 refine cw (n := 19) (rs := [.tmp 4]) Tryz.func96 fun w0 S0 => ?_
 refine wq rfl (qb rfl (qa rfl (Ac (wp rfl (qm rfl (AB A5 rfl (qm rfl (Ac ?_))))))))
 refine Az (L := AE N p0 p1) h (fun v1 => mk [(0, pD (.sl (p0.map Ab))), (3, oD (.ptr 3 0)), (7, iD ((p0.length : Int))), (8, iD v1)] [(3, .box (DC p1))]) (fun v2 => mk [] []) (fun _ _ => rfl) (sm [] _ _ rfl rfl) (fun j1 n1 v1 h => ?_) (fun v2 s h hs => ?_)
 ·unfold AE at h
  refine wq rfl (AV rfl (Ac (AC ?_)))
  refine Bm h (fun h => ?_) fun h => ?_
  ·refine Al (AC (AF (wq rfl (qm rfl (qa rfl (Ac (wq rfl (qL GI BW rfl (qw 2 rfl ?_)))))))))
   refine B6 h fun v4 a4 b4 h => qi A5 BW a4 (Ai b4) rfl (qK GI BW rfl ?_)
   refine Ox [.int .i64 p1.fu, .int .i64 p1.fr, .int .i64 p1.ft] [.int .i64 v4.fu, .int .i64 v4.fr, .int .i64 v4.ft] (.p rfl) rfl rfl Nh rfl ?_
   refine AY (by kernel_rfl) ?_
   refine Bm h (fun h => ?_) fun h => ?_
   ·refine wq rfl (qm rfl (qe rfl ?_))
    obtain rfl := sj h
    refine Ag (sm [] [(4, iD v1)] [] rfl rfl) (Ap ?_)
    exact ⟨⟨[_], tm, rfl⟩, tv⟩
   ·refine Al (Aj Aw rfl (A6 rfl (qm rfl (Ac ?_))))
    exact sn [] h
  ·refine AP ?_
   exact sn [] h
 ·refine Ag hs (wq rfl (qe rfl ?_))
  obtain rfl := sj h
  refine Ag (sm [] [(4, iD ((-1)))] [] rfl rfl) (Ap ?_)
  exact ⟨⟨[_], tm, rfl⟩, tv⟩
theorem DV (N : Nat) (p0 : List Aa) (p1 : Aa) (r : Bool) (h : AR N p0 p1 = some r) : Ao Tryz.prog 69 [pD (.sl (p0.map Ab)), .e (.agg (DC p1))] [] (bD r) := by
 unfold AR at h
 refine cw (n := 9) (rs := [.tmp 4]) Tryz.func69 fun w0 S0 => ?_
 refine wq rfl (qb rfl (qa rfl (Ac (wq rfl (qm rfl (qL GI BW rfl ?_))))))
 refine B5 h fun v1 a1 h => Ax [] (D8 N p0 p1 v1 a1) Uf rfl (FY rfl (qe rfl ?_))
 obtain rfl := sj h
 refine Ag (sm [] [(4, bD ((decide (0 ≤ v1))))] [] rfl rfl) (Ap ?_)
 exact ⟨⟨[_], tm, rfl⟩, tv⟩
theorem J5 (N : Nat) (p0 : Ae) (p1 : List Aa) (r : Int) (h : DR N p0 p1 = some r) : Ao Tryz.prog 37 [.e (.agg (Ah p0)), pD (.sl (p1.map Ab))] [] (iD r) := by
 unfold DR at h
 refine cw (n := 27) (rs := [.tmp 4]) Tryz.func37 fun w0 S0 => ?_
 refine wq rfl (qb rfl (qa rfl (Ac (wp rfl (qL CD Ce rfl ?_)))))
 refine B5 h fun v1 a1 h => Ax [] (Cl N p0 v1 a1) ON rfl (qa rfl (Ac (wq rfl (qm rfl (BU rfl (Ac ?_))))))
 refine Bm h (fun h => ?_) fun h => ?_
 ·refine wq rfl (qm rfl (qe rfl ?_))
  obtain rfl := sj h
  refine Ag (sm [] [(4, iD v1)] [] rfl rfl) (Ap ?_)
  exact ⟨⟨[_], tm, rfl⟩, tv⟩
 ·refine Al (wq rfl (qL CD Ce rfl ?_))
  refine B5 h fun v3 a3 h => Ax [2001] (Fg N p0 v3 a3) Se rfl (qa rfl (Ac (wp rfl (qm rfl (AB A5 rfl (qm rfl (Ac ?_)))))))
  refine Az (L := CC N p1 v3) h (fun v4 => mk [(6, oD (.own 2002)), (16, pD (.sl (p1.map Ab))), (17, iD ((p1.length : Int))), (18, iD v4)] [(2002, .vec 3 (v3.map Ab))]) (fun v5 => mk [] []) (fun _ _ => rfl) (sm [(2002, 2001)] _ _ rfl rfl) (fun j4 n4 v4 h => ?_) (fun v5 s h hs => ?_)
  ·unfold CC at h
   refine wq rfl (AV rfl (Ac (AC ?_)))
   refine Bm h (fun h => ?_) fun h => ?_
   ·refine Al (AC (AF (wq rfl ?_)))
    refine B6 h fun v7 a7 b7 h => qi A5 BW a7 (Ai b7) rfl (qK GI BW rfl (qz Fq rfl (qs BW rfl (Ac (wq rfl (qm rfl (qL GI BW rfl ?_)))))))
    refine B5 h fun v8 a8 h => DW [] [2002] (DV N v3 v7 v8 a8) TY CB rfl (Cr rfl (Ac ?_))
    refine Bm h (fun h => ?_) fun h => ?_
    ·refine wq rfl (qe rfl ?_)
     obtain rfl := sj h
     refine Ag (sm [] [(4, iD 4)] [] rfl rfl) (Ap ?_)
     exact ⟨⟨[_], tm, rfl⟩, tv⟩
    ·refine Al (Aj Aw rfl (A6 rfl (qm rfl (Ac ?_))))
     exact sn [] h
   ·refine AP ?_
    exact sn [] h
  ·refine Ag hs (wq rfl (qe rfl ?_))
   obtain rfl := sj h
   refine Ag (sm [] [(4, iD 0)] [] rfl rfl) (Ap ?_)
   exact ⟨⟨[_], tm, rfl⟩, tv⟩
theorem CQ (N : Nat) (p0 : List Aa) (r : (List Aa)) (h : AK N p0 = some r) : Ao Tryz.prog 15 [pD (.sl (p0.map Ab))] [(3, r.map Ab)] (oD (.own 0)) := by
 unfold AK at h
 refine cw (n := 8) (rs := [.tmp 2]) Tryz.func15 fun w0 S0 => ?_
 refine wq rfl (qa rfl (Ac (wp rfl (qm rfl ?_))))
 refine Jb (.p rfl) rfl A5 ?_
 refine Ac ?_
 refine Jg rfl (fun c2 => ?_) ?_
 ·have c2 := List.map_eq_nil_iff.1 c2
  rw [c2] at h
  have h : (some (([] : List Aa))) = some r := h
  refine wq rfl (qe rfl ?_)
  obtain rfl := sj h
  refine Ag ((AW 2 2001 3 rfl rfl rfl).trans (sm [(1000, 2001)] [(2, oD (.own 1000))] [(1000, .vec 3 ((([] : List Aa)).map Ab))] rfl rfl)) (Ap ?_)
  exact ⟨⟨[_], tm, rfl⟩, ⟨rfl, tv⟩⟩
 ·refine Al (wq rfl (EZ A5 BW Fq rfl (qm rfl ?_)))
  refine GH h fun c1 h => IQ (f := Ab) A5 A5 BW JV Fq (fun _ => rfl) c1 rfl (qe rfl ?_)
  obtain rfl := sj h
  refine Ag (sm [(1000, 7)] [(2, oD (.own 1000))] [(1000, .vec 3 (((([] : List Aa)) ++ p0).map Ab))] rfl rfl) (Ap ?_)
  exact ⟨⟨[_], tm, rfl⟩, ⟨rfl, tv⟩⟩
def Si : Go.Shelf.Ren := ⟨fun | 6 => 38 | 14 => 70 | 15 => 71 | 20 => 97 | 21 => 98 | 22 => 99 | 23 => 100 | 24 => 101 | 25 => 102 | 26 => 103 | 27 => 104 | 28 => 105 | 29 => 106 | 46 => 132 | 47 => 133 | 48 => 134 | 49 => 135 | 50 => 136 | 57 => 153 | n => n, fun | 0 => 0 | 3 => 3 | 4 => 4 | 5 => 5 | 9 => 9 | 22 => 33 | 24 => 45 | 25 => 70 | 39 => 109 | 45 => 133 | 46 => 134 | 50 => 126 | 53 => 140 | 55 => 142 | 66 => 165 | 70 => 169 | 76 => 185 | 77 => 186 | n => n, fun n => n⟩
theorem RE : SlLaysF0.n6 Tryz.prog Si := { mixed := Aw, f6 := ⟨Tryz.f38.name, by decide, Tryz.func38.trans (congrArg some (by kernel_rfl))⟩, f14 := ⟨Tryz.f70.name, by decide, Tryz.func70.trans (congrArg some (by kernel_rfl))⟩, f15 := Tryz.func71.trans (congrArg some (by kernel_rfl)), f20 := ⟨Tryz.f97.name, by decide, Tryz.func97.trans (congrArg some (by kernel_rfl))⟩, f21 := ⟨Tryz.f98.name, by decide, Tryz.func98.trans (congrArg some (by kernel_rfl))⟩, f22 := ⟨Tryz.f99.name, by decide, Tryz.func99.trans (congrArg some (by kernel_rfl))⟩, f23 := ⟨Tryz.f100.name, by decide, Tryz.func100.trans (congrArg some (by kernel_rfl))⟩, f24 := ⟨Tryz.f101.name, by decide, Tryz.func101.trans (congrArg some (by kernel_rfl))⟩, f25 := ⟨Tryz.f102.name, by decide, Tryz.func102.trans (congrArg some (by kernel_rfl))⟩, f26 := ⟨Tryz.f103.name, by decide, Tryz.func103.trans (congrArg some (by kernel_rfl))⟩, f27 := ⟨Tryz.f104.name, by decide, Tryz.func104.trans (congrArg some (by kernel_rfl))⟩, f28 := Tryz.func105.trans (congrArg some (by kernel_rfl)), f29 := Tryz.func106.trans (congrArg some (by kernel_rfl)), f46 := ⟨Tryz.f132.name, by decide, Tryz.func132.trans (congrArg some (by kernel_rfl))⟩, f47 := Tryz.func133.trans (congrArg some (by kernel_rfl)), f48 := Tryz.func134.trans (congrArg some (by kernel_rfl)), f49 := ⟨Tryz.f135.name, by decide, Tryz.func135.trans (congrArg some (by kernel_rfl))⟩, f50 := ⟨Tryz.f136.name, by decide, Tryz.func136.trans (congrArg some (by kernel_rfl))⟩, f57 := ⟨Tryz.f153.name, by decide, Tryz.func153.trans (congrArg some (by kernel_rfl))⟩, t0 := Tryz.underlying0, a0 := Tryz.isAgg0, z0 := Tryz.sizeOf0, v0 := Tryz.zeroValue0, t3 := Tryz.underlying3, a3 := Tryz.isAgg3, z3 := Tryz.sizeOf3, v3 := Tryz.zeroValue3, t4 := Tryz.underlying4, a4 := Tryz.isAgg4, z4 := Tryz.sizeOf4, v4 := Tryz.zeroValue4, t5 := Tryz.underlying5, a5 := Tryz.isAgg5, z5 := Tryz.sizeOf5, v5 := Tryz.zeroValue5, t9 := Tryz.underlying9, a9 := Tryz.isAgg9, z9 := Tryz.sizeOf9, v9 := Tryz.zeroValue9, t22 := Tryz.underlying33, a22 := Tryz.isAgg33, z22 := Tryz.sizeOf33, v22 := Tryz.zeroValue33, t25 := Tryz.underlying70, a25 := Tryz.isAgg70, z25 := Tryz.sizeOf70, v25 := Tryz.zeroValue70, t39 := Tryz.underlying109, a39 := Tryz.isAgg109, z39 := Tryz.sizeOf109, v39 := Tryz.zeroValue109, t45 := Tryz.underlying133, a45 := Tryz.isAgg133, z45 := Tryz.sizeOf133, v45 := Tryz.zeroValue133, t46 := Tryz.underlying134, a46 := Tryz.isAgg134, z46 := Tryz.sizeOf134, v46 := Tryz.zeroValue134, t50 := Tryz.underlying126, a50 := Tryz.isAgg126, z50 := Tryz.sizeOf126, v50 := Tryz.zeroValue126, t53 := Tryz.underlying140, a53 := Tryz.isAgg140, z53 := Tryz.sizeOf140, v53 := Tryz.zeroValue140, t55 := Tryz.underlying142, a55 := Tryz.isAgg142, z55 := Tryz.sizeOf142, v55 := Tryz.zeroValue142, t66 := Tryz.underlying165, a66 := Tryz.isAgg165, z66 := Tryz.sizeOf165, v66 := Tryz.zeroValue165, t70 := Tryz.underlying169, a70 := Tryz.isAgg169, z70 := Tryz.sizeOf169, v70 := Tryz.zeroValue169, t76 := Tryz.underlying185, a76 := Tryz.isAgg185, z76 := Tryz.sizeOf185, v76 := Tryz.zeroValue185, t77 := Tryz.underlying186, a77 := Tryz.isAgg186, z77 := Tryz.sizeOf186, v77 := Tryz.zeroValue186 }
theorem Cp (N : Nat) (p0 : List Aa) (p1 : (Aa × Aa) → Option Int) (r : (List Aa)) (h : Ba N p0 p1 = some r) : B2 Tryz.prog 38 [oD (.own 90000), oD (.clo (Gn (Sp true Ab true Ab) KP p1))] [(.vec 3 (p0.map Ab), .vec 3 (r.map Ab))] [] (.tup []) := Qo RE 3 (FL GI) (BR BW) KF (@JD) h
theorem HK (N : Nat) (p0 : Int) (r : Bool) (h : Ez N p0 = some r) : Ao Tryz.prog 107 [iD p0] [] (bD r) := by
 unfold Ez at h
 refine cw (n := 6) (rs := [.tmp 2]) Tryz.func107 fun w0 S0 => ?_
 refine wq rfl (qa rfl (Ac (wq rfl (qw 2 rfl (BU rfl (qe rfl ?_))))))
 obtain rfl := sj h
 refine Ag (sm [] [(2, bD ((p0 != p0)))] [] rfl rfl) (Ap ?_)
 exact ⟨⟨[_], tm, rfl⟩, tv⟩
theorem Fp (N : Nat) (p0 : Int) (p1 : Int) (r : Int) (h : Df N p0 p1 = some r) : Ao Tryz.prog 73 [iD p0, iD p1] [] (iD r) := by
 unfold Df at h
 refine cw (n := 20) (rs := [.tmp 4]) Tryz.func73 fun w0 S0 => ?_
 refine wq rfl (qa rfl (Ac (wq rfl (qm rfl ?_))))
 refine B5 h fun v1 a1 h => Ax [] (HK N p0 v1 a1) Re rfl (qa rfl (Ac (wq rfl (qm rfl ?_))))
 refine B5 h fun v2 a2 h => Ax [] (HK N p1 v2 a2) Re rfl (qa rfl (Ac (wp rfl (qm rfl (Ac ?_)))))
 refine Bm h (fun h => ?_) fun h => ?_
 ·refine wp rfl (qm rfl (Ac ?_))
  refine Bm h (fun h => ?_) fun h => ?_
  ·refine wq rfl (qe rfl ?_)
   obtain rfl := sj h
   refine Ag (sm [] [(4, iD 0)] [] rfl rfl) (Ap ?_)
   exact ⟨⟨[_], tm, rfl⟩, tv⟩
  ·refine Al (wq rfl (qe rfl ?_))
   obtain rfl := sj h
   refine Ag (sm [] [(4, iD ((-1)))] [] rfl rfl) (Ap ?_)
   exact ⟨⟨[_], tm, rfl⟩, tv⟩
 ·refine Al (wp rfl (qm rfl (Ac ?_)))
  refine Bm h (fun h => ?_) fun h => ?_
  ·refine wq rfl (qe rfl ?_)
   obtain rfl := sj h
   refine Ag (sm [] [(4, iD 1)] [] rfl rfl) (Ap ?_)
   exact ⟨⟨[_], tm, rfl⟩, tv⟩
  ·refine Al (wp rfl (qw 2 rfl (AV rfl (Ac ?_))))
   refine Bm h (fun h => ?_) fun h => ?_
   ·refine wq rfl (qe rfl ?_)
    obtain rfl := sj h
    refine Ag (sm [] [(4, iD ((-1)))] [] rfl rfl) (Ap ?_)
    exact ⟨⟨[_], tm, rfl⟩, tv⟩
   ·refine Al (wp rfl (qw 2 rfl (Dx rfl (Ac ?_))))
    refine Bm h (fun h => ?_) fun h => ?_
    ·refine wq rfl (qe rfl ?_)
     obtain rfl := sj h
     refine Ag (sm [] [(4, iD 1)] [] rfl rfl) (Ap ?_)
     exact ⟨⟨[_], tm, rfl⟩, tv⟩
    ·refine Al (wq rfl (qe rfl ?_))
     obtain rfl := sj h
     refine Ag (sm [] [(4, iD 0)] [] rfl rfl) (Ap ?_)
     exact ⟨⟨[_], tm, rfl⟩, tv⟩
theorem L4 (N : Nat) (p0 : List Int) (r : Int) (h : Ha N p0 = some r) : Ao Tryz.prog 72 [pD (.sl (p0.map Au))] [] (iD r) := by
 unfold Ha at h
 refine cw (n := 18) (rs := [.tmp 2]) Tryz.func72 fun w0 S0 => ?_
 refine wq rfl (qa rfl (Ac (wq rfl (qa rfl (Ac (wp rfl (qm rfl (AB AG rfl (qm rfl (Ac ?_))))))))))
 refine Az (L := Ew N p0) h (fun v1 => mk [(3, iD 0), (6, pD (.sl (p0.map Au))), (7, iD ((p0.length : Int))), (8, iD v1)] []) (fun v2 => mk [(3, iD 0)] []) (fun _ _ => rfl) (sm [] _ _ rfl rfl) (fun j1 n1 v1 h => ?_) (fun v2 s h hs => ?_)
 ·unfold Ew at h
  refine wq rfl (AV rfl (Ac (AC ?_)))
  refine Bm h (fun h => ?_) fun h => ?_
  ·refine Al (AC (AF (wq rfl ?_)))
   refine B6 h fun v4 a4 b4 h => qi AG EH a4 (Ai b4) rfl (qk CR rfl (qa rfl (Ac (wq rfl (qw 2 rfl (BU rfl (Ac ?_)))))))
   refine Bm h (fun h => ?_) fun h => ?_
   ·refine wq rfl (qm rfl (qe rfl ?_))
    obtain rfl := sj h
    refine Ag (sm [] [(2, iD v4)] [] rfl rfl) (Ap ?_)
    exact ⟨⟨[_], tm, rfl⟩, tv⟩
   ·refine Al (Aj Aw rfl (A6 rfl (qm rfl (Ac ?_))))
    exact sn [] h
  ·refine AP ?_
   exact sn [] h
 ·refine Ag hs (wq rfl (qm rfl (qe rfl ?_)))
  obtain rfl := sj h
  refine Ag (sm [] [(2, iD 0)] [] rfl rfl) (Ap ?_)
  exact ⟨⟨[_], tm, rfl⟩, tv⟩
theorem GQ (N : Nat) (p0 : Aa) (p1 : Aa) (r : Int) (h : Ci N p0 p1 = some r) : Ao Tryz.prog 39 [.e (.agg (DC p0)), .e (.agg (DC p1))] [] (iD r) := by
 unfold Ci at h
 refine cw (n := 22) (rs := [.tmp 4]) Tryz.func39 fun w0 S0 => ?_
 refine wq rfl (qb rfl (qb rfl (qa rfl (Ac (wq rfl (qf Mr rfl (ql CR rfl (qf Mr rfl (ql CR rfl ?_)))))))))
 refine B5 h fun v1 a1 h => Ax [] (Fp N p0.fu p1.fu v1 a1) R4 rfl (qf Mk rfl (ql CR rfl (qf Mk rfl (ql CR rfl ?_))))
 refine B5 h fun v2 a2 h => Ax [] (Fp N p0.fr p1.fr v2 a2) R4 rfl (qf Mh rfl (ql CR rfl (qf Mh rfl (ql CR rfl ?_))))
 refine B5 h fun v3 a3 h => Ax [] (Fp N p0.ft p1.ft v3 a3) R4 rfl (EZ AG EH OO rfl ?_)
 refine B5 h fun v4 a4 h => DW [] [20] (L4 N (([v1, v2, v3] : List Int)) v4 a4) T2 CB rfl (qa rfl (AY (by kernel_rfl) ?_))
 obtain rfl := sj h
 refine Ag (sm [] [(4, iD v4)] [] rfl rfl) (Ap ?_)
 exact ⟨⟨[_], tm, rfl⟩, tv⟩
theorem Ct (N : Nat) (p0 : List Aa) (r : Nat × (List Aa)) (h : AT N p0 = some r) : B2 Tryz.prog 40 [oD (.own 90000)] [(.vec 3 (p0.map Ab), .vec 3 (r.2.map Ab))] [] (oD (.view 90000 3 0 r.1)) := by
 unfold AT at h
 refine CW (n := 61) (rs := [.tmp 2]) Tryz.func40 rfl rfl rfl (FI rfl) (FI rfl) rfl rfl (FI rfl) rfl (FI rfl) fun w0 S0 GL => ?_
 refine Ag (sm [] [(0, oD (.own 90000))] [(90000, .vec 3 (p0.map Ab))] rfl rfl) (wq rfl (qa rfl (Ac (wp rfl (qm rfl (C0 A5 rfl (AV rfl (Ac ?_))))))))
 refine Bm h (fun h => ?_) fun h => ?_
 ·refine wq rfl (qm rfl (qe rfl ?_))
  obtain rfl := sj h
  refine Ag ((Ki Ab p0 2 90000 3 rfl rfl).trans (sm [] [(2, oD (.view 90000 3 0 p0.length))] [(90000, .vec 3 (p0.map Ab))] rfl rfl)) (Ap ?_)
  exact ⟨⟨[_], tm, rfl⟩, ⟨rfl, tv⟩, tv⟩
 ·refine Al (wp rfl (qe rfl ?_))
  refine Az (L := A7 N p0) h (fun v2 => mk [(0, oD (.own 90000)), (3, iD v2)] [(90000, .vec 3 (p0.map Ab))]) (fun v3 => mk [(0, oD (.own 90000))] [(90000, .vec 3 (p0.map Ab))]) (fun _ _ => rfl) (sm [] _ _ rfl rfl) (fun j2 n2 v2 h => ?_) (fun v3 s h hs => ?_)
  ·unfold A7 at h
   refine wp rfl (qw 2 rfl (C0 A5 rfl (AV rfl (Ac ?_))))
   refine Bm h (fun h => ?_) fun h => ?_
   ·refine Al (AC (AF (wq rfl (qw 2 rfl ?_))))
    refine B6 h fun v5 a5 b5 h => qI A5 BW a5 (Ai b5) rfl (qJ GI BW (Ai b5) rfl (qw 2 rfl (IY rfl ?_)))
    refine B6 h fun v6 a6 b6 h => qI A5 BW a6 (Ai b6) rfl (qJ GI BW (Ai b6) rfl ?_)
    refine Ox [.int .i64 v5.fu, .int .i64 v5.fr, .int .i64 v5.ft] [.int .i64 v6.fu, .int .i64 v6.fr, .int .i64 v6.ft] (.p rfl) rfl rfl Nh rfl ?_
    refine AY (by kernel_rfl) ?_
    refine Bm h (fun h => ?_) fun h => ?_
    ·refine wq rfl (qw 2 rfl ?_)
     obtain ⟨c8, h⟩ := CP h
     have w9 : ((v2).toNat) + ((p0.length - (v2).toNat)) ≤ p0.length := by have := c8.2.1; have := c8.2.2; omega
     refine El Ab p0 (.p rfl) rfl (Ep Ab _ _ p0) rfl A5 BW (.some _ _ _ _ c8.1) (.none _) ⟨rfl, tv⟩ tv c8.2.1 (by rw [Nat.zero_add]; exact c8.2.2) (Nat.zero_add _) rfl ?_
     refine qa rfl (Ac (wp rfl (qe rfl ?_)))
     refine Az (L := A4 N p0 v2) h (fun v10 => mk [(0, oD (.own 90000)), (3, iD v10.2.1), (4, oD (.view 90000 3 ((v2).toNat) ((p0.length - (v2).toNat)))), (5, iD v10.2.2)] [(90000, .vec 3 (v10.1.map Ab))]) (fun v11 => mk [(0, oD (.own 90000)), (3, iD v11.2)] [(90000, .vec 3 (v11.1.map Ab))]) (fun _ _ => rfl) (sm [] _ _ rfl rfl) (fun j10 n10 v10 h => ?_) (fun v11 s h hs => ?_)
     ·unfold A4 at h
      refine wp rfl (qw 2 rfl ?_)
      refine Oe (.p rfl) rfl A5 ?_
      refine AV rfl (Ac ?_)
      refine Bm h (fun h => ?_) fun h => ?_
      ·refine Al ?_
       refine AN h (fun v13 => mk [(0, oD (.own 90000)), (3, iD v13.2), (4, oD (.view 90000 3 ((v2).toNat) ((p0.length - (v2).toNat)))), (5, iD v10.2.2)] [(90000, .vec 3 (v13.1.map Ab))]) (fun j13 h => ?_) (fun v13 h => ?_)
       ·refine AF (wq rfl (qw 2 rfl ?_))
        refine GH h fun c15 h => B6 h fun v14 a14 b14 h => JC Ab v10.1 (.p rfl) rfl c15 rfl rfl A5 BW a14 (Hl b14).1 rfl ?_
        refine Ji (.p rfl) rfl GI BW rfl (Ai (Hl b14).2) ?_
        refine qw 2 rfl (IY rfl ?_)
        refine B6 h fun v16 a16 b16 h => JC Ab v10.1 (.p rfl) rfl c15 rfl rfl A5 BW a16 (Hl b16).1 rfl ?_
        refine Ji (.p rfl) rfl GI BW rfl (Ai (Hl b16).2) ?_
        refine SP [.int .i64 v14.fu, .int .i64 v14.fr, .int .i64 v14.ft] [.int .i64 v16.fu, .int .i64 v16.fr, .int .i64 v16.ft] (.p rfl) rfl rfl Nh rfl ?_
        refine AY (by kernel_rfl) ?_
        refine Bm h (fun h => ?_) fun h => ?_
        ·refine wq rfl (qw 4 rfl ?_)
         refine B6 h fun v18 a18 b18 h => JC Ab v10.1 (.p rfl) rfl c15 rfl rfl A5 BW a18 (Hl b18).1 rfl ?_
         refine Ji (.p rfl) rfl GI BW rfl (Ai (Hl b18).2) ?_
         refine B6 h fun v19 a19 b19 h => qI A5 BW a19 (Ai b19) rfl ?_
         refine D7 rfl rfl rfl rfl (Ai b19) rfl BW rfl (FI rfl) (CX Ab v10.1 _ v18) ?_
         refine Ac (Aj Aw rfl (qm rfl (A6 rfl (qe rfl ?_))))
         exact sn [] h
        ·refine Al ?_
         exact sn [] h
       ·refine Aj Aw rfl (qm rfl (A6 rfl (qe rfl ?_)))
        exact sn [] h
      ·refine AP ?_
       exact sn [] h
     ·refine Ag hs (wq rfl (qw 2 rfl ?_))
      obtain ⟨c20, h⟩ := CP h
      have w21 : ((v11.2).toNat) + ((v11.1.length - (v11.2).toNat)) ≤ v11.1.length := by have := c20.2.1; have := c20.2.2; omega
      refine El Ab v11.1 (.p rfl) rfl (Ep Ab _ _ v11.1) rfl A5 BW (.some _ _ _ _ c20.1) (.none _) ⟨rfl, tv⟩ tv c20.2.1 (by rw [Nat.zero_add]; exact c20.2.2) (Nat.zero_add _) rfl ?_
      have w22 : (EW v11.1 ((v11.2).toNat) (List.replicate ((v11.1.length - (v11.2).toNat)) ((Aa.mk 0 0 0)))).length = v11.1.length := FK (by rw [List.length_replicate]; exact w21)
      refine Kr Ab v11.1 ((Aa.mk 0 0 0)) rfl rfl (Gg Ab _ _ ((v11.2).toNat) ((v11.1.length - (v11.2).toNat)) v11.1 w21) rfl A5 Fq rfl rfl rfl rfl ?_
      refine Ac (wq rfl (qw 2 rfl ?_))
      obtain ⟨c23, h⟩ := CP h
      have w24 : 0 + ((v11.2).toNat) ≤ (EW v11.1 ((v11.2).toNat) (List.replicate ((v11.1.length - (v11.2).toNat)) ((Aa.mk 0 0 0)))).length := by have := c23.2.1; have := c23.2.2; omega
      refine El Ab (EW v11.1 ((v11.2).toNat) (List.replicate ((v11.1.length - (v11.2).toNat)) ((Aa.mk 0 0 0)))) (.p rfl) rfl (Ep Ab _ _ (EW v11.1 ((v11.2).toNat) (List.replicate ((v11.1.length - (v11.2).toNat)) ((Aa.mk 0 0 0))))) rfl A5 BW (.none _) (.some _ _ _ _ c23.1) tv ⟨rfl, tv⟩ c23.2.1 (by rw [Nat.zero_add]; exact c23.2.2) (Nat.zero_add _) rfl ?_
      refine qa rfl (Ac ?_)
      obtain rfl := sj h
      refine Ag (sm [] [(2, oD (.view 90000 3 0 ((v11.2).toNat)))] [(90000, .vec 3 ((EW v11.1 ((v11.2).toNat) (List.replicate ((v11.1.length - (v11.2).toNat)) ((Aa.mk 0 0 0)))).map Ab))] rfl rfl) (Ap ?_)
      exact ⟨⟨[_], tm, rfl⟩, ⟨rfl, tv⟩, tv⟩
    ·refine Al (Aj Aw rfl (qm rfl (A6 rfl (qe rfl ?_))))
     exact sn [] h
   ·refine AP ?_
    exact sn [] h
  ·refine Ag hs (wq rfl (qm rfl (qe rfl ?_)))
   obtain rfl := sj h
   refine Ag ((Ki Ab p0 2 90000 3 rfl rfl).trans (sm [] [(2, oD (.view 90000 3 0 p0.length))] [(90000, .vec 3 (p0.map Ab))] rfl rfl)) (Ap ?_)
   exact ⟨⟨[_], tm, rfl⟩, ⟨rfl, tv⟩, tv⟩
theorem D6 (N : Nat) (p0 : List Aa) (p1 : Int) (p2 : Int) (r : Nat × (List Aa)) (h : BB N p0 p1 p2 = some r) : B2 Tryz.prog 25 [oD (.own 90000), iD p1, iD p2] [(.vec 3 (p0.map Ab), .vec 3 (r.2.map Ab))] [] (oD (.view 90000 3 0 r.1)) := by
 unfold BB at h
 refine CW (n := 33) (rs := [.tmp 6]) Tryz.func25 rfl rfl rfl (FI rfl) (FI rfl) rfl rfl (FI rfl) rfl (FI rfl) fun w0 S0 GL => ?_
 refine Ag (sm [] [(0, oD (.own 90000)), (1, iD p1), (2, iD p2)] [(90000, .vec 3 (p0.map Ab))] rfl rfl) (wq rfl (qa rfl (Ac (wq rfl (qw 4 rfl (C0 A5 rfl ?_))))))
 refine GH h fun c1 h => Px (.p rfl) rfl rfl A5 BW rfl rfl rfl c1.1 c1.2.1 c1.2.2.1 c1.2.2.2.1 c1.2.2.2.2.1 (by rw [List.length_map]; exact c1.2.2.2.2.2) ?_
 refine Ac (wp rfl (qw 2 rfl (BO rfl (Ac ?_))))
 refine Bm h (fun h => ?_) fun h => ?_
 ·refine wq rfl (qm rfl (qe rfl ?_))
  obtain rfl := sj h
  refine Ag ((Ki Ab p0 6 90000 3 rfl rfl).trans (sm [] [(6, oD (.view 90000 3 0 p0.length))] [(90000, .vec 3 (p0.map Ab))] rfl rfl)) (Ap ?_)
  exact ⟨⟨[_], tm, rfl⟩, ⟨rfl, tv⟩, tv⟩
 ·refine Al (wq rfl (qm rfl (C0 A5 rfl (qa rfl (Ac (wq rfl (qw 2 rfl ?_)))))))
  obtain ⟨c3, h⟩ := CP h
  have w4 : 0 + ((p1).toNat) ≤ p0.length := by have := c3.2.1; have := c3.2.2; omega
  refine El Ab p0 (.p rfl) rfl (Ep Ab _ _ p0) rfl A5 BW (.none _) (.some _ _ _ _ c3.1) tv ⟨rfl, tv⟩ c3.2.1 (by rw [Nat.zero_add]; exact c3.2.2) (Nat.zero_add _) rfl ?_
  refine qw 2 rfl ?_
  obtain ⟨c5, h⟩ := CP h
  have w6 : ((p2).toNat) + ((p0.length - (p2).toNat)) ≤ p0.length := by have := c5.2.1; have := c5.2.2; omega
  refine El Ab p0 (.p rfl) rfl (Ep Ab _ _ p0) rfl A5 BW (.some _ _ _ _ c5.1) (.none _) ⟨rfl, tv⟩ tv c5.2.1 (by rw [Nat.zero_add]; exact c5.2.2) (Nat.zero_add _) rfl ?_
  obtain ⟨c7, h⟩ := CP h
  have w9f : 0 + ((p1).toNat) + (((p0.drop ((p2).toNat)).take ((p0.length - (p2).toNat)))).length ≤ p0.length := by have := c7; omega
  have w8 : (EW p0 (0 + ((p1).toNat)) (((p0.drop ((p2).toNat)).take ((p0.length - (p2).toNat))))).length = p0.length := FK w9f
  have w9 : 0 + ((p1).toNat + (((p0.drop ((p2).toNat)).take ((p0.length - (p2).toNat)))).length) ≤ (EW p0 (0 + ((p1).toNat)) (((p0.drop ((p2).toNat)).take ((p0.length - (p2).toNat))))).length := by rw [w8]; have := c7; omega
  refine NO Ab p0 (((p0.drop ((p2).toNat)).take ((p0.length - (p2).toNat)))) (.p rfl) rfl (Gg Ab _ _ 0 ((p1).toNat) p0 w4) rfl rfl (LH Ab _ _ ((p2).toNat) ((p0.length - (p2).toNat)) p0 w6) ⟨rfl, tv⟩ A5 A5 BW w9f rfl ?_
  refine qa rfl (AY (by kernel_rfl) (wq rfl (qw 2 rfl ?_)))
  refine Oe (.p rfl) rfl A5 ?_
  refine qm rfl ?_
  obtain ⟨c10, h⟩ := CP h
  have w11 : (((((((p1).toNat + (((p0.drop ((p2).toNat)).take ((p0.length - (p2).toNat)))).length)) : Nat) : Int)).toNat) + ((((p0.length : Int)).toNat - ((((((p1).toNat + (((p0.drop ((p2).toNat)).take ((p0.length - (p2).toNat)))).length)) : Nat) : Int)).toNat)) ≤ (EW p0 (0 + ((p1).toNat)) (((p0.drop ((p2).toNat)).take ((p0.length - (p2).toNat))))).length := by have := c10.2.2.1; have := c10.2.2.2; omega
  refine El Ab (EW p0 (0 + ((p1).toNat)) (((p0.drop ((p2).toNat)).take ((p0.length - (p2).toNat))))) (.p rfl) rfl (Gg Ab _ _ 0 (((p1).toNat + (((p0.drop ((p2).toNat)).take ((p0.length - (p2).toNat)))).length)) (EW p0 (0 + ((p1).toNat)) (((p0.drop ((p2).toNat)).take ((p0.length - (p2).toNat))))) w9) rfl A5 BW (.some _ _ _ _ c10.1) (.some _ _ _ _ c10.2.1) ⟨rfl, tv⟩ ⟨rfl, tv⟩ c10.2.2.1 (by rw [Nat.zero_add]; exact c10.2.2.2) (Nat.zero_add _) rfl ?_
  have w12 : (EW (EW p0 (0 + ((p1).toNat)) (((p0.drop ((p2).toNat)).take ((p0.length - (p2).toNat))))) (((((((p1).toNat + (((p0.drop ((p2).toNat)).take ((p0.length - (p2).toNat)))).length)) : Nat) : Int)).toNat) (List.replicate ((((p0.length : Int)).toNat - ((((((p1).toNat + (((p0.drop ((p2).toNat)).take ((p0.length - (p2).toNat)))).length)) : Nat) : Int)).toNat)) ((Aa.mk 0 0 0)))).length = (EW p0 (0 + ((p1).toNat)) (((p0.drop ((p2).toNat)).take ((p0.length - (p2).toNat))))).length := FK (by rw [List.length_replicate]; exact w11)
  refine Kr Ab (EW p0 (0 + ((p1).toNat)) (((p0.drop ((p2).toNat)).take ((p0.length - (p2).toNat))))) ((Aa.mk 0 0 0)) rfl rfl (Gg Ab _ _ (((((((p1).toNat + (((p0.drop ((p2).toNat)).take ((p0.length - (p2).toNat)))).length)) : Nat) : Int)).toNat) ((((p0.length : Int)).toNat - ((((((p1).toNat + (((p0.drop ((p2).toNat)).take ((p0.length - (p2).toNat)))).length)) : Nat) : Int)).toNat)) (EW p0 (0 + ((p1).toNat)) (((p0.drop ((p2).toNat)).take ((p0.length - (p2).toNat))))) w11) rfl A5 Fq rfl rfl rfl rfl ?_
  refine Ac (wq rfl (qm rfl (qe rfl ?_)))
  obtain rfl := sj h
  refine Ag (sm [] [(6, oD (.view 90000 3 0 (((p1).toNat + (((p0.drop ((p2).toNat)).take ((p0.length - (p2).toNat)))).length))))] [(90000, .vec 3 ((EW (EW p0 (0 + ((p1).toNat)) (((p0.drop ((p2).toNat)).take ((p0.length - (p2).toNat))))) (((((((p1).toNat + (((p0.drop ((p2).toNat)).take ((p0.length - (p2).toNat)))).length)) : Nat) : Int)).toNat) (List.replicate ((((p0.length : Int)).toNat - ((((((p1).toNat + (((p0.drop ((p2).toNat)).take ((p0.length - (p2).toNat)))).length)) : Nat) : Int)).toNat)) ((Aa.mk 0 0 0)))).map Ab))] rfl rfl) (Ap ?_)
  exact ⟨⟨[_], tm, rfl⟩, ⟨rfl, tv⟩, tv⟩
theorem GW (N : Nat) (p0 : Ae) (p1 : List Aa) (r : Bool × Int) (h : Cg N p0 p1 = some r) : Ao Tryz.prog 14 [.e (.agg (Ah p0)), pD (.sl (p1.map Ab))] [] (.tup [.one (.pure (.val (.bool r.1))), .one (iC r.2)]) := by
 unfold Cg at h
 refine cw (n := 69) (rs := [.tmp 4, .tmp 5]) Tryz.func14 fun w0 S0 => ?_
 refine wq rfl (qb rfl (qa rfl (qa rfl (Ac (wp rfl (qL CD Ce rfl (qm rfl ?_)))))))
 refine B5 h fun v1 a1 h => Ax [] (J5 N p0 p1 v1 a1) Ut rfl (qa rfl (Ac (wq rfl (qm rfl (BU rfl (Ac ?_))))))
 refine Bm h (fun h => ?_) fun h => ?_
 ·refine wq rfl (qm rfl (qa rfl (qe rfl ?_)))
  obtain rfl := sj h
  refine Ag (sm [] [(4, bD false), (5, iD v1)] [] rfl rfl) (Ap ?_)
  exact ⟨⟨[_, _], ⟨.tmp _ _ rfl, tm⟩, rfl⟩, tv⟩
 ·refine Al (wq rfl (qm rfl ?_))
  refine B5 h fun v3 a3 h => Ax [2001] (CQ N p1 v3 a3) Tf rfl (qa rfl (Ac (wq rfl (qm rfl ?_))))
  refine B5 h fun v4 a4 h => Fl (ds0 := [_, _]) [2001] [] [true] (B2.weak (ds' := [_, oD (.fnc 39)]) (Cp N v3 ((fun (x : Aa × Aa) => Ci N x.1 x.2)) v4 a4) ⟨(fun _ _ _ hh => hh), (fun _ _ _ hh => Nt Ts (fun ar t ht => by obtain ⟨x, r, rfl, hq, rfl⟩ := Gi ht; exact GQ N x.1 x.2 r hq) hh), tv⟩) (.p rfl) SY rfl ⟨rfl, rfl, tv⟩ rfl rfl (by decide) ⟨rfl, tv⟩ rfl (Ck rfl) tv ⟨(fun h => by cases h), tv⟩ rfl rfl rfl ?_
  refine Ac (wq rfl (qm rfl ?_))
  obtain ⟨v5, a5, h⟩ := bind_some h
  obtain ⟨c6, h⟩ := CP h
  have w7 : 0 + v5.1 ≤ v5.2.length := by rw [Nat.zero_add]; exact c6
  refine Fl (ds0 := [_]) [2001] [] [true] (Ct N v4 v5 a5) (.p rfl) Tu rfl ⟨rfl, tv⟩ rfl rfl (by decide) ⟨rfl, tv⟩ rfl (Ck rfl) tv ⟨(fun h => by cases h), tv⟩ rfl rfl rfl ?_
  refine DU (NA Ab v5.2 24 2001 2002 3 v5.1 rfl rfl rfl rfl rfl c6) (qa rfl (Ac (AC ?_)))
  refine AN h (fun v8 => mk [(2, oD (.ptr 2 0)), (7, oD (.own 2003)), (33, bD v8)] [(2, .box (Ah p0)), (2003, .vec 3 ((v5.2.take v5.1).map Ab))]) (fun j8 h => ?_) (fun v8 h => ?_)
  ·refine Aj Aw rfl (qL CD Ce rfl ?_)
   refine B5 h fun v9 a9 h => Ax [2004] (Fg N p0 v9 a9) Se rfl (C0 A5 rfl (Dx rfl (qm rfl ?_)))
   refine D2 29 h rfl (fun h => ?_) fun h => ?_
   ·refine qw 3 rfl (qp rfl (Ac ?_))
    exact sn [(2003, 2002)] h
   ·refine qm rfl (C0 A5 rfl (Dx rfl (qp rfl (Ac ?_))))
    exact sn [(2003, 2002)] h
  ·refine Bm h (fun h => ?_) fun h => ?_
   ·refine wq rfl (qa rfl (qe rfl ?_))
    obtain rfl := sj h
    refine Ag (sm [] [(4, bD false), (5, iD 3)] [] rfl rfl) (Ap ?_)
    exact ⟨⟨[_, _], ⟨.tmp _ _ rfl, tm⟩, rfl⟩, tv⟩
   ·refine Al (wq rfl (qL CD Ce rfl (qm rfl ?_)))
    refine B5 h fun v12 a12 h => DW [] [2003] (Ff N p0 (v5.2.take v5.1) v12 a12) R7 CB rfl (qm rfl (qx rfl (qx rfl (qa rfl (qa rfl (Ac (wp rfl (qm rfl (BU rfl (Ac ?_))))))))))
    refine Bm h (fun h => ?_) fun h => ?_
    ·refine wq rfl (qm rfl (qa rfl (qe rfl ?_)))
     obtain rfl := sj h
     refine Ag (sm [] [(4, bD false), (5, iD v12.2)] [] rfl rfl) (Ap ?_)
     exact ⟨⟨[_, _], ⟨.tmp _ _ rfl, tm⟩, rfl⟩, tv⟩
    ·refine Al (wp rfl (qm rfl (C0 A5 rfl (qm rfl (Ac ?_)))))
     refine Az (L := Dd N p0 v5) h (fun v14 => mk [(2, oD (.ptr 2 0)), (7, oD (.own 2005)), (8, bD v14.1), (44, iD (((v5.2.take v5.1).length : Int))), (45, iD v14.2)] [(2, .box (Ah p0)), (2005, .vec 3 ((v5.2.take v5.1).map Ab))]) (fun v15 => mk [(8, bD v15)] []) (fun _ _ => rfl) (sm [(2005, 2003)] _ _ rfl rfl) (fun j14 n14 v14 h => ?_) (fun v15 s h hs => ?_)
     ·unfold Dd at h
      refine wq rfl (AV rfl (Ac (AC ?_)))
      refine Bm h (fun h => ?_) fun h => ?_
      ·refine Al ?_
       refine AN h (fun v17 => mk [(2, oD (.ptr 2 0)), (7, oD (.own 2006)), (8, bD v17), (44, iD (((v5.2.take v5.1).length : Int))), (45, iD v14.2)] [(2, .box (Ah p0)), (2006, .vec 3 ((v5.2.take v5.1).map Ab))]) (fun j17 h => ?_) (fun v17 h => ?_)
       ·refine AF (wq rfl (qm rfl (qa rfl (Ac (wq rfl (qL CD Ce rfl (qm rfl ?_)))))))
        refine B5 h fun v18 a18 h => DW [2007] [2005] (CQ N (v5.2.take v5.1) v18 a18) Tf (FH (fun _ => rfl) CB) rfl (qw 2 rfl (A6 rfl ?_))
        obtain ⟨v19, a19, h⟩ := bind_some h
        obtain ⟨c20, h⟩ := CP h
        have w21 : 0 + v19.1 ≤ v19.2.length := by rw [Nat.zero_add]; exact c20
        refine Fl (ds0 := [_, _, _]) [2007] [] [true] (D6 N v18 v14.2 ((wI .i64 (v14.2 + 1))) v19 a19) (.p rfl) TZ rfl ⟨rfl, rfl, rfl, tv⟩ rfl rfl (by decide) ⟨rfl, tv⟩ rfl (Ck rfl) tv ⟨(fun h => by cases h), tv⟩ rfl rfl rfl ?_
        refine B5 h fun v22 a22 h => N9 (ds0 := [_, _]) [] [(2007, _)] (Ff N p0 (((v19.2.drop 0).take v19.1)) v22 a22) (.p rfl) R7 rfl ⟨rfl, rfl, tv⟩ ⟨rfl, tv⟩ (QA (Qw w21 rfl rfl)) rfl rfl (Ck rfl) tv rfl CB rfl ?_
        refine qm rfl (qx rfl (qx rfl (qa rfl (qa rfl (AY (by kernel_rfl) (wp rfl (qm rfl (BU rfl (Ac ?_)))))))))
        refine Bm h (fun h => ?_) fun h => ?_
        ·refine wq rfl (qm rfl (qa rfl (qe rfl ?_)))
         obtain rfl := sj h
         refine Ag (sm [] [(4, bD false), (5, iD v22.2)] [] rfl rfl) (Ap ?_)
         exact ⟨⟨[_, _], ⟨.tmp _ _ rfl, tm⟩, rfl⟩, tv⟩
        ·refine Al (Aj Aw rfl (qw 2 rfl ?_))
         refine D2 63 h rfl (fun h => ?_) fun h => ?_
         ·refine qm rfl (Cr rfl (qp rfl (qe rfl ?_)))
          exact sn [(2006, 2005)] h
         ·refine qw 2 rfl (qp rfl (qe rfl ?_))
          exact sn [(2006, 2005)] h
       ·refine Aj Aw rfl (A6 rfl (qm rfl (Ac ?_)))
        exact sn [(2005, 2006)] h
      ·refine AP ?_
       exact sn [] h
     ·refine Ag hs (wq rfl (qm rfl (qa rfl (qe rfl ?_))))
      obtain rfl := sj h
      refine Ag (sm [] [(4, bD v15), (5, iD 0)] [] rfl rfl) (Ap ?_)
      exact ⟨⟨[_, _], ⟨.tmp _ _ rfl, tm⟩, rfl⟩, tv⟩
theorem HL (N : Nat) (p0 : Ae) (r : (List Aa) × Int) (h : CU N p0 = some r) : Ao Tryz.prog 12 [.e (.agg (Ah p0))] [] (.tup [.one (sC (r.1.map Ab)), .one (iC r.2)]) := by
 unfold CU at h
 refine cw (n := 17) (rs := [.tmp 2, .tmp 3]) Tryz.func12 fun w0 S0 => ?_
 refine wq rfl (qb rfl (qa rfl (qa rfl (Ac (wq rfl (qL CD Ce rfl ?_))))))
 refine B5 h fun v1 a1 h => Ax [2001] (FP N p0 v1 a1) Q6 rfl (qm rfl (qx rfl (qx rfl (qa rfl (qa rfl (Ac (wp rfl (qm rfl (BU rfl (Ac ?_))))))))))
 refine Bm h (fun h => ?_) fun h => ?_
 ·refine wq rfl (qm rfl (qa rfl (qe rfl ?_)))
  obtain rfl := sj h
  refine Ag ((I5 2 _ rfl).trans (sm [] [(2, pD (.sl ((([] : List Aa)).map Ab))), (3, iD v1.2)] [] rfl rfl)) (Ap ?_)
  exact ⟨⟨[_, _], ⟨.tmp _ _ rfl, tm⟩, rfl⟩, tv⟩
 ·refine Al (wq rfl (qm rfl ?_))
  refine B6 h fun v3 a3 b3 h => qI Fv Lk a3 (Ai b3) rfl (qj Qk (Ai b3) rfl (qa rfl (qe rfl ?_)))
  obtain rfl := sj h
  refine Ag (sm [] [(2, pD (.sl (v3.map Ab))), (3, iD 0)] [] rfl rfl) (Ap ?_)
  exact ⟨⟨[_, _], ⟨.tmp _ _ rfl, tm⟩, rfl⟩, tv⟩
theorem F7 (N : Nat) (r : Bool) (h : C1 N = some r) : Ao Tryz.prog 11 [] [] (bD r) := by
 unfold C1 at h
 refine cw (n := 79) (rs := [.tmp 0]) Tryz.func11 fun w0 S0 => ?_
 refine wq rfl (qa rfl (Ac (wq rfl ?_)))
 refine B5 h fun v1 a1 h => Ax [2001, 2002, 2003, 2004] (Dq N v1 a1) QG rfl (DU (Cz 2001 _ _ rfl rfl) (DU (Cz 2002 _ _ rfl rfl) (DU (Cz 2003 _ _ rfl rfl) (DU (Cz 2004 _ _ rfl rfl) ?_))))
 refine B5 h fun v2 a2 h => Ax [2005] (FP N v1 v2 a2) Q6 rfl (qm rfl (qx rfl (qx rfl (qa rfl (qa rfl (Ac (wq rfl ?_)))))))
 refine B5 h fun v3 a3 h => Ax [2006, 2007, 2008, 2009] (Dq N v3 a3) QG rfl ?_
 refine B5 h fun v4 a4 h => DW [2010] [2006, 2007, 2008, 2009] (GM N v3 v4 a4) SU (FH (fun _ => rfl) CB) rfl (qm rfl (qx rfl (qx rfl (qa rfl (qa rfl (Ac (wq rfl ?_)))))))
 refine B5 h fun v5 a5 h => Ax [2011, 2012, 2013, 2014] (Dq N v5 a5) QG rfl (qm rfl ?_)
 refine B5 h fun v6 a6 h => DW [] [2011, 2012, 2013, 2014, 2010] (GW N v5 v4.1 v6 a6) SK CB rfl (qm rfl (qx rfl (qx rfl (qa rfl (qa rfl (Ac (wq rfl ?_)))))))
 refine B5 h fun v7 a7 h => Ax [2015, 2016, 2017, 2018] (Dq N v7 a7) QG rfl (DU (Cz 2015 _ _ rfl rfl) (DU (Cz 2016 _ _ rfl rfl) (DU (Cz 2017 _ _ rfl rfl) (DU (Cz 2018 _ _ rfl rfl) ?_))))
 refine B5 h fun v8 a8 h => Ax [] (HL N v7 v8 a8) Ti rfl (qm rfl (qx rfl (qx rfl (qa rfl (qa rfl (Ac (wq rfl (B3 Fq NP rfl (qz Fq rfl (qs BW rfl (Ac ?_)))))))))))
 refine AN h (fun v9 => mk [(0, bD v9)] []) (fun j9 h => ?_) (fun v9 h => ?_)
 ·refine Aj Aw rfl (qm rfl (BO rfl (qm rfl ?_)))
  refine D2 34 h rfl (fun h => ?_) fun h => ?_
  ·refine qm rfl (BO rfl (qp rfl (qm rfl ?_)))
   refine D2 38 h rfl (fun h => ?_) fun h => ?_
   ·refine qm rfl (BO rfl (qp rfl (qm rfl ?_)))
    refine D2 42 h rfl (fun h => ?_) fun h => ?_
    ·refine qm rfl (BO rfl (qp rfl (qm rfl ?_)))
     refine D2 46 h rfl (fun h => ?_) fun h => ?_
     ·refine qm rfl (C0 Fv rfl (BO rfl (qp rfl (qm rfl ?_))))
      refine D2 51 h rfl (fun h => ?_) fun h => ?_
      ·refine qm rfl (C0 A5 rfl (BO rfl (qp rfl (qm rfl ?_))))
       refine D2 56 h rfl (fun h => ?_) fun h => ?_
       ·refine qm rfl ?_
        refine B6 h fun v16 a16 b16 h => qI A5 BW a16 (Ai b16) rfl (qJ GI BW (Ai b16) rfl (qL GI BW rfl ?_))
        refine Ox [.int .i64 v16.fu, .int .i64 v16.fr, .int .i64 v16.ft] [.int .i64 0, .int .i64 0, .int .i64 1] (.g rfl rfl) rfl rfl Nh rfl ?_
        refine qp rfl (qm rfl ?_)
        refine D2 63 h rfl (fun h => ?_) fun h => ?_
        ·refine qm rfl (Cr rfl (qp rfl (qm rfl ?_)))
         refine D2 67 h rfl (fun h => ?_) fun h => ?_
         ·refine qm rfl (AB A5 rfl (BO rfl (qp rfl (qm rfl ?_))))
          refine D2 72 h rfl (fun h => ?_) fun h => ?_
          ·refine qm rfl ?_
           refine B6 h fun v20 a20 b20 h => qi A5 BW a20 (Ai b20) rfl (qK GI BW rfl (qL GI BW rfl ?_))
           refine Ox [.int .i64 v20.fu, .int .i64 v20.fr, .int .i64 v20.ft] [.int .i64 0, .int .i64 0, .int .i64 1] (.g rfl rfl) rfl rfl Nh rfl ?_
           refine qp rfl (qa rfl (AY (by kernel_rfl) ?_))
           exact sn [] h
          ·refine qw 5 rfl (qp rfl (qa rfl (AY (by kernel_rfl) ?_)))
           exact sn [] h
         ·refine qw 3 rfl (qp rfl (qw 6 rfl (qp rfl (qa rfl (AY (by kernel_rfl) ?_)))))
          exact sn [] h
        ·refine qw 2 rfl (qp rfl (qw 4 rfl (qp rfl (qw 6 rfl (qp rfl (qa rfl (AY (by kernel_rfl) ?_)))))))
         exact sn [] h
       ·refine qw 5 rfl (qp rfl (qw 3 rfl (qp rfl (qw 4 rfl (qp rfl (qw 6 rfl (qp rfl (qa rfl (AY (by kernel_rfl) ?_)))))))))
        exact sn [] h
      ·refine qw 3 rfl (qp rfl (qw 6 rfl (qp rfl (qw 3 rfl (qp rfl (qw 4 rfl (qp rfl (qw 6 rfl (qp rfl (qa rfl (AY (by kernel_rfl) ?_)))))))))))
       exact sn [] h
     ·refine qw 3 rfl (qp rfl (qw 4 rfl (qp rfl (qw 6 rfl (qp rfl (qw 3 rfl (qp rfl (qw 4 rfl (qp rfl (qw 6 rfl (qp rfl (qa rfl (AY (by kernel_rfl) ?_)))))))))))))
      exact sn [] h
    ·refine qw 2 rfl (qp rfl (qw 4 rfl (qp rfl (qw 4 rfl (qp rfl (qw 6 rfl (qp rfl (qw 3 rfl (qp rfl (qw 4 rfl (qp rfl (qw 6 rfl (qp rfl (qa rfl (AY (by kernel_rfl) ?_)))))))))))))))
     exact sn [] h
   ·refine qw 2 rfl (qp rfl (qw 3 rfl (qp rfl (qw 4 rfl (qp rfl (qw 4 rfl (qp rfl (qw 6 rfl (qp rfl (qw 3 rfl (qp rfl (qw 4 rfl (qp rfl (qw 6 rfl (qp rfl ?_)))))))))))))))
    refine qa rfl (AY (by kernel_rfl) ?_)
    exact sn [] h
  ·refine qw 2 rfl (qp rfl (qw 3 rfl (qp rfl (qw 3 rfl (qp rfl (qw 4 rfl (qp rfl (qw 4 rfl (qp rfl (qw 6 rfl (qp rfl (qw 3 rfl (qp rfl (qw 4 rfl (qp rfl (qw 3 rfl ?_))))))))))))))))
   refine qw 3 rfl (qp rfl (qa rfl (AY (by kernel_rfl) ?_)))
   exact sn [] h
 ·obtain rfl := sj h
  refine Ag (sm [] [(0, bD v9)] [] rfl rfl) (Ap ?_)
  exact ⟨⟨[_], tm, rfl⟩, tv⟩
theorem Jl (N : Nat) (p0 : Ae) (r : Bool) (h : Dg N p0 = some r) : Ao Tryz.prog 19 [.e (.agg (Ah p0))] [] (bD r) := by
 unfold Dg at h
 refine cw (n := 97) (rs := [.tmp 2]) Tryz.func19 fun w0 S0 => ?_
 refine wq rfl (qb rfl (qa rfl (Ac (AC ?_))))
 refine AN h (fun v1 => mk [(1, oD (.ptr 1 0)), (27, bD v1)] [(1, .box (Ah p0))]) (fun j1 h => ?_) (fun v1 h => ?_)
 ·refine Aj Aw rfl (qf B8 rfl (ql BG rfl (AB AG rfl (Dx rfl (qm rfl ?_)))))
  refine D2 10 h rfl (fun h => ?_) fun h => ?_
  ·refine qw 4 rfl (qp rfl (qw 5 rfl (qp rfl (qw 5 rfl (qp rfl (Ac ?_))))))
   exact sn [] h
  ·refine qf FQ rfl (ql BG rfl (AB AG rfl (Dx rfl (qp rfl (qm rfl ?_)))))
   refine D2 16 h rfl (fun h => ?_) fun h => ?_
   ·refine qw 4 rfl (qp rfl (qw 5 rfl (qp rfl (Ac ?_))))
    exact sn [] h
   ·refine qf GK rfl (ql BG rfl (AB AG rfl (Dx rfl (qp rfl (qm rfl ?_)))))
    refine D2 22 h rfl (fun h => ?_) fun h => ?_
    ·refine qw 4 rfl (qp rfl (Ac ?_))
     exact sn [] h
    ·refine qf BE rfl (ql Fc rfl (AB Co rfl (Dx rfl (qp rfl (Ac ?_)))))
     exact sn [] h
 ·refine Bm h (fun h => ?_) fun h => ?_
  ·refine wq rfl (qe rfl ?_)
   obtain rfl := sj h
   refine Ag (sm [] [(2, bD false)] [] rfl rfl) (Ap ?_)
   exact ⟨⟨[_], tm, rfl⟩, tv⟩
  ·refine Al (wp rfl (qe rfl ?_))
   refine Az (L := Cb N p0) h (fun v6 => mk [(1, oD (.ptr 1 0)), (3, iD v6)] [(1, .box (Ah p0))]) (fun v7 => mk [] []) (fun _ _ => rfl) (sm [] _ _ rfl rfl) (fun j6 n6 v6 h => ?_) (fun v7 s h hs => ?_)
   ·unfold Cb at h
    refine wp rfl (qm rfl (qf BE rfl (ql Fc rfl (AB Co rfl (AV rfl (Ac ?_))))))
    refine Bm h (fun h => ?_) fun h => ?_
    ·refine Al (AC (AF (AC ?_)))
     refine AN h (fun v9 => mk [(1, oD (.ptr 1 0)), (3, iD v6), (52, bD v9)] [(1, .box (Ah p0))]) (fun j9 h => ?_) (fun v9 h => ?_)
     ·refine Aj Aw rfl (qf BE rfl (ql Fc rfl (qm rfl ?_)))
      refine B6 h fun v10 a10 b10 h => qi Co C2 a10 (Ai b10) rfl (qg DE rfl (qk EF rfl (AB CH rfl (Dx rfl (qm rfl ?_)))))
      refine D2 43 h rfl (fun h => ?_) fun h => ?_
      ·refine qw 8 rfl (qp rfl (Ac ?_))
       exact sn [] h
      ·refine qf BE rfl (ql Fc rfl (qm rfl ?_))
       refine B6 h fun v12 a12 b12 h => qi Co C2 a12 (Ai b12) rfl (qg Dm rfl (qk EF rfl (AB CH rfl (Dx rfl (qp rfl (Ac ?_))))))
       exact sn [] h
     ·refine Bm h (fun h => ?_) fun h => ?_
      ·refine wq rfl (qe rfl ?_)
       obtain rfl := sj h
       refine Ag (sm [] [(2, bD false)] [] rfl rfl) (Ap ?_)
       exact ⟨⟨[_], tm, rfl⟩, tv⟩
      ·refine Al (wp rfl (qe rfl ?_))
       refine Az (L := Br N p0 v6) h (fun v14 => mk [(1, oD (.ptr 1 0)), (3, iD v6), (4, iD v14)] [(1, .box (Ah p0))]) (fun v15 => mk [(1, oD (.ptr 1 0)), (3, iD v6)] [(1, .box (Ah p0))]) (fun _ _ => rfl) (sm [] _ _ rfl rfl) (fun j14 n14 v14 h => ?_) (fun v15 s h hs => ?_)
       ·unfold Br at h
        refine wp rfl (qm rfl (qf BE rfl (ql Fc rfl (qm rfl ?_))))
        refine B6 h fun v16 a16 b16 h => qi Co C2 a16 (Ai b16) rfl (qg DE rfl (qk EF rfl (AB CH rfl (AV rfl (Ac ?_)))))
        refine Bm h (fun h => ?_) fun h => ?_
        ·refine Al (AC (AF (wq rfl (qf BE rfl (ql Fc rfl (qm rfl ?_))))))
         refine B6 h fun v18 a18 b18 h => qi Co C2 a18 (Ai b18) rfl (qg DE rfl (qk EF rfl (qm rfl ?_)))
         refine B6 h fun v19 a19 b19 h => qi CH Hd a19 (Ai b19) rfl (qk Jp rfl (AB E8 rfl (Dx rfl (Ac ?_))))
         refine Bm h (fun h => ?_) fun h => ?_
         ·refine wq rfl (qe rfl ?_)
          obtain rfl := sj h
          refine Ag (sm [] [(2, bD false)] [] rfl rfl) (Ap ?_)
          exact ⟨⟨[_], tm, rfl⟩, tv⟩
         ·refine Al (Aj Aw rfl (qm rfl (A6 rfl (qe rfl ?_))))
          exact sn [] h
        ·refine AP ?_
         exact sn [] h
       ·refine Ag hs (wq rfl (qe rfl ?_))
        refine Az (L := Bo N p0 v6) h (fun v21 => mk [(1, oD (.ptr 1 0)), (3, iD v6), (5, iD v21)] [(1, .box (Ah p0))]) (fun v22 => mk [(1, oD (.ptr 1 0)), (3, iD v6)] [(1, .box (Ah p0))]) (fun _ _ => rfl) (sm [] _ _ rfl rfl) (fun j21 n21 v21 h => ?_) (fun v22 s h hs => ?_)
        ·unfold Bo at h
         refine wp rfl (qm rfl (qf BE rfl (ql Fc rfl (qm rfl ?_))))
         refine B6 h fun v23 a23 b23 h => qi Co C2 a23 (Ai b23) rfl (qg Dm rfl (qk EF rfl (AB CH rfl (AV rfl (Ac ?_)))))
         refine Bm h (fun h => ?_) fun h => ?_
         ·refine Al (AC (AF (wq rfl (qf BE rfl (ql Fc rfl (qm rfl ?_))))))
          refine B6 h fun v25 a25 b25 h => qi Co C2 a25 (Ai b25) rfl (qg Dm rfl (qk EF rfl (qm rfl ?_)))
          refine B6 h fun v26 a26 b26 h => qi CH Hd a26 (Ai b26) rfl (qk Jp rfl (AB E8 rfl (Dx rfl (Ac ?_))))
          refine Bm h (fun h => ?_) fun h => ?_
          ·refine wq rfl (qe rfl ?_)
           obtain rfl := sj h
           refine Ag (sm [] [(2, bD false)] [] rfl rfl) (Ap ?_)
           exact ⟨⟨[_], tm, rfl⟩, tv⟩
          ·refine Al (Aj Aw rfl (qm rfl (A6 rfl (qe rfl ?_))))
           exact sn [] h
         ·refine AP ?_
          exact sn [] h
        ·refine Ag hs (Aj Aw rfl (qm rfl (A6 rfl (qe rfl ?_))))
         exact sn [] h
    ·refine AP ?_
     exact sn [] h
   ·refine Ag hs (wq rfl (qe rfl ?_))
    obtain rfl := sj h
    refine Ag (sm [] [(2, bD true)] [] rfl rfl) (Ap ?_)
    exact ⟨⟨[_], tm, rfl⟩, tv⟩
theorem HR (N : Nat) (p0 : Ae) (r : (List Aa)) (h : Cx N p0 = some r) : Ao Tryz.prog 44 [.e (.agg (Ah p0))] [(3, r.map Ab)] (oD (.own 0)) := by
 unfold Cx at h
 refine cw (n := 60) (rs := [.tmp 2]) Tryz.func44 fun w0 S0 => ?_
 refine wq rfl (qb rfl (qa rfl (Ac (wq rfl (qa rfl (Ac (wp rfl (qe rfl ?_))))))))
 refine Az (L := A1 N p0) h (fun v1 => mk [(1, oD (.ptr 1 0)), (3, oD (.own 2001)), (4, iD v1.2)] [(1, .box (Ah p0)), (2001, .vec 3 (v1.1.map Ab))]) (fun v2 => mk [(3, oD (.own 2002))] [(2002, .vec 3 (v2.map Ab))]) (fun _ _ => rfl) ((AW 3 2008 3 rfl rfl rfl).trans (sm [(2001, 2008)] _ _ rfl rfl)) (fun j1 n1 v1 h => ?_) (fun v2 s h hs => ?_)
 ·unfold A1 at h
  refine wp rfl (qm rfl (qf BE rfl (ql Fc rfl (AB Co rfl (AV rfl (Ac ?_))))))
  refine Bm h (fun h => ?_) fun h => ?_
  ·refine Al (AC (AF (wq rfl (qe rfl ?_))))
   refine Az (L := Bc N p0 v1) h (fun v4 => mk [(1, oD (.ptr 1 0)), (3, oD (.own 2003)), (4, iD v1.2), (5, iD v4.2)] [(1, .box (Ah p0)), (2003, .vec 3 (v4.1.map Ab))]) (fun v5 => mk [(1, oD (.ptr 1 0)), (3, oD (.own 2004)), (4, iD v1.2)] [(1, .box (Ah p0)), (2004, .vec 3 (v5.map Ab))]) (fun _ _ => rfl) (sm [(2003, 2001)] _ _ rfl rfl) (fun j4 n4 v4 h => ?_) (fun v5 s h hs => ?_)
   ·unfold Bc at h
    refine wp rfl (qm rfl (qf BE rfl (ql Fc rfl (qm rfl ?_))))
    refine B6 h fun v6 a6 b6 h => qi Co C2 a6 (Ai b6) rfl (qg DE rfl (qk EF rfl (AB CH rfl (AV rfl (Ac ?_)))))
    refine Bm h (fun h => ?_) fun h => ?_
    ·refine Al (AC (AF (wq rfl (qe rfl ?_))))
     refine Az (L := Bn N p0 v1 v4) h (fun v8 => mk [(1, oD (.ptr 1 0)), (3, oD (.own 2005)), (4, iD v1.2), (5, iD v4.2), (6, iD v8.2)] [(1, .box (Ah p0)), (2005, .vec 3 (v8.1.map Ab))]) (fun v9 => mk [(1, oD (.ptr 1 0)), (3, oD (.own 2006)), (4, iD v1.2), (5, iD v4.2)] [(1, .box (Ah p0)), (2006, .vec 3 (v9.map Ab))]) (fun _ _ => rfl) (sm [(2005, 2003)] _ _ rfl rfl) (fun j8 n8 v8 h => ?_) (fun v9 s h hs => ?_)
     ·unfold Bn at h
      refine wp rfl (qm rfl (qf BE rfl (ql Fc rfl (qm rfl ?_))))
      refine B6 h fun v10 a10 b10 h => qi Co C2 a10 (Ai b10) rfl (qg DE rfl (qk EF rfl (qm rfl ?_)))
      refine B6 h fun v11 a11 b11 h => qi CH Hd a11 (Ai b11) rfl (qk Jp rfl (AB E8 rfl (AV rfl (Ac ?_))))
      refine Bm h (fun h => ?_) fun h => ?_
      ·refine Al ?_
       refine AN h (fun v13 => mk [(1, oD (.ptr 1 0)), (3, oD (.own 2007)), (4, iD v1.2), (5, iD v4.2), (6, iD v8.2)] [(1, .box (Ah p0)), (2007, .vec 3 (v13.map Ab))]) (fun j13 h => ?_) (fun v13 h => ?_)
       ·refine AF (wq rfl (qf BE rfl (ql Fc rfl (qm rfl ?_))))
        refine B6 h fun v14 a14 b14 h => qi Co C2 a14 (Ai b14) rfl (qg DE rfl (qk EF rfl (qm rfl ?_)))
        refine B6 h fun v15 a15 b15 h => qi CH Hd a15 (Ai b15) rfl (qk Jp rfl (qm rfl ?_))
        refine B6 h fun v16 a16 b16 h => qi E8 O9 a16 (Ai b16) rfl (qk Ql rfl (Cr rfl (Ac ?_)))
        refine Bm h (fun h => ?_) fun h => ?_
        ·refine Aj Aw rfl (qw 4 rfl (B3 Fq NP rfl (EZ A5 BW Fq rfl ?_)))
         refine GH h fun c18 h => E4 (f := Ab) A5 A5 BW JV Fq c18 rfl (qe rfl ?_)
         exact sn [(2007, 58)] h
        ·refine Al ?_
         exact sn [(2007, 2005)] h
       ·refine Aj Aw rfl (qm rfl (A6 rfl (qe rfl ?_)))
        exact sn [(2005, 2007)] h
      ·refine AP ?_
       exact sn [(2006, 2005)] h
     ·refine Ag hs (Aj Aw rfl (qm rfl (A6 rfl (qe rfl ?_))))
      exact sn [(2003, 2006)] h
    ·refine AP ?_
     exact sn [(2004, 2003)] h
   ·refine Ag hs (Aj Aw rfl (qm rfl (A6 rfl (qe rfl ?_))))
    exact sn [(2001, 2004)] h
  ·refine AP ?_
   exact sn [(2002, 2001)] h
 ·refine Ag hs (wq rfl (qm rfl (qe rfl ?_)))
  obtain rfl := sj h
  refine Ag (sm [(1000, 2002)] [(2, oD (.own 1000))] [(1000, .vec 3 (v2.map Ab))] rfl rfl) (Ap ?_)
  exact ⟨⟨[_], tm, rfl⟩, ⟨rfl, tv⟩⟩
theorem HQ (N : Nat) (p0 : Ae) (r : (List Aa) × Int) (h : C9 N p0 = some r) : Ao Tryz.prog 17 [.e (.agg (Ah p0))] [(3, r.1.map Ab)] (.tup [.one (.own 0), .one (iC r.2)]) := by
 unfold C9 at h
 refine cw (n := 12) (rs := [.tmp 2, .tmp 3]) Tryz.func17 fun w0 S0 => ?_
 refine wq rfl (qb rfl (qa rfl (qa rfl (Ac (wp rfl (qL CD Ce rfl ?_))))))
 refine B5 h fun v1 a1 h => Ax [] (Eh N p0 v1 a1) To rfl (qa rfl (Ac (wq rfl (qm rfl (BU rfl (Ac ?_))))))
 refine Bm h (fun h => ?_) fun h => ?_
 ·refine wq rfl (qm rfl (qa rfl (qe rfl ?_)))
  obtain rfl := sj h
  refine Ag ((AW 2 2001 3 rfl rfl rfl).trans (sm [(1000, 2001)] [(2, oD (.own 1000)), (3, iD v1)] [(1000, .vec 3 ((([] : List Aa)).map Ab))] rfl rfl)) (Ap ?_)
  exact ⟨⟨[_, _], ⟨.tmp _ _ rfl, tm⟩, rfl⟩, ⟨rfl, tv⟩⟩
 ·refine Al (wq rfl (qL CD Ce rfl ?_))
  refine B5 h fun v3 a3 h => Ax [2002] (HR N p0 v3 a3) Ud rfl (qa rfl (qe rfl ?_))
  obtain rfl := sj h
  refine Ag (sm [(1000, 2002)] [(2, oD (.own 1000)), (3, iD 0)] [(1000, .vec 3 (v3.map Ab))] rfl rfl) (Ap ?_)
  exact ⟨⟨[_, _], ⟨.tmp _ _ rfl, tm⟩, rfl⟩, ⟨rfl, tv⟩⟩
theorem D1 (N : Nat) (p0 : Int) (r : (List Aa)) (h : BC N p0 = some r) : Ao Tryz.prog 82 [pD (.nil0), iD p0] [(3, r.map Ab)] (oD (.own 0)) := by
 unfold BC at h
 refine cw (n := 27) (rs := [.tmp 4]) Tryz.func82 fun w0 S0 => ?_
 refine wq rfl (qe rfl ?_)
 refine AN h (fun v1 => mk [(0, pD (.nil0)), (1, iD p0)] []) (fun j1 h => ?_) (fun v1 h => ?_)
 ·refine wq rfl (qm rfl (AV rfl (Ac ?_)))
  refine Bm h (fun h => ?_) fun h => ?_
  ·refine Aj Aw rfl ?_
   cases h
  ·refine Al ?_
   exact sn [] h
 ·refine AN h (fun v3 => mk [(0, oD (.own 2001))] [(2001, .vec 3 (v3.map Ab))]) (fun j3 h => ?_) (fun v3 h => ?_)
  ·refine wq rfl (qw 2 rfl ?_)
   refine PO (.p rfl) rfl A5 ?_
   refine qm rfl ?_
   refine On (.p rfl) rfl .nil tv rfl A5 ?_
   refine IY rfl (IY rfl (qa rfl (Ac (wq rfl (qm rfl (Dx rfl (Ac ?_)))))))
   refine Bm h (fun h => ?_) fun h => ?_
   ·refine Aj Aw rfl (qw 2 rfl ?_)
    refine PO (.p rfl) rfl A5 ?_
    refine PL (.p rfl) rfl rfl A5 BW ?_
    refine qm rfl ?_
    refine GH h fun c5 h => O5 (.p rfl) rfl rfl rfl A5 TU BW JV (FI rfl) Fq rfl rfl rfl c5.1 c5.2 (by decide) (Ke Ab _ ((Aa.mk 0 0 0))) ?_
    refine qm rfl ?_
    refine On (.p rfl) rfl .nil tv rfl A5 ?_
    obtain ⟨c6, h⟩ := CP h
    have w7 : 0 + ((((0 : Nat) : Int)).toNat) ≤ (List.replicate ((wI .i64 (p0 - (wI .i64 (0 - ((0 : Nat) : Int)))))).toNat ((Aa.mk 0 0 0))).length := by have := c6.2.1; have := c6.2.2; omega
    refine El Ab (List.replicate ((wI .i64 (p0 - (wI .i64 (0 - ((0 : Nat) : Int)))))).toNat ((Aa.mk 0 0 0))) (.p rfl) rfl (Ep Ab _ _ (List.replicate ((wI .i64 (p0 - (wI .i64 (0 - ((0 : Nat) : Int)))))).toNat ((Aa.mk 0 0 0)))) rfl A5 BW (.none _) (.some _ _ _ _ c6.1) tv ⟨rfl, tv⟩ c6.2.1 (by rw [Nat.zero_add]; exact c6.2.2) (Nat.zero_add _) rfl ?_
    refine qa rfl (Ac ?_)
    exact OD _ h ((MU Ab (List.replicate ((wI .i64 (p0 - (wI .i64 (0 - ((0 : Nat) : Int)))))).toNat ((Aa.mk 0 0 0))) 0 22 2002 3 ((((0 : Nat) : Int)).toNat) rfl rfl rfl w7 rfl rfl).trans (sm [(2001, 2002)] _ _ rfl rfl))
   ·refine Al ?_
    exact OD _ h ((AW 0 2003 3 rfl rfl rfl).trans (sm [(2001, 2003)] _ _ rfl rfl))
  ·refine wq rfl (qm rfl (qe rfl ?_))
   obtain rfl := sj h
   refine Ag (sm [(1000, 2001)] [(4, oD (.own 1000))] [(1000, .vec 3 (v3.map Ab))] rfl rfl) (Ap ?_)
   exact ⟨⟨[_], tm, rfl⟩, ⟨rfl, tv⟩⟩
theorem D5 (N : Nat) (p0 : List (List Aa)) (r : (List Aa)) (h : BD N p0 = some r) : Ao Tryz.prog 54 [pD (.sl (p0.map (DH Ab)))] [(3, r.map Ab)] (oD (.own 0)) := by
 unfold BD at h
 refine cw (n := 36) (rs := [.tmp 2]) Tryz.func54 fun w0 S0 => ?_
 refine wq rfl (qa rfl (Ac (wq rfl (qa rfl (Ac (wp rfl (qm rfl (AB Fv rfl (qm rfl (Ac ?_))))))))))
 refine Az (L := A8 N p0) h (fun v1 => mk [(0, pD (.sl (p0.map (DH Ab)))), (3, iD v1.1), (9, pD (.sl (p0.map (DH Ab)))), (10, iD ((p0.length : Int))), (11, iD v1.2)] []) (fun v2 => mk [(0, pD (.sl (p0.map (DH Ab)))), (3, iD v2)] []) (fun _ _ => rfl) (sm [] _ _ rfl rfl) (fun j1 n1 v1 h => ?_) (fun v2 s h hs => ?_)
 ·unfold A8 at h
  refine wq rfl (AV rfl (Ac (AC ?_)))
  refine Bm h (fun h => ?_) fun h => ?_
  ·refine Al ?_
   refine AN h (fun v4 => mk [(0, pD (.sl (p0.map (DH Ab)))), (3, iD v4), (9, pD (.sl (p0.map (DH Ab)))), (10, iD ((p0.length : Int))), (11, iD v1.2)] []) (fun j4 h => ?_) (fun v4 h => ?_)
   ·refine AF (wq rfl ?_)
    refine B6 h fun v5 a5 b5 h => qi Fv Lk a5 (Ai b5) rfl (qk Qk rfl (qa rfl (Ac (wq rfl (qw 2 rfl (AB A5 rfl (A6 rfl (qa rfl (Ac (wq rfl (qm rfl (AV rfl (Ac ?_)))))))))))))
    refine Bm h (fun h => ?_) fun h => ?_
    ·refine Aj Aw rfl ?_
     cases h
    ·refine Al ?_
     exact sn [] h
   ·refine Aj Aw rfl (A6 rfl (qm rfl (Ac ?_)))
    exact sn [] h
  ·refine AP ?_
   exact sn [] h
 ·refine Ag hs (wq rfl (qm rfl ?_))
  refine B5 h fun v7 a7 h => QC (ds0 := [_, _]) [2001] (D1 N v2 v7 a7) (.p rfl) Up rfl ⟨rfl, rfl, tv⟩ rfl rfl rfl (Ck rfl) ⟨rfl, tv⟩ rfl ?_
  refine qa rfl (Ac (wp rfl (qm rfl (AB Fv rfl (qm rfl (Ac ?_))))))
  refine Az (L := A9 N p0) h (fun v8 => mk [(6, oD (.own 2002)), (25, pD (.sl (p0.map (DH Ab)))), (26, iD ((p0.length : Int))), (27, iD v8.2)] [(2002, .vec 3 (v8.1.map Ab))]) (fun v9 => mk [(6, oD (.own 2003))] [(2003, .vec 3 (v9.map Ab))]) (fun _ _ => rfl) (sm [(2002, 2001)] _ _ rfl rfl) (fun j8 n8 v8 h => ?_) (fun v9 s h hs => ?_)
  ·unfold A9 at h
   refine wq rfl (AV rfl (Ac (AC ?_)))
   refine Bm h (fun h => ?_) fun h => ?_
   ·refine Al (AC (AF (wq rfl ?_)))
    refine B6 h fun v11 a11 b11 h => qi Fv Lk a11 (Ai b11) rfl (qk Qk rfl (qa rfl (Ac (Aj Aw rfl (qw 2 rfl ?_)))))
    refine GH h fun c12 h => IQ (f := Ab) A5 A5 BW JV Fq (fun _ => rfl) c12 rfl (qa rfl (Ac (Aj Aw rfl (A6 rfl (qm rfl (Ac ?_))))))
    exact sn [(2002, 33)] h
   ·refine AP ?_
    exact sn [(2003, 2002)] h
  ·refine Ag hs (wq rfl (qm rfl (qe rfl ?_)))
   obtain rfl := sj h
   refine Ag (sm [(1000, 2003)] [(2, oD (.own 1000))] [(1000, .vec 3 (v9.map Ab))] rfl rfl) (Ap ?_)
   exact ⟨⟨[_], tm, rfl⟩, ⟨rfl, tv⟩⟩
theorem JI (N : Nat) (p0 : Ae) (r : (List Aa) × Int) (h : C5 N p0 = some r) : Ao Tryz.prog 28 [.e (.agg (Ah p0))] [(3, r.1.map Ab)] (.tup [.one (.own 0), .one (iC r.2)]) := by
 unfold C5 at h
 refine cw (n := 21) (rs := [.tmp 2, .tmp 3]) Tryz.func28 fun w0 S0 => ?_
 refine wq rfl (qb rfl (qa rfl (qa rfl (Ac (wq rfl (qL CD Ce rfl ?_))))))
 refine B5 h fun v1 a1 h => Ax [2001] (FP N p0 v1 a1) Q6 rfl (qm rfl (qx rfl (qx rfl (qa rfl (qa rfl (Ac (wp rfl (qm rfl (BU rfl (Ac ?_))))))))))
 refine Bm h (fun h => ?_) fun h => ?_
 ·refine wq rfl (qm rfl (qa rfl (qe rfl ?_)))
  obtain rfl := sj h
  refine Ag ((AW 2 2002 3 rfl rfl rfl).trans (sm [(1000, 2002)] [(2, oD (.own 1000)), (3, iD v1.2)] [(1000, .vec 3 ((([] : List Aa)).map Ab))] rfl rfl)) (Ap ?_)
  exact ⟨⟨[_, _], ⟨.tmp _ _ rfl, tm⟩, rfl⟩, ⟨rfl, tv⟩⟩
 ·refine Al (wq rfl (qm rfl ?_))
  refine B5 h fun v3 a3 h => DW [2003] [2001] (D5 N v1.1 v3 a3) Un (FH (fun _ => rfl) CB) rfl (qa rfl (Ac (wq rfl (qm rfl ?_))))
  refine B5 h fun v4 a4 h => Fl (ds0 := [_, _]) [2003] [] [true] (B2.weak (ds' := [_, oD (.fnc 39)]) (Cp N v3 ((fun (x : Aa × Aa) => Ci N x.1 x.2)) v4 a4) ⟨(fun _ _ _ hh => hh), (fun _ _ _ hh => Nt Ts (fun ar t ht => by obtain ⟨x, r, rfl, hq, rfl⟩ := Gi ht; exact GQ N x.1 x.2 r hq) hh), tv⟩) (.p rfl) SY rfl ⟨rfl, rfl, tv⟩ rfl rfl (by decide) ⟨rfl, tv⟩ rfl (Ck rfl) tv ⟨(fun h => by cases h), tv⟩ rfl rfl rfl ?_
  refine Ac (wq rfl (qm rfl ?_))
  obtain ⟨v5, a5, h⟩ := bind_some h
  obtain ⟨c6, h⟩ := CP h
  have w7 : 0 + v5.1 ≤ v5.2.length := by rw [Nat.zero_add]; exact c6
  refine Fl (ds0 := [_]) [2003] [] [true] (Ct N v4 v5 a5) (.p rfl) Tu rfl ⟨rfl, tv⟩ rfl rfl (by decide) ⟨rfl, tv⟩ rfl (Ck rfl) tv ⟨(fun h => by cases h), tv⟩ rfl rfl rfl ?_
  refine DU (NA Ab v5.2 20 2003 2004 3 v5.1 rfl rfl rfl rfl rfl c6) (qa rfl (qe rfl ?_))
  obtain rfl := sj h
  refine Ag (sm [(1000, 2004)] [(2, oD (.own 1000)), (3, iD 0)] [(1000, .vec 3 ((v5.2.take v5.1).map Ab))] rfl rfl) (Ap ?_)
  exact ⟨⟨[_, _], ⟨.tmp _ _ rfl, tm⟩, rfl⟩, ⟨rfl, tv⟩⟩
theorem Gb (N : Nat) (p0 : Ae) (r : Bool) (h : BH N p0 = some r) : Ao Tryz.prog 9 [.e (.agg (Ah p0))] [] (bD r) := by
 unfold BH at h
 refine cw (n := 91) (rs := [.tmp 2]) Tryz.func9 fun w0 S0 => ?_
 refine wq rfl (qb rfl (qa rfl (Ac (wq rfl (qL CD Ce rfl ?_)))))
 refine B5 h fun v1 a1 h => Ax [] (Eh N p0 v1 a1) To rfl (qa rfl (Ac (AC ?_)))
 refine AN h (fun v2 => mk [(1, oD (.ptr 1 0)), (3, iD v1), (22, bD v2)] [(1, .box (Ah p0))]) (fun j2 h => ?_) (fun v2 h => ?_)
 ·refine Aj Aw rfl ?_
  refine B5 h fun v3 a3 h => Ax [] (F7 N v3 a3) SN rfl (Cr rfl (qm rfl ?_))
  refine D2 18 h rfl (fun h => ?_) fun h => ?_
  ·refine qw 3 rfl (qp rfl (Ac ?_))
   exact sn [] h
  ·refine qL CD Ce rfl ?_
   refine B5 h fun v5 a5 h => Ax [] (Jl N p0 v5 a5) Ul rfl (Cr rfl (qp rfl (Ac ?_)))
   exact sn [] h
 ·refine Bm h (fun h => ?_) fun h => ?_
  ·refine wq rfl ?_
   refine B5 h fun v7 a7 h => Ax [] (F7 N v7 a7) SN rfl (qe rfl ?_)
   obtain rfl := sj h
   refine Ag (sm [] [(2, bD v7)] [] rfl rfl) (Ap ?_)
   exact ⟨⟨[_], tm, rfl⟩, tv⟩
  ·refine Al ?_
   refine AN h (fun v8 => mk [(1, oD (.ptr 1 0)), (3, iD v8)] [(1, .box (Ah p0))]) (fun j8 h => ?_) (fun v8 h => ?_)
   ·refine wq rfl (qL CD Ce rfl ?_)
    refine B5 h fun v9 a9 h => Ax [2001] (HQ N p0 v9 a9) Uo rfl (qm rfl (qx rfl (qx rfl (qa rfl (qe rfl ?_)))))
    refine AN h (fun v10 => mk [(1, oD (.ptr 1 0)), (3, iD v1), (35, bD v10)] [(1, .box (Ah p0))]) (fun j10 h => ?_) (fun v10 h => ?_)
    ·refine Aj Aw rfl (qm rfl (BO rfl (qm rfl ?_)))
     refine D2 31 h rfl (fun h => ?_) fun h => ?_
     ·refine qm rfl (C0 A5 rfl (Dx rfl (qp rfl (Ac ?_))))
      exact sn [] h
     ·refine qw 3 rfl (qp rfl (Ac ?_))
      exact sn [] h
    ·refine Bm h (fun h => ?_) fun h => ?_
     ·refine Aj Aw rfl (qe rfl ?_)
      exact sn [] h
     ·refine Al ?_
      exact sn [] h
   ·refine wp rfl (qm rfl (BO rfl (Ac ?_)))
    refine Bm h (fun h => ?_) fun h => ?_
    ·refine wq rfl (qe rfl ?_)
     obtain rfl := sj h
     refine Ag (sm [] [(2, bD true)] [] rfl rfl) (Ap ?_)
     exact ⟨⟨[_], tm, rfl⟩, tv⟩
    ·refine Al (wq rfl (qL CD Ce rfl ?_))
     refine B5 h fun v14 a14 h => Ax [2002] (FP N p0 v14 a14) Q6 rfl (qm rfl (qx rfl (qx rfl (qa rfl (qa rfl (Ac (wq rfl (qL CD Ce rfl ?_))))))))
     refine B5 h fun v15 a15 h => Ax [] (HL N p0 v15 a15) Ti rfl (qm rfl (qx rfl (qx rfl (qa rfl (qa rfl (Ac (wq rfl (qL CD Ce rfl ?_))))))))
     refine B5 h fun v16 a16 h => Ax [2003] (JI N p0 v16 a16) Ua rfl (qm rfl (qx rfl (qx rfl (qa rfl (qa rfl (Ac (wq rfl (qL CD Ce rfl ?_))))))))
     refine B5 h fun v17 a17 h => Ax [] (GW N p0 (([] : List Aa)) v17 a17) SK rfl (qm rfl (qx rfl (qx rfl (qa rfl (qe rfl ?_)))))
     refine AN h (fun v18 => mk [(2, bD v18)] []) (fun j18 h => ?_) (fun v18 h => ?_)
     ·refine Aj Aw rfl (qw 2 rfl (BO rfl (qm rfl ?_)))
      refine D2 61 h rfl (fun h => ?_) fun h => ?_
      ·refine qw 2 rfl (BO rfl (qp rfl (qm rfl ?_)))
       refine D2 66 h rfl (fun h => ?_) fun h => ?_
       ·refine qw 2 rfl (BO rfl (qp rfl (qm rfl ?_)))
        refine D2 71 h rfl (fun h => ?_) fun h => ?_
        ·refine qw 2 rfl (BO rfl (qp rfl (qm rfl ?_)))
         refine D2 76 h rfl (fun h => ?_) fun h => ?_
         ·refine qm rfl (C0 Fv rfl (qm rfl (AB A5 rfl (A6 rfl (qm rfl (C0 A5 rfl (A6 rfl (BO rfl (qp rfl (qm rfl ?_))))))))))
          refine D2 87 h rfl (fun h => ?_) fun h => ?_
          ·refine qm rfl (Cr rfl (qp rfl (qe rfl ?_)))
           exact sn [] h
          ·refine qw 2 rfl (qp rfl (qe rfl ?_))
           exact sn [] h
         ·refine qw 9 rfl (qp rfl (qw 3 rfl (qp rfl (qe rfl ?_))))
          exact sn [] h
        ·refine qw 3 rfl (qp rfl (qw 10 rfl (qp rfl (qw 3 rfl (qp rfl (qe rfl ?_))))))
         exact sn [] h
       ·refine qw 3 rfl (qp rfl (qw 4 rfl (qp rfl (qw 10 rfl (qp rfl (qw 3 rfl (qp rfl (qe rfl ?_))))))))
        exact sn [] h
      ·refine qw 3 rfl (qp rfl (qw 4 rfl (qp rfl (qw 4 rfl (qp rfl (qw 10 rfl (qp rfl (qw 3 rfl (qp rfl (qe rfl ?_))))))))))
       exact sn [] h
     ·obtain rfl := sj h
      refine Ag (sm [] [(2, bD v18)] [] rfl rfl) (Ap ?_)
      exact ⟨⟨[_], tm, rfl⟩, tv⟩
end Go.Lift
