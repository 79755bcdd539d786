/- Lemmas for RefuseCheckSaid, which YtpaobkaighpaaaaGreatFinR9 proves. -/
import Derived.Test.YtpaobkaighpaaaaGreatCode4
open Nat renaming zero_add → uT
open Go.Proofs.Tryz renaming prog → uS
namespace Go.Lift
open IntKind renaming wrap → wI
set_option maxRecDepth 10000
open Go.RowKit
open Go.Proofs
theorem Kx (N : Nat) (p0 : Ab) (p1 : List Aa) (p2 : B4) (r : (List Aa)) (h : C6 N p0 p1 p2 = some r) : Ar uS 36 [.e (.agg (Ae p0)), pD (.sl (p1.map Al)), .e (.agg (Gt p2))] [(3, r.map Al)] (oD (.own 0)) := by
 unfold C6 at h
 refine cw (n := 83) (rs := [.tmp 6]) Tryz.func36 fun w0 S0 => ?_
 refine wq rfl (qb rfl (qb rfl (qa rfl (Ac (wq rfl (qm rfl ?_))))))
 refine BV h fun v1 a1 h => Aw [2001] (Ib N p1 v1 a1) bB rfl (qa rfl (Ac (wq rfl (qL Db CM rfl (qf Wv rfl (qL aM ad rfl ?_))))))
 refine BV h fun v2 a2 h => Aw [2002, 2003, 2004] (MO N p0 ((By.mk p2.fr.fd p2.fr.fa p2.fr.fc)) v2 a2) bp rfl (qz B1 rfl (qs Az rfl (Ac (wq rfl (qe rfl ?_)))))
 refine AR h (fun v3 => mk [(5, oD (.ptr 5 0)), (7, oD (.own 2008)), (8, oD (.ptr 8 0)), (9, iD v3)] [(5, .box (Gt p2)), (8, .box [.own 2005, .own 2006, .own 2007]), (2005, .vec 1 (v2.fd.map Ao)), (2006, .vec 1 (v2.fa.map Ao)), (2007, .vec 1 (v2.fc.map CF)), (2008, .vec 3 (v1.map Al))]) (fun j3 h => ?_) (fun v3 h => ?_)
 ·refine wq rfl (qm rfl (D1 A0 rfl (FW rfl (Ac ?_))))
  refine Bb h (fun h => ?_) fun h => ?_
  ·refine Ah Ax rfl (qf Ww rfl (ql Xi rfl (Iw XC Vs rfl (qm rfl (D1 A0 rfl ?_)))))
   refine F4 h fun c5 h => Jw rfl c5 (qe rfl ?_)
   exact sn [(2005, 2002), (2006, 2003), (2007, 2004), (2008, 2001)] h
  ·refine Ak ?_
   exact sn [(2005, 2002), (2006, 2003), (2007, 2004), (2008, 2001)] h
 ·refine AR h (fun v6 => mk [(7, oD (.own 2009))] [(2009, .vec 3 (v6.map Al))]) (fun j6 h => ?_) (fun v6 h => ?_)
  ·refine wq rfl (qf Wd rfl (ql Xi rfl (Jw rfl (by decide) (qa rfl (Ac (AO (wq rfl (qm rfl (BY rfl (qe rfl ?_))))))))))
   refine Bb h (fun h => ?_) fun h => ?_
   ·refine wq rfl (qm rfl (qL AZ Az rfl ?_))
    refine BV h fun v8 a8 h => CP [] [2008, 2005, 2006, 2007] (Ar.weak (ds' := [pD (.sl (v1.map Al)), .e (.agg (AA v2)), oD (.fnc 68)]) (DD N v1 v2 ((fun (x : Aa × Aa) => AY N x.1 x.2)) v8 a8) ⟨(fun _ _ _ hh => hh), (fun _ _ _ hh => hh), (fun _ _ _ hh => NN Ur (fun ar t ht => by obtain ⟨x, r, rfl, hq, rfl⟩ := GI ht; exact ED N x.1 x.2 r hq) hh), tv⟩) Y6 BA rfl ?_
    refine qm rfl (qx rfl (qx rfl (qa rfl (qa rfl (Ac (wq rfl (qm rfl (Cm rfl (Ac ?_)))))))))
    refine Bb h (fun h => ?_) fun h => ?_
    ·refine Ah Ax rfl (qw 2 rfl (qL AZ Az rfl (CX (AU 2005 _ _ rfl rfl) (CX (AU 2006 _ _ rfl rfl) (CX (AU 2007 _ _ rfl rfl) (DF A0 Az B1 rfl (CX (AU 45 _ _ rfl rfl) ?_)))))))
     refine BV h fun v10 a10 h => Tp (ds0 := [_, _, _]) 2008 [2010] (FQ N v1 v8.1 (([v2] : List Aa)) v10 a10) (.p rfl) YT rfl ⟨rfl, rfl, rfl, tv⟩ rfl rfl rfl rfl rfl rfl ⟨rfl, tv⟩ rfl rfl rfl ?_
     refine qa rfl (Ac ?_)
     exact sn [(2009, 2010)] h
    ·refine Ak ?_
     exact sn [(2009, 2008)] h
   ·refine wq rfl (qm rfl (D1 A0 rfl (BY rfl (qe rfl ?_))))
    refine Bb h (fun h => ?_) fun h => ?_
    ·refine Ak ?_
     exact sn [(2009, 2008)] h
    ·refine wq rfl (qm rfl (BY rfl (qe rfl ?_)))
     refine Bb h (fun h => ?_) fun h => ?_
     ·refine Ah Ax rfl (qw 3 rfl (A4 rfl ?_))
      obtain ⟨v13, a13, h⟩ := bind_some h
      obtain ⟨c14, h⟩ := ET h
      have w15 : 0 + v13.1 ≤ v13.2.length := by rw [uT]; exact c14
      refine JD (ds0 := [_, _, _]) [2008] [] [true] (H6 N v1 v3 ((wI .i64 (v3 + 1))) v13 a13) (.p rfl) aU rfl ⟨rfl, rfl, rfl, tv⟩ rfl rfl (by decide) ⟨rfl, tv⟩ rfl (F7 rfl) tv ⟨(fun h => by cases h), tv⟩ rfl rfl rfl ?_
      refine CX (Sn Al v13.2 58 2008 2011 3 v13.1 rfl rfl rfl rfl rfl c14) (qe rfl ?_)
      exact sn [(2009, 2011)] h
     ·refine wq rfl (qm rfl (BY rfl (qe rfl ?_)))
      refine Bb h (fun h => ?_) fun h => ?_
      ·refine Ah Ax rfl (qw 4 rfl ?_)
       refine B3 h fun v17 a17 b17 h => qI A0 Az a17 (Ag b17) rfl (qJ AZ Az (Ag b17) rfl (DF A0 Az B1 rfl (CX (AU 68 _ _ rfl rfl) ?_)))
       refine BV h fun v18 a18 h => Tp (ds0 := [_, _, _]) 2008 [2012] (FQ N v1 v3 (([v17] : List Aa)) v18 a18) (.p rfl) YT rfl ⟨rfl, rfl, rfl, tv⟩ rfl rfl rfl rfl rfl rfl ⟨rfl, tv⟩ rfl rfl rfl ?_
       refine qa rfl (Ac ?_)
       exact sn [(2009, 2012)] h
      ·refine wq rfl (qm rfl (BY rfl (qe rfl ?_)))
       refine Bb h (fun h => ?_) fun h => ?_
       ·refine Ah Ax rfl (qw 2 rfl (qL AZ Az rfl ?_))
        refine B3 h fun v20 a20 b20 h => qI A0 Az a20 (Ag b20) rfl (CX (AU 2005 _ _ rfl rfl) (CX (AU 2006 _ _ rfl rfl) (CX (AU 2007 _ _ rfl rfl) ?_)))
        refine Em rfl rfl rfl rfl (Ag b20) rfl Az rfl (IU rfl) (Ei Al v1 _ v2) ?_
        refine Ac ?_
        exact sn [(2009, 2008)] h
       ·refine wq rfl (qm rfl (BY rfl (qe rfl ?_)))
        refine Bb h (fun h => ?_) fun h => ?_
        ·refine Ah Ax rfl (qm rfl ?_)
         refine BV h fun v22 a22 h => JD (ds0 := [_]) [2008] [] [true] (H2 N v1 v22 a22) (.p rfl) aq rfl ⟨rfl, tv⟩ rfl rfl (by decide) ⟨rfl, tv⟩ rfl (F7 rfl) tv ⟨(fun h => by cases h), tv⟩ rfl rfl rfl ?_
         refine Ac ?_
         exact sn [(2009, 2008)] h
        ·refine Ak ?_
         exact sn [(2009, 2008)] h
  ·refine wq rfl (qm rfl (qe rfl ?_))
   obtain rfl := sj h
   refine Af (sm [(1000, 2009)] [(6, oD (.own 1000))] [(1000, .vec 3 (v6.map Al))] rfl rfl) (As ?_)
   exact ⟨⟨[_], tm, rfl⟩, ⟨rfl, tv⟩⟩
theorem Ja (N : Nat) (p0 : Ab) (p1 : Aa) (r : Bool) (h : DJ N p0 p1 = some r) : Ar uS 43 [.e (.agg (Ae p0)), .e (.agg (AA p1))] [] (bD r) := by
 unfold DJ at h
 refine cw (n := 36) (rs := [.tmp 4]) Tryz.func43 fun w0 S0 => ?_
 refine wq rfl (qb rfl (qb rfl (qa rfl (Ac (wp rfl (qL Db CM rfl (qL AZ Az rfl ?_)))))))
 refine BV h fun v1 a1 h => Aw [] (GS N p0 p1 v1 a1) XQ rfl (Ci rfl (Ac ?_))
 refine Bb h (fun h => ?_) fun h => ?_
 ·refine wq rfl (qe rfl ?_)
  obtain rfl := sj h
  refine Af (sm [] [(4, bD false)] [] rfl rfl) (As ?_)
  exact ⟨⟨[_], tm, rfl⟩, tv⟩
 ·refine Ak (wp rfl (qe rfl ?_))
  refine AH (L := C7 N p0 p1) h (fun v3 => mk [(2, oD (.ptr 2 0)), (3, oD (.ptr 3 0)), (5, iD v3)] [(2, .box (Ae p0)), (3, .box (AA p1))]) (fun v4 => mk [] []) (fun _ _ => rfl) (sm [] _ _ rfl rfl) (fun j3 n3 v3 h => ?_) (fun v4 s h hs => ?_)
  ·unfold C7 at h
   refine wp rfl (qm rfl (qf Ct rfl (ql A7 rfl (AL Ay rfl (AV rfl (Ac ?_))))))
   refine Bb h (fun h => ?_) fun h => ?_
   ·refine Ak (AS (AO ?_))
    refine AR h (fun v6 => mk [(2, oD (.ptr 2 0)), (3, oD (.ptr 3 0)), (5, iD v3), (35, bD v6)] [(2, .box (Ae p0)), (3, .box (AA p1))]) (fun j6 h => ?_) (fun v6 h => ?_)
    ·refine Ah Ax rfl (qf Bo rfl (ql A7 rfl (qm rfl ?_)))
     refine B3 h fun v7 a7 b7 h => qi Ay Do a7 (Ag b7) rfl (qk Cl rfl (Fb rfl (qm rfl ?_)))
     refine Eh 23 h rfl (fun h => ?_) fun h => ?_
     ·refine qw 11 rfl (qp rfl (AM (by kernel_rfl) ?_))
      exact sn [] h
     ·refine qf Ct rfl (ql A7 rfl (qm rfl ?_))
      refine B3 h fun v9 a9 b9 h => qi Ay Do a9 (Ag b9) rfl (qk Cl rfl (qf Ig rfl (ql A7 rfl (qm rfl ?_))))
      refine B3 h fun v10 a10 b10 h => qi Ay Do a10 (Ag b10) rfl (qk Cl rfl (Ci rfl (qp rfl (AM (by kernel_rfl) ?_))))
      exact sn [] h
    ·refine Bb h (fun h => ?_) fun h => ?_
     ·refine wq rfl (qe rfl ?_)
      obtain rfl := sj h
      refine Af (sm [] [(4, bD false)] [] rfl rfl) (As ?_)
      exact ⟨⟨[_], tm, rfl⟩, tv⟩
     ·refine Ak (Ah Ax rfl (qm rfl (A4 rfl (qe rfl ?_))))
      exact sn [] h
   ·refine AT ?_
    exact sn [] h
  ·refine Af hs (wq rfl (qe rfl ?_))
   obtain rfl := sj h
   refine Af (sm [] [(4, bD true)] [] rfl rfl) (As ?_)
   exact ⟨⟨[_], tm, rfl⟩, tv⟩
theorem Le (N : Nat) (p0 : Ab) (p1 : List Aa) (r : Bool) (h : D6 N p0 p1 = some r) : Ar uS 37 [.e (.agg (Ae p0)), pD (.sl (p1.map Al))] [] (bD r) := by
 unfold D6 at h
 refine cw (n := 120) (rs := [.tmp 4]) Tryz.func37 fun w0 S0 => ?_
 refine wq rfl (qb rfl (qa rfl (Ac (wq rfl (qL Db CM rfl ?_)))))
 refine BV h fun v1 a1 h => Aw [2001, 2002, 2003] (IL N p0 v1 a1) Z6 rfl (qm rfl (qx rfl (qx rfl (qz B1 rfl (qs Az rfl (qa rfl (Ac (wp rfl (qm rfl (Ci rfl (Ac ?_)))))))))))
 refine Bb h (fun h => ?_) fun h => ?_
 ·refine wq rfl (qe rfl ?_)
  obtain rfl := sj h
  refine Af (sm [] [(4, bD false)] [] rfl rfl) (As ?_)
  exact ⟨⟨[_], tm, rfl⟩, tv⟩
 ·refine Ak (wp rfl (qL Db CM rfl (qL AZ Az rfl ?_)))
  refine BV h fun v3 a3 h => CP [] [2001, 2002, 2003] (El N p0 v1.1 v3 a3) Vw BA rfl (Cm rfl (Ac ?_))
  refine Bb h (fun h => ?_) fun h => ?_
  ·refine wq rfl (qm rfl (AL A0 rfl (BY rfl (qe rfl ?_))))
   obtain rfl := sj h
   refine Af (sm [] [(4, bD (((p1.length : Int) == 0)))] [] rfl rfl) (As ?_)
   exact ⟨⟨[_], tm, rfl⟩, tv⟩
  ·refine Ak (wp rfl (qe rfl ?_))
   refine AH (L := B5 N p0 p1) h (fun v5 => mk [(1, pD (.sl (p1.map Al))), (2, oD (.ptr 2 0)), (5, oD (.ptr 5 0)), (7, iD v5)] [(2, .box (Ae p0)), (5, .box [.own 2004, .own 2005, .own 2006]), (2004, .vec 1 (v1.1.fd.map Ao)), (2005, .vec 1 (v1.1.fa.map Ao)), (2006, .vec 1 (v1.1.fc.map CF))]) (fun v6 => mk [(1, pD (.sl (p1.map Al))), (5, oD (.ptr 5 0))] [(5, .box [.own 2007, .own 2008, .own 2009]), (2007, .vec 1 (v1.1.fd.map Ao)), (2008, .vec 1 (v1.1.fa.map Ao)), (2009, .vec 1 (v1.1.fc.map CF))]) (fun _ _ => rfl) (sm [(2004, 2001), (2005, 2002), (2006, 2003)] _ _ rfl rfl) (fun j5 n5 v5 h => ?_) (fun v6 s h hs => ?_)
   ·unfold B5 at h
    refine wp rfl (qw 2 rfl (AL A0 rfl (AV rfl (Ac ?_))))
    refine Bb h (fun h => ?_) fun h => ?_
    ·refine Ak (AS (AO (AS ?_)))
     refine AR h (fun v8 => mk [(1, pD (.sl (p1.map Al))), (2, oD (.ptr 2 0)), (5, oD (.ptr 5 0)), (7, iD v5), (50, bD v8)] [(2, .box (Ae p0)), (5, .box [.own 2010, .own 2011, .own 2012]), (2010, .vec 1 (v1.1.fd.map Ao)), (2011, .vec 1 (v1.1.fa.map Ao)), (2012, .vec 1 (v1.1.fc.map CF))]) (fun j8 h => ?_) (fun v8 h => ?_)
     ·refine Ah Ax rfl (qm rfl (FW rfl (qm rfl ?_)))
      refine Eh 38 h rfl (fun h => ?_) fun h => ?_
      ·refine qw 2 rfl (Lr rfl ?_)
       refine B3 h fun v10 a10 b10 h => qi A0 Az a10 (Ag b10) rfl (qK AZ Az rfl (qw 2 rfl ?_))
       refine B3 h fun v11 a11 b11 h => qi A0 Az a11 (Ag b11) rfl (qK AZ Az rfl ?_)
       refine BV h fun v12 a12 h => Aw [] (ED N v10 v11 v12 a12) Ur rfl (Fb rfl (qp rfl (AM (by kernel_rfl) ?_)))
       exact sn [(2010, 2004), (2011, 2005), (2012, 2006)] h
      ·refine qw 11 rfl (qp rfl (AM (by kernel_rfl) ?_))
       exact sn [(2010, 2004), (2011, 2005), (2012, 2006)] h
     ·refine Bb h (fun h => ?_) fun h => ?_
      ·refine wq rfl (qe rfl ?_)
       obtain rfl := sj h
       refine Af (sm [] [(4, bD false)] [] rfl rfl) (As ?_)
       exact ⟨⟨[_], tm, rfl⟩, tv⟩
      ·refine Ak (AS ?_)
       refine AR h (fun v14 => mk [(1, pD (.sl (p1.map Al))), (2, oD (.ptr 2 0)), (5, oD (.ptr 5 0)), (7, iD v5), (74, bD v14)] [(2, .box (Ae p0)), (5, .box [.own 2013, .own 2014, .own 2015]), (2013, .vec 1 (v1.1.fd.map Ao)), (2014, .vec 1 (v1.1.fa.map Ao)), (2015, .vec 1 (v1.1.fc.map CF))]) (fun j14 h => ?_) (fun v14 h => ?_)
       ·refine Ah Ax rfl (qL Db CM rfl (qw 2 rfl ?_))
        refine B3 h fun v15 a15 b15 h => qi A0 Az a15 (Ag b15) rfl (qK AZ Az rfl ?_)
        refine BV h fun v16 a16 h => Aw [] (GS N p0 v15 v16 a16) XQ rfl (Ci rfl (qm rfl ?_))
        refine Eh 58 h rfl (fun h => ?_) fun h => ?_
        ·refine qw 7 rfl (qp rfl (qw 7 rfl (qp rfl (AM (by kernel_rfl) ?_))))
         exact sn [(2013, 2010), (2014, 2011), (2015, 2012)] h
        ·refine qL Db CM rfl (qw 2 rfl ?_)
         refine B3 h fun v18 a18 b18 h => qi A0 Az a18 (Ag b18) rfl (qK AZ Az rfl ?_)
         refine BV h fun v19 a19 h => Aw [] (El N p0 v18 v19 a19) Vw rfl (Cm rfl (qp rfl (qm rfl ?_)))
         refine Eh 67 h rfl (fun h => ?_) fun h => ?_
         ·refine qw 6 rfl (qp rfl (AM (by kernel_rfl) ?_))
          exact sn [(2013, 2010), (2014, 2011), (2015, 2012)] h
         ·refine qL Db CM rfl (qw 2 rfl ?_)
          refine B3 h fun v21 a21 b21 h => qi A0 Az a21 (Ag b21) rfl (qK AZ Az rfl ?_)
          refine BV h fun v22 a22 h => Aw [] (Ja N p0 v21 v22 a22) Zm rfl (qp rfl (AM (by kernel_rfl) ?_))
          exact sn [(2013, 2010), (2014, 2011), (2015, 2012)] h
       ·refine Bb h (fun h => ?_) fun h => ?_
        ·refine wq rfl (qe rfl ?_)
         obtain rfl := sj h
         refine Af (sm [] [(4, bD false)] [] rfl rfl) (As ?_)
         exact ⟨⟨[_], tm, rfl⟩, tv⟩
        ·refine Ak (wq rfl (qL Db CM rfl (qw 2 rfl ?_)))
         refine B3 h fun v24 a24 b24 h => qi A0 Az a24 (Ag b24) rfl (qK AZ Az rfl ?_)
         refine BV h fun v25 a25 h => Aw [2016] (IK N p0 v24 v25 a25) Z1 rfl (qa rfl (AM (by kernel_rfl) (wq rfl (qe rfl ?_))))
         refine AH (L := BR N p0 p1 v5 v25) h (fun v26 => mk [(1, pD (.sl (p1.map Al))), (2, oD (.ptr 2 0)), (5, oD (.ptr 5 0)), (7, iD v5), (8, oD (.own 2020)), (9, iD v26)] [(2, .box (Ae p0)), (5, .box [.own 2017, .own 2018, .own 2019]), (2017, .vec 1 (v1.1.fd.map Ao)), (2018, .vec 1 (v1.1.fa.map Ao)), (2019, .vec 1 (v1.1.fc.map CF)), (2020, .vec 3 (v25.map AP))]) (fun v27 => mk [(1, pD (.sl (p1.map Al))), (2, oD (.ptr 2 0)), (5, oD (.ptr 5 0)), (7, iD v5)] [(2, .box (Ae p0)), (5, .box [.own 2021, .own 2022, .own 2023]), (2021, .vec 1 (v1.1.fd.map Ao)), (2022, .vec 1 (v1.1.fa.map Ao)), (2023, .vec 1 (v1.1.fc.map CF))]) (fun _ _ => rfl) (sm [(2017, 2013), (2018, 2014), (2019, 2015), (2020, 2016)] _ _ rfl rfl) (fun j26 n26 v26 h => ?_) (fun v27 s h hs => ?_)
         ·unfold BR at h
          refine wp rfl (qw 2 rfl (D1 E8 rfl (AV rfl (Ac ?_))))
          refine Bb h (fun h => ?_) fun h => ?_
          ·refine Ak (AS (AO (wq rfl (qL Db CM rfl (qw 2 rfl ?_)))))
           refine B3 h fun v29 a29 b29 h => qi A0 Az a29 (Ag b29) rfl (qK AZ Az rfl (qw 2 rfl ?_))
           refine B3 h fun v30 a30 b30 h => qI E8 E2 a30 (Ag b30) rfl (qJ IA E2 (Ag b30) rfl ?_)
           refine BV h fun v31 a31 h => Aw [2024, 2025, 2026] (GV N p0 v29 v30 v31 a31) XL rfl (qm rfl (qx rfl (qx rfl (qz B1 rfl (qs Az rfl (qa rfl (AM (by kernel_rfl) (wq rfl (qm rfl (qL AZ Az rfl ?_))))))))))
           refine BV h fun v32 a32 h => CP [] [2024, 2025, 2026] (G1 N p1 v31.1 v32 a32) X6 BA rfl (qm rfl (qx rfl (qx rfl (qa rfl (qe rfl ?_)))))
           refine AR h (fun v33 => mk [(1, pD (.sl (p1.map Al))), (2, oD (.ptr 2 0)), (5, oD (.ptr 5 0)), (7, iD v5), (8, oD (.own 2030)), (9, iD v26), (112, bD v33)] [(2, .box (Ae p0)), (5, .box [.own 2027, .own 2028, .own 2029]), (2027, .vec 1 (v1.1.fd.map Ao)), (2028, .vec 1 (v1.1.fa.map Ao)), (2029, .vec 1 (v1.1.fc.map CF)), (2030, .vec 3 (v25.map AP))]) (fun j33 h => ?_) (fun v33 h => ?_)
           ·refine Ah Ax rfl (qm rfl (Cm rfl (qm rfl ?_)))
            refine Eh 108 h rfl (fun h => ?_) fun h => ?_
            ·refine qL Db CM rfl (qL AZ Az rfl ?_)
             refine BV h fun v35 a35 h => CP [] [2024, 2025, 2026] (El N p0 v31.1 v35 a35) Vw BA rfl (qp rfl (Ac ?_))
             exact sn [(2027, 2017), (2028, 2018), (2029, 2019), (2030, 2020)] h
            ·refine qw 3 rfl (qp rfl (Ac ?_))
             exact sn [(2027, 2017), (2028, 2018), (2029, 2019), (2030, 2020)] h
           ·refine Bb h (fun h => ?_) fun h => ?_
            ·refine wq rfl (qe rfl ?_)
             obtain rfl := sj h
             refine Af (sm [] [(4, bD false)] [] rfl rfl) (As ?_)
             exact ⟨⟨[_], tm, rfl⟩, tv⟩
            ·refine Ak (Ah Ax rfl (qm rfl (A4 rfl (qe rfl ?_))))
             exact sn [(2017, 2027), (2018, 2028), (2019, 2029), (2020, 2030)] h
          ·refine AT ?_
           exact sn [(2021, 2017), (2022, 2018), (2023, 2019)] h
         ·refine Af hs (Ah Ax rfl (qm rfl (A4 rfl (qe rfl ?_))))
          exact sn [(2004, 2021), (2005, 2022), (2006, 2023)] h
    ·refine AT ?_
     exact sn [(2007, 2004), (2008, 2005), (2009, 2006)] h
   ·refine Af hs (wq rfl (qm rfl (qL AZ Az rfl ?_)))
    refine BV h fun v37 a37 h => CP [] [2007, 2008, 2009] (G1 N p1 v1.1 v37 a37) X6 BA rfl (qm rfl (qx rfl (qx rfl (qa rfl (qa rfl (Ac (wq rfl (qm rfl (qe rfl ?_)))))))))
    obtain rfl := sj h
    refine Af (sm [] [(4, bD v37.2)] [] rfl rfl) (As ?_)
    exact ⟨⟨[_], tm, rfl⟩, tv⟩
theorem IS (N : Nat) (p0 : Aa) (p1 : List Int) (p2 : List Int) (p3 : List Int) (r : Bool) (h : B7 N p0 p1 p2 p3 = some r) : Ar uS 38 [.e (.agg (AA p0)), oD (.rop [.sl (p1.map Ao), .sl (p2.map Ao), .sl (p3.map CF)])] [] (bD r) := by
 unfold B7 at h
 refine cw (n := 7) (rs := [.tmp 3]) Tryz.func38 fun w0 S0 => ?_
 refine wq rfl (qb rfl (qa rfl (Ac (wq rfl (qL AZ Az rfl (qK AZ Az rfl ?_))))))
 refine BV h fun v1 a1 h => Aw [] (GT N p0 ((Aa.mk p1 p2 p3)) v1 a1) Yy rfl (qe rfl ?_)
 obtain rfl := sj h
 refine Af (sm [] [(3, bD v1)] [] rfl rfl) (As ?_)
 exact ⟨⟨[_], tm, rfl⟩, tv⟩
theorem KB (N : Nat) (p0 : Ab) (p1 : List Aa) (r : Bool) (h : Da N p0 p1 = some r) : Ar uS 13 [.e (.agg (Ae p0)), pD (.sl (p1.map Al))] [] (bD r) := by
 unfold Da at h
 refine cw (n := 18) (rs := [.tmp 4]) Tryz.func13 fun w0 S0 => ?_
 refine wq rfl (qb rfl (qa rfl (Ac (wp rfl (qe rfl ?_)))))
 refine AH (L := C3 N p0 p1) h (fun v1 => mk [(1, pD (.sl (p1.map Al))), (2, oD (.ptr 2 0)), (5, iD v1)] [(2, .box (Ae p0))]) (fun v2 => mk [] []) (fun _ _ => rfl) (sm [] _ _ rfl rfl) (fun j1 n1 v1 h => ?_) (fun v2 s h hs => ?_)
 ·unfold C3 at h
  refine wp rfl (qw 2 rfl (AL A0 rfl (AV rfl (Ac ?_))))
  refine Bb h (fun h => ?_) fun h => ?_
  ·refine Ak (AS (AO (wq rfl (qL Db CM rfl (qw 2 rfl ?_)))))
   refine B3 h fun v4 a4 b4 h => qi A0 Az a4 (Ag b4) rfl (qK AZ Az rfl ?_)
   refine BV h fun v5 a5 h => Aw [] (Ja N p0 v4 v5 a5) Zm rfl (AM (by kernel_rfl) ?_)
   refine Bb h (fun h => ?_) fun h => ?_
   ·refine wq rfl (qe rfl ?_)
    obtain rfl := sj h
    refine Af (sm [] [(4, bD true)] [] rfl rfl) (As ?_)
    exact ⟨⟨[_], tm, rfl⟩, tv⟩
   ·refine Ak (Ah Ax rfl (qm rfl (A4 rfl (qe rfl ?_))))
    exact sn [] h
  ·refine AT ?_
   exact sn [] h
 ·refine Af hs (wq rfl (qe rfl ?_))
  obtain rfl := sj h
  refine Af (sm [] [(4, bD false)] [] rfl rfl) (As ?_)
  exact ⟨⟨[_], tm, rfl⟩, tv⟩
theorem Jt (N : Nat) (p0 : BN) (p1 : B4) (r : Bool) (h : CQ N p0 p1 = some r) : Ar uS 9 [.e (.agg (CZ p0)), .e (.agg (Gt p1))] [] (bD r) := by
 unfold CQ at h
 refine cw (n := 59) (rs := [.tmp 4]) Tryz.func9 fun w0 S0 => ?_
 refine wq rfl (qb rfl (qb rfl (qa rfl (Ac (wq rfl (qL ZS Za rfl ?_))))))
 refine BV h fun v1 a1 h => Aw [2001] (Ld N p0 v1 a1) au rfl (qm rfl (qx rfl (qx rfl (qx rfl (qz R4 rfl (qs CM rfl (qa rfl (qa rfl (Ac (AS ?_))))))))))
 refine AR h (fun v2 => mk [(3, oD (.ptr 3 0)), (5, oD (.ptr 5 0)), (6, oD (.own 2002)), (23, bD v2)] [(3, .box (Gt p1)), (5, .box (Ae v1.1)), (2002, .vec 3 (v1.2.1.map Al))]) (fun j2 h => ?_) (fun v2 h => ?_)
 ·refine Ah Ax rfl ?_
  refine BV h fun v3 a3 h => Aw [] (IE N v3 a3) Zx rfl (Cm rfl (qm rfl ?_))
  refine Eh 20 h rfl (fun h => ?_) fun h => ?_
  ·refine qw 2 rfl (qp rfl (Ac ?_))
   exact sn [(2002, 2001)] h
  ·refine qm rfl (Cm rfl (qp rfl (Ac ?_)))
   exact sn [(2002, 2001)] h
 ·refine Bb h (fun h => ?_) fun h => ?_
  ·refine wq rfl ?_
   refine BV h fun v6 a6 h => Aw [] (IE N v6 a6) Zx rfl (qe rfl ?_)
   obtain rfl := sj h
   refine Af (sm [] [(4, bD v6)] [] rfl rfl) (As ?_)
   exact ⟨⟨[_], tm, rfl⟩, tv⟩
  ·refine Ak (wq rfl (qL Db CM rfl (qm rfl (qL aA bk rfl (CX (AU 2002 _ _ rfl rfl) ?_)))))
   refine BV h fun v7 a7 h => Aw [2003] (Kx N v1.1 v1.2.1 ((B4.mk p1.ff p1.fB ((By.mk p1.fr.fd p1.fr.fa p1.fr.fc)))) v7 a7) ag rfl (qa rfl (Ac (wq rfl (qL Db CM rfl (qm rfl ?_)))))
   refine BV h fun v8 a8 h => CP [] [2003] (H3 N v1.1 v7 v8 a8) WE BA rfl (qa rfl (Ac (wp rfl (qm rfl (qL Db CM rfl (qm rfl ?_))))))
   refine BV h fun v9 a9 h => CP [] [2003] (Le N v1.1 v7 v9 a9) bd BA rfl ?_
   refine II (.p rfl) rfl rfl (VS _ _ _ _ bH) rfl ?_
   refine Ac ?_
   refine Bb h (fun h => ?_) fun h => ?_
   ·refine wq rfl (qe rfl ?_)
    obtain rfl := sj h
    refine Af (sm [] [(4, bD false)] [] rfl rfl) (As ?_)
    exact ⟨⟨[_], tm, rfl⟩, tv⟩
   ·refine Ak (wp rfl (qm rfl (AL A0 rfl (qm rfl (Ac ?_)))))
    refine AH (L := BO N v1 v7 v8) h (fun v11 => mk [(5, oD (.ptr 5 0)), (6, pD (.sl (v1.2.1.map Al))), (8, oD (.own 2004)), (9, bD v8), (37, pD (.sl (v1.2.1.map Al))), (38, iD ((v1.2.1.length : Int))), (39, iD v11)] [(5, .box (Ae v1.1)), (2004, .vec 3 (v7.map Al))]) (fun v12 => mk [(5, oD (.ptr 5 0)), (6, pD (.sl (v1.2.1.map Al))), (9, bD v8)] [(5, .box (Ae v1.1))]) (fun _ _ => rfl) (sm [(2004, 2003)] _ _ rfl rfl) (fun j11 n11 v11 h => ?_) (fun v12 s h hs => ?_)
    ·unfold BO at h
     refine wq rfl (AV rfl (Ac (AS ?_)))
     refine Bb h (fun h => ?_) fun h => ?_
     ·refine Ak (AS (AO (wq rfl ?_)))
      refine B3 h fun v14 a14 b14 h => qi A0 Az a14 (Ag b14) rfl (qK AZ Az rfl (qz B1 rfl (qs Az rfl (Ac ?_))))
      refine AR h (fun v15 => mk [(5, oD (.ptr 5 0)), (6, pD (.sl (v1.2.1.map Al))), (8, oD (.own 2005)), (9, bD v8), (37, pD (.sl (v1.2.1.map Al))), (38, iD ((v1.2.1.length : Int))), (39, iD v11), (49, bD v15)] [(5, .box (Ae v1.1)), (2005, .vec 3 (v7.map Al))]) (fun j15 h => ?_) (fun v15 h => ?_)
      ·refine Ah Ax rfl (qw 2 rfl ?_)
       refine Eh 44 h rfl (fun h => ?_) fun h => ?_
       ·refine qm rfl (CX (K0 11 [.sl (v14.fd.map Ao), .sl (v14.fa.map Ao), .sl (v14.fc.map CF)] rfl rfl) ?_)
        refine Kj (capD := [_]) (HT (M1 true Al) tB ((fun (x : Aa) => B7 N x v14.fd v14.fa v14.fc))) (.g rfl rfl) aT rfl ⟨rfl, tv⟩ rfl (fun ar t ht => by obtain ⟨x, r, rfl, hq, rfl⟩ := GI ht; exact IS N x v14.fd v14.fa v14.fc r hq) ?_
        refine BV h fun v17 a17 h => CP [] [2004] (EY N v7 ((fun (x : Aa) => B7 N x v14.fd v14.fa v14.fc)) v17 a17) Zj BA rfl (Cm rfl (qp rfl (Ac ?_)))
        exact sn [(2005, 2004)] h
       ·refine qw 4 rfl (qp rfl (Ac ?_))
        exact sn [(2005, 2004)] h
      ·refine Bb h (fun h => ?_) fun h => ?_
       ·refine wq rfl (qe rfl ?_)
        obtain rfl := sj h
        refine Af (sm [] [(4, bD false)] [] rfl rfl) (As ?_)
        exact ⟨⟨[_], tm, rfl⟩, tv⟩
       ·refine Ak (Ah Ax rfl (A4 rfl (qm rfl (Ac ?_))))
        exact sn [(2004, 2005)] h
     ·refine AT ?_
      exact sn [] h
    ·refine Af hs ?_
     refine AR h (fun v19 => mk [(4, bD v19)] []) (fun j19 h => ?_) (fun v19 h => ?_)
     ·refine Ah Ax rfl (qm rfl (Cm rfl (qm rfl ?_)))
      refine Eh 53 h rfl (fun h => ?_) fun h => ?_
      ·refine qw 4 rfl (qp rfl (qe rfl ?_))
       exact sn [] h
      ·refine qL Db CM rfl (qm rfl ?_)
       refine BV h fun v21 a21 h => Aw [] (KB N v1.1 v1.2.1 v21 a21) bv rfl (Cm rfl (qp rfl (qe rfl ?_)))
       exact sn [] h
     ·obtain rfl := sj h
      refine Af (sm [] [(4, bD v19)] [] rfl rfl) (As ?_)
      exact ⟨⟨[_], tm, rfl⟩, tv⟩
end Go.Lift
