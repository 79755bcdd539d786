/- Lemmas for CoreCertificateCardSaid, which YtbfklmmnpdifaaaGreatDoorFinC8 proves. -/
import Derived.Test.YtbfklmmnpdifaaaGreatDoorCode4
open List renaming length_map → zA8
open Go.Proofs.Tryz renaming prog → zA0
namespace Go.Lift
set_option maxRecDepth 10000
open Go.RowKit
open Go.Proofs
theorem L8 (N : Nat) (p0 : Aa) (p1 : Int) (r : (List Ab) × Bool) (h : CT N p0 p1 = some r) : An zA0 32 [.e (.agg (Ah p0)), iD p1] [(3, r.1.map AV)] (.tup [.one (.own 0), .one (.pure (.val (.bool r.2)))]) := by
 unfold CT at h
 refine cw (n := 95) (rs := [.tmp 4, .tmp 5]) Tryz.func32 fun w0 S0 => ?_
 refine wq rfl (qb rfl (qa rfl (qa rfl (Ac (wq rfl (qL CO BU rfl ?_))))))
 refine BD h fun v1 a1 h => Aw [2001, 2002, 2003] (Jz N p0 v1 a1) cg rfl (qm rfl (qx rfl (qx rfl (qz DG rfl (qs AW rfl (qa rfl (Ac (wp rfl (qL CO BU rfl (qL Bn AW rfl ?_))))))))))
 refine BD h fun v2 a2 h => Df [] [2001, 2002, 2003] (Fm N p0 v1.1 v2 a2) ZV BO rfl (Cp rfl (Ac ?_))
 refine Ba h (fun h => ?_) fun h => ?_
 ·refine wq rfl (qa rfl (qe rfl ?_))
  obtain rfl := sj h
  refine Ae ((A9 4 2004 3 rfl rfl rfl).trans (sm [(1000, 2004)] [(4, oD (.own 1000)), (5, bD true)] [(1000, .vec 3 ((([] : List Ab)).map AV))] rfl rfl)) (Ar ?_)
  exact ⟨⟨[_, _], ⟨.tmp _ _ rfl, tm⟩, rfl⟩, ⟨rfl, tv⟩⟩
 ·refine Ai (wq rfl (qL Bn AW rfl (CE (A4 2001 _ _ rfl rfl) (CE (A4 2002 _ _ rfl rfl) (CE (A4 2003 _ _ rfl rfl) (Dg D4 AW DG rfl (qa rfl (Ac (wq rfl (qL Bn AW rfl (Dg D4 AW DG rfl (qa rfl (Ac (wp rfl (qe rfl ?_)))))))))))))))
  refine AC (L := CN N p0 p1) h (fun v4 => mk [(1, iD p1), (2, oD (.ptr 2 0)), (8, oD (.own 2005)), (9, oD (.own 2006)), (10, iD v4.2.2)] [(2, .box (Ah p0)), (2005, .vec 3 (v4.1.map AV)), (2006, .vec 3 (v4.2.1.map AV))]) (fun v5 => mk [(9, oD (.own 2007))] [(2007, .vec 3 (v5.map AV))]) (fun _ _ => rfl) (sm [(2005, 27), (2006, 29)] _ _ rfl rfl) (fun j4 n4 v4 h => ?_) (fun v5 s h hs => ?_)
  ·unfold CN at h
   refine wp rfl (qw 2 rfl (Et D4 rfl (AY rfl (Ac ?_))))
   refine Ba h (fun h => ?_) fun h => ?_
   ·refine Ai (AL (AJ (wq rfl (qL CO BU rfl (qw 2 rfl ?_)))))
    refine BJ h fun v7 a7 b7 h => qI D4 AW a7 (Af b7) rfl (qJ Bn AW (Af b7) rfl ?_)
    refine BD h fun v8 a8 h => Aw [2008] (Js N p0 v7 v8 a8) dK rfl (qa rfl (AM (by kernel_rfl) (wq rfl (qe rfl ?_))))
    refine AC (L := Cc N p0 p1 v4 v8) h (fun v9 => mk [(1, iD p1), (2, oD (.ptr 2 0)), (8, oD (.own 2009)), (9, oD (.own 2010)), (10, iD v4.2.2), (11, oD (.own 2011)), (12, iD v9.2.2)] [(2, .box (Ah p0)), (2009, .vec 3 (v9.1.map AV)), (2010, .vec 3 (v9.2.1.map AV)), (2011, .vec 3 (v8.map AG))]) (fun v10 => mk [(1, iD p1), (2, oD (.ptr 2 0)), (8, oD (.own 2012)), (9, oD (.own 2013)), (10, iD v4.2.2)] [(2, .box (Ah p0)), (2012, .vec 3 (v10.1.map AV)), (2013, .vec 3 (v10.2.map AV))]) (fun _ _ => rfl) (sm [(2009, 2005), (2010, 2006), (2011, 2008)] _ _ rfl rfl) (fun j9 n9 v9 h => ?_) (fun v10 s h hs => ?_)
    ·unfold Cc at h
     refine wp rfl (qw 2 rfl (Et EG rfl (AY rfl (Ac ?_))))
     refine Ba h (fun h => ?_) fun h => ?_
     ·refine Ai ?_
      refine AS h (fun v12 => mk [(1, iD p1), (2, oD (.ptr 2 0)), (8, oD (.own 2014)), (9, oD (.own 2015)), (10, iD v4.2.2), (11, oD (.own 2016)), (12, iD v9.2.2)] [(2, .box (Ah p0)), (2014, .vec 3 (v12.1.map AV)), (2015, .vec 3 (v12.2.map AV)), (2016, .vec 3 (v8.map AG))]) (fun j12 h => ?_) (fun v12 h => ?_)
      ·refine AJ (wq rfl (qL CO BU rfl (qw 2 rfl ?_)))
       refine BJ h fun v13 a13 b13 h => qI D4 AW a13 (Af b13) rfl (qJ Bn AW (Af b13) rfl (qw 2 rfl ?_))
       refine BJ h fun v14 a14 b14 h => qI EG EE a14 (Af b14) rfl (qJ Jk EE (Af b14) rfl ?_)
       refine BD h fun v15 a15 h => Aw [2017, 2018, 2019] (HA N p0 v13 v14 v15 a15) bE rfl (qm rfl (qx rfl (qx rfl (qz DG rfl (qs AW rfl (qa rfl (AM (by kernel_rfl) (wq rfl (qm rfl (qL Bn AW rfl ?_))))))))))
       refine BD h fun v16 a16 h => Df [] [2010, 2017, 2018, 2019] (MH N v9.2.1 v15.1 v16 a16) eP BO rfl (qm rfl (qx rfl (qx rfl (qa rfl (qa rfl (Ac (AL ?_)))))))
       refine AS h (fun v17 => mk [(1, iD p1), (2, oD (.ptr 2 0)), (8, oD (.own 2023)), (9, oD (.own 2024)), (10, iD v4.2.2), (11, oD (.own 2025)), (12, iD v9.2.2), (13, oD (.ptr 13 0)), (15, iD v16.1), (73, bD v17)] [(2, .box (Ah p0)), (13, .box [.own 2020, .own 2021, .own 2022]), (2020, .vec 1 (v15.1.fD.map Ak)), (2021, .vec 1 (v15.1.fB.map Ak)), (2022, .vec 1 (v15.1.fE.map DL)), (2023, .vec 3 (v9.1.map AV)), (2024, .vec 3 (v9.2.1.map AV)), (2025, .vec 3 (v8.map AG))]) (fun j17 h => ?_) (fun v17 h => ?_)
       ·refine Ag Av rfl (qw 2 rfl ?_)
        refine En 68 h rfl (fun h => ?_) fun h => ?_
        ·refine qw 4 rfl (qp rfl (Ac ?_))
         exact sn [(2020, 2017), (2021, 2018), (2022, 2019), (2023, 2009), (2024, 2010), (2025, 2011)] h
        ·refine qL CO BU rfl (qL Bn AW rfl ?_)
         refine BD h fun v19 a19 h => Df [] [2017, 2018, 2019] (Fm N p0 v15.1 v19 a19) ZV BO rfl (Cp rfl (qp rfl (Ac ?_)))
         exact sn [(2020, 2017), (2021, 2018), (2022, 2019), (2023, 2009), (2024, 2010), (2025, 2011)] h
       ·refine Ba h (fun h => ?_) fun h => ?_
        ·refine AU ?_
         exact sn [(2014, 2023), (2015, 2024), (2016, 2025)] h
        ·refine Ai (wq rfl (qm rfl (qL Bn AW rfl (CE (A4 2020 _ _ rfl rfl) (CE (A4 2021 _ _ rfl rfl) (CE (A4 2022 _ _ rfl rfl) (Dg D4 AW DG rfl ?_)))))))
         refine FD h fun c21 h => Cu (f := AV) D4 D4 AW Ro DG c21 rfl (qa rfl (Ac (AL (Ae (A4 2024 _ _ rfl rfl) (Ag Av rfl (Dg D4 AW DG rfl (qw 2 rfl ?_)))))))
         refine FD h fun c22 h => V1 (.p rfl) rfl D4 AW (ND (f := AV) (n := 3) (fun _ => rfl) _) (.none _) (.some _ _ _ _ c22.1) tv ⟨rfl, tv⟩ (by have := c22.2.1; (try simp only [zA8]); omega) (by have := c22.2.2; (try simp only [zA8]); omega) (TV AV v9.2.1 _ _ ((v16.1).toNat - 0) rfl) ?_
         refine FD h fun c23 h => IC (f := AV) D4 D4 AW Ro DG (fun _ => rfl) c23 rfl (qL Bn AW rfl (Dg D4 AW DG rfl ?_))
         refine FD h fun c24 h => Cu (f := AV) D4 D4 AW Ro DG c24 rfl (qw 2 rfl ?_)
         refine FD h fun c25 h => V1 (.p rfl) rfl D4 AW (ND (f := AV) (n := 3) (fun _ => rfl) _) (.some _ _ _ _ c25.1) (.none _) ⟨rfl, tv⟩ tv (by have := c25.2.1; (try simp only [zA8]); omega) (by have := c25.2.2; (try simp only [zA8]); omega) (TV AV v9.2.1 _ _ (v9.2.1.length - (v16.1).toNat) (by rw [zA8])) ?_
         refine FD h fun c26 h => IC (f := AV) D4 D4 AW Ro DG (fun _ => rfl) c26 rfl (qa rfl (AM (by kernel_rfl) (wq rfl (qm rfl (Et D4 rfl (qm rfl (Gg rfl (Ac ?_))))))))
         refine Ba h (fun h => ?_) fun h => ?_
         ·refine wq rfl (qa rfl (qe rfl ?_))
          obtain rfl := sj h
          refine Ae ((A9 4 2026 3 rfl rfl rfl).trans (sm [(1000, 2026)] [(4, oD (.own 1000)), (5, bD false)] [(1000, .vec 3 ((([] : List Ab)).map AV))] rfl rfl)) (Ar ?_)
          exact ⟨⟨[_, _], ⟨.tmp _ _ rfl, tm⟩, rfl⟩, ⟨rfl, tv⟩⟩
         ·refine Ai ?_
          exact sn [(2014, 77), (2015, 89), (2016, 2025)] h
      ·refine Ag Av rfl (qm rfl (A0 rfl (qe rfl ?_)))
       exact sn [(2009, 2014), (2010, 2015), (2011, 2016)] h
     ·refine AU ?_
      exact sn [(2012, 2009), (2013, 2010)] h
    ·refine Ae hs (Ag Av rfl (qm rfl (A0 rfl (qe rfl ?_))))
     exact sn [(2005, 2012), (2006, 2013)] h
   ·refine AU ?_
    exact sn [(2007, 2006)] h
  ·refine Ae hs (wq rfl (qm rfl (qa rfl (qe rfl ?_))))
   obtain rfl := sj h
   refine Ae (sm [(1000, 2007)] [(4, oD (.own 1000)), (5, bD true)] [(1000, .vec 3 (v5.map AV))] rfl rfl) (Ar ?_)
   exact ⟨⟨[_, _], ⟨.tmp _ _ rfl, tm⟩, rfl⟩, ⟨rfl, tv⟩⟩
theorem Jy (N : Nat) (p0 : Int) (r : Bool) (h : EX N p0 = some r) : An zA0 175 [pD (.val (.int .u8 p0))] [] (bD r) := by
 unfold EX at h
 refine cw (n := 6) (rs := [.tmp 2]) Tryz.func175 fun w0 S0 => ?_
 refine wq rfl (qa rfl (Ac (wq rfl (qw 2 rfl (BA rfl (qe rfl ?_))))))
 obtain rfl := sj h
 refine Ae (sm [] [(2, bD ((p0 != p0)))] [] rfl rfl) (Ar ?_)
 exact ⟨⟨[_], tm, rfl⟩, tv⟩
theorem LG (N : Nat) (p0 : Int) (p1 : Int) (r : Int) (h : Er N p0 p1 = some r) : An zA0 155 [pD (.val (.int .u8 p0)), pD (.val (.int .u8 p1))] [] (iD r) := by
 unfold Er at h
 refine cw (n := 20) (rs := [.tmp 4]) Tryz.func155 fun w0 S0 => ?_
 refine wq rfl (qa rfl (Ac (wq rfl (qm rfl ?_))))
 refine BD h fun v1 a1 h => Aw [] (Jy N p0 v1 a1) aa rfl (qa rfl (Ac (wq rfl (qm rfl ?_))))
 refine BD h fun v2 a2 h => Aw [] (Jy N p1 v2 a2) aa rfl (qa rfl (Ac (wp rfl (qm rfl (Ac ?_)))))
 refine Ba h (fun h => ?_) fun h => ?_
 ·refine wp rfl (qm rfl (Ac ?_))
  refine Ba h (fun h => ?_) fun h => ?_
  ·refine wq rfl (qe rfl ?_)
   obtain rfl := sj h
   refine Ae (sm [] [(4, iD 0)] [] rfl rfl) (Ar ?_)
   exact ⟨⟨[_], tm, rfl⟩, tv⟩
  ·refine Ai (wq rfl (qe rfl ?_))
   obtain rfl := sj h
   refine Ae (sm [] [(4, iD ((-1)))] [] rfl rfl) (Ar ?_)
   exact ⟨⟨[_], tm, rfl⟩, tv⟩
 ·refine Ai (wp rfl (qm rfl (Ac ?_)))
  refine Ba h (fun h => ?_) fun h => ?_
  ·refine wq rfl (qe rfl ?_)
   obtain rfl := sj h
   refine Ae (sm [] [(4, iD 1)] [] rfl rfl) (Ar ?_)
   exact ⟨⟨[_], tm, rfl⟩, tv⟩
  ·refine Ai (wp rfl (qw 2 rfl (AY rfl (Ac ?_))))
   refine Ba h (fun h => ?_) fun h => ?_
   ·refine wq rfl (qe rfl ?_)
    obtain rfl := sj h
    refine Ae (sm [] [(4, iD ((-1)))] [] rfl rfl) (Ar ?_)
    exact ⟨⟨[_], tm, rfl⟩, tv⟩
   ·refine Ai (wp rfl (qw 2 rfl (Gg rfl (Ac ?_))))
    refine Ba h (fun h => ?_) fun h => ?_
    ·refine wq rfl (qe rfl ?_)
     obtain rfl := sj h
     refine Ae (sm [] [(4, iD 1)] [] rfl rfl) (Ar ?_)
     exact ⟨⟨[_], tm, rfl⟩, tv⟩
    ·refine Ai (wq rfl (qe rfl ?_))
     obtain rfl := sj h
     refine Ae (sm [] [(4, iD 0)] [] rfl rfl) (Ar ?_)
     exact ⟨⟨[_], tm, rfl⟩, tv⟩
theorem Io (N : Nat) (p0 : List Int) (p1 : List Int) (r : Int) (h : Cs N p0 p1 = some r) : An zA0 119 [pD (.sl (p0.map DL)), pD (.sl (p1.map DL))] [] (iD r) := by
 unfold Cs at h
 refine cw (n := 36) (rs := [.tmp 4]) Tryz.func119 fun w0 S0 => ?_
 refine wq rfl (qa rfl (Ac (wp rfl (qm rfl (AI DB rfl (qm rfl (Ac ?_)))))))
 refine AC (L := By N p0 p1) h (fun v1 => mk [(0, pD (.sl (p0.map DL))), (1, pD (.sl (p1.map DL))), (9, pD (.sl (p0.map DL))), (10, iD ((p0.length : Int))), (11, iD v1)] []) (fun v2 => mk [(0, pD (.sl (p0.map DL))), (1, pD (.sl (p1.map DL)))] []) (fun _ _ => rfl) (sm [] _ _ rfl rfl) (fun j1 n1 v1 h => ?_) (fun v2 s h hs => ?_)
 ·unfold By at h
  refine wq rfl (AY rfl (Ac (AL ?_)))
  refine Ba h (fun h => ?_) fun h => ?_
  ·refine Ai (AL (AJ (wq rfl (qm rfl ?_))))
   refine BJ h fun v4 a4 b4 h => qi DB EA a4 (Af b4) rfl (qk Iy rfl (qa rfl (qa rfl (Ac (wp rfl (qw 2 rfl (AI DB rfl (EF rfl (Ac ?_)))))))))
   refine Ba h (fun h => ?_) fun h => ?_
   ·refine wq rfl (qe rfl ?_)
    obtain rfl := sj h
    refine Ae (sm [] [(4, iD 1)] [] rfl rfl) (Ar ?_)
    exact ⟨⟨[_], tm, rfl⟩, tv⟩
   ·refine Ai (wq rfl (qw 2 rfl ?_))
    refine BJ h fun v6 a6 b6 h => qi DB EA a6 (Af b6) rfl (qk Iy rfl (qa rfl (Ac (wq rfl (qw 2 rfl ?_)))))
    refine BD h fun v7 a7 h => Aw [] (LG N v4 v6 v7 a7) dj rfl (qa rfl (Ac (wq rfl (qm rfl (BA rfl (Ac ?_))))))
    refine Ba h (fun h => ?_) fun h => ?_
    ·refine wq rfl (qm rfl (qe rfl ?_))
     obtain rfl := sj h
     refine Ae (sm [] [(4, iD v7)] [] rfl rfl) (Ar ?_)
     exact ⟨⟨[_], tm, rfl⟩, tv⟩
    ·refine Ai (Ag Av rfl (A0 rfl (qm rfl (Ac ?_))))
     exact sn [] h
  ·refine AU ?_
   exact sn [] h
 ·refine Ae hs (wp rfl (qm rfl (AI DB rfl (qm rfl (AI DB rfl (AY rfl (Ac ?_)))))))
  refine Ba h (fun h => ?_) fun h => ?_
  ·refine wq rfl (qe rfl ?_)
   obtain rfl := sj h
   refine Ae (sm [] [(4, iD ((-1)))] [] rfl rfl) (Ar ?_)
   exact ⟨⟨[_], tm, rfl⟩, tv⟩
  ·refine Ai (wq rfl (qe rfl ?_))
   obtain rfl := sj h
   refine Ae (sm [] [(4, iD 0)] [] rfl rfl) (Ar ?_)
   exact ⟨⟨[_], tm, rfl⟩, tv⟩
theorem R6 (N : Nat) (p0 : List Int) (r : Int) (h : HK N p0 = some r) : An zA0 118 [pD (.sl (p0.map Ak))] [] (iD r) := by
 unfold HK at h
 refine cw (n := 18) (rs := [.tmp 2]) Tryz.func118 fun w0 S0 => ?_
 refine wq rfl (qa rfl (Ac (wq rfl (qa rfl (Ac (wp rfl (qm rfl (AI Au rfl (qm rfl (Ac ?_))))))))))
 refine AC (L := Ft N p0) h (fun v1 => mk [(3, iD 0), (6, pD (.sl (p0.map Ak))), (7, iD ((p0.length : Int))), (8, iD v1)] []) (fun v2 => mk [(3, iD 0)] []) (fun _ _ => rfl) (sm [] _ _ rfl rfl) (fun j1 n1 v1 h => ?_) (fun v2 s h hs => ?_)
 ·unfold Ft at h
  refine wq rfl (AY rfl (Ac (AL ?_)))
  refine Ba h (fun h => ?_) fun h => ?_
  ·refine Ai (AL (AJ (wq rfl ?_)))
   refine BJ h fun v4 a4 b4 h => qi Au CK a4 (Af b4) rfl (qk B1 rfl (qa rfl (Ac (wq rfl (qw 2 rfl (BA rfl (Ac ?_)))))))
   refine Ba h (fun h => ?_) fun h => ?_
   ·refine wq rfl (qm rfl (qe rfl ?_))
    obtain rfl := sj h
    refine Ae (sm [] [(2, iD v4)] [] rfl rfl) (Ar ?_)
    exact ⟨⟨[_], tm, rfl⟩, tv⟩
   ·refine Ai (Ag Av rfl (A0 rfl (qm rfl (Ac ?_))))
    exact sn [] h
  ·refine AU ?_
   exact sn [] h
 ·refine Ae hs (wq rfl (qm rfl (qe rfl ?_)))
  obtain rfl := sj h
  refine Ae (sm [] [(2, iD 0)] [] rfl rfl) (Ar ?_)
  exact ⟨⟨[_], tm, rfl⟩, tv⟩
theorem MW (N : Nat) (p0 : Ab) (p1 : Ab) (r : Int) (h : Dh N p0 p1 = some r) : An zA0 84 [.e (.agg (AE p0)), .e (.agg (AE p1))] [] (iD r) := by
 unfold Dh at h
 refine cw (n := 22) (rs := [.tmp 4]) Tryz.func84 fun w0 S0 => ?_
 refine wq rfl (qb rfl (qb rfl (qa rfl (Ac (wq rfl (qf Dd rfl (ql A7 rfl (qf Dd rfl (ql A7 rfl ?_)))))))))
 refine BD h fun v1 a1 h => Aw [] (Gd N p0.fD p1.fD v1 a1) Yf rfl (qf BK rfl (ql A7 rfl (qf BK rfl (ql A7 rfl ?_))))
 refine BD h fun v2 a2 h => Aw [] (Gd N p0.fB p1.fB v2 a2) Yf rfl (qf CW rfl (ql HO rfl (qf CW rfl (ql HO rfl ?_))))
 refine BD h fun v3 a3 h => Aw [] (Io N p0.fE p1.fE v3 a3) d8 rfl (Dg Au CK I6 rfl ?_)
 refine BD h fun v4 a4 h => Df [] [20] (R6 N (([v1, v2, v3] : List Int)) v4 a4) cm BO rfl (qa rfl (AM (by kernel_rfl) ?_))
 obtain rfl := sj h
 refine Ae (sm [] [(4, iD v4)] [] rfl rfl) (Ar ?_)
 exact ⟨⟨[_], tm, rfl⟩, tv⟩
theorem FL (N : Nat) (p0 : List Ab) (p1 : Ab) (p2 : (Ab × Ab) → Option Int) (r : Int × Bool) (h : Bw N p0 p1 p2 = some r) : An zA0 123 [pD (.sl (p0.map AV)), .e (.agg (AE p1)), oD (.clo (G7 (XH true AV true AV) N7 p2))] [] (.tup [.one (iC r.1), .one (.pure (.val (.bool r.2)))]) := by
 unfold Bw at h
 refine cw (n := 49) (rs := [.tmp 6, .tmp 7]) Tryz.func123 fun w0 S0 => ?_
 refine wq rfl (qb rfl (qa rfl (qa rfl (Ac (wq rfl (qm rfl (AI D4 rfl (qa rfl (Ac (wq rfl (qm rfl (qa rfl (qa rfl (Ac (AL ?_)))))))))))))))
 refine AC (L := AP N p0 p1 p2) h (fun v1 => mk [(0, pD (.sl (p0.map AV))), (2, oD (.clo (G7 (XH true AV true AV) N7 p2))), (4, oD (.ptr 4 0)), (8, iD ((p0.length : Int))), (9, iD v1.1), (10, iD v1.2)] [(4, .box (AE p1))]) (fun v2 => mk [(0, pD (.sl (p0.map AV))), (2, oD (.clo (G7 (XH true AV true AV) N7 p2))), (4, oD (.ptr 4 0)), (8, iD ((p0.length : Int))), (9, iD v2)] [(4, .box (AE p1))]) (fun _ _ => rfl) (sm [] _ _ rfl rfl) (fun j1 n1 v1 h => ?_) (fun v2 s h hs => ?_)
 ·unfold AP at h
  refine wp rfl (qw 2 rfl (AY rfl (Ac ?_)))
  refine Ba h (fun h => ?_) fun h => ?_
  ·refine Ai (AJ (wq rfl (qw 2 rfl (A0 rfl (Jj dm W4 rfl (GR rfl (by decide) (Jj Yw Xa rfl (qa rfl (Ac (wq rfl (qw 3 rfl ?_)))))))))))
   refine BJ h fun v4 a4 b4 h => qi D4 AW a4 (Af b4) rfl (qK Bn AW rfl (qL Bn AW rfl ?_))
   refine BD h fun v5 a5 h => JK (ds0 := [_, _]) (ar := (XH true AV true AV) ((v4, p1))) (.p rfl) rfl rfl ⟨rfl, rfl, tv⟩ rfl rfl rfl (IT (SF _ _ _ _ Mu Mu) a5) ?_
   refine AY rfl (AM (by kernel_rfl) ?_)
   refine Ba h (fun h => ?_) fun h => ?_
   ·refine Ag Av rfl (qm rfl (A0 rfl (qe rfl ?_)))
    exact sn [] h
   ·refine Ag Av rfl (qm rfl (qe rfl ?_))
    exact sn [] h
  ·refine AU ?_
   exact sn [] h
 ·refine Ae hs ?_
  refine AS h (fun v7 => mk [(6, iD v2), (7, bD v7)] []) (fun j7 h => ?_) (fun v7 h => ?_)
  ·refine Ag Av rfl (qw 3 rfl (AY rfl (qm rfl ?_)))
   refine En 39 h rfl (fun h => ?_) fun h => ?_
   ·refine qw 3 rfl ?_
    refine BJ h fun v9 a9 b9 h => qi D4 AW a9 (Af b9) rfl (qK Bn AW rfl (qL Bn AW rfl ?_))
    refine BD h fun v10 a10 h => JK (ds0 := [_, _]) (ar := (XH true AV true AV) ((v9, p1))) (.g rfl rfl) rfl rfl ⟨rfl, rfl, tv⟩ rfl rfl rfl (IT (SF _ _ _ _ Mu Mu) a10) ?_
    refine Cf rfl (qp rfl (qa rfl (qa rfl (AM (by kernel_rfl) ?_))))
    exact sn [] h
   ·refine qw 8 rfl (qp rfl (qa rfl (qa rfl (AM (by kernel_rfl) ?_))))
    exact sn [] h
  ·obtain rfl := sj h
   refine Ae (sm [] [(6, iD v2), (7, bD v7)] [] rfl rfl) (Ar ?_)
   exact ⟨⟨[_, _], ⟨.tmp _ _ rfl, tm⟩, rfl⟩, tv⟩
theorem Ly (N : Nat) (p0 : List Ab) (p1 : Ab) (r : Bool) (h : Fs N p0 p1 = some r) : An zA0 86 [pD (.sl (p0.map AV)), .e (.agg (AE p1))] [] (bD r) := by
 unfold Fs at h
 refine cw (n := 14) (rs := [.tmp 4]) Tryz.func86 fun w0 S0 => ?_
 refine wq rfl (qb rfl (qa rfl (Ac (wq rfl (qm rfl (qL Bn AW rfl ?_))))))
 refine BD h fun v1 a1 h => Aw [] (An.weak (ds' := [pD (.sl (p0.map AV)), .e (.agg (AE p1)), oD (.fnc 84)]) (FL N p0 p1 ((fun (x : Ab × Ab) => Dh N x.1 x.2)) v1 a1) ⟨(fun _ _ _ hh => hh), (fun _ _ _ hh => hh), (fun _ _ _ hh => Sx dD (fun ar t ht => by obtain ⟨x, r, rfl, hq, rfl⟩ := Hn ht; exact MW N x.1 x.2 r hq) hh), tv⟩) cV rfl ?_
 refine qm rfl (qx rfl (qx rfl (qa rfl (qa rfl (Ac (wq rfl (qm rfl (qe rfl ?_))))))))
 obtain rfl := sj h
 refine Ae (sm [] [(4, bD v1.2)] [] rfl rfl) (Ar ?_)
 exact ⟨⟨[_], tm, rfl⟩, tv⟩
theorem Qc (N : Nat) (p0 : Aa) (p1 : List Ab) (r : Bool) (h : GP N p0 p1 = some r) : An zA0 53 [.e (.agg (Ah p0)), pD (.sl (p1.map AV))] [] (bD r) := by
 unfold GP at h
 refine cw (n := 122) (rs := [.tmp 4]) Tryz.func53 fun w0 S0 => ?_
 refine wq rfl (qb rfl (qa rfl (Ac (wq rfl (qL CO BU rfl ?_)))))
 refine BD h fun v1 a1 h => Aw [2001, 2002, 2003] (OW N p0 v1 a1) dV rfl (qm rfl (qx rfl (qx rfl (qz DG rfl (qs AW rfl (qa rfl (Ac (wp rfl (qm rfl (BA rfl (Ac ?_)))))))))))
 refine Ba h (fun h => ?_) fun h => ?_
 ·refine wq rfl (qe rfl ?_)
  obtain rfl := sj h
  refine Ae (sm [] [(4, bD false)] [] rfl rfl) (Ar ?_)
  exact ⟨⟨[_], tm, rfl⟩, tv⟩
 ·refine Ai (wp rfl (qL CO BU rfl (qL Bn AW rfl ?_)))
  refine BD h fun v3 a3 h => Df [] [2001, 2002, 2003] (Ik N p0 v1.1 v3 a3) Yq BO rfl (qm rfl (qx rfl (qx rfl (qa rfl (qa rfl (Ac (wq rfl (qm rfl (Cp rfl (Ac ?_))))))))))
  refine Ba h (fun h => ?_) fun h => ?_
  ·refine wq rfl (qm rfl (AI D4 rfl (Cf rfl (qe rfl ?_))))
   obtain rfl := sj h
   refine Ae (sm [] [(4, bD (((p1.length : Int) == 0)))] [] rfl rfl) (Ar ?_)
   exact ⟨⟨[_], tm, rfl⟩, tv⟩
  ·refine Ai (wp rfl (qm rfl (AI D4 rfl (qm rfl (Ac ?_)))))
   refine AC (L := EM N p0 p1) h (fun v5 => mk [(1, pD (.sl (p1.map AV))), (2, oD (.ptr 2 0)), (5, oD (.ptr 5 0)), (41, pD (.sl (p1.map AV))), (42, iD ((p1.length : Int))), (43, iD v5)] [(2, .box (Ah p0)), (5, .box [.own 2004, .own 2005, .own 2006]), (2004, .vec 1 (v1.1.fD.map Ak)), (2005, .vec 1 (v1.1.fB.map Ak)), (2006, .vec 1 (v1.1.fE.map DL))]) (fun v6 => mk [(1, pD (.sl (p1.map AV))), (2, oD (.ptr 2 0)), (5, oD (.ptr 5 0))] [(2, .box (Ah p0)), (5, .box [.own 2007, .own 2008, .own 2009]), (2007, .vec 1 (v1.1.fD.map Ak)), (2008, .vec 1 (v1.1.fB.map Ak)), (2009, .vec 1 (v1.1.fE.map DL))]) (fun _ _ => rfl) (sm [(2004, 2001), (2005, 2002), (2006, 2003)] _ _ rfl rfl) (fun j5 n5 v5 h => ?_) (fun v6 s h hs => ?_)
   ·unfold EM at h
    refine wq rfl (AY rfl (Ac (AL ?_)))
    refine Ba h (fun h => ?_) fun h => ?_
    ·refine Ai (AL (AJ (wq rfl (qm rfl ?_))))
     refine BJ h fun v8 a8 b8 h => qi D4 AW a8 (Af b8) rfl (qK Bn AW rfl (qz DG rfl (qa rfl (qs AW rfl (Ac (AL ?_))))))
     refine AS h (fun v9 => mk [(1, pD (.sl (p1.map AV))), (2, oD (.ptr 2 0)), (5, oD (.ptr 5 0)), (10, oD (.ptr 10 0)), (41, pD (.sl (p1.map AV))), (42, iD ((p1.length : Int))), (43, iD v5), (59, bD v9)] [(2, .box (Ah p0)), (5, .box [.own 2010, .own 2011, .own 2012]), (10, .box (AE v8)), (2010, .vec 1 (v1.1.fD.map Ak)), (2011, .vec 1 (v1.1.fB.map Ak)), (2012, .vec 1 (v1.1.fE.map DL))]) (fun j9 h => ?_) (fun v9 h => ?_)
     ·refine Ag Av rfl (qm rfl (Gg rfl (qm rfl ?_)))
      refine En 50 h rfl (fun h => ?_) fun h => ?_
      ·refine qw 2 rfl (J9 rfl ?_)
       refine BJ h fun v11 a11 b11 h => qi D4 AW a11 (Af b11) rfl (qK Bn AW rfl (qL Bn AW rfl ?_))
       refine BD h fun v12 a12 h => Aw [] (MW N v11 v8 v12 a12) dD rfl (EF rfl (qp rfl (AM (by kernel_rfl) ?_)))
       exact sn [(2010, 2004), (2011, 2005), (2012, 2006)] h
      ·refine qw 8 rfl (qp rfl (AM (by kernel_rfl) ?_))
       exact sn [(2010, 2004), (2011, 2005), (2012, 2006)] h
     ·refine Ba h (fun h => ?_) fun h => ?_
      ·refine wq rfl (qe rfl ?_)
       obtain rfl := sj h
       refine Ae (sm [] [(4, bD false)] [] rfl rfl) (Ar ?_)
       exact ⟨⟨[_], tm, rfl⟩, tv⟩
      ·refine Ai (wq rfl (qL CO BU rfl (qL Bn AW rfl ?_)))
       refine BD h fun v14 a14 h => Aw [] (Ik N p0 v8 v14 a14) Yq rfl (qm rfl (qx rfl (qx rfl (qa rfl (qe rfl ?_)))))
       refine AS h (fun v15 => mk [(1, pD (.sl (p1.map AV))), (2, oD (.ptr 2 0)), (5, oD (.ptr 5 0)), (41, pD (.sl (p1.map AV))), (42, iD ((p1.length : Int))), (43, iD v5), (76, bD v15)] [(2, .box (Ah p0)), (5, .box [.own 2013, .own 2014, .own 2015]), (2013, .vec 1 (v1.1.fD.map Ak)), (2014, .vec 1 (v1.1.fB.map Ak)), (2015, .vec 1 (v1.1.fE.map DL))]) (fun j15 h => ?_) (fun v15 h => ?_)
       ·refine Ag Av rfl (qm rfl (Cp rfl (qm rfl ?_)))
        refine En 68 h rfl (fun h => ?_) fun h => ?_
        ·refine qw 2 rfl (qp rfl (qw 4 rfl (qp rfl (Ac ?_))))
         exact sn [(2013, 2010), (2014, 2011), (2015, 2012)] h
        ·refine qm rfl (BA rfl (qp rfl (qm rfl ?_)))
         refine En 72 h rfl (fun h => ?_) fun h => ?_
         ·refine qw 3 rfl (qp rfl (Ac ?_))
          exact sn [(2013, 2010), (2014, 2011), (2015, 2012)] h
         ·refine qL CO BU rfl (qL Bn AW rfl ?_)
          refine BD h fun v18 a18 h => Aw [] (Qx N p0 v8 v18 a18) cu rfl (qp rfl (Ac ?_))
          exact sn [(2013, 2010), (2014, 2011), (2015, 2012)] h
       ·refine Ba h (fun h => ?_) fun h => ?_
        ·refine wq rfl (qe rfl ?_)
         obtain rfl := sj h
         refine Ae (sm [] [(4, bD false)] [] rfl rfl) (Ar ?_)
         exact ⟨⟨[_], tm, rfl⟩, tv⟩
        ·refine Ai (Ag Av rfl (A0 rfl (qm rfl (Ac ?_))))
         exact sn [(2004, 2013), (2005, 2014), (2006, 2015)] h
    ·refine AU ?_
     exact sn [(2007, 2004), (2008, 2005), (2009, 2006)] h
   ·refine Ae hs (wp rfl (qm rfl (qL Bn AW rfl ?_)))
    refine BD h fun v20 a20 h => Df [] [2007, 2008, 2009] (Ly N p1 v1.1 v20 a20) cC BO rfl (Cp rfl (Ac ?_))
    refine Ba h (fun h => ?_) fun h => ?_
    ·refine wq rfl (qe rfl ?_)
     obtain rfl := sj h
     refine Ae (sm [] [(4, bD false)] [] rfl rfl) (Ar ?_)
     exact ⟨⟨[_], tm, rfl⟩, tv⟩
    ·refine Ai (wp rfl (qm rfl (AI D4 rfl (qm rfl (Ac ?_)))))
     refine AC (L := Ey N p0 p1) h (fun v22 => mk [(1, pD (.sl (p1.map AV))), (2, oD (.ptr 2 0)), (82, pD (.sl (p1.map AV))), (83, iD ((p1.length : Int))), (84, iD v22)] [(2, .box (Ah p0))]) (fun v23 => mk [] []) (fun _ _ => rfl) (sm [] _ _ rfl rfl) (fun j22 n22 v22 h => ?_) (fun v23 s h hs => ?_)
     ·unfold Ey at h
      refine wq rfl (AY rfl (Ac (AL ?_)))
      refine Ba h (fun h => ?_) fun h => ?_
      ·refine Ai (AL (AJ (wq rfl ?_)))
       refine BJ h fun v25 a25 b25 h => qi D4 AW a25 (Af b25) rfl (qK Bn AW rfl (qz DG rfl (qs AW rfl (Ac (wq rfl (qL CO BU rfl (qL Bn AW rfl ?_)))))))
       refine BD h fun v26 a26 h => Aw [2016] (Mc N p0 v25 v26 a26) dO rfl (qm rfl (qx rfl (qx rfl (qa rfl (qa rfl (Ac (wq rfl (qm rfl (Et EG rfl (qm rfl (Ac ?_)))))))))))
       refine AC (L := Ev N p0 p1 v25 v26) h (fun v27 => mk [(1, pD (.sl (p1.map AV))), (2, oD (.ptr 2 0)), (14, oD (.ptr 14 0)), (82, pD (.sl (p1.map AV))), (83, iD ((p1.length : Int))), (84, iD v22), (94, oD (.own 2017)), (95, iD ((v26.1.length : Int))), (96, iD v27)] [(2, .box (Ah p0)), (14, .box (AE v25)), (2017, .vec 3 (v26.1.map AG))]) (fun v28 => mk [(1, pD (.sl (p1.map AV))), (2, oD (.ptr 2 0)), (82, pD (.sl (p1.map AV))), (83, iD ((p1.length : Int))), (84, iD v22)] [(2, .box (Ah p0))]) (fun _ _ => rfl) (sm [(2017, 2016)] _ _ rfl rfl) (fun j27 n27 v27 h => ?_) (fun v28 s h hs => ?_)
       ·unfold Ev at h
        refine wq rfl (AY rfl (Ac (AL ?_)))
        refine Ba h (fun h => ?_) fun h => ?_
        ·refine Ai (AL (AJ (wq rfl ?_)))
         refine BJ h fun v30 a30 b30 h => qI EG EE a30 (Af b30) rfl (qJ Jk EE (Af b30) rfl (qz Lq rfl (qs EE rfl (Ac (wq rfl (qL CO BU rfl (qL Bn AW rfl (qL Jk EE rfl ?_))))))))
         refine BD h fun v31 a31 h => Aw [2018, 2019, 2020] (N5 N p0 v25 v30 v31 a31) dY rfl (qm rfl (qx rfl (qx rfl (qz DG rfl (qs AW rfl (qa rfl (Ac (wq rfl (qL CO BU rfl (qL Bn AW rfl ?_))))))))))
         refine BD h fun v32 a32 h => Df [] [2018, 2019, 2020] (Ik N p0 v31.1 v32 a32) Yq BO rfl (qm rfl (qx rfl (qx rfl (qa rfl (qe rfl ?_)))))
         refine AS h (fun v33 => mk [(1, pD (.sl (p1.map AV))), (2, oD (.ptr 2 0)), (14, oD (.ptr 14 0)), (82, pD (.sl (p1.map AV))), (83, iD ((p1.length : Int))), (84, iD v22), (94, oD (.own 2021)), (95, iD ((v26.1.length : Int))), (96, iD v27), (119, bD v33)] [(2, .box (Ah p0)), (14, .box (AE v25)), (2021, .vec 3 (v26.1.map AG))]) (fun j33 h => ?_) (fun v33 h => ?_)
         ·refine Ag Av rfl (qw 2 rfl ?_)
          refine En 114 h rfl (fun h => ?_) fun h => ?_
          ·refine qm rfl (qL Bn AW rfl ?_)
           refine BD h fun v35 a35 h => Df [] [2018, 2019, 2020] (Ly N p1 v31.1 v35 a35) cC BO rfl (Cp rfl (qp rfl (Ac ?_)))
           exact sn [(2021, 2017)] h
          ·refine qw 4 rfl (qp rfl (Ac ?_))
           exact sn [(2021, 2017)] h
         ·refine Ba h (fun h => ?_) fun h => ?_
          ·refine wq rfl (qe rfl ?_)
           obtain rfl := sj h
           refine Ae (sm [] [(4, bD false)] [] rfl rfl) (Ar ?_)
           exact ⟨⟨[_], tm, rfl⟩, tv⟩
          ·refine Ai (Ag Av rfl (A0 rfl (qm rfl (Ac ?_))))
           exact sn [(2017, 2021)] h
        ·refine AU ?_
         exact sn [] h
       ·refine Ae hs (Ag Av rfl (A0 rfl (qm rfl (Ac ?_))))
        exact sn [] h
      ·refine AU ?_
       exact sn [] h
     ·refine Ae hs (wq rfl (qe rfl ?_))
      obtain rfl := sj h
      refine Ae (sm [] [(4, bD true)] [] rfl rfl) (Ar ?_)
      exact ⟨⟨[_], tm, rfl⟩, tv⟩
theorem RW (N : Nat) (p0 : Aa) (p1 : List Int) (p2 : List Ab) (r : Bool) (h : Gb N p0 p1 p2 = some r) : An zA0 27 [.e (.agg (Ah p0)), pD (.sl (p1.map Ak)), pD (.sl (p2.map AV))] [] (bD r) := by
 unfold Gb at h
 refine cw (n := 22) (rs := [.tmp 6]) Tryz.func27 fun w0 S0 => ?_
 refine wq rfl (qb rfl (qa rfl (Ac (wq rfl (qL CO BU rfl (qm rfl ?_))))))
 refine BD h fun v1 a1 h => Aw [2001, 2002, 2003, 2004] (KU N p0 p1 v1 a1) cW rfl (qm rfl (qx rfl (qx rfl (qz Kj rfl (qs BU rfl (qe rfl ?_))))))
 refine AS h (fun v2 => mk [(6, bD v2)] []) (fun j2 h => ?_) (fun v2 h => ?_)
 ·refine Ag Av rfl (qm rfl (Cf rfl (qm rfl ?_)))
  refine En 17 h rfl (fun h => ?_) fun h => ?_
  ·refine qL CO BU rfl (qm rfl ?_)
   refine BD h fun v4 a4 h => Df [] [2001, 2002, 2003, 2004] (Qc N v1.1 p2 v4 a4) eO BO rfl (qp rfl (qe rfl ?_))
   exact sn [] h
  ·refine qw 3 rfl (qp rfl (qe rfl ?_))
   exact sn [] h
 ·obtain rfl := sj h
  refine Ae (sm [] [(6, bD v2)] [] rfl rfl) (Ar ?_)
  exact ⟨⟨[_], tm, rfl⟩, tv⟩
theorem I8 (N : Nat) (p0 : BN) (r : Bool) (h : CY N p0 = some r) : An zA0 8 [.e (.agg (C6 p0))] [] (bD r) := by
 unfold CY at h
 refine cw (n := 68) (rs := [.tmp 2]) Tryz.func8 fun w0 S0 => ?_
 refine wq rfl (qb rfl (qa rfl (Ac (wq rfl (qL dJ cB rfl ?_)))))
 refine BD h fun v1 a1 h => Aw [2001, 2002, 2003, 2004] (OC N p0 v1 a1) fd rfl (qm rfl (qx rfl (qx rfl (qz Kj rfl (qs BU rfl (qa rfl (Ac (AL ?_))))))))
 refine AS h (fun v2 => mk [(3, oD (.ptr 3 0)), (23, bD v2)] [(3, .box [.own 2005, .own 2006, .own 2007, .own 2008]), (2005, .vec 1 (v1.1.fA.map Ak)), (2006, .vec 1 (v1.1.fH.map Ak)), (2007, .vec 1 (v1.1.fL.map Ak)), (2008, .vec 6 (v1.1.fC.map AO))]) (fun j2 h => ?_) (fun v2 h => ?_)
 ·refine Ag Av rfl ?_
  refine BD h fun v3 a3 h => Aw [] (Jv N v3 a3) bZ rfl (Cp rfl (qm rfl ?_))
  refine En 20 h rfl (fun h => ?_) fun h => ?_
  ·refine qw 2 rfl (qp rfl (Ac ?_))
   exact sn [(2005, 2001), (2006, 2002), (2007, 2003), (2008, 2004)] h
  ·refine qm rfl (Cp rfl (qp rfl (Ac ?_)))
   exact sn [(2005, 2001), (2006, 2002), (2007, 2003), (2008, 2004)] h
 ·refine Ba h (fun h => ?_) fun h => ?_
  ·refine wq rfl ?_
   refine BD h fun v6 a6 h => Aw [] (Jv N v6 a6) bZ rfl (qe rfl ?_)
   obtain rfl := sj h
   refine Ae (sm [] [(2, bD v6)] [] rfl rfl) (Ar ?_)
   exact ⟨⟨[_], tm, rfl⟩, tv⟩
  ·refine Ai (wp rfl (qf Bb rfl (ql A7 rfl (Et Au rfl ?_))))
   refine BD h fun v7 a7 h => Aw [2009] (J6 N ((v1.1.fA.length : Int)) v7 a7) dw rfl (Et G6 rfl (qm rfl (Ac ?_)))
   refine AC (L := Bq N v7) h (fun v8 => mk [(3, oD (.ptr 3 0)), (28, oD (.own 2010)), (29, iD ((v7.length : Int))), (30, iD v8.2.2.2.2)] [(3, .box [sC (v8.1.map Ak), sC (v8.2.1.map Ak), sC (v8.2.2.1.map Ak), sC (v8.2.2.2.1.map AO)]), (2010, .vec 1 (v7.map (FO Ak)))]) (fun v9 => mk [] []) (fun _ _ => rfl) ((A4 2005 _ _ rfl rfl).trans ((A4 2006 _ _ rfl rfl).trans ((A4 2007 _ _ rfl rfl).trans ((A4 2008 _ _ rfl rfl).trans (sm [(2010, 2009)] _ _ rfl rfl))))) (fun j8 n8 v8 h => ?_) (fun v9 s h hs => ?_)
   ·unfold Bq at h
    refine wq rfl (AY rfl (Ac (AL ?_)))
    refine Ba h (fun h => ?_) fun h => ?_
    ·refine Ai (AL (AJ (wq rfl ?_)))
     refine BJ h fun v11 a11 b11 h => qI G6 Ig a11 (Af b11) rfl (qj A7 (Af b11) rfl (qa rfl (Ac (wq rfl (qL CO BU rfl (qm rfl ?_))))))
     refine BD h fun v12 a12 h => Aw [2011, 2012, 2013, 2014] (Ir N ((Aa.mk v8.1 v8.2.1 v8.2.2.1 v8.2.2.2.1)) v11 v12 a12) di rfl (qm rfl (qx rfl (qx rfl (qz Kj rfl (qs BU rfl (qa rfl (Ac (wp rfl (qm rfl (BA rfl (Ac ?_)))))))))))
     refine Ba h (fun h => ?_) fun h => ?_
     ·refine wq rfl (qe rfl ?_)
      obtain rfl := sj h
      refine Ae (sm [] [(2, bD false)] [] rfl rfl) (Ar ?_)
      exact ⟨⟨[_], tm, rfl⟩, tv⟩
     ·refine Ai (wq rfl (qL CO BU rfl (CE (A4 2011 _ _ rfl rfl) (CE (A4 2012 _ _ rfl rfl) (CE (A4 2013 _ _ rfl rfl) (CE (A4 2014 _ _ rfl rfl) ?_))))))
      refine BD h fun v14 a14 h => Aw [2015] (L8 N v12.1 1000 v14 a14) fa rfl (qm rfl (qx rfl (qx rfl (qa rfl (qa rfl (Ac (wq rfl (qL CO BU rfl (qm rfl ?_)))))))))
      refine BD h fun v15 a15 h => Aw [] (KI N ((Aa.mk v8.1 v8.2.1 v8.2.2.1 v8.2.2.2.1)) v11 v15 a15) aF rfl (qm rfl (qx rfl (qx rfl (qa rfl (qe rfl ?_)))))
      refine AS h (fun v16 => mk [(3, oD (.ptr 3 0)), (28, oD (.own 2016)), (29, iD ((v7.length : Int))), (30, iD v8.2.2.2.2), (66, bD v16)] [(3, .box [sC (v8.1.map Ak), sC (v8.2.1.map Ak), sC (v8.2.2.1.map Ak), sC (v8.2.2.2.1.map AO)]), (2016, .vec 1 (v7.map (FO Ak)))]) (fun j16 h => ?_) (fun v16 h => ?_)
      ·refine Ag Av rfl (qm rfl (Cp rfl (qm rfl ?_)))
       refine En 55 h rfl (fun h => ?_) fun h => ?_
       ·refine qw 2 rfl (qp rfl (qw 7 rfl (qp rfl (Ac ?_))))
        exact sn [(2016, 2010)] h
       ·refine qm rfl (BA rfl (qp rfl (qm rfl ?_)))
        refine En 59 h rfl (fun h => ?_) fun h => ?_
        ·refine qw 6 rfl (qp rfl (Ac ?_))
         exact sn [(2016, 2010)] h
        ·refine qL CO BU rfl (qw 2 rfl ?_)
         refine BD h fun v19 a19 h => Df [] [2015] (RW N ((Aa.mk v8.1 v8.2.1 v8.2.2.1 v8.2.2.2.1)) v11 v14.1 v19 a19) eH BO rfl (qm rfl ?_)
         refine Jt (.g rfl rfl) rfl rfl (XJ _ _ _ _ fy) rfl ?_
         refine qp rfl (Ac ?_)
         exact sn [(2016, 2010)] h
      ·refine Ba h (fun h => ?_) fun h => ?_
       ·refine wq rfl (qe rfl ?_)
        obtain rfl := sj h
        refine Ae (sm [] [(2, bD false)] [] rfl rfl) (Ar ?_)
        exact ⟨⟨[_], tm, rfl⟩, tv⟩
       ·refine Ai (Ag Av rfl (A0 rfl (qm rfl (Ac ?_))))
        exact sn [(2010, 2016)] h
    ·refine AU ?_
     exact sn [] h
   ·refine Ae hs (wq rfl (qe rfl ?_))
    obtain rfl := sj h
    refine Ae (sm [] [(2, bD true)] [] rfl rfl) (Ar ?_)
    exact ⟨⟨[_], tm, rfl⟩, tv⟩
end Go.Lift
