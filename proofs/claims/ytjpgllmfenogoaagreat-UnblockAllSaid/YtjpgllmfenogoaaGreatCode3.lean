/- Lemmas for UnblockAllSaid, which YtjpgllmfenogoaaGreatFinU8 proves. -/
import Derived.Test.YtjpgllmfenogoaaGreatCode
open Int renaming tmod → zY
open List renaming length_map → zI, map_eq_nil_iff → uY, replicate → zD
open Nat renaming le_refl → zM, zero_add → zC
open Go.Proofs.Tryz renaming prog → zA
namespace Go.Lift
open IntKind renaming wrap → wI
set_option maxRecDepth 10000
open Go.RowKit
open Go.Proofs
theorem J6 (N : Nat) (p0 : List Int) (p1 : Int) (r : Int) (h : EW N p0 p1 = some r) : Ar zA 56 [pD (.sl (p0.map El)), iD p1] [] (iD r) := by
 unfold EW at h
 refine cw (n := 14) (rs := [.tmp 4]) Tryz.func56 fun w0 S0 => ?_
 refine wq rfl (qa rfl (Ad (wp rfl (qw 2 rfl (AM LB rfl (AW rfl (Ad ?_)))))))
 refine Bd h (fun h => ?_) fun h => ?_
 ·refine wq rfl (qw 2 rfl ?_)
  refine BB h fun v2 a2 b2 h => qi LB cF a2 (Ah b2) rfl (qk dC rfl (K5 cP aW rfl (qe rfl ?_)))
  obtain rfl := sj h
  refine Ag (sm [] [(4, iD ((wI .i64 v2)))] [] rfl rfl) (Au ?_)
  exact ⟨⟨[_], tm, rfl⟩, tv⟩
 ·refine Am (wq rfl (qe rfl ?_))
  obtain rfl := sj h
  refine Ag (sm [] [(4, iD 0)] [] rfl rfl) (Au ?_)
  exact ⟨⟨[_], tm, rfl⟩, tv⟩
theorem CF (N : Nat) (p0 : Ao) (r : Bool) (h : Bc N p0 = some r) : Ar zA 57 [.e (.agg (Bj p0))] [] (bD r) := by
 unfold Bc at h
 refine cw (n := 11) (rs := [.tmp 2]) Tryz.func57 fun w0 S0 => ?_
 refine wq rfl (qb rfl (qe rfl ?_))
 refine AT h (fun v1 => mk [(2, bD v1)] []) (fun j1 h => ?_) (fun v1 h => ?_)
 ·refine Ak Ax rfl (qf Hn rfl (ql Cr rfl (B5 rfl (qm rfl ?_))))
  refine EU 6 h rfl (fun h => ?_) fun h => ?_
  ·refine qw 3 rfl (qp rfl (qe rfl ?_))
   exact sn [] h
  ·refine qf Hn rfl (ql Cr rfl (B5 rfl (qp rfl (qe rfl ?_))))
   exact sn [] h
 ·obtain rfl := sj h
  refine Ag (sm [] [(2, bD v1)] [] rfl rfl) (Au ?_)
  exact ⟨⟨[_], tm, rfl⟩, tv⟩
theorem Kh (N : Nat) (p0 : Int) (p1 : Int) (p2 : Int) (p3 : Bool) (r : (List (List Bool))) (h : EY N p0 p1 p2 p3 = some r) : Ar zA 58 [iD p0, iD p1, pD (.val (.int .u16 p2)), bD p3] [(1, r.map (DG eB))] (oD (.own 0)) := by
 unfold EY at h
 refine cw (n := 47) (rs := [.tmp 8]) Tryz.func58 fun w0 S0 => ?_
 refine wq rfl (qa rfl (Ad (wq rfl (qa rfl (Ad (wp rfl (qe rfl ?_)))))))
 refine AE (L := CL N p0 p1 p2 p3) h (fun v1 => mk [(0, iD p0), (1, iD p1), (2, pD (.val (.int .u16 p2))), (3, bD p3), (9, oD (.own 2001)), (10, iD v1.2)] [(2001, .vec 1 (v1.1.map (DG eB)))]) (fun v2 => mk [(9, oD (.own 2002))] [(2002, .vec 1 (v2.map (DG eB)))]) (fun _ _ => rfl) ((AU 9 2010 1 rfl rfl rfl).trans (sm [(2001, 2010)] _ _ rfl rfl)) (fun j1 n1 v1 h => ?_) (fun v2 s h hs => ?_)
 ·unfold CL at h
  refine wp rfl (qw 2 rfl (AW rfl (Ad ?_)))
  refine Bd h (fun h => ?_) fun h => ?_
  ·refine Am (AP (AK (wq rfl (qa rfl (Ad (wp rfl (qe rfl ?_)))))))
   refine AE (L := CM N p1 p2 p3 v1) h (fun v4 => mk [(0, iD p0), (1, iD p1), (2, pD (.val (.int .u16 p2))), (3, bD p3), (9, oD (.own 2003)), (10, iD v1.2), (11, oD (.own 2004)), (12, iD v4.2)] [(2003, .vec 1 (v1.1.map (DG eB))), (2004, .vec 1 (v4.1.map eB))]) (fun v5 => mk [(0, iD p0), (1, iD p1), (2, pD (.val (.int .u16 p2))), (3, bD p3), (9, oD (.own 2005)), (10, iD v1.2), (11, oD (.own 2006))] [(2005, .vec 1 (v1.1.map (DG eB))), (2006, .vec 1 (v5.map eB))]) (fun _ _ => rfl) ((AU 11 2009 1 rfl rfl rfl).trans (sm [(2003, 2001), (2004, 2009)] _ _ rfl rfl)) (fun j4 n4 v4 h => ?_) (fun v5 s h hs => ?_)
   ·unfold CM at h
    refine wp rfl (qw 2 rfl (AW rfl (Ad ?_)))
    refine Bd h (fun h => ?_) fun h => ?_
    ·refine Am ?_
     refine AT h (fun v7 => mk [(0, iD p0), (1, iD p1), (2, pD (.val (.int .u16 p2))), (3, bD p3), (9, oD (.own 2007)), (10, iD v1.2), (11, oD (.own 2008)), (12, iD v4.2)] [(2007, .vec 1 (v1.1.map (DG eB))), (2008, .vec 1 (v7.map eB))]) (fun j7 h => ?_) (fun v7 h => ?_)
     ·refine AK (Ak Ax rfl (qw 3 rfl ?_))
      refine EU 25 h rfl (fun h => ?_) fun h => ?_
      ·refine qw 2 rfl (B5 rfl (qp rfl (qm rfl ?_)))
       refine EU 30 h rfl (fun h => ?_) fun h => ?_
       ·refine qw 8 rfl (qp rfl (Eb EG MY WF rfl ?_))
        refine F2 h fun c10 h => DE (f := eB) EG EG MY Xc WF c10 rfl (qe rfl ?_)
        exact sn [(2007, 2003), (2008, 41)] h
       ·refine qw 2 rfl (N0 rfl (qm rfl (AZ rfl ?_)))
        refine F2 h fun c11 h => KU rfl c11 (Ok rfl (by decide) (B5 rfl (qp rfl (Eb EG MY WF rfl ?_))))
        refine F2 h fun c12 h => DE (f := eB) EG EG MY Xc WF c12 rfl (qe rfl ?_)
        exact sn [(2007, 2003), (2008, 41)] h
      ·refine qw 3 rfl (qp rfl (qw 3 rfl (N0 rfl (qm rfl (AZ rfl ?_)))))
       refine F2 h fun c13 h => KU rfl c13 (Ok rfl (by decide) (B5 rfl (qp rfl (Eb EG MY WF rfl ?_))))
       refine F2 h fun c14 h => DE (f := eB) EG EG MY Xc WF c14 rfl (qe rfl ?_)
       exact sn [(2007, 2003), (2008, 41)] h
     ·refine Ak Ax rfl (qm rfl (AZ rfl (qe rfl ?_)))
      exact sn [(2003, 2007), (2004, 2008)] h
    ·refine AS ?_
     exact sn [(2005, 2003), (2006, 2004)] h
   ·refine Ag hs (Ak Ax rfl (qw 2 rfl (Et (BJ 2006 _ _ rfl rfl) (Eb DH Is S3 rfl ?_))))
    refine F2 h fun c15 h => DE (f := (DG eB)) DH DH Is We S3 c15 rfl (qa rfl (Ad (Ak Ax rfl (qm rfl (AZ rfl (qe rfl ?_))))))
    exact sn [(2001, 45)] h
  ·refine AS ?_
   exact sn [(2002, 2001)] h
 ·refine Ag hs (wq rfl (qm rfl (qe rfl ?_)))
  obtain rfl := sj h
  refine Ag (sm [(1000, 2002)] [(8, oD (.own 1000))] [(1000, .vec 1 (v2.map (DG eB)))] rfl rfl) (Au ?_)
  exact ⟨⟨[_], tm, rfl⟩, ⟨rfl, tv⟩⟩
theorem O1 (N : Nat) (p0 : Bz) (r : Ab × Bool) (h : Gw N p0 = some r) : Ar zA 32 [.e (.agg (Dc p0))] [(1, r.1.f9.map Aq), (1, r.1.gf.map Aq), (1, r.1.gj.map Aq), (6, r.1.ga.map AJ)] (.tup [.agg [.own 0, .own 1, .own 2, .own 3], .one (.pure (.val (.bool r.2)))]) := by
 unfold Gw at h
 refine cw (n := 152) (rs := [.cell 2 29, .tmp 3]) Tryz.func32 fun w0 S0 => ?_
 refine wq rfl (qb rfl (qz LG rfl (qa rfl (Ad (AP ?_)))))
 refine AT h (fun v1 => mk [(1, oD (.ptr 1 0)), (2, oD (.ptr 2 0)), (19, bD v1)] [(1, .box (Dc p0)), (2, .box [.pure (.nil0), .pure (.nil0), .pure (.nil0), .pure (.nil0)])]) (fun j1 h => ?_) (fun v1 h => ?_)
 ·refine Ak Ax rfl (qf SM rfl (ql YC rfl (AM LB rfl (GE rfl (qm rfl ?_)))))
  refine EU 14 h rfl (fun h => ?_) fun h => ?_
  ·refine qw 4 rfl (qp rfl (Ad ?_))
   exact sn [] h
  ·refine qf SK rfl (ql cL rfl (AM Yg rfl (GE rfl (qp rfl (Ad ?_)))))
   exact sn [] h
 ·refine Bd h (fun h => ?_) fun h => ?_
  ·refine wq rfl (Bm LG Xl rfl (qs BT rfl (qe rfl ?_)))
   obtain rfl := sj h
   refine Ag ((Az 2 0 2001 1 _ rfl rfl rfl rfl).trans ((Az 2 1 2002 1 _ rfl rfl rfl rfl).trans ((Az 2 2 2003 1 _ rfl rfl rfl rfl).trans ((Az 2 3 2004 6 _ rfl rfl rfl rfl).trans (sm [(1000, 2001), (1001, 2002), (1002, 2003), (1003, 2004)] [(2, oD (.ptr 2 0)), (3, bD false)] [(2, .box [.own 1000, .own 1001, .own 1002, .own 1003]), (1000, .vec 1 ((([] : List Int)).map Aq)), (1001, .vec 1 ((([] : List Int)).map Aq)), (1002, .vec 1 ((([] : List Int)).map Aq)), (1003, .vec 6 ((([] : List Ao)).map AJ))] rfl rfl))))) (Au ?_)
   exact ⟨⟨[_, _], ⟨.cellN _ _ _ _ _ _ _ rfl rfl CD BT rfl rfl (Km rfl), tm⟩, rfl⟩, ⟨rfl, rfl, rfl, rfl, tv⟩⟩
  ·refine Am (wq rfl (qz LG rfl (Ad (wp rfl (qe rfl ?_)))))
   refine AE (L := Df N p0) h (fun v4 => mk [(1, oD (.ptr 1 0)), (2, oD (.ptr 2 0)), (4, oD (.ptr 4 0)), (5, iD v4.2.2.2)] [(1, .box (Dc p0)), (2, .box [.pure (.nil0), .pure (.nil0), .pure (.nil0), .pure (.nil0)]), (4, .box [.own 2005, .own 2006, .own 2007, .pure (.nil0)]), (2005, .vec 1 (v4.1.map Aq)), (2006, .vec 1 (v4.2.1.map Aq)), (2007, .vec 1 (v4.2.2.1.map Aq))]) (fun v5 => mk [(1, oD (.ptr 1 0)), (2, oD (.ptr 2 0)), (4, oD (.ptr 4 0))] [(1, .box (Dc p0)), (2, .box [.pure (.nil0), .pure (.nil0), .pure (.nil0), .pure (.nil0)]), (4, .box [.own 2008, .own 2009, .own 2010, .pure (.nil0)]), (2008, .vec 1 (v5.1.map Aq)), (2009, .vec 1 (v5.2.1.map Aq)), (2010, .vec 1 (v5.2.2.map Aq))]) (fun _ _ => rfl) ((Az 4 0 2011 1 _ rfl rfl rfl rfl).trans ((Az 4 1 2012 1 _ rfl rfl rfl rfl).trans ((Az 4 2 2013 1 _ rfl rfl rfl rfl).trans (sm [(2005, 2011), (2006, 2012), (2007, 2013)] _ _ rfl rfl)))) (fun j4 n4 v4 h => ?_) (fun v5 s h hs => ?_)
   ·unfold Df at h
    refine wp rfl (qm rfl (qf SM rfl (ql YC rfl (AM LB rfl (AW rfl (Ad ?_))))))
    refine Bd h (fun h => ?_) fun h => ?_
    ·refine Am (AP (AK (wq rfl (qf SM rfl (ql YC rfl (qm rfl ?_))))))
     refine BB h fun v7 a7 b7 h => qi LB cF a7 (Ah b7) rfl (qk dC rfl (Ok rfl (by decide) (K5 cP aW rfl (AZ rfl (qa rfl (Ad (wq rfl (qf Bu rfl (ql Bb rfl (qm rfl (Eb AC DR Lf rfl ?_)))))))))))
     refine F2 h fun c8 h => DE (f := Aq) AC AC DR LX Lf c8 rfl (qf Bu rfl (qs W7 rfl (Ad (wq rfl (qf Hp rfl (ql Bb rfl (qf ZU rfl (ql YC rfl (qm rfl ?_)))))))))
     refine B1 h fun v9 a9 h => AA [] (J6 N p0.gf v4.2.2.2 v9 a9) ei rfl (qm rfl ?_)
     refine F2 h fun c10 h => Ok rfl c10 (Eb AC DR Lf rfl ?_)
     refine F2 h fun c11 h => DE (f := Aq) AC AC DR LX Lf c11 rfl (qf Hp rfl (qs W7 rfl (AQ (by kernel_rfl) (Ak Ax rfl (qf IM rfl (ql Bb rfl (qf aG rfl (ql YC rfl (qm rfl ?_)))))))))
     refine B1 h fun v12 a12 h => AA [] (J6 N p0.gj v4.2.2.2 v12 a12) ei rfl (qm rfl ?_)
     refine F2 h fun c13 h => Ok rfl c13 (Eb AC DR Lf rfl ?_)
     refine F2 h fun c14 h => DE (f := Aq) AC AC DR LX Lf c14 rfl (qf IM rfl (qs W7 rfl (AQ (by kernel_rfl) (Ak Ax rfl (qm rfl (AZ rfl (qe rfl ?_)))))))
     exact sn [(2005, 40), (2006, 51), (2007, 62)] h
    ·refine AS ?_
     exact sn [(2008, 2005), (2009, 2006), (2010, 2007)] h
   ·refine Ag hs (wp rfl (qe rfl ?_))
    refine AE (L := BI N p0 v5) h (fun v15 => mk [(1, oD (.ptr 1 0)), (2, oD (.ptr 2 0)), (4, oD (.ptr 4 0)), (7, iD v15.2)] [(1, .box (Dc p0)), (2, .box [.pure (.nil0), .pure (.nil0), .pure (.nil0), .pure (.nil0)]), (4, .box [.own 2014, .own 2015, .own 2016, .own 2017]), (2014, .vec 1 (v5.1.map Aq)), (2015, .vec 1 (v5.2.1.map Aq)), (2016, .vec 1 (v5.2.2.map Aq)), (2017, .vec 6 (v15.1.map AJ))]) (fun v16 => mk [(2, oD (.ptr 2 0)), (4, oD (.ptr 4 0))] [(2, .box [.pure (.nil0), .pure (.nil0), .pure (.nil0), .pure (.nil0)]), (4, .box [.own 2018, .own 2019, .own 2020, .own 2021]), (2018, .vec 1 (v5.1.map Aq)), (2019, .vec 1 (v5.2.1.map Aq)), (2020, .vec 1 (v5.2.2.map Aq)), (2021, .vec 6 (v16.map AJ))]) (fun _ _ => rfl) ((Az 4 3 2039 6 _ rfl rfl rfl rfl).trans (sm [(2014, 2008), (2015, 2009), (2016, 2010), (2017, 2039)] _ _ rfl rfl)) (fun j15 n15 v15 h => ?_) (fun v16 s h hs => ?_)
    ·unfold BI at h
     refine AP ?_
     refine AT h (fun v17 => mk [(1, oD (.ptr 1 0)), (2, oD (.ptr 2 0)), (4, oD (.ptr 4 0)), (7, iD v15.2), (74, bD v17)] [(1, .box (Dc p0)), (2, .box [.pure (.nil0), .pure (.nil0), .pure (.nil0), .pure (.nil0)]), (4, .box [.own 2022, .own 2023, .own 2024, .own 2025]), (2022, .vec 1 (v5.1.map Aq)), (2023, .vec 1 (v5.2.1.map Aq)), (2024, .vec 1 (v5.2.2.map Aq)), (2025, .vec 6 (v15.1.map AJ))]) (fun j17 h => ?_) (fun v17 h => ?_)
     ·refine Ak Ax rfl (qm rfl (qf SK rfl (ql cL rfl (AM Yg rfl (AW rfl (qm rfl ?_))))))
      refine EU 69 h rfl (fun h => ?_) fun h => ?_
      ·refine qf Bu rfl (ql Bb rfl (C3 AC rfl (GE rfl (qp rfl (Ad ?_)))))
       exact sn [(2022, 2014), (2023, 2015), (2024, 2016), (2025, 2017)] h
      ·refine qw 4 rfl (qp rfl (Ad ?_))
       exact sn [(2022, 2014), (2023, 2015), (2024, 2016), (2025, 2017)] h
     ·refine Bd h (fun h => ?_) fun h => ?_
      ·refine Am (AP (AK (wq rfl (qf SK rfl (ql cL rfl (qm rfl ?_))))))
       refine BB h fun v20 a20 b20 h => qi Yg cN a20 (Ah b20) rfl (qK fw cN rfl (qz fR rfl (qs cN rfl (Ad (wq rfl (qf ZA rfl (ql dC rfl (Ok rfl (by decide) (K5 cP aW rfl (AZ rfl (qf Z4 rfl (ql dC rfl (K5 cP aW rfl (qf Bu rfl (ql Bb rfl (C3 AC rfl ?_))))))))))))))))
       refine F2 h fun c21 h => Ok rfl c21 (qf aF rfl (ql dC rfl (K5 cP aW rfl (qf Bu rfl (ql Bb rfl (C3 AC rfl ?_))))))
       refine F2 h fun c22 h => Ok rfl c22 (Bm JA db rfl (qz JA rfl (qs Db rfl (AQ (by kernel_rfl) ?_))))
       refine AT h (fun v23 => mk [(1, oD (.ptr 1 0)), (2, oD (.ptr 2 0)), (4, oD (.ptr 4 0)), (7, iD v15.2), (8, oD (.ptr 8 0)), (9, oD (.ptr 9 0))] [(1, .box (Dc p0)), (2, .box [.pure (.nil0), .pure (.nil0), .pure (.nil0), .pure (.nil0)]), (4, .box [.own 2026, .own 2027, .own 2028, .own 2029]), (8, .box (OV v20)), (9, .box [iC ((wI .i64 (1 + (wI .i64 ((zY v20.gd 4)))))), iC ((zY ((wI .i64 v20.ge)) ((v5.1.length : Int)))), iC ((zY ((wI .i64 v20.gi)) ((v5.1.length : Int)))), .pure (.val (.bool v23)), .pure (.nil0), .pure (.nil0)]), (2026, .vec 1 (v5.1.map Aq)), (2027, .vec 1 (v5.2.1.map Aq)), (2028, .vec 1 (v5.2.2.map Aq)), (2029, .vec 6 (v15.1.map AJ))]) (fun j23 h => ?_) (fun v23 h => ?_)
       ·refine Ak Ax rfl (qf Z5 rfl (ql UL rfl (qm rfl ?_)))
        refine EU 104 h rfl (fun h => ?_) fun h => ?_
        ·refine qL HB Db rfl ?_
         refine B1 h fun v25 a25 h => AA [] (CF N ((Ao.mk ((wI .i64 (1 + (wI .i64 ((zY v20.gd 4)))))) ((zY ((wI .i64 v20.ge)) ((v5.1.length : Int)))) ((zY ((wI .i64 v20.gi)) ((v5.1.length : Int)))) false (([] : List (List Bool))) (([] : List (List Bool))))) v25 a25) SN rfl (CQ rfl (qp rfl (qf Kw rfl (qs MY rfl (Ad ?_)))))
         exact sn [(2026, 2022), (2027, 2023), (2028, 2024), (2029, 2025)] h
        ·refine qw 3 rfl (qp rfl (qf Kw rfl (qs MY rfl (Ad ?_))))
         exact sn [(2026, 2022), (2027, 2023), (2028, 2024), (2029, 2025)] h
       ·refine wq rfl (qf Bu rfl (ql Bb rfl (qf DZ rfl (ql Cr rfl ?_))))
        refine BB h fun v26 a26 b26 h => qI AC DR a26 (Ah b26) rfl (qj Cr (Ah b26) rfl (qf Bu rfl (ql Bb rfl (qf JD rfl (ql Cr rfl ?_)))))
        refine BB h fun v27 a27 b27 h => qI AC DR a27 (Ah b27) rfl (qj Cr (Ah b27) rfl (qf Z0 rfl (ql ev rfl ?_)))
        refine B1 h fun v28 a28 h => AA [2030] (Kh N v26 v27 v20.gz false v28 a28) eK rfl (qf Fa rfl (qs TV rfl (AQ (by kernel_rfl) ?_)))
        refine AT h (fun v29 => mk [(1, oD (.ptr 1 0)), (2, oD (.ptr 2 0)), (4, oD (.ptr 4 0)), (7, iD v15.2), (9, oD (.ptr 9 0))] [(1, .box (Dc p0)), (2, .box [.pure (.nil0), .pure (.nil0), .pure (.nil0), .pure (.nil0)]), (4, .box [.own 2031, .own 2032, .own 2033, .own 2034]), (9, .box [iC ((wI .i64 (1 + (wI .i64 ((zY v20.gd 4)))))), iC ((zY ((wI .i64 v20.ge)) ((v5.1.length : Int)))), iC ((zY ((wI .i64 v20.gi)) ((v5.1.length : Int)))), .pure (.val (.bool v23)), .own 2035, .own 2036]), (2031, .vec 1 (v5.1.map Aq)), (2032, .vec 1 (v5.2.1.map Aq)), (2033, .vec 1 (v5.2.2.map Aq)), (2034, .vec 6 (v15.1.map AJ)), (2035, .vec 1 (v28.map (DG eB))), (2036, .vec 1 (v29.map (DG eB)))]) (fun j29 h => ?_) (fun v29 h => ?_)
        ·refine wq rfl (qf Hn rfl (ql Cr rfl (B5 rfl (Ad ?_))))
         refine Bd h (fun h => ?_) fun h => ?_
         ·refine Ak Ax rfl (qf Bu rfl (ql Bb rfl (qf DZ rfl (ql Cr rfl ?_))))
          refine BB h fun v31 a31 b31 h => qI AC DR a31 (Ah b31) rfl (qj Cr (Ah b31) rfl (qf Bu rfl (ql Bb rfl (qf DZ rfl (ql Cr rfl ?_)))))
          refine BB h fun v32 a32 b32 h => qI AC DR a32 (Ah b32) rfl (qj Cr (Ah b32) rfl (qf ZW rfl (ql ev rfl ?_)))
          refine B1 h fun v33 a33 h => AA [2037] (Kh N v31 v32 v20.gA true v33 a33) eK rfl (qf E8 rfl (qs TV rfl (AQ (by kernel_rfl) ?_)))
          exact sn [(2031, 2026), (2032, 2027), (2033, 2028), (2034, 2029), (2035, 2030), (2036, 2037)] h
         ·refine Am ?_
          exact UO _ h ((Az 9 5 2038 1 _ rfl rfl rfl rfl).trans (sm [(2031, 2026), (2032, 2027), (2033, 2028), (2034, 2029), (2035, 2030), (2036, 2038)] _ _ rfl rfl))
        ·refine Ak Ax rfl (qf Bx rfl (ql Gm rfl (qL HB Db rfl (Et (BJ 2035 _ _ rfl rfl) (Et (BJ 2036 _ _ rfl rfl) (Eb CR Db JA rfl ?_))))))
         refine F2 h fun c34 h => DE (f := AJ) CR CR Db X1 JA c34 rfl (qf Bx rfl (qs ca rfl (Ad (Ak Ax rfl (qm rfl (AZ rfl (qe rfl ?_)))))))
         exact sn [(2014, 2031), (2015, 2032), (2016, 2033), (2017, 149)] h
      ·refine AS ?_
       exact sn [(2018, 2022), (2019, 2023), (2020, 2024), (2021, 2025)] h
    ·refine Ag hs (wq rfl (qL CD BT rfl (qs BT rfl (qe rfl ?_))))
     obtain rfl := sj h
     refine Ag (sm [(1000, 2018), (1001, 2019), (1002, 2020), (1003, 2021)] [(2, oD (.ptr 2 0)), (3, bD true)] [(2, .box [.own 1000, .own 1001, .own 1002, .own 1003]), (1000, .vec 1 (v5.1.map Aq)), (1001, .vec 1 (v5.2.1.map Aq)), (1002, .vec 1 (v5.2.2.map Aq)), (1003, .vec 6 (v16.map AJ))] rfl rfl) (Au ?_)
     exact ⟨⟨[_, _], ⟨.cellN _ _ _ _ _ _ _ rfl rfl CD BT rfl rfl (Km rfl), tm⟩, rfl⟩, ⟨rfl, rfl, rfl, rfl, tv⟩⟩
theorem Hg (N : Nat) (p0 : Ab) (r : (List Aa)) (h : Dm N p0 = some r) : Ar zA 44 [.e (.agg (Ai p0))] [(3, r.map Ac)] (oD (.own 0)) := by
 unfold Dm at h
 refine cw (n := 60) (rs := [.tmp 2]) Tryz.func44 fun w0 S0 => ?_
 refine wq rfl (qb rfl (qa rfl (Ad (wq rfl (qa rfl (Ad (wp rfl (qe rfl ?_))))))))
 refine AE (L := BE N p0) h (fun v1 => mk [(1, oD (.ptr 1 0)), (3, oD (.own 2001)), (4, iD v1.2)] [(1, .box (Ai p0)), (2001, .vec 3 (v1.1.map Ac))]) (fun v2 => mk [(3, oD (.own 2002))] [(2002, .vec 3 (v2.map Ac))]) (fun _ _ => rfl) ((AU 3 2008 3 rfl rfl rfl).trans (sm [(2001, 2008)] _ _ rfl rfl)) (fun j1 n1 v1 h => ?_) (fun v2 s h hs => ?_)
 ·unfold BE at h
  refine wp rfl (qm rfl (qf Bx rfl (ql Gm rfl (AM CR rfl (AW rfl (Ad ?_))))))
  refine Bd h (fun h => ?_) fun h => ?_
  ·refine Am (AP (AK (wq rfl (qe rfl ?_))))
   refine AE (L := B3 N p0 v1) h (fun v4 => mk [(1, oD (.ptr 1 0)), (3, oD (.own 2003)), (4, iD v1.2), (5, iD v4.2)] [(1, .box (Ai p0)), (2003, .vec 3 (v4.1.map Ac))]) (fun v5 => mk [(1, oD (.ptr 1 0)), (3, oD (.own 2004)), (4, iD v1.2)] [(1, .box (Ai p0)), (2004, .vec 3 (v5.map Ac))]) (fun _ _ => rfl) (sm [(2003, 2001)] _ _ rfl rfl) (fun j4 n4 v4 h => ?_) (fun v5 s h hs => ?_)
   ·unfold B3 at h
    refine wp rfl (qm rfl (qf Bx rfl (ql Gm rfl (qm rfl ?_))))
    refine BB h fun v6 a6 b6 h => qi CR Db a6 (Ah b6) rfl (qg Fa rfl (qk Hr rfl (AM DH rfl (AW rfl (Ad ?_)))))
    refine Bd h (fun h => ?_) fun h => ?_
    ·refine Am (AP (AK (wq rfl (qe rfl ?_))))
     refine AE (L := CB N p0 v1 v4) h (fun v8 => mk [(1, oD (.ptr 1 0)), (3, oD (.own 2005)), (4, iD v1.2), (5, iD v4.2), (6, iD v8.2)] [(1, .box (Ai p0)), (2005, .vec 3 (v8.1.map Ac))]) (fun v9 => mk [(1, oD (.ptr 1 0)), (3, oD (.own 2006)), (4, iD v1.2), (5, iD v4.2)] [(1, .box (Ai p0)), (2006, .vec 3 (v9.map Ac))]) (fun _ _ => rfl) (sm [(2005, 2003)] _ _ rfl rfl) (fun j8 n8 v8 h => ?_) (fun v9 s h hs => ?_)
     ·unfold CB at h
      refine wp rfl (qm rfl (qf Bx rfl (ql Gm rfl (qm rfl ?_))))
      refine BB h fun v10 a10 b10 h => qi CR Db a10 (Ah b10) rfl (qg Fa rfl (qk Hr rfl (qm rfl ?_)))
      refine BB h fun v11 a11 b11 h => qi DH Is a11 (Ah b11) rfl (qk LU rfl (AM EG rfl (AW rfl (Ad ?_))))
      refine Bd h (fun h => ?_) fun h => ?_
      ·refine Am ?_
       refine AT h (fun v13 => mk [(1, oD (.ptr 1 0)), (3, oD (.own 2007)), (4, iD v1.2), (5, iD v4.2), (6, iD v8.2)] [(1, .box (Ai p0)), (2007, .vec 3 (v13.map Ac))]) (fun j13 h => ?_) (fun v13 h => ?_)
       ·refine AK (wq rfl (qf Bx rfl (ql Gm rfl (qm rfl ?_))))
        refine BB h fun v14 a14 b14 h => qi CR Db a14 (Ah b14) rfl (qg Fa rfl (qk Hr rfl (qm rfl ?_)))
        refine BB h fun v15 a15 b15 h => qi DH Is a15 (Ah b15) rfl (qk LU rfl (qm rfl ?_))
        refine BB h fun v16 a16 b16 h => qi EG MY a16 (Ah b16) rfl (qk UL rfl (CQ rfl (Ad ?_)))
        refine Bd h (fun h => ?_) fun h => ?_
        ·refine Ak Ax rfl (qw 4 rfl (Bm GV Ro rfl (Eb A3 Cz GV rfl ?_)))
         refine F2 h fun c18 h => DE (f := Ac) A3 A3 Cz LE GV c18 rfl (qe rfl ?_)
         exact sn [(2007, 58)] h
        ·refine Am ?_
         exact sn [(2007, 2005)] h
       ·refine Ak Ax rfl (qm rfl (AZ rfl (qe rfl ?_)))
        exact sn [(2005, 2007)] h
      ·refine AS ?_
       exact sn [(2006, 2005)] h
     ·refine Ag hs (Ak Ax rfl (qm rfl (AZ rfl (qe rfl ?_))))
      exact sn [(2003, 2006)] h
    ·refine AS ?_
     exact sn [(2004, 2003)] h
   ·refine Ag hs (Ak Ax rfl (qm rfl (AZ rfl (qe rfl ?_))))
    exact sn [(2001, 2004)] h
  ·refine AS ?_
   exact sn [(2002, 2001)] h
 ·refine Ag hs (wq rfl (qm rfl (qe rfl ?_)))
  obtain rfl := sj h
  refine Ag (sm [(1000, 2002)] [(2, oD (.own 1000))] [(1000, .vec 3 (v2.map Ac))] rfl rfl) (Au ?_)
  exact ⟨⟨[_], tm, rfl⟩, ⟨rfl, tv⟩⟩
theorem I0 (N : Nat) (p0 : List Aa) (p1 : Aa) (r : Bool) (h : EO N p0 p1 = some r) : Ar zA 43 [pD (.sl (p0.map Ac)), .e (.agg (Fs p1))] [] (bD r) := by
 unfold EO at h
 refine cw (n := 18) (rs := [.tmp 4]) Tryz.func43 fun w0 S0 => ?_
 refine wq rfl (qb rfl (qa rfl (Ad (wp rfl (qe rfl ?_)))))
 refine AE (L := Ey N p0 p1) h (fun v1 => mk [(0, pD (.sl (p0.map Ac))), (3, oD (.ptr 3 0)), (5, iD v1)] [(3, .box (Fs p1))]) (fun v2 => mk [] []) (fun _ _ => rfl) (sm [] _ _ rfl rfl) (fun j1 n1 v1 h => ?_) (fun v2 s h hs => ?_)
 ·unfold Ey at h
  refine wp rfl (qw 2 rfl (AM A3 rfl (AW rfl (Ad ?_))))
  refine Bd h (fun h => ?_) fun h => ?_
  ·refine Am (AP (AK (wq rfl (qw 2 rfl ?_))))
   refine BB h fun v4 a4 b4 h => qi A3 Cz a4 (Ah b4) rfl (qK It Cz rfl (qL It Cz rfl ?_))
   refine Us [.int .i64 v4.gt, .int .i64 v4.gr, .int .i64 v4.gu] [.int .i64 p1.gt, .int .i64 p1.gr, .int .i64 p1.gu] (.p rfl) rfl rfl QR rfl ?_
   refine AQ (by kernel_rfl) ?_
   refine Bd h (fun h => ?_) fun h => ?_
   ·refine wq rfl (qe rfl ?_)
    obtain rfl := sj h
    refine Ag (sm [] [(4, bD true)] [] rfl rfl) (Au ?_)
    exact ⟨⟨[_], tm, rfl⟩, tv⟩
   ·refine Am (Ak Ax rfl (qm rfl (AZ rfl (qe rfl ?_))))
    exact sn [] h
  ·refine AS ?_
   exact sn [] h
 ·refine Ag hs (wq rfl (qe rfl ?_))
  obtain rfl := sj h
  refine Ag (sm [] [(4, bD false)] [] rfl rfl) (Au ?_)
  exact ⟨⟨[_], tm, rfl⟩, tv⟩
theorem JR (N : Nat) (p0 : Ab) (p1 : List Aa) (r : Ab) (h : EZ N p0 p1 = some r) : Ar zA 46 [.e (.agg (Ai p0)), pD (.sl (p1.map Ac))] [(1, r.f9.map Aq), (1, r.gf.map Aq), (1, r.gj.map Aq)] (.e (.agg [.own 0, .own 1, .own 2, sC (r.ga.map AJ)])) := by
 unfold EZ at h
 refine cw (n := 122) (rs := [.cell 4 29]) Tryz.func46 fun w0 S0 => ?_
 refine wq rfl (qb rfl (qz LG rfl (Ad (wq rfl (Eb AC DR Lf rfl (qf Bu rfl (ql Bb rfl ?_)))))))
 refine F2 h fun c1 h => Hj (f := Aq) AC AC DR LX Lf (fun _ => rfl) c1 rfl (Eb AC DR Lf rfl (qf Hp rfl (ql Bb rfl ?_)))
 refine F2 h fun c2 h => Hj (f := Aq) AC AC DR LX Lf (fun _ => rfl) c2 rfl (Eb AC DR Lf rfl (qf IM rfl (ql Bb rfl ?_)))
 refine F2 h fun c3 h => Hj (f := Aq) AC AC DR LX Lf (fun _ => rfl) c3 rfl (Bm LG Xl rfl (qz LG rfl (qs BT rfl (AQ (by kernel_rfl) (wp rfl (qe rfl ?_))))))
 refine AE (L := Ca N p0 p1) h (fun v4 => mk [(1, pD (.sl (p1.map Ac))), (2, oD (.ptr 2 0)), (4, oD (.ptr 4 0)), (5, oD (.ptr 5 0)), (6, iD v4.2)] [(2, .box (Ai p0)), (4, .box [.pure (.nil0), .pure (.nil0), .pure (.nil0), .pure (.nil0)]), (5, .box [.own 2001, .own 2002, .own 2003, .own 2004]), (2001, .vec 1 (((([] : List Int)) ++ p0.f9).map Aq)), (2002, .vec 1 (((([] : List Int)) ++ p0.gf).map Aq)), (2003, .vec 1 (((([] : List Int)) ++ p0.gj).map Aq)), (2004, .dvec 6 [.s, .s, .s, .s, .x 1 [.x 1 []], .x 1 [.x 1 []]] (v4.1.map AJ))]) (fun v5 => mk [(4, oD (.ptr 4 0)), (5, oD (.ptr 5 0))] [(4, .box [.pure (.nil0), .pure (.nil0), .pure (.nil0), .pure (.nil0)]), (5, .box [.own 2005, .own 2006, .own 2007, .own 2008]), (2005, .vec 1 (((([] : List Int)) ++ p0.f9).map Aq)), (2006, .vec 1 (((([] : List Int)) ++ p0.gf).map Aq)), (2007, .vec 1 (((([] : List Int)) ++ p0.gj).map Aq)), (2008, .dvec 6 [.s, .s, .s, .s, .x 1 [.x 1 []], .x 1 [.x 1 []]] (v5.map AJ))]) (fun _ _ => rfl) ((Az 5 3 2051 6 _ rfl rfl rfl rfl).trans ((Ij 2051 6 [.s, .s, .s, .s, .x 1 [.x 1 []], .x 1 [.x 1 []]] [] [] rfl rfl).trans (sm [(2001, 15), (2002, 19), (2003, 23), (2004, 2051)] _ _ rfl rfl))) (fun j4 n4 v4 h => ?_) (fun v5 s h hs => ?_)
 ·unfold Ca at h
  refine wp rfl (qm rfl (qf Bx rfl (ql Gm rfl (AM CR rfl (AW rfl (Ad ?_))))))
  refine Bd h (fun h => ?_) fun h => ?_
  ·refine Am (AP (AK (wq rfl (qf Bx rfl (ql Gm rfl (qm rfl ?_))))))
   refine BB h fun v7 a7 b7 h => qi CR Db a7 (Ah b7) rfl (qK HB Db rfl (qz JA rfl (qs Db rfl (Ad (wq rfl (qf Fa rfl (qs TV rfl (qf E8 rfl (qs TV rfl (Ad (wp rfl (qe rfl ?_))))))))))))
   refine AE (L := Dq N p0 p1 v4) h (fun v8 => mk [(1, pD (.sl (p1.map Ac))), (2, oD (.ptr 2 0)), (4, oD (.ptr 4 0)), (5, oD (.ptr 5 0)), (6, iD v4.2), (7, oD (.ptr 7 0)), (8, iD v8.2)] [(2, .box (Ai p0)), (4, .box [.pure (.nil0), .pure (.nil0), .pure (.nil0), .pure (.nil0)]), (5, .box [.own 2009, .own 2010, .own 2011, .own 2012]), (7, .box [iC v7.gd, iC v7.ge, iC v7.gi, .pure (.val (.bool v7.gl)), .own 2013, .pure (.nil0)]), (2009, .vec 1 (((([] : List Int)) ++ p0.f9).map Aq)), (2010, .vec 1 (((([] : List Int)) ++ p0.gf).map Aq)), (2011, .vec 1 (((([] : List Int)) ++ p0.gj).map Aq)), (2012, .dvec 6 [.s, .s, .s, .s, .x 1 [.x 1 []], .x 1 [.x 1 []]] (v4.1.map AJ)), (2013, .dvec 1 [.x 1 []] (v8.1.map (DG eB)))]) (fun v9 => mk [(1, pD (.sl (p1.map Ac))), (2, oD (.ptr 2 0)), (4, oD (.ptr 4 0)), (5, oD (.ptr 5 0)), (6, iD v4.2), (7, oD (.ptr 7 0))] [(2, .box (Ai p0)), (4, .box [.pure (.nil0), .pure (.nil0), .pure (.nil0), .pure (.nil0)]), (5, .box [.own 2014, .own 2015, .own 2016, .own 2017]), (7, .box [iC v7.gd, iC v7.ge, iC v7.gi, .pure (.val (.bool v7.gl)), .own 2018, .pure (.nil0)]), (2014, .vec 1 (((([] : List Int)) ++ p0.f9).map Aq)), (2015, .vec 1 (((([] : List Int)) ++ p0.gf).map Aq)), (2016, .vec 1 (((([] : List Int)) ++ p0.gj).map Aq)), (2017, .dvec 6 [.s, .s, .s, .s, .x 1 [.x 1 []], .x 1 [.x 1 []]] (v4.1.map AJ)), (2018, .dvec 1 [.x 1 []] (v9.map (DG eB)))]) (fun _ _ => rfl) ((Az 7 4 2037 1 _ rfl rfl rfl rfl).trans ((Ij 2037 1 [.x 1 []] [] [] rfl rfl).trans (sm [(2009, 2001), (2010, 2002), (2011, 2003), (2012, 2004), (2013, 2037)] _ _ rfl rfl))) (fun j8 n8 v8 h => ?_) (fun v9 s h hs => ?_)
   ·unfold Dq at h
    refine wp rfl (qm rfl (qf Bx rfl (ql Gm rfl (qm rfl ?_))))
    refine BB h fun v10 a10 b10 h => qi CR Db a10 (Ah b10) rfl (qg Fa rfl (qk Hr rfl (AM DH rfl (AW rfl (Ad ?_)))))
    refine Bd h (fun h => ?_) fun h => ?_
    ·refine Am (AP (AK (wq rfl (Eb EG MY WF rfl (qf Bx rfl (ql Gm rfl (qm rfl ?_)))))))
     refine BB h fun v12 a12 b12 h => qi CR Db a12 (Ah b12) rfl (qg Fa rfl (qk Hr rfl (qm rfl ?_)))
     refine BB h fun v13 a13 b13 h => qi DH Is a13 (Ah b13) rfl (qk LU rfl ?_)
     refine F2 h fun c14 h => Hj (f := eB) EG EG MY Xc WF (fun _ => rfl) c14 rfl (qa rfl (Ad (wp rfl (qe rfl ?_))))
     refine AE (L := Cy N p1 v4 v8) h (fun v15 => mk [(1, pD (.sl (p1.map Ac))), (2, oD (.ptr 2 0)), (4, oD (.ptr 4 0)), (5, oD (.ptr 5 0)), (6, iD v4.2), (7, oD (.ptr 7 0)), (8, iD v8.2), (9, oD (.own 2024)), (10, iD v15.2)] [(2, .box (Ai p0)), (4, .box [.pure (.nil0), .pure (.nil0), .pure (.nil0), .pure (.nil0)]), (5, .box [.own 2019, .own 2020, .own 2021, .own 2022]), (7, .box [iC v7.gd, iC v7.ge, iC v7.gi, .pure (.val (.bool v7.gl)), .own 2023, .pure (.nil0)]), (2019, .vec 1 (((([] : List Int)) ++ p0.f9).map Aq)), (2020, .vec 1 (((([] : List Int)) ++ p0.gf).map Aq)), (2021, .vec 1 (((([] : List Int)) ++ p0.gj).map Aq)), (2022, .dvec 6 [.s, .s, .s, .s, .x 1 [.x 1 []], .x 1 [.x 1 []]] (v4.1.map AJ)), (2023, .dvec 1 [.x 1 []] (v8.1.map (DG eB))), (2024, .vec 1 (v15.1.map eB))]) (fun v16 => mk [(1, pD (.sl (p1.map Ac))), (2, oD (.ptr 2 0)), (4, oD (.ptr 4 0)), (5, oD (.ptr 5 0)), (6, iD v4.2), (7, oD (.ptr 7 0)), (8, iD v8.2), (9, oD (.own 2030))] [(2, .box (Ai p0)), (4, .box [.pure (.nil0), .pure (.nil0), .pure (.nil0), .pure (.nil0)]), (5, .box [.own 2025, .own 2026, .own 2027, .own 2028]), (7, .box [iC v7.gd, iC v7.ge, iC v7.gi, .pure (.val (.bool v7.gl)), .own 2029, .pure (.nil0)]), (2025, .vec 1 (((([] : List Int)) ++ p0.f9).map Aq)), (2026, .vec 1 (((([] : List Int)) ++ p0.gf).map Aq)), (2027, .vec 1 (((([] : List Int)) ++ p0.gj).map Aq)), (2028, .dvec 6 [.s, .s, .s, .s, .x 1 [.x 1 []], .x 1 [.x 1 []]] (v4.1.map AJ)), (2029, .dvec 1 [.x 1 []] (v8.1.map (DG eB))), (2030, .vec 1 (v16.map eB))]) (fun _ _ => rfl) (sm [(2019, 2009), (2020, 2010), (2021, 2011), (2022, 2012), (2023, 2013), (2024, 60)] _ _ rfl rfl) (fun j15 n15 v15 h => ?_) (fun v16 s h hs => ?_)
     ·unfold Cy at h
      refine wp rfl (qw 2 rfl (C3 EG rfl (AW rfl (Ad ?_))))
      refine Bd h (fun h => ?_) fun h => ?_
      ·refine Am ?_
       refine AT h (fun v18 => mk [(1, pD (.sl (p1.map Ac))), (2, oD (.ptr 2 0)), (4, oD (.ptr 4 0)), (5, oD (.ptr 5 0)), (6, iD v4.2), (7, oD (.ptr 7 0)), (8, iD v8.2), (9, oD (.own 2036)), (10, iD v15.2)] [(2, .box (Ai p0)), (4, .box [.pure (.nil0), .pure (.nil0), .pure (.nil0), .pure (.nil0)]), (5, .box [.own 2031, .own 2032, .own 2033, .own 2034]), (7, .box [iC v7.gd, iC v7.ge, iC v7.gi, .pure (.val (.bool v7.gl)), .own 2035, .pure (.nil0)]), (2031, .vec 1 (((([] : List Int)) ++ p0.f9).map Aq)), (2032, .vec 1 (((([] : List Int)) ++ p0.gf).map Aq)), (2033, .vec 1 (((([] : List Int)) ++ p0.gj).map Aq)), (2034, .dvec 6 [.s, .s, .s, .s, .x 1 [.x 1 []], .x 1 [.x 1 []]] (v4.1.map AJ)), (2035, .dvec 1 [.x 1 []] (v8.1.map (DG eB))), (2036, .vec 1 (v18.map eB))]) (fun j18 h => ?_) (fun v18 h => ?_)
       ·refine AK (Ak Ax rfl (qw 4 rfl ?_))
        refine BB h fun v19 a19 b19 h => qI EG MY a19 (Ah b19) rfl (qj UL (Ah b19) rfl (qm rfl ?_))
        refine EU 73 h rfl (fun h => ?_) fun h => ?_
        ·refine qw 6 rfl (qp rfl ?_)
         refine BB h fun v21 a21 b21 h => qI EG MY a21 (Ah b21) rfl ?_
         refine Eg rfl rfl rfl rfl (Ah b21) rfl MY rfl (Hy rfl) (Dh eB v15.1 _ true) ?_
         refine Ad ?_
         exact sn [(2031, 2019), (2032, 2020), (2033, 2021), (2034, 2022), (2035, 2023), (2036, 2024)] h
        ·refine qw 4 rfl (Bm GV Ro rfl ?_)
         refine B1 h fun v22 a22 h => AA [] (I0 N p1 ((Aa.mk v4.2 v8.2 v15.2)) v22 a22) cg rfl (qp rfl ?_)
         refine BB h fun v23 a23 b23 h => qI EG MY a23 (Ah b23) rfl ?_
         refine Eg rfl rfl rfl rfl (Ah b23) rfl MY rfl (Hy rfl) (Dh eB v15.1 _ v22) ?_
         refine Ad ?_
         exact sn [(2031, 2019), (2032, 2020), (2033, 2021), (2034, 2022), (2035, 2023), (2036, 2024)] h
       ·refine Ak Ax rfl (qm rfl (AZ rfl (qe rfl ?_)))
        exact sn [(2019, 2031), (2020, 2032), (2021, 2033), (2022, 2034), (2023, 2035), (2024, 2036)] h
      ·refine AS ?_
       exact sn [(2025, 2019), (2026, 2020), (2027, 2021), (2028, 2022), (2029, 2023), (2030, 2024)] h
     ·refine Ag hs (Ak Ax rfl (qf Fa rfl (ql Hr rfl (qm rfl ?_))))
      refine I5 (x := .one (.own 2030)) (cs := [.own 2030]) (ts := [.sl (v16.map eB)]) [.x 1 []] [(2030, .vec 1 (v16.map eB))] (.p rfl) rfl rfl rfl rfl rfl ⟨rfl, tv⟩ ⟨rfl, tv⟩ rfl rfl rfl DH Is S3 (Hy rfl) ?_
      refine F2 h fun c24 h => KV (.p rfl) rfl rfl rfl rfl rfl (by decide) DH DH Is We (Hy rfl) S3 rfl (Mo (f := (DG eB)) (g := (DG eB)) (xs := v8.1) (ys := (([v16] : List (List Bool)))) c24) (Mw (DG eB) v8.1 (([v16] : List (List Bool)))) rfl rfl ?_
      refine qf Fa rfl (qs TV rfl (Ad (Ak Ax rfl (qm rfl (AZ rfl (qe rfl ?_))))))
      exact sn [(2009, 2025), (2010, 2026), (2011, 2027), (2012, 2028), (2013, 86)] h
    ·refine AS ?_
     exact sn [(2014, 2009), (2015, 2010), (2016, 2011), (2017, 2012), (2018, 2013)] h
   ·refine Ag hs (wp rfl (qe rfl ?_))
    refine AE (L := Cs N p0 v4) h (fun v25 => mk [(1, pD (.sl (p1.map Ac))), (2, oD (.ptr 2 0)), (4, oD (.ptr 4 0)), (5, oD (.ptr 5 0)), (6, iD v4.2), (7, oD (.ptr 7 0)), (11, iD v25.2)] [(2, .box (Ai p0)), (4, .box [.pure (.nil0), .pure (.nil0), .pure (.nil0), .pure (.nil0)]), (5, .box [.own 2038, .own 2039, .own 2040, .own 2041]), (7, .box [iC v7.gd, iC v7.ge, iC v7.gi, .pure (.val (.bool v7.gl)), .own 2042, .own 2043]), (2038, .vec 1 (((([] : List Int)) ++ p0.f9).map Aq)), (2039, .vec 1 (((([] : List Int)) ++ p0.gf).map Aq)), (2040, .vec 1 (((([] : List Int)) ++ p0.gj).map Aq)), (2041, .dvec 6 [.s, .s, .s, .s, .x 1 [.x 1 []], .x 1 [.x 1 []]] (v4.1.map AJ)), (2042, .dvec 1 [.x 1 []] (v9.map (DG eB))), (2043, .dvec 1 [.x 1 []] (v25.1.map (DG eB)))]) (fun v26 => mk [(1, pD (.sl (p1.map Ac))), (2, oD (.ptr 2 0)), (4, oD (.ptr 4 0)), (5, oD (.ptr 5 0)), (6, iD v4.2), (7, oD (.ptr 7 0))] [(2, .box (Ai p0)), (4, .box [.pure (.nil0), .pure (.nil0), .pure (.nil0), .pure (.nil0)]), (5, .box [.own 2044, .own 2045, .own 2046, .own 2047]), (7, .box [iC v7.gd, iC v7.ge, iC v7.gi, .pure (.val (.bool v7.gl)), .own 2048, .own 2049]), (2044, .vec 1 (((([] : List Int)) ++ p0.f9).map Aq)), (2045, .vec 1 (((([] : List Int)) ++ p0.gf).map Aq)), (2046, .vec 1 (((([] : List Int)) ++ p0.gj).map Aq)), (2047, .dvec 6 [.s, .s, .s, .s, .x 1 [.x 1 []], .x 1 [.x 1 []]] (v4.1.map AJ)), (2048, .dvec 1 [.x 1 []] (v9.map (DG eB))), (2049, .dvec 1 [.x 1 []] (v26.map (DG eB)))]) (fun _ _ => rfl) ((Az 7 5 2050 1 _ rfl rfl rfl rfl).trans ((Ij 2050 1 [.x 1 []] [] [] rfl rfl).trans (sm [(2038, 2014), (2039, 2015), (2040, 2016), (2041, 2017), (2042, 2018), (2043, 2050)] _ _ rfl rfl))) (fun j25 n25 v25 h => ?_) (fun v26 s h hs => ?_)
    ·unfold Cs at h
     refine wp rfl (qm rfl (qf Bx rfl (ql Gm rfl (qm rfl ?_))))
     refine BB h fun v27 a27 b27 h => qi CR Db a27 (Ah b27) rfl (qg E8 rfl (qk Hr rfl (AM DH rfl (AW rfl (Ad ?_)))))
     refine Bd h (fun h => ?_) fun h => ?_
     ·refine Am (AP (AK (Ak Ax rfl (qf E8 rfl (ql Hr rfl (Eb EG MY WF rfl (qf Bx rfl (ql Gm rfl (qm rfl ?_)))))))))
      refine BB h fun v29 a29 b29 h => qi CR Db a29 (Ah b29) rfl (qg E8 rfl (qk Hr rfl (qm rfl ?_)))
      refine BB h fun v30 a30 b30 h => qi DH Is a30 (Ah b30) rfl (qk LU rfl ?_)
      refine F2 h fun c31 h => Hj (f := eB) EG EG MY Xc WF (fun _ => rfl) c31 rfl ?_
      refine I5 (x := .one (.own 111)) (cs := [.own 111]) (ts := [.sl (((([] : List Bool)) ++ v30).map eB)]) [.x 1 []] [(111, .vec 1 (((([] : List Bool)) ++ v30).map eB))] (.p rfl) rfl rfl rfl rfl rfl ⟨rfl, tv⟩ ⟨rfl, tv⟩ rfl rfl rfl DH Is S3 (Hy rfl) ?_
      refine F2 h fun c32 h => KV (.p rfl) rfl rfl rfl rfl rfl (by decide) DH DH Is We (Hy rfl) S3 rfl (Mo (f := (DG eB)) (g := (DG eB)) (xs := v25.1) (ys := (([(([] : List Bool)) ++ v30] : List (List Bool)))) c32) (Mw (DG eB) v25.1 (([(([] : List Bool)) ++ v30] : List (List Bool)))) rfl rfl ?_
      refine qf E8 rfl (qs TV rfl (AQ (by kernel_rfl) (Ak Ax rfl (qm rfl (AZ rfl (qe rfl ?_))))))
      exact sn [(2043, 113)] h
     ·refine AS ?_
      exact sn [(2044, 2038), (2045, 2039), (2046, 2040), (2047, 2041), (2048, 2042), (2049, 2043)] h
    ·refine Ag hs (Ak Ax rfl (qf Bx rfl (ql Gm rfl (qL HB Db rfl ?_))))
     refine I5 (x := .agg [iC v7.gd, iC v7.ge, iC v7.gi, .pure (.val (.bool v7.gl)), .own 2048, .own 2049]) (cs := [iC v7.gd, iC v7.ge, iC v7.gi, .pure (.val (.bool v7.gl)), .own 2048, .own 2049]) (ts := [.val (.int .i64 v7.gd), .val (.int .i64 v7.ge), .val (.int .i64 v7.gi), .val (.bool v7.gl), .sl (v9.map (DG eB)), .sl (v26.map (DG eB))]) [.s, .s, .s, .s, .x 1 [.x 1 []], .x 1 [.x 1 []]] [(2048, .dvec 1 [.x 1 []] (v9.map (DG eB))), (2049, .dvec 1 [.x 1 []] (v26.map (DG eB)))] (.p rfl) rfl rfl rfl rfl rfl ⟨rfl, rfl, tv⟩ ⟨rfl, rfl, rfl, rfl, rfl, rfl, tv⟩ rfl rfl rfl CR Db JA (Hy rfl) ?_
     refine F2 h fun c33 h => KV (.p rfl) rfl rfl rfl rfl rfl (by decide) CR CR Db X1 (Hy rfl) JA rfl (Mo (f := AJ) (g := AJ) (xs := v4.1) (ys := (([(Ao.mk v7.gd v7.ge v7.gi v7.gl v9 v26)] : List Ao))) c33) (Mw AJ v4.1 (([(Ao.mk v7.gd v7.ge v7.gi v7.gl v9 v26)] : List Ao))) rfl rfl ?_
     refine qf Bx rfl (qs ca rfl (Ad (Ak Ax rfl (qm rfl (AZ rfl (qe rfl ?_))))))
     exact sn [(2001, 2044), (2002, 2045), (2003, 2046), (2004, 119)] h
  ·refine AS ?_
   exact sn [(2005, 2001), (2006, 2002), (2007, 2003), (2008, 2004)] h
 ·refine Ag hs (wq rfl (qL CD BT rfl (qs BT rfl (Ad ?_))))
  obtain rfl := sj h
  refine Ag ((OL 2008 _ _ _ rfl rfl).trans (sm [(1000, 2005), (1001, 2006), (1002, 2007)] [(4, oD (.ptr 4 0))] [(4, .box [.own 1000, .own 1001, .own 1002, sC (v5.map AJ)]), (1000, .vec 1 (((([] : List Int)) ++ p0.f9).map Aq)), (1001, .vec 1 (((([] : List Int)) ++ p0.gf).map Aq)), (1002, .vec 1 (((([] : List Int)) ++ p0.gj).map Aq))] rfl rfl)) (Au ?_)
  exact ⟨⟨[_], ⟨.cellN _ _ _ _ _ _ _ rfl rfl CD BT rfl rfl (Km rfl), tv⟩, rfl⟩, ⟨rfl, rfl, rfl, tv⟩⟩
theorem Jc (N : Nat) (p0 : List (List Bool)) (p1 : Int) (p2 : Int) (r : Bool) (h : Ed N p0 p1 p2 = some r) : Ar zA 83 [pD (.sl (p0.map (DG eB))), iD p1, iD p2] [] (bD r) := by
 unfold Ed at h
 refine cw (n := 24) (rs := [.tmp 6]) Tryz.func83 fun w0 S0 => ?_
 refine wq rfl (qa rfl (Ad (wp rfl (qm rfl (AM DH rfl (qm rfl (BF rfl (Ad ?_))))))))
 refine Bd h (fun h => ?_) fun h => ?_
 ·refine wq rfl (qe rfl ?_)
  obtain rfl := sj h
  refine Ag (sm [] [(6, bD false)] [] rfl rfl) (Au ?_)
  exact ⟨⟨[_], tm, rfl⟩, tv⟩
 ·refine Am (wp rfl (qe rfl ?_))
  refine AE (L := CS N p0 p1 p2) h (fun v2 => mk [(0, pD (.sl (p0.map (DG eB)))), (1, iD p1), (2, iD p2), (7, iD v2)] []) (fun v3 => mk [] []) (fun _ _ => rfl) (sm [] _ _ rfl rfl) (fun j2 n2 v2 h => ?_) (fun v3 s h hs => ?_)
  ·unfold CS at h
   refine wp rfl (qw 2 rfl (AW rfl (Ad ?_)))
   refine Bd h (fun h => ?_) fun h => ?_
   ·refine Am (AP (AK (wq rfl (qw 2 rfl ?_))))
    refine BB h fun v5 a5 b5 h => qi DH Is a5 (Ah b5) rfl (qk LU rfl (AM EG rfl (qm rfl (BF rfl (Ad ?_)))))
    refine Bd h (fun h => ?_) fun h => ?_
    ·refine wq rfl (qe rfl ?_)
     obtain rfl := sj h
     refine Ag (sm [] [(6, bD false)] [] rfl rfl) (Au ?_)
     exact ⟨⟨[_], tm, rfl⟩, tv⟩
    ·refine Am (Ak Ax rfl (qm rfl (AZ rfl (qe rfl ?_))))
     exact sn [] h
   ·refine AS ?_
    exact sn [] h
  ·refine Ag hs (wq rfl (qe rfl ?_))
   obtain rfl := sj h
   refine Ag (sm [] [(6, bD true)] [] rfl rfl) (Au ?_)
   exact ⟨⟨[_], tm, rfl⟩, tv⟩
theorem MD (N : Nat) (p0 : Ab) (p1 : Ao) (r : Int) (h : FD N p0 p1 = some r) : Ar zA 55 [.e (.agg (Ai p0)), .e (.agg (Bj p1))] [] (iD r) := by
 unfold FD at h
 refine cw (n := 101) (rs := [.tmp 4]) Tryz.func55 fun w0 S0 => ?_
 refine wq rfl (qb rfl (qb rfl (qa rfl (Ad (AP ?_)))))
 refine AT h (fun v1 => mk [(2, oD (.ptr 2 0)), (3, oD (.ptr 3 0)), (22, bD v1)] [(2, .box (Ai p0)), (3, .box (Bj p1))]) (fun j1 h => ?_) (fun v1 h => ?_)
 ·refine Ak Ax rfl (qf Hn rfl (ql Cr rfl (AW rfl (qm rfl ?_))))
  refine EU 10 h rfl (fun h => ?_) fun h => ?_
  ·refine qw 3 rfl (qp rfl (qw 4 rfl (qu rfl (qu rfl (qn rfl (qp rfl (Ad ?_)))))))
   exact sn [] h
  ·refine qf Hn rfl (ql Cr rfl (GE rfl (qp rfl (qm rfl ?_))))
   refine EU 15 h rfl (fun h => ?_) fun h => ?_
   ·refine qw 3 rfl (qu rfl (qu rfl (qn rfl (qp rfl (Ad ?_)))))
    exact sn [] h
   ·refine qf Kw rfl (ql UL rfl (qm rfl ?_))
    refine EU 18 h rfl (fun h => ?_) fun h => ?_
    ·refine qL HB Db rfl ?_
     refine B1 h fun v5 a5 h => AA [] (CF N p1 v5 a5) SN rfl (qp rfl (qp rfl (Ad ?_)))
     exact sn [] h
    ·refine qw 2 rfl (qp rfl (qp rfl (Ad ?_)))
     exact sn [] h
 ·refine Bd h (fun h => ?_) fun h => ?_
  ·refine wq rfl (qe rfl ?_)
   obtain rfl := sj h
   refine Ag (sm [] [(4, iD 1)] [] rfl rfl) (Au ?_)
   exact ⟨⟨[_], tm, rfl⟩, tv⟩
  ·refine Am (wq rfl (qf Bu rfl (ql Bb rfl (AM AC rfl (qa rfl (Ad (AP ?_)))))))
   refine AT h (fun v7 => mk [(2, oD (.ptr 2 0)), (3, oD (.ptr 3 0)), (45, bD v7)] [(2, .box (Ai p0)), (3, .box (Bj p1))]) (fun j7 h => ?_) (fun v7 h => ?_)
   ·refine Ak Ax rfl (qf DZ rfl (ql Cr rfl (AW rfl (qm rfl ?_))))
    refine EU 29 h rfl (fun h => ?_) fun h => ?_
    ·refine qw 4 rfl (qp rfl (qw 4 rfl (qp rfl (qw 5 rfl (qp rfl (Ad ?_))))))
     exact sn [] h
    ·refine qf DZ rfl (ql Cr rfl (qm rfl (F9 rfl (qp rfl (qm rfl ?_)))))
     refine EU 35 h rfl (fun h => ?_) fun h => ?_
     ·refine qw 3 rfl (qp rfl (qw 5 rfl (qp rfl (Ad ?_))))
      exact sn [] h
     ·refine qf JD rfl (ql Cr rfl (AW rfl (qp rfl (qm rfl ?_))))
      refine EU 40 h rfl (fun h => ?_) fun h => ?_
      ·refine qw 4 rfl (qp rfl (Ad ?_))
       exact sn [] h
      ·refine qf JD rfl (ql Cr rfl (qm rfl (F9 rfl (qp rfl (Ad ?_)))))
       exact sn [] h
   ·refine Bd h (fun h => ?_) fun h => ?_
    ·refine wq rfl (qe rfl ?_)
     obtain rfl := sj h
     refine Ag (sm [] [(4, iD 4)] [] rfl rfl) (Au ?_)
     exact ⟨⟨[_], tm, rfl⟩, tv⟩
    ·refine Am (wp rfl (qf Fa rfl (ql Hr rfl (qf Bu rfl (ql Bb rfl (qf DZ rfl (ql Cr rfl ?_)))))))
     refine BB h fun v12 a12 b12 h => qi AC DR a12 (Ah b12) rfl (qk Cr rfl (qf Bu rfl (ql Bb rfl (qf JD rfl (ql Cr rfl ?_)))))
     refine BB h fun v13 a13 b13 h => qi AC DR a13 (Ah b13) rfl (qk Cr rfl ?_)
     refine B1 h fun v14 a14 h => AA [] (Jc N p1.gh v12 v13 v14 a14) ed rfl (CQ rfl (AQ (by kernel_rfl) ?_))
     refine Bd h (fun h => ?_) fun h => ?_
     ·refine wq rfl (qe rfl ?_)
      obtain rfl := sj h
      refine Ag (sm [] [(4, iD 6)] [] rfl rfl) (Au ?_)
      exact ⟨⟨[_], tm, rfl⟩, tv⟩
     ·refine Am (wp rfl (qf Hn rfl (ql Cr rfl (BF rfl (Ad ?_)))))
      refine Bd h (fun h => ?_) fun h => ?_
      ·refine wp rfl (qf E8 rfl (ql Hr rfl (AM DH rfl (BF rfl (Ad ?_)))))
       refine Bd h (fun h => ?_) fun h => ?_
       ·refine wq rfl (qe rfl ?_)
        obtain rfl := sj h
        refine Ag (sm [] [(4, iD 6)] [] rfl rfl) (Au ?_)
        exact ⟨⟨[_], tm, rfl⟩, tv⟩
       ·refine Am (wq rfl (qe rfl ?_))
        obtain rfl := sj h
        refine Ag (sm [] [(4, iD 0)] [] rfl rfl) (Au ?_)
        exact ⟨⟨[_], tm, rfl⟩, tv⟩
      ·refine Am (wp rfl (qf E8 rfl (ql Hr rfl (qf Bu rfl (ql Bb rfl (qf DZ rfl (ql Cr rfl ?_)))))))
       refine BB h fun v18 a18 b18 h => qi AC DR a18 (Ah b18) rfl (qk Cr rfl (qf Bu rfl (ql Bb rfl (qf DZ rfl (ql Cr rfl ?_)))))
       refine BB h fun v19 a19 b19 h => qi AC DR a19 (Ah b19) rfl (qk Cr rfl ?_)
       refine B1 h fun v20 a20 h => AA [] (Jc N p1.gk v18 v19 v20 a20) ed rfl (CQ rfl (AQ (by kernel_rfl) ?_))
       refine Bd h (fun h => ?_) fun h => ?_
       ·refine wq rfl (qe rfl ?_)
        obtain rfl := sj h
        refine Ag (sm [] [(4, iD 6)] [] rfl rfl) (Au ?_)
        exact ⟨⟨[_], tm, rfl⟩, tv⟩
       ·refine Am (wp rfl (qe rfl ?_))
        refine AE (L := Ch N p1) h (fun v22 => mk [(3, oD (.ptr 3 0)), (6, iD v22)] [(3, .box (Bj p1))]) (fun v23 => mk [] []) (fun _ _ => rfl) (sm [] _ _ rfl rfl) (fun j22 n22 v22 h => ?_) (fun v23 s h hs => ?_)
        ·unfold Ch at h
         refine wp rfl (qm rfl (qf E8 rfl (ql Hr rfl (AM DH rfl (AW rfl (Ad ?_))))))
         refine Bd h (fun h => ?_) fun h => ?_
         ·refine Am (AP (AK (wq rfl (qf E8 rfl (ql Hr rfl (qm rfl ?_))))))
          refine BB h fun v25 a25 b25 h => qi DH Is a25 (Ah b25) rfl (qk LU rfl (qm rfl ?_))
          refine BB h fun v26 a26 b26 h => qi EG MY a26 (Ah b26) rfl (qk UL rfl (CQ rfl (Ad ?_)))
          refine Bd h (fun h => ?_) fun h => ?_
          ·refine wq rfl (qe rfl ?_)
           obtain rfl := sj h
           refine Ag (sm [] [(4, iD 1)] [] rfl rfl) (Au ?_)
           exact ⟨⟨[_], tm, rfl⟩, tv⟩
          ·refine Am (Ak Ax rfl (qm rfl (AZ rfl (qe rfl ?_))))
           exact sn [] h
         ·refine AS ?_
          exact sn [] h
        ·refine Ag hs (wq rfl (qe rfl ?_))
         obtain rfl := sj h
         refine Ag (sm [] [(4, iD 0)] [] rfl rfl) (Au ?_)
         exact ⟨⟨[_], tm, rfl⟩, tv⟩
theorem F7 (N : Nat) (p0 : Ab) (r : Int) (h : Cb N p0 = some r) : Ar zA 31 [.e (.agg (Ai p0))] [] (iD r) := by
 unfold Cb at h
 refine cw (n := 102) (rs := [.tmp 2]) Tryz.func31 fun w0 S0 => ?_
 refine wq rfl (qb rfl (qa rfl (Ad (AP ?_))))
 refine AT h (fun v1 => mk [(1, oD (.ptr 1 0)), (16, bD v1)] [(1, .box (Ai p0))]) (fun j1 h => ?_) (fun v1 h => ?_)
 ·refine Ak Ax rfl (qf Bu rfl (ql Bb rfl (AM AC rfl (GE rfl (qm rfl ?_)))))
  refine EU 11 h rfl (fun h => ?_) fun h => ?_
  ·refine qw 4 rfl (qp rfl (Ad ?_))
   exact sn [] h
  ·refine qf Bx rfl (ql Gm rfl (AM CR rfl (GE rfl (qp rfl (Ad ?_)))))
   exact sn [] h
 ·refine Bd h (fun h => ?_) fun h => ?_
  ·refine wq rfl (qe rfl ?_)
   obtain rfl := sj h
   refine Ag (sm [] [(2, iD 3)] [] rfl rfl) (Au ?_)
   exact ⟨⟨[_], tm, rfl⟩, tv⟩
  ·refine Am (AP ?_)
   refine AT h (fun v4 => mk [(1, oD (.ptr 1 0)), (32, bD v4)] [(1, .box (Ai p0))]) (fun j4 h => ?_) (fun v4 h => ?_)
   ·refine Ak Ax rfl (qf Hp rfl (ql Bb rfl (AM AC rfl (qf Bu rfl (ql Bb rfl (AM AC rfl (BF rfl (qm rfl ?_))))))))
    refine EU 24 h rfl (fun h => ?_) fun h => ?_
    ·refine qw 7 rfl (qp rfl (Ad ?_))
     exact sn [] h
    ·refine qf IM rfl (ql Bb rfl (AM AC rfl (qf Bu rfl (ql Bb rfl (AM AC rfl (BF rfl (qp rfl (Ad ?_))))))))
     exact sn [] h
   ·refine Bd h (fun h => ?_) fun h => ?_
    ·refine wq rfl (qe rfl ?_)
     obtain rfl := sj h
     refine Ag (sm [] [(2, iD 6)] [] rfl rfl) (Au ?_)
     exact ⟨⟨[_], tm, rfl⟩, tv⟩
    ·refine Am (wp rfl (qe rfl ?_))
     refine AE (L := Bq N p0) h (fun v7 => mk [(1, oD (.ptr 1 0)), (3, iD v7)] [(1, .box (Ai p0))]) (fun v8 => mk [(1, oD (.ptr 1 0))] [(1, .box (Ai p0))]) (fun _ _ => rfl) (sm [] _ _ rfl rfl) (fun j7 n7 v7 h => ?_) (fun v8 s h hs => ?_)
     ·unfold Bq at h
      refine wp rfl (qm rfl (qf Bu rfl (ql Bb rfl (AM AC rfl (AW rfl (Ad ?_))))))
      refine Bd h (fun h => ?_) fun h => ?_
      ·refine Am (AP (AK (wq rfl (qf Bu rfl (ql Bb rfl (qm rfl ?_))))))
       refine BB h fun v10 a10 b10 h => qi AC DR a10 (Ah b10) rfl (qk Cr rfl (qe rfl ?_))
       refine AT h (fun v11 => mk [(1, oD (.ptr 1 0)), (3, iD v7), (84, bD v11)] [(1, .box (Ai p0))]) (fun j11 h => ?_) (fun v11 h => ?_)
       ·refine Ak Ax rfl (qm rfl (AW rfl (qm rfl ?_)))
        refine EU 47 h rfl (fun h => ?_) fun h => ?_
        ·refine qw 2 rfl (qp rfl (qw 7 rfl (qp rfl (qw 8 rfl (qp rfl (qw 7 rfl (qp rfl (qw 8 rfl (qp rfl (Ad ?_))))))))))
         exact sn [] h
        ·refine qm rfl (GE rfl (qp rfl (qm rfl ?_)))
         refine EU 51 h rfl (fun h => ?_) fun h => ?_
         ·refine qw 6 rfl (qp rfl (qw 8 rfl (qp rfl (qw 7 rfl (qp rfl (qw 8 rfl (qp rfl (Ad ?_))))))))
          exact sn [] h
         ·refine qf Hp rfl (ql Bb rfl (qm rfl ?_))
          refine BB h fun v14 a14 b14 h => qi AC DR a14 (Ah b14) rfl (qk Cr rfl (AW rfl (qp rfl (qm rfl ?_))))
          refine EU 59 h rfl (fun h => ?_) fun h => ?_
          ·refine qw 7 rfl (qp rfl (qw 7 rfl (qp rfl (qw 8 rfl (qp rfl (Ad ?_))))))
           exact sn [] h
          ·refine qf Hp rfl (ql Bb rfl (qm rfl ?_))
           refine BB h fun v16 a16 b16 h => qi AC DR a16 (Ah b16) rfl (qk Cr rfl (qm rfl (F9 rfl (qp rfl (qm rfl ?_)))))
           refine EU 68 h rfl (fun h => ?_) fun h => ?_
           ·refine qw 6 rfl (qp rfl (qw 8 rfl (qp rfl (Ad ?_))))
            exact sn [] h
           ·refine qf IM rfl (ql Bb rfl (qm rfl ?_))
            refine BB h fun v18 a18 b18 h => qi AC DR a18 (Ah b18) rfl (qk Cr rfl (AW rfl (qp rfl (qm rfl ?_))))
            refine EU 76 h rfl (fun h => ?_) fun h => ?_
            ·refine qw 7 rfl (qp rfl (Ad ?_))
             exact sn [] h
            ·refine qf IM rfl (ql Bb rfl (qm rfl ?_))
             refine BB h fun v20 a20 b20 h => qi AC DR a20 (Ah b20) rfl (qk Cr rfl (qm rfl (F9 rfl (qp rfl (Ad ?_)))))
             exact sn [] h
       ·refine Bd h (fun h => ?_) fun h => ?_
        ·refine wq rfl (qe rfl ?_)
         obtain rfl := sj h
         refine Ag (sm [] [(2, iD 7)] [] rfl rfl) (Au ?_)
         exact ⟨⟨[_], tm, rfl⟩, tv⟩
        ·refine Am (Ak Ax rfl (qm rfl (AZ rfl (qe rfl ?_))))
         exact sn [] h
      ·refine AS ?_
       exact sn [] h
     ·refine Ag hs (wp rfl (qe rfl ?_))
      refine AE (L := Bg N p0) h (fun v22 => mk [(1, oD (.ptr 1 0)), (5, iD v22)] [(1, .box (Ai p0))]) (fun v23 => mk [] []) (fun _ _ => rfl) (sm [] _ _ rfl rfl) (fun j22 n22 v22 h => ?_) (fun v23 s h hs => ?_)
      ·unfold Bg at h
       refine wp rfl (qm rfl (qf Bx rfl (ql Gm rfl (AM CR rfl (AW rfl (Ad ?_))))))
       refine Bd h (fun h => ?_) fun h => ?_
       ·refine Am (AP (AK (wq rfl (qL CD BT rfl (qf Bx rfl (ql Gm rfl (qm rfl ?_)))))))
        refine BB h fun v25 a25 b25 h => qi CR Db a25 (Ah b25) rfl (qK HB Db rfl ?_)
        refine B1 h fun v26 a26 h => AA [] (MD N p0 v25 v26 a26) fo rfl (qa rfl (AQ (by kernel_rfl) (wq rfl (qm rfl (BF rfl (Ad ?_))))))
        refine Bd h (fun h => ?_) fun h => ?_
        ·refine wq rfl (qm rfl (qe rfl ?_))
         obtain rfl := sj h
         refine Ag (sm [] [(2, iD v26)] [] rfl rfl) (Au ?_)
         exact ⟨⟨[_], tm, rfl⟩, tv⟩
        ·refine Am (Ak Ax rfl (qm rfl (AZ rfl (qe rfl ?_))))
         exact sn [] h
       ·refine AS ?_
        exact sn [] h
      ·refine Ag hs (wq rfl (qe rfl ?_))
       obtain rfl := sj h
       refine Ag (sm [] [(2, iD 0)] [] rfl rfl) (Au ?_)
       exact ⟨⟨[_], tm, rfl⟩, tv⟩
theorem Ju (N : Nat) (p0 : Ab) (r : Ae × Int) (h : Ep N p0 = some r) : Ar zA 78 [.e (.agg (Ai p0))] [(1, r.1.gb.map Aq), (1, r.1.f7.map Aq), (1, r.1.gc.map El)] (.tup [.agg [.own 0, .own 1, .own 2], .one (iC r.2)]) := by
 unfold Ep at h
 refine cw (n := 68) (rs := [.cell 2 64, .tmp 3]) Tryz.func78 fun w0 S0 => ?_
 refine wq rfl (qb rfl (qz Fm rfl (qa rfl (Ad (wp rfl (qL CD BT rfl ?_))))))
 refine B1 h fun v1 a1 h => AA [] (F7 N p0 v1 a1) bZ rfl (qa rfl (Ad (wq rfl (qm rfl (BF rfl (Ad ?_))))))
 refine Bd h (fun h => ?_) fun h => ?_
 ·refine wq rfl (Bm Fm JH rfl (qm rfl (qs A2 rfl (qe rfl ?_))))
  obtain rfl := sj h
  refine Ag ((Az 2 0 2001 1 _ rfl rfl rfl rfl).trans ((Az 2 1 2002 1 _ rfl rfl rfl rfl).trans ((Az 2 2 2003 1 _ rfl rfl rfl rfl).trans (sm [(1000, 2001), (1001, 2002), (1002, 2003)] [(2, oD (.ptr 2 0)), (3, iD v1)] [(2, .box [.own 1000, .own 1001, .own 1002]), (1000, .vec 1 ((([] : List Int)).map Aq)), (1001, .vec 1 ((([] : List Int)).map Aq)), (1002, .vec 1 ((([] : List Int)).map El))] rfl rfl)))) (Au ?_)
  exact ⟨⟨[_, _], ⟨.cellN _ _ _ _ _ _ _ rfl rfl B7 A2 rfl rfl (Km rfl), tm⟩, rfl⟩, ⟨rfl, rfl, rfl, tv⟩⟩
 ·refine Am (wq rfl (qz Fm rfl (Ad (wp rfl (qe rfl ?_)))))
  refine AE (L := Cv N p0) h (fun v3 => mk [(1, oD (.ptr 1 0)), (2, oD (.ptr 2 0)), (5, oD (.ptr 5 0)), (6, iD v3.2.2)] [(1, .box (Ai p0)), (2, .box [.pure (.nil0), .pure (.nil0), .pure (.nil0)]), (5, .box [.own 2004, .own 2005, .pure (.nil0)]), (2004, .vec 1 (v3.1.map Aq)), (2005, .vec 1 (v3.2.1.map Aq))]) (fun v4 => mk [(1, oD (.ptr 1 0)), (2, oD (.ptr 2 0)), (5, oD (.ptr 5 0))] [(1, .box (Ai p0)), (2, .box [.pure (.nil0), .pure (.nil0), .pure (.nil0)]), (5, .box [.own 2006, .own 2007, .pure (.nil0)]), (2006, .vec 1 (v4.1.map Aq)), (2007, .vec 1 (v4.2.map Aq))]) (fun _ _ => rfl) ((Az 5 0 2008 1 _ rfl rfl rfl rfl).trans ((Az 5 1 2009 1 _ rfl rfl rfl rfl).trans (sm [(2004, 2008), (2005, 2009)] _ _ rfl rfl))) (fun j3 n3 v3 h => ?_) (fun v4 s h hs => ?_)
  ·unfold Cv at h
   refine wp rfl (qm rfl (qf Bu rfl (ql Bb rfl (AM AC rfl (AW rfl (Ad ?_))))))
   refine Bd h (fun h => ?_) fun h => ?_
   ·refine Am (AP (AK (wq rfl (qf Dp rfl (ql Bb rfl (qf Hp rfl (ql Bb rfl (qm rfl ?_))))))))
    refine BB h fun v6 a6 b6 h => qi AC DR a6 (Ah b6) rfl (qk Cr rfl (Eb AC DR Lf rfl ?_))
    refine F2 h fun c7 h => DE (f := Aq) AC AC DR LX Lf c7 rfl (qf Dp rfl (qs W7 rfl (AQ (by kernel_rfl) (Ak Ax rfl (qf BO rfl (ql Bb rfl (Eb AC DR Lf rfl ?_)))))))
    refine F2 h fun c8 h => DE (f := Aq) AC AC DR LX Lf c8 rfl (qf BO rfl (qs W7 rfl (Ad (Ak Ax rfl (qm rfl (AZ rfl (qe rfl ?_)))))))
    exact sn [(2004, 30), (2005, 35)] h
   ·refine AS ?_
    exact sn [(2006, 2004), (2007, 2005)] h
  ·refine Ag hs (wp rfl (qe rfl ?_))
   refine AE (L := Bo N p0) h (fun v9 => mk [(1, oD (.ptr 1 0)), (2, oD (.ptr 2 0)), (5, oD (.ptr 5 0)), (7, iD v9.2)] [(1, .box (Ai p0)), (2, .box [.pure (.nil0), .pure (.nil0), .pure (.nil0)]), (5, .box [.own 2010, .own 2011, .own 2012]), (2010, .vec 1 (v4.1.map Aq)), (2011, .vec 1 (v4.2.map Aq)), (2012, .vec 1 (v9.1.map El))]) (fun v10 => mk [(2, oD (.ptr 2 0)), (5, oD (.ptr 5 0))] [(2, .box [.pure (.nil0), .pure (.nil0), .pure (.nil0)]), (5, .box [.own 2013, .own 2014, .own 2015]), (2013, .vec 1 (v4.1.map Aq)), (2014, .vec 1 (v4.2.map Aq)), (2015, .vec 1 (v10.map El))]) (fun _ _ => rfl) ((Az 5 2 2019 1 _ rfl rfl rfl rfl).trans (sm [(2010, 2006), (2011, 2007), (2012, 2019)] _ _ rfl rfl)) (fun j9 n9 v9 h => ?_) (fun v10 s h hs => ?_)
   ·unfold Bo at h
    refine wp rfl (qm rfl (qf Bx rfl (ql Gm rfl (AM CR rfl (AW rfl (Ad ?_))))))
    refine Bd h (fun h => ?_) fun h => ?_
    ·refine Am (AP (AK (wq rfl (qe rfl ?_))))
     refine AT h (fun v12 => mk [(1, oD (.ptr 1 0)), (2, oD (.ptr 2 0)), (5, oD (.ptr 5 0)), (7, iD v9.2), (8, pD (.val (.int .u8 v12)))] [(1, .box (Ai p0)), (2, .box [.pure (.nil0), .pure (.nil0), .pure (.nil0)]), (5, .box [.own 2016, .own 2017, .own 2018]), (2016, .vec 1 (v4.1.map Aq)), (2017, .vec 1 (v4.2.map Aq)), (2018, .vec 1 (v9.1.map El))]) (fun j12 h => ?_) (fun v12 h => ?_)
     ·refine wq rfl (qf Bx rfl (ql Gm rfl (qm rfl ?_)))
      refine BB h fun v13 a13 b13 h => qi CR Db a13 (Ah b13) rfl (qK HB Db rfl ?_)
      refine B1 h fun v14 a14 h => AA [] (CF N v13 v14 a14) SN rfl (Ad ?_)
      refine Bd h (fun h => ?_) fun h => ?_
      ·refine Ak Ax rfl (qf Hp rfl (ql Bb rfl (qf Bx rfl (ql Gm rfl (qm rfl ?_)))))
       refine BB h fun v16 a16 b16 h => qi CR Db a16 (Ah b16) rfl (qg DZ rfl (qk Cr rfl ?_))
       refine BB h fun v17 a17 b17 h => qi AC DR a17 (Ah b17) rfl (qk Cr rfl ?_)
       refine F2 h fun c18 h => Kq rfl c18 (qa rfl (AQ (by kernel_rfl) ?_))
       exact sn [(2016, 2010), (2017, 2011), (2018, 2012)] h
      ·refine Am ?_
       exact sn [(2016, 2010), (2017, 2011), (2018, 2012)] h
     ·refine Ak Ax rfl (qf Do rfl (ql Ir rfl (qm rfl (Eb Ev Hq Ti rfl ?_))))
      refine F2 h fun c19 h => DE (f := El) Ev Ev Hq Uh Ti c19 rfl (qf Do rfl (qs fW rfl (Ad (Ak Ax rfl (qm rfl (AZ rfl (qe rfl ?_)))))))
      exact sn [(2010, 2016), (2011, 2017), (2012, 65)] h
    ·refine AS ?_
     exact sn [(2013, 2010), (2014, 2011), (2015, 2012)] h
   ·refine Ag hs (wq rfl (qL B7 A2 rfl (qs A2 rfl (qe rfl ?_))))
    obtain rfl := sj h
    refine Ag (sm [(1000, 2013), (1001, 2014), (1002, 2015)] [(2, oD (.ptr 2 0)), (3, iD 0)] [(2, .box [.own 1000, .own 1001, .own 1002]), (1000, .vec 1 (v4.1.map Aq)), (1001, .vec 1 (v4.2.map Aq)), (1002, .vec 1 (v10.map El))] rfl rfl) (Au ?_)
    exact ⟨⟨[_, _], ⟨.cellN _ _ _ _ _ _ _ rfl rfl B7 A2 rfl rfl (Km rfl), tm⟩, rfl⟩, ⟨rfl, rfl, rfl, tv⟩⟩
theorem L7 (N : Nat) (p0 : Ae) (r : Ae) (h : Fb N p0 = some r) : Ar zA 144 [.e (.agg (AL p0))] [(1, r.gb.map Aq), (1, r.f7.map Aq), (1, r.gc.map El)] (.e (.agg [.own 0, .own 1, .own 2])) := by
 unfold Fb at h
 refine cw (n := 16) (rs := [.cell 2 64]) Tryz.func144 fun w0 S0 => ?_
 refine wq rfl (qb rfl (qz Fm rfl (Ad (wq rfl (Eb AC DR Lf rfl (qf Dp rfl (ql Bb rfl ?_)))))))
 refine F2 h fun c1 h => Hj (f := Aq) AC AC DR LX Lf (fun _ => rfl) c1 rfl (Eb AC DR Lf rfl (qf BO rfl (ql Bb rfl ?_)))
 refine F2 h fun c2 h => Hj (f := Aq) AC AC DR LX Lf (fun _ => rfl) c2 rfl (Eb Ev Hq Ti rfl (qf Do rfl (ql Ir rfl ?_)))
 refine F2 h fun c3 h => Hj (f := El) Ev Ev Hq Uh Ti (fun _ => rfl) c3 rfl (Bm Fm JH rfl (qs A2 rfl (AQ (by kernel_rfl) ?_)))
 obtain rfl := sj h
 refine Ag (sm [(1000, 6), (1001, 10), (1002, 14)] [(2, oD (.ptr 2 0))] [(2, .box [.own 1000, .own 1001, .own 1002]), (1000, .vec 1 (((([] : List Int)) ++ p0.gb).map Aq)), (1001, .vec 1 (((([] : List Int)) ++ p0.f7).map Aq)), (1002, .vec 1 (((([] : List Int)) ++ p0.gc).map El))] rfl rfl) (Au ?_)
 exact ⟨⟨[_], ⟨.cellN _ _ _ _ _ _ _ rfl rfl B7 A2 rfl rfl (Km rfl), tv⟩, rfl⟩, ⟨rfl, rfl, rfl, tv⟩⟩
theorem NM (N : Nat) (p0 : Ae) (r : (List Ae)) (h : Fn N p0 = some r) : Ar zA 117 [.e (.agg (AL p0))] [(3, r.map FL)] (oD (.own 0)) := by
 unfold Fn at h
 refine cw (n := 62) (rs := [.tmp 2]) Tryz.func117 fun w0 S0 => ?_
 refine wq rfl (qb rfl (qa rfl (Ad (wq rfl (qa rfl (Ad (wp rfl (qe rfl ?_))))))))
 refine AE (L := CZ N p0) h (fun v1 => mk [(1, oD (.ptr 1 0)), (3, iD v1.1), (4, iD v1.2)] [(1, .box (AL p0))]) (fun v2 => mk [(1, oD (.ptr 1 0)), (3, iD v2)] [(1, .box (AL p0))]) (fun _ _ => rfl) (sm [] _ _ rfl rfl) (fun j1 n1 v1 h => ?_) (fun v2 s h hs => ?_)
 ·unfold CZ at h
  refine wp rfl (qm rfl (qf BO rfl (ql Bb rfl (AM AC rfl (AW rfl (Ad ?_))))))
  refine Bd h (fun h => ?_) fun h => ?_
  ·refine Am ?_
   refine AT h (fun v4 => mk [(1, oD (.ptr 1 0)), (3, iD v4), (4, iD v1.2)] [(1, .box (AL p0))]) (fun j4 h => ?_) (fun v4 h => ?_)
   ·refine AK (wq rfl (qf BO rfl (ql Bb rfl (qm rfl ?_))))
    refine BB h fun v5 a5 b5 h => qi AC DR a5 (Ah b5) rfl (qk Cr rfl (F9 rfl (Ad ?_)))
    refine Bd h (fun h => ?_) fun h => ?_
    ·refine Ak Ax rfl (qm rfl (AZ rfl (qe rfl ?_)))
     exact sn [] h
    ·refine Am ?_
     exact sn [] h
   ·refine Ak Ax rfl (qm rfl (AZ rfl (qe rfl ?_)))
    exact sn [] h
  ·refine AS ?_
   exact sn [] h
 ·refine Ag hs (wq rfl (qa rfl (Ad (wp rfl (qe rfl ?_)))))
  refine AE (L := BH N p0 v2) h (fun v7 => mk [(1, oD (.ptr 1 0)), (3, iD v2), (5, oD (.own 2001)), (6, iD v7.2)] [(1, .box (AL p0)), (2001, .vec 3 (v7.1.map FL))]) (fun v8 => mk [(5, oD (.own 2002))] [(2002, .vec 3 (v8.map FL))]) (fun _ _ => rfl) ((AU 5 2022 3 rfl rfl rfl).trans (sm [(2001, 2022)] _ _ rfl rfl)) (fun j7 n7 v7 h => ?_) (fun v8 s h hs => ?_)
  ·unfold BH at h
   refine wp rfl (qw 2 rfl ?_)
   refine F2 h fun c9 h => Kq rfl c9 (AW rfl (Ad ?_))
   refine Bd h (fun h => ?_) fun h => ?_
   ·refine Am (AP (AK (wq rfl (qL B7 A2 rfl ?_))))
    refine B1 h fun v11 a11 h => AA [2003, 2004, 2005] (L7 N p0 v11 a11) dq rfl (qz Fm rfl (qs A2 rfl (Ad (wq rfl (qa rfl (Ad (wp rfl (qe rfl ?_))))))))
    refine AE (L := Ce N p0 v7) h (fun v12 => mk [(1, oD (.ptr 1 0)), (3, iD v2), (5, oD (.own 2009)), (6, iD v7.2), (7, oD (.ptr 7 0)), (8, iD v12.2.1), (9, iD v12.2.2)] [(1, .box (AL p0)), (7, .box [.own 2006, .own 2007, .own 2008]), (2006, .vec 1 (v11.gb.map Aq)), (2007, .vec 1 (v12.1.map Aq)), (2008, .vec 1 (v11.gc.map El)), (2009, .vec 3 (v7.1.map FL))]) (fun v13 => mk [(1, oD (.ptr 1 0)), (3, iD v2), (5, oD (.own 2013)), (6, iD v7.2), (7, oD (.ptr 7 0))] [(1, .box (AL p0)), (7, .box [.own 2010, .own 2011, .own 2012]), (2010, .vec 1 (v11.gb.map Aq)), (2011, .vec 1 (v13.map Aq)), (2012, .vec 1 (v11.gc.map El)), (2013, .vec 3 (v7.1.map FL))]) (fun _ _ => rfl) (sm [(2006, 2003), (2007, 2004), (2008, 2005), (2009, 2001)] _ _ rfl rfl) (fun j12 n12 v12 h => ?_) (fun v13 s h hs => ?_)
    ·unfold Ce at h
     refine wp rfl (qm rfl (qf BO rfl (ql Bb rfl (AM AC rfl (AW rfl (Ad ?_))))))
     refine Bd h (fun h => ?_) fun h => ?_
     ·refine Am ?_
      refine AT h (fun v15 => mk [(1, oD (.ptr 1 0)), (3, iD v2), (5, oD (.own 2017)), (6, iD v7.2), (7, oD (.ptr 7 0)), (8, iD v15.2), (9, iD v12.2.2)] [(1, .box (AL p0)), (7, .box [.own 2014, .own 2015, .own 2016]), (2014, .vec 1 (v11.gb.map Aq)), (2015, .vec 1 (v15.1.map Aq)), (2016, .vec 1 (v11.gc.map El)), (2017, .vec 3 (v7.1.map FL))]) (fun j15 h => ?_) (fun v15 h => ?_)
      ·refine AK (wp rfl (qf BO rfl (ql Bb rfl (qm rfl ?_))))
       refine BB h fun v16 a16 b16 h => qi AC DR a16 (Ah b16) rfl (qk Cr rfl (AW rfl (Ad ?_)))
       refine Bd h (fun h => ?_) fun h => ?_
       ·refine AS ?_
        exact sn [(2014, 2006), (2015, 2007), (2016, 2008), (2017, 2009)] h
       ·refine Am ?_
        refine AT h (fun v18 => mk [(1, oD (.ptr 1 0)), (3, iD v2), (5, oD (.own 2021)), (6, iD v7.2), (7, oD (.ptr 7 0)), (8, iD v12.2.1), (9, iD v12.2.2)] [(1, .box (AL p0)), (7, .box [.own 2018, .own 2019, .own 2020]), (2018, .vec 1 (v11.gb.map Aq)), (2019, .vec 1 (v18.map Aq)), (2020, .vec 1 (v11.gc.map El)), (2021, .vec 3 (v7.1.map FL))]) (fun j18 h => ?_) (fun v18 h => ?_)
        ·refine wq rfl (qw 2 rfl ?_)
         refine F2 h fun c19 h => KU rfl c19 (Ok rfl (by decide) (B5 rfl (Ad ?_)))
         refine Bd h (fun h => ?_) fun h => ?_
         ·refine Ak Ax rfl (qf BO rfl (ql Bb rfl (qm rfl ?_)))
          refine BB h fun v21 a21 b21 h => qI AC DR a21 (Ah b21) rfl ?_
          refine Eg rfl rfl rfl rfl (Ah b21) rfl DR rfl (Hy rfl) (Dh Aq v12.1 _ ((-1))) ?_
          refine Ad ?_
          exact sn [(2018, 2006), (2019, 2007), (2020, 2008), (2021, 2009)] h
         ·refine Am ?_
          exact sn [(2018, 2006), (2019, 2007), (2020, 2008), (2021, 2009)] h
        ·refine Ak Ax rfl (qm rfl (AZ rfl (qe rfl ?_)))
         exact sn [(2014, 2018), (2015, 2019), (2016, 2020), (2017, 2021)] h
      ·refine Ak Ax rfl (qm rfl (AZ rfl (qe rfl ?_)))
       exact sn [(2006, 2014), (2007, 2015), (2008, 2016), (2009, 2017)] h
     ·refine AS ?_
      exact sn [(2010, 2006), (2011, 2007), (2012, 2008), (2013, 2009)] h
    ·refine Ag hs (Ak Ax rfl (qm rfl (qL B7 A2 rfl (Et (BJ 2010 _ _ rfl rfl) (Et (BJ 2011 _ _ rfl rfl) (Et (BJ 2012 _ _ rfl rfl) (Eb KS A2 Fm rfl ?_)))))))
     refine F2 h fun c22 h => DE (f := FL) KS KS A2 bf Fm c22 rfl (qa rfl (Ad (Ak Ax rfl (qm rfl (AZ rfl (qe rfl ?_))))))
     exact sn [(2001, 60)] h
   ·refine AS ?_
    exact sn [(2002, 2001)] h
  ·refine Ag hs (wq rfl (qm rfl (qe rfl ?_)))
   obtain rfl := sj h
   refine Ag (sm [(1000, 2002)] [(2, oD (.own 1000))] [(1000, .vec 3 (v8.map FL))] rfl rfl) (Au ?_)
   exact ⟨⟨[_], tm, rfl⟩, ⟨rfl, tv⟩⟩
theorem Ff (N : Nat) (p0 : Ae) (p1 : Int) (r : Int) (h : Cc N p0 p1 = some r) : Ar zA 142 [.e (.agg (AL p0)), iD p1] [] (pD (.val (.int .u8 r))) := by
 unfold Cc at h
 refine cw (n := 27) (rs := [.tmp 4]) Tryz.func142 fun w0 S0 => ?_
 refine wq rfl (qb rfl (qa rfl (Ad (wq rfl (qf Dp rfl (ql Bb rfl (qm rfl ?_)))))))
 refine BB h fun v1 a1 b1 h => qi AC DR a1 (Ah b1) rfl (qk Cr rfl ?_)
 refine F2 h fun c2 h => Kq rfl c2 (qe rfl ?_)
 refine AT h (fun v3 => mk [(5, pD (.val (.int .u8 v3)))] []) (fun j3 h => ?_) (fun v3 h => ?_)
 ·refine wq rfl (qf BO rfl (ql Bb rfl (qm rfl ?_)))
  refine BB h fun v4 a4 b4 h => qi AC DR a4 (Ah b4) rfl (qk Cr rfl (F9 rfl (Ad ?_)))
  refine Bd h (fun h => ?_) fun h => ?_
  ·refine Ak Ax rfl (qm rfl (qf BO rfl (ql Bb rfl (qm rfl ?_))))
   refine BB h fun v6 a6 b6 h => qi AC DR a6 (Ah b6) rfl (qk Cr rfl ?_)
   refine F2 h fun c7 h => Kq rfl c7 (X5 rfl (qe rfl ?_))
   exact sn [] h
  ·refine Am ?_
   exact sn [] h
 ·refine wq rfl (qm rfl (qe rfl ?_))
  obtain rfl := sj h
  refine Ag (sm [] [(4, pD (.val (.int .u8 v3)))] [] rfl rfl) (Au ?_)
  exact ⟨⟨[_], tm, rfl⟩, tv⟩
theorem Hl (N : Nat) (p0 : Int) (p1 : Int) (r : Bool) (h : CV N p0 p1 = some r) : Ar zA 143 [pD (.val (.int .u8 p0)), iD p1] [] (bD r) := by
 unfold CV at h
 refine cw (n := 10) (rs := [.tmp 4]) Tryz.func143 fun w0 S0 => ?_
 refine wq rfl (qa rfl (Ad (wq rfl (qw 2 rfl ?_))))
 refine F2 h fun c1 h => KU rfl c1 (Pi rfl (B5 rfl (qe rfl ?_)))
 obtain rfl := sj h
 refine Ag (sm [] [(4, bD (((HG .u8 ((GW .u8 p0 p1)) 1) == 1)))] [] rfl rfl) (Au ?_)
 exact ⟨⟨[_], tm, rfl⟩, tv⟩
theorem MP (N : Nat) (p0 : Ab) (p1 : Ae) (r : (List Aa)) (h : FC N p0 p1 = some r) : Ar zA 116 [.e (.agg (Ai p0)), .e (.agg (AL p1))] [(3, r.map Ac)] (oD (.own 0)) := by
 unfold FC at h
 refine cw (n := 111) (rs := [.tmp 4]) Tryz.func116 fun w0 S0 => ?_
 refine wq rfl (qb rfl (qb rfl (qa rfl (Ad (wq rfl (qa rfl (Ad (wp rfl (qe rfl ?_)))))))))
 refine AE (L := C9 N p0 p1) h (fun v1 => mk [(2, oD (.ptr 2 0)), (3, oD (.ptr 3 0)), (5, oD (.own 2001)), (6, iD v1.2)] [(2, .box (Ai p0)), (3, .box (AL p1)), (2001, .vec 3 (v1.1.map Ac))]) (fun v2 => mk [(5, oD (.own 2002))] [(2002, .vec 3 (v2.map Ac))]) (fun _ _ => rfl) ((AU 5 2013 3 rfl rfl rfl).trans (sm [(2001, 2013)] _ _ rfl rfl)) (fun j1 n1 v1 h => ?_) (fun v2 s h hs => ?_)
 ·unfold C9 at h
  refine wp rfl (qm rfl (qf Bx rfl (ql Gm rfl (AM CR rfl (AW rfl (Ad ?_))))))
  refine Bd h (fun h => ?_) fun h => ?_
  ·refine Am (AP (AK (wq rfl (qf Bx rfl (ql Gm rfl (qm rfl ?_))))))
   refine BB h fun v4 a4 b4 h => qi CR Db a4 (Ah b4) rfl (qK HB Db rfl (qz JA rfl (qs Db rfl (Ad (wq rfl (qL B7 A2 rfl (qf DZ rfl (ql Cr rfl ?_))))))))
   refine B1 h fun v5 a5 h => AA [] (Ff N p1 v4.ge v5 a5) Uw rfl (qe rfl ?_)
   refine AT h (fun v6 => mk [(2, oD (.ptr 2 0)), (3, oD (.ptr 3 0)), (5, oD (.own 2003)), (6, iD v1.2), (7, oD (.ptr 7 0)), (8, pD (.val (.int .u8 v6)))] [(2, .box (Ai p0)), (3, .box (AL p1)), (7, .box (Bj v4)), (2003, .vec 3 (v1.1.map Ac))]) (fun j6 h => ?_) (fun v6 h => ?_)
   ·refine wq rfl (qL HB Db rfl ?_)
    refine B1 h fun v7 a7 h => AA [] (CF N v4 v7 a7) SN rfl (Ad ?_)
    refine Bd h (fun h => ?_) fun h => ?_
    ·refine Ak Ax rfl (qf Do rfl (ql Ir rfl (qm rfl ?_)))
     refine BB h fun v9 a9 b9 h => qi Ev Hq a9 (Ah b9) rfl (qk LO rfl (qe rfl ?_))
     exact sn [(2003, 2001)] h
    ·refine Am ?_
     exact sn [(2003, 2001)] h
   ·refine wq rfl (qe rfl ?_)
    refine AE (L := BN N p0 p1 v1 v4 v6) h (fun v10 => mk [(2, oD (.ptr 2 0)), (3, oD (.ptr 3 0)), (5, oD (.own 2004)), (6, iD v1.2), (7, oD (.ptr 7 0)), (8, pD (.val (.int .u8 v6))), (9, iD v10.2)] [(2, .box (Ai p0)), (3, .box (AL p1)), (7, .box (Bj v4)), (2004, .vec 3 (v10.1.map Ac))]) (fun v11 => mk [(2, oD (.ptr 2 0)), (3, oD (.ptr 3 0)), (5, oD (.own 2005)), (6, iD v1.2)] [(2, .box (Ai p0)), (3, .box (AL p1)), (2005, .vec 3 (v11.map Ac))]) (fun _ _ => rfl) (sm [(2004, 2003)] _ _ rfl rfl) (fun j10 n10 v10 h => ?_) (fun v11 s h hs => ?_)
    ·unfold BN at h
     refine wp rfl (qm rfl (qf Bu rfl (ql Bb rfl (qf DZ rfl (ql Cr rfl ?_)))))
     refine BB h fun v12 a12 b12 h => qi AC DR a12 (Ah b12) rfl (qk Cr rfl (AW rfl (Ad ?_)))
     refine Bd h (fun h => ?_) fun h => ?_
     ·refine Am ?_
      refine AT h (fun v14 => mk [(2, oD (.ptr 2 0)), (3, oD (.ptr 3 0)), (5, oD (.own 2006)), (6, iD v1.2), (7, oD (.ptr 7 0)), (8, pD (.val (.int .u8 v6))), (9, iD v10.2)] [(2, .box (Ai p0)), (3, .box (AL p1)), (7, .box (Bj v4)), (2006, .vec 3 (v14.map Ac))]) (fun j14 h => ?_) (fun v14 h => ?_)
      ·refine AK (wp rfl (qw 2 rfl ?_))
       refine B1 h fun v15 a15 h => AA [] (Hl N v6 v10.2 v15 a15) Wa rfl (CQ rfl (Ad ?_))
       refine Bd h (fun h => ?_) fun h => ?_
       ·refine AS ?_
        exact sn [(2006, 2004)] h
       ·refine Am (wq rfl (qa rfl (Ad (wp rfl (qe rfl ?_)))))
        refine AE (L := Bv N p0 p1 v1 v4 v10) h (fun v17 => mk [(2, oD (.ptr 2 0)), (3, oD (.ptr 3 0)), (5, oD (.own 2007)), (6, iD v1.2), (7, oD (.ptr 7 0)), (8, pD (.val (.int .u8 v6))), (9, iD v10.2), (10, bD v17.2.1), (11, iD v17.2.2)] [(2, .box (Ai p0)), (3, .box (AL p1)), (7, .box (Bj v4)), (2007, .vec 3 (v17.1.map Ac))]) (fun v18 => mk [(2, oD (.ptr 2 0)), (3, oD (.ptr 3 0)), (5, oD (.own 2008)), (6, iD v1.2), (7, oD (.ptr 7 0)), (8, pD (.val (.int .u8 v6))), (9, iD v10.2), (10, bD v18.2)] [(2, .box (Ai p0)), (3, .box (AL p1)), (7, .box (Bj v4)), (2008, .vec 3 (v18.1.map Ac))]) (fun _ _ => rfl) (sm [(2007, 2004)] _ _ rfl rfl) (fun j17 n17 v17 h => ?_) (fun v18 s h hs => ?_)
        ·unfold Bv at h
         refine wp rfl (qm rfl (qf Bu rfl (ql Bb rfl (qf JD rfl (ql Cr rfl ?_)))))
         refine BB h fun v19 a19 b19 h => qi AC DR a19 (Ah b19) rfl (qk Cr rfl (AW rfl (Ad ?_)))
         refine Bd h (fun h => ?_) fun h => ?_
         ·refine Am ?_
          refine AT h (fun v21 => mk [(2, oD (.ptr 2 0)), (3, oD (.ptr 3 0)), (5, oD (.own 2009)), (6, iD v1.2), (7, oD (.ptr 7 0)), (8, pD (.val (.int .u8 v6))), (9, iD v10.2), (10, bD v21.2), (11, iD v17.2.2)] [(2, .box (Ai p0)), (3, .box (AL p1)), (7, .box (Bj v4)), (2009, .vec 3 (v21.1.map Ac))]) (fun j21 h => ?_) (fun v21 h => ?_)
          ·refine AK (wp rfl (qL B7 A2 rfl (qf JD rfl (ql Cr rfl ?_))))
           refine B1 h fun v22 a22 h => AA [] (Ff N p1 v4.gi v22 a22) Uw rfl (qm rfl ?_)
           refine B1 h fun v23 a23 h => AA [] (Hl N v22 v17.2.2 v23 a23) Wa rfl (CQ rfl (Ad ?_))
           refine Bd h (fun h => ?_) fun h => ?_
           ·refine AS ?_
            exact sn [(2009, 2007)] h
           ·refine Am ?_
            refine AT h (fun v25 => mk [(2, oD (.ptr 2 0)), (3, oD (.ptr 3 0)), (5, oD (.own 2010)), (6, iD v1.2), (7, oD (.ptr 7 0)), (8, pD (.val (.int .u8 v6))), (9, iD v10.2), (10, bD v25), (11, iD v17.2.2)] [(2, .box (Ai p0)), (3, .box (AL p1)), (7, .box (Bj v4)), (2010, .vec 3 (v17.1.map Ac))]) (fun j25 h => ?_) (fun v25 h => ?_)
            ·refine Ak Ax rfl (qw 2 rfl ?_)
             refine EU 67 h rfl (fun h => ?_) fun h => ?_
             ·refine qw 8 rfl (qp rfl (qe rfl ?_))
              exact sn [(2010, 2007)] h
             ·refine qf Fa rfl (ql Hr rfl (qm rfl ?_))
              refine BB h fun v27 a27 b27 h => qi DH Is a27 (Ah b27) rfl (qk LU rfl (qm rfl ?_))
              refine BB h fun v28 a28 b28 h => qi EG MY a28 (Ah b28) rfl (qk UL rfl (qp rfl (qe rfl ?_)))
              exact sn [(2010, 2007)] h
            ·refine AT h (fun v29 => mk [(2, oD (.ptr 2 0)), (3, oD (.ptr 3 0)), (5, oD (.own 2011)), (6, iD v1.2), (7, oD (.ptr 7 0)), (8, pD (.val (.int .u8 v6))), (9, iD v10.2), (10, bD v25), (11, iD v17.2.2), (90, bD v29)] [(2, .box (Ai p0)), (3, .box (AL p1)), (7, .box (Bj v4)), (2011, .vec 3 (v17.1.map Ac))]) (fun j29 h => ?_) (fun v29 h => ?_)
             ·refine Ak Ax rfl (qf Kw rfl (ql UL rfl (CQ rfl (qm rfl ?_))))
              refine EU 80 h rfl (fun h => ?_) fun h => ?_
              ·refine qf Fa rfl (ql Hr rfl (qm rfl ?_))
               refine BB h fun v31 a31 b31 h => qi DH Is a31 (Ah b31) rfl (qk LU rfl (qm rfl ?_))
               refine BB h fun v32 a32 b32 h => qi EG MY a32 (Ah b32) rfl (qk UL rfl (CQ rfl (qp rfl (Ad ?_))))
               exact sn [(2011, 2010)] h
              ·refine qw 9 rfl (qp rfl (Ad ?_))
               exact sn [(2011, 2010)] h
             ·refine Bd h (fun h => ?_) fun h => ?_
              ·refine Ak Ax rfl (qw 4 rfl (Bm GV Ro rfl (Eb A3 Cz GV rfl ?_)))
               refine F2 h fun c34 h => DE (f := Ac) A3 A3 Cz LE GV c34 rfl (qe rfl ?_)
               exact sn [(2009, 97)] h
              ·refine Am ?_
               exact sn [(2009, 2011)] h
          ·refine Ak Ax rfl (qm rfl (AZ rfl (qe rfl ?_)))
           exact sn [(2007, 2009)] h
         ·refine AS ?_
          exact sn [(2008, 2007)] h
        ·refine Ag hs ?_
         refine AT h (fun v35 => mk [(2, oD (.ptr 2 0)), (3, oD (.ptr 3 0)), (5, oD (.own 2012)), (6, iD v1.2), (7, oD (.ptr 7 0)), (8, pD (.val (.int .u8 v6))), (9, iD v10.2), (103, bD v35)] [(2, .box (Ai p0)), (3, .box (AL p1)), (7, .box (Bj v4)), (2012, .vec 3 (v18.1.map Ac))]) (fun j35 h => ?_) (fun v35 h => ?_)
         ·refine Ak Ax rfl (qf Kw rfl (ql UL rfl (qm rfl ?_)))
          refine EU 100 h rfl (fun h => ?_) fun h => ?_
          ·refine qm rfl (CQ rfl (qp rfl (Ad ?_)))
           exact sn [(2012, 2008)] h
          ·refine qw 2 rfl (qp rfl (Ad ?_))
           exact sn [(2012, 2008)] h
         ·refine Bd h (fun h => ?_) fun h => ?_
          ·refine Ak Ax rfl (qw 3 rfl (Bm GV Ro rfl (Eb A3 Cz GV rfl ?_)))
           refine F2 h fun c38 h => DE (f := Ac) A3 A3 Cz LE GV c38 rfl (qe rfl ?_)
           exact sn [(2006, 109)] h
          ·refine Am ?_
           exact sn [(2006, 2012)] h
      ·refine Ak Ax rfl (qm rfl (AZ rfl (qe rfl ?_)))
       exact sn [(2004, 2006)] h
     ·refine AS ?_
      exact sn [(2005, 2004)] h
    ·refine Ag hs (Ak Ax rfl (qm rfl (AZ rfl (qe rfl ?_))))
     exact sn [(2001, 2005)] h
  ·refine AS ?_
   exact sn [(2002, 2001)] h
 ·refine Ag hs (wq rfl (qm rfl (qe rfl ?_)))
  obtain rfl := sj h
  refine Ag (sm [(1000, 2002)] [(4, oD (.own 1000))] [(1000, .vec 3 (v2.map Ac))] rfl rfl) (Au ?_)
  exact ⟨⟨[_], tm, rfl⟩, ⟨rfl, tv⟩⟩
theorem Ml (N : Nat) (p0 : Ab) (p1 : Ae) (r : Bool) (h : Fc N p0 p1 = some r) : Ar zA 118 [.e (.agg (Ai p0)), .e (.agg (AL p1))] [] (bD r) := by
 unfold Fc at h
 refine cw (n := 10) (rs := [.tmp 4]) Tryz.func118 fun w0 S0 => ?_
 refine wq rfl (qb rfl (qb rfl (qa rfl (Ad (wq rfl (qL CD BT rfl (qL B7 A2 rfl ?_)))))))
 refine B1 h fun v1 a1 h => AA [2001] (MP N p0 p1 v1 a1) dO rfl (C3 A3 rfl (B5 rfl (qe rfl ?_)))
 obtain rfl := sj h
 refine Ag (sm [] [(4, bD (((v1.length : Int) == 0)))] [] rfl rfl) (Au ?_)
 exact ⟨⟨[_], tm, rfl⟩, tv⟩
theorem G6 (N : Nat) (p0 : Ab) (p1 : Ae) (r : Bool) (h : C2 N p0 p1 = some r) : Ar zA 84 [.e (.agg (Ai p0)), .e (.agg (AL p1))] [] (bD r) := by
 unfold C2 at h
 refine cw (n := 22) (rs := [.tmp 4]) Tryz.func84 fun w0 S0 => ?_
 refine wq rfl (qb rfl (qb rfl (qa rfl (Ad (wq rfl (qL B7 A2 rfl ?_))))))
 refine B1 h fun v1 a1 h => AA [2001] (NM N p1 v1 a1) eu rfl (qa rfl (Ad (wp rfl (qe rfl ?_))))
 refine AE (L := Cn N p0 v1) h (fun v2 => mk [(2, oD (.ptr 2 0)), (5, oD (.own 2002)), (6, iD v2)] [(2, .box (Ai p0)), (2002, .vec 3 (v1.map FL))]) (fun v3 => mk [] []) (fun _ _ => rfl) (sm [(2002, 2001)] _ _ rfl rfl) (fun j2 n2 v2 h => ?_) (fun v3 s h hs => ?_)
 ·unfold Cn at h
  refine wp rfl (qw 2 rfl (C3 KS rfl (AW rfl (Ad ?_))))
  refine Bd h (fun h => ?_) fun h => ?_
  ·refine Am (AP (AK (wq rfl (qL CD BT rfl (qw 2 rfl ?_)))))
   refine BB h fun v5 a5 b5 h => qI KS A2 a5 (Ah b5) rfl (qJ B7 A2 (Ah b5) rfl ?_)
   refine B1 h fun v6 a6 h => AA [] (Ml N p0 v5 v6 a6) di rfl (CQ rfl (AQ (by kernel_rfl) ?_))
   refine Bd h (fun h => ?_) fun h => ?_
   ·refine wq rfl (qe rfl ?_)
    obtain rfl := sj h
    refine Ag (sm [] [(4, bD false)] [] rfl rfl) (Au ?_)
    exact ⟨⟨[_], tm, rfl⟩, tv⟩
   ·refine Am (Ak Ax rfl (qm rfl (AZ rfl (qe rfl ?_))))
    exact sn [] h
  ·refine AS ?_
   exact sn [] h
 ·refine Ag hs (wq rfl (qe rfl ?_))
  obtain rfl := sj h
  refine Ag (sm [] [(4, bD true)] [] rfl rfl) (Au ?_)
  exact ⟨⟨[_], tm, rfl⟩, tv⟩
theorem HO (N : Nat) (p0 : Ab) (p1 : Ae) (r : Int) (h : DO N p0 p1 = some r) : Ar zA 112 [.e (.agg (Ai p0)), .e (.agg (AL p1))] [] (iD r) := by
 unfold DO at h
 refine cw (n := 154) (rs := [.tmp 4]) Tryz.func112 fun w0 S0 => ?_
 refine wq rfl (qb rfl (qb rfl (qa rfl (Ad (wp rfl (qL CD BT rfl ?_))))))
 refine B1 h fun v1 a1 h => AA [] (F7 N p0 v1 a1) bZ rfl (qa rfl (Ad (wq rfl (qm rfl (BF rfl (Ad ?_))))))
 refine Bd h (fun h => ?_) fun h => ?_
 ·refine wq rfl (qm rfl (qe rfl ?_))
  obtain rfl := sj h
  refine Ag (sm [] [(4, iD v1)] [] rfl rfl) (Au ?_)
  exact ⟨⟨[_], tm, rfl⟩, tv⟩
 ·refine Am (wq rfl (qf Bu rfl (ql Bb rfl (AM AC rfl (qa rfl (Ad (AP ?_)))))))
  refine AT h (fun v3 => mk [(2, oD (.ptr 2 0)), (3, oD (.ptr 3 0)), (6, iD ((p0.f9.length : Int))), (39, bD v3)] [(2, .box (Ai p0)), (3, .box (AL p1))]) (fun j3 h => ?_) (fun v3 h => ?_)
  ·refine Ak Ax rfl (qf Dp rfl (ql Bb rfl (AM AC rfl (qm rfl (BF rfl (qm rfl ?_))))))
   refine EU 24 h rfl (fun h => ?_) fun h => ?_
   ·refine qw 5 rfl (qp rfl (qw 8 rfl (qp rfl (Ad ?_))))
    exact sn [] h
   ·refine qf BO rfl (ql Bb rfl (AM AC rfl (qm rfl (BF rfl (qp rfl (qm rfl ?_))))))
    refine EU 31 h rfl (fun h => ?_) fun h => ?_
    ·refine qw 7 rfl (qp rfl (Ad ?_))
     exact sn [] h
    ·refine qf Do rfl (ql Ir rfl (AM Ev rfl (qf Bx rfl (ql Gm rfl (AM CR rfl (BF rfl (qp rfl (Ad ?_))))))))
     exact sn [] h
  ·refine Bd h (fun h => ?_) fun h => ?_
   ·refine wq rfl (qe rfl ?_)
    obtain rfl := sj h
    refine Ag (sm [] [(4, iD 6)] [] rfl rfl) (Au ?_)
    exact ⟨⟨[_], tm, rfl⟩, tv⟩
   ·refine Am (wp rfl (qe rfl ?_))
    refine AE (L := Cu N p0 p1) h (fun v7 => mk [(2, oD (.ptr 2 0)), (3, oD (.ptr 3 0)), (6, iD ((p0.f9.length : Int))), (7, iD v7)] [(2, .box (Ai p0)), (3, .box (AL p1))]) (fun v8 => mk [(2, oD (.ptr 2 0)), (3, oD (.ptr 3 0))] [(2, .box (Ai p0)), (3, .box (AL p1))]) (fun _ _ => rfl) (sm [] _ _ rfl rfl) (fun j7 n7 v7 h => ?_) (fun v8 s h hs => ?_)
    ·unfold Cu at h
     refine wp rfl (qw 2 rfl (AW rfl (Ad ?_)))
     refine Bd h (fun h => ?_) fun h => ?_
     ·refine Am (AP (AK (AP ?_)))
      refine AT h (fun v10 => mk [(2, oD (.ptr 2 0)), (3, oD (.ptr 3 0)), (6, iD ((p0.f9.length : Int))), (7, iD v7), (84, bD v10)] [(2, .box (Ai p0)), (3, .box (AL p1))]) (fun j10 h => ?_) (fun v10 h => ?_)
      ·refine Ak Ax rfl (qf Dp rfl (ql Bb rfl (qm rfl ?_)))
       refine BB h fun v11 a11 b11 h => qi AC DR a11 (Ah b11) rfl (qk Cr rfl (AW rfl (qm rfl ?_)))
       refine EU 51 h rfl (fun h => ?_) fun h => ?_
       ·refine qw 11 rfl (qp rfl (qw 7 rfl (qp rfl (qw 12 rfl (qp rfl (AQ (by kernel_rfl) ?_))))))
        exact sn [] h
       ·refine qf Dp rfl (ql Bb rfl (qm rfl ?_))
        refine BB h fun v13 a13 b13 h => qi AC DR a13 (Ah b13) rfl (qk Cr rfl (qf Bu rfl (ql Bb rfl (qm rfl ?_))))
        refine BB h fun v14 a14 b14 h => qi AC DR a14 (Ah b14) rfl (qk Cr rfl (F9 rfl (qp rfl (qm rfl ?_))))
        refine EU 64 h rfl (fun h => ?_) fun h => ?_
        ·refine qw 6 rfl (qp rfl (qw 12 rfl (qp rfl (AQ (by kernel_rfl) ?_))))
         exact sn [] h
        ·refine qf BO rfl (ql Bb rfl (qm rfl ?_))
         refine BB h fun v16 a16 b16 h => qi AC DR a16 (Ah b16) rfl (qk Cr rfl (AW rfl (qp rfl (qm rfl ?_))))
         refine EU 72 h rfl (fun h => ?_) fun h => ?_
         ·refine qw 11 rfl (qp rfl (AQ (by kernel_rfl) ?_))
          exact sn [] h
         ·refine qf BO rfl (ql Bb rfl (qm rfl ?_))
          refine BB h fun v18 a18 b18 h => qi AC DR a18 (Ah b18) rfl (qk Cr rfl (qf Bu rfl (ql Bb rfl (qm rfl ?_))))
          refine BB h fun v19 a19 b19 h => qi AC DR a19 (Ah b19) rfl (qk Cr rfl (F9 rfl (qp rfl (AQ (by kernel_rfl) ?_))))
          exact sn [] h
      ·refine Bd h (fun h => ?_) fun h => ?_
       ·refine wq rfl (qe rfl ?_)
        obtain rfl := sj h
        refine Ag (sm [] [(4, iD 7)] [] rfl rfl) (Au ?_)
        exact ⟨⟨[_], tm, rfl⟩, tv⟩
       ·refine Am (wq rfl (qf Dp rfl (ql Bb rfl (qm rfl ?_))))
        refine BB h fun v21 a21 b21 h => qi AC DR a21 (Ah b21) rfl (qk Cr rfl (qf BO rfl (ql Bb rfl (qm rfl ?_))))
        refine BB h fun v22 a22 b22 h => qi AC DR a22 (Ah b22) rfl (qk Cr rfl (B5 rfl (AQ (by kernel_rfl) ?_)))
        refine Bd h (fun h => ?_) fun h => ?_
        ·refine wq rfl (qe rfl ?_)
         obtain rfl := sj h
         refine Ag (sm [] [(4, iD 1)] [] rfl rfl) (Au ?_)
         exact ⟨⟨[_], tm, rfl⟩, tv⟩
        ·refine Am (Ak Ax rfl (qm rfl (AZ rfl (qe rfl ?_))))
         exact sn [] h
     ·refine AS ?_
      exact sn [] h
    ·refine Ag hs (wp rfl (qe rfl ?_))
     refine AE (L := Cj N p0 p1) h (fun v24 => mk [(2, oD (.ptr 2 0)), (3, oD (.ptr 3 0)), (8, iD v24)] [(2, .box (Ai p0)), (3, .box (AL p1))]) (fun v25 => mk [] []) (fun _ _ => rfl) (sm [] _ _ rfl rfl) (fun j24 n24 v24 h => ?_) (fun v25 s h hs => ?_)
     ·unfold Cj at h
      refine wp rfl (qm rfl (qf Bx rfl (ql Gm rfl (AM CR rfl (AW rfl (Ad ?_))))))
      refine Bd h (fun h => ?_) fun h => ?_
      ·refine Am (AP (AK (wq rfl (qf Bx rfl (ql Gm rfl (qm rfl ?_))))))
       refine BB h fun v27 a27 b27 h => qi CR Db a27 (Ah b27) rfl (qK HB Db rfl (qz JA rfl (qs Db rfl (Ad (wq rfl (qf Bu rfl (ql Bb rfl (qf DZ rfl (ql Cr rfl ?_)))))))))
       refine BB h fun v28 a28 b28 h => qi AC DR a28 (Ah b28) rfl (qk Cr rfl ?_)
       refine F2 h fun c29 h => Kq rfl c29 (LN rfl (qe rfl ?_))
       refine AT h (fun v30 => mk [(2, oD (.ptr 2 0)), (3, oD (.ptr 3 0)), (8, iD v24), (153, bD v30)] [(2, .box (Ai p0)), (3, .box (AL p1))]) (fun j30 h => ?_) (fun v30 h => ?_)
       ·refine Ak Ax rfl (qL HB Db rfl ?_)
        refine B1 h fun v31 a31 h => AA [] (CF N v27 v31 a31) SN rfl (CQ rfl (qm rfl ?_))
        refine EU 119 h rfl (fun h => ?_) fun h => ?_
        ·refine qf Do rfl (ql Ir rfl (qm rfl ?_))
         refine BB h fun v33 a33 b33 h => qi Ev Hq a33 (Ah b33) rfl (qk LO rfl (BF rfl (qp rfl (qm rfl ?_))))
         refine EU 127 h rfl (fun h => ?_) fun h => ?_
         ·refine qw 3 rfl (qu rfl (qu rfl (qu rfl (qu rfl (qu rfl (qu rfl (qu rfl (qu rfl (qu rfl (qu rfl (qu rfl (qu rfl (qu rfl (qu rfl (qu rfl (qu rfl (qu rfl (qu rfl (qu rfl (qu rfl (qu rfl (qn rfl (qp rfl (AQ (by kernel_rfl) ?_))))))))))))))))))))))))
          exact sn [] h
         ·refine qL HB Db rfl ?_
          refine B1 h fun v35 a35 h => AA [] (CF N v27 v35 a35) SN rfl (qm rfl ?_)
          refine EU 130 h rfl (fun h => ?_) fun h => ?_
          ·refine qf Do rfl (ql Ir rfl (qm rfl ?_))
           refine BB h fun v37 a37 b37 h => qi Ev Hq a37 (Ah b37) rfl (qk LO rfl (qm rfl (JZ rfl (BF rfl (qm rfl ?_)))))
           refine EU 139 h rfl (fun h => ?_) fun h => ?_
           ·refine qw 11 rfl (qp rfl (qp rfl (qp rfl (AQ (by kernel_rfl) ?_))))
            exact sn [] h
           ·refine qL B7 A2 rfl (qf DZ rfl (ql Cr rfl ?_))
            refine B1 h fun v39 a39 h => AA [] (Ff N p1 v27.ge v39 a39) Uw rfl (qf Do rfl (ql Ir rfl (qm rfl ?_)))
            refine BB h fun v40 a40 b40 h => qi Ev Hq a40 (Ah b40) rfl (qk LO rfl (JZ rfl (BF rfl (qp rfl (qp rfl (qp rfl (AQ (by kernel_rfl) ?_)))))))
            exact sn [] h
          ·refine qw 9 rfl (qu rfl (qu rfl (qu rfl (qu rfl (qu rfl (qu rfl (qu rfl (qu rfl (qu rfl (qu rfl (qu rfl (qn rfl (qp rfl (qp rfl (AQ (by kernel_rfl) ?_)))))))))))))))
           exact sn [] h
        ·refine qw 6 rfl (qp rfl (qm rfl (qL HB Db rfl ?_)))
         refine B1 h fun v41 a41 h => AA [] (CF N v27 v41 a41) SN rfl (qm rfl ?_)
         refine EU 130 h rfl (fun h => ?_) fun h => ?_
         ·refine qf Do rfl (ql Ir rfl (qm rfl ?_))
          refine BB h fun v43 a43 b43 h => qi Ev Hq a43 (Ah b43) rfl (qk LO rfl (qm rfl (JZ rfl (BF rfl (qm rfl ?_)))))
          refine EU 139 h rfl (fun h => ?_) fun h => ?_
          ·refine qw 11 rfl (qp rfl (qp rfl (qp rfl (AQ (by kernel_rfl) ?_))))
           exact sn [] h
          ·refine qL B7 A2 rfl (qf DZ rfl (ql Cr rfl ?_))
           refine B1 h fun v45 a45 h => AA [] (Ff N p1 v27.ge v45 a45) Uw rfl (qf Do rfl (ql Ir rfl (qm rfl ?_)))
           refine BB h fun v46 a46 b46 h => qi Ev Hq a46 (Ah b46) rfl (qk LO rfl (JZ rfl (BF rfl (qp rfl (qp rfl (qp rfl (AQ (by kernel_rfl) ?_)))))))
           exact sn [] h
         ·refine qw 9 rfl (qu rfl (qu rfl (qu rfl (qu rfl (qu rfl (qu rfl (qu rfl (qu rfl (qu rfl (qu rfl (qu rfl (qn rfl (qp rfl (qp rfl (AQ (by kernel_rfl) ?_)))))))))))))))
          exact sn [] h
       ·refine Bd h (fun h => ?_) fun h => ?_
        ·refine wq rfl (qe rfl ?_)
         obtain rfl := sj h
         refine Ag (sm [] [(4, iD 1)] [] rfl rfl) (Au ?_)
         exact ⟨⟨[_], tm, rfl⟩, tv⟩
        ·refine Am (Ak Ax rfl (qm rfl (AZ rfl (qe rfl ?_))))
         exact sn [] h
      ·refine AS ?_
       exact sn [] h
     ·refine Ag hs (wq rfl (qe rfl ?_))
      obtain rfl := sj h
      refine Ag (sm [] [(4, iD 0)] [] rfl rfl) (Au ?_)
      exact ⟨⟨[_], tm, rfl⟩, tv⟩
theorem ML (N : Nat) (p0 : Af) (r : Bool) (h : Fx N p0 = some r) : Ar zA 113 [.e (.agg (DL p0))] [] (bD r) := by
 unfold Fx at h
 refine cw (n := 31) (rs := [.tmp 2]) Tryz.func113 fun w0 S0 => ?_
 refine wq rfl (qb rfl (qe rfl ?_))
 refine AT h (fun v1 => mk [(2, bD v1)] []) (fun j1 h => ?_) (fun v1 h => ?_)
 ·refine Ak Ax rfl (qf Gb rfl (ql Cr rfl (F9 rfl (qm rfl ?_))))
  refine EU 6 h rfl (fun h => ?_) fun h => ?_
  ·refine qf Gb rfl (ql Cr rfl (RZ rfl (qp rfl (qm rfl ?_))))
   refine EU 11 h rfl (fun h => ?_) fun h => ?_
   ·refine qf Fh rfl (ql Cr rfl (F9 rfl (qp rfl (qm rfl ?_))))
    refine EU 16 h rfl (fun h => ?_) fun h => ?_
    ·refine qf G9 rfl (ql Cr rfl (F9 rfl (qp rfl (qm rfl ?_))))
     refine EU 21 h rfl (fun h => ?_) fun h => ?_
     ·refine qf Gb rfl (ql Cr rfl (B5 rfl (qm rfl ?_)))
      refine EU 25 h rfl (fun h => ?_) fun h => ?_
      ·refine qw 3 rfl (qp rfl (qp rfl (qe rfl ?_)))
       exact sn [] h
      ·refine qf G9 rfl (ql Cr rfl (B5 rfl (qp rfl (qp rfl (qe rfl ?_)))))
       exact sn [] h
     ·refine qw 4 rfl (qu rfl (qu rfl (qu rfl (qn rfl (qp rfl (qe rfl ?_))))))
      exact sn [] h
    ·refine qw 3 rfl (qp rfl (qw 5 rfl (qu rfl (qu rfl (qu rfl (qn rfl (qp rfl (qe rfl ?_))))))))
     exact sn [] h
   ·refine qw 3 rfl (qp rfl (qw 4 rfl (qp rfl (qw 5 rfl (qu rfl (qu rfl (qu rfl (qn rfl (qp rfl (qe rfl ?_))))))))))
    exact sn [] h
  ·refine qw 3 rfl (qp rfl (qw 4 rfl (qp rfl (qw 4 rfl (qp rfl (qw 5 rfl (qu rfl (qu rfl (qu rfl (qn rfl (qp rfl (qe rfl ?_))))))))))))
   exact sn [] h
 ·obtain rfl := sj h
  refine Ag (sm [] [(2, bD v1)] [] rfl rfl) (Au ?_)
  exact ⟨⟨[_], tm, rfl⟩, tv⟩
theorem Jx (N : Nat) (p0 : Ab) (p1 : Ae) (p2 : Af) (r : Ae × Bool) (h : Dd N p0 p1 p2 = some r) : Ar zA 114 [.e (.agg (Ai p0)), .e (.agg (AL p1)), .e (.agg (DL p2))] [(1, r.1.gb.map Aq), (1, r.1.f7.map Aq), (1, r.1.gc.map El)] (.tup [.agg [.own 0, .own 1, .own 2], .one (.pure (.val (.bool r.2)))]) := by
 unfold Dd at h
 refine cw (n := 201) (rs := [.cell 6 64, .tmp 7]) Tryz.func114 fun w0 S0 => ?_
 refine wq rfl (qb rfl (qb rfl (qb rfl (qz Fm rfl (qa rfl (Ad (wq rfl (Eb AC DR Lf rfl (qf Dp rfl (ql Bb rfl ?_))))))))))
 refine F2 h fun c1 h => Hj (f := Aq) AC AC DR LX Lf (fun _ => rfl) c1 rfl (Eb AC DR Lf rfl (qf BO rfl (ql Bb rfl ?_)))
 refine F2 h fun c2 h => Hj (f := Aq) AC AC DR LX Lf (fun _ => rfl) c2 rfl (Eb Ev Hq Ti rfl (qf Do rfl (ql Ir rfl ?_)))
 refine F2 h fun c3 h => Hj (f := El) Ev Ev Hq Uh Ti (fun _ => rfl) c3 rfl (Bm Fm JH rfl (qz Fm rfl (qs A2 rfl (AQ (by kernel_rfl) (wq rfl (qf Fh rfl (ql Cr rfl (qe rfl ?_))))))))
 refine AT h (fun v4 => mk [(6, oD (.ptr 6 0)), (8, oD (.ptr 8 0))] [(6, .box [.pure (.nil0), .pure (.nil0), .pure (.nil0)]), (8, .box [.own 2001, .own 2002, .own 2003]), (2001, .vec 1 (v4.1.map Aq)), (2002, .vec 1 (v4.2.1.map Aq)), (2003, .vec 1 (v4.2.2.map El))]) (fun j4 h => ?_) (fun v4 h => ?_)
 ·refine wq rfl (qf Gb rfl (ql Cr rfl (Ad (AK (wq rfl (B5 rfl (qe rfl ?_)))))))
  refine Bd h (fun h => ?_) fun h => ?_
  ·refine AP ?_
   refine AT h (fun v6 => mk [(3, oD (.ptr 3 0)), (5, oD (.ptr 5 0)), (6, oD (.ptr 6 0)), (8, oD (.ptr 8 0)), (9, iD p2.gg), (60, bD v6)] [(3, .box (Ai p0)), (5, .box (DL p2)), (6, .box [.pure (.nil0), .pure (.nil0), .pure (.nil0)]), (8, .box [.own 2004, .own 2005, .own 2006]), (2004, .vec 1 (((([] : List Int)) ++ p1.gb).map Aq)), (2005, .vec 1 (((([] : List Int)) ++ p1.f7).map Aq)), (2006, .vec 1 (((([] : List Int)) ++ p1.gc).map El))]) (fun j6 h => ?_) (fun v6 h => ?_)
   ·refine Ak Ax rfl (qf BO rfl (ql Bb rfl (qm rfl ?_)))
    refine BB h fun v7 a7 b7 h => qi AC DR a7 (Ah b7) rfl (qk Cr rfl (F9 rfl (qm rfl ?_)))
    refine EU 51 h rfl (fun h => ?_) fun h => ?_
    ·refine qw 8 rfl (qp rfl (AQ (by kernel_rfl) ?_))
     exact sn [(2004, 18), (2005, 22), (2006, 26)] h
    ·refine qf G9 rfl (ql Cr rfl (qf Dp rfl (ql Bb rfl (qm rfl ?_))))
     refine BB h fun v9 a9 b9 h => qi AC DR a9 (Ah b9) rfl (qk Cr rfl (B5 rfl (qp rfl (AQ (by kernel_rfl) ?_))))
     exact sn [(2004, 18), (2005, 22), (2006, 26)] h
   ·refine Bd h (fun h => ?_) fun h => ?_
    ·refine wq rfl (Bm Fm JH rfl (qs A2 rfl (qe rfl ?_)))
     obtain rfl := sj h
     refine Ag ((Az 6 0 2007 1 _ rfl rfl rfl rfl).trans ((Az 6 1 2008 1 _ rfl rfl rfl rfl).trans ((Az 6 2 2009 1 _ rfl rfl rfl rfl).trans (sm [(1000, 2007), (1001, 2008), (1002, 2009)] [(6, oD (.ptr 6 0)), (7, bD false)] [(6, .box [.own 1000, .own 1001, .own 1002]), (1000, .vec 1 ((([] : List Int)).map Aq)), (1001, .vec 1 ((([] : List Int)).map Aq)), (1002, .vec 1 ((([] : List Int)).map El))] rfl rfl)))) (Au ?_)
     exact ⟨⟨[_, _], ⟨.cellN _ _ _ _ _ _ _ rfl rfl B7 A2 rfl rfl (Km rfl), tm⟩, rfl⟩, ⟨rfl, rfl, rfl, tv⟩⟩
    ·refine Am (wq rfl (qf BO rfl (ql Bb rfl (qm rfl (qf G9 rfl (ql Cr rfl ?_))))))
     refine BB h fun v11 a11 b11 h => qI AC DR a11 (Ah b11) rfl ?_
     refine Eg rfl rfl rfl rfl (Ah b11) rfl DR rfl (Hy rfl) (Dh Aq ((([] : List Int)) ++ p1.f7) _ p2.gp) ?_
     refine Ad (wq rfl (qe rfl ?_))
     refine AE (L := Ck N p0 p2) h (fun v12 => mk [(3, oD (.ptr 3 0)), (5, oD (.ptr 5 0)), (6, oD (.ptr 6 0)), (8, oD (.ptr 8 0)), (9, iD p2.gg), (10, iD v12.2)] [(3, .box (Ai p0)), (5, .box (DL p2)), (6, .box [.pure (.nil0), .pure (.nil0), .pure (.nil0)]), (8, .box [.own 2010, .own 2011, .own 2012]), (2010, .vec 1 (((([] : List Int)) ++ p1.gb).map Aq)), (2011, .vec 1 ((((([] : List Int)) ++ p1.f7).set ((p2.gg).toNat) p2.gp).map Aq)), (2012, .vec 1 (v12.1.map El))]) (fun v13 => mk [(6, oD (.ptr 6 0)), (8, oD (.ptr 8 0))] [(6, .box [.pure (.nil0), .pure (.nil0), .pure (.nil0)]), (8, .box [.own 2013, .own 2014, .own 2015]), (2013, .vec 1 (((([] : List Int)) ++ p1.gb).map Aq)), (2014, .vec 1 ((((([] : List Int)) ++ p1.f7).set ((p2.gg).toNat) p2.gp).map Aq)), (2015, .vec 1 (v13.map El))]) (fun _ _ => rfl) (sm [(2010, 2004), (2011, 2005), (2012, 2006)] _ _ rfl rfl) (fun j12 n12 v12 h => ?_) (fun v13 s h hs => ?_)
     ·unfold Ck at h
      refine wp rfl (qm rfl (qf Bx rfl (ql Gm rfl (AM CR rfl (AW rfl (Ad ?_))))))
      refine Bd h (fun h => ?_) fun h => ?_
      ·refine Am ?_
       refine AT h (fun v15 => mk [(3, oD (.ptr 3 0)), (5, oD (.ptr 5 0)), (6, oD (.ptr 6 0)), (8, oD (.ptr 8 0)), (9, iD p2.gg), (10, iD v12.2)] [(3, .box (Ai p0)), (5, .box (DL p2)), (6, .box [.pure (.nil0), .pure (.nil0), .pure (.nil0)]), (8, .box [.own 2016, .own 2017, .own 2018]), (2016, .vec 1 (((([] : List Int)) ++ p1.gb).map Aq)), (2017, .vec 1 ((((([] : List Int)) ++ p1.f7).set ((p2.gg).toNat) p2.gp).map Aq)), (2018, .vec 1 (v15.map El))]) (fun j15 h => ?_) (fun v15 h => ?_)
       ·refine AK ?_
        refine AT h (fun v16 => mk [(3, oD (.ptr 3 0)), (5, oD (.ptr 5 0)), (6, oD (.ptr 6 0)), (8, oD (.ptr 8 0)), (9, iD p2.gg), (10, iD v12.2), (90, bD v16)] [(3, .box (Ai p0)), (5, .box (DL p2)), (6, .box [.pure (.nil0), .pure (.nil0), .pure (.nil0)]), (8, .box [.own 2019, .own 2020, .own 2021]), (2019, .vec 1 (((([] : List Int)) ++ p1.gb).map Aq)), (2020, .vec 1 ((((([] : List Int)) ++ p1.f7).set ((p2.gg).toNat) p2.gp).map Aq)), (2021, .vec 1 (v12.1.map El))]) (fun j16 h => ?_) (fun v16 h => ?_)
        ·refine Ak Ax rfl (qf Bx rfl (ql Gm rfl (qm rfl ?_)))
         refine BB h fun v17 a17 b17 h => qi CR Db a17 (Ah b17) rfl (qg DZ rfl (qk Cr rfl (qm rfl (B5 rfl (qm rfl ?_)))))
         refine EU 83 h rfl (fun h => ?_) fun h => ?_
         ·refine qf Bx rfl (ql Gm rfl (qm rfl ?_))
          refine BB h fun v19 a19 b19 h => qi CR Db a19 (Ah b19) rfl (qK HB Db rfl ?_)
          refine B1 h fun v20 a20 h => AA [] (CF N v19 v20 a20) SN rfl (qp rfl (Ad ?_))
          exact sn [(2019, 2010), (2020, 2011), (2021, 2012)] h
         ·refine qw 6 rfl (qp rfl (Ad ?_))
          exact sn [(2019, 2010), (2020, 2011), (2021, 2012)] h
        ·refine Bd h (fun h => ?_) fun h => ?_
         ·refine Ak Ax rfl (qf Do rfl (ql Ir rfl (qm rfl (qf Do rfl (ql Ir rfl (qm rfl ?_))))))
          refine BB h fun v22 a22 b22 h => qI Ev Hq a22 (Ah b22) rfl (qj LO (Ah b22) rfl (qf G9 rfl (ql Cr rfl ?_)))
          refine F2 h fun c23 h => Kq rfl c23 (X5 rfl ?_)
          refine BB h fun v24 a24 b24 h => qI Ev Hq a24 (Ah b24) rfl ?_
          refine Eg rfl rfl rfl rfl (Ah b24) rfl Hq rfl (Hy rfl) (Dh El v12.1 _ ((Q3 .u8 v22 ((EI .u8 1 p2.gp))))) ?_
          refine AQ (by kernel_rfl) ?_
          exact sn [(2016, 2019), (2017, 2020), (2018, 2021)] h
         ·refine Am ?_
          exact sn [(2016, 2019), (2017, 2020), (2018, 2021)] h
       ·refine Ak Ax rfl (qm rfl (AZ rfl (qe rfl ?_)))
        exact sn [(2010, 2016), (2011, 2017), (2012, 2018)] h
      ·refine AS ?_
       exact sn [(2013, 2010), (2014, 2011), (2015, 2012)] h
     ·exact UO _ h (hs.trans (sm [(2001, 2013), (2002, 2014), (2003, 2015)] _ _ rfl rfl))
  ·refine wq rfl (B5 rfl (qe rfl ?_))
   refine Bd h (fun h => ?_) fun h => ?_
   ·refine wp rfl (qf BO rfl (ql Bb rfl (qm rfl ?_)))
    refine BB h fun v26 a26 b26 h => qi AC DR a26 (Ah b26) rfl (qk Cr rfl (AW rfl (Ad ?_)))
    refine Bd h (fun h => ?_) fun h => ?_
    ·refine wq rfl (Bm Fm JH rfl (qs A2 rfl (qe rfl ?_)))
     obtain rfl := sj h
     refine Ag ((Az 6 0 2022 1 _ rfl rfl rfl rfl).trans ((Az 6 1 2023 1 _ rfl rfl rfl rfl).trans ((Az 6 2 2024 1 _ rfl rfl rfl rfl).trans (sm [(1000, 2022), (1001, 2023), (1002, 2024)] [(6, oD (.ptr 6 0)), (7, bD false)] [(6, .box [.own 1000, .own 1001, .own 1002]), (1000, .vec 1 ((([] : List Int)).map Aq)), (1001, .vec 1 ((([] : List Int)).map Aq)), (1002, .vec 1 ((([] : List Int)).map El))] rfl rfl)))) (Au ?_)
     exact ⟨⟨[_, _], ⟨.cellN _ _ _ _ _ _ _ rfl rfl B7 A2 rfl rfl (Km rfl), tm⟩, rfl⟩, ⟨rfl, rfl, rfl, tv⟩⟩
    ·refine Am (Ak Ax rfl (qf Dp rfl (ql Bb rfl (qm rfl (qf BO rfl (ql Bb rfl (qm rfl (qf BO rfl (ql Bb rfl (qm rfl ?_))))))))))
     refine BB h fun v28 a28 b28 h => qi AC DR a28 (Ah b28) rfl (qk Cr rfl ?_)
     refine BB h fun v29 a29 b29 h => qI AC DR a29 (Ah b29) rfl ?_
     refine Eg rfl rfl rfl rfl (Ah b29) rfl DR rfl (Hy rfl) (Dh Aq ((([] : List Int)) ++ p1.gb) _ v28) ?_
     refine BB h fun v30 a30 b30 h => qI AC DR a30 (Ah b30) rfl ?_
     refine Eg rfl rfl rfl rfl (Ah b30) rfl DR rfl (Hy rfl) (Dh Aq ((([] : List Int)) ++ p1.f7) _ ((-1))) ?_
     refine AQ (by kernel_rfl) ?_
     exact sn [(2001, 18), (2002, 22), (2003, 26)] h
   ·refine wq rfl (B5 rfl (qe rfl ?_))
    refine Bd h (fun h => ?_) fun h => ?_
    ·refine wq rfl (qf Bx rfl (ql Gm rfl (qm rfl ?_)))
     refine BB h fun v32 a32 b32 h => qi CR Db a32 (Ah b32) rfl (qK HB Db rfl (qz JA rfl (qs Db rfl (Ad (wp rfl (qL HB Db rfl ?_))))))
     refine B1 h fun v33 a33 h => AA [] (CF N v32 v33 a33) SN rfl (CQ rfl (Ad ?_))
     refine Bd h (fun h => ?_) fun h => ?_
     ·refine wq rfl (Bm Fm JH rfl (qs A2 rfl (qe rfl ?_)))
      obtain rfl := sj h
      refine Ag ((Az 6 0 2025 1 _ rfl rfl rfl rfl).trans ((Az 6 1 2026 1 _ rfl rfl rfl rfl).trans ((Az 6 2 2027 1 _ rfl rfl rfl rfl).trans (sm [(1000, 2025), (1001, 2026), (1002, 2027)] [(6, oD (.ptr 6 0)), (7, bD false)] [(6, .box [.own 1000, .own 1001, .own 1002]), (1000, .vec 1 ((([] : List Int)).map Aq)), (1001, .vec 1 ((([] : List Int)).map Aq)), (1002, .vec 1 ((([] : List Int)).map El))] rfl rfl)))) (Au ?_)
      exact ⟨⟨[_, _], ⟨.cellN _ _ _ _ _ _ _ rfl rfl B7 A2 rfl rfl (Km rfl), tm⟩, rfl⟩, ⟨rfl, rfl, rfl, tv⟩⟩
     ·refine Am (wq rfl (qL B7 A2 rfl (qf DZ rfl (ql Cr rfl ?_))))
      refine B1 h fun v35 a35 h => AA [] (Ff N p1 v32.ge v35 a35) Uw rfl (qa rfl (Ad (wp rfl (qf Do rfl (ql Ir rfl (qm rfl ?_))))))
      refine BB h fun v36 a36 b36 h => qi Ev Hq a36 (Ah b36) rfl (qk LO rfl (qm rfl (B5 rfl (Ad ?_))))
      refine Bd h (fun h => ?_) fun h => ?_
      ·refine wq rfl (Bm Fm JH rfl (qs A2 rfl (qe rfl ?_)))
       obtain rfl := sj h
       refine Ag ((Az 6 0 2028 1 _ rfl rfl rfl rfl).trans ((Az 6 1 2029 1 _ rfl rfl rfl rfl).trans ((Az 6 2 2030 1 _ rfl rfl rfl rfl).trans (sm [(1000, 2028), (1001, 2029), (1002, 2030)] [(6, oD (.ptr 6 0)), (7, bD false)] [(6, .box [.own 1000, .own 1001, .own 1002]), (1000, .vec 1 ((([] : List Int)).map Aq)), (1001, .vec 1 ((([] : List Int)).map Aq)), (1002, .vec 1 ((([] : List Int)).map El))] rfl rfl)))) (Au ?_)
       exact ⟨⟨[_, _], ⟨.cellN _ _ _ _ _ _ _ rfl rfl B7 A2 rfl rfl (Km rfl), tm⟩, rfl⟩, ⟨rfl, rfl, rfl, tv⟩⟩
      ·refine Am (wp rfl (qe rfl ?_))
       refine AE (L := BP N p0 p1 p2 v32 v35) h (fun v38 => mk [(3, oD (.ptr 3 0)), (4, oD (.ptr 4 0)), (6, oD (.ptr 6 0)), (8, oD (.ptr 8 0)), (9, iD p2.gg), (11, oD (.ptr 11 0)), (12, pD (.val (.int .u8 v35))), (13, iD v38)] [(3, .box (Ai p0)), (4, .box (AL p1)), (6, .box [.pure (.nil0), .pure (.nil0), .pure (.nil0)]), (8, .box [.own 2031, .own 2032, .own 2033]), (11, .box (Bj v32)), (2031, .vec 1 (((([] : List Int)) ++ p1.gb).map Aq)), (2032, .vec 1 (((([] : List Int)) ++ p1.f7).map Aq)), (2033, .vec 1 (((([] : List Int)) ++ p1.gc).map El))]) (fun v39 => mk [(6, oD (.ptr 6 0)), (8, oD (.ptr 8 0)), (9, iD p2.gg), (12, pD (.val (.int .u8 v35)))] [(6, .box [.pure (.nil0), .pure (.nil0), .pure (.nil0)]), (8, .box [.own 2034, .own 2035, .own 2036]), (2034, .vec 1 (((([] : List Int)) ++ p1.gb).map Aq)), (2035, .vec 1 (((([] : List Int)) ++ p1.f7).map Aq)), (2036, .vec 1 (((([] : List Int)) ++ p1.gc).map El))]) (fun _ _ => rfl) (sm [(2031, 18), (2032, 22), (2033, 26)] _ _ rfl rfl) (fun j38 n38 v38 h => ?_) (fun v39 s h hs => ?_)
       ·unfold BP at h
        refine wp rfl (qm rfl (qf Bu rfl (ql Bb rfl (qf DZ rfl (ql Cr rfl ?_)))))
        refine BB h fun v40 a40 b40 h => qi AC DR a40 (Ah b40) rfl (qk Cr rfl (AW rfl (Ad ?_)))
        refine Bd h (fun h => ?_) fun h => ?_
        ·refine Am (AP (AK ?_))
         refine AT h (fun v42 => mk [(3, oD (.ptr 3 0)), (4, oD (.ptr 4 0)), (6, oD (.ptr 6 0)), (8, oD (.ptr 8 0)), (9, iD p2.gg), (11, oD (.ptr 11 0)), (12, pD (.val (.int .u8 v35))), (13, iD v38), (14, bD v42)] [(3, .box (Ai p0)), (4, .box (AL p1)), (6, .box [.pure (.nil0), .pure (.nil0), .pure (.nil0)]), (8, .box [.own 2037, .own 2038, .own 2039]), (11, .box (Bj v32)), (2037, .vec 1 (((([] : List Int)) ++ p1.gb).map Aq)), (2038, .vec 1 (((([] : List Int)) ++ p1.f7).map Aq)), (2039, .vec 1 (((([] : List Int)) ++ p1.gc).map El))]) (fun j42 h => ?_) (fun v42 h => ?_)
         ·refine Ak Ax rfl (qf Do rfl (ql Ir rfl (qm rfl ?_)))
          refine BB h fun v43 a43 b43 h => qi Ev Hq a43 (Ah b43) rfl (qk LO rfl (qm rfl ?_))
          refine B1 h fun v44 a44 h => AA [] (Hl N v43 v38 v44 a44) Wa rfl (qm rfl ?_)
          refine EU 166 h rfl (fun h => ?_) fun h => ?_
          ·refine qw 2 rfl ?_
           refine B1 h fun v46 a46 h => AA [] (Hl N v35 v38 v46 a46) Wa rfl (CQ rfl (qp rfl (qe rfl ?_)))
           exact sn [(2037, 2031), (2038, 2032), (2039, 2033)] h
          ·refine qw 4 rfl (qp rfl (qe rfl ?_))
           exact sn [(2037, 2031), (2038, 2032), (2039, 2033)] h
         ·refine AT h (fun v47 => mk [(3, oD (.ptr 3 0)), (4, oD (.ptr 4 0)), (6, oD (.ptr 6 0)), (8, oD (.ptr 8 0)), (9, iD p2.gg), (11, oD (.ptr 11 0)), (12, pD (.val (.int .u8 v35))), (13, iD v38), (193, bD v47)] [(3, .box (Ai p0)), (4, .box (AL p1)), (6, .box [.pure (.nil0), .pure (.nil0), .pure (.nil0)]), (8, .box [.own 2040, .own 2041, .own 2042]), (11, .box (Bj v32)), (2040, .vec 1 (((([] : List Int)) ++ p1.gb).map Aq)), (2041, .vec 1 (((([] : List Int)) ++ p1.f7).map Aq)), (2042, .vec 1 (((([] : List Int)) ++ p1.gc).map El))]) (fun j47 h => ?_) (fun v47 h => ?_)
          ·refine Ak Ax rfl (qw 2 rfl ?_)
           refine EU 173 h rfl (fun h => ?_) fun h => ?_
           ·refine qf Hn rfl (ql Cr rfl (B5 rfl (qp rfl (qm rfl ?_))))
            refine EU 178 h rfl (fun h => ?_) fun h => ?_
            ·refine qf E8 rfl (ql Hr rfl (qm rfl ?_))
             refine BB h fun v50 a50 b50 h => qi DH Is a50 (Ah b50) rfl (qk LU rfl (qf Dp rfl (ql Bb rfl (qf DZ rfl (ql Cr rfl ?_)))))
             refine BB h fun v51 a51 b51 h => qi AC DR a51 (Ah b51) rfl (qk Cr rfl ?_)
             refine BB h fun v52 a52 b52 h => qi EG MY a52 (Ah b52) rfl (qk UL rfl (CQ rfl (qp rfl (AQ (by kernel_rfl) ?_))))
             exact sn [(2040, 2037), (2041, 2038), (2042, 2039)] h
            ·refine qw 14 rfl (qp rfl (AQ (by kernel_rfl) ?_))
             exact sn [(2040, 2037), (2041, 2038), (2042, 2039)] h
           ·refine qw 3 rfl (qp rfl (qw 15 rfl (qp rfl (AQ (by kernel_rfl) ?_))))
            exact sn [(2040, 2037), (2041, 2038), (2042, 2039)] h
          ·refine Bd h (fun h => ?_) fun h => ?_
           ·refine wq rfl (Bm Fm JH rfl (qs A2 rfl (qe rfl ?_)))
            obtain rfl := sj h
            refine Ag ((Az 6 0 2043 1 _ rfl rfl rfl rfl).trans ((Az 6 1 2044 1 _ rfl rfl rfl rfl).trans ((Az 6 2 2045 1 _ rfl rfl rfl rfl).trans (sm [(1000, 2043), (1001, 2044), (1002, 2045)] [(6, oD (.ptr 6 0)), (7, bD false)] [(6, .box [.own 1000, .own 1001, .own 1002]), (1000, .vec 1 ((([] : List Int)).map Aq)), (1001, .vec 1 ((([] : List Int)).map Aq)), (1002, .vec 1 ((([] : List Int)).map El))] rfl rfl)))) (Au ?_)
            exact ⟨⟨[_, _], ⟨.cellN _ _ _ _ _ _ _ rfl rfl B7 A2 rfl rfl (Km rfl), tm⟩, rfl⟩, ⟨rfl, rfl, rfl, tv⟩⟩
           ·refine Am (Ak Ax rfl (qm rfl (AZ rfl (qe rfl ?_))))
            exact sn [(2031, 2040), (2032, 2041), (2033, 2042)] h
        ·refine AS ?_
         exact sn [(2034, 2031), (2035, 2032), (2036, 2033)] h
       ·refine Ag hs (Ak Ax rfl (qf Do rfl (ql Ir rfl (qw 2 rfl ?_))))
        refine BB h fun v54 a54 b54 h => qI Ev Hq a54 (Ah b54) rfl ?_
        refine Eg rfl rfl rfl rfl (Ah b54) rfl Hq rfl (Hy rfl) (Dh El ((([] : List Int)) ++ p1.gc) _ v35) ?_
        refine Ad ?_
        exact sn [(2001, 2034), (2002, 2035), (2003, 2036)] h
    ·refine wp rfl (qf BO rfl (ql Bb rfl (qm rfl ?_)))
     refine BB h fun v55 a55 b55 h => qi AC DR a55 (Ah b55) rfl (qk Cr rfl (AW rfl (Ad ?_)))
     refine Bd h (fun h => ?_) fun h => ?_
     ·refine wq rfl (Bm Fm JH rfl (qs A2 rfl (qe rfl ?_)))
      obtain rfl := sj h
      refine Ag ((Az 6 0 2046 1 _ rfl rfl rfl rfl).trans ((Az 6 1 2047 1 _ rfl rfl rfl rfl).trans ((Az 6 2 2048 1 _ rfl rfl rfl rfl).trans (sm [(1000, 2046), (1001, 2047), (1002, 2048)] [(6, oD (.ptr 6 0)), (7, bD false)] [(6, .box [.own 1000, .own 1001, .own 1002]), (1000, .vec 1 ((([] : List Int)).map Aq)), (1001, .vec 1 ((([] : List Int)).map Aq)), (1002, .vec 1 ((([] : List Int)).map El))] rfl rfl)))) (Au ?_)
      exact ⟨⟨[_, _], ⟨.cellN _ _ _ _ _ _ _ rfl rfl B7 A2 rfl rfl (Km rfl), tm⟩, rfl⟩, ⟨rfl, rfl, rfl, tv⟩⟩
     ·refine Am (Ak Ax rfl (qf BO rfl (ql Bb rfl (qm rfl ?_))))
      refine BB h fun v57 a57 b57 h => qI AC DR a57 (Ah b57) rfl ?_
      refine Eg rfl rfl rfl rfl (Ah b57) rfl DR rfl (Hy rfl) (Dh Aq ((([] : List Int)) ++ p1.f7) _ ((-1))) ?_
      refine Ad ?_
      exact sn [(2001, 18), (2002, 22), (2003, 26)] h
 ·refine wq rfl (qL B7 A2 rfl (qs A2 rfl (qe rfl ?_)))
  obtain rfl := sj h
  refine Ag (sm [(1000, 2001), (1001, 2002), (1002, 2003)] [(6, oD (.ptr 6 0)), (7, bD true)] [(6, .box [.own 1000, .own 1001, .own 1002]), (1000, .vec 1 (v4.1.map Aq)), (1001, .vec 1 (v4.2.1.map Aq)), (1002, .vec 1 (v4.2.2.map El))] rfl rfl) (Au ?_)
  exact ⟨⟨[_, _], ⟨.cellN _ _ _ _ _ _ _ rfl rfl B7 A2 rfl rfl (Km rfl), tm⟩, rfl⟩, ⟨rfl, rfl, rfl, tv⟩⟩
theorem MO (N : Nat) (p0 : Ab) (p1 : Ae) (p2 : Af) (r : Ae × Int) (h : FB N p0 p1 p2 = some r) : Ar zA 79 [.e (.agg (Ai p0)), .e (.agg (AL p1)), .e (.agg (DL p2))] [(1, r.1.gb.map Aq), (1, r.1.f7.map Aq), (1, r.1.gc.map El)] (.tup [.agg [.own 0, .own 1, .own 2], .one (iC r.2)]) := by
 unfold FB at h
 refine cw (n := 73) (rs := [.cell 6 64, .tmp 7]) Tryz.func79 fun w0 S0 => ?_
 refine wq rfl (qb rfl (qb rfl (qb rfl (qz Fm rfl (qa rfl (Ad (wp rfl (qL CD BT rfl (qL B7 A2 rfl ?_)))))))))
 refine B1 h fun v1 a1 h => AA [] (HO N p0 p1 v1 a1) Zd rfl (qa rfl (Ad (wq rfl (qm rfl (BF rfl (Ad ?_))))))
 refine Bd h (fun h => ?_) fun h => ?_
 ·refine wq rfl (Bm Fm JH rfl (qm rfl (qs A2 rfl (qe rfl ?_))))
  obtain rfl := sj h
  refine Ag ((Az 6 0 2001 1 _ rfl rfl rfl rfl).trans ((Az 6 1 2002 1 _ rfl rfl rfl rfl).trans ((Az 6 2 2003 1 _ rfl rfl rfl rfl).trans (sm [(1000, 2001), (1001, 2002), (1002, 2003)] [(6, oD (.ptr 6 0)), (7, iD v1)] [(6, .box [.own 1000, .own 1001, .own 1002]), (1000, .vec 1 ((([] : List Int)).map Aq)), (1001, .vec 1 ((([] : List Int)).map Aq)), (1002, .vec 1 ((([] : List Int)).map El))] rfl rfl)))) (Au ?_)
  exact ⟨⟨[_, _], ⟨.cellN _ _ _ _ _ _ _ rfl rfl B7 A2 rfl rfl (Km rfl), tm⟩, rfl⟩, ⟨rfl, rfl, rfl, tv⟩⟩
 ·refine Am (wp rfl (qL Hu Dg rfl ?_))
  refine B1 h fun v3 a3 h => AA [] (ML N p2 v3 a3) dU rfl (CQ rfl (Ad ?_))
  refine Bd h (fun h => ?_) fun h => ?_
  ·refine wq rfl (Bm Fm JH rfl (qs A2 rfl (qe rfl ?_)))
   obtain rfl := sj h
   refine Ag ((Az 6 0 2004 1 _ rfl rfl rfl rfl).trans ((Az 6 1 2005 1 _ rfl rfl rfl rfl).trans ((Az 6 2 2006 1 _ rfl rfl rfl rfl).trans (sm [(1000, 2004), (1001, 2005), (1002, 2006)] [(6, oD (.ptr 6 0)), (7, iD 1)] [(6, .box [.own 1000, .own 1001, .own 1002]), (1000, .vec 1 ((([] : List Int)).map Aq)), (1001, .vec 1 ((([] : List Int)).map Aq)), (1002, .vec 1 ((([] : List Int)).map El))] rfl rfl)))) (Au ?_)
   exact ⟨⟨[_, _], ⟨.cellN _ _ _ _ _ _ _ rfl rfl B7 A2 rfl rfl (Km rfl), tm⟩, rfl⟩, ⟨rfl, rfl, rfl, tv⟩⟩
  ·refine Am (AP ?_)
   refine AT h (fun v5 => mk [(3, oD (.ptr 3 0)), (4, oD (.ptr 4 0)), (5, oD (.ptr 5 0)), (6, oD (.ptr 6 0)), (45, bD v5)] [(3, .box (Ai p0)), (4, .box (AL p1)), (5, .box (DL p2)), (6, .box [.pure (.nil0), .pure (.nil0), .pure (.nil0)])]) (fun j5 h => ?_) (fun v5 h => ?_)
   ·refine Ak Ax rfl (qf Gb rfl (ql Cr rfl (B5 rfl (qm rfl ?_))))
    refine EU 25 h rfl (fun h => ?_) fun h => ?_
    ·refine qf Fh rfl (ql Cr rfl (qf Bx rfl (ql Gm rfl (AM CR rfl (F9 rfl (qp rfl (qm rfl ?_)))))))
     refine EU 33 h rfl (fun h => ?_) fun h => ?_
     ·refine qw 4 rfl (qu rfl (qu rfl (qu rfl (qu rfl (qu rfl (qu rfl (qn rfl (qp rfl (Ad ?_)))))))))
      exact sn [] h
     ·refine qf Gb rfl (ql Cr rfl (BF rfl (qm rfl ?_)))
      refine EU 37 h rfl (fun h => ?_) fun h => ?_
      ·refine qf Fh rfl (ql Cr rfl (qf Bu rfl (ql Bb rfl (AM AC rfl (F9 rfl (qp rfl (qp rfl (Ad ?_))))))))
       exact sn [] h
      ·refine qw 6 rfl (qp rfl (qp rfl (Ad ?_)))
       exact sn [] h
    ·refine qw 6 rfl (qp rfl (qm rfl (qf Gb rfl (ql Cr rfl (BF rfl (qm rfl ?_))))))
     refine EU 37 h rfl (fun h => ?_) fun h => ?_
     ·refine qf Fh rfl (ql Cr rfl (qf Bu rfl (ql Bb rfl (AM AC rfl (F9 rfl (qp rfl (qp rfl (Ad ?_))))))))
      exact sn [] h
     ·refine qw 6 rfl (qp rfl (qp rfl (Ad ?_)))
      exact sn [] h
   ·refine Bd h (fun h => ?_) fun h => ?_
    ·refine wq rfl (Bm Fm JH rfl (qs A2 rfl (qe rfl ?_)))
     obtain rfl := sj h
     refine Ag ((Az 6 0 2007 1 _ rfl rfl rfl rfl).trans ((Az 6 1 2008 1 _ rfl rfl rfl rfl).trans ((Az 6 2 2009 1 _ rfl rfl rfl rfl).trans (sm [(1000, 2007), (1001, 2008), (1002, 2009)] [(6, oD (.ptr 6 0)), (7, iD 4)] [(6, .box [.own 1000, .own 1001, .own 1002]), (1000, .vec 1 ((([] : List Int)).map Aq)), (1001, .vec 1 ((([] : List Int)).map Aq)), (1002, .vec 1 ((([] : List Int)).map El))] rfl rfl)))) (Au ?_)
     exact ⟨⟨[_, _], ⟨.cellN _ _ _ _ _ _ _ rfl rfl B7 A2 rfl rfl (Km rfl), tm⟩, rfl⟩, ⟨rfl, rfl, rfl, tv⟩⟩
    ·refine Am (AP ?_)
     refine AT h (fun v11 => mk [(3, oD (.ptr 3 0)), (4, oD (.ptr 4 0)), (5, oD (.ptr 5 0)), (6, oD (.ptr 6 0)), (60, bD v11)] [(3, .box (Ai p0)), (4, .box (AL p1)), (5, .box (DL p2)), (6, .box [.pure (.nil0), .pure (.nil0), .pure (.nil0)])]) (fun j11 h => ?_) (fun v11 h => ?_)
     ·refine Ak Ax rfl (qf Gb rfl (ql Cr rfl (B5 rfl (qm rfl ?_))))
      refine EU 50 h rfl (fun h => ?_) fun h => ?_
      ·refine qf G9 rfl (ql Cr rfl (qf Bu rfl (ql Bb rfl (qf Fh rfl (ql Cr rfl ?_)))))
       refine BB h fun v13 a13 b13 h => qi AC DR a13 (Ah b13) rfl (qk Cr rfl (F9 rfl (qp rfl (AQ (by kernel_rfl) ?_))))
       exact sn [] h
      ·refine qw 9 rfl (qp rfl (AQ (by kernel_rfl) ?_))
       exact sn [] h
     ·refine Bd h (fun h => ?_) fun h => ?_
      ·refine wq rfl (Bm Fm JH rfl (qs A2 rfl (qe rfl ?_)))
       obtain rfl := sj h
       refine Ag ((Az 6 0 2010 1 _ rfl rfl rfl rfl).trans ((Az 6 1 2011 1 _ rfl rfl rfl rfl).trans ((Az 6 2 2012 1 _ rfl rfl rfl rfl).trans (sm [(1000, 2010), (1001, 2011), (1002, 2012)] [(6, oD (.ptr 6 0)), (7, iD 4)] [(6, .box [.own 1000, .own 1001, .own 1002]), (1000, .vec 1 ((([] : List Int)).map Aq)), (1001, .vec 1 ((([] : List Int)).map Aq)), (1002, .vec 1 ((([] : List Int)).map El))] rfl rfl)))) (Au ?_)
       exact ⟨⟨[_, _], ⟨.cellN _ _ _ _ _ _ _ rfl rfl B7 A2 rfl rfl (Km rfl), tm⟩, rfl⟩, ⟨rfl, rfl, rfl, tv⟩⟩
      ·refine Am (wq rfl (qL CD BT rfl (qL B7 A2 rfl (qL Hu Dg rfl ?_))))
       refine B1 h fun v15 a15 h => AA [2013, 2014, 2015] (Jx N p0 p1 p2 v15 a15) bu rfl (qm rfl (qx rfl (qx rfl (qz Fm rfl (qs A2 rfl (qa rfl (Ad (wp rfl (qm rfl (CQ rfl (Ad ?_)))))))))))
       refine Bd h (fun h => ?_) fun h => ?_
       ·refine wq rfl (Bm Fm JH rfl (qs A2 rfl (qe rfl ?_)))
        obtain rfl := sj h
        refine Ag ((Az 6 0 2016 1 _ rfl rfl rfl rfl).trans ((Az 6 1 2017 1 _ rfl rfl rfl rfl).trans ((Az 6 2 2018 1 _ rfl rfl rfl rfl).trans (sm [(1000, 2016), (1001, 2017), (1002, 2018)] [(6, oD (.ptr 6 0)), (7, iD 11)] [(6, .box [.own 1000, .own 1001, .own 1002]), (1000, .vec 1 ((([] : List Int)).map Aq)), (1001, .vec 1 ((([] : List Int)).map Aq)), (1002, .vec 1 ((([] : List Int)).map El))] rfl rfl)))) (Au ?_)
        exact ⟨⟨[_, _], ⟨.cellN _ _ _ _ _ _ _ rfl rfl B7 A2 rfl rfl (Km rfl), tm⟩, rfl⟩, ⟨rfl, rfl, rfl, tv⟩⟩
       ·refine Am (wq rfl (qL B7 A2 rfl (qs A2 rfl (qe rfl ?_))))
        obtain rfl := sj h
        refine Ag (sm [(1000, 2013), (1001, 2014), (1002, 2015)] [(6, oD (.ptr 6 0)), (7, iD 0)] [(6, .box [.own 1000, .own 1001, .own 1002]), (1000, .vec 1 (v15.1.gb.map Aq)), (1001, .vec 1 (v15.1.f7.map Aq)), (1002, .vec 1 (v15.1.gc.map El))] rfl rfl) (Au ?_)
        exact ⟨⟨[_, _], ⟨.cellN _ _ _ _ _ _ _ rfl rfl B7 A2 rfl rfl (Km rfl), tm⟩, rfl⟩, ⟨rfl, rfl, rfl, tv⟩⟩
theorem MJ (N : Nat) (p0 : Ab) (p1 : Ae) (r : (List Af)) (h : FA N p0 p1 = some r) : Ar zA 119 [.e (.agg (Ai p0)), .e (.agg (AL p1))] [(3, r.map AD)] (oD (.own 0)) := by
 unfold FA at h
 refine cw (n := 49) (rs := [.tmp 4]) Tryz.func119 fun w0 S0 => ?_
 refine wq rfl (qb rfl (qb rfl (qa rfl (Ad (wq rfl (qa rfl (Ad (wp rfl (qe rfl ?_)))))))))
 refine AE (L := BD N p0 p1) h (fun v1 => mk [(2, oD (.ptr 2 0)), (3, oD (.ptr 3 0)), (5, oD (.own 2001)), (6, iD v1.2)] [(2, .box (Ai p0)), (3, .box (AL p1)), (2001, .vec 3 (v1.1.map AD))]) (fun v2 => mk [(5, oD (.own 2002))] [(2002, .vec 3 (v2.map AD))]) (fun _ _ => rfl) ((AU 5 2011 3 rfl rfl rfl).trans (sm [(2001, 2011)] _ _ rfl rfl)) (fun j1 n1 v1 h => ?_) (fun v2 s h hs => ?_)
 ·unfold BD at h
  refine wp rfl (qm rfl (RZ rfl (Ad ?_)))
  refine Bd h (fun h => ?_) fun h => ?_
  ·refine Am (AP (AK (wq rfl (qe rfl ?_))))
   refine AE (L := Cw N p0 p1 v1) h (fun v4 => mk [(2, oD (.ptr 2 0)), (3, oD (.ptr 3 0)), (5, oD (.own 2003)), (6, iD v1.2), (7, iD v4.2)] [(2, .box (Ai p0)), (3, .box (AL p1)), (2003, .vec 3 (v4.1.map AD))]) (fun v5 => mk [(2, oD (.ptr 2 0)), (3, oD (.ptr 3 0)), (5, oD (.own 2004)), (6, iD v1.2)] [(2, .box (Ai p0)), (3, .box (AL p1)), (2004, .vec 3 (v5.map AD))]) (fun _ _ => rfl) (sm [(2003, 2001)] _ _ rfl rfl) (fun j4 n4 v4 h => ?_) (fun v5 s h hs => ?_)
   ·unfold Cw at h
    refine wp rfl (qm rfl (qf Bu rfl (ql Bb rfl (AM AC rfl (qf Bx rfl (ql Gm rfl (AM CR rfl ?_)))))))
    refine d3 (.p rfl) rfl rfl ?_
    refine AW rfl (Ad ?_)
    refine Bd h (fun h => ?_) fun h => ?_
    ·refine Am (AP (AK (wq rfl (qe rfl ?_))))
     refine AE (L := Ct N p0 p1 v1 v4) h (fun v7 => mk [(2, oD (.ptr 2 0)), (3, oD (.ptr 3 0)), (5, oD (.own 2005)), (6, iD v1.2), (7, iD v4.2), (8, iD v7.2)] [(2, .box (Ai p0)), (3, .box (AL p1)), (2005, .vec 3 (v7.1.map AD))]) (fun v8 => mk [(2, oD (.ptr 2 0)), (3, oD (.ptr 3 0)), (5, oD (.own 2006)), (6, iD v1.2), (7, iD v4.2)] [(2, .box (Ai p0)), (3, .box (AL p1)), (2006, .vec 3 (v8.map AD))]) (fun _ _ => rfl) (sm [(2005, 2003)] _ _ rfl rfl) (fun j7 n7 v7 h => ?_) (fun v8 s h hs => ?_)
     ·unfold Ct at h
      refine wp rfl (qm rfl (AW rfl (Ad ?_)))
      refine Bd h (fun h => ?_) fun h => ?_
      ·refine Am ?_
       refine AT h (fun v10 => mk [(2, oD (.ptr 2 0)), (3, oD (.ptr 3 0)), (5, oD (.own 2007)), (6, iD v1.2), (7, iD v4.2), (8, iD v7.2)] [(2, .box (Ai p0)), (3, .box (AL p1)), (2007, .vec 3 (v10.map AD))]) (fun j10 h => ?_) (fun v10 h => ?_)
       ·refine AK (wq rfl (qw 3 rfl (Bm In Wu rfl (qz In rfl (qs Dg rfl (Ad (wq rfl (qL CD BT rfl (qL B7 A2 rfl (qL Hu Dg rfl ?_))))))))))
        refine B1 h fun v11 a11 h => AA [2008, 2009, 2010] (MO N p0 p1 ((Af.mk v1.2 v4.2 v7.2)) v11 a11) fS rfl (qm rfl (qx rfl (qx rfl (qz Fm rfl (qs A2 rfl (qa rfl (Ad (wq rfl (qm rfl (B5 rfl (Ad ?_)))))))))))
        refine Bd h (fun h => ?_) fun h => ?_
        ·refine Ak Ax rfl (qm rfl (qL Hu Dg rfl (Eb Fr Dg In rfl ?_)))
         refine F2 h fun c13 h => DE (f := AD) Fr Fr Dg OW In c13 rfl (qe rfl ?_)
         exact sn [(2007, 47)] h
        ·refine Am ?_
         exact sn [(2007, 2005)] h
       ·refine Ak Ax rfl (qm rfl (AZ rfl (qe rfl ?_)))
        exact sn [(2005, 2007)] h
      ·refine AS ?_
       exact sn [(2006, 2005)] h
     ·refine Ag hs (Ak Ax rfl (qm rfl (AZ rfl (qe rfl ?_))))
      exact sn [(2003, 2006)] h
    ·refine AS ?_
     exact sn [(2004, 2003)] h
   ·refine Ag hs (Ak Ax rfl (qm rfl (AZ rfl (qe rfl ?_))))
    exact sn [(2001, 2004)] h
  ·refine AS ?_
   exact sn [(2002, 2001)] h
 ·refine Ag hs (wq rfl (qm rfl (qe rfl ?_)))
  obtain rfl := sj h
  refine Ag (sm [(1000, 2002)] [(4, oD (.own 1000))] [(1000, .vec 3 (v2.map AD))] rfl rfl) (Au ?_)
  exact ⟨⟨[_], tm, rfl⟩, ⟨rfl, tv⟩⟩
theorem Ie (N : Nat) (p0 : List Int) (p1 : List Int) (r : Int) (h : D2 N p0 p1 = some r) : Ar zA 159 [pD (.sl (p0.map Aq)), pD (.sl (p1.map Aq))] [] (iD r) := by
 unfold D2 at h
 refine cw (n := 46) (rs := [.tmp 4]) Tryz.func159 fun w0 S0 => ?_
 refine wq rfl (qa rfl (Ad (wp rfl (qe rfl ?_))))
 refine AE (L := DY N p0 p1) h (fun v1 => mk [(0, pD (.sl (p0.map Aq))), (1, pD (.sl (p1.map Aq))), (5, iD v1)] []) (fun v2 => mk [(0, pD (.sl (p0.map Aq))), (1, pD (.sl (p1.map Aq)))] []) (fun _ _ => rfl) (sm [] _ _ rfl rfl) (fun j1 n1 v1 h => ?_) (fun v2 s h hs => ?_)
 ·unfold DY at h
  refine AP ?_
  refine AT h (fun v3 => mk [(0, pD (.sl (p0.map Aq))), (1, pD (.sl (p1.map Aq))), (5, iD v1), (15, bD v3)] []) (fun j3 h => ?_) (fun v3 h => ?_)
  ·refine Ak Ax rfl (qw 2 rfl (AM AC rfl (AW rfl (qm rfl ?_))))
   refine EU 10 h rfl (fun h => ?_) fun h => ?_
   ·refine qw 2 rfl (AM AC rfl (AW rfl (qp rfl (Ad ?_))))
    exact sn [] h
   ·refine qw 4 rfl (qp rfl (Ad ?_))
    exact sn [] h
  ·refine Bd h (fun h => ?_) fun h => ?_
   ·refine Am (AP (AK (wp rfl (qw 2 rfl ?_))))
    refine BB h fun v6 a6 b6 h => qi AC DR a6 (Ah b6) rfl (qk Cr rfl (qw 2 rfl ?_))
    refine BB h fun v7 a7 b7 h => qi AC DR a7 (Ah b7) rfl (qk Cr rfl (AW rfl (AQ (by kernel_rfl) ?_)))
    refine Bd h (fun h => ?_) fun h => ?_
    ·refine wq rfl (qe rfl ?_)
     obtain rfl := sj h
     refine Ag (sm [] [(4, iD ((-1)))] [] rfl rfl) (Au ?_)
     exact ⟨⟨[_], tm, rfl⟩, tv⟩
    ·refine Am (wq rfl (qw 2 rfl ?_))
     refine BB h fun v9 a9 b9 h => qi AC DR a9 (Ah b9) rfl (qk Cr rfl (qw 2 rfl ?_))
     refine BB h fun v10 a10 b10 h => qi AC DR a10 (Ah b10) rfl (qk Cr rfl (GE rfl (AQ (by kernel_rfl) ?_)))
     refine Bd h (fun h => ?_) fun h => ?_
     ·refine wq rfl (qe rfl ?_)
      obtain rfl := sj h
      refine Ag (sm [] [(4, iD 1)] [] rfl rfl) (Au ?_)
      exact ⟨⟨[_], tm, rfl⟩, tv⟩
     ·refine Am (Ak Ax rfl (qm rfl (AZ rfl (qe rfl ?_))))
      exact sn [] h
   ·refine AS ?_
    exact sn [] h
 ·refine Ag hs (wp rfl (qm rfl (AM AC rfl (qm rfl (AM AC rfl (AW rfl (Ad ?_)))))))
  refine Bd h (fun h => ?_) fun h => ?_
  ·refine wq rfl (qe rfl ?_)
   obtain rfl := sj h
   refine Ag (sm [] [(4, iD ((-1)))] [] rfl rfl) (Au ?_)
   exact ⟨⟨[_], tm, rfl⟩, tv⟩
  ·refine Am (wp rfl (qm rfl (AM AC rfl (qm rfl (AM AC rfl (GE rfl (Ad ?_)))))))
   refine Bd h (fun h => ?_) fun h => ?_
   ·refine wq rfl (qe rfl ?_)
    obtain rfl := sj h
    refine Ag (sm [] [(4, iD 1)] [] rfl rfl) (Au ?_)
    exact ⟨⟨[_], tm, rfl⟩, tv⟩
   ·refine Am (wq rfl (qe rfl ?_))
    obtain rfl := sj h
    refine Ag (sm [] [(4, iD 0)] [] rfl rfl) (Au ?_)
    exact ⟨⟨[_], tm, rfl⟩, tv⟩
theorem IS (N : Nat) (p0 : List Int) (r : (List Int)) (h : DT N p0 = some r) : Ar zA 160 [pD (.sl (p0.map El))] [(1, r.map Aq)] (oD (.own 0)) := by
 unfold DT at h
 refine cw (n := 20) (rs := [.tmp 2]) Tryz.func160 fun w0 S0 => ?_
 refine wq rfl (qa rfl (Ad (wq rfl (qa rfl (Ad (wp rfl (qe rfl ?_)))))))
 refine AE (L := Dj N p0) h (fun v1 => mk [(0, pD (.sl (p0.map El))), (3, oD (.own 2001)), (4, iD v1.2)] [(2001, .vec 1 (v1.1.map Aq))]) (fun v2 => mk [(3, oD (.own 2002))] [(2002, .vec 1 (v2.map Aq))]) (fun _ _ => rfl) ((AU 3 2003 1 rfl rfl rfl).trans (sm [(2001, 2003)] _ _ rfl rfl)) (fun j1 n1 v1 h => ?_) (fun v2 s h hs => ?_)
 ·unfold Dj at h
  refine wp rfl (qw 2 rfl (AM Ev rfl (AW rfl (Ad ?_))))
  refine Bd h (fun h => ?_) fun h => ?_
  ·refine Am (AP (AK (Ak Ax rfl (qw 3 rfl ?_))))
   refine BB h fun v4 a4 b4 h => qi Ev Hq a4 (Ah b4) rfl (qk LO rfl (K5 fj aW rfl (Eb AC DR Lf rfl ?_)))
   refine F2 h fun c5 h => DE (f := Aq) AC AC DR LX Lf c5 rfl (qa rfl (Ad (Ak Ax rfl (qm rfl (AZ rfl (qe rfl ?_))))))
   exact sn [(2001, 18)] h
  ·refine AS ?_
   exact sn [(2002, 2001)] h
 ·refine Ag hs (wq rfl (qm rfl (qe rfl ?_)))
  obtain rfl := sj h
  refine Ag (sm [(1000, 2002)] [(2, oD (.own 1000))] [(1000, .vec 1 (v2.map Aq))] rfl rfl) (Au ?_)
  exact ⟨⟨[_], tm, rfl⟩, ⟨rfl, tv⟩⟩
theorem LH (N : Nat) (p0 : Ae) (p1 : Ae) (r : Int) (h : EQ N p0 p1 = some r) : Ar zA 155 [.e (.agg (AL p0)), .e (.agg (AL p1))] [] (iD r) := by
 unfold EQ at h
 refine cw (n := 30) (rs := [.tmp 4]) Tryz.func155 fun w0 S0 => ?_
 refine wq rfl (qb rfl (qb rfl (qa rfl (Ad (wp rfl (qf Dp rfl (ql Bb rfl (qf Dp rfl (ql Bb rfl ?_)))))))))
 refine B1 h fun v1 a1 h => AA [] (Ie N p0.gb p1.gb v1 a1) XJ rfl (qa rfl (Ad (wq rfl (qm rfl (BF rfl (Ad ?_))))))
 refine Bd h (fun h => ?_) fun h => ?_
 ·refine wq rfl (qm rfl (qe rfl ?_))
  obtain rfl := sj h
  refine Ag (sm [] [(4, iD v1)] [] rfl rfl) (Au ?_)
  exact ⟨⟨[_], tm, rfl⟩, tv⟩
 ·refine Am (wp rfl (qf BO rfl (ql Bb rfl (qf BO rfl (ql Bb rfl ?_)))))
  refine B1 h fun v3 a3 h => AA [] (Ie N p0.f7 p1.f7 v3 a3) XJ rfl (qa rfl (Ad (wq rfl (qm rfl (BF rfl (Ad ?_))))))
  refine Bd h (fun h => ?_) fun h => ?_
  ·refine wq rfl (qm rfl (qe rfl ?_))
   obtain rfl := sj h
   refine Ag (sm [] [(4, iD v3)] [] rfl rfl) (Au ?_)
   exact ⟨⟨[_], tm, rfl⟩, tv⟩
  ·refine Am (wq rfl (qf Do rfl (ql Ir rfl ?_)))
   refine B1 h fun v5 a5 h => AA [2001] (IS N p0.gc v5 a5) bm rfl (qf Do rfl (ql Ir rfl ?_))
   refine B1 h fun v6 a6 h => AA [2002] (IS N p1.gc v6 a6) bm rfl ?_
   refine B1 h fun v7 a7 h => DU [] [2001, 2002] (Ie N v5 v6 v7 a7) XJ B9 rfl (qa rfl (AQ (by kernel_rfl) ?_))
   obtain rfl := sj h
   refine Ag (sm [] [(4, iD v7)] [] rfl rfl) (Au ?_)
   exact ⟨⟨[_], tm, rfl⟩, tv⟩
theorem MH (N : Nat) (p0 : Ae) (p1 : Ae) (r : Bool) (h : Fy N p0 p1 = some r) : Ar zA 145 [.e (.agg (AL p0)), .e (.agg (AL p1))] [] (bD r) := by
 unfold Fy at h
 refine cw (n := 9) (rs := [.tmp 4]) Tryz.func145 fun w0 S0 => ?_
 refine wq rfl (qb rfl (qb rfl (qa rfl (Ad (wq rfl (qL B7 A2 rfl (qL B7 A2 rfl ?_)))))))
 refine B1 h fun v1 a1 h => AA [] (LH N p0 p1 v1 a1) eC rfl (B5 rfl (qe rfl ?_))
 obtain rfl := sj h
 refine Ag (sm [] [(4, bD ((v1 == 0)))] [] rfl rfl) (Au ?_)
 exact ⟨⟨[_], tm, rfl⟩, tv⟩
theorem Nq (N : Nat) (p0 : List AF) (p1 : Ae) (r : Int) (h : EV N p0 p1 = some r) : Ar zA 120 [pD (.sl (p0.map BM)), .e (.agg (AL p1))] [] (iD r) := by
 unfold EV at h
 refine cw (n := 20) (rs := [.tmp 4]) Tryz.func120 fun w0 S0 => ?_
 refine wq rfl (qb rfl (qa rfl (Ad (wp rfl (qe rfl ?_)))))
 refine AE (L := CE N p0 p1) h (fun v1 => mk [(0, pD (.sl (p0.map BM))), (3, oD (.ptr 3 0)), (5, iD v1)] [(3, .box (AL p1))]) (fun v2 => mk [] []) (fun _ _ => rfl) (sm [] _ _ rfl rfl) (fun j1 n1 v1 h => ?_) (fun v2 s h hs => ?_)
 ·unfold CE at h
  refine wp rfl (qw 2 rfl (AM H8 rfl (AW rfl (Ad ?_))))
  refine Bd h (fun h => ?_) fun h => ?_
  ·refine Am (AP (AK (wq rfl (qw 2 rfl ?_))))
   refine BB h fun v4 a4 b4 h => qi H8 M1 a4 (Ah b4) rfl (qg NZ rfl (qK B7 A2 rfl (qL B7 A2 rfl ?_)))
   refine B1 h fun v5 a5 h => AA [] (MH N ((Ae.mk v4.gx.gb v4.gx.f7 v4.gx.gc)) p1 v5 a5) ek rfl (AQ (by kernel_rfl) ?_)
   refine Bd h (fun h => ?_) fun h => ?_
   ·refine wq rfl (qm rfl (qe rfl ?_))
    obtain rfl := sj h
    refine Ag (sm [] [(4, iD v1)] [] rfl rfl) (Au ?_)
    exact ⟨⟨[_], tm, rfl⟩, tv⟩
   ·refine Am (Ak Ax rfl (qm rfl (AZ rfl (qe rfl ?_))))
    exact sn [] h
  ·refine AS ?_
   exact sn [] h
 ·refine Ag hs (wq rfl (qe rfl ?_))
  obtain rfl := sj h
  refine Ag (sm [] [(4, iD ((-1)))] [] rfl rfl) (Au ?_)
  exact ⟨⟨[_], tm, rfl⟩, tv⟩
theorem Jy (N : Nat) (p0 : Ab) (p1 : Ae) (p2 : Int) (r : (List AF) × Bool) (h : De N p0 p1 p2 = some r) : Ar zA 85 [.e (.agg (Ai p0)), .e (.agg (AL p1)), iD p2] [(7, r.1.map BM)] (.tup [.one (.own 0), .one (.pure (.val (.bool r.2)))]) := by
 unfold De at h
 refine cw (n := 74) (rs := [.tmp 6, .tmp 7]) Tryz.func85 fun w0 S0 => ?_
 refine wq rfl (qb rfl (qb rfl (qa rfl (qa rfl (Ad (wq rfl (qL B7 A2 rfl (Bm TR aM rfl (Eb H8 M1 TR rfl (qa rfl (Ad (wp rfl (qe rfl ?_)))))))))))))
 refine AE (L := BZ N p0 p2) h (fun v1 => mk [(2, iD p2), (3, oD (.ptr 3 0)), (8, oD (.own 2001)), (9, iD v1.2)] [(3, .box (Ai p0)), (2001, .vec 7 (v1.1.map BM))]) (fun v2 => mk [(8, oD (.own 2002))] [(2002, .vec 7 (v2.map BM))]) (fun _ _ => rfl) (sm [(2001, 16)] _ _ rfl rfl) (fun j1 n1 v1 h => ?_) (fun v2 s h hs => ?_)
 ·unfold BZ at h
  refine wp rfl (qw 2 rfl (C3 H8 rfl (AW rfl (Ad ?_))))
  refine Bd h (fun h => ?_) fun h => ?_
  ·refine Am (AP (AK (wq rfl (qL CD BT rfl (qw 2 rfl ?_)))))
   refine BB h fun v4 a4 b4 h => qI H8 M1 a4 (Ah b4) rfl (qh NZ rfl ?_)
   refine Qz (.p rfl) rfl B7 A2 rfl (Ah b4) rfl rfl (by decide) ?_
   refine B1 h fun v5 a5 h => AA [2003] (MJ N p0 ((Ae.mk v4.gx.gb v4.gx.f7 v4.gx.gc)) v5 a5) ep rfl (qa rfl (AQ (by kernel_rfl) (wq rfl (qe rfl ?_))))
   refine AE (L := BY N p0 p2 v1 v5) h (fun v6 => mk [(2, iD p2), (3, oD (.ptr 3 0)), (8, oD (.own 2004)), (9, iD v1.2), (10, oD (.own 2005)), (11, iD v6.2)] [(3, .box (Ai p0)), (2004, .vec 7 (v6.1.map BM)), (2005, .vec 3 (v5.map AD))]) (fun v7 => mk [(2, iD p2), (3, oD (.ptr 3 0)), (8, oD (.own 2006)), (9, iD v1.2)] [(3, .box (Ai p0)), (2006, .vec 7 (v7.map BM))]) (fun _ _ => rfl) (sm [(2004, 2001), (2005, 2003)] _ _ rfl rfl) (fun j6 n6 v6 h => ?_) (fun v7 s h hs => ?_)
   ·unfold BY at h
    refine wp rfl (qw 2 rfl (C3 Fr rfl (AW rfl (Ad ?_))))
    refine Bd h (fun h => ?_) fun h => ?_
    ·refine Am (AP (AK (wq rfl (qL CD BT rfl (qw 2 rfl ?_)))))
     refine BB h fun v9 a9 b9 h => qI H8 M1 a9 (Ah b9) rfl (qh NZ rfl ?_)
     refine Qz (.p rfl) rfl B7 A2 rfl (Ah b9) rfl rfl (by decide) ?_
     refine qw 2 rfl ?_
     refine BB h fun v10 a10 b10 h => qI Fr Dg a10 (Ah b10) rfl (qJ Hu Dg (Ah b10) rfl ?_)
     refine B1 h fun v11 a11 h => AA [2007, 2008, 2009] (Jx N p0 ((Ae.mk v9.gx.gb v9.gx.f7 v9.gx.gc)) v10 v11 a11) bu rfl (qm rfl (qx rfl (qx rfl (qz Fm rfl (qs A2 rfl (qa rfl (AQ (by kernel_rfl) ?_)))))))
     refine AT h (fun v12 => mk [(2, iD p2), (3, oD (.ptr 3 0)), (8, oD (.own 2010)), (9, iD v1.2), (10, oD (.own 2011)), (11, iD v6.2)] [(3, .box (Ai p0)), (2010, .vec 7 (v12.map BM)), (2011, .vec 3 (v5.map AD))]) (fun j12 h => ?_) (fun v12 h => ?_)
     ·refine AT h (fun v13 => mk [(2, iD p2), (3, oD (.ptr 3 0)), (8, oD (.own 2015)), (9, iD v1.2), (10, oD (.own 2016)), (11, iD v6.2), (12, oD (.ptr 12 0)), (58, bD v13)] [(3, .box (Ai p0)), (12, .box [.own 2012, .own 2013, .own 2014]), (2012, .vec 1 (v11.1.gb.map Aq)), (2013, .vec 1 (v11.1.f7.map Aq)), (2014, .vec 1 (v11.1.gc.map El)), (2015, .vec 7 (v6.1.map BM)), (2016, .vec 3 (v5.map AD))]) (fun j13 h => ?_) (fun v13 h => ?_)
      ·refine Ak Ax rfl (qL CD BT rfl (qL B7 A2 rfl ?_))
       refine B1 h fun v14 a14 h => DU [] [2007, 2008, 2009] (G6 N p0 v11.1 v14 a14) bW B9 rfl (qm rfl ?_)
       refine EU 53 h rfl (fun h => ?_) fun h => ?_
       ·refine qm rfl (qL B7 A2 rfl ?_)
        refine B1 h fun v16 a16 h => DU [] [2004, 2007, 2008, 2009] (Nq N v6.1 v11.1 v16 a16) dX B9 rfl (AW rfl (qp rfl (Ad ?_)))
        exact sn [(2012, 2007), (2013, 2008), (2014, 2009), (2015, 2004), (2016, 2005)] h
       ·refine qw 4 rfl (qp rfl (Ad ?_))
        exact sn [(2012, 2007), (2013, 2008), (2014, 2009), (2015, 2004), (2016, 2005)] h
      ·refine Bd h (fun h => ?_) fun h => ?_
       ·refine Ag (BJ 2012 _ _ rfl rfl) (Ag (BJ 2013 _ _ rfl rfl) (Ag (BJ 2014 _ _ rfl rfl) (Ak Ax rfl (qm rfl (qL B7 A2 rfl (qw 3 rfl ?_))))))
        refine BB h fun v18 a18 b18 h => qI Fr Dg a18 (Ah b18) rfl (qJ Hu Dg (Ah b18) rfl (Bm TR aM rfl (Eb H8 M1 TR rfl ?_)))
        refine F2 h fun c19 h => DE (f := BM) H8 H8 M1 cm TR c19 rfl (qa rfl (AQ (by kernel_rfl) ?_))
        exact sn [(2010, 68), (2011, 2016)] h
       ·refine Am ?_
        exact sn [(2010, 2015), (2011, 2016)] h
     ·refine wq rfl (qm rfl (C3 H8 rfl (qm rfl (GE rfl (Ad ?_)))))
      refine Bd h (fun h => ?_) fun h => ?_
      ·refine wq rfl (qa rfl (qe rfl ?_))
       obtain rfl := sj h
       refine Ag ((AU 6 2017 7 rfl rfl rfl).trans (sm [(1000, 2017)] [(6, oD (.own 1000)), (7, bD false)] [(1000, .vec 7 ((([] : List AF)).map BM))] rfl rfl)) (Au ?_)
       exact ⟨⟨[_, _], ⟨.tmp _ _ rfl, tm⟩, rfl⟩, ⟨rfl, tv⟩⟩
      ·refine Am (Ak Ax rfl (qm rfl (AZ rfl (qe rfl ?_))))
       exact sn [(2004, 2010), (2005, 2011)] h
    ·refine AS ?_
     exact sn [(2006, 2004)] h
   ·refine Ag hs (Ak Ax rfl (qm rfl (AZ rfl (qe rfl ?_))))
    exact sn [(2001, 2006)] h
  ·refine AS ?_
   exact sn [(2002, 2001)] h
 ·refine Ag hs (wq rfl (qm rfl (qa rfl (qe rfl ?_))))
  obtain rfl := sj h
  refine Ag (sm [(1000, 2002)] [(6, oD (.own 1000)), (7, bD true)] [(1000, .vec 7 (v2.map BM))] rfl rfl) (Au ?_)
  exact ⟨⟨[_, _], ⟨.tmp _ _ rfl, tm⟩, rfl⟩, ⟨rfl, tv⟩⟩
theorem MN (N : Nat) (p0 : Ab) (p1 : Int) (r : Bool) (h : Fv N p0 p1 = some r) : Ar zA 59 [.e (.agg (Ai p0)), iD p1] [] (bD r) := by
 unfold Fv at h
 refine cw (n := 30) (rs := [.tmp 4]) Tryz.func59 fun w0 S0 => ?_
 refine wq rfl (qb rfl (qa rfl (Ad (wq rfl (qL CD BT rfl ?_)))))
 refine B1 h fun v1 a1 h => AA [2001, 2002, 2003] (Ju N p0 v1 a1) cV rfl (qm rfl (qx rfl (qx rfl (qz Fm rfl (qs A2 rfl (qa rfl (Ad (AP ?_))))))))
 refine AT h (fun v2 => mk [(1, iD p1), (2, oD (.ptr 2 0)), (5, oD (.ptr 5 0)), (21, bD v2)] [(2, .box (Ai p0)), (5, .box [.own 2004, .own 2005, .own 2006]), (2004, .vec 1 (v1.1.gb.map Aq)), (2005, .vec 1 (v1.1.f7.map Aq)), (2006, .vec 1 (v1.1.gc.map El))]) (fun j2 h => ?_) (fun v2 h => ?_)
 ·refine Ak Ax rfl (qm rfl (BF rfl (qm rfl ?_)))
  refine EU 16 h rfl (fun h => ?_) fun h => ?_
  ·refine qw 4 rfl (qp rfl (Ad ?_))
   exact sn [(2004, 2001), (2005, 2002), (2006, 2003)] h
  ·refine qL CD BT rfl (qL B7 A2 rfl ?_)
   refine B1 h fun v4 a4 h => DU [] [2001, 2002, 2003] (G6 N p0 v1.1 v4 a4) bW B9 rfl (CQ rfl (qp rfl (Ad ?_)))
   exact sn [(2004, 2001), (2005, 2002), (2006, 2003)] h
 ·refine Bd h (fun h => ?_) fun h => ?_
  ·refine wq rfl (qe rfl ?_)
   obtain rfl := sj h
   refine Ag (sm [] [(4, bD true)] [] rfl rfl) (Au ?_)
   exact ⟨⟨[_], tm, rfl⟩, tv⟩
  ·refine Am (wq rfl (qL CD BT rfl (qL B7 A2 rfl (qm rfl (Et (BJ 2004 _ _ rfl rfl) (Et (BJ 2005 _ _ rfl rfl) (Et (BJ 2006 _ _ rfl rfl) ?_)))))))
   refine B1 h fun v6 a6 h => AA [2007] (Jy N p0 v1.1 p1 v6 a6) eM rfl (qm rfl (qx rfl (qx rfl (qa rfl (qa rfl (Ad (wq rfl (qm rfl (qe rfl ?_)))))))))
   obtain rfl := sj h
   refine Ag (sm [] [(4, bD v6.2)] [] rfl rfl) (Au ?_)
   exact ⟨⟨[_], tm, rfl⟩, tv⟩
theorem MG (N : Nat) (p0 : Ab) (r : Bool) (h : Gr N p0 = some r) : Ar zA 33 [.e (.agg (Ai p0))] [] (bD r) := by
 unfold Gr at h
 refine cw (n := 15) (rs := [.tmp 2]) Tryz.func33 fun w0 S0 => ?_
 refine wq rfl (qb rfl (qa rfl (Ad (wq rfl (qL CD BT rfl ?_)))))
 refine B1 h fun v1 a1 h => AA [2001] (Hg N p0 v1 a1) bE rfl (qe rfl ?_)
 refine AT h (fun v2 => mk [(2, bD v2)] []) (fun j2 h => ?_) (fun v2 h => ?_)
 ·refine Ak Ax rfl (qm rfl (C3 A3 rfl (RZ rfl (qm rfl ?_))))
  refine EU 9 h rfl (fun h => ?_) fun h => ?_
  ·refine qL CD BT rfl (qm rfl (Et (BJ 2001 _ _ rfl rfl) ?_))
   refine B1 h fun v4 a4 h => AA [2002, 2003, 2004] (JR N p0 v1 v4 a4) dy rfl ?_
   refine B1 h fun v5 a5 h => DU [] [2002, 2003, 2004] (MN N v4 60 v5 a5) fa B9 rfl (qp rfl (qe rfl ?_))
   exact sn [] h
  ·refine qw 4 rfl (qp rfl (qe rfl ?_))
   exact sn [] h
 ·obtain rfl := sj h
  refine Ag (sm [] [(2, bD v2)] [] rfl rfl) (Au ?_)
  exact ⟨⟨[_], tm, rfl⟩, tv⟩
theorem OM (N : Nat) (p0 : Bz) (r : Ab × Bool) (h : Gp N p0 = some r) : Ar zA 10 [.e (.agg (Dc p0))] [(1, r.1.f9.map Aq), (1, r.1.gf.map Aq), (1, r.1.gj.map Aq), (6, r.1.ga.map AJ)] (.tup [.agg [.own 0, .own 1, .own 2, .own 3], .one (.pure (.val (.bool r.2)))]) := by
 unfold Gp at h
 refine cw (n := 23) (rs := [.cell 2 29, .tmp 3]) Tryz.func10 fun w0 S0 => ?_
 refine wq rfl (qb rfl (qz LG rfl (qa rfl (Ad (wq rfl (qL dh eo rfl ?_))))))
 refine B1 h fun v1 a1 h => AA [2001, 2002, 2003, 2004] (O1 N p0 v1 a1) eZ rfl (qm rfl (qx rfl (qx rfl (qz LG rfl (qs BT rfl (qe rfl ?_))))))
 refine AT h (fun v2 => mk [(2, oD (.ptr 2 0)), (3, bD v2)] [(2, .box [.own 2005, .own 2006, .own 2007, .own 2008]), (2005, .vec 1 (v1.1.f9.map Aq)), (2006, .vec 1 (v1.1.gf.map Aq)), (2007, .vec 1 (v1.1.gj.map Aq)), (2008, .vec 6 (v1.1.ga.map AJ))]) (fun j2 h => ?_) (fun v2 h => ?_)
 ·refine Ak Ax rfl (qL CD BT rfl (qw 2 rfl ?_))
  refine EU 13 h rfl (fun h => ?_) fun h => ?_
  ·refine qf Bu rfl (ql Bb rfl (C3 AC rfl (RZ rfl (qp rfl (qm rfl ?_)))))
   refine EU 19 h rfl (fun h => ?_) fun h => ?_
   ·refine qL CD BT rfl ?_
    refine B1 h fun v5 a5 h => DU [] [2001, 2002, 2003, 2004] (MG N v1.1 v5 a5) fK B9 rfl (qp rfl (qs BT rfl (qa rfl (AQ (by kernel_rfl) ?_))))
    exact sn [(2005, 2001), (2006, 2002), (2007, 2003), (2008, 2004)] h
   ·refine qw 2 rfl (qp rfl (qs BT rfl (qa rfl (AQ (by kernel_rfl) ?_))))
    exact sn [(2005, 2001), (2006, 2002), (2007, 2003), (2008, 2004)] h
  ·refine qw 4 rfl (qp rfl (qw 3 rfl (qp rfl (qs BT rfl (qa rfl (AQ (by kernel_rfl) ?_))))))
   exact sn [(2005, 2001), (2006, 2002), (2007, 2003), (2008, 2004)] h
 ·obtain rfl := sj h
  refine Ag (sm [(1000, 2005), (1001, 2006), (1002, 2007), (1003, 2008)] [(2, oD (.ptr 2 0)), (3, bD v2)] [(2, .box [.own 1000, .own 1001, .own 1002, .own 1003]), (1000, .vec 1 (v1.1.f9.map Aq)), (1001, .vec 1 (v1.1.gf.map Aq)), (1002, .vec 1 (v1.1.gj.map Aq)), (1003, .vec 6 (v1.1.ga.map AJ))] rfl rfl) (Au ?_)
  exact ⟨⟨[_, _], ⟨.cellN _ _ _ _ _ _ _ rfl rfl CD BT rfl rfl (Km rfl), tm⟩, rfl⟩, ⟨rfl, rfl, rfl, rfl, tv⟩⟩
theorem Ge (N : Nat) (r : Ab) (h : D1 N = some r) : Ar zA 34 [] [(1, r.f9.map Aq), (1, r.gf.map Aq), (1, r.gj.map Aq), (6, r.ga.map AJ)] (.e (.agg [.own 0, .own 1, .own 2, .own 3])) := by
 unfold D1 at h
 refine cw (n := 12) (rs := [.cell 0 29]) Tryz.func34 fun w0 S0 => ?_
 refine wq rfl (qz LG rfl (Ad (wq rfl (Eb EG MY WF rfl (Eb EG MY WF rfl (Et (BJ 2 _ _ rfl rfl) (Et (BJ 3 _ _ rfl rfl) (Eb DH Is S3 rfl (Bm JA db rfl (qz JA rfl (qs Db rfl (Ad (wq rfl (Eb AC DR Lf rfl (Eb AC DR Lf rfl (Eb AC DR Lf rfl (qL HB Db rfl (Et (BJ 4 _ _ rfl rfl) (Eb CR Db JA rfl (Bm LG Xl rfl (qs BT rfl (Ad ?_))))))))))))))))))))))
 obtain rfl := sj h
 refine Ag (sm [(1000, 6), (1001, 7), (1002, 8), (1003, 10)] [(0, oD (.ptr 0 0))] [(0, .box [.own 1000, .own 1001, .own 1002, .own 1003]), (1000, .vec 1 ((([2, 2] : List Int)).map Aq)), (1001, .vec 1 ((([0, 0] : List Int)).map Aq)), (1002, .vec 1 ((([1, 1] : List Int)).map Aq)), (1003, .vec 6 ((([(Ao.mk 1 0 1 false (([([true, false] : List Bool), ([false, true] : List Bool)] : List (List Bool))) (([] : List (List Bool))))] : List Ao)).map AJ))] rfl rfl) (Au ?_)
 exact ⟨⟨[_], ⟨.cellN _ _ _ _ _ _ _ rfl rfl CD BT rfl rfl (Km rfl), tv⟩, rfl⟩, ⟨rfl, rfl, rfl, rfl, tv⟩⟩
theorem IC (N : Nat) (p0 : Int) (p1 : Int) (r : Bool) (h : E0 N p0 p1 = some r) : Ar zA 76 [iD p0, iD p1] [] (bD r) := by
 unfold E0 at h
 refine cw (n := 12) (rs := [.tmp 4]) Tryz.func76 fun w0 S0 => ?_
 refine wq rfl (qe rfl ?_)
 refine AT h (fun v1 => mk [(4, bD v1)] []) (fun j1 h => ?_) (fun v1 h => ?_)
 ·refine Ak Ax rfl (qm rfl (F9 rfl (qm rfl ?_)))
  refine EU 7 h rfl (fun h => ?_) fun h => ?_
  ·refine qw 2 rfl (AW rfl (qp rfl (qe rfl ?_)))
   exact sn [] h
  ·refine qw 3 rfl (qp rfl (qe rfl ?_))
   exact sn [] h
 ·obtain rfl := sj h
  refine Ag (sm [] [(4, bD v1)] [] rfl rfl) (Au ?_)
  exact ⟨⟨[_], tm, rfl⟩, tv⟩
theorem Tb (N : Nat) (p0 : Int) (p1 : Bool) (r : Bool) (h : HZ N p0 p1 = some r) : Ar zA 110 [iD p0, bD p1] [] (bD r) := by
 unfold HZ at h
 refine cw (n := 23) (rs := [.tmp 4]) Tryz.func110 fun w0 S0 => ?_
 refine wq rfl (qe rfl ?_)
 refine AT h (fun v1 => mk [(4, bD v1)] []) (fun j1 h => ?_) (fun v1 h => ?_)
 ·refine Ak Ax rfl (qm rfl (B5 rfl (qm rfl ?_)))
  refine EU 7 h rfl (fun h => ?_) fun h => ?_
  ·refine qw 2 rfl (qp rfl (qw 4 rfl (qu rfl (qu rfl (qw 2 rfl (qu rfl (qu rfl (qn rfl (qp rfl (qe rfl ?_))))))))))
   exact sn [] h
  ·refine qm rfl (B5 rfl (qp rfl (qm rfl ?_)))
   refine EU 11 h rfl (fun h => ?_) fun h => ?_
   ·refine qw 3 rfl (qu rfl (qu rfl (qw 2 rfl (qu rfl (qu rfl (qn rfl (qp rfl (qe rfl ?_))))))))
    exact sn [] h
   ·refine qm rfl (B5 rfl (qm rfl ?_))
    refine EU 14 h rfl (fun h => ?_) fun h => ?_
    ·refine qw 2 rfl (qp rfl (qw 2 rfl (CQ rfl (qp rfl (qp rfl (qe rfl ?_))))))
     exact sn [] h
    ·refine qm rfl (B5 rfl (qp rfl (qm rfl ?_)))
     refine EU 18 h rfl (fun h => ?_) fun h => ?_
     ·refine qm rfl (CQ rfl (qp rfl (qp rfl (qe rfl ?_))))
      exact sn [] h
     ·refine qw 2 rfl (qp rfl (qp rfl (qe rfl ?_)))
      exact sn [] h
 ·obtain rfl := sj h
  refine Ag (sm [] [(4, bD v1)] [] rfl rfl) (Au ?_)
  exact ⟨⟨[_], tm, rfl⟩, tv⟩
theorem OY (N : Nat) (p0 : List Bool) (p1 : Int) (r : Bool) (h : EN N p0 p1 = some r) : Ar zA 141 [pD (.sl (p0.map eB)), oD (.rop [.val (.int .i64 p1)])] [] (bD r) := by
 unfold EN at h
 refine cw (n := 8) (rs := [.tmp 3]) Tryz.func141 fun w0 S0 => ?_
 refine wq rfl (qa rfl (Ad (wq rfl (qm rfl (AM EG rfl (qk Cr rfl (BF rfl (qe rfl ?_))))))))
 obtain rfl := sj h
 refine Ag (sm [] [(3, bD (((p0.length : Int) != p1)))] [] rfl rfl) (Au ?_)
 exact ⟨⟨[_], tm, rfl⟩, tv⟩
theorem Jq (N : Nat) (p0 : List (List Bool)) (p1 : (List Bool) → Option Bool) (r : Int) (h : D5 N p0 p1 = some r) : Ar zA 154 [pD (.sl (p0.map (DG eB))), oD (.clo (JV (PC false (DG eB)) tB p1))] [] (iD r) := by
 unfold D5 at h
 refine cw (n := 19) (rs := [.tmp 4]) Tryz.func154 fun w0 S0 => ?_
 refine wq rfl (qa rfl (Ad (wp rfl (qm rfl (AM DH rfl (qm rfl (Ad ?_)))))))
 refine AE (L := By N p0 p1) h (fun v1 => mk [(0, pD (.sl (p0.map (DG eB)))), (1, oD (.clo (JV (PC false (DG eB)) tB p1))), (7, iD ((p0.length : Int))), (8, iD v1)] []) (fun v2 => mk [] []) (fun _ _ => rfl) (sm [] _ _ rfl rfl) (fun j1 n1 v1 h => ?_) (fun v2 s h hs => ?_)
 ·unfold By at h
  refine wq rfl (AW rfl (Ad (AP ?_)))
  refine Bd h (fun h => ?_) fun h => ?_
  ·refine Am (AP (AK (wq rfl (qm rfl (qa rfl (Ad (wq rfl (qw 3 rfl ?_))))))))
   refine BB h fun v4 a4 b4 h => qi DH Is a4 (Ah b4) rfl (qk LU rfl ?_)
   refine B1 h fun v5 a5 h => NU (ds0 := [_]) (ar := (PC false (DG eB)) v4) (.p rfl) rfl rfl ⟨rfl, tv⟩ rfl rfl rfl (MB (NI _ _ (dt eS)) a5) ?_
   refine Ad ?_
   refine Bd h (fun h => ?_) fun h => ?_
   ·refine wq rfl (qm rfl (qe rfl ?_))
    obtain rfl := sj h
    refine Ag (sm [] [(4, iD v1)] [] rfl rfl) (Au ?_)
    exact ⟨⟨[_], tm, rfl⟩, tv⟩
   ·refine Am (Ak Ax rfl (AZ rfl (qm rfl (Ad ?_))))
    exact sn [] h
  ·refine AS ?_
   exact sn [] h
 ·refine Ag hs (wq rfl (qe rfl ?_))
  obtain rfl := sj h
  refine Ag (sm [] [(4, iD ((-1)))] [] rfl rfl) (Au ?_)
  exact ⟨⟨[_], tm, rfl⟩, tv⟩
theorem IR (N : Nat) (p0 : List (List Bool)) (p1 : (List Bool) → Option Bool) (r : Bool) (h : DB N p0 p1 = some r) : Ar zA 140 [pD (.sl (p0.map (DG eB))), oD (.clo (JV (PC false (DG eB)) tB p1))] [] (bD r) := by
 unfold DB at h
 refine cw (n := 9) (rs := [.tmp 4]) Tryz.func140 fun w0 S0 => ?_
 refine wq rfl (qa rfl (Ad (wq rfl (qw 2 rfl ?_))))
 refine B1 h fun v1 a1 h => AA [] (Jq N p0 p1 v1 a1) dp rfl (F9 rfl (qe rfl ?_))
 obtain rfl := sj h
 refine Ag (sm [] [(4, bD ((decide (0 ≤ v1))))] [] rfl rfl) (Au ?_)
 exact ⟨⟨[_], tm, rfl⟩, tv⟩
theorem LL (N : Nat) (p0 : List (List Bool)) (p1 : Int) (p2 : Int) (r : Bool) (h : Gi N p0 p1 p2 = some r) : Ar zA 111 [pD (.sl (p0.map (DG eB))), iD p1, iD p2] [] (bD r) := by
 unfold Gi at h
 refine cw (n := 17) (rs := [.tmp 6]) Tryz.func111 fun w0 S0 => ?_
 refine wq rfl (qb rfl (qe rfl ?_))
 refine AT h (fun v1 => mk [(6, bD v1)] []) (fun j1 h => ?_) (fun v1 h => ?_)
 ·refine Ak Ax rfl (qm rfl (AM DH rfl (qm rfl (B5 rfl (qm rfl ?_)))))
  refine EU 11 h rfl (fun h => ?_) fun h => ?_
  ·refine qm rfl (Et (NG 5 [.val (.int .i64 p2)] rfl rfl) ?_)
   refine Ni (capD := [_]) (JV (PC false (DG eB)) tB ((fun (x : List Bool) => EN N x p2))) (.g rfl rfl) dw rfl ⟨rfl, tv⟩ rfl (fun ar t ht => by obtain ⟨x, r, rfl, hq, rfl⟩ := JQ ht; exact OY N x p2 r hq) ?_
   refine B1 h fun v3 a3 h => AA [] (IR N p0 ((fun (x : List Bool) => EN N x p2)) v3 a3) dD rfl (CQ rfl (qp rfl (qe rfl ?_)))
   exact sn [] h
  ·refine qw 4 rfl (qp rfl (qe rfl ?_))
   exact sn [] h
 ·obtain rfl := sj h
  refine Ag (sm [] [(6, bD v1)] [] rfl rfl) (Au ?_)
  exact ⟨⟨[_], tm, rfl⟩, tv⟩
theorem Rt (N : Nat) (p0 : Ab) (p1 : Ao) (r : Int) (h : Hv N p0 p1 = some r) : Ar zA 77 [.e (.agg (Ai p0)), .e (.agg (Bj p1))] [] (iD r) := by
 unfold Hv at h
 refine cw (n := 87) (rs := [.tmp 4]) Tryz.func77 fun w0 S0 => ?_
 refine wq rfl (qb rfl (qb rfl (qa rfl (Ad (wp rfl (qf Hn rfl (ql Cr rfl (qf Kw rfl (ql UL rfl ?_)))))))))
 refine B1 h fun v1 a1 h => AA [] (Tb N p1.gd p1.gl v1 a1) dW rfl (CQ rfl (Ad ?_))
 refine Bd h (fun h => ?_) fun h => ?_
 ·refine wq rfl (qe rfl ?_)
  obtain rfl := sj h
  refine Ag (sm [] [(4, iD 1)] [] rfl rfl) (Au ?_)
  exact ⟨⟨[_], tm, rfl⟩, tv⟩
 ·refine Am (AP ?_)
  refine AT h (fun v3 => mk [(2, oD (.ptr 2 0)), (3, oD (.ptr 3 0)), (29, bD v3)] [(2, .box (Ai p0)), (3, .box (Bj p1))]) (fun j3 h => ?_) (fun v3 h => ?_)
  ·refine Ak Ax rfl (qf DZ rfl (ql Cr rfl (qf Bu rfl (ql Bb rfl (AM AC rfl ?_)))))
   refine B1 h fun v4 a4 h => AA [] (IC N p1.ge ((p0.f9.length : Int)) v4 a4) ZY rfl (CQ rfl (qm rfl ?_))
   refine EU 21 h rfl (fun h => ?_) fun h => ?_
   ·refine qw 7 rfl (qp rfl (Ad ?_))
    exact sn [] h
   ·refine qf JD rfl (ql Cr rfl (qf Bu rfl (ql Bb rfl (AM AC rfl ?_))))
    refine B1 h fun v6 a6 h => AA [] (IC N p1.gi ((p0.f9.length : Int)) v6 a6) ZY rfl (CQ rfl (qp rfl (Ad ?_)))
    exact sn [] h
  ·refine Bd h (fun h => ?_) fun h => ?_
   ·refine wq rfl (qe rfl ?_)
    obtain rfl := sj h
    refine Ag (sm [] [(4, iD 4)] [] rfl rfl) (Au ?_)
    exact ⟨⟨[_], tm, rfl⟩, tv⟩
   ·refine Am (wq rfl (qf Bu rfl (ql Bb rfl (qf DZ rfl (ql Cr rfl ?_)))))
    refine BB h fun v8 a8 b8 h => qi AC DR a8 (Ah b8) rfl (qk Cr rfl (qa rfl (Ad (wq rfl (qf Hn rfl (ql Cr rfl (B5 rfl (qa rfl (Ad (AP ?_))))))))))
    refine AT h (fun v9 => mk [(3, oD (.ptr 3 0)), (70, bD v9)] [(3, .box (Bj p1))]) (fun j9 h => ?_) (fun v9 h => ?_)
    ·refine Ak Ax rfl (qf Fa rfl (ql Hr rfl (qm rfl (qf Bu rfl (ql Bb rfl (qf JD rfl (ql Cr rfl ?_)))))))
     refine BB h fun v10 a10 b10 h => qi AC DR a10 (Ah b10) rfl (qk Cr rfl ?_)
     refine B1 h fun v11 a11 h => AA [] (LL N p1.gh v8 v10 v11 a11) ba rfl (CQ rfl (qm rfl ?_))
     refine EU 50 h rfl (fun h => ?_) fun h => ?_
     ·refine qw 2 rfl (qu rfl (qu rfl (qu rfl (qu rfl (qu rfl (qu rfl (qn rfl (qp rfl (qw 4 rfl (qu rfl (qu rfl (qu rfl (qu rfl (qn rfl (qp rfl (AQ (by kernel_rfl) ?_))))))))))))))))
      exact sn [] h
     ·refine qw 2 rfl ?_
      refine EU 52 h rfl (fun h => ?_) fun h => ?_
      ·refine qf E8 rfl (ql Hr rfl (qw 2 rfl ?_))
       refine B1 h fun v14 a14 h => AA [] (LL N p1.gk v8 v8 v14 a14) ba rfl (CQ rfl (qp rfl (qp rfl (qm rfl ?_))))
       refine EU 61 h rfl (fun h => ?_) fun h => ?_
       ·refine qw 3 rfl (qu rfl (qu rfl (qu rfl (qu rfl (qn rfl (qp rfl (AQ (by kernel_rfl) ?_)))))))
        exact sn [] h
       ·refine qm rfl (CQ rfl (qm rfl ?_))
        refine EU 64 h rfl (fun h => ?_) fun h => ?_
        ·refine qf E8 rfl (ql Hr rfl (AM DH rfl (GE rfl (qp rfl (qp rfl (AQ (by kernel_rfl) ?_))))))
         exact sn [] h
        ·refine qw 4 rfl (qp rfl (qp rfl (AQ (by kernel_rfl) ?_)))
         exact sn [] h
      ·refine qw 6 rfl (qp rfl (qp rfl (qw 2 rfl (CQ rfl (qm rfl ?_)))))
       refine EU 64 h rfl (fun h => ?_) fun h => ?_
       ·refine qf E8 rfl (ql Hr rfl (AM DH rfl (GE rfl (qp rfl (qp rfl (AQ (by kernel_rfl) ?_))))))
        exact sn [] h
       ·refine qw 4 rfl (qp rfl (qp rfl (AQ (by kernel_rfl) ?_)))
        exact sn [] h
    ·refine Bd h (fun h => ?_) fun h => ?_
     ·refine wq rfl (qe rfl ?_)
      obtain rfl := sj h
      refine Ag (sm [] [(4, iD 6)] [] rfl rfl) (Au ?_)
      exact ⟨⟨[_], tm, rfl⟩, tv⟩
     ·refine Am (wp rfl (qf E8 rfl (ql Hr rfl (AM DH rfl (qm rfl (Ad ?_))))))
      refine AE (L := DN N p1) h (fun v19 => mk [(3, oD (.ptr 3 0)), (73, iD ((p1.gk.length : Int))), (74, iD v19)] [(3, .box (Bj p1))]) (fun v20 => mk [] []) (fun _ _ => rfl) (sm [] _ _ rfl rfl) (fun j19 n19 v19 h => ?_) (fun v20 s h hs => ?_)
      ·unfold DN at h
       refine wq rfl (AW rfl (Ad (AP ?_)))
       refine Bd h (fun h => ?_) fun h => ?_
       ·refine Am (AP (AK (wq rfl (qm rfl (qa rfl (Ad (wq rfl (qf E8 rfl (ql Hr rfl (qm rfl ?_))))))))))
        refine BB h fun v22 a22 b22 h => qi DH Is a22 (Ah b22) rfl (qk LU rfl (qm rfl ?_))
        refine BB h fun v23 a23 b23 h => qi EG MY a23 (Ah b23) rfl (qk UL rfl (CQ rfl (Ad ?_)))
        refine Bd h (fun h => ?_) fun h => ?_
        ·refine wq rfl (qe rfl ?_)
         obtain rfl := sj h
         refine Ag (sm [] [(4, iD 1)] [] rfl rfl) (Au ?_)
         exact ⟨⟨[_], tm, rfl⟩, tv⟩
        ·refine Am (Ak Ax rfl (AZ rfl (qm rfl (Ad ?_))))
         exact sn [] h
       ·refine AS ?_
        exact sn [] h
      ·refine Ag hs (wq rfl (qe rfl ?_))
       obtain rfl := sj h
       refine Ag (sm [] [(4, iD 0)] [] rfl rfl) (Au ?_)
       exact ⟨⟨[_], tm, rfl⟩, tv⟩
theorem Er (N : Nat) (p0 : Ab) (r : Int) (h : BG N p0 = some r) : Ar zA 48 [.e (.agg (Ai p0))] [] (iD r) := by
 unfold BG at h
 refine cw (n := 81) (rs := [.tmp 2]) Tryz.func48 fun w0 S0 => ?_
 refine wq rfl (qb rfl (qa rfl (Ad (wq rfl (qf Bu rfl (ql Bb rfl (AM AC rfl (qa rfl (Ad (AP ?_))))))))))
 refine AT h (fun v1 => mk [(1, oD (.ptr 1 0)), (3, iD ((p0.f9.length : Int))), (19, bD v1)] [(1, .box (Ai p0))]) (fun j1 h => ?_) (fun v1 h => ?_)
 ·refine Ak Ax rfl (qm rfl (GE rfl (qm rfl ?_)))
  refine EU 14 h rfl (fun h => ?_) fun h => ?_
  ·refine qw 4 rfl (qp rfl (Ad ?_))
   exact sn [] h
  ·refine qf Bx rfl (ql Gm rfl (AM CR rfl (GE rfl (qp rfl (Ad ?_)))))
   exact sn [] h
 ·refine Bd h (fun h => ?_) fun h => ?_
  ·refine wq rfl (qe rfl ?_)
   obtain rfl := sj h
   refine Ag (sm [] [(2, iD 3)] [] rfl rfl) (Au ?_)
   exact ⟨⟨[_], tm, rfl⟩, tv⟩
  ·refine Am (AP ?_)
   refine AT h (fun v4 => mk [(1, oD (.ptr 1 0)), (31, bD v4)] [(1, .box (Ai p0))]) (fun j4 h => ?_) (fun v4 h => ?_)
   ·refine Ak Ax rfl (qf Hp rfl (ql Bb rfl (AM AC rfl (qm rfl (BF rfl (qm rfl ?_))))))
    refine EU 25 h rfl (fun h => ?_) fun h => ?_
    ·refine qw 5 rfl (qp rfl (Ad ?_))
     exact sn [] h
    ·refine qf IM rfl (ql Bb rfl (AM AC rfl (qm rfl (BF rfl (qp rfl (Ad ?_))))))
     exact sn [] h
   ·refine Bd h (fun h => ?_) fun h => ?_
    ·refine wq rfl (qe rfl ?_)
     obtain rfl := sj h
     refine Ag (sm [] [(2, iD 6)] [] rfl rfl) (Au ?_)
     exact ⟨⟨[_], tm, rfl⟩, tv⟩
    ·refine Am (wp rfl (qf Bu rfl (ql Bb rfl (AM AC rfl (qm rfl (Ad ?_))))))
     refine AE (L := Cg N p0) h (fun v7 => mk [(1, oD (.ptr 1 0)), (33, pD (.sl (p0.f9.map Aq))), (34, iD ((p0.f9.length : Int))), (35, iD v7)] [(1, .box (Ai p0))]) (fun v8 => mk [(1, oD (.ptr 1 0))] [(1, .box (Ai p0))]) (fun _ _ => rfl) (sm [] _ _ rfl rfl) (fun j7 n7 v7 h => ?_) (fun v8 s h hs => ?_)
     ·unfold Cg at h
      refine wq rfl (AW rfl (Ad (AP ?_)))
      refine Bd h (fun h => ?_) fun h => ?_
      ·refine Am (AP (AK (wq rfl (qm rfl ?_))))
       refine BB h fun v10 a10 b10 h => qi AC DR a10 (Ah b10) rfl (qk Cr rfl (qa rfl (qe rfl ?_)))
       refine AT h (fun v11 => mk [(1, oD (.ptr 1 0)), (33, pD (.sl (p0.f9.map Aq))), (34, iD ((p0.f9.length : Int))), (35, iD v7), (65, bD v11)] [(1, .box (Ai p0))]) (fun j11 h => ?_) (fun v11 h => ?_)
       ·refine Ak Ax rfl (qm rfl (AW rfl (qm rfl ?_)))
        refine EU 42 h rfl (fun h => ?_) fun h => ?_
        ·refine qw 2 rfl (qp rfl (qw 9 rfl (qp rfl (qw 9 rfl (qp rfl (Ad ?_))))))
         exact sn [] h
        ·refine qm rfl (GE rfl (qp rfl (qm rfl ?_)))
         refine EU 46 h rfl (fun h => ?_) fun h => ?_
         ·refine qw 8 rfl (qp rfl (qw 9 rfl (qp rfl (Ad ?_))))
          exact sn [] h
         ·refine qf Hp rfl (ql Bb rfl (qm rfl ?_))
          refine BB h fun v14 a14 b14 h => qi AC DR a14 (Ah b14) rfl (qk Cr rfl (qm rfl ?_))
          refine B1 h fun v15 a15 h => AA [] (IC N v14 v10 v15 a15) ZY rfl (CQ rfl (qp rfl (qm rfl ?_)))
          refine EU 56 h rfl (fun h => ?_) fun h => ?_
          ·refine qw 8 rfl (qp rfl (Ad ?_))
           exact sn [] h
          ·refine qf IM rfl (ql Bb rfl (qm rfl ?_))
           refine BB h fun v17 a17 b17 h => qi AC DR a17 (Ah b17) rfl (qk Cr rfl (qm rfl ?_))
           refine B1 h fun v18 a18 h => AA [] (IC N v17 v10 v18 a18) ZY rfl (CQ rfl (qp rfl (Ad ?_)))
           exact sn [] h
       ·refine Bd h (fun h => ?_) fun h => ?_
        ·refine wq rfl (qe rfl ?_)
         obtain rfl := sj h
         refine Ag (sm [] [(2, iD 7)] [] rfl rfl) (Au ?_)
         exact ⟨⟨[_], tm, rfl⟩, tv⟩
        ·refine Am (Ak Ax rfl (AZ rfl (qm rfl (Ad ?_))))
         exact sn [] h
      ·refine AS ?_
       exact sn [] h
     ·refine Ag hs (wp rfl (qf Bx rfl (ql Gm rfl (AM CR rfl (qm rfl (Ad ?_))))))
      refine AE (L := B6 N p0) h (fun v20 => mk [(1, oD (.ptr 1 0)), (68, pD (.sl (p0.ga.map AJ))), (69, iD ((p0.ga.length : Int))), (70, iD v20)] [(1, .box (Ai p0))]) (fun v21 => mk [] []) (fun _ _ => rfl) (sm [] _ _ rfl rfl) (fun j20 n20 v20 h => ?_) (fun v21 s h hs => ?_)
      ·unfold B6 at h
       refine wq rfl (AW rfl (Ad (AP ?_)))
       refine Bd h (fun h => ?_) fun h => ?_
       ·refine Am (AP (AK (wq rfl ?_)))
        refine BB h fun v23 a23 b23 h => qi CR Db a23 (Ah b23) rfl (qK HB Db rfl (qz JA rfl (qs Db rfl (Ad (wq rfl (qL CD BT rfl (qL HB Db rfl ?_)))))))
        refine B1 h fun v24 a24 h => AA [] (Rt N p0 v23 v24 a24) ff rfl (qa rfl (Ad (wq rfl (qm rfl (BF rfl (Ad ?_))))))
        refine Bd h (fun h => ?_) fun h => ?_
        ·refine wq rfl (qm rfl (qe rfl ?_))
         obtain rfl := sj h
         refine Ag (sm [] [(2, iD v24)] [] rfl rfl) (Au ?_)
         exact ⟨⟨[_], tm, rfl⟩, tv⟩
        ·refine Am (Ak Ax rfl (AZ rfl (qm rfl (Ad ?_))))
         exact sn [] h
       ·refine AS ?_
        exact sn [] h
      ·refine Ag hs (wq rfl (qe rfl ?_))
       obtain rfl := sj h
       refine Ag (sm [] [(2, iD 0)] [] rfl rfl) (Au ?_)
       exact ⟨⟨[_], tm, rfl⟩, tv⟩
theorem Iz (N : Nat) (p0 : Ab) (r : (List Aa)) (h : Ek N p0 = some r) : Ar zA 41 [.e (.agg (Ai p0))] [(3, r.map Ac)] (oD (.own 0)) := by
 unfold Ek at h
 refine cw (n := 46) (rs := [.tmp 2]) Tryz.func41 fun w0 S0 => ?_
 refine wq rfl (qb rfl (qa rfl (Ad (wq rfl (qa rfl (Ad (wp rfl (qf Bx rfl (ql Gm rfl (AM CR rfl (qm rfl (Ad ?_))))))))))))
 refine AE (L := Cq N p0) h (fun v1 => mk [(3, oD (.own 2001)), (11, pD (.sl (p0.ga.map AJ))), (12, iD ((p0.ga.length : Int))), (13, iD v1.2)] [(2001, .vec 3 (v1.1.map Ac))]) (fun v2 => mk [(3, oD (.own 2002))] [(2002, .vec 3 (v2.map Ac))]) (fun _ _ => rfl) ((AU 3 2008 3 rfl rfl rfl).trans (sm [(2001, 2008)] _ _ rfl rfl)) (fun j1 n1 v1 h => ?_) (fun v2 s h hs => ?_)
 ·unfold Cq at h
  refine wq rfl (AW rfl (Ad (AP ?_)))
  refine Bd h (fun h => ?_) fun h => ?_
  ·refine Am (AP (AK (wq rfl (qm rfl ?_))))
   refine BB h fun v4 a4 b4 h => qi CR Db a4 (Ah b4) rfl (qK HB Db rfl (qz JA rfl (qa rfl (qs Db rfl (Ad (wq rfl (qf Fa rfl (ql Hr rfl (AM DH rfl (qm rfl (Ad ?_)))))))))))
   refine AE (L := C0 N v1 v4) h (fun v5 => mk [(3, oD (.own 2003)), (4, iD v1.2), (11, pD (.sl (p0.ga.map AJ))), (12, iD ((p0.ga.length : Int))), (13, iD v1.2), (19, pD (.sl (v4.gh.map (DG eB)))), (20, iD ((v4.gh.length : Int))), (21, iD v5.2)] [(2003, .vec 3 (v5.1.map Ac))]) (fun v6 => mk [(3, oD (.own 2004)), (11, pD (.sl (p0.ga.map AJ))), (12, iD ((p0.ga.length : Int))), (13, iD v1.2)] [(2004, .vec 3 (v6.map Ac))]) (fun _ _ => rfl) (sm [(2003, 2001)] _ _ rfl rfl) (fun j5 n5 v5 h => ?_) (fun v6 s h hs => ?_)
   ·unfold C0 at h
    refine wq rfl (AW rfl (Ad (AP ?_)))
    refine Bd h (fun h => ?_) fun h => ?_
    ·refine Am (AP (AK (wq rfl (qm rfl ?_))))
     refine BB h fun v8 a8 b8 h => qi DH Is a8 (Ah b8) rfl (qk LU rfl (qa rfl (qa rfl (Ad (wq rfl (qm rfl (AM EG rfl (qm rfl (Ad ?_)))))))))
     refine AE (L := Dz N v1 v5 v8) h (fun v9 => mk [(3, oD (.own 2005)), (4, iD v1.2), (6, iD v5.2), (11, pD (.sl (p0.ga.map AJ))), (12, iD ((p0.ga.length : Int))), (13, iD v1.2), (19, pD (.sl (v4.gh.map (DG eB)))), (20, iD ((v4.gh.length : Int))), (21, iD v5.2), (26, pD (.sl (v8.map eB))), (27, iD ((v8.length : Int))), (28, iD v9.2)] [(2005, .vec 3 (v9.1.map Ac))]) (fun v10 => mk [(3, oD (.own 2006)), (4, iD v1.2), (11, pD (.sl (p0.ga.map AJ))), (12, iD ((p0.ga.length : Int))), (13, iD v1.2), (19, pD (.sl (v4.gh.map (DG eB)))), (20, iD ((v4.gh.length : Int))), (21, iD v5.2)] [(2006, .vec 3 (v10.map Ac))]) (fun _ _ => rfl) (sm [(2005, 2003)] _ _ rfl rfl) (fun j9 n9 v9 h => ?_) (fun v10 s h hs => ?_)
     ·unfold Dz at h
      refine wq rfl (AW rfl (Ad (AP ?_)))
      refine Bd h (fun h => ?_) fun h => ?_
      ·refine Am ?_
       refine AT h (fun v12 => mk [(3, oD (.own 2007)), (4, iD v1.2), (6, iD v5.2), (11, pD (.sl (p0.ga.map AJ))), (12, iD ((p0.ga.length : Int))), (13, iD v1.2), (19, pD (.sl (v4.gh.map (DG eB)))), (20, iD ((v4.gh.length : Int))), (21, iD v5.2), (26, pD (.sl (v8.map eB))), (27, iD ((v8.length : Int))), (28, iD v9.2)] [(2007, .vec 3 (v12.map Ac))]) (fun j12 h => ?_) (fun v12 h => ?_)
       ·refine AK (wq rfl (qm rfl ?_))
        refine BB h fun v13 a13 b13 h => qi EG MY a13 (Ah b13) rfl (qk UL rfl (qa rfl (qa rfl (Ad (wq rfl (qm rfl (CQ rfl (Ad ?_))))))))
        refine Bd h (fun h => ?_) fun h => ?_
        ·refine Ak Ax rfl (qw 4 rfl (Bm GV Ro rfl (Eb A3 Cz GV rfl ?_)))
         refine F2 h fun c15 h => DE (f := Ac) A3 A3 Cz LE GV c15 rfl (qe rfl ?_)
         exact sn [(2007, 41)] h
        ·refine Am ?_
         exact sn [(2007, 2005)] h
       ·refine Ak Ax rfl (AZ rfl (qm rfl (Ad ?_)))
        exact sn [(2005, 2007)] h
      ·refine AS ?_
       exact sn [(2006, 2005)] h
     ·refine Ag hs (Ak Ax rfl (AZ rfl (qm rfl (Ad ?_))))
      exact sn [(2003, 2006)] h
    ·refine AS ?_
     exact sn [(2004, 2003)] h
   ·refine Ag hs (Ak Ax rfl (AZ rfl (qm rfl (Ad ?_))))
    exact sn [(2001, 2004)] h
  ·refine AS ?_
   exact sn [(2002, 2001)] h
 ·refine Ag hs (wq rfl (qm rfl (qe rfl ?_)))
  obtain rfl := sj h
  refine Ag (sm [(1000, 2002)] [(2, oD (.own 1000))] [(1000, .vec 3 (v2.map Ac))] rfl rfl) (Au ?_)
  exact ⟨⟨[_], tm, rfl⟩, ⟨rfl, tv⟩⟩
theorem KB (N : Nat) (p0 : Ab) (r : (List Aa) × Int) (h : Fj N p0 = some r) : Ar zA 21 [.e (.agg (Ai p0))] [(3, r.1.map Ac)] (.tup [.one (.own 0), .one (iC r.2)]) := by
 unfold Fj at h
 refine cw (n := 12) (rs := [.tmp 2, .tmp 3]) Tryz.func21 fun w0 S0 => ?_
 refine wq rfl (qb rfl (qa rfl (qa rfl (Ad (wp rfl (qL CD BT rfl ?_))))))
 refine B1 h fun v1 a1 h => AA [] (Er N p0 v1 a1) Xi rfl (qa rfl (Ad (wq rfl (qm rfl (BF rfl (Ad ?_))))))
 refine Bd h (fun h => ?_) fun h => ?_
 ·refine wq rfl (qm rfl (qa rfl (qe rfl ?_)))
  obtain rfl := sj h
  refine Ag ((AU 2 2001 3 rfl rfl rfl).trans (sm [(1000, 2001)] [(2, oD (.own 1000)), (3, iD v1)] [(1000, .vec 3 ((([] : List Aa)).map Ac))] rfl rfl)) (Au ?_)
  exact ⟨⟨[_, _], ⟨.tmp _ _ rfl, tm⟩, rfl⟩, ⟨rfl, tv⟩⟩
 ·refine Am (wq rfl (qL CD BT rfl ?_))
  refine B1 h fun v3 a3 h => AA [2002] (Iz N p0 v3 a3) cr rfl (qa rfl (qe rfl ?_))
  obtain rfl := sj h
  refine Ag (sm [(1000, 2002)] [(2, oD (.own 1000)), (3, iD 0)] [(1000, .vec 3 (v3.map Ac))] rfl rfl) (Au ?_)
  exact ⟨⟨[_, _], ⟨.tmp _ _ rfl, tm⟩, rfl⟩, ⟨rfl, tv⟩⟩
theorem OB (N : Nat) (rc : (List Aa) → Int → Option ((List (List Aa)))) (hrc : ∀ (p0 : List Aa) (p1 : Int) (r : (List (List Aa))), rc p0 p1 = some r → Ar zA 51 [pD (.sl (p0.map Ac)), iD p1] [(1, r.map (DG Ac))] (oD (.own 0))) (p0 : List Aa) (p1 : Int) (r : (List (List Aa))) (h : Hk N rc p0 p1 = some r) : Ar zA 51 [pD (.sl (p0.map Ac)), iD p1] [(1, r.map (DG Ac))] (oD (.own 0)) := by
 unfold Hk at h
 refine cw (n := 42) (rs := [.tmp 4]) Tryz.func51 fun w0 S0 => ?_
 refine wq rfl (qa rfl (Ad (wp rfl (qm rfl (B5 rfl (Ad ?_))))))
 refine Bd h (fun h => ?_) fun h => ?_
 ·refine wq rfl (Eb EL Ki Re rfl (qe rfl ?_))
  obtain rfl := sj h
  refine Ag (sm [(1000, 12)] [(4, oD (.own 1000))] [(1000, .vec 1 ((([([] : List Aa)] : List (List Aa))).map (DG Ac)))] rfl rfl) (Au ?_)
  exact ⟨⟨[_], tm, rfl⟩, ⟨rfl, tv⟩⟩
 ·refine Am (wq rfl (qa rfl (Ad (wp rfl (qm rfl (AM A3 rfl (qm rfl (Ad ?_))))))))
  refine AE (L := DK N p0 p1 rc) h (fun v2 => mk [(0, pD (.sl (p0.map Ac))), (1, iD p1), (5, oD (.own 2001)), (13, pD (.sl (p0.map Ac))), (14, iD ((p0.length : Int))), (15, iD v2.2)] [(2001, .vec 1 (v2.1.map (DG Ac)))]) (fun v3 => mk [(5, oD (.own 2002))] [(2002, .vec 1 (v3.map (DG Ac)))]) (fun _ _ => rfl) ((AU 5 2007 1 rfl rfl rfl).trans (sm [(2001, 2007)] _ _ rfl rfl)) (fun j2 n2 v2 h => ?_) (fun v3 s h hs => ?_)
  ·unfold DK at h
   refine wq rfl (AW rfl (Ad (AP ?_)))
   refine Bd h (fun h => ?_) fun h => ?_
   ·refine Am (AP (AK (wq rfl (qm rfl ?_))))
    refine BB h fun v5 a5 b5 h => qi A3 Cz a5 (Ah b5) rfl (qK It Cz rfl (qz GV rfl (qa rfl (qs Cz rfl (Ad (wq rfl (qw 2 rfl (AZ rfl ?_))))))))
    refine F2 h fun c6 h => Wt (.p rfl) rfl A3 Cz (L5 (f := Ac) (n := 3) (fun _ => rfl) _) (.some _ _ _ _ c6.1) (.none _) ⟨rfl, tv⟩ tv (by have := c6.2.1; (try simp only [zI]); omega) (by have := c6.2.2; (try simp only [zI]); omega) (TN Ac p0 _ _ (p0.length - ((wI .i64 (v2.2 + 1))).toNat) (by rw [zI])) ?_
    refine qm rfl (LN rfl ?_)
    refine B1 h fun v7 a7 h => AA [2003] (hrc (((p0.drop ((wI .i64 (v2.2 + 1))).toNat).take (p0.length - ((wI .i64 (v2.2 + 1))).toNat))) ((wI .i64 (p1 - 1))) v7 a7) eJ rfl (C3 EL rfl (qm rfl (Ad ?_)))
    refine AE (L := Eo N v5 v7) h (fun v8 => mk [(0, pD (.sl (p0.map Ac))), (1, iD p1), (5, oD (.own 2004)), (7, oD (.ptr 7 0)), (13, pD (.sl (p0.map Ac))), (14, iD ((p0.length : Int))), (15, iD v2.2), (26, oD (.own 2005)), (27, iD ((v7.length : Int))), (28, iD v8.2)] [(7, .box (Fs v5)), (2004, .vec 1 (v8.1.map (DG Ac))), (2005, .vec 1 (v7.map (DG Ac)))]) (fun v9 => mk [(0, pD (.sl (p0.map Ac))), (1, iD p1), (5, oD (.own 2006)), (13, pD (.sl (p0.map Ac))), (14, iD ((p0.length : Int))), (15, iD v2.2)] [(2006, .vec 1 (v9.map (DG Ac)))]) (fun _ _ => rfl) (sm [(2004, 2001), (2005, 2003)] _ _ rfl rfl) (fun j8 n8 v8 h => ?_) (fun v9 s h hs => ?_)
    ·unfold Eo at h
     refine wq rfl (AW rfl (Ad (AP ?_)))
     refine Bd h (fun h => ?_) fun h => ?_
     ·refine Am (AP (AK (wq rfl ?_)))
      refine BB h fun v11 a11 b11 h => qI EL Ki a11 (Ah b11) rfl (qj Pw (Ah b11) rfl (qa rfl (Ad (Ak Ax rfl (qm rfl (qL It Cz rfl (Eb A3 Cz GV rfl (qm rfl ?_))))))))
      refine F2 h fun c12 h => Hj (f := Ac) A3 A3 Cz LE GV (fun _ => rfl) c12 rfl (Et (BJ 36 _ _ rfl rfl) (Eb EL Ki Re rfl ?_))
      refine F2 h fun c13 h => DE (f := (DG Ac)) EL EL Ki WV Re c13 rfl (qa rfl (Ad (Ak Ax rfl (AZ rfl (qm rfl (Ad ?_))))))
      exact sn [(2004, 38)] h
     ·refine AS ?_
      exact sn [(2006, 2004)] h
    ·refine Ag hs (Ak Ax rfl (AZ rfl (qm rfl (Ad ?_))))
     exact sn [(2001, 2006)] h
   ·refine AS ?_
    exact sn [(2002, 2001)] h
  ·refine Ag hs (wq rfl (qm rfl (qe rfl ?_)))
   obtain rfl := sj h
   refine Ag (sm [(1000, 2002)] [(4, oD (.own 1000))] [(1000, .vec 1 (v3.map (DG Ac)))] rfl rfl) (Au ?_)
   exact ⟨⟨[_], tm, rfl⟩, ⟨rfl, tv⟩⟩
theorem K7 (N : Nat) : ∀ (k : Nat) (p0 : List Aa) (p1 : Int) (r : (List (List Aa))), D9 N k p0 p1 = some r → Ar zA 51 [pD (.sl (p0.map Ac)), iD p1] [(1, r.map (DG Ac))] (oD (.own 0))
 | 0, _, _, _, h => by cases h
 | k + 1, p0, p1, r, h => OB N (D9 N k) (K7 N k) p0 p1 r h
theorem Qp (N : Nat) (p0 : List Aa) (p1 : Int) (r : (List (List Aa))) (h : Jr N p0 p1 = some r) : Ar zA 51 [pD (.sl (p0.map Ac)), iD p1] [(1, r.map (DG Ac))] (oD (.own 0)) := K7 N N p0 p1 r h
theorem CN (N : Nat) (p0 : List Int) (r : (List Int)) (h : A1 N p0 = some r) : Ar zA 60 [pD (.sl (p0.map Aq))] [(1, r.map Aq)] (oD (.own 0)) := by
 unfold A1 at h
 refine cw (n := 8) (rs := [.tmp 2]) Tryz.func60 fun w0 S0 => ?_
 refine wq rfl (qa rfl (Ad (wp rfl (qm rfl ?_))))
 refine Of (.p rfl) rfl AC ?_
 refine Ad ?_
 refine N1 rfl (fun c2 => ?_) ?_
 ·have c2 := uY.1 c2
  rw [c2] at h
  have h : (some (([] : List Int))) = some r := h
  refine wq rfl (qe rfl ?_)
  obtain rfl := sj h
  refine Ag ((AU 2 2001 1 rfl rfl rfl).trans (sm [(1000, 2001)] [(2, oD (.own 1000))] [(1000, .vec 1 ((([] : List Int)).map Aq))] rfl rfl)) (Au ?_)
  exact ⟨⟨[_], tm, rfl⟩, ⟨rfl, tv⟩⟩
 ·refine Am (wq rfl (Eb AC DR Lf rfl (qm rfl ?_)))
  refine F2 h fun c1 h => Hj (f := Aq) AC AC DR LX Lf (fun _ => rfl) c1 rfl (qe rfl ?_)
  obtain rfl := sj h
  refine Ag (sm [(1000, 7)] [(2, oD (.own 1000))] [(1000, .vec 1 (((([] : List Int)) ++ p0).map Aq))] rfl rfl) (Au ?_)
  exact ⟨⟨[_], tm, rfl⟩, ⟨rfl, tv⟩⟩
theorem HQ (N : Nat) (p0 : List (List Bool)) (r : (List (List Bool))) (h : Dk N p0 = some r) : Ar zA 138 [pD (.sl (p0.map (DG eB)))] [(1, r.map (DG eB))] (oD (.own 0)) := by
 unfold Dk at h
 refine cw (n := 8) (rs := [.tmp 2]) Tryz.func138 fun w0 S0 => ?_
 refine wq rfl (qa rfl (Ad (wp rfl (qm rfl ?_))))
 refine Of (.p rfl) rfl DH ?_
 refine Ad ?_
 refine N1 rfl (fun c2 => ?_) ?_
 ·have c2 := uY.1 c2
  rw [c2] at h
  have h : (some (([] : List (List Bool)))) = some r := h
  refine wq rfl (qe rfl ?_)
  obtain rfl := sj h
  refine Ag ((AU 2 2001 1 rfl rfl rfl).trans (sm [(1000, 2001)] [(2, oD (.own 1000))] [(1000, .vec 1 ((([] : List (List Bool))).map (DG eB)))] rfl rfl)) (Au ?_)
  exact ⟨⟨[_], tm, rfl⟩, ⟨rfl, tv⟩⟩
 ·refine Am (wq rfl (Eb DH Is S3 rfl (qm rfl ?_)))
  refine F2 h fun c1 h => Hj (f := (DG eB)) DH DH Is We S3 (fun _ => rfl) c1 rfl (qe rfl ?_)
  obtain rfl := sj h
  refine Ag (sm [(1000, 7)] [(2, oD (.own 1000))] [(1000, .vec 1 (((([] : List (List Bool))) ++ p0).map (DG eB)))] rfl rfl) (Au ?_)
  exact ⟨⟨[_], tm, rfl⟩, ⟨rfl, tv⟩⟩
theorem HC (N : Nat) (p0 : List Bool) (r : (List Bool)) (h : CW N p0 = some r) : Ar zA 139 [pD (.sl (p0.map eB))] [(1, r.map eB)] (oD (.own 0)) := by
 unfold CW at h
 refine cw (n := 8) (rs := [.tmp 2]) Tryz.func139 fun w0 S0 => ?_
 refine wq rfl (qa rfl (Ad (wp rfl (qm rfl ?_))))
 refine Of (.p rfl) rfl EG ?_
 refine Ad ?_
 refine N1 rfl (fun c2 => ?_) ?_
 ·have c2 := uY.1 c2
  rw [c2] at h
  have h : (some (([] : List Bool))) = some r := h
  refine wq rfl (qe rfl ?_)
  obtain rfl := sj h
  refine Ag ((AU 2 2001 1 rfl rfl rfl).trans (sm [(1000, 2001)] [(2, oD (.own 1000))] [(1000, .vec 1 ((([] : List Bool)).map eB))] rfl rfl)) (Au ?_)
  exact ⟨⟨[_], tm, rfl⟩, ⟨rfl, tv⟩⟩
 ·refine Am (wq rfl (Eb EG MY WF rfl (qm rfl ?_)))
  refine F2 h fun c1 h => Hj (f := eB) EG EG MY Xc WF (fun _ => rfl) c1 rfl (qe rfl ?_)
  obtain rfl := sj h
  refine Ag (sm [(1000, 7)] [(2, oD (.own 1000))] [(1000, .vec 1 (((([] : List Bool)) ++ p0).map eB))] rfl rfl) (Au ?_)
  exact ⟨⟨[_], tm, rfl⟩, ⟨rfl, tv⟩⟩
theorem O6 (N : Nat) (p0 : Ao) (r : Ao) (h : Gl N p0 = some r) : DV zA 109 [.e (.agg (Bj p0))] [] [.dvec 1 [.x 1 []] (r.gh.map (DG eB)), .dvec 1 [.x 1 []] (r.gk.map (DG eB))] (.e (.agg [iC r.gd, iC r.ge, iC r.gi, .pure (.val (.bool r.gl)), .own 0, .own 1])) := by
 unfold Gl at h
 refine FF (n := 48) (rs := [.cell 2 76]) Tryz.func109 rfl rfl rfl (Hy rfl) (Hy rfl) rfl rfl (Hy rfl) rfl (Hy rfl) fun w0 S0 GL => ?_
 refine Ag (sm [] [(0, .e (.agg (Bj p0)))] [] rfl rfl) (wq rfl (qb rfl (qz JA rfl (Ad (wq rfl (qf Fa rfl (ql Hr rfl ?_)))))))
 refine B1 h fun v1 a1 h => AA [2001] (HQ N p0.gh v1 a1) bg rfl (qf E8 rfl (ql Hr rfl ?_))
 refine B1 h fun v2 a2 h => AA [2002] (HQ N p0.gk v2 a2) bg rfl (qf Fa rfl (qs TV rfl (qf E8 rfl (qs TV rfl (AQ (by kernel_rfl) (wp rfl (qf Fa rfl (ql Hr rfl (C3 DH rfl (qm rfl (Ad (Ag (Ug 2001 1 [.x 1 []] _ rfl) ?_))))))))))))
 refine AE (L := DM N v1) h (fun v3 => mk [(1, oD (.ptr 1 0)), (2, oD (.ptr 2 0)), (15, iD ((v1.length : Int))), (16, iD v3.2)] [(1, .box [iC p0.gd, iC p0.ge, iC p0.gi, .pure (.val (.bool p0.gl)), .own 2003, .own 2004]), (2, .box [iC 0, iC 0, iC 0, .pure (.val (.bool false)), .pure (.nil0), .pure (.nil0)]), (2003, .pvec ((v3.2).toNat) 1 [.x 1 []] (v3.1.map (DG eB))), (2004, .vec 1 (v2.map (DG eB)))]) (fun v4 => mk [(1, oD (.ptr 1 0)), (2, oD (.ptr 2 0))] [(1, .box [iC p0.gd, iC p0.ge, iC p0.gi, .pure (.val (.bool p0.gl)), .own 2005, .own 2006]), (2, .box [iC 0, iC 0, iC 0, .pure (.val (.bool false)), .pure (.nil0), .pure (.nil0)]), (2005, .dvec 1 [.x 1 []] (v4.map (DG eB))), (2006, .vec 1 (v2.map (DG eB)))]) (fun _ _ => rfl) (sm [(2003, 2001), (2004, 2002)] _ _ rfl rfl) (fun j3 n3 v3 h => ?_) (fun v4 s h hs => ?_)
 ·unfold DM at h
  refine wq rfl (AW rfl (Ad (AP ?_)))
  refine Bd h (fun h => ?_) fun h => ?_
  ·refine Am (AP (AK (wq rfl (qm rfl (qa rfl (Ad (Ak Ax rfl (qf Fa rfl (ql Hr rfl (qm rfl (qf Fa rfl (ql Hr rfl (qm rfl ?_)))))))))))))
   refine BB h fun v6 a6 b6 h => HR (.p rfl) rfl rfl rfl (PF (DG eB) v3.1 _ _ _) DH Is a6 (Aw b6) ?_
   refine TD (.p rfl) rfl LU rfl (Ah b6) rfl (zM _) ?_
   refine B1 h fun v7 a7 h => AA [2007] (HC N v6 v7 a7) bp rfl ?_
   refine BB h fun v8 a8 b8 h => HR (.p rfl) rfl rfl rfl (PF (DG eB) v3.1 _ _ _) DH Is a8 (Aw b8) ?_
   refine Sd rfl rfl rfl rfl (rows2 := v7.map eB) (cols2 := []) rfl rfl (Ah b8) rfl Is rfl rfl (Dh (DG eB) v3.1 _ v7) ?_
   refine AQ (by kernel_rfl) (Ak Ax rfl (AZ rfl (qm rfl (Ad ?_))))
   exact F2 h fun c9 h => UO _ h ((TP 2003 rfl c9).trans (sm [] _ _ rfl rfl))
  ·refine AS ?_
   exact F2 h fun c10 h => UO _ h ((TY 2003 rfl (by rw [zI]; exact c10)).trans (sm [(2005, 2003), (2006, 2004)] _ _ rfl rfl))
 ·refine Ag hs (wp rfl (qf E8 rfl (ql Hr rfl (C3 DH rfl (qm rfl (Ad (Ag (Ug 2006 1 [.x 1 []] _ rfl) ?_)))))))
  refine AE (L := B0 N v2) h (fun v11 => mk [(1, oD (.ptr 1 0)), (2, oD (.ptr 2 0)), (32, iD ((v2.length : Int))), (33, iD v11.2)] [(1, .box [iC p0.gd, iC p0.ge, iC p0.gi, .pure (.val (.bool p0.gl)), .own 2008, .own 2009]), (2, .box [iC 0, iC 0, iC 0, .pure (.val (.bool false)), .pure (.nil0), .pure (.nil0)]), (2008, .dvec 1 [.x 1 []] (v4.map (DG eB))), (2009, .pvec ((v11.2).toNat) 1 [.x 1 []] (v11.1.map (DG eB)))]) (fun v12 => mk [(1, oD (.ptr 1 0)), (2, oD (.ptr 2 0))] [(1, .box [iC p0.gd, iC p0.ge, iC p0.gi, .pure (.val (.bool p0.gl)), .own 2010, .own 2011]), (2, .box [iC 0, iC 0, iC 0, .pure (.val (.bool false)), .pure (.nil0), .pure (.nil0)]), (2010, .dvec 1 [.x 1 []] (v4.map (DG eB))), (2011, .dvec 1 [.x 1 []] (v12.map (DG eB)))]) (fun _ _ => rfl) (sm [(2008, 2005), (2009, 2006)] _ _ rfl rfl) (fun j11 n11 v11 h => ?_) (fun v12 s h hs => ?_)
  ·unfold B0 at h
   refine wq rfl (AW rfl (Ad (AP ?_)))
   refine Bd h (fun h => ?_) fun h => ?_
   ·refine Am (AP (AK (wq rfl (qm rfl (qa rfl (Ad (Ak Ax rfl (qf E8 rfl (ql Hr rfl (qm rfl (qf E8 rfl (ql Hr rfl (qm rfl ?_)))))))))))))
    refine BB h fun v14 a14 b14 h => HR (.p rfl) rfl rfl rfl (PF (DG eB) v11.1 _ _ _) DH Is a14 (Aw b14) ?_
    refine TD (.p rfl) rfl LU rfl (Ah b14) rfl (zM _) ?_
    refine B1 h fun v15 a15 h => AA [2012] (HC N v14 v15 a15) bp rfl ?_
    refine BB h fun v16 a16 b16 h => HR (.p rfl) rfl rfl rfl (PF (DG eB) v11.1 _ _ _) DH Is a16 (Aw b16) ?_
    refine Sd rfl rfl rfl rfl (rows2 := v15.map eB) (cols2 := []) rfl rfl (Ah b16) rfl Is rfl rfl (Dh (DG eB) v11.1 _ v15) ?_
    refine AQ (by kernel_rfl) (Ak Ax rfl (AZ rfl (qm rfl (Ad ?_))))
    exact F2 h fun c17 h => UO _ h ((TP 2009 rfl c17).trans (sm [] _ _ rfl rfl))
   ·refine AS ?_
    exact F2 h fun c18 h => UO _ h ((TY 2009 rfl (by rw [zI]; exact c18)).trans (sm [(2010, 2008), (2011, 2009)] _ _ rfl rfl))
  ·refine Ag hs (wq rfl (qL HB Db rfl (qs Db rfl (Ad ?_))))
   obtain rfl := sj h
   refine Ag (sm [(1000, 2010), (1001, 2011)] [(2, oD (.ptr 2 0))] [(2, .box [iC p0.gd, iC p0.ge, iC p0.gi, .pure (.val (.bool p0.gl)), .own 1000, .own 1001]), (1000, .dvec 1 [.x 1 []] (v4.map (DG eB))), (1001, .dvec 1 [.x 1 []] (v12.map (DG eB)))] rfl rfl) (Au ?_)
   exact ⟨⟨[_], ⟨.cellN _ _ _ _ _ _ _ rfl rfl HB Db rfl rfl (Km rfl), tv⟩, rfl⟩, tv, ⟨rfl, rfl, tv⟩⟩
theorem Oy (N : Nat) (p0 : Ab) (p1 : List Int) (p2 : List Int) (r : Ab × Int) (h : F5 N p0 p1 p2 = some r) : DV zA 75 [.e (.agg (Ai p0)), pD (.sl (p1.map Aq)), pD (.sl (p2.map Aq))] [] [.vec 1 (r.1.f9.map Aq), .vec 1 (r.1.gf.map Aq), .vec 1 (r.1.gj.map Aq), .dvec 6 [.s, .s, .s, .s, .x 1 [.x 1 []], .x 1 [.x 1 []]] (r.1.ga.map AJ)] (.tup [.agg [.own 0, .own 1, .own 2, .own 3], .one (iC r.2)]) := by
 unfold F5 at h
 refine FF (n := 49) (rs := [.cell 6 29, .tmp 7]) Tryz.func75 rfl rfl rfl (Hy rfl) (Hy rfl) rfl rfl (Hy rfl) rfl (Hy rfl) fun w0 S0 GL => ?_
 refine Ag (sm [] [(0, .e (.agg (Ai p0))), (1, pD (.sl (p1.map Aq))), (2, pD (.sl (p2.map Aq)))] [] rfl rfl) (wq rfl (qb rfl (qz LG rfl (qa rfl (Ad (wp rfl (qL CD BT rfl ?_)))))))
 refine B1 h fun v1 a1 h => AA [] (Er N p0 v1 a1) Xi rfl (qa rfl (Ad (wq rfl (qm rfl (BF rfl (Ad ?_))))))
 refine Bd h (fun h => ?_) fun h => ?_
 ·refine wq rfl (Bm LG Xl rfl (qm rfl (qs BT rfl (qe rfl ?_))))
  obtain rfl := sj h
  refine Ag ((Az 6 0 2001 1 _ rfl rfl rfl rfl).trans ((Az 6 1 2002 1 _ rfl rfl rfl rfl).trans ((Az 6 2 2003 1 _ rfl rfl rfl rfl).trans ((Az 6 3 2004 6 _ rfl rfl rfl rfl).trans ((Ij 2004 6 [.s, .s, .s, .s, .x 1 [.x 1 []], .x 1 [.x 1 []]] [] [] rfl rfl).trans (sm [(1000, 2001), (1001, 2002), (1002, 2003), (1003, 2004)] [(6, oD (.ptr 6 0)), (7, iD v1)] [(6, .box [.own 1000, .own 1001, .own 1002, .own 1003]), (1000, .vec 1 ((([] : List Int)).map Aq)), (1001, .vec 1 ((([] : List Int)).map Aq)), (1002, .vec 1 ((([] : List Int)).map Aq)), (1003, .dvec 6 [.s, .s, .s, .s, .x 1 [.x 1 []], .x 1 [.x 1 []]] ((([] : List Ao)).map AJ))] rfl rfl)))))) (Au ?_)
  exact ⟨⟨[_, _], ⟨.cellN _ _ _ _ _ _ _ rfl rfl CD BT rfl rfl (Km rfl), tm⟩, rfl⟩, tv, ⟨rfl, rfl, rfl, rfl, tv⟩⟩
 ·refine Am (wq rfl (qf Bu rfl (ql Bb rfl ?_)))
  refine B1 h fun v3 a3 h => AA [2005] (CN N p0.f9 v3 a3) Uy rfl (qm rfl ?_)
  refine B1 h fun v4 a4 h => AA [2006] (CN N p1 v4 a4) Uy rfl (qm rfl ?_)
  refine B1 h fun v5 a5 h => AA [2007] (CN N p2 v5 a5) Uy rfl (Bm LG Xl rfl (qz LG rfl (qs BT rfl (Ad (wp rfl (qf Bx rfl (ql Gm rfl (AM CR rfl (qm rfl (Ad ?_))))))))))
  refine AE (L := Dw N p0) h (fun v6 => mk [(6, oD (.ptr 6 0)), (9, oD (.ptr 9 0)), (28, pD (.sl (p0.ga.map AJ))), (29, iD ((p0.ga.length : Int))), (30, iD v6.2)] [(6, .box [.pure (.nil0), .pure (.nil0), .pure (.nil0), .pure (.nil0)]), (9, .box [.own 2008, .own 2009, .own 2010, .own 2011]), (2008, .vec 1 (v3.map Aq)), (2009, .vec 1 (v4.map Aq)), (2010, .vec 1 (v5.map Aq)), (2011, .dvec 6 [.s, .s, .s, .s, .x 1 [.x 1 []], .x 1 [.x 1 []]] (v6.1.map AJ))]) (fun v7 => mk [(6, oD (.ptr 6 0)), (9, oD (.ptr 9 0))] [(6, .box [.pure (.nil0), .pure (.nil0), .pure (.nil0), .pure (.nil0)]), (9, .box [.own 2012, .own 2013, .own 2014, .own 2015]), (2012, .vec 1 (v3.map Aq)), (2013, .vec 1 (v4.map Aq)), (2014, .vec 1 (v5.map Aq)), (2015, .dvec 6 [.s, .s, .s, .s, .x 1 [.x 1 []], .x 1 [.x 1 []]] (v7.map AJ))]) (fun _ _ => rfl) ((Az 9 3 2018 6 _ rfl rfl rfl rfl).trans ((Ij 2018 6 [.s, .s, .s, .s, .x 1 [.x 1 []], .x 1 [.x 1 []]] [] [] rfl rfl).trans (sm [(2008, 2005), (2009, 2006), (2010, 2007), (2011, 2018)] _ _ rfl rfl))) (fun j6 n6 v6 h => ?_) (fun v7 s h hs => ?_)
  ·unfold Dw at h
   refine wq rfl (AW rfl (Ad (AP ?_)))
   refine Bd h (fun h => ?_) fun h => ?_
   ·refine Am (AP (AK (wq rfl ?_)))
    refine BB h fun v9 a9 b9 h => qi CR Db a9 (Ah b9) rfl (qK HB Db rfl (qz JA rfl (qs Db rfl (Ad (Ak Ax rfl (qf Bx rfl (ql Gm rfl (qL HB Db rfl ?_))))))))
    refine B1 h fun v10 a10 h => IJ (ds0 := [_]) [] [2016, 2017] [] (O6 N v9 v10 a10) (.p rfl) ec rfl ⟨rfl, tv⟩ rfl rfl (by decide) tv rfl (EA rfl) ⟨rfl, rfl, tv⟩ tv rfl rfl rfl ?_
    refine I5 (x := .agg [iC v10.gd, iC v10.ge, iC v10.gi, .pure (.val (.bool v10.gl)), .own 2016, .own 2017]) (cs := [iC v10.gd, iC v10.ge, iC v10.gi, .pure (.val (.bool v10.gl)), .own 2016, .own 2017]) (ts := [.val (.int .i64 v10.gd), .val (.int .i64 v10.ge), .val (.int .i64 v10.gi), .val (.bool v10.gl), .sl (v10.gh.map (DG eB)), .sl (v10.gk.map (DG eB))]) [.s, .s, .s, .s, .x 1 [.x 1 []], .x 1 [.x 1 []]] [(2016, .dvec 1 [.x 1 []] (v10.gh.map (DG eB))), (2017, .dvec 1 [.x 1 []] (v10.gk.map (DG eB)))] (.p rfl) rfl rfl rfl rfl rfl ⟨rfl, rfl, tv⟩ ⟨rfl, rfl, rfl, rfl, rfl, rfl, tv⟩ rfl rfl rfl CR Db JA (Hy rfl) ?_
    refine F2 h fun c11 h => KV (.p rfl) rfl rfl rfl rfl rfl (by decide) CR CR Db X1 (Hy rfl) JA rfl (Mo (f := AJ) (g := AJ) (xs := v6.1) (ys := (([v10] : List Ao))) c11) (Mw AJ v6.1 (([v10] : List Ao))) rfl rfl ?_
    refine qf Bx rfl (qs ca rfl (AQ (by kernel_rfl) (Ak Ax rfl (AZ rfl (qm rfl (Ad ?_))))))
    exact sn [(2011, 39)] h
   ·refine AS ?_
    exact sn [(2012, 2008), (2013, 2009), (2014, 2010), (2015, 2011)] h
  ·refine Ag hs (wp rfl (qL CD BT rfl ?_))
   refine B1 h fun v12 a12 h => DU [] [2012, 2013, 2014, 2015] (Er N ((Ab.mk v3 v4 v5 v7)) v12 a12) Xi B9 rfl (qa rfl (Ad (wq rfl (qm rfl (BF rfl (Ad ?_))))))
   refine Bd h (fun h => ?_) fun h => ?_
   ·refine wq rfl (Bm LG Xl rfl (qm rfl (qs BT rfl (qe rfl ?_))))
    obtain rfl := sj h
    refine Ag ((Az 6 0 2019 1 _ rfl rfl rfl rfl).trans ((Az 6 1 2020 1 _ rfl rfl rfl rfl).trans ((Az 6 2 2021 1 _ rfl rfl rfl rfl).trans ((Az 6 3 2022 6 _ rfl rfl rfl rfl).trans ((Ij 2022 6 [.s, .s, .s, .s, .x 1 [.x 1 []], .x 1 [.x 1 []]] [] [] rfl rfl).trans (sm [(1000, 2019), (1001, 2020), (1002, 2021), (1003, 2022)] [(6, oD (.ptr 6 0)), (7, iD v12)] [(6, .box [.own 1000, .own 1001, .own 1002, .own 1003]), (1000, .vec 1 ((([] : List Int)).map Aq)), (1001, .vec 1 ((([] : List Int)).map Aq)), (1002, .vec 1 ((([] : List Int)).map Aq)), (1003, .dvec 6 [.s, .s, .s, .s, .x 1 [.x 1 []], .x 1 [.x 1 []]] ((([] : List Ao)).map AJ))] rfl rfl)))))) (Au ?_)
    exact ⟨⟨[_, _], ⟨.cellN _ _ _ _ _ _ _ rfl rfl CD BT rfl rfl (Km rfl), tm⟩, rfl⟩, tv, ⟨rfl, rfl, rfl, rfl, tv⟩⟩
   ·refine Am (wq rfl (qL CD BT rfl (qs BT rfl (qe rfl ?_))))
    obtain rfl := sj h
    refine Ag (sm [(1000, 2012), (1001, 2013), (1002, 2014), (1003, 2015)] [(6, oD (.ptr 6 0)), (7, iD 0)] [(6, .box [.own 1000, .own 1001, .own 1002, .own 1003]), (1000, .vec 1 (v3.map Aq)), (1001, .vec 1 (v4.map Aq)), (1002, .vec 1 (v5.map Aq)), (1003, .dvec 6 [.s, .s, .s, .s, .x 1 [.x 1 []], .x 1 [.x 1 []]] (v7.map AJ))] rfl rfl) (Au ?_)
    exact ⟨⟨[_, _], ⟨.cellN _ _ _ _ _ _ _ rfl rfl CD BT rfl rfl (Km rfl), tm⟩, rfl⟩, tv, ⟨rfl, rfl, rfl, rfl, tv⟩⟩
theorem Qt (N : Nat) (p0 : Ab) (p1 : List Aa) (r : Ab) (h : Hd N p0 p1 = some r) : Ar zA 47 [.e (.agg (Ai p0)), pD (.sl (p1.map Ac))] [(1, r.f9.map Aq), (1, r.gf.map Aq), (1, r.gj.map Aq)] (.e (.agg [.own 0, .own 1, .own 2, sC (r.ga.map AJ)])) := by
 unfold Hd at h
 refine cw (n := 40) (rs := [.cell 4 29]) Tryz.func47 fun w0 S0 => ?_
 refine wq rfl (qb rfl (qz LG rfl (Ad (wq rfl (qL CD BT rfl (qf Hp rfl (ql Bb rfl (qf IM rfl (ql Bb rfl ?_)))))))))
 refine B1 h fun v1 a1 h => IJ (ds0 := [_, _, _]) [] [2001, 2002, 2003, 2004] [] (Oy N p0 p0.gf p0.gj v1 a1) (.p rfl) fB rfl ⟨rfl, rfl, rfl, tv⟩ rfl rfl (by decide) tv rfl (EA rfl) ⟨rfl, rfl, rfl, rfl, tv⟩ tv rfl rfl rfl ?_
 refine qm rfl (qx rfl (qx rfl (qz LG rfl (qs BT rfl (qa rfl (Ad (wp rfl (qm rfl (AM A3 rfl (qm rfl (Ad ?_)))))))))))
 refine AE (L := Em N p1) h (fun v2 => mk [(4, oD (.ptr 4 0)), (5, oD (.ptr 5 0)), (18, pD (.sl (p1.map Ac))), (19, iD ((p1.length : Int))), (20, iD v2.2)] [(4, .box [.pure (.nil0), .pure (.nil0), .pure (.nil0), .pure (.nil0)]), (5, .box [.own 2005, .own 2006, .own 2007, .own 2008]), (2005, .vec 1 (v1.1.f9.map Aq)), (2006, .vec 1 (v1.1.gf.map Aq)), (2007, .vec 1 (v1.1.gj.map Aq)), (2008, .dvec 6 [.s, .s, .s, .s, .x 1 [.x 1 []], .x 1 [.x 1 []]] (v2.1.map AJ))]) (fun v3 => mk [(4, oD (.ptr 4 0)), (5, oD (.ptr 5 0))] [(4, .box [.pure (.nil0), .pure (.nil0), .pure (.nil0), .pure (.nil0)]), (5, .box [.own 2009, .own 2010, .own 2011, .own 2012]), (2009, .vec 1 (v1.1.f9.map Aq)), (2010, .vec 1 (v1.1.gf.map Aq)), (2011, .vec 1 (v1.1.gj.map Aq)), (2012, .dvec 6 [.s, .s, .s, .s, .x 1 [.x 1 []], .x 1 [.x 1 []]] (v3.map AJ))]) (fun _ _ => rfl) (sm [(2005, 2001), (2006, 2002), (2007, 2003), (2008, 2004)] _ _ rfl rfl) (fun j2 n2 v2 h => ?_) (fun v3 s h hs => ?_)
 ·unfold Em at h
  refine wq rfl (AW rfl (Ad (AP ?_)))
  refine Bd h (fun h => ?_) fun h => ?_
  ·refine Am (AP (AK (wq rfl ?_)))
   refine BB h fun v5 a5 b5 h => qi A3 Cz a5 (Ah b5) rfl (qK It Cz rfl (qz GV rfl (qs Cz rfl (Ad ?_))))
   refine BB h fun v6 a6 b6 h => Ag (RB 2008 2013 ((v5.gt).toNat) 4 rfl (Ah b6) rfl rfl rfl rfl rfl) ?_
   refine BB h fun v7 a7 b7 h => Ag (RB 2013 2014 ((v5.gr).toNat) 0 rfl (Ah b7) rfl rfl rfl rfl rfl) (Ak Ax rfl (qf Bx rfl (ql Gm rfl (qf S7 rfl (ql Cr rfl ?_)))))
   refine BB h fun v8 a8 b8 h => HR (.p rfl) rfl rfl rfl (VG AJ v2.1 _ _ _ _ _) CR Db a8 (Aw b8) ?_
   refine qh Fa rfl ?_
   refine Wr (.p rfl) rfl Hr rfl (Ah b8) rfl ?_
   refine qf SS rfl (ql Cr rfl ?_)
   refine BB h fun v9 a9 b9 h => HR (.p rfl) rfl rfl rfl (VG (DG eB) v6.gh _ _ _ _ _) DH Is a9 (Aw b9) ?_
   refine Wr (.p rfl) rfl LU rfl (Ah b9) rfl ?_
   refine qf SW rfl (ql Cr rfl ?_)
   refine BB h fun v10 a10 b10 h => qI EG MY a10 (Ah b10) rfl ?_
   refine Eg rfl rfl rfl rfl (Ah b10) rfl MY rfl (Hy rfl) (Dh eB v7 _ true) ?_
   refine AQ (by kernel_rfl) (Ag ((Rz 2013 2014 (e2 := 1) (cols2 := []) (rows2 := (v7.set ((v5.gu).toNat) true).map eB) rfl rfl rfl (Ah b7) rfl rfl (Dh (DG eB) v6.gh _ (v7.set ((v5.gu).toNat) true))).trans (Rz 2008 2013 (e2 := 1) (cols2 := [.x 1 []]) (rows2 := (v6.gh.set ((v5.gr).toNat) (v7.set ((v5.gu).toNat) true)).map (DG eB)) rfl rfl rfl (Ah b6) rfl rfl (Dh AJ v2.1 _ ((Ao.mk v6.gd v6.ge v6.gi v6.gl (v6.gh.set ((v5.gr).toNat) (v7.set ((v5.gu).toNat) true)) v6.gk))))) (Ak Ax rfl (AZ rfl (qm rfl (Ad ?_)))))
   exact sn [] h
  ·refine AS ?_
   exact sn [(2009, 2005), (2010, 2006), (2011, 2007), (2012, 2008)] h
 ·refine Ag hs (wq rfl (qL CD BT rfl (qs BT rfl (Ad ?_))))
  obtain rfl := sj h
  refine Ag ((OL 2012 _ _ _ rfl rfl).trans (sm [(1000, 2009), (1001, 2010), (1002, 2011)] [(4, oD (.ptr 4 0))] [(4, .box [.own 1000, .own 1001, .own 1002, sC (v3.map AJ)]), (1000, .vec 1 (v1.1.f9.map Aq)), (1001, .vec 1 (v1.1.gf.map Aq)), (1002, .vec 1 (v1.1.gj.map Aq))] rfl rfl)) (Au ?_)
  exact ⟨⟨[_], ⟨.cellN _ _ _ _ _ _ _ rfl rfl CD BT rfl rfl (Km rfl), tv⟩, rfl⟩, ⟨rfl, rfl, rfl, tv⟩⟩
theorem Od (N : Nat) (p0 : Int) (p1 : Int) (r : Int × Int) (h : Ig N p0 p1 = some r) : Ar zA 121 [pD (.val (.int .u32 p0)), pD (.val (.int .u32 p1))] [] (.tup [.one (.pure (.val (.int .u32 r.1))), .one (.pure (.val (.int .u32 r.2)))]) := by
 unfold Ig at h
 refine cw (n := 17) (rs := [.tmp 4, .tmp 5]) Tryz.func121 fun w0 S0 => ?_
 refine wq rfl (qa rfl (qa rfl (Ad (wq rfl (qm rfl (K5 WE aV rfl (qm rfl (K5 WE aV rfl (N0 rfl (qa rfl (Ad (wq rfl (qm rfl (KU rfl (by decide) (K5 aS WG rfl (qm rfl (K5 aS WG rfl (qa rfl (qe rfl ?_)))))))))))))))))))
 obtain rfl := sj h
 refine Ag (sm [] [(4, pD (.val (.int .u32 ((wI .u32 ((GW .u64 ((wI .u64 ((wI .u64 p0) * (wI .u64 p1)))) 32))))))), (5, pD (.val (.int .u32 ((wI .u32 ((wI .u64 ((wI .u64 p0) * (wI .u64 p1)))))))))] [] rfl rfl) (Au ?_)
 exact ⟨⟨[_, _], ⟨.tmp _ _ rfl, tm⟩, rfl⟩, tv⟩
theorem N6 (N : Nat) (p0 : Int) (p1 : Int) (r : Int × Int) (h : Id N p0 p1 = some r) : Ar zA 122 [pD (.val (.int .u64 p0)), pD (.val (.int .u64 p1))] [] (.tup [.one (.pure (.val (.int .u64 r.1))), .one (.pure (.val (.int .u64 r.2)))]) := by
 unfold Id at h
 refine cw (n := 51) (rs := [.tmp 4, .tmp 5]) Tryz.func122 fun w0 S0 => ?_
 refine wq rfl (qa rfl (qa rfl (Ad (wq rfl (qm rfl (Pi rfl (qa rfl (Ad (wq rfl (qm rfl (KU rfl (by decide) (qa rfl (Ad (wq rfl (qm rfl (Pi rfl (qa rfl (Ad (wq rfl (qm rfl (KU rfl (by decide) (qa rfl (Ad (wq rfl (qw 2 rfl (N0 rfl (qa rfl (Ad (wq rfl (qw 2 rfl ?_))))))))))))))))))))))))))))))
 refine N0 rfl (qm rfl (KU rfl (by decide) (AZ rfl (qa rfl (Ad (wq rfl (qm rfl (Pi rfl (qa rfl (Ad (wq rfl (qm rfl (KU rfl (by decide) (qa rfl (Ad (wq rfl (qw 3 rfl (N0 rfl (AZ rfl (qa rfl (Ad (wq rfl (qw 2 rfl (N0 rfl (qm rfl (AZ rfl (qm rfl (KU rfl (by decide) (AZ rfl (qa rfl (Ad (AP ?_))))))))))))))))))))))))))))))))
 refine Ak Ax rfl (qw 2 rfl (N0 rfl (qe rfl ?_)))
 obtain rfl := sj h
 refine Ag (sm [] [(4, pD (.val (.int .u64 ((wI .u64 ((wI .u64 ((wI .u64 ((GW .u64 p0 32) * (GW .u64 p1 32))) + (GW .u64 ((wI .u64 ((wI .u64 ((GW .u64 p0 32) * (HG .u64 p1 4294967295))) + (GW .u64 ((wI .u64 ((HG .u64 p0 4294967295) * (HG .u64 p1 4294967295)))) 32)))) 32))) + (GW .u64 ((wI .u64 ((HG .u64 ((wI .u64 ((wI .u64 ((GW .u64 p0 32) * (HG .u64 p1 4294967295))) + (GW .u64 ((wI .u64 ((HG .u64 p0 4294967295) * (HG .u64 p1 4294967295)))) 32)))) 4294967295) + (wI .u64 ((HG .u64 p0 4294967295) * (GW .u64 p1 32)))))) 32))))))), (5, pD (.val (.int .u64 ((wI .u64 (p0 * p1))))))] [] rfl rfl) (Au ?_)
 exact ⟨⟨[_, _], ⟨.tmp _ _ rfl, tm⟩, rfl⟩, tv⟩
theorem Px (N : Nat) (p0 : Int) (p1 : Int) (r : Int × Int) (h : IZ N p0 p1 = some r) : Ar zA 86 [pD (.val (.int .u64 p0)), pD (.val (.int .u64 p1))] [] (.tup [.one (.pure (.val (.int .u64 r.1))), .one (.pure (.val (.int .u64 r.2)))]) := by
 unfold IZ at h
 refine cw (n := 30) (rs := [.tmp 4, .tmp 5]) Tryz.func86 fun w0 S0 => ?_
 refine wq rfl (qa rfl (qa rfl (Ad (AP ?_))))
 refine Bd h (fun h => ?_) fun h => ?_
 ·refine wq rfl (qm rfl (K5 X8 WG rfl (qm rfl (K5 X8 WG rfl ?_))))
  refine B1 h fun v2 a2 h => AA [] (Od N ((wI .u32 p0)) ((wI .u32 p1)) v2 a2) d5 rfl (qm rfl (qx rfl (qx rfl (qa rfl (qa rfl (Ad (wq rfl (qm rfl (K5 WE Wl rfl (qm rfl (K5 WE Wl rfl (qa rfl (qe rfl ?_)))))))))))))
  obtain rfl := sj h
  refine Ag (sm [] [(4, pD (.val (.int .u64 ((wI .u64 v2.1))))), (5, pD (.val (.int .u64 ((wI .u64 v2.2)))))] [] rfl rfl) (Au ?_)
  exact ⟨⟨[_, _], ⟨.tmp _ _ rfl, tm⟩, rfl⟩, tv⟩
 ·refine Am (wq rfl (qw 2 rfl ?_))
  refine B1 h fun v3 a3 h => AA [] (N6 N p0 p1 v3 a3) dE rfl (qm rfl (qx rfl (qx rfl (qa rfl (qa rfl (Ad (wq rfl (qw 2 rfl (qa rfl (qe rfl ?_))))))))))
  obtain rfl := sj h
  refine Ag (sm [] [(4, pD (.val (.int .u64 v3.1))), (5, pD (.val (.int .u64 v3.2)))] [] rfl rfl) (Au ?_)
  exact ⟨⟨[_, _], ⟨.tmp _ _ rfl, tm⟩, rfl⟩, tv⟩
theorem KY (N : Nat) (p0 : List Int) (p1 : Int) (r : (List Int)) (h : Ft N p0 p1 = some r) : Ar zA 61 [pD (.sl (p0.map Aq)), iD p1] [(1, r.map Aq)] (oD (.own 0)) := by
 unfold Ft at h
 refine cw (n := 48) (rs := [.tmp 4]) Tryz.func61 fun w0 S0 => ?_
 refine wq rfl (qe rfl ?_)
 refine AT h (fun v1 => mk [(0, pD (.sl (p0.map Aq))), (1, iD p1)] []) (fun j1 h => ?_) (fun v1 h => ?_)
 ·refine wq rfl (qm rfl (AW rfl (Ad ?_)))
  refine Bd h (fun h => ?_) fun h => ?_
  ·refine Ak Ax rfl ?_
   cases h
  ·refine Am ?_
   exact sn [] h
 ·refine wq rfl (qm rfl (AM AC rfl (K5 eN Wl rfl (qm rfl (K5 eN Wl rfl ?_)))))
  refine B1 h fun v3 a3 h => AA [] (Px N ((wI .u64 ((p0.length : Int)))) ((wI .u64 p1)) v3 a3) fA rfl (qm rfl (qx rfl (qx rfl (qa rfl (qe rfl ?_)))))
  refine AT h (fun v4 => mk [(0, pD (.sl (p0.map Aq))), (6, pD (.val (.int .u64 v3.2)))] []) (fun j4 h => ?_) (fun v4 h => ?_)
  ·refine AT h (fun v5 => mk [(0, pD (.sl (p0.map Aq))), (6, pD (.val (.int .u64 v3.2))), (26, bD v5)] []) (fun j5 h => ?_) (fun v5 h => ?_)
   ·refine Ak Ax rfl (qm rfl (GE rfl (qm rfl ?_)))
    refine EU 23 h rfl (fun h => ?_) fun h => ?_
    ·refine qw 2 rfl (qp rfl (Ad ?_))
     exact sn [] h
    ·refine qm rfl (GE rfl (qp rfl (Ad ?_)))
     exact sn [] h
   ·refine Bd h (fun h => ?_) fun h => ?_
    ·refine Ak Ax rfl ?_
     cases h
    ·refine Am ?_
     exact sn [] h
  ·refine wq rfl (qm rfl (K5 X8 aW rfl ?_))
   refine F2 h fun c8 h => LT (.p rfl) rfl rfl rfl AC DR LX (Hy rfl) Lf rfl rfl rfl c8.1 c8.2.1 c8.2.2 (PH Aq _ ((0 : Int))) ?_
   refine qa rfl (Ad (wq rfl (qw 2 rfl ?_)))
   refine Wm Aq (zD ((wI .i64 v3.2)).toNat ((0 : Int))) p0 (.p rfl) rfl (Hz Aq _ _ (zD ((wI .i64 v3.2)).toNat ((0 : Int)))) rfl rfl (al Aq _ _ (fun _ => rfl)) tv AC DR ?_
   refine qa rfl (Ad (AP ?_))
   refine AE (L := EE N) h (fun v9 => mk [(7, oD (.own 2001)), (8, iD v9.2)] [(2001, .vec 1 (v9.1.map Aq))]) (fun v10 => mk [(7, oD (.own 2002))] [(2002, .vec 1 (v10.map Aq))]) (fun _ _ => rfl) (sm [(2001, 30)] _ _ rfl rfl) (fun j9 n9 v9 h => ?_) (fun v10 s h hs => ?_)
   ·unfold EE at h
    refine wp rfl (qw 2 rfl (C3 AC rfl (AW rfl (Ad ?_))))
    refine Bd h (fun h => ?_) fun h => ?_
    ·refine Am (AK (Ak Ax rfl (qw 3 rfl ?_)))
     obtain ⟨c12, h⟩ := Fg h
     have w13 : ((v9.2).toNat) + ((v9.1.length - (v9.2).toNat)) ≤ v9.1.length := by have := c12.2.1; have := c12.2.2; omega
     refine HF Aq v9.1 (.p rfl) rfl (Hz Aq _ _ v9.1) rfl AC DR (.some _ _ _ _ c12.1) (.none _) ⟨rfl, tv⟩ tv c12.2.1 (by rw [zC]; exact c12.2.2) (zC _) rfl ?_
     refine qw 2 rfl ?_
     obtain ⟨c14, h⟩ := Fg h
     have w15 : 0 + ((v9.2).toNat) ≤ v9.1.length := by have := c14.2.1; have := c14.2.2; omega
     refine HF Aq v9.1 (.p rfl) rfl (Hz Aq _ _ v9.1) rfl AC DR (.none _) (.some _ _ _ _ c14.1) tv ⟨rfl, tv⟩ c14.2.1 (by rw [zC]; exact c14.2.2) (zC _) rfl ?_
     refine Wm Aq v9.1 (((v9.1.drop 0).take ((v9.2).toNat))) (.p rfl) rfl (JO Aq _ _ ((v9.2).toNat) ((v9.1.length - (v9.2).toNat)) v9.1 w13) rfl rfl (RW Aq _ _ 0 ((v9.2).toNat) v9.1 w15) ⟨rfl, tv⟩ AC DR ?_
     refine AZ rfl (qa rfl (AQ (by kernel_rfl) ?_))
     exact sn [] h
    ·refine AS ?_
     exact sn [(2002, 2001)] h
   ·refine Ag hs (wq rfl (qm rfl (qe rfl ?_)))
    obtain rfl := sj h
    refine Ag (sm [(1000, 2002)] [(4, oD (.own 1000))] [(1000, .vec 1 (v10.map Aq))] rfl rfl) (Au ?_)
    exact ⟨⟨[_], tm, rfl⟩, ⟨rfl, tv⟩⟩
theorem Lm (N : Nat) (p0 : Ao) (r : Bool) (h : Gx N p0 = some r) : Ar zA 62 [.e (.agg (Bj p0))] [] (bD r) := by
 unfold Gx at h
 refine cw (n := 11) (rs := [.tmp 2]) Tryz.func62 fun w0 S0 => ?_
 refine wq rfl (qb rfl (qe rfl ?_))
 refine AT h (fun v1 => mk [(2, bD v1)] []) (fun j1 h => ?_) (fun v1 h => ?_)
 ·refine Ak Ax rfl (qf Hn rfl (ql Cr rfl (B5 rfl (qm rfl ?_))))
  refine EU 6 h rfl (fun h => ?_) fun h => ?_
  ·refine qw 3 rfl (qp rfl (qe rfl ?_))
   exact sn [] h
  ·refine qf Hn rfl (ql Cr rfl (B5 rfl (qp rfl (qe rfl ?_))))
   exact sn [] h
 ·obtain rfl := sj h
  refine Ag (sm [] [(2, bD v1)] [] rfl rfl) (Au ?_)
  exact ⟨⟨[_], tm, rfl⟩, tv⟩
theorem Uo (N : Nat) (p0 : Ab) (r : Ae × Int) (h : Ix N p0 = some r) : Ar zA 35 [.e (.agg (Ai p0))] [(1, r.1.gb.map Aq), (1, r.1.f7.map Aq), (1, r.1.gc.map El)] (.tup [.agg [.own 0, .own 1, .own 2], .one (iC r.2)]) := by
 unfold Ix at h
 refine cw (n := 50) (rs := [.cell 2 64, .tmp 3]) Tryz.func35 fun w0 S0 => ?_
 refine wq rfl (qb rfl (qz Fm rfl (qa rfl (Ad (wp rfl (qL CD BT rfl ?_))))))
 refine B1 h fun v1 a1 h => AA [] (Er N p0 v1 a1) Xi rfl (qa rfl (Ad (wq rfl (qm rfl (BF rfl (Ad ?_))))))
 refine Bd h (fun h => ?_) fun h => ?_
 ·refine wq rfl (Bm Fm JH rfl (qm rfl (qs A2 rfl (qe rfl ?_))))
  obtain rfl := sj h
  refine Ag ((Az 2 0 2001 1 _ rfl rfl rfl rfl).trans ((Az 2 1 2002 1 _ rfl rfl rfl rfl).trans ((Az 2 2 2003 1 _ rfl rfl rfl rfl).trans (sm [(1000, 2001), (1001, 2002), (1002, 2003)] [(2, oD (.ptr 2 0)), (3, iD v1)] [(2, .box [.own 1000, .own 1001, .own 1002]), (1000, .vec 1 ((([] : List Int)).map Aq)), (1001, .vec 1 ((([] : List Int)).map Aq)), (1002, .vec 1 ((([] : List Int)).map El))] rfl rfl)))) (Au ?_)
  exact ⟨⟨[_, _], ⟨.cellN _ _ _ _ _ _ _ rfl rfl B7 A2 rfl rfl (Km rfl), tm⟩, rfl⟩, ⟨rfl, rfl, rfl, tv⟩⟩
 ·refine Am (wq rfl (qf Hp rfl (ql Bb rfl ?_)))
  refine B1 h fun v3 a3 h => AA [2004] (CN N p0.gf v3 a3) Uy rfl (Eb AC DR Lf rfl (qf Hp rfl (ql Bb rfl (AM AC rfl ?_))))
  refine B1 h fun v4 a4 h => DU [2005] [17] (KY N (([(-1)] : List Int)) ((p0.gf.length : Int)) v4 a4) fd (G4 (fun _ => rfl) B9) rfl (qf Bx rfl (ql Gm rfl (AM CR rfl ?_)))
  refine F2 h fun c5 h => LT (.p rfl) rfl rfl rfl Ev Hq Uh (Hy rfl) Ti rfl rfl rfl c5.1 c5.2.1 c5.2.2 (PH El _ ((0 : Int))) ?_
  refine Bm Fm JH rfl (qz Fm rfl (qs A2 rfl (AQ (by kernel_rfl) (wp rfl (qf Bx rfl (ql Gm rfl (AM CR rfl (qm rfl (Ad ?_)))))))))
  refine AE (L := E3 N p0) h (fun v6 => mk [(1, oD (.ptr 1 0)), (2, oD (.ptr 2 0)), (5, oD (.ptr 5 0)), (28, pD (.sl (p0.ga.map AJ))), (29, iD ((p0.ga.length : Int))), (30, iD v6.2)] [(1, .box (Ai p0)), (2, .box [.pure (.nil0), .pure (.nil0), .pure (.nil0)]), (5, .box [.own 2006, .own 2007, .own 2008]), (2006, .vec 1 (v3.map Aq)), (2007, .vec 1 (v4.map Aq)), (2008, .vec 1 (v6.1.map El))]) (fun v7 => mk [(2, oD (.ptr 2 0)), (5, oD (.ptr 5 0))] [(2, .box [.pure (.nil0), .pure (.nil0), .pure (.nil0)]), (5, .box [.own 2009, .own 2010, .own 2011]), (2009, .vec 1 (v3.map Aq)), (2010, .vec 1 (v4.map Aq)), (2011, .vec 1 (v7.map El))]) (fun _ _ => rfl) (sm [(2006, 2004), (2007, 2005), (2008, 25)] _ _ rfl rfl) (fun j6 n6 v6 h => ?_) (fun v7 s h hs => ?_)
  ·unfold E3 at h
   refine wq rfl (AW rfl (Ad (AP ?_)))
   refine Bd h (fun h => ?_) fun h => ?_
   ·refine Am ?_
    refine AT h (fun v9 => mk [(1, oD (.ptr 1 0)), (2, oD (.ptr 2 0)), (5, oD (.ptr 5 0)), (28, pD (.sl (p0.ga.map AJ))), (29, iD ((p0.ga.length : Int))), (30, iD v6.2)] [(1, .box (Ai p0)), (2, .box [.pure (.nil0), .pure (.nil0), .pure (.nil0)]), (5, .box [.own 2012, .own 2013, .own 2014]), (2012, .vec 1 (v3.map Aq)), (2013, .vec 1 (v4.map Aq)), (2014, .vec 1 (v9.map El))]) (fun j9 h => ?_) (fun v9 h => ?_)
    ·refine AK (wq rfl (qm rfl ?_))
     refine BB h fun v10 a10 b10 h => qi CR Db a10 (Ah b10) rfl (qK HB Db rfl (qz JA rfl (qa rfl (qs Db rfl (Ad (wq rfl (qL HB Db rfl ?_)))))))
     refine B1 h fun v11 a11 h => AA [] (Lm N v10 v11 a11) cv rfl (Ad ?_)
     refine Bd h (fun h => ?_) fun h => ?_
     ·refine Ak Ax rfl (qf Do rfl (ql Ir rfl (qm rfl (qf Hp rfl (ql Bb rfl (qf DZ rfl (ql Cr rfl ?_)))))))
      refine BB h fun v13 a13 b13 h => qi AC DR a13 (Ah b13) rfl (qk Cr rfl ?_)
      refine F2 h fun c14 h => Kq rfl c14 ?_
      refine BB h fun v15 a15 b15 h => qI Ev Hq a15 (Ah b15) rfl ?_
      refine Eg rfl rfl rfl rfl (Ah b15) rfl Hq rfl (Hy rfl) (Dh El v6.1 _ ((EI .u8 1 v13))) ?_
      refine AQ (by kernel_rfl) ?_
      exact sn [(2012, 2006), (2013, 2007), (2014, 2008)] h
     ·refine Am ?_
      exact sn [(2012, 2006), (2013, 2007), (2014, 2008)] h
    ·refine Ak Ax rfl (AZ rfl (qm rfl (Ad ?_)))
     exact sn [(2006, 2012), (2007, 2013), (2008, 2014)] h
   ·refine AS ?_
    exact sn [(2009, 2006), (2010, 2007), (2011, 2008)] h
  ·refine Ag hs (wq rfl (qL B7 A2 rfl (qs A2 rfl (qe rfl ?_))))
   obtain rfl := sj h
   refine Ag (sm [(1000, 2009), (1001, 2010), (1002, 2011)] [(2, oD (.ptr 2 0)), (3, iD 0)] [(2, .box [.own 1000, .own 1001, .own 1002]), (1000, .vec 1 (v3.map Aq)), (1001, .vec 1 (v4.map Aq)), (1002, .vec 1 (v7.map El))] rfl rfl) (Au ?_)
   exact ⟨⟨[_, _], ⟨.cellN _ _ _ _ _ _ _ rfl rfl B7 A2 rfl rfl (Km rfl), tm⟩, rfl⟩, ⟨rfl, rfl, rfl, tv⟩⟩
theorem KM (N : Nat) (p0 : Ae) (p1 : Int) (r : Int) (h : Ga N p0 p1 = some r) : Ar zA 130 [.e (.agg (AL p0)), iD p1] [] (pD (.val (.int .u8 r))) := by
 unfold Ga at h
 refine cw (n := 27) (rs := [.tmp 4]) Tryz.func130 fun w0 S0 => ?_
 refine wq rfl (qb rfl (qa rfl (Ad (wq rfl (qf Dp rfl (ql Bb rfl (qm rfl ?_)))))))
 refine BB h fun v1 a1 b1 h => qi AC DR a1 (Ah b1) rfl (qk Cr rfl ?_)
 refine F2 h fun c2 h => Kq rfl c2 (qe rfl ?_)
 refine AT h (fun v3 => mk [(5, pD (.val (.int .u8 v3)))] []) (fun j3 h => ?_) (fun v3 h => ?_)
 ·refine wq rfl (qf BO rfl (ql Bb rfl (qm rfl ?_)))
  refine BB h fun v4 a4 b4 h => qi AC DR a4 (Ah b4) rfl (qk Cr rfl (F9 rfl (Ad ?_)))
  refine Bd h (fun h => ?_) fun h => ?_
  ·refine Ak Ax rfl (qm rfl (qf BO rfl (ql Bb rfl (qm rfl ?_))))
   refine BB h fun v6 a6 b6 h => qi AC DR a6 (Ah b6) rfl (qk Cr rfl ?_)
   refine F2 h fun c7 h => Kq rfl c7 (X5 rfl (qe rfl ?_))
   exact sn [] h
  ·refine Am ?_
   exact sn [] h
 ·refine wq rfl (qm rfl (qe rfl ?_))
  obtain rfl := sj h
  refine Ag (sm [] [(4, pD (.val (.int .u8 v3)))] [] rfl rfl) (Au ?_)
  exact ⟨⟨[_], tm, rfl⟩, tv⟩
theorem KE (N : Nat) (p0 : Ab) (p1 : Ae) (r : Int) (h : Gv N p0 p1 = some r) : Ar zA 91 [.e (.agg (Ai p0)), .e (.agg (AL p1))] [] (iD r) := by
 unfold Gv at h
 refine cw (n := 135) (rs := [.tmp 4]) Tryz.func91 fun w0 S0 => ?_
 refine wq rfl (qb rfl (qb rfl (qa rfl (Ad (wp rfl (qL CD BT rfl ?_))))))
 refine B1 h fun v1 a1 h => AA [] (Er N p0 v1 a1) Xi rfl (qa rfl (Ad (wq rfl (qm rfl (BF rfl (Ad ?_))))))
 refine Bd h (fun h => ?_) fun h => ?_
 ·refine wq rfl (qm rfl (qe rfl ?_))
  obtain rfl := sj h
  refine Ag (sm [] [(4, iD v1)] [] rfl rfl) (Au ?_)
  exact ⟨⟨[_], tm, rfl⟩, tv⟩
 ·refine Am (AP ?_)
  refine AT h (fun v3 => mk [(2, oD (.ptr 2 0)), (3, oD (.ptr 3 0)), (41, bD v3)] [(2, .box (Ai p0)), (3, .box (AL p1))]) (fun j3 h => ?_) (fun v3 h => ?_)
  ·refine Ak Ax rfl (qf Dp rfl (ql Bb rfl (AM AC rfl (qf Bu rfl (ql Bb rfl (AM AC rfl (BF rfl (qm rfl ?_))))))))
   refine EU 24 h rfl (fun h => ?_) fun h => ?_
   ·refine qw 7 rfl (qp rfl (qw 8 rfl (qp rfl (Ad ?_))))
    exact sn [] h
   ·refine qf BO rfl (ql Bb rfl (AM AC rfl (qf Bu rfl (ql Bb rfl (AM AC rfl (BF rfl (qp rfl (qm rfl ?_))))))))
    refine EU 33 h rfl (fun h => ?_) fun h => ?_
    ·refine qw 7 rfl (qp rfl (Ad ?_))
     exact sn [] h
    ·refine qf Do rfl (ql Ir rfl (AM Ev rfl (qf Bx rfl (ql Gm rfl (AM CR rfl (BF rfl (qp rfl (Ad ?_))))))))
     exact sn [] h
  ·refine Bd h (fun h => ?_) fun h => ?_
   ·refine wq rfl (qe rfl ?_)
    obtain rfl := sj h
    refine Ag (sm [] [(4, iD 6)] [] rfl rfl) (Au ?_)
    exact ⟨⟨[_], tm, rfl⟩, tv⟩
   ·refine Am (wp rfl (qf Bu rfl (ql Bb rfl (AM AC rfl (qm rfl (Ad ?_))))))
    refine AE (L := E2 N p0 p1) h (fun v7 => mk [(2, oD (.ptr 2 0)), (3, oD (.ptr 3 0)), (43, pD (.sl (p0.f9.map Aq))), (44, iD ((p0.f9.length : Int))), (45, iD v7)] [(2, .box (Ai p0)), (3, .box (AL p1))]) (fun v8 => mk [(2, oD (.ptr 2 0)), (3, oD (.ptr 3 0))] [(2, .box (Ai p0)), (3, .box (AL p1))]) (fun _ _ => rfl) (sm [] _ _ rfl rfl) (fun j7 n7 v7 h => ?_) (fun v8 s h hs => ?_)
    ·unfold E2 at h
     refine wq rfl (AW rfl (Ad (AP ?_)))
     refine Bd h (fun h => ?_) fun h => ?_
     ·refine Am (AP (AK (wq rfl (qm rfl ?_))))
      refine BB h fun v10 a10 b10 h => qi AC DR a10 (Ah b10) rfl (qk Cr rfl (qa rfl (qa rfl (Ad (AP ?_)))))
      refine AT h (fun v11 => mk [(2, oD (.ptr 2 0)), (3, oD (.ptr 3 0)), (6, iD v7), (43, pD (.sl (p0.f9.map Aq))), (44, iD ((p0.f9.length : Int))), (45, iD v7), (81, bD v11)] [(2, .box (Ai p0)), (3, .box (AL p1))]) (fun j11 h => ?_) (fun v11 h => ?_)
      ·refine Ak Ax rfl (qf Dp rfl (ql Bb rfl (qm rfl ?_)))
       refine BB h fun v12 a12 b12 h => qi AC DR a12 (Ah b12) rfl (qk Cr rfl (AW rfl (qm rfl ?_)))
       refine EU 56 h rfl (fun h => ?_) fun h => ?_
       ·refine qw 7 rfl (qp rfl (qw 7 rfl (qp rfl (qw 8 rfl (qp rfl (Ad ?_))))))
        exact sn [] h
       ·refine qf Dp rfl (ql Bb rfl (qm rfl ?_))
        refine BB h fun v14 a14 b14 h => qi AC DR a14 (Ah b14) rfl (qk Cr rfl (qm rfl (F9 rfl (qp rfl (qm rfl ?_)))))
        refine EU 65 h rfl (fun h => ?_) fun h => ?_
        ·refine qw 6 rfl (qp rfl (qw 8 rfl (qp rfl (Ad ?_))))
         exact sn [] h
        ·refine qf BO rfl (ql Bb rfl (qm rfl ?_))
         refine BB h fun v16 a16 b16 h => qi AC DR a16 (Ah b16) rfl (qk Cr rfl (AW rfl (qp rfl (qm rfl ?_))))
         refine EU 73 h rfl (fun h => ?_) fun h => ?_
         ·refine qw 7 rfl (qp rfl (Ad ?_))
          exact sn [] h
         ·refine qf BO rfl (ql Bb rfl (qm rfl ?_))
          refine BB h fun v18 a18 b18 h => qi AC DR a18 (Ah b18) rfl (qk Cr rfl (qm rfl (F9 rfl (qp rfl (Ad ?_)))))
          exact sn [] h
      ·refine Bd h (fun h => ?_) fun h => ?_
       ·refine wq rfl (qe rfl ?_)
        obtain rfl := sj h
        refine Ag (sm [] [(4, iD 7)] [] rfl rfl) (Au ?_)
        exact ⟨⟨[_], tm, rfl⟩, tv⟩
       ·refine Am (wq rfl (qf Dp rfl (ql Bb rfl (qm rfl ?_))))
        refine BB h fun v20 a20 b20 h => qi AC DR a20 (Ah b20) rfl (qk Cr rfl (qf BO rfl (ql Bb rfl (qm rfl ?_))))
        refine BB h fun v21 a21 b21 h => qi AC DR a21 (Ah b21) rfl (qk Cr rfl (B5 rfl (AQ (by kernel_rfl) ?_)))
        refine Bd h (fun h => ?_) fun h => ?_
        ·refine wq rfl (qe rfl ?_)
         obtain rfl := sj h
         refine Ag (sm [] [(4, iD 1)] [] rfl rfl) (Au ?_)
         exact ⟨⟨[_], tm, rfl⟩, tv⟩
        ·refine Am (Ak Ax rfl (AZ rfl (qm rfl (Ad ?_))))
         exact sn [] h
     ·refine AS ?_
      exact sn [] h
    ·refine Ag hs (wp rfl (qf Bx rfl (ql Gm rfl (AM CR rfl (qm rfl (Ad ?_))))))
     refine AE (L := Es N p0 p1) h (fun v23 => mk [(2, oD (.ptr 2 0)), (3, oD (.ptr 3 0)), (95, pD (.sl (p0.ga.map AJ))), (96, iD ((p0.ga.length : Int))), (97, iD v23)] [(2, .box (Ai p0)), (3, .box (AL p1))]) (fun v24 => mk [] []) (fun _ _ => rfl) (sm [] _ _ rfl rfl) (fun j23 n23 v23 h => ?_) (fun v24 s h hs => ?_)
     ·unfold Es at h
      refine wq rfl (AW rfl (Ad (AP ?_)))
      refine Bd h (fun h => ?_) fun h => ?_
      ·refine Am (AP (AK (wq rfl (qm rfl ?_))))
       refine BB h fun v26 a26 b26 h => qi CR Db a26 (Ah b26) rfl (qK HB Db rfl (qz JA rfl (qa rfl (qs Db rfl (Ad (wq rfl (qa rfl (qe rfl ?_))))))))
       refine AT h (fun v27 => mk [(2, oD (.ptr 2 0)), (3, oD (.ptr 3 0)), (8, iD v23), (10, pD (.val (.int .u8 v27.1))), (11, pD (.val (.int .u8 v27.2))), (95, pD (.sl (p0.ga.map AJ))), (96, iD ((p0.ga.length : Int))), (97, iD v23)] [(2, .box (Ai p0)), (3, .box (AL p1))]) (fun j27 h => ?_) (fun v27 h => ?_)
       ·refine wq rfl (qL HB Db rfl ?_)
        refine B1 h fun v28 a28 h => AA [] (Lm N v26 v28 a28) cv rfl (Ad ?_)
        refine Bd h (fun h => ?_) fun h => ?_
        ·refine Ak Ax rfl (qL B7 A2 rfl (qf DZ rfl (ql Cr rfl ?_)))
         refine B1 h fun v30 a30 h => AA [] (KM N p1 v26.ge v30 a30) Ze rfl (qf Bu rfl (ql Bb rfl (qf DZ rfl (ql Cr rfl ?_))))
         refine BB h fun v31 a31 b31 h => qi AC DR a31 (Ah b31) rfl (qk Cr rfl ?_)
         refine F2 h fun c32 h => Kq rfl c32 (LN rfl (qa rfl (qa rfl (AQ (by kernel_rfl) ?_))))
         exact sn [] h
        ·refine Am ?_
         exact sn [] h
       ·refine AT h (fun v33 => mk [(2, oD (.ptr 2 0)), (3, oD (.ptr 3 0)), (95, pD (.sl (p0.ga.map AJ))), (96, iD ((p0.ga.length : Int))), (97, iD v23), (133, bD v33)] [(2, .box (Ai p0)), (3, .box (AL p1))]) (fun j33 h => ?_) (fun v33 h => ?_)
        ·refine Ak Ax rfl (qm rfl (qf Do rfl (ql Ir rfl (qm rfl ?_))))
         refine BB h fun v34 a34 b34 h => qi Ev Hq a34 (Ah b34) rfl (qk LO rfl (JZ rfl (BF rfl (qm rfl ?_))))
         refine EU 124 h rfl (fun h => ?_) fun h => ?_
         ·refine qw 8 rfl (qp rfl (Ad ?_))
          exact sn [] h
         ·refine qf Do rfl (ql Ir rfl (qm rfl ?_))
          refine BB h fun v36 a36 b36 h => qi Ev Hq a36 (Ah b36) rfl (qk LO rfl (qm rfl (JZ rfl (BF rfl (qp rfl (Ad ?_))))))
          exact sn [] h
        ·refine Bd h (fun h => ?_) fun h => ?_
         ·refine wq rfl (qe rfl ?_)
          obtain rfl := sj h
          refine Ag (sm [] [(4, iD 1)] [] rfl rfl) (Au ?_)
          exact ⟨⟨[_], tm, rfl⟩, tv⟩
         ·refine Am (Ak Ax rfl (AZ rfl (qm rfl (Ad ?_))))
          exact sn [] h
      ·refine AS ?_
       exact sn [] h
     ·refine Ag hs (wq rfl (qe rfl ?_))
      obtain rfl := sj h
      refine Ag (sm [] [(4, iD 0)] [] rfl rfl) (Au ?_)
      exact ⟨⟨[_], tm, rfl⟩, tv⟩
theorem GK (N : Nat) (p0 : List Int) (r : (List Int)) (h : B8 N p0 = some r) : Ar zA 146 [pD (.sl (p0.map El))] [(1, r.map El)] (oD (.own 0)) := by
 unfold B8 at h
 refine cw (n := 8) (rs := [.tmp 2]) Tryz.func146 fun w0 S0 => ?_
 refine wq rfl (qa rfl (Ad (wp rfl (qm rfl ?_))))
 refine Of (.p rfl) rfl Ev ?_
 refine Ad ?_
 refine N1 rfl (fun c2 => ?_) ?_
 ·have c2 := uY.1 c2
  rw [c2] at h
  have h : (some (([] : List Int))) = some r := h
  refine wq rfl (qe rfl ?_)
  obtain rfl := sj h
  refine Ag ((AU 2 2001 1 rfl rfl rfl).trans (sm [(1000, 2001)] [(2, oD (.own 1000))] [(1000, .vec 1 ((([] : List Int)).map El))] rfl rfl)) (Au ?_)
  exact ⟨⟨[_], tm, rfl⟩, ⟨rfl, tv⟩⟩
 ·refine Am (wq rfl (Eb Ev Hq Ti rfl (qm rfl ?_)))
  refine F2 h fun c1 h => Hj (f := El) Ev Ev Hq Uh Ti (fun _ => rfl) c1 rfl (qe rfl ?_)
  obtain rfl := sj h
  refine Ag (sm [(1000, 7)] [(2, oD (.own 1000))] [(1000, .vec 1 (((([] : List Int)) ++ p0).map El))] rfl rfl) (Au ?_)
  exact ⟨⟨[_], tm, rfl⟩, ⟨rfl, tv⟩⟩
theorem SP (N : Nat) (p0 : Ab) (p1 : Ae) (r : (List Ae) × Int) (h : HV N p0 p1 = some r) : Ar zA 123 [.e (.agg (Ai p0)), .e (.agg (AL p1))] [(3, r.1.map FL)] (.tup [.one (.own 0), .one (iC r.2)]) := by
 unfold HV at h
 refine cw (n := 75) (rs := [.tmp 4, .tmp 5]) Tryz.func123 fun w0 S0 => ?_
 refine wq rfl (qb rfl (qb rfl (qa rfl (qa rfl (Ad (wp rfl (qL CD BT rfl (qL B7 A2 rfl ?_))))))))
 refine B1 h fun v1 a1 h => AA [] (KE N p0 p1 v1 a1) ao rfl (qa rfl (Ad (wq rfl (qm rfl (BF rfl (Ad ?_))))))
 refine Bd h (fun h => ?_) fun h => ?_
 ·refine wq rfl (qm rfl (qa rfl (qe rfl ?_)))
  obtain rfl := sj h
  refine Ag ((AU 4 2001 3 rfl rfl rfl).trans (sm [(1000, 2001)] [(4, oD (.own 1000)), (5, iD v1)] [(1000, .vec 3 ((([] : List Ae)).map FL))] rfl rfl)) (Au ?_)
  exact ⟨⟨[_, _], ⟨.tmp _ _ rfl, tm⟩, rfl⟩, ⟨rfl, tv⟩⟩
 ·refine Am (wq rfl (qa rfl (Ad (wp rfl (qf BO rfl (ql Bb rfl (AM AC rfl (qm rfl (Ad ?_)))))))))
  refine AE (L := EB N p1) h (fun v3 => mk [(3, oD (.ptr 3 0)), (7, oD (.own 2002)), (22, pD (.sl (p1.f7.map Aq))), (23, iD ((p1.f7.length : Int))), (24, iD v3.2)] [(3, .box (AL p1)), (2002, .vec 1 (v3.1.map Aq))]) (fun v4 => mk [(3, oD (.ptr 3 0)), (7, oD (.own 2003))] [(3, .box (AL p1)), (2003, .vec 1 (v4.map Aq))]) (fun _ _ => rfl) ((AU 7 2005 1 rfl rfl rfl).trans (sm [(2002, 2005)] _ _ rfl rfl)) (fun j3 n3 v3 h => ?_) (fun v4 s h hs => ?_)
  ·unfold EB at h
   refine wq rfl (AW rfl (Ad (AP ?_)))
   refine Bd h (fun h => ?_) fun h => ?_
   ·refine Am ?_
    refine AT h (fun v6 => mk [(3, oD (.ptr 3 0)), (7, oD (.own 2004)), (22, pD (.sl (p1.f7.map Aq))), (23, iD ((p1.f7.length : Int))), (24, iD v3.2)] [(3, .box (AL p1)), (2004, .vec 1 (v6.map Aq))]) (fun j6 h => ?_) (fun v6 h => ?_)
    ·refine AK (wq rfl (qm rfl ?_))
     refine BB h fun v7 a7 b7 h => qi AC DR a7 (Ah b7) rfl (qk Cr rfl (qa rfl (qa rfl (Ad (wq rfl (qm rfl (F9 rfl (Ad ?_))))))))
     refine Bd h (fun h => ?_) fun h => ?_
     ·refine Ak Ax rfl (qw 2 rfl (Eb AC DR Lf rfl ?_))
      refine F2 h fun c9 h => DE (f := Aq) AC AC DR LX Lf c9 rfl (qe rfl ?_)
      exact sn [(2004, 34)] h
     ·refine Am ?_
      exact sn [(2004, 2002)] h
    ·refine Ak Ax rfl (AZ rfl (qm rfl (Ad ?_)))
     exact sn [(2002, 2004)] h
   ·refine AS ?_
    exact sn [(2003, 2002)] h
  ·refine Ag hs (wq rfl (qa rfl (Ad (wp rfl (qm rfl (C3 AC rfl ?_))))))
   refine F2 h fun c10 h => Kq rfl c10 (qm rfl (Ad ?_))
   refine AE (L := DC N p1 v4) h (fun v11 => mk [(3, oD (.ptr 3 0)), (7, oD (.own 2006)), (10, oD (.own 2007)), (38, iD ((EI .i64 1 ((v4.length : Int))))), (39, iD v11.2)] [(3, .box (AL p1)), (2006, .vec 1 (v4.map Aq)), (2007, .vec 3 (v11.1.map FL))]) (fun v12 => mk [(10, oD (.own 2008))] [(2008, .vec 3 (v12.map FL))]) (fun _ _ => rfl) ((AU 10 2027 3 rfl rfl rfl).trans (sm [(2006, 2003), (2007, 2027)] _ _ rfl rfl)) (fun j11 n11 v11 h => ?_) (fun v12 s h hs => ?_)
   ·unfold DC at h
    refine wq rfl (AW rfl (Ad (AP ?_)))
    refine Bd h (fun h => ?_) fun h => ?_
    ·refine Am (AP (AK (wq rfl (qm rfl (qa rfl (Ad (wq rfl (qf Dp rfl (ql Bb rfl ?_)))))))))
     refine B1 h fun v14 a14 h => AA [2009] (CN N p1.gb v14 a14) Uy rfl (qf BO rfl (ql Bb rfl ?_))
     refine B1 h fun v15 a15 h => AA [2010] (CN N p1.f7 v15 a15) Uy rfl (qf Do rfl (ql Ir rfl ?_))
     refine B1 h fun v16 a16 h => AA [2011] (GK N p1.gc v16 a16) bn rfl (Bm Fm JH rfl (qz Fm rfl (qs A2 rfl (AQ (by kernel_rfl) (wp rfl (qm rfl (C3 AC rfl (qm rfl (Ad ?_)))))))))
     refine AE (L := DD N v4 v11) h (fun v17 => mk [(3, oD (.ptr 3 0)), (7, oD (.own 2015)), (10, oD (.own 2016)), (11, iD v11.2), (12, oD (.ptr 12 0)), (38, iD ((EI .i64 1 ((v4.length : Int))))), (39, iD v11.2), (52, oD (.own 2015)), (53, iD ((v4.length : Int))), (54, iD v17.2)] [(3, .box (AL p1)), (12, .box [.own 2012, .own 2013, .own 2014]), (2012, .vec 1 (v14.map Aq)), (2013, .vec 1 (v17.1.map Aq)), (2014, .vec 1 (v16.map El)), (2015, .vec 1 (v4.map Aq)), (2016, .vec 3 (v11.1.map FL))]) (fun v18 => mk [(3, oD (.ptr 3 0)), (7, oD (.own 2020)), (10, oD (.own 2021)), (12, oD (.ptr 12 0)), (38, iD ((EI .i64 1 ((v4.length : Int))))), (39, iD v11.2)] [(3, .box (AL p1)), (12, .box [.own 2017, .own 2018, .own 2019]), (2017, .vec 1 (v14.map Aq)), (2018, .vec 1 (v18.map Aq)), (2019, .vec 1 (v16.map El)), (2020, .vec 1 (v4.map Aq)), (2021, .vec 3 (v11.1.map FL))]) (fun _ _ => rfl) (sm [(2012, 2009), (2013, 2010), (2014, 2011), (2015, 2006), (2016, 2007)] _ _ rfl rfl) (fun j17 n17 v17 h => ?_) (fun v18 s h hs => ?_)
     ·unfold DD at h
      refine wq rfl (AW rfl (Ad (AP ?_)))
      refine Bd h (fun h => ?_) fun h => ?_
      ·refine Am ?_
       refine AT h (fun v20 => mk [(3, oD (.ptr 3 0)), (7, oD (.own 2025)), (10, oD (.own 2026)), (11, iD v11.2), (12, oD (.ptr 12 0)), (38, iD ((EI .i64 1 ((v4.length : Int))))), (39, iD v11.2), (52, oD (.own 2025)), (53, iD ((v4.length : Int))), (54, iD v17.2)] [(3, .box (AL p1)), (12, .box [.own 2022, .own 2023, .own 2024]), (2022, .vec 1 (v14.map Aq)), (2023, .vec 1 (v20.map Aq)), (2024, .vec 1 (v16.map El)), (2025, .vec 1 (v4.map Aq)), (2026, .vec 3 (v11.1.map FL))]) (fun j20 h => ?_) (fun v20 h => ?_)
       ·refine AK (wq rfl (qm rfl ?_))
        refine BB h fun v21 a21 b21 h => qI AC DR a21 (Ah b21) rfl (qj Cr (Ah b21) rfl (qa rfl (qa rfl (Ad (wq rfl (qw 2 rfl ?_))))))
        refine F2 h fun c22 h => KU rfl c22 (Pi rfl (B5 rfl (Ad ?_)))
        refine Bd h (fun h => ?_) fun h => ?_
        ·refine Ak Ax rfl (qf BO rfl (ql Bb rfl (qm rfl ?_)))
         refine BB h fun v24 a24 b24 h => qI AC DR a24 (Ah b24) rfl ?_
         refine Eg rfl rfl rfl rfl (Ah b24) rfl DR rfl (Hy rfl) (Dh Aq v17.1 _ ((-1))) ?_
         refine Ad ?_
         exact sn [(2022, 2012), (2023, 2013), (2024, 2014), (2025, 2015), (2026, 2016)] h
        ·refine Am ?_
         exact sn [(2022, 2012), (2023, 2013), (2024, 2014), (2025, 2015), (2026, 2016)] h
       ·refine Ak Ax rfl (AZ rfl (qm rfl (Ad ?_)))
        exact sn [(2012, 2022), (2013, 2023), (2014, 2024), (2015, 2025), (2016, 2026)] h
      ·refine AS ?_
       exact sn [(2017, 2012), (2018, 2013), (2019, 2014), (2020, 2015), (2021, 2016)] h
     ·refine Ag hs (Ak Ax rfl (qm rfl (qL B7 A2 rfl (Et (BJ 2017 _ _ rfl rfl) (Et (BJ 2018 _ _ rfl rfl) (Et (BJ 2019 _ _ rfl rfl) (Eb KS A2 Fm rfl ?_)))))))
      refine F2 h fun c25 h => DE (f := FL) KS KS A2 bf Fm c25 rfl (qa rfl (Ad (Ak Ax rfl (AZ rfl (qm rfl (Ad ?_))))))
      exact sn [(2006, 2020), (2007, 72)] h
    ·refine AS ?_
     exact sn [(2008, 2007)] h
   ·refine Ag hs (wq rfl (qm rfl (qa rfl (qe rfl ?_))))
    obtain rfl := sj h
    refine Ag (sm [(1000, 2008)] [(4, oD (.own 1000)), (5, iD 0)] [(1000, .vec 3 (v12.map FL))] rfl rfl) (Au ?_)
    exact ⟨⟨[_, _], ⟨.tmp _ _ rfl, tm⟩, rfl⟩, ⟨rfl, tv⟩⟩
theorem Pv (N : Nat) (p0 : Ab) (p1 : Ae) (r : (List Aa)) (h : GP N p0 p1 = some r) : Ar zA 124 [.e (.agg (Ai p0)), .e (.agg (AL p1))] [(3, r.map Ac)] (oD (.own 0)) := by
 unfold GP at h
 refine cw (n := 98) (rs := [.tmp 4]) Tryz.func124 fun w0 S0 => ?_
 refine wq rfl (qb rfl (qb rfl (qa rfl (Ad (wq rfl (qa rfl (Ad (wp rfl (qf Bx rfl (ql Gm rfl (AM CR rfl (qm rfl (Ad ?_)))))))))))))
 refine AE (L := D4 N p0 p1) h (fun v1 => mk [(3, oD (.ptr 3 0)), (5, oD (.own 2001)), (15, pD (.sl (p0.ga.map AJ))), (16, iD ((p0.ga.length : Int))), (17, iD v1.2)] [(3, .box (AL p1)), (2001, .vec 3 (v1.1.map Ac))]) (fun v2 => mk [(5, oD (.own 2002))] [(2002, .vec 3 (v2.map Ac))]) (fun _ _ => rfl) ((AU 5 2013 3 rfl rfl rfl).trans (sm [(2001, 2013)] _ _ rfl rfl)) (fun j1 n1 v1 h => ?_) (fun v2 s h hs => ?_)
 ·unfold D4 at h
  refine wq rfl (AW rfl (Ad (AP ?_)))
  refine Bd h (fun h => ?_) fun h => ?_
  ·refine Am (AP (AK (wq rfl (qm rfl ?_))))
   refine BB h fun v4 a4 b4 h => qi CR Db a4 (Ah b4) rfl (qK HB Db rfl (qz JA rfl (qa rfl (qs Db rfl (Ad (wq rfl (qL B7 A2 rfl (qf DZ rfl (ql Cr rfl ?_)))))))))
   refine B1 h fun v5 a5 h => AA [] (KM N p1 v4.ge v5 a5) Ze rfl (qL B7 A2 rfl (qf JD rfl (ql Cr rfl ?_)))
   refine B1 h fun v6 a6 h => AA [] (KM N p1 v4.gi v6 a6) Ze rfl (qa rfl (qa rfl (AQ (by kernel_rfl) ?_)))
   refine AT h (fun v7 => mk [(3, oD (.ptr 3 0)), (5, oD (.own 2003)), (6, iD v1.2), (7, oD (.ptr 7 0)), (8, pD (.val (.int .u8 v7))), (9, pD (.val (.int .u8 v6))), (15, pD (.sl (p0.ga.map AJ))), (16, iD ((p0.ga.length : Int))), (17, iD v1.2)] [(3, .box (AL p1)), (7, .box (Bj v4)), (2003, .vec 3 (v1.1.map Ac))]) (fun j7 h => ?_) (fun v7 h => ?_)
   ·refine wq rfl (qL HB Db rfl ?_)
    refine B1 h fun v8 a8 h => AA [] (Lm N v4 v8 a8) cv rfl (Ad ?_)
    refine Bd h (fun h => ?_) fun h => ?_
    ·refine Ak Ax rfl (qf Do rfl (ql Ir rfl (qm rfl ?_)))
     refine BB h fun v10 a10 b10 h => qi Ev Hq a10 (Ah b10) rfl (qk LO rfl (qe rfl ?_))
     exact sn [(2003, 2001)] h
    ·refine Am ?_
     exact sn [(2003, 2001)] h
   ·refine wq rfl (qf Fa rfl (ql Hr rfl (AM DH rfl (qm rfl (Ad ?_)))))
    refine AE (L := CK N v1 v4 v6 v7) h (fun v11 => mk [(3, oD (.ptr 3 0)), (5, oD (.own 2004)), (6, iD v1.2), (7, oD (.ptr 7 0)), (8, pD (.val (.int .u8 v7))), (9, pD (.val (.int .u8 v6))), (15, pD (.sl (p0.ga.map AJ))), (16, iD ((p0.ga.length : Int))), (17, iD v1.2), (39, iD ((v4.gh.length : Int))), (40, iD v11.2)] [(3, .box (AL p1)), (7, .box (Bj v4)), (2004, .vec 3 (v11.1.map Ac))]) (fun v12 => mk [(3, oD (.ptr 3 0)), (5, oD (.own 2005)), (15, pD (.sl (p0.ga.map AJ))), (16, iD ((p0.ga.length : Int))), (17, iD v1.2)] [(3, .box (AL p1)), (2005, .vec 3 (v12.map Ac))]) (fun _ _ => rfl) (sm [(2004, 2003)] _ _ rfl rfl) (fun j11 n11 v11 h => ?_) (fun v12 s h hs => ?_)
    ·unfold CK at h
     refine wq rfl (AW rfl (Ad (AP ?_)))
     refine Bd h (fun h => ?_) fun h => ?_
     ·refine Am ?_
      refine AT h (fun v14 => mk [(3, oD (.ptr 3 0)), (5, oD (.own 2006)), (6, iD v1.2), (7, oD (.ptr 7 0)), (8, pD (.val (.int .u8 v7))), (9, pD (.val (.int .u8 v6))), (15, pD (.sl (p0.ga.map AJ))), (16, iD ((p0.ga.length : Int))), (17, iD v1.2), (39, iD ((v4.gh.length : Int))), (40, iD v11.2)] [(3, .box (AL p1)), (7, .box (Bj v4)), (2006, .vec 3 (v14.map Ac))]) (fun j14 h => ?_) (fun v14 h => ?_)
      ·refine AK (wq rfl (qm rfl (qa rfl (Ad (wp rfl (qw 2 rfl ?_))))))
       refine F2 h fun c15 h => KU rfl c15 (Pi rfl (B5 rfl (Ad ?_)))
       refine Bd h (fun h => ?_) fun h => ?_
       ·refine AS ?_
        exact sn [(2006, 2004)] h
       ·refine Am (wq rfl (qa rfl (Ad (wp rfl (qf Fa rfl (ql Hr rfl (qm rfl ?_)))))))
        refine BB h fun v17 a17 b17 h => qi DH Is a17 (Ah b17) rfl (qk LU rfl (AM EG rfl (qm rfl (Ad ?_))))
        refine AE (L := Cf N v1 v4 v6 v11 v17) h (fun v18 => mk [(3, oD (.ptr 3 0)), (5, oD (.own 2007)), (6, iD v1.2), (7, oD (.ptr 7 0)), (8, pD (.val (.int .u8 v7))), (9, pD (.val (.int .u8 v6))), (10, iD v11.2), (11, bD v18.2.1), (15, pD (.sl (p0.ga.map AJ))), (16, iD ((p0.ga.length : Int))), (17, iD v1.2), (39, iD ((v4.gh.length : Int))), (40, iD v11.2), (52, pD (.sl (v17.map eB))), (53, iD ((v17.length : Int))), (54, iD v18.2.2)] [(3, .box (AL p1)), (7, .box (Bj v4)), (2007, .vec 3 (v18.1.map Ac))]) (fun v19 => mk [(3, oD (.ptr 3 0)), (5, oD (.own 2008)), (6, iD v1.2), (7, oD (.ptr 7 0)), (8, pD (.val (.int .u8 v7))), (9, pD (.val (.int .u8 v6))), (10, iD v11.2), (11, bD v19.2), (15, pD (.sl (p0.ga.map AJ))), (16, iD ((p0.ga.length : Int))), (17, iD v1.2), (39, iD ((v4.gh.length : Int))), (40, iD v11.2)] [(3, .box (AL p1)), (7, .box (Bj v4)), (2008, .vec 3 (v19.1.map Ac))]) (fun _ _ => rfl) (sm [(2007, 2004)] _ _ rfl rfl) (fun j18 n18 v18 h => ?_) (fun v19 s h hs => ?_)
        ·unfold Cf at h
         refine wq rfl (AW rfl (Ad (AP ?_)))
         refine Bd h (fun h => ?_) fun h => ?_
         ·refine Am ?_
          refine AT h (fun v21 => mk [(3, oD (.ptr 3 0)), (5, oD (.own 2009)), (6, iD v1.2), (7, oD (.ptr 7 0)), (8, pD (.val (.int .u8 v7))), (9, pD (.val (.int .u8 v6))), (10, iD v11.2), (11, bD v21.2), (15, pD (.sl (p0.ga.map AJ))), (16, iD ((p0.ga.length : Int))), (17, iD v1.2), (39, iD ((v4.gh.length : Int))), (40, iD v11.2), (52, pD (.sl (v17.map eB))), (53, iD ((v17.length : Int))), (54, iD v18.2.2)] [(3, .box (AL p1)), (7, .box (Bj v4)), (2009, .vec 3 (v21.1.map Ac))]) (fun j21 h => ?_) (fun v21 h => ?_)
          ·refine AK (wq rfl (qm rfl ?_))
           refine BB h fun v22 a22 b22 h => qi EG MY a22 (Ah b22) rfl (qk UL rfl (qa rfl (qa rfl (Ad (wp rfl (qw 2 rfl ?_))))))
           refine F2 h fun c23 h => KU rfl c23 (Pi rfl (B5 rfl (Ad ?_)))
           refine Bd h (fun h => ?_) fun h => ?_
           ·refine AS ?_
            exact sn [(2009, 2007)] h
           ·refine Am ?_
            refine AT h (fun v25 => mk [(3, oD (.ptr 3 0)), (5, oD (.own 2010)), (6, iD v1.2), (7, oD (.ptr 7 0)), (8, pD (.val (.int .u8 v7))), (9, pD (.val (.int .u8 v6))), (10, iD v11.2), (11, bD v25), (12, iD v18.2.2), (13, bD v22), (15, pD (.sl (p0.ga.map AJ))), (16, iD ((p0.ga.length : Int))), (17, iD v1.2), (39, iD ((v4.gh.length : Int))), (40, iD v11.2), (52, pD (.sl (v17.map eB))), (53, iD ((v17.length : Int))), (54, iD v18.2.2)] [(3, .box (AL p1)), (7, .box (Bj v4)), (2010, .vec 3 (v18.1.map Ac))]) (fun j25 h => ?_) (fun v25 h => ?_)
            ·refine Ak Ax rfl (qw 2 rfl ?_)
             refine EU 65 h rfl (fun h => ?_) fun h => ?_
             ·refine qn rfl (qp rfl (qe rfl ?_))
              exact sn [(2010, 2007)] h
             ·refine qm rfl (qp rfl (qe rfl ?_))
              exact sn [(2010, 2007)] h
            ·refine AT h (fun v27 => mk [(3, oD (.ptr 3 0)), (5, oD (.own 2011)), (6, iD v1.2), (7, oD (.ptr 7 0)), (8, pD (.val (.int .u8 v7))), (9, pD (.val (.int .u8 v6))), (10, iD v11.2), (11, bD v25), (12, iD v18.2.2), (15, pD (.sl (p0.ga.map AJ))), (16, iD ((p0.ga.length : Int))), (17, iD v1.2), (39, iD ((v4.gh.length : Int))), (40, iD v11.2), (52, pD (.sl (v17.map eB))), (53, iD ((v17.length : Int))), (54, iD v18.2.2), (74, bD v27)] [(3, .box (AL p1)), (7, .box (Bj v4)), (2011, .vec 3 (v18.1.map Ac))]) (fun j27 h => ?_) (fun v27 h => ?_)
             ·refine Ak Ax rfl (qm rfl (CQ rfl (qm rfl ?_)))
              refine EU 70 h rfl (fun h => ?_) fun h => ?_
              ·refine qf Kw rfl (ql UL rfl (CQ rfl (qp rfl (Ad ?_))))
               exact sn [(2011, 2010)] h
              ·refine qw 3 rfl (qp rfl (Ad ?_))
               exact sn [(2011, 2010)] h
             ·refine Bd h (fun h => ?_) fun h => ?_
              ·refine Ak Ax rfl (qw 4 rfl (Bm GV Ro rfl (Eb A3 Cz GV rfl ?_)))
               refine F2 h fun c30 h => DE (f := Ac) A3 A3 Cz LE GV c30 rfl (qe rfl ?_)
               exact sn [(2009, 81)] h
              ·refine Am ?_
               exact sn [(2009, 2011)] h
          ·refine Ak Ax rfl (AZ rfl (qm rfl (Ad ?_)))
           exact sn [(2007, 2009)] h
         ·refine AS ?_
          exact sn [(2008, 2007)] h
        ·refine Ag hs ?_
         refine AT h (fun v31 => mk [(3, oD (.ptr 3 0)), (5, oD (.own 2012)), (6, iD v1.2), (7, oD (.ptr 7 0)), (8, pD (.val (.int .u8 v7))), (9, pD (.val (.int .u8 v6))), (10, iD v11.2), (15, pD (.sl (p0.ga.map AJ))), (16, iD ((p0.ga.length : Int))), (17, iD v1.2), (39, iD ((v4.gh.length : Int))), (40, iD v11.2), (88, bD v31)] [(3, .box (AL p1)), (7, .box (Bj v4)), (2012, .vec 3 (v19.1.map Ac))]) (fun j31 h => ?_) (fun v31 h => ?_)
         ·refine Ak Ax rfl (qf Kw rfl (ql UL rfl (qm rfl ?_)))
          refine EU 85 h rfl (fun h => ?_) fun h => ?_
          ·refine qm rfl (CQ rfl (qp rfl (Ad ?_)))
           exact sn [(2012, 2008)] h
          ·refine qw 2 rfl (qp rfl (Ad ?_))
           exact sn [(2012, 2008)] h
         ·refine Bd h (fun h => ?_) fun h => ?_
          ·refine Ak Ax rfl (qw 3 rfl (Bm GV Ro rfl (Eb A3 Cz GV rfl ?_)))
           refine F2 h fun c34 h => DE (f := Ac) A3 A3 Cz LE GV c34 rfl (qe rfl ?_)
           exact sn [(2006, 94)] h
          ·refine Am ?_
           exact sn [(2006, 2012)] h
      ·refine Ak Ax rfl (AZ rfl (qm rfl (Ad ?_)))
       exact sn [(2004, 2006)] h
     ·refine AS ?_
      exact sn [(2005, 2004)] h
    ·refine Ag hs (Ak Ax rfl (AZ rfl (qm rfl (Ad ?_))))
     exact sn [(2001, 2005)] h
  ·refine AS ?_
   exact sn [(2002, 2001)] h
 ·refine Ag hs (wq rfl (qm rfl (qe rfl ?_)))
  obtain rfl := sj h
  refine Ag (sm [(1000, 2002)] [(4, oD (.own 1000))] [(1000, .vec 3 (v2.map Ac))] rfl rfl) (Au ?_)
  exact ⟨⟨[_], tm, rfl⟩, ⟨rfl, tv⟩⟩
theorem T4 (N : Nat) (p0 : Ab) (p1 : Ae) (r : Ae × Aa × Int) (h : Iu N p0 p1 = some r) : Ar zA 87 [.e (.agg (Ai p0)), .e (.agg (AL p1))] [] (.tup [.agg (AL r.1), .agg (Fs r.2.1), .one (iC r.2.2)]) := by
 unfold Iu at h
 refine cw (n := 42) (rs := [.cell 4 64, .cell 5 45, .tmp 6]) Tryz.func87 fun w0 S0 => ?_
 refine wq rfl (qb rfl (qb rfl (qz Fm rfl (qz GV rfl (qa rfl (Ad (wq rfl (qL CD BT rfl (qL B7 A2 rfl ?_)))))))))
 refine B1 h fun v1 a1 h => AA [2001] (SP N p0 p1 v1 a1) cW rfl (qm rfl (qx rfl (qx rfl (qa rfl (qa rfl (Ad (wp rfl (qm rfl (BF rfl (Ad ?_))))))))))
 refine Bd h (fun h => ?_) fun h => ?_
 ·refine wq rfl (Bm Fm JH rfl (Bm GV Ro rfl (qm rfl (qs A2 rfl (qs Cz rfl (qe rfl ?_))))))
  obtain rfl := sj h
  refine Ag ((RG 4 _ rfl).trans (sm [] [(4, oD (.ptr 4 0)), (5, oD (.ptr 5 0)), (6, iD v1.2)] [(4, .box [sC ((([] : List Int)).map Aq), sC ((([] : List Int)).map Aq), sC ((([] : List Int)).map El)]), (5, .box [iC 0, iC 0, iC 0])] rfl rfl)) (Au ?_)
  exact ⟨⟨[_, _, _], ⟨.cellN _ _ _ _ _ _ _ rfl rfl B7 A2 rfl rfl (Km rfl), ⟨.cellN _ _ _ _ _ _ _ rfl rfl It Cz rfl rfl (Km rfl), tm⟩⟩, rfl⟩, tv⟩
 ·refine Am (wp rfl (qm rfl (C3 KS rfl (qm rfl (Ad ?_)))))
  refine AE (L := FP N p0 v1) h (fun v3 => mk [(2, oD (.ptr 2 0)), (4, oD (.ptr 4 0)), (5, oD (.ptr 5 0)), (23, oD (.own 2002)), (24, iD ((v1.1.length : Int))), (25, iD v3)] [(2, .box (Ai p0)), (4, .box [.pure (.nil0), .pure (.nil0), .pure (.nil0)]), (5, .box [iC 0, iC 0, iC 0]), (2002, .vec 3 (v1.1.map FL))]) (fun v4 => mk [(4, oD (.ptr 4 0)), (5, oD (.ptr 5 0))] [(4, .box [.pure (.nil0), .pure (.nil0), .pure (.nil0)]), (5, .box [iC 0, iC 0, iC 0])]) (fun _ _ => rfl) (sm [(2002, 2001)] _ _ rfl rfl) (fun j3 n3 v3 h => ?_) (fun v4 s h hs => ?_)
  ·unfold FP at h
   refine wq rfl (AW rfl (Ad (AP ?_)))
   refine Bd h (fun h => ?_) fun h => ?_
   ·refine Am (AP (AK (wq rfl ?_)))
    refine BB h fun v6 a6 b6 h => qI KS A2 a6 (Ah b6) rfl (qJ B7 A2 (Ah b6) rfl (qz Fm rfl (qs A2 rfl (Ad (wq rfl (qL CD BT rfl (qL B7 A2 rfl ?_)))))))
    refine B1 h fun v7 a7 h => AA [2003] (Pv N p0 v6 v7 a7) eb rfl (qa rfl (Ad (wq rfl (qm rfl (C3 A3 rfl (GE rfl (Ad ?_)))))))
    refine Bd h (fun h => ?_) fun h => ?_
    ·refine wq rfl (qL B7 A2 rfl (qm rfl ?_))
     refine BB h fun v9 a9 b9 h => qI A3 Cz a9 (Ah b9) rfl (qJ It Cz (Ah b9) rfl (qs A2 rfl (qs Cz rfl (qa rfl (AQ (by kernel_rfl) ?_)))))
     obtain rfl := sj h
     refine Ag (sm [] [(4, oD (.ptr 4 0)), (5, oD (.ptr 5 0)), (6, iD 0)] [(4, .box (AL v6)), (5, .box (Fs v9))] rfl rfl) (Au ?_)
     exact ⟨⟨[_, _, _], ⟨.cellN _ _ _ _ _ _ _ rfl rfl B7 A2 rfl rfl (Km rfl), ⟨.cellN _ _ _ _ _ _ _ rfl rfl It Cz rfl rfl (Km rfl), tm⟩⟩, rfl⟩, tv⟩
    ·refine Am (Ak Ax rfl (AZ rfl (qm rfl (Ad ?_))))
     exact sn [] h
   ·refine AS ?_
    exact sn [] h
  ·refine Ag hs (wq rfl (Bm Fm JH rfl (Bm GV Ro rfl (qs A2 rfl (qs Cz rfl (qe rfl ?_))))))
   obtain rfl := sj h
   refine Ag ((RG 4 _ rfl).trans (sm [] [(4, oD (.ptr 4 0)), (5, oD (.ptr 5 0)), (6, iD 15)] [(4, .box [sC ((([] : List Int)).map Aq), sC ((([] : List Int)).map Aq), sC ((([] : List Int)).map El)]), (5, .box [iC 0, iC 0, iC 0])] rfl rfl)) (Au ?_)
   exact ⟨⟨[_, _, _], ⟨.cellN _ _ _ _ _ _ _ rfl rfl B7 A2 rfl rfl (Km rfl), ⟨.cellN _ _ _ _ _ _ _ rfl rfl It Cz rfl rfl (Km rfl), tm⟩⟩, rfl⟩, tv⟩
theorem Oe (N : Nat) (p0 : Ab) (p1 : Ae) (r : Bool × Int) (h : Hf N p0 p1 = some r) : Ar zA 63 [.e (.agg (Ai p0)), .e (.agg (AL p1))] [] (.tup [.one (.pure (.val (.bool r.1))), .one (iC r.2)]) := by
 unfold Hf at h
 refine cw (n := 22) (rs := [.tmp 4, .tmp 5]) Tryz.func63 fun w0 S0 => ?_
 refine wq rfl (qb rfl (qb rfl (qa rfl (qa rfl (Ad (wq rfl (qL CD BT rfl (qL B7 A2 rfl ?_))))))))
 refine B1 h fun v1 a1 h => AA [] (T4 N p0 p1 v1 a1) fO rfl (qm rfl (qx rfl (qx rfl (qx rfl (qz Fm rfl (qz GV rfl (qs A2 rfl (qs Cz rfl (qa rfl (Ad (wq rfl (qm rfl (Ad (AK (wq rfl (B5 rfl (qe rfl ?_)))))))))))))))))
 refine Bd h (fun h => ?_) fun h => ?_
 ·refine wq rfl (qa rfl (qe rfl ?_))
  obtain rfl := sj h
  refine Ag (sm [] [(4, bD false), (5, iD 0)] [] rfl rfl) (Au ?_)
  exact ⟨⟨[_, _], ⟨.tmp _ _ rfl, tm⟩, rfl⟩, tv⟩
 ·refine wq rfl (B5 rfl (qe rfl ?_))
  refine Bd h (fun h => ?_) fun h => ?_
  ·refine wq rfl (qa rfl (qe rfl ?_))
   obtain rfl := sj h
   refine Ag (sm [] [(4, bD true), (5, iD 0)] [] rfl rfl) (Au ?_)
   exact ⟨⟨[_, _], ⟨.tmp _ _ rfl, tm⟩, rfl⟩, tv⟩
  ·refine wq rfl (qm rfl (qa rfl (qe rfl ?_)))
   obtain rfl := sj h
   refine Ag (sm [] [(4, bD false), (5, iD v1.2.2)] [] rfl rfl) (Au ?_)
   exact ⟨⟨[_, _], ⟨.tmp _ _ rfl, tm⟩, rfl⟩, tv⟩
theorem Qc (N : Nat) (p0 : Ae) (r : ByteArray) (h : Io N p0 = some r) : Ar zA 88 [.e (.agg (AL p0))] [] (pD (.val (.string r))) := by
 unfold Io at h
 refine cw (n := 53) (rs := [.tmp 2]) Tryz.func88 fun w0 S0 => ?_
 refine wq rfl (qb rfl (qa rfl (Ad (wq rfl (qf Dp rfl (ql Bb rfl (AM AC rfl (N0 rfl (qf Do rfl (ql Ir rfl (AM Ev rfl (AZ rfl ?_))))))))))))
 refine F2 h fun c1 h => LT (.p rfl) rfl rfl rfl LB cF cq (Hy rfl) dm rfl rfl rfl c1.1 c1.2.1 c1.2.2 (PH El _ ((0 : Int))) ?_
 refine qa rfl (Ad (wp rfl (qf Dp rfl (ql Bb rfl (AM AC rfl (qm rfl (Ad ?_)))))))
 refine AE (L := FG N p0) h (fun v2 => mk [(1, oD (.ptr 1 0)), (3, oD (.own 2001)), (18, iD ((p0.gb.length : Int))), (19, iD v2.2)] [(1, .box (AL p0)), (2001, .vec 1 (v2.1.map El))]) (fun v3 => mk [(1, oD (.ptr 1 0)), (3, oD (.own 2002))] [(1, .box (AL p0)), (2002, .vec 1 (v3.map El))]) (fun _ _ => rfl) (sm [(2001, 15)] _ _ rfl rfl) (fun j2 n2 v2 h => ?_) (fun v3 s h hs => ?_)
 ·unfold FG at h
  refine wq rfl (AW rfl (Ad (AP ?_)))
  refine Bd h (fun h => ?_) fun h => ?_
  ·refine Am (AP (AK (wq rfl (qm rfl (qa rfl (Ad (Ak Ax rfl (qm rfl (qf Dp rfl (ql Bb rfl (qm rfl ?_)))))))))))
   refine BB h fun v5 a5 b5 h => qi AC DR a5 (Ah b5) rfl (qk Cr rfl (K5 eN fZ rfl (qf BO rfl (ql Bb rfl (qm rfl ?_)))))
   refine BB h fun v6 a6 b6 h => qi AC DR a6 (Ah b6) rfl (qk Cr rfl (AZ rfl (K5 eN fZ rfl (Eb LB cF dm rfl ?_))))
   refine F2 h fun c7 h => DE (f := El) LB LB cF cq dm c7 rfl (qa rfl (AQ (by kernel_rfl) (Ak Ax rfl (AZ rfl (qm rfl (Ad ?_))))))
   exact sn [(2001, 37)] h
  ·refine AS ?_
   exact sn [(2002, 2001)] h
 ·refine Ag hs (wp rfl (qf Do rfl (ql Ir rfl (AM Ev rfl (qm rfl (Ad ?_))))))
  refine AE (L := Eh N p0) h (fun v8 => mk [(3, oD (.own 2003)), (40, pD (.sl (p0.gc.map El))), (41, iD ((p0.gc.length : Int))), (42, iD v8.2)] [(2003, .vec 1 (v8.1.map El))]) (fun v9 => mk [(3, oD (.own 2004))] [(2004, .vec 1 (v9.map El))]) (fun _ _ => rfl) (sm [(2003, 2002)] _ _ rfl rfl) (fun j8 n8 v8 h => ?_) (fun v9 s h hs => ?_)
  ·unfold Eh at h
   refine wq rfl (AW rfl (Ad (AP ?_)))
   refine Bd h (fun h => ?_) fun h => ?_
   ·refine Am (AP (AK (wq rfl ?_)))
    refine BB h fun v11 a11 b11 h => qi Ev Hq a11 (Ah b11) rfl (qk LO rfl (qa rfl (Ad (Ak Ax rfl (qw 2 rfl (Eb LB cF dm rfl ?_))))))
    refine F2 h fun c12 h => DE (f := El) LB LB cF cq dm c12 rfl (qa rfl (Ad (Ak Ax rfl (AZ rfl (qm rfl (Ad ?_))))))
    exact sn [(2003, 49)] h
   ·refine AS ?_
    exact sn [(2004, 2003)] h
  ·refine Ag hs (wq rfl (qm rfl ?_))
   refine XS v9 (.p rfl) rfl (Yj El _ _ _) ⟨rfl, tv⟩ rfl d6 du ?_
   refine qa rfl (Ad ?_)
   obtain rfl := sj h
   refine Ag (sm [] [(2, pD (.val (.string ((C1 v9)))))] [] rfl rfl) (Au ?_)
   exact ⟨⟨[_], tm, rfl⟩, tv⟩
theorem Vz (N : Nat) (p0 : Ab) (r : (List Af)) (h : Jg N p0 = some r) : Ar zA 126 [.e (.agg (Ai p0))] [(3, r.map AD)] (oD (.own 0)) := by
 unfold Jg at h
 refine cw (n := 54) (rs := [.tmp 2]) Tryz.func126 fun w0 S0 => ?_
 refine wq rfl (qb rfl (qa rfl (Ad (wq rfl (qa rfl (Ad (wp rfl (qf Bu rfl (ql Bb rfl (AM AC rfl (qm rfl (Ad ?_))))))))))))
 refine AE (L := DJ N p0) h (fun v1 => mk [(1, oD (.ptr 1 0)), (3, oD (.own 2001)), (10, pD (.sl (p0.f9.map Aq))), (11, iD ((p0.f9.length : Int))), (12, iD v1.2)] [(1, .box (Ai p0)), (2001, .vec 3 (v1.1.map AD))]) (fun v2 => mk [(1, oD (.ptr 1 0)), (3, oD (.own 2002))] [(1, .box (Ai p0)), (2002, .vec 3 (v2.map AD))]) (fun _ _ => rfl) ((AU 3 2005 3 rfl rfl rfl).trans (sm [(2001, 2005)] _ _ rfl rfl)) (fun j1 n1 v1 h => ?_) (fun v2 s h hs => ?_)
 ·unfold DJ at h
  refine wq rfl (AW rfl (Ad (AP ?_)))
  refine Bd h (fun h => ?_) fun h => ?_
  ·refine Am (AP (AK (wq rfl (qm rfl ?_))))
   refine BB h fun v4 a4 b4 h => qi AC DR a4 (Ah b4) rfl (qk Cr rfl (qa rfl (qa rfl (Ad (wq rfl (qw 2 rfl (Ad ?_)))))))
   refine AE (L := Fw N v1 v4) h (fun v5 => mk [(1, oD (.ptr 1 0)), (3, oD (.own 2003)), (4, iD v1.2), (10, pD (.sl (p0.f9.map Aq))), (11, iD ((p0.f9.length : Int))), (12, iD v1.2), (17, iD v4), (18, iD v5.2)] [(1, .box (Ai p0)), (2003, .vec 3 (v5.1.map AD))]) (fun v6 => mk [(1, oD (.ptr 1 0)), (3, oD (.own 2004)), (10, pD (.sl (p0.f9.map Aq))), (11, iD ((p0.f9.length : Int))), (12, iD v1.2)] [(1, .box (Ai p0)), (2004, .vec 3 (v6.map AD))]) (fun _ _ => rfl) (sm [(2003, 2001)] _ _ rfl rfl) (fun j5 n5 v5 h => ?_) (fun v6 s h hs => ?_)
   ·unfold Fw at h
    refine wq rfl (AW rfl (Ad (AP ?_)))
    refine Bd h (fun h => ?_) fun h => ?_
    ·refine Am (AP (AK (wq rfl (qm rfl (qa rfl (Ad (Ak Ax rfl (qw 3 rfl (Bm In Wu rfl (Eb Fr Dg In rfl ?_))))))))))
     refine F2 h fun c8 h => DE (f := AD) Fr Fr Dg OW In c8 rfl (qa rfl (Ad (Ak Ax rfl (AZ rfl (qm rfl (Ad ?_))))))
     exact sn [(2003, 26)] h
    ·refine AS ?_
     exact sn [(2004, 2003)] h
   ·refine Ag hs (Ak Ax rfl (AZ rfl (qm rfl (Ad ?_))))
    exact sn [(2001, 2004)] h
  ·refine AS ?_
   exact sn [(2002, 2001)] h
 ·refine Ag hs (wp rfl (qf Bu rfl (ql Bb rfl (AM AC rfl (qm rfl (Ad ?_))))))
  refine AE (L := CG N p0) h (fun v9 => mk [(1, oD (.ptr 1 0)), (3, oD (.own 2006)), (31, iD ((p0.f9.length : Int))), (32, iD v9.2)] [(1, .box (Ai p0)), (2006, .vec 3 (v9.1.map AD))]) (fun v10 => mk [(1, oD (.ptr 1 0)), (3, oD (.own 2007))] [(1, .box (Ai p0)), (2007, .vec 3 (v10.map AD))]) (fun _ _ => rfl) (sm [(2006, 2002)] _ _ rfl rfl) (fun j9 n9 v9 h => ?_) (fun v10 s h hs => ?_)
  ·unfold CG at h
   refine wq rfl (AW rfl (Ad (AP ?_)))
   refine Bd h (fun h => ?_) fun h => ?_
   ·refine Am (AP (AK (wq rfl (qm rfl (qa rfl (Ad (Ak Ax rfl (qw 2 rfl (Bm In Wu rfl (Eb Fr Dg In rfl ?_))))))))))
    refine F2 h fun c12 h => DE (f := AD) Fr Fr Dg OW In c12 rfl (qa rfl (Ad (Ak Ax rfl (AZ rfl (qm rfl (Ad ?_))))))
    exact sn [(2006, 39)] h
   ·refine AS ?_
    exact sn [(2007, 2006)] h
  ·refine Ag hs (wp rfl (qf Bx rfl (ql Gm rfl (AM CR rfl (qm rfl (Ad ?_))))))
   refine AE (L := BA N p0) h (fun v13 => mk [(3, oD (.own 2008)), (43, iD ((p0.ga.length : Int))), (44, iD v13.2)] [(2008, .vec 3 (v13.1.map AD))]) (fun v14 => mk [(3, oD (.own 2009))] [(2009, .vec 3 (v14.map AD))]) (fun _ _ => rfl) (sm [(2008, 2007)] _ _ rfl rfl) (fun j13 n13 v13 h => ?_) (fun v14 s h hs => ?_)
   ·unfold BA at h
    refine wq rfl (AW rfl (Ad (AP ?_)))
    refine Bd h (fun h => ?_) fun h => ?_
    ·refine Am (AP (AK (wq rfl (qm rfl (qa rfl (Ad (Ak Ax rfl (qw 2 rfl (Bm In Wu rfl (Eb Fr Dg In rfl ?_))))))))))
     refine F2 h fun c16 h => DE (f := AD) Fr Fr Dg OW In c16 rfl (qa rfl (Ad (Ak Ax rfl (AZ rfl (qm rfl (Ad ?_))))))
     exact sn [(2008, 51)] h
    ·refine AS ?_
     exact sn [(2009, 2008)] h
   ·refine Ag hs (wq rfl (qm rfl (qe rfl ?_)))
    obtain rfl := sj h
    refine Ag (sm [(1000, 2009)] [(2, oD (.own 1000))] [(1000, .vec 3 (v14.map AD))] rfl rfl) (Au ?_)
    exact ⟨⟨[_], tm, rfl⟩, ⟨rfl, tv⟩⟩
theorem Rk (N : Nat) (p0 : Ae) (r : Ae) (h : Hx N p0 = some r) : Ar zA 148 [.e (.agg (AL p0))] [(1, r.gb.map Aq), (1, r.f7.map Aq), (1, r.gc.map El)] (.e (.agg [.own 0, .own 1, .own 2])) := by
 unfold Hx at h
 refine cw (n := 13) (rs := [.cell 2 64]) Tryz.func148 fun w0 S0 => ?_
 refine wq rfl (qb rfl (qz Fm rfl (Ad (wq rfl (qf Dp rfl (ql Bb rfl ?_))))))
 refine B1 h fun v1 a1 h => AA [2001] (CN N p0.gb v1 a1) Uy rfl (qf BO rfl (ql Bb rfl ?_))
 refine B1 h fun v2 a2 h => AA [2002] (CN N p0.f7 v2 a2) Uy rfl (qf Do rfl (ql Ir rfl ?_))
 refine B1 h fun v3 a3 h => AA [2003] (GK N p0.gc v3 a3) bn rfl (Bm Fm JH rfl (qs A2 rfl (AQ (by kernel_rfl) ?_)))
 obtain rfl := sj h
 refine Ag (sm [(1000, 2001), (1001, 2002), (1002, 2003)] [(2, oD (.ptr 2 0))] [(2, .box [.own 1000, .own 1001, .own 1002]), (1000, .vec 1 (v1.map Aq)), (1001, .vec 1 (v2.map Aq)), (1002, .vec 1 (v3.map El))] rfl rfl) (Au ?_)
 exact ⟨⟨[_], ⟨.cellN _ _ _ _ _ _ _ rfl rfl B7 A2 rfl rfl (Km rfl), tv⟩, rfl⟩, ⟨rfl, rfl, rfl, tv⟩⟩
theorem MS (N : Nat) (p0 : Ao) (r : Bool) (h : GS N p0 = some r) : Ar zA 156 [.e (.agg (Bj p0))] [] (bD r) := by
 unfold GS at h
 refine cw (n := 11) (rs := [.tmp 2]) Tryz.func156 fun w0 S0 => ?_
 refine wq rfl (qb rfl (qe rfl ?_))
 refine AT h (fun v1 => mk [(2, bD v1)] []) (fun j1 h => ?_) (fun v1 h => ?_)
 ·refine Ak Ax rfl (qf Hn rfl (ql Cr rfl (B5 rfl (qm rfl ?_))))
  refine EU 6 h rfl (fun h => ?_) fun h => ?_
  ·refine qw 3 rfl (qp rfl (qe rfl ?_))
   exact sn [] h
  ·refine qf Hn rfl (ql Cr rfl (B5 rfl (qp rfl (qe rfl ?_))))
   exact sn [] h
 ·obtain rfl := sj h
  refine Ag (sm [] [(2, bD v1)] [] rfl rfl) (Au ?_)
  exact ⟨⟨[_], tm, rfl⟩, tv⟩
theorem Tz (N : Nat) (p0 : Ab) (p1 : Ae) (p2 : Af) (r : Bool × (List Int) × (List Int)) (h : Ja N p0 p1 p2 = some r) : DV zA 149 [.e (.agg (Ai p0)), oD (.ptr 90000 0), .e (.agg (DL p2))] [(.box [.own 90001, .own 90002, .own 90003], .box [.own 90001, .own 90002, .own 90003]), (.vec 1 (p1.gb.map Aq), .vec 1 (p1.gb.map Aq)), (.vec 1 (p1.f7.map Aq), .vec 1 (r.2.1.map Aq)), (.vec 1 (p1.gc.map El), .vec 1 (r.2.2.map El))] [] (bD r.1) := by
 unfold Ja at h
 refine FF (n := 70) (rs := [.tmp 6]) Tryz.func149 rfl rfl rfl (Hy rfl) (Hy rfl) rfl rfl (Hy rfl) rfl (Hy rfl) fun w0 S0 GL => ?_
 refine Ag (sm [] [(0, .e (.agg (Ai p0))), (1, oD (.ptr 90000 0)), (2, .e (.agg (DL p2)))] [(90000, .box [.own 90001, .own 90002, .own 90003]), (90001, .vec 1 (p1.gb.map Aq)), (90002, .vec 1 (p1.f7.map Aq)), (90003, .vec 1 (p1.gc.map El))] rfl rfl) (wq rfl (qb rfl (qb rfl (qa rfl (Ad (AP ?_))))))
 refine AT h (fun v1 => mk [(1, oD (.ptr 90000 0)), (3, oD (.ptr 3 0)), (5, oD (.ptr 5 0)), (30, bD v1)] [(3, .box (Ai p0)), (5, .box (DL p2)), (90000, .box [.own 90001, .own 90002, .own 90003]), (90001, .vec 1 (p1.gb.map Aq)), (90002, .vec 1 (p1.f7.map Aq)), (90003, .vec 1 (p1.gc.map El))]) (fun j1 h => ?_) (fun v1 h => ?_)
 ·refine Ak Ax rfl (qm rfl (ZQ rfl (qf BO rfl (ql Bb rfl (qf Fh rfl (ql Cr rfl ?_))))))
  refine BB h fun v2 a2 b2 h => qI AC DR a2 (Ah b2) rfl (qj Cr (Ah b2) rfl (F9 rfl (qm rfl ?_)))
  refine EU 18 h rfl (fun h => ?_) fun h => ?_
  ·refine qw 11 rfl (qp rfl (AQ (by kernel_rfl) ?_))
   exact sn [] h
  ·refine qm rfl (ZQ rfl (qf Dp rfl (ql Bb rfl (qf Fh rfl (ql Cr rfl ?_)))))
   refine BB h fun v4 a4 b4 h => qI AC DR a4 (Ah b4) rfl (qj Cr (Ah b4) rfl (qf G9 rfl (ql Cr rfl (B5 rfl (qp rfl (AQ (by kernel_rfl) ?_))))))
   exact sn [] h
 ·refine Bd h (fun h => ?_) fun h => ?_
  ·refine wq rfl (qe rfl ?_)
   obtain rfl := sj h
   refine Ag (sm [] [(6, bD false)] [(90000, .box [.own 90001, .own 90002, .own 90003]), (90001, .vec 1 (p1.gb.map Aq)), (90002, .vec 1 (p1.f7.map Aq)), (90003, .vec 1 (p1.gc.map El))] rfl rfl) (Au ?_)
   exact ⟨⟨[_], tm, rfl⟩, ⟨rfl, rfl, rfl, rfl, tv⟩, tv⟩
  ·refine Am (wq rfl (qm rfl (ZQ rfl (qf BO rfl (ql Bb rfl (qf Fh rfl (ql Cr rfl (qf G9 rfl (ql Cr rfl ?_)))))))))
   refine BB h fun v6 a6 b6 h => qI AC DR a6 (Ah b6) rfl ?_
   refine Eg rfl rfl rfl rfl (Ah b6) rfl DR rfl (Hy rfl) (Dh Aq p1.f7 _ p2.gp) ?_
   refine AQ (by kernel_rfl) (wp rfl (qf Bx rfl (ql Gm rfl (AM CR rfl (qm rfl (Ad ?_))))))
   refine AE (L := Eu N p0 p2) h (fun v7 => mk [(1, oD (.ptr 90000 0)), (5, oD (.ptr 5 0)), (41, pD (.sl (p0.ga.map AJ))), (42, iD ((p0.ga.length : Int))), (43, iD v7.2)] [(5, .box (DL p2)), (90000, .box [.own 90001, .own 90002, .own 90003]), (90001, .vec 1 (p1.gb.map Aq)), (90002, .vec 1 ((p1.f7.set ((p2.gg).toNat) p2.gp).map Aq)), (90003, .vec 1 (v7.1.map El))]) (fun v8 => mk [] [(90000, .box [.own 90001, .own 90002, .own 90003]), (90001, .vec 1 (p1.gb.map Aq)), (90002, .vec 1 ((p1.f7.set ((p2.gg).toNat) p2.gp).map Aq)), (90003, .vec 1 (v8.map El))]) (fun _ _ => rfl) (sm [] _ _ rfl rfl) (fun j7 n7 v7 h => ?_) (fun v8 s h hs => ?_)
   ·unfold Eu at h
    refine wq rfl (AW rfl (Ad (AP ?_)))
    refine Bd h (fun h => ?_) fun h => ?_
    ·refine Am ?_
     refine AT h (fun v10 => mk [(1, oD (.ptr 90000 0)), (5, oD (.ptr 5 0)), (41, pD (.sl (p0.ga.map AJ))), (42, iD ((p0.ga.length : Int))), (43, iD v7.2)] [(5, .box (DL p2)), (90000, .box [.own 90001, .own 90002, .own 90003]), (90001, .vec 1 (p1.gb.map Aq)), (90002, .vec 1 ((p1.f7.set ((p2.gg).toNat) p2.gp).map Aq)), (90003, .vec 1 (v10.map El))]) (fun j10 h => ?_) (fun v10 h => ?_)
     ·refine AK (wq rfl (qm rfl ?_))
      refine BB h fun v11 a11 b11 h => qi CR Db a11 (Ah b11) rfl (qK HB Db rfl (qz JA rfl (qa rfl (qs Db rfl (Ad ?_)))))
      refine AT h (fun v12 => mk [(1, oD (.ptr 90000 0)), (5, oD (.ptr 5 0)), (7, iD v7.2), (41, pD (.sl (p0.ga.map AJ))), (42, iD ((p0.ga.length : Int))), (43, iD v7.2), (56, bD v12)] [(5, .box (DL p2)), (90000, .box [.own 90001, .own 90002, .own 90003]), (90001, .vec 1 (p1.gb.map Aq)), (90002, .vec 1 ((p1.f7.set ((p2.gg).toNat) p2.gp).map Aq)), (90003, .vec 1 (v7.1.map El))]) (fun j12 h => ?_) (fun v12 h => ?_)
      ·refine Ak Ax rfl (qf DZ rfl (ql Cr rfl (qf Fh rfl (ql Cr rfl (B5 rfl (qm rfl ?_))))))
       refine EU 53 h rfl (fun h => ?_) fun h => ?_
       ·refine qL HB Db rfl ?_
        refine B1 h fun v14 a14 h => AA [] (MS N v11 v14 a14) aR rfl (qp rfl (Ad ?_))
        exact sn [] h
       ·refine qw 2 rfl (qp rfl (Ad ?_))
        exact sn [] h
      ·refine Bd h (fun h => ?_) fun h => ?_
       ·refine Ak Ax rfl (qm rfl (ZQ rfl (qf Do rfl (ql Ir rfl (qm rfl ?_)))))
        refine BB h fun v16 a16 b16 h => qI Ev Hq a16 (Ah b16) rfl (qj LO (Ah b16) rfl (qf G9 rfl (ql Cr rfl ?_)))
        refine F2 h fun c17 h => Kq rfl c17 (X5 rfl ?_)
        refine BB h fun v18 a18 b18 h => qI Ev Hq a18 (Ah b18) rfl ?_
        refine Eg rfl rfl rfl rfl (Ah b18) rfl Hq rfl (Hy rfl) (Dh El v7.1 _ ((Q3 .u8 v16 ((EI .u8 1 p2.gp))))) ?_
        refine AQ (by kernel_rfl) ?_
        exact sn [] h
       ·refine Am ?_
        exact sn [] h
     ·refine Ak Ax rfl (AZ rfl (qm rfl (Ad ?_)))
      exact sn [] h
    ·refine AS ?_
     exact sn [] h
   ·refine Ag hs (wq rfl (qe rfl ?_))
    obtain rfl := sj h
    refine Ag (sm [] [(6, bD true)] [(90000, .box [.own 90001, .own 90002, .own 90003]), (90001, .vec 1 (p1.gb.map Aq)), (90002, .vec 1 ((p1.f7.set ((p2.gg).toNat) p2.gp).map Aq)), (90003, .vec 1 (v8.map El))] rfl rfl) (Au ?_)
    exact ⟨⟨[_], tm, rfl⟩, ⟨rfl, rfl, rfl, rfl, tv⟩, tv⟩
theorem PS (N : Nat) (p0 : Ae) (p1 : Int) (r : Int) (h : Hb N p0 p1 = some r) : Ar zA 157 [.e (.agg (AL p0)), iD p1] [] (pD (.val (.int .u8 r))) := by
 unfold Hb at h
 refine cw (n := 27) (rs := [.tmp 4]) Tryz.func157 fun w0 S0 => ?_
 refine wq rfl (qb rfl (qa rfl (Ad (wq rfl (qf Dp rfl (ql Bb rfl (qm rfl ?_)))))))
 refine BB h fun v1 a1 b1 h => qi AC DR a1 (Ah b1) rfl (qk Cr rfl ?_)
 refine F2 h fun c2 h => Kq rfl c2 (qe rfl ?_)
 refine AT h (fun v3 => mk [(5, pD (.val (.int .u8 v3)))] []) (fun j3 h => ?_) (fun v3 h => ?_)
 ·refine wq rfl (qf BO rfl (ql Bb rfl (qm rfl ?_)))
  refine BB h fun v4 a4 b4 h => qi AC DR a4 (Ah b4) rfl (qk Cr rfl (F9 rfl (Ad ?_)))
  refine Bd h (fun h => ?_) fun h => ?_
  ·refine Ak Ax rfl (qm rfl (qf BO rfl (ql Bb rfl (qm rfl ?_))))
   refine BB h fun v6 a6 b6 h => qi AC DR a6 (Ah b6) rfl (qk Cr rfl ?_)
   refine F2 h fun c7 h => Kq rfl c7 (X5 rfl (qe rfl ?_))
   exact sn [] h
  ·refine Am ?_
   exact sn [] h
 ·refine wq rfl (qm rfl (qe rfl ?_))
  obtain rfl := sj h
  refine Ag (sm [] [(4, pD (.val (.int .u8 v3)))] [] rfl rfl) (Au ?_)
  exact ⟨⟨[_], tm, rfl⟩, tv⟩
theorem JT (N : Nat) (p0 : Int) (r : Int) (h : DA N p0 = some r) : Ar zA 161 [pD (.val (.int .u8 p0))] [] (iD r) := by
 unfold DA at h
 refine cw (n := 6) (rs := [.tmp 2]) Tryz.func161 fun w0 S0 => ?_
 refine wq rfl (qa rfl (Ad (wq rfl (qm rfl ?_))))
 refine B1 h fun v1 a1 h => WY (.p rfl) rfl rfl du a1 ?_
 refine K5 cP aW rfl (qe rfl ?_)
 obtain rfl := sj h
 refine Ag (sm [] [(2, iD ((wI .i64 v1)))] [] rfl rfl) (Au ?_)
 exact ⟨⟨[_], tm, rfl⟩, tv⟩
theorem NV (N : Nat) (p0 : Ao) (p1 : Int) (p2 : Int) (r : Bool) (h : GX N p0 p1 p2 = some r) : Ar zA 158 [.e (.agg (Bj p0)), pD (.val (.int .u8 p1)), iD p2] [] (bD r) := by
 unfold GX at h
 refine cw (n := 25) (rs := [.tmp 6]) Tryz.func158 fun w0 S0 => ?_
 refine wq rfl (qb rfl (qa rfl (Ad (wp rfl (qm rfl (qe rfl ?_))))))
 refine AE (L := Ee N p0 p2) h (fun v1 => mk [(2, iD p2), (3, oD (.ptr 3 0)), (7, pD (.val (.int .u8 v1)))] [(3, .box (Bj p0))]) (fun v2 => mk [] []) (fun _ _ => rfl) (sm [] _ _ rfl rfl) (fun j1 n1 v1 h => ?_) (fun v2 s h hs => ?_)
 ·unfold Ee at h
  refine wp rfl (qm rfl (BF rfl (Ad ?_)))
  refine Bd h (fun h => ?_) fun h => ?_
  ·refine Am (AP (AK (wq rfl (qf E8 rfl (ql Hr rfl (qm rfl ?_))))))
   refine B1 h fun v4 a4 h => AA [] (JT N v1 v4 a4) dJ rfl ?_
   refine BB h fun v5 a5 b5 h => qi DH Is a5 (Ah b5) rfl (qk LU rfl (qm rfl ?_))
   refine BB h fun v6 a6 b6 h => qi EG MY a6 (Ah b6) rfl (qk UL rfl (CQ rfl (AQ (by kernel_rfl) ?_)))
   refine Bd h (fun h => ?_) fun h => ?_
   ·refine wq rfl (qe rfl ?_)
    obtain rfl := sj h
    refine Ag (sm [] [(6, bD false)] [] rfl rfl) (Au ?_)
    exact ⟨⟨[_], tm, rfl⟩, tv⟩
   ·refine Am (Ak Ax rfl (qw 2 rfl (LN rfl (Pi rfl (qe rfl ?_)))))
    exact sn [] h
  ·refine AS ?_
   exact sn [] h
 ·refine Ag hs (wq rfl (qe rfl ?_))
  obtain rfl := sj h
  refine Ag (sm [] [(6, bD true)] [] rfl rfl) (Au ?_)
  exact ⟨⟨[_], tm, rfl⟩, tv⟩
theorem SX (N : Nat) (p0 : Ab) (p1 : Ae) (p2 : Int) (r : Bool × (List Int)) (h : H0 N p0 p1 p2 = some r) : DV zA 150 [.e (.agg (Ai p0)), oD (.ptr 90000 0), iD p2] [(.box [.own 90001, .own 90002, .own 90003], .box [.own 90001, .own 90002, .own 90003]), (.vec 1 (p1.gb.map Aq), .vec 1 (p1.gb.map Aq)), (.vec 1 (p1.f7.map Aq), .vec 1 (p1.f7.map Aq)), (.vec 1 (p1.gc.map El), .vec 1 (r.2.map El))] [] (bD r.1) := by
 unfold H0 at h
 refine FF (n := 68) (rs := [.tmp 6]) Tryz.func150 rfl rfl rfl (Hy rfl) (Hy rfl) rfl rfl (Hy rfl) rfl (Hy rfl) fun w0 S0 GL => ?_
 refine Ag (sm [] [(0, .e (.agg (Ai p0))), (1, oD (.ptr 90000 0)), (2, iD p2)] [(90000, .box [.own 90001, .own 90002, .own 90003]), (90001, .vec 1 (p1.gb.map Aq)), (90002, .vec 1 (p1.f7.map Aq)), (90003, .vec 1 (p1.gc.map El))] rfl rfl) (wq rfl (qb rfl (qa rfl (Ad (wq rfl (qf Bx rfl (ql Gm rfl (qm rfl ?_))))))))
 refine BB h fun v1 a1 b1 h => qi CR Db a1 (Ah b1) rfl (qK HB Db rfl (qz JA rfl (qs Db rfl (Ad (wp rfl (qL HB Db rfl ?_))))))
 refine B1 h fun v2 a2 h => AA [] (MS N v1 v2 a2) aR rfl (CQ rfl (Ad ?_))
 refine Bd h (fun h => ?_) fun h => ?_
 ·refine wq rfl (qe rfl ?_)
  obtain rfl := sj h
  refine Ag (sm [] [(6, bD false)] [(90000, .box [.own 90001, .own 90002, .own 90003]), (90001, .vec 1 (p1.gb.map Aq)), (90002, .vec 1 (p1.f7.map Aq)), (90003, .vec 1 (p1.gc.map El))] rfl rfl) (Au ?_)
  exact ⟨⟨[_], tm, rfl⟩, ⟨rfl, rfl, rfl, rfl, tv⟩, tv⟩
 ·refine Am (wq rfl (qm rfl (ZQ rfl (qL B7 A2 rfl (qf DZ rfl (ql Cr rfl ?_))))))
  refine B1 h fun v4 a4 h => DU [] [90001, 90002, 90003] (PS N p1 v1.ge v4 a4) ey B9 rfl (qa rfl (AQ (by kernel_rfl) (wq rfl (qm rfl (ZQ rfl (qf Do rfl (ql Ir rfl (qm rfl ?_))))))))
  refine BB h fun v5 a5 b5 h => qI Ev Hq a5 (Ah b5) rfl (qj LO (Ah b5) rfl (qm rfl (JZ rfl (qa rfl (Ad (AP ?_))))))
  refine AT h (fun v6 => mk [(1, oD (.ptr 90000 0)), (2, iD p2), (8, pD (.val (.int .u8 v4))), (60, bD v6)] [(90000, .box [.own 90001, .own 90002, .own 90003]), (90001, .vec 1 (p1.gb.map Aq)), (90002, .vec 1 (p1.f7.map Aq)), (90003, .vec 1 (p1.gc.map El))]) (fun j6 h => ?_) (fun v6 h => ?_)
  ·refine Ak Ax rfl (qm rfl (ZQ rfl (qf Do rfl (ql Ir rfl (qm rfl ?_)))))
   refine BB h fun v7 a7 b7 h => qI Ev Hq a7 (Ah b7) rfl (qj LO (Ah b7) rfl (qm rfl (B5 rfl (qm rfl ?_))))
   refine EU 42 h rfl (fun h => ?_) fun h => ?_
   ·refine qw 4 rfl (qu rfl (qu rfl (qu rfl (qu rfl (qu rfl (qu rfl (qu rfl (qu rfl (qu rfl (qu rfl (qu rfl (qu rfl (qn rfl (qp rfl (AQ (by kernel_rfl) ?_)))))))))))))))
    exact sn [] h
   ·refine qf Hn rfl (ql Cr rfl (B5 rfl (qm rfl ?_)))
    refine EU 46 h rfl (fun h => ?_) fun h => ?_
    ·refine qL HB Db rfl (qw 2 rfl (ZQ rfl (qf Dp rfl (ql Bb rfl (qf DZ rfl (ql Cr rfl ?_))))))
     refine BB h fun v10 a10 b10 h => qI AC DR a10 (Ah b10) rfl (qj Cr (Ah b10) rfl ?_)
     refine B1 h fun v11 a11 h => AA [] (NV N v1 ((DX .u8 v5 v4)) v10 v11 a11) dY rfl (CQ rfl (qp rfl (qp rfl (AQ (by kernel_rfl) ?_))))
     exact sn [] h
    ·refine qw 12 rfl (qp rfl (qp rfl (AQ (by kernel_rfl) ?_)))
     exact sn [] h
  ·refine Bd h (fun h => ?_) fun h => ?_
   ·refine wq rfl (qe rfl ?_)
    obtain rfl := sj h
    refine Ag (sm [] [(6, bD false)] [(90000, .box [.own 90001, .own 90002, .own 90003]), (90001, .vec 1 (p1.gb.map Aq)), (90002, .vec 1 (p1.f7.map Aq)), (90003, .vec 1 (p1.gc.map El))] rfl rfl) (Au ?_)
    exact ⟨⟨[_], tm, rfl⟩, ⟨rfl, rfl, rfl, rfl, tv⟩, tv⟩
   ·refine Am (wq rfl (qm rfl (ZQ rfl (qf Do rfl (ql Ir rfl (qw 2 rfl ?_))))))
    refine BB h fun v13 a13 b13 h => qI Ev Hq a13 (Ah b13) rfl ?_
    refine Eg rfl rfl rfl rfl (Ah b13) rfl Hq rfl (Hy rfl) (Dh El p1.gc _ v4) ?_
    refine Ad (wq rfl (qe rfl ?_))
    obtain rfl := sj h
    refine Ag (sm [] [(6, bD true)] [(90000, .box [.own 90001, .own 90002, .own 90003]), (90001, .vec 1 (p1.gb.map Aq)), (90002, .vec 1 (p1.f7.map Aq)), (90003, .vec 1 ((p1.gc.set ((p2).toNat) v4).map El))] rfl rfl) (Au ?_)
    exact ⟨⟨[_], tm, rfl⟩, ⟨rfl, rfl, rfl, rfl, tv⟩, tv⟩
theorem On (N : Nat) (p0 : Ab) (p1 : Ae) (p2 : Af) (r : Ae × Bool) (h : GD N p0 p1 p2 = some r) : Ar zA 128 [.e (.agg (Ai p0)), .e (.agg (AL p1)), .e (.agg (DL p2))] [(1, r.1.gb.map Aq), (1, r.1.f7.map Aq), (1, r.1.gc.map El)] (.tup [.agg [.own 0, .own 1, .own 2], .one (.pure (.val (.bool r.2)))]) := by
 unfold GD at h
 refine cw (n := 51) (rs := [.cell 6 64, .tmp 7]) Tryz.func128 fun w0 S0 => ?_
 refine wq rfl (qb rfl (qb rfl (qb rfl (qz Fm rfl (qa rfl (Ad (wq rfl (qL B7 A2 rfl ?_))))))))
 refine B1 h fun v1 a1 h => AA [2001, 2002, 2003] (Rk N p1 v1 a1) et rfl (qz Fm rfl (qs A2 rfl (Ad (wp rfl (qf Gb rfl (ql Cr rfl (Ad (AK (wq rfl (B5 rfl (qe rfl ?_)))))))))))
 refine Bd h (fun h => ?_) fun h => ?_
 ·refine wq rfl (qL B7 A2 rfl (qL CD BT rfl (qL Hu Dg rfl ?_)))
  refine B1 h fun v3 a3 h => IJ (ds0 := [_, _, _]) [8, 2001, 2002, 2003] [] [false, false, true, true] (Tz N p0 v1 p2 v3 a3) (.p rfl) c4 rfl ⟨rfl, rfl, rfl, tv⟩ rfl rfl (by decide) ⟨rfl, rfl, rfl, rfl, tv⟩ rfl (EA rfl) tv ⟨(fun _ => rfl), (fun _ => rfl), (fun h => by cases h), (fun h => by cases h), tv⟩ rfl rfl rfl ?_
  refine qs A2 rfl (qa rfl (AQ (by kernel_rfl) ?_))
  obtain rfl := sj h
  refine Ag (sm [(1000, 2001), (1001, 2002), (1002, 2003)] [(6, oD (.ptr 6 0)), (7, bD v3.1)] [(6, .box [.own 1000, .own 1001, .own 1002]), (1000, .vec 1 (v1.gb.map Aq)), (1001, .vec 1 (v3.2.1.map Aq)), (1002, .vec 1 (v3.2.2.map El))] rfl rfl) (Au ?_)
  exact ⟨⟨[_, _], ⟨.cellN _ _ _ _ _ _ _ rfl rfl B7 A2 rfl rfl (Km rfl), tm⟩, rfl⟩, ⟨rfl, rfl, rfl, tv⟩⟩
 ·refine wq rfl (B5 rfl (qe rfl ?_))
  refine Bd h (fun h => ?_) fun h => ?_
  ·refine wq rfl (qL B7 A2 rfl (qL CD BT rfl (qf Fh rfl (ql Cr rfl ?_))))
   refine B1 h fun v5 a5 h => IJ (ds0 := [_, _, _]) [8, 2001, 2002, 2003] [] [false, false, false, true] (SX N p0 v1 p2.gg v5 a5) (.p rfl) df rfl ⟨rfl, rfl, rfl, tv⟩ rfl rfl (by decide) ⟨rfl, rfl, rfl, rfl, tv⟩ rfl (EA rfl) tv ⟨(fun _ => rfl), (fun _ => rfl), (fun _ => rfl), (fun h => by cases h), tv⟩ rfl rfl rfl ?_
   refine qs A2 rfl (qa rfl (AQ (by kernel_rfl) ?_))
   obtain rfl := sj h
   refine Ag (sm [(1000, 2001), (1001, 2002), (1002, 2003)] [(6, oD (.ptr 6 0)), (7, bD v5.1)] [(6, .box [.own 1000, .own 1001, .own 1002]), (1000, .vec 1 (v1.gb.map Aq)), (1001, .vec 1 (v1.f7.map Aq)), (1002, .vec 1 (v5.2.map El))] rfl rfl) (Au ?_)
   exact ⟨⟨[_, _], ⟨.cellN _ _ _ _ _ _ _ rfl rfl B7 A2 rfl rfl (Km rfl), tm⟩, rfl⟩, ⟨rfl, rfl, rfl, tv⟩⟩
  ·refine Am (wq rfl (qf BO rfl (ql Bb rfl (qf Fh rfl (ql Cr rfl ?_)))))
   refine BB h fun v6 a6 b6 h => qI AC DR a6 (Ah b6) rfl (qj Cr (Ah b6) rfl (qa rfl (Ad (wp rfl (qm rfl (AW rfl (Ad ?_)))))))
   refine Bd h (fun h => ?_) fun h => ?_
   ·refine wq rfl (qL B7 A2 rfl (qs A2 rfl (qe rfl ?_)))
    obtain rfl := sj h
    refine Ag (sm [(1000, 2001), (1001, 2002), (1002, 2003)] [(6, oD (.ptr 6 0)), (7, bD false)] [(6, .box [.own 1000, .own 1001, .own 1002]), (1000, .vec 1 (v1.gb.map Aq)), (1001, .vec 1 (v1.f7.map Aq)), (1002, .vec 1 (v1.gc.map El))] rfl rfl) (Au ?_)
    exact ⟨⟨[_, _], ⟨.cellN _ _ _ _ _ _ _ rfl rfl B7 A2 rfl rfl (Km rfl), tm⟩, rfl⟩, ⟨rfl, rfl, rfl, tv⟩⟩
   ·refine Am (wq rfl (qf BO rfl (ql Bb rfl (qf Fh rfl (ql Cr rfl ?_)))))
    refine BB h fun v8 a8 b8 h => qI AC DR a8 (Ah b8) rfl ?_
    refine Eg rfl rfl rfl rfl (Ah b8) rfl DR rfl (Hy rfl) (Dh Aq v1.f7 _ ((-1))) ?_
    refine Ad ?_
    refine AT h (fun v9 => mk [(6, oD (.ptr 6 0)), (8, oD (.ptr 8 0))] [(6, .box [.pure (.nil0), .pure (.nil0), .pure (.nil0)]), (8, .box [.own 2004, .own 2005, .own 2006]), (2004, .vec 1 (v9.map Aq)), (2005, .vec 1 ((v1.f7.set ((p2.gg).toNat) ((-1))).map Aq)), (2006, .vec 1 (v1.gc.map El))]) (fun j9 h => ?_) (fun v9 h => ?_)
    ·refine wq rfl (qf Gb rfl (ql Cr rfl (B5 rfl (Ad ?_))))
     refine Bd h (fun h => ?_) fun h => ?_
     ·refine Ak Ax rfl (qf Dp rfl (ql Bb rfl (qf Fh rfl (ql Cr rfl (qm rfl ?_)))))
      refine BB h fun v11 a11 b11 h => qI AC DR a11 (Ah b11) rfl ?_
      refine Eg rfl rfl rfl rfl (Ah b11) rfl DR rfl (Hy rfl) (Dh Aq v1.gb _ v6) ?_
      refine Ad ?_
      exact sn [(2004, 2001), (2005, 2002), (2006, 2003)] h
     ·refine Am ?_
      exact sn [(2004, 2001), (2005, 2002), (2006, 2003)] h
    ·refine wq rfl (qL B7 A2 rfl (qs A2 rfl (qe rfl ?_)))
     obtain rfl := sj h
     refine Ag (sm [(1000, 2004), (1001, 2005), (1002, 2006)] [(6, oD (.ptr 6 0)), (7, bD true)] [(6, .box [.own 1000, .own 1001, .own 1002]), (1000, .vec 1 (v9.map Aq)), (1001, .vec 1 ((v1.f7.set ((p2.gg).toNat) ((-1))).map Aq)), (1002, .vec 1 (v1.gc.map El))] rfl rfl) (Au ?_)
     exact ⟨⟨[_, _], ⟨.cellN _ _ _ _ _ _ _ rfl rfl B7 A2 rfl rfl (Km rfl), tm⟩, rfl⟩, ⟨rfl, rfl, rfl, tv⟩⟩
end Go.Lift
