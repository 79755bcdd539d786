/- Lemmas for UnblockMinimalSaid, which YtjpgllmfenogoaaGreatFinU4 proves. -/
import Derived.Test.YtjpgllmfenogoaaGreatCode1
namespace Go.Lift
set_option maxRecDepth 10000
open Go.RowKit
open Go.Proofs
theorem Hs (N : Nat) (p0 : Ab) (p1 : Ae) (r : Int) (h : DE N p0 p1 = some r) : Au Tryz.prog 112 [.e (.agg (Ag p0)), .e (.agg (AK p1))] [] (iD r) := by
 unfold DE at h
 refine cw (n := 154) (rs := [.tmp 4]) Tryz.func112 fun w0 S0 => ?_
 refine wq rfl (qb rfl (qb rfl (qa rfl (Ac (wp rfl (qL Cu BF rfl ?_))))))
 refine B7 h fun v1 a1 h => AA [] (FK N p0 v1 a1) ce rfl (qa rfl (Ac (wq rfl (qm rfl (BS rfl (Ac ?_))))))
 refine Bc h (fun h => ?_) fun h => ?_
 ·refine wq rfl (qm rfl (qe rfl ?_))
  obtain rfl := sj h
  refine Ah (sm [] [(4, iD v1)] [] rfl rfl) (Ar ?_)
  exact ⟨⟨[_], tm, rfl⟩, tv⟩
 ·refine Am (wq rfl (qf Bs rfl (ql A7 rfl (AO AC rfl (qa rfl (Ac (AQ ?_)))))))
  refine AS h (fun v3 => mk [(2, oD (.ptr 2 0)), (3, oD (.ptr 3 0)), (6, iD ((p0.fF.length : Int))), (39, bD v3)] [(2, .box (Ag p0)), (3, .box (AK p1))]) (fun j3 h => ?_) (fun v3 h => ?_)
  ·refine Aj Ay rfl (qf De rfl (ql A7 rfl (AO AC rfl (qm rfl (BS rfl (qm rfl ?_))))))
   refine EO 24 h rfl (fun h => ?_) fun h => ?_
   ·refine qw 5 rfl (qp rfl (qw 8 rfl (qp rfl (Ac ?_))))
    exact sn [] h
   ·refine qf BL rfl (ql A7 rfl (AO AC rfl (qm rfl (BS rfl (qp rfl (qm rfl ?_))))))
    refine EO 31 h rfl (fun h => ?_) fun h => ?_
    ·refine qw 7 rfl (qp rfl (Ac ?_))
     exact sn [] h
    ·refine qf Df rfl (ql H7 rfl (AO Ej rfl (qf Bw rfl (ql F0 rfl (AO CK rfl (BS rfl (qp rfl (Ac ?_))))))))
     exact sn [] h
  ·refine Bc h (fun h => ?_) fun h => ?_
   ·refine wq rfl (qe rfl ?_)
    obtain rfl := sj h
    refine Ah (sm [] [(4, iD 6)] [] rfl rfl) (Ar ?_)
    exact ⟨⟨[_], tm, rfl⟩, tv⟩
   ·refine Am (wp rfl (qe rfl ?_))
    refine AH (L := Co N p0 p1) h (fun v7 => mk [(2, oD (.ptr 2 0)), (3, oD (.ptr 3 0)), (6, iD ((p0.fF.length : Int))), (7, iD v7)] [(2, .box (Ag p0)), (3, .box (AK p1))]) (fun v8 => mk [(2, oD (.ptr 2 0)), (3, oD (.ptr 3 0))] [(2, .box (Ag p0)), (3, .box (AK p1))]) (fun _ _ => rfl) (sm [] _ _ rfl rfl) (fun j7 n7 v7 h => ?_) (fun v8 s h hs => ?_)
    ·unfold Co at h
     refine wp rfl (qw 2 rfl (AV rfl (Ac ?_)))
     refine Bc h (fun h => ?_) fun h => ?_
     ·refine Am (AQ (AM (AQ ?_)))
      refine AS h (fun v10 => mk [(2, oD (.ptr 2 0)), (3, oD (.ptr 3 0)), (6, iD ((p0.fF.length : Int))), (7, iD v7), (84, bD v10)] [(2, .box (Ag p0)), (3, .box (AK p1))]) (fun j10 h => ?_) (fun v10 h => ?_)
      ·refine Aj Ay rfl (qf De rfl (ql A7 rfl (qm rfl ?_)))
       refine BK h fun v11 a11 b11 h => qi AC DH a11 (Ai b11) rfl (qk Cn rfl (AV rfl (qm rfl ?_)))
       refine EO 51 h rfl (fun h => ?_) fun h => ?_
       ·refine qw 11 rfl (qp rfl (qw 7 rfl (qp rfl (qw 12 rfl (qp rfl (AP (by kernel_rfl) ?_))))))
        exact sn [] h
       ·refine qf De rfl (ql A7 rfl (qm rfl ?_))
        refine BK h fun v13 a13 b13 h => qi AC DH a13 (Ai b13) rfl (qk Cn rfl (qf Bs rfl (ql A7 rfl (qm rfl ?_))))
        refine BK h fun v14 a14 b14 h => qi AC DH a14 (Ai b14) rfl (qk Cn rfl (FM rfl (qp rfl (qm rfl ?_))))
        refine EO 64 h rfl (fun h => ?_) fun h => ?_
        ·refine qw 6 rfl (qp rfl (qw 12 rfl (qp rfl (AP (by kernel_rfl) ?_))))
         exact sn [] h
        ·refine qf BL rfl (ql A7 rfl (qm rfl ?_))
         refine BK h fun v16 a16 b16 h => qi AC DH a16 (Ai b16) rfl (qk Cn rfl (AV rfl (qp rfl (qm rfl ?_))))
         refine EO 72 h rfl (fun h => ?_) fun h => ?_
         ·refine qw 11 rfl (qp rfl (AP (by kernel_rfl) ?_))
          exact sn [] h
         ·refine qf BL rfl (ql A7 rfl (qm rfl ?_))
          refine BK h fun v18 a18 b18 h => qi AC DH a18 (Ai b18) rfl (qk Cn rfl (qf Bs rfl (ql A7 rfl (qm rfl ?_))))
          refine BK h fun v19 a19 b19 h => qi AC DH a19 (Ai b19) rfl (qk Cn rfl (FM rfl (qp rfl (AP (by kernel_rfl) ?_))))
          exact sn [] h
      ·refine Bc h (fun h => ?_) fun h => ?_
       ·refine wq rfl (qe rfl ?_)
        obtain rfl := sj h
        refine Ah (sm [] [(4, iD 7)] [] rfl rfl) (Ar ?_)
        exact ⟨⟨[_], tm, rfl⟩, tv⟩
       ·refine Am (wq rfl (qf De rfl (ql A7 rfl (qm rfl ?_))))
        refine BK h fun v21 a21 b21 h => qi AC DH a21 (Ai b21) rfl (qk Cn rfl (qf BL rfl (ql A7 rfl (qm rfl ?_))))
        refine BK h fun v22 a22 b22 h => qi AC DH a22 (Ai b22) rfl (qk Cn rfl (B6 rfl (AP (by kernel_rfl) ?_)))
        refine Bc h (fun h => ?_) fun h => ?_
        ·refine wq rfl (qe rfl ?_)
         obtain rfl := sj h
         refine Ah (sm [] [(4, iD 1)] [] rfl rfl) (Ar ?_)
         exact ⟨⟨[_], tm, rfl⟩, tv⟩
        ·refine Am (Aj Ay rfl (qm rfl (AZ rfl (qe rfl ?_))))
         exact sn [] h
     ·refine AT ?_
      exact sn [] h
    ·refine Ah hs (wp rfl (qe rfl ?_))
     refine AH (L := Cd N p0 p1) h (fun v24 => mk [(2, oD (.ptr 2 0)), (3, oD (.ptr 3 0)), (8, iD v24)] [(2, .box (Ag p0)), (3, .box (AK p1))]) (fun v25 => mk [] []) (fun _ _ => rfl) (sm [] _ _ rfl rfl) (fun j24 n24 v24 h => ?_) (fun v25 s h hs => ?_)
     ·unfold Cd at h
      refine wp rfl (qm rfl (qf Bw rfl (ql F0 rfl (AO CK rfl (AV rfl (Ac ?_))))))
      refine Bc h (fun h => ?_) fun h => ?_
      ·refine Am (AQ (AM (wq rfl (qf Bw rfl (ql F0 rfl (qm rfl ?_))))))
       refine BK h fun v27 a27 b27 h => qi CK C1 a27 (Ai b27) rfl (qK G6 C1 rfl (qz Jf rfl (qs C1 rfl (Ac (wq rfl (qf Bs rfl (ql A7 rfl (qf DN rfl (ql Cn rfl ?_)))))))))
       refine BK h fun v28 a28 b28 h => qi AC DH a28 (Ai b28) rfl (qk Cn rfl ?_)
       refine FO h fun c29 h => Kh rfl c29 (O3 rfl (qe rfl ?_))
       refine AS h (fun v30 => mk [(2, oD (.ptr 2 0)), (3, oD (.ptr 3 0)), (8, iD v24), (153, bD v30)] [(2, .box (Ag p0)), (3, .box (AK p1))]) (fun j30 h => ?_) (fun v30 h => ?_)
       ·refine Aj Ay rfl (qL G6 C1 rfl ?_)
        refine B7 h fun v31 a31 h => AA [] (CE N v27 v31 a31) Sy rfl (CP rfl (qm rfl ?_))
        refine EO 119 h rfl (fun h => ?_) fun h => ?_
        ·refine qf Df rfl (ql H7 rfl (qm rfl ?_))
         refine BK h fun v33 a33 b33 h => qi Ej G1 a33 (Ai b33) rfl (qk LL rfl (BS rfl (qp rfl (qm rfl ?_))))
         refine EO 127 h rfl (fun h => ?_) fun h => ?_
         ·refine qw 3 rfl (qu rfl (qu rfl (qu rfl (qu rfl (qu rfl (qu rfl (qu rfl (qu rfl (qu rfl (qu rfl (qu rfl (qu rfl (qu rfl (qu rfl (qu rfl (qu rfl (qu rfl (qu rfl (qu rfl (qu rfl (qu rfl (qn rfl (qp rfl (AP (by kernel_rfl) ?_))))))))))))))))))))))))
          exact sn [] h
         ·refine qL G6 C1 rfl ?_
          refine B7 h fun v35 a35 h => AA [] (CE N v27 v35 a35) Sy rfl (qm rfl ?_)
          refine EO 130 h rfl (fun h => ?_) fun h => ?_
          ·refine qf Df rfl (ql H7 rfl (qm rfl ?_))
           refine BK h fun v37 a37 b37 h => qi Ej G1 a37 (Ai b37) rfl (qk LL rfl (qm rfl (Jz rfl (BS rfl (qm rfl ?_)))))
           refine EO 139 h rfl (fun h => ?_) fun h => ?_
           ·refine qw 11 rfl (qp rfl (qp rfl (qp rfl (AP (by kernel_rfl) ?_))))
            exact sn [] h
           ·refine qL B4 A1 rfl (qf DN rfl (ql Cn rfl ?_))
            refine B7 h fun v39 a39 h => AA [] (EU N p1 v27.fK v39 a39) Ut rfl (qf Df rfl (ql H7 rfl (qm rfl ?_)))
            refine BK h fun v40 a40 b40 h => qi Ej G1 a40 (Ai b40) rfl (qk LL rfl (Jz rfl (BS rfl (qp rfl (qp rfl (qp rfl (AP (by kernel_rfl) ?_)))))))
            exact sn [] h
          ·refine qw 9 rfl (qu rfl (qu rfl (qu rfl (qu rfl (qu rfl (qu rfl (qu rfl (qu rfl (qu rfl (qu rfl (qu rfl (qn rfl (qp rfl (qp rfl (AP (by kernel_rfl) ?_)))))))))))))))
           exact sn [] h
        ·refine qw 6 rfl (qp rfl (qm rfl (qL G6 C1 rfl ?_)))
         refine B7 h fun v41 a41 h => AA [] (CE N v27 v41 a41) Sy rfl (qm rfl ?_)
         refine EO 130 h rfl (fun h => ?_) fun h => ?_
         ·refine qf Df rfl (ql H7 rfl (qm rfl ?_))
          refine BK h fun v43 a43 b43 h => qi Ej G1 a43 (Ai b43) rfl (qk LL rfl (qm rfl (Jz rfl (BS rfl (qm rfl ?_)))))
          refine EO 139 h rfl (fun h => ?_) fun h => ?_
          ·refine qw 11 rfl (qp rfl (qp rfl (qp rfl (AP (by kernel_rfl) ?_))))
           exact sn [] h
          ·refine qL B4 A1 rfl (qf DN rfl (ql Cn rfl ?_))
           refine B7 h fun v45 a45 h => AA [] (EU N p1 v27.fK v45 a45) Ut rfl (qf Df rfl (ql H7 rfl (qm rfl ?_)))
           refine BK h fun v46 a46 b46 h => qi Ej G1 a46 (Ai b46) rfl (qk LL rfl (Jz rfl (BS rfl (qp rfl (qp rfl (qp rfl (AP (by kernel_rfl) ?_)))))))
           exact sn [] h
         ·refine qw 9 rfl (qu rfl (qu rfl (qu rfl (qu rfl (qu rfl (qu rfl (qu rfl (qu rfl (qu rfl (qu rfl (qu rfl (qn rfl (qp rfl (qp rfl (AP (by kernel_rfl) ?_)))))))))))))))
          exact sn [] h
       ·refine Bc h (fun h => ?_) fun h => ?_
        ·refine wq rfl (qe rfl ?_)
         obtain rfl := sj h
         refine Ah (sm [] [(4, iD 1)] [] rfl rfl) (Ar ?_)
         exact ⟨⟨[_], tm, rfl⟩, tv⟩
        ·refine Am (Aj Ay rfl (qm rfl (AZ rfl (qe rfl ?_))))
         exact sn [] h
      ·refine AT ?_
       exact sn [] h
     ·refine Ah hs (wq rfl (qe rfl ?_))
      obtain rfl := sj h
      refine Ah (sm [] [(4, iD 0)] [] rfl rfl) (Ar ?_)
      exact ⟨⟨[_], tm, rfl⟩, tv⟩
theorem Mk (N : Nat) (p0 : Af) (r : Bool) (h : Fc N p0 = some r) : Au Tryz.prog 113 [.e (.agg (DA p0))] [] (bD r) := by
 unfold Fc at h
 refine cw (n := 31) (rs := [.tmp 2]) Tryz.func113 fun w0 S0 => ?_
 refine wq rfl (qb rfl (qe rfl ?_))
 refine AS h (fun v1 => mk [(2, bD v1)] []) (fun j1 h => ?_) (fun v1 h => ?_)
 ·refine Aj Ay rfl (qf FP rfl (ql Cn rfl (FM rfl (qm rfl ?_))))
  refine EO 6 h rfl (fun h => ?_) fun h => ?_
  ·refine qf FP rfl (ql Cn rfl (Ub rfl (qp rfl (qm rfl ?_))))
   refine EO 11 h rfl (fun h => ?_) fun h => ?_
   ·refine qf EX rfl (ql Cn rfl (FM rfl (qp rfl (qm rfl ?_))))
    refine EO 16 h rfl (fun h => ?_) fun h => ?_
    ·refine qf GO rfl (ql Cn rfl (FM rfl (qp rfl (qm rfl ?_))))
     refine EO 21 h rfl (fun h => ?_) fun h => ?_
     ·refine qf FP rfl (ql Cn rfl (B6 rfl (qm rfl ?_)))
      refine EO 25 h rfl (fun h => ?_) fun h => ?_
      ·refine qw 3 rfl (qp rfl (qp rfl (qe rfl ?_)))
       exact sn [] h
      ·refine qf GO rfl (ql Cn rfl (B6 rfl (qp rfl (qp rfl (qe rfl ?_)))))
       exact sn [] h
     ·refine qw 4 rfl (qu rfl (qu rfl (qu rfl (qn rfl (qp rfl (qe rfl ?_))))))
      exact sn [] h
    ·refine qw 3 rfl (qp rfl (qw 5 rfl (qu rfl (qu rfl (qu rfl (qn rfl (qp rfl (qe rfl ?_))))))))
     exact sn [] h
   ·refine qw 3 rfl (qp rfl (qw 4 rfl (qp rfl (qw 5 rfl (qu rfl (qu rfl (qu rfl (qn rfl (qp rfl (qe rfl ?_))))))))))
    exact sn [] h
  ·refine qw 3 rfl (qp rfl (qw 4 rfl (qp rfl (qw 4 rfl (qp rfl (qw 5 rfl (qu rfl (qu rfl (qu rfl (qn rfl (qp rfl (qe rfl ?_))))))))))))
   exact sn [] h
 ·obtain rfl := sj h
  refine Ah (sm [] [(2, bD v1)] [] rfl rfl) (Ar ?_)
  exact ⟨⟨[_], tm, rfl⟩, tv⟩
theorem I8 (N : Nat) (p0 : Ab) (p1 : Ae) (p2 : Af) (r : Ae × Bool) (h : C6 N p0 p1 p2 = some r) : Au Tryz.prog 114 [.e (.agg (Ag p0)), .e (.agg (AK p1)), .e (.agg (DA p2))] [(1, r.1.fH.map Aq), (1, r.1.fE.map Aq), (1, r.1.fI.map Eh)] (.tup [.agg [.own 0, .own 1, .own 2], .one (.pure (.val (.bool r.2)))]) := by
 unfold C6 at h
 refine cw (n := 201) (rs := [.cell 6 64, .tmp 7]) Tryz.func114 fun w0 S0 => ?_
 refine wq rfl (qb rfl (qb rfl (qb rfl (qz E0 rfl (qa rfl (Ac (wq rfl (Eg AC DH KV rfl (qf De rfl (ql A7 rfl ?_))))))))))
 refine FO h fun c1 h => GE (f := Aq) AC AC DH LS KV (fun _ => rfl) c1 rfl (Eg AC DH KV rfl (qf BL rfl (ql A7 rfl ?_)))
 refine FO h fun c2 h => GE (f := Aq) AC AC DH LS KV (fun _ => rfl) c2 rfl (Eg Ej G1 R0 rfl (qf Df rfl (ql H7 rfl ?_)))
 refine FO h fun c3 h => GE (f := Eh) Ej Ej G1 Tc R0 (fun _ => rfl) c3 rfl (Bd E0 Jo rfl (qz E0 rfl (qs A1 rfl (AP (by kernel_rfl) (wq rfl (qf EX rfl (ql Cn rfl (qe rfl ?_))))))))
 refine AS h (fun v4 => mk [(6, oD (.ptr 6 0)), (8, oD (.ptr 8 0))] [(6, .box [.pure (.nil0), .pure (.nil0), .pure (.nil0)]), (8, .box [.own 2001, .own 2002, .own 2003]), (2001, .vec 1 (v4.1.map Aq)), (2002, .vec 1 (v4.2.1.map Aq)), (2003, .vec 1 (v4.2.2.map Eh))]) (fun j4 h => ?_) (fun v4 h => ?_)
 ·refine wq rfl (qf FP rfl (ql Cn rfl (Ac (AM (wq rfl (B6 rfl (qe rfl ?_)))))))
  refine Bc h (fun h => ?_) fun h => ?_
  ·refine AQ ?_
   refine AS h (fun v6 => mk [(3, oD (.ptr 3 0)), (5, oD (.ptr 5 0)), (6, oD (.ptr 6 0)), (8, oD (.ptr 8 0)), (9, iD p2.fN), (60, bD v6)] [(3, .box (Ag p0)), (5, .box (DA p2)), (6, .box [.pure (.nil0), .pure (.nil0), .pure (.nil0)]), (8, .box [.own 2004, .own 2005, .own 2006]), (2004, .vec 1 (((([] : List Int)) ++ p1.fH).map Aq)), (2005, .vec 1 (((([] : List Int)) ++ p1.fE).map Aq)), (2006, .vec 1 (((([] : List Int)) ++ p1.fI).map Eh))]) (fun j6 h => ?_) (fun v6 h => ?_)
   ·refine Aj Ay rfl (qf BL rfl (ql A7 rfl (qm rfl ?_)))
    refine BK h fun v7 a7 b7 h => qi AC DH a7 (Ai b7) rfl (qk Cn rfl (FM rfl (qm rfl ?_)))
    refine EO 51 h rfl (fun h => ?_) fun h => ?_
    ·refine qw 8 rfl (qp rfl (AP (by kernel_rfl) ?_))
     exact sn [(2004, 18), (2005, 22), (2006, 26)] h
    ·refine qf GO rfl (ql Cn rfl (qf De rfl (ql A7 rfl (qm rfl ?_))))
     refine BK h fun v9 a9 b9 h => qi AC DH a9 (Ai b9) rfl (qk Cn rfl (B6 rfl (qp rfl (AP (by kernel_rfl) ?_))))
     exact sn [(2004, 18), (2005, 22), (2006, 26)] h
   ·refine Bc h (fun h => ?_) fun h => ?_
    ·refine wq rfl (Bd E0 Jo rfl (qs A1 rfl (qe rfl ?_)))
     obtain rfl := sj h
     refine Ah ((Av 6 0 2007 1 _ rfl rfl rfl rfl).trans ((Av 6 1 2008 1 _ rfl rfl rfl rfl).trans ((Av 6 2 2009 1 _ rfl rfl rfl rfl).trans (sm [(1000, 2007), (1001, 2008), (1002, 2009)] [(6, oD (.ptr 6 0)), (7, bD false)] [(6, .box [.own 1000, .own 1001, .own 1002]), (1000, .vec 1 ((([] : List Int)).map Aq)), (1001, .vec 1 ((([] : List Int)).map Aq)), (1002, .vec 1 ((([] : List Int)).map Eh))] rfl rfl)))) (Ar ?_)
     exact ⟨⟨[_, _], ⟨.cellN _ _ _ _ _ _ _ rfl rfl B4 A1 rfl rfl (Jw rfl), tm⟩, rfl⟩, ⟨rfl, rfl, rfl, tv⟩⟩
    ·refine Am (wq rfl (qf BL rfl (ql A7 rfl (qm rfl (qf GO rfl (ql Cn rfl ?_))))))
     refine BK h fun v11 a11 b11 h => qI AC DH a11 (Ai b11) rfl ?_
     refine D4 rfl rfl rfl rfl (Ai b11) rfl DH rfl (Hn rfl) (C8 Aq ((([] : List Int)) ++ p1.fE) _ p2.fT) ?_
     refine Ac (wq rfl (qe rfl ?_))
     refine AH (L := Cf N p0 p2) h (fun v12 => mk [(3, oD (.ptr 3 0)), (5, oD (.ptr 5 0)), (6, oD (.ptr 6 0)), (8, oD (.ptr 8 0)), (9, iD p2.fN), (10, iD v12.2)] [(3, .box (Ag p0)), (5, .box (DA p2)), (6, .box [.pure (.nil0), .pure (.nil0), .pure (.nil0)]), (8, .box [.own 2010, .own 2011, .own 2012]), (2010, .vec 1 (((([] : List Int)) ++ p1.fH).map Aq)), (2011, .vec 1 ((((([] : List Int)) ++ p1.fE).set ((p2.fN).toNat) p2.fT).map Aq)), (2012, .vec 1 (v12.1.map Eh))]) (fun v13 => mk [(6, oD (.ptr 6 0)), (8, oD (.ptr 8 0))] [(6, .box [.pure (.nil0), .pure (.nil0), .pure (.nil0)]), (8, .box [.own 2013, .own 2014, .own 2015]), (2013, .vec 1 (((([] : List Int)) ++ p1.fH).map Aq)), (2014, .vec 1 ((((([] : List Int)) ++ p1.fE).set ((p2.fN).toNat) p2.fT).map Aq)), (2015, .vec 1 (v13.map Eh))]) (fun _ _ => rfl) (sm [(2010, 2004), (2011, 2005), (2012, 2006)] _ _ rfl rfl) (fun j12 n12 v12 h => ?_) (fun v13 s h hs => ?_)
     ·unfold Cf at h
      refine wp rfl (qm rfl (qf Bw rfl (ql F0 rfl (AO CK rfl (AV rfl (Ac ?_))))))
      refine Bc h (fun h => ?_) fun h => ?_
      ·refine Am ?_
       refine AS h (fun v15 => mk [(3, oD (.ptr 3 0)), (5, oD (.ptr 5 0)), (6, oD (.ptr 6 0)), (8, oD (.ptr 8 0)), (9, iD p2.fN), (10, iD v12.2)] [(3, .box (Ag p0)), (5, .box (DA p2)), (6, .box [.pure (.nil0), .pure (.nil0), .pure (.nil0)]), (8, .box [.own 2016, .own 2017, .own 2018]), (2016, .vec 1 (((([] : List Int)) ++ p1.fH).map Aq)), (2017, .vec 1 ((((([] : List Int)) ++ p1.fE).set ((p2.fN).toNat) p2.fT).map Aq)), (2018, .vec 1 (v15.map Eh))]) (fun j15 h => ?_) (fun v15 h => ?_)
       ·refine AM ?_
        refine AS h (fun v16 => mk [(3, oD (.ptr 3 0)), (5, oD (.ptr 5 0)), (6, oD (.ptr 6 0)), (8, oD (.ptr 8 0)), (9, iD p2.fN), (10, iD v12.2), (90, bD v16)] [(3, .box (Ag p0)), (5, .box (DA p2)), (6, .box [.pure (.nil0), .pure (.nil0), .pure (.nil0)]), (8, .box [.own 2019, .own 2020, .own 2021]), (2019, .vec 1 (((([] : List Int)) ++ p1.fH).map Aq)), (2020, .vec 1 ((((([] : List Int)) ++ p1.fE).set ((p2.fN).toNat) p2.fT).map Aq)), (2021, .vec 1 (v12.1.map Eh))]) (fun j16 h => ?_) (fun v16 h => ?_)
        ·refine Aj Ay rfl (qf Bw rfl (ql F0 rfl (qm rfl ?_)))
         refine BK h fun v17 a17 b17 h => qi CK C1 a17 (Ai b17) rfl (qg DN rfl (qk Cn rfl (qm rfl (B6 rfl (qm rfl ?_)))))
         refine EO 83 h rfl (fun h => ?_) fun h => ?_
         ·refine qf Bw rfl (ql F0 rfl (qm rfl ?_))
          refine BK h fun v19 a19 b19 h => qi CK C1 a19 (Ai b19) rfl (qK G6 C1 rfl ?_)
          refine B7 h fun v20 a20 h => AA [] (CE N v19 v20 a20) Sy rfl (qp rfl (Ac ?_))
          exact sn [(2019, 2010), (2020, 2011), (2021, 2012)] h
         ·refine qw 6 rfl (qp rfl (Ac ?_))
          exact sn [(2019, 2010), (2020, 2011), (2021, 2012)] h
        ·refine Bc h (fun h => ?_) fun h => ?_
         ·refine Aj Ay rfl (qf Df rfl (ql H7 rfl (qm rfl (qf Df rfl (ql H7 rfl (qm rfl ?_))))))
          refine BK h fun v22 a22 b22 h => qI Ej G1 a22 (Ai b22) rfl (qj LL (Ai b22) rfl (qf GO rfl (ql Cn rfl ?_)))
          refine FO h fun c23 h => Kh rfl c23 (Xw rfl ?_)
          refine BK h fun v24 a24 b24 h => qI Ej G1 a24 (Ai b24) rfl ?_
          refine D4 rfl rfl rfl rfl (Ai b24) rfl G1 rfl (Hn rfl) (C8 Eh v12.1 _ ((QD .u8 v22 ((Ex .u8 1 p2.fT))))) ?_
          refine AP (by kernel_rfl) ?_
          exact sn [(2016, 2019), (2017, 2020), (2018, 2021)] h
         ·refine Am ?_
          exact sn [(2016, 2019), (2017, 2020), (2018, 2021)] h
       ·refine Aj Ay rfl (qm rfl (AZ rfl (qe rfl ?_)))
        exact sn [(2010, 2016), (2011, 2017), (2012, 2018)] h
      ·refine AT ?_
       exact sn [(2013, 2010), (2014, 2011), (2015, 2012)] h
     ·exact WI _ h (hs.trans (sm [(2001, 2013), (2002, 2014), (2003, 2015)] _ _ rfl rfl))
  ·refine wq rfl (B6 rfl (qe rfl ?_))
   refine Bc h (fun h => ?_) fun h => ?_
   ·refine wp rfl (qf BL rfl (ql A7 rfl (qm rfl ?_)))
    refine BK h fun v26 a26 b26 h => qi AC DH a26 (Ai b26) rfl (qk Cn rfl (AV rfl (Ac ?_)))
    refine Bc h (fun h => ?_) fun h => ?_
    ·refine wq rfl (Bd E0 Jo rfl (qs A1 rfl (qe rfl ?_)))
     obtain rfl := sj h
     refine Ah ((Av 6 0 2022 1 _ rfl rfl rfl rfl).trans ((Av 6 1 2023 1 _ rfl rfl rfl rfl).trans ((Av 6 2 2024 1 _ rfl rfl rfl rfl).trans (sm [(1000, 2022), (1001, 2023), (1002, 2024)] [(6, oD (.ptr 6 0)), (7, bD false)] [(6, .box [.own 1000, .own 1001, .own 1002]), (1000, .vec 1 ((([] : List Int)).map Aq)), (1001, .vec 1 ((([] : List Int)).map Aq)), (1002, .vec 1 ((([] : List Int)).map Eh))] rfl rfl)))) (Ar ?_)
     exact ⟨⟨[_, _], ⟨.cellN _ _ _ _ _ _ _ rfl rfl B4 A1 rfl rfl (Jw rfl), tm⟩, rfl⟩, ⟨rfl, rfl, rfl, tv⟩⟩
    ·refine Am (Aj Ay rfl (qf De rfl (ql A7 rfl (qm rfl (qf BL rfl (ql A7 rfl (qm rfl (qf BL rfl (ql A7 rfl (qm rfl ?_))))))))))
     refine BK h fun v28 a28 b28 h => qi AC DH a28 (Ai b28) rfl (qk Cn rfl ?_)
     refine BK h fun v29 a29 b29 h => qI AC DH a29 (Ai b29) rfl ?_
     refine D4 rfl rfl rfl rfl (Ai b29) rfl DH rfl (Hn rfl) (C8 Aq ((([] : List Int)) ++ p1.fH) _ v28) ?_
     refine BK h fun v30 a30 b30 h => qI AC DH a30 (Ai b30) rfl ?_
     refine D4 rfl rfl rfl rfl (Ai b30) rfl DH rfl (Hn rfl) (C8 Aq ((([] : List Int)) ++ p1.fE) _ ((-1))) ?_
     refine AP (by kernel_rfl) ?_
     exact sn [(2001, 18), (2002, 22), (2003, 26)] h
   ·refine wq rfl (B6 rfl (qe rfl ?_))
    refine Bc h (fun h => ?_) fun h => ?_
    ·refine wq rfl (qf Bw rfl (ql F0 rfl (qm rfl ?_)))
     refine BK h fun v32 a32 b32 h => qi CK C1 a32 (Ai b32) rfl (qK G6 C1 rfl (qz Jf rfl (qs C1 rfl (Ac (wp rfl (qL G6 C1 rfl ?_))))))
     refine B7 h fun v33 a33 h => AA [] (CE N v32 v33 a33) Sy rfl (CP rfl (Ac ?_))
     refine Bc h (fun h => ?_) fun h => ?_
     ·refine wq rfl (Bd E0 Jo rfl (qs A1 rfl (qe rfl ?_)))
      obtain rfl := sj h
      refine Ah ((Av 6 0 2025 1 _ rfl rfl rfl rfl).trans ((Av 6 1 2026 1 _ rfl rfl rfl rfl).trans ((Av 6 2 2027 1 _ rfl rfl rfl rfl).trans (sm [(1000, 2025), (1001, 2026), (1002, 2027)] [(6, oD (.ptr 6 0)), (7, bD false)] [(6, .box [.own 1000, .own 1001, .own 1002]), (1000, .vec 1 ((([] : List Int)).map Aq)), (1001, .vec 1 ((([] : List Int)).map Aq)), (1002, .vec 1 ((([] : List Int)).map Eh))] rfl rfl)))) (Ar ?_)
      exact ⟨⟨[_, _], ⟨.cellN _ _ _ _ _ _ _ rfl rfl B4 A1 rfl rfl (Jw rfl), tm⟩, rfl⟩, ⟨rfl, rfl, rfl, tv⟩⟩
     ·refine Am (wq rfl (qL B4 A1 rfl (qf DN rfl (ql Cn rfl ?_))))
      refine B7 h fun v35 a35 h => AA [] (EU N p1 v32.fK v35 a35) Ut rfl (qa rfl (Ac (wp rfl (qf Df rfl (ql H7 rfl (qm rfl ?_))))))
      refine BK h fun v36 a36 b36 h => qi Ej G1 a36 (Ai b36) rfl (qk LL rfl (qm rfl (B6 rfl (Ac ?_))))
      refine Bc h (fun h => ?_) fun h => ?_
      ·refine wq rfl (Bd E0 Jo rfl (qs A1 rfl (qe rfl ?_)))
       obtain rfl := sj h
       refine Ah ((Av 6 0 2028 1 _ rfl rfl rfl rfl).trans ((Av 6 1 2029 1 _ rfl rfl rfl rfl).trans ((Av 6 2 2030 1 _ rfl rfl rfl rfl).trans (sm [(1000, 2028), (1001, 2029), (1002, 2030)] [(6, oD (.ptr 6 0)), (7, bD false)] [(6, .box [.own 1000, .own 1001, .own 1002]), (1000, .vec 1 ((([] : List Int)).map Aq)), (1001, .vec 1 ((([] : List Int)).map Aq)), (1002, .vec 1 ((([] : List Int)).map Eh))] rfl rfl)))) (Ar ?_)
       exact ⟨⟨[_, _], ⟨.cellN _ _ _ _ _ _ _ rfl rfl B4 A1 rfl rfl (Jw rfl), tm⟩, rfl⟩, ⟨rfl, rfl, rfl, tv⟩⟩
      ·refine Am (wp rfl (qe rfl ?_))
       refine AH (L := BO N p0 p1 p2 v32 v35) h (fun v38 => mk [(3, oD (.ptr 3 0)), (4, oD (.ptr 4 0)), (6, oD (.ptr 6 0)), (8, oD (.ptr 8 0)), (9, iD p2.fN), (11, oD (.ptr 11 0)), (12, pD (.val (.int .u8 v35))), (13, iD v38)] [(3, .box (Ag p0)), (4, .box (AK p1)), (6, .box [.pure (.nil0), .pure (.nil0), .pure (.nil0)]), (8, .box [.own 2031, .own 2032, .own 2033]), (11, .box (Bg v32)), (2031, .vec 1 (((([] : List Int)) ++ p1.fH).map Aq)), (2032, .vec 1 (((([] : List Int)) ++ p1.fE).map Aq)), (2033, .vec 1 (((([] : List Int)) ++ p1.fI).map Eh))]) (fun v39 => mk [(6, oD (.ptr 6 0)), (8, oD (.ptr 8 0)), (9, iD p2.fN), (12, pD (.val (.int .u8 v35)))] [(6, .box [.pure (.nil0), .pure (.nil0), .pure (.nil0)]), (8, .box [.own 2034, .own 2035, .own 2036]), (2034, .vec 1 (((([] : List Int)) ++ p1.fH).map Aq)), (2035, .vec 1 (((([] : List Int)) ++ p1.fE).map Aq)), (2036, .vec 1 (((([] : List Int)) ++ p1.fI).map Eh))]) (fun _ _ => rfl) (sm [(2031, 18), (2032, 22), (2033, 26)] _ _ rfl rfl) (fun j38 n38 v38 h => ?_) (fun v39 s h hs => ?_)
       ·unfold BO at h
        refine wp rfl (qm rfl (qf Bs rfl (ql A7 rfl (qf DN rfl (ql Cn rfl ?_)))))
        refine BK h fun v40 a40 b40 h => qi AC DH a40 (Ai b40) rfl (qk Cn rfl (AV rfl (Ac ?_)))
        refine Bc h (fun h => ?_) fun h => ?_
        ·refine Am (AQ (AM ?_))
         refine AS h (fun v42 => mk [(3, oD (.ptr 3 0)), (4, oD (.ptr 4 0)), (6, oD (.ptr 6 0)), (8, oD (.ptr 8 0)), (9, iD p2.fN), (11, oD (.ptr 11 0)), (12, pD (.val (.int .u8 v35))), (13, iD v38), (14, bD v42)] [(3, .box (Ag p0)), (4, .box (AK p1)), (6, .box [.pure (.nil0), .pure (.nil0), .pure (.nil0)]), (8, .box [.own 2037, .own 2038, .own 2039]), (11, .box (Bg v32)), (2037, .vec 1 (((([] : List Int)) ++ p1.fH).map Aq)), (2038, .vec 1 (((([] : List Int)) ++ p1.fE).map Aq)), (2039, .vec 1 (((([] : List Int)) ++ p1.fI).map Eh))]) (fun j42 h => ?_) (fun v42 h => ?_)
         ·refine Aj Ay rfl (qf Df rfl (ql H7 rfl (qm rfl ?_)))
          refine BK h fun v43 a43 b43 h => qi Ej G1 a43 (Ai b43) rfl (qk LL rfl (qm rfl ?_))
          refine B7 h fun v44 a44 h => AA [] (GY N v43 v38 v44 a44) V5 rfl (qm rfl ?_)
          refine EO 166 h rfl (fun h => ?_) fun h => ?_
          ·refine qw 2 rfl ?_
           refine B7 h fun v46 a46 h => AA [] (GY N v35 v38 v46 a46) V5 rfl (CP rfl (qp rfl (qe rfl ?_)))
           exact sn [(2037, 2031), (2038, 2032), (2039, 2033)] h
          ·refine qw 4 rfl (qp rfl (qe rfl ?_))
           exact sn [(2037, 2031), (2038, 2032), (2039, 2033)] h
         ·refine AS h (fun v47 => mk [(3, oD (.ptr 3 0)), (4, oD (.ptr 4 0)), (6, oD (.ptr 6 0)), (8, oD (.ptr 8 0)), (9, iD p2.fN), (11, oD (.ptr 11 0)), (12, pD (.val (.int .u8 v35))), (13, iD v38), (193, bD v47)] [(3, .box (Ag p0)), (4, .box (AK p1)), (6, .box [.pure (.nil0), .pure (.nil0), .pure (.nil0)]), (8, .box [.own 2040, .own 2041, .own 2042]), (11, .box (Bg v32)), (2040, .vec 1 (((([] : List Int)) ++ p1.fH).map Aq)), (2041, .vec 1 (((([] : List Int)) ++ p1.fE).map Aq)), (2042, .vec 1 (((([] : List Int)) ++ p1.fI).map Eh))]) (fun j47 h => ?_) (fun v47 h => ?_)
          ·refine Aj Ay rfl (qw 2 rfl ?_)
           refine EO 173 h rfl (fun h => ?_) fun h => ?_
           ·refine qf GX rfl (ql Cn rfl (B6 rfl (qp rfl (qm rfl ?_))))
            refine EO 178 h rfl (fun h => ?_) fun h => ?_
            ·refine qf EQ rfl (ql GZ rfl (qm rfl ?_))
             refine BK h fun v50 a50 b50 h => qi Dx H5 a50 (Ai b50) rfl (qk Lq rfl (qf De rfl (ql A7 rfl (qf DN rfl (ql Cn rfl ?_)))))
             refine BK h fun v51 a51 b51 h => qi AC DH a51 (Ai b51) rfl (qk Cn rfl ?_)
             refine BK h fun v52 a52 b52 h => qi Ew Ms a52 (Ai b52) rfl (qk TG rfl (CP rfl (qp rfl (AP (by kernel_rfl) ?_))))
             exact sn [(2040, 2037), (2041, 2038), (2042, 2039)] h
            ·refine qw 14 rfl (qp rfl (AP (by kernel_rfl) ?_))
             exact sn [(2040, 2037), (2041, 2038), (2042, 2039)] h
           ·refine qw 3 rfl (qp rfl (qw 15 rfl (qp rfl (AP (by kernel_rfl) ?_))))
            exact sn [(2040, 2037), (2041, 2038), (2042, 2039)] h
          ·refine Bc h (fun h => ?_) fun h => ?_
           ·refine wq rfl (Bd E0 Jo rfl (qs A1 rfl (qe rfl ?_)))
            obtain rfl := sj h
            refine Ah ((Av 6 0 2043 1 _ rfl rfl rfl rfl).trans ((Av 6 1 2044 1 _ rfl rfl rfl rfl).trans ((Av 6 2 2045 1 _ rfl rfl rfl rfl).trans (sm [(1000, 2043), (1001, 2044), (1002, 2045)] [(6, oD (.ptr 6 0)), (7, bD false)] [(6, .box [.own 1000, .own 1001, .own 1002]), (1000, .vec 1 ((([] : List Int)).map Aq)), (1001, .vec 1 ((([] : List Int)).map Aq)), (1002, .vec 1 ((([] : List Int)).map Eh))] rfl rfl)))) (Ar ?_)
            exact ⟨⟨[_, _], ⟨.cellN _ _ _ _ _ _ _ rfl rfl B4 A1 rfl rfl (Jw rfl), tm⟩, rfl⟩, ⟨rfl, rfl, rfl, tv⟩⟩
           ·refine Am (Aj Ay rfl (qm rfl (AZ rfl (qe rfl ?_))))
            exact sn [(2031, 2040), (2032, 2041), (2033, 2042)] h
        ·refine AT ?_
         exact sn [(2034, 2031), (2035, 2032), (2036, 2033)] h
       ·refine Ah hs (Aj Ay rfl (qf Df rfl (ql H7 rfl (qw 2 rfl ?_))))
        refine BK h fun v54 a54 b54 h => qI Ej G1 a54 (Ai b54) rfl ?_
        refine D4 rfl rfl rfl rfl (Ai b54) rfl G1 rfl (Hn rfl) (C8 Eh ((([] : List Int)) ++ p1.fI) _ v35) ?_
        refine Ac ?_
        exact sn [(2001, 2034), (2002, 2035), (2003, 2036)] h
    ·refine wp rfl (qf BL rfl (ql A7 rfl (qm rfl ?_)))
     refine BK h fun v55 a55 b55 h => qi AC DH a55 (Ai b55) rfl (qk Cn rfl (AV rfl (Ac ?_)))
     refine Bc h (fun h => ?_) fun h => ?_
     ·refine wq rfl (Bd E0 Jo rfl (qs A1 rfl (qe rfl ?_)))
      obtain rfl := sj h
      refine Ah ((Av 6 0 2046 1 _ rfl rfl rfl rfl).trans ((Av 6 1 2047 1 _ rfl rfl rfl rfl).trans ((Av 6 2 2048 1 _ rfl rfl rfl rfl).trans (sm [(1000, 2046), (1001, 2047), (1002, 2048)] [(6, oD (.ptr 6 0)), (7, bD false)] [(6, .box [.own 1000, .own 1001, .own 1002]), (1000, .vec 1 ((([] : List Int)).map Aq)), (1001, .vec 1 ((([] : List Int)).map Aq)), (1002, .vec 1 ((([] : List Int)).map Eh))] rfl rfl)))) (Ar ?_)
      exact ⟨⟨[_, _], ⟨.cellN _ _ _ _ _ _ _ rfl rfl B4 A1 rfl rfl (Jw rfl), tm⟩, rfl⟩, ⟨rfl, rfl, rfl, tv⟩⟩
     ·refine Am (Aj Ay rfl (qf BL rfl (ql A7 rfl (qm rfl ?_))))
      refine BK h fun v57 a57 b57 h => qI AC DH a57 (Ai b57) rfl ?_
      refine D4 rfl rfl rfl rfl (Ai b57) rfl DH rfl (Hn rfl) (C8 Aq ((([] : List Int)) ++ p1.fE) _ ((-1))) ?_
      refine Ac ?_
      exact sn [(2001, 18), (2002, 22), (2003, 26)] h
 ·refine wq rfl (qL B4 A1 rfl (qs A1 rfl (qe rfl ?_)))
  obtain rfl := sj h
  refine Ah (sm [(1000, 2001), (1001, 2002), (1002, 2003)] [(6, oD (.ptr 6 0)), (7, bD true)] [(6, .box [.own 1000, .own 1001, .own 1002]), (1000, .vec 1 (v4.1.map Aq)), (1001, .vec 1 (v4.2.1.map Aq)), (1002, .vec 1 (v4.2.2.map Eh))] rfl rfl) (Ar ?_)
  exact ⟨⟨[_, _], ⟨.cellN _ _ _ _ _ _ _ rfl rfl B4 A1 rfl rfl (Jw rfl), tm⟩, rfl⟩, ⟨rfl, rfl, rfl, tv⟩⟩
theorem Mf (N : Nat) (p0 : Ab) (p1 : Ae) (p2 : Af) (r : Ae × Int) (h : Fh N p0 p1 p2 = some r) : Au Tryz.prog 79 [.e (.agg (Ag p0)), .e (.agg (AK p1)), .e (.agg (DA p2))] [(1, r.1.fH.map Aq), (1, r.1.fE.map Aq), (1, r.1.fI.map Eh)] (.tup [.agg [.own 0, .own 1, .own 2], .one (iC r.2)]) := by
 unfold Fh at h
 refine cw (n := 73) (rs := [.cell 6 64, .tmp 7]) Tryz.func79 fun w0 S0 => ?_
 refine wq rfl (qb rfl (qb rfl (qb rfl (qz E0 rfl (qa rfl (Ac (wp rfl (qL Cu BF rfl (qL B4 A1 rfl ?_)))))))))
 refine B7 h fun v1 a1 h => AA [] (Hs N p0 p1 v1 a1) X3 rfl (qa rfl (Ac (wq rfl (qm rfl (BS rfl (Ac ?_))))))
 refine Bc h (fun h => ?_) fun h => ?_
 ·refine wq rfl (Bd E0 Jo rfl (qm rfl (qs A1 rfl (qe rfl ?_))))
  obtain rfl := sj h
  refine Ah ((Av 6 0 2001 1 _ rfl rfl rfl rfl).trans ((Av 6 1 2002 1 _ rfl rfl rfl rfl).trans ((Av 6 2 2003 1 _ rfl rfl rfl rfl).trans (sm [(1000, 2001), (1001, 2002), (1002, 2003)] [(6, oD (.ptr 6 0)), (7, iD v1)] [(6, .box [.own 1000, .own 1001, .own 1002]), (1000, .vec 1 ((([] : List Int)).map Aq)), (1001, .vec 1 ((([] : List Int)).map Aq)), (1002, .vec 1 ((([] : List Int)).map Eh))] rfl rfl)))) (Ar ?_)
  exact ⟨⟨[_, _], ⟨.cellN _ _ _ _ _ _ _ rfl rfl B4 A1 rfl rfl (Jw rfl), tm⟩, rfl⟩, ⟨rfl, rfl, rfl, tv⟩⟩
 ·refine Am (wp rfl (qL G4 C4 rfl ?_))
  refine B7 h fun v3 a3 h => AA [] (Mk N p2 v3 a3) db rfl (CP rfl (Ac ?_))
  refine Bc h (fun h => ?_) fun h => ?_
  ·refine wq rfl (Bd E0 Jo rfl (qs A1 rfl (qe rfl ?_)))
   obtain rfl := sj h
   refine Ah ((Av 6 0 2004 1 _ rfl rfl rfl rfl).trans ((Av 6 1 2005 1 _ rfl rfl rfl rfl).trans ((Av 6 2 2006 1 _ rfl rfl rfl rfl).trans (sm [(1000, 2004), (1001, 2005), (1002, 2006)] [(6, oD (.ptr 6 0)), (7, iD 1)] [(6, .box [.own 1000, .own 1001, .own 1002]), (1000, .vec 1 ((([] : List Int)).map Aq)), (1001, .vec 1 ((([] : List Int)).map Aq)), (1002, .vec 1 ((([] : List Int)).map Eh))] rfl rfl)))) (Ar ?_)
   exact ⟨⟨[_, _], ⟨.cellN _ _ _ _ _ _ _ rfl rfl B4 A1 rfl rfl (Jw rfl), tm⟩, rfl⟩, ⟨rfl, rfl, rfl, tv⟩⟩
  ·refine Am (AQ ?_)
   refine AS h (fun v5 => mk [(3, oD (.ptr 3 0)), (4, oD (.ptr 4 0)), (5, oD (.ptr 5 0)), (6, oD (.ptr 6 0)), (45, bD v5)] [(3, .box (Ag p0)), (4, .box (AK p1)), (5, .box (DA p2)), (6, .box [.pure (.nil0), .pure (.nil0), .pure (.nil0)])]) (fun j5 h => ?_) (fun v5 h => ?_)
   ·refine Aj Ay rfl (qf FP rfl (ql Cn rfl (B6 rfl (qm rfl ?_))))
    refine EO 25 h rfl (fun h => ?_) fun h => ?_
    ·refine qf EX rfl (ql Cn rfl (qf Bw rfl (ql F0 rfl (AO CK rfl (FM rfl (qp rfl (qm rfl ?_)))))))
     refine EO 33 h rfl (fun h => ?_) fun h => ?_
     ·refine qw 4 rfl (qu rfl (qu rfl (qu rfl (qu rfl (qu rfl (qu rfl (qn rfl (qp rfl (Ac ?_)))))))))
      exact sn [] h
     ·refine qf FP rfl (ql Cn rfl (BS rfl (qm rfl ?_)))
      refine EO 37 h rfl (fun h => ?_) fun h => ?_
      ·refine qf EX rfl (ql Cn rfl (qf Bs rfl (ql A7 rfl (AO AC rfl (FM rfl (qp rfl (qp rfl (Ac ?_))))))))
       exact sn [] h
      ·refine qw 6 rfl (qp rfl (qp rfl (Ac ?_)))
       exact sn [] h
    ·refine qw 6 rfl (qp rfl (qm rfl (qf FP rfl (ql Cn rfl (BS rfl (qm rfl ?_))))))
     refine EO 37 h rfl (fun h => ?_) fun h => ?_
     ·refine qf EX rfl (ql Cn rfl (qf Bs rfl (ql A7 rfl (AO AC rfl (FM rfl (qp rfl (qp rfl (Ac ?_))))))))
      exact sn [] h
     ·refine qw 6 rfl (qp rfl (qp rfl (Ac ?_)))
      exact sn [] h
   ·refine Bc h (fun h => ?_) fun h => ?_
    ·refine wq rfl (Bd E0 Jo rfl (qs A1 rfl (qe rfl ?_)))
     obtain rfl := sj h
     refine Ah ((Av 6 0 2007 1 _ rfl rfl rfl rfl).trans ((Av 6 1 2008 1 _ rfl rfl rfl rfl).trans ((Av 6 2 2009 1 _ rfl rfl rfl rfl).trans (sm [(1000, 2007), (1001, 2008), (1002, 2009)] [(6, oD (.ptr 6 0)), (7, iD 4)] [(6, .box [.own 1000, .own 1001, .own 1002]), (1000, .vec 1 ((([] : List Int)).map Aq)), (1001, .vec 1 ((([] : List Int)).map Aq)), (1002, .vec 1 ((([] : List Int)).map Eh))] rfl rfl)))) (Ar ?_)
     exact ⟨⟨[_, _], ⟨.cellN _ _ _ _ _ _ _ rfl rfl B4 A1 rfl rfl (Jw rfl), tm⟩, rfl⟩, ⟨rfl, rfl, rfl, tv⟩⟩
    ·refine Am (AQ ?_)
     refine AS h (fun v11 => mk [(3, oD (.ptr 3 0)), (4, oD (.ptr 4 0)), (5, oD (.ptr 5 0)), (6, oD (.ptr 6 0)), (60, bD v11)] [(3, .box (Ag p0)), (4, .box (AK p1)), (5, .box (DA p2)), (6, .box [.pure (.nil0), .pure (.nil0), .pure (.nil0)])]) (fun j11 h => ?_) (fun v11 h => ?_)
     ·refine Aj Ay rfl (qf FP rfl (ql Cn rfl (B6 rfl (qm rfl ?_))))
      refine EO 50 h rfl (fun h => ?_) fun h => ?_
      ·refine qf GO rfl (ql Cn rfl (qf Bs rfl (ql A7 rfl (qf EX rfl (ql Cn rfl ?_)))))
       refine BK h fun v13 a13 b13 h => qi AC DH a13 (Ai b13) rfl (qk Cn rfl (FM rfl (qp rfl (AP (by kernel_rfl) ?_))))
       exact sn [] h
      ·refine qw 9 rfl (qp rfl (AP (by kernel_rfl) ?_))
       exact sn [] h
     ·refine Bc h (fun h => ?_) fun h => ?_
      ·refine wq rfl (Bd E0 Jo rfl (qs A1 rfl (qe rfl ?_)))
       obtain rfl := sj h
       refine Ah ((Av 6 0 2010 1 _ rfl rfl rfl rfl).trans ((Av 6 1 2011 1 _ rfl rfl rfl rfl).trans ((Av 6 2 2012 1 _ rfl rfl rfl rfl).trans (sm [(1000, 2010), (1001, 2011), (1002, 2012)] [(6, oD (.ptr 6 0)), (7, iD 4)] [(6, .box [.own 1000, .own 1001, .own 1002]), (1000, .vec 1 ((([] : List Int)).map Aq)), (1001, .vec 1 ((([] : List Int)).map Aq)), (1002, .vec 1 ((([] : List Int)).map Eh))] rfl rfl)))) (Ar ?_)
       exact ⟨⟨[_, _], ⟨.cellN _ _ _ _ _ _ _ rfl rfl B4 A1 rfl rfl (Jw rfl), tm⟩, rfl⟩, ⟨rfl, rfl, rfl, tv⟩⟩
      ·refine Am (wq rfl (qL Cu BF rfl (qL B4 A1 rfl (qL G4 C4 rfl ?_))))
       refine B7 h fun v15 a15 h => AA [2013, 2014, 2015] (I8 N p0 p1 p2 v15 a15) ae rfl (qm rfl (qx rfl (qx rfl (qz E0 rfl (qs A1 rfl (qa rfl (Ac (wp rfl (qm rfl (CP rfl (Ac ?_)))))))))))
       refine Bc h (fun h => ?_) fun h => ?_
       ·refine wq rfl (Bd E0 Jo rfl (qs A1 rfl (qe rfl ?_)))
        obtain rfl := sj h
        refine Ah ((Av 6 0 2016 1 _ rfl rfl rfl rfl).trans ((Av 6 1 2017 1 _ rfl rfl rfl rfl).trans ((Av 6 2 2018 1 _ rfl rfl rfl rfl).trans (sm [(1000, 2016), (1001, 2017), (1002, 2018)] [(6, oD (.ptr 6 0)), (7, iD 11)] [(6, .box [.own 1000, .own 1001, .own 1002]), (1000, .vec 1 ((([] : List Int)).map Aq)), (1001, .vec 1 ((([] : List Int)).map Aq)), (1002, .vec 1 ((([] : List Int)).map Eh))] rfl rfl)))) (Ar ?_)
        exact ⟨⟨[_, _], ⟨.cellN _ _ _ _ _ _ _ rfl rfl B4 A1 rfl rfl (Jw rfl), tm⟩, rfl⟩, ⟨rfl, rfl, rfl, tv⟩⟩
       ·refine Am (wq rfl (qL B4 A1 rfl (qs A1 rfl (qe rfl ?_))))
        obtain rfl := sj h
        refine Ah (sm [(1000, 2013), (1001, 2014), (1002, 2015)] [(6, oD (.ptr 6 0)), (7, iD 0)] [(6, .box [.own 1000, .own 1001, .own 1002]), (1000, .vec 1 (v15.1.fH.map Aq)), (1001, .vec 1 (v15.1.fE.map Aq)), (1002, .vec 1 (v15.1.fI.map Eh))] rfl rfl) (Ar ?_)
        exact ⟨⟨[_, _], ⟨.cellN _ _ _ _ _ _ _ rfl rfl B4 A1 rfl rfl (Jw rfl), tm⟩, rfl⟩, ⟨rfl, rfl, rfl, tv⟩⟩
theorem Me (N : Nat) (p0 : Ab) (p1 : Ae) (r : (List Af)) (h : Fj N p0 p1 = some r) : Au Tryz.prog 119 [.e (.agg (Ag p0)), .e (.agg (AK p1))] [(3, r.map AD)] (oD (.own 0)) := by
 unfold Fj at h
 refine cw (n := 49) (rs := [.tmp 4]) Tryz.func119 fun w0 S0 => ?_
 refine wq rfl (qb rfl (qb rfl (qa rfl (Ac (wq rfl (qa rfl (Ac (wp rfl (qe rfl ?_)))))))))
 refine AH (L := BA N p0 p1) h (fun v1 => mk [(2, oD (.ptr 2 0)), (3, oD (.ptr 3 0)), (5, oD (.own 2001)), (6, iD v1.2)] [(2, .box (Ag p0)), (3, .box (AK p1)), (2001, .vec 3 (v1.1.map AD))]) (fun v2 => mk [(5, oD (.own 2002))] [(2002, .vec 3 (v2.map AD))]) (fun _ _ => rfl) ((AY 5 2011 3 rfl rfl rfl).trans (sm [(2001, 2011)] _ _ rfl rfl)) (fun j1 n1 v1 h => ?_) (fun v2 s h hs => ?_)
 ·unfold BA at h
  refine wp rfl (qm rfl (Ub rfl (Ac ?_)))
  refine Bc h (fun h => ?_) fun h => ?_
  ·refine Am (AQ (AM (wq rfl (qe rfl ?_))))
   refine AH (L := Cs N p0 p1 v1) h (fun v4 => mk [(2, oD (.ptr 2 0)), (3, oD (.ptr 3 0)), (5, oD (.own 2003)), (6, iD v1.2), (7, iD v4.2)] [(2, .box (Ag p0)), (3, .box (AK p1)), (2003, .vec 3 (v4.1.map AD))]) (fun v5 => mk [(2, oD (.ptr 2 0)), (3, oD (.ptr 3 0)), (5, oD (.own 2004)), (6, iD v1.2)] [(2, .box (Ag p0)), (3, .box (AK p1)), (2004, .vec 3 (v5.map AD))]) (fun _ _ => rfl) (sm [(2003, 2001)] _ _ rfl rfl) (fun j4 n4 v4 h => ?_) (fun v5 s h hs => ?_)
   ·unfold Cs at h
    refine wp rfl (qm rfl (qf Bs rfl (ql A7 rfl (AO AC rfl (qf Bw rfl (ql F0 rfl (AO CK rfl ?_)))))))
    refine dY (.p rfl) rfl rfl ?_
    refine AV rfl (Ac ?_)
    refine Bc h (fun h => ?_) fun h => ?_
    ·refine Am (AQ (AM (wq rfl (qe rfl ?_))))
     refine AH (L := Cq N p0 p1 v1 v4) h (fun v7 => mk [(2, oD (.ptr 2 0)), (3, oD (.ptr 3 0)), (5, oD (.own 2005)), (6, iD v1.2), (7, iD v4.2), (8, iD v7.2)] [(2, .box (Ag p0)), (3, .box (AK p1)), (2005, .vec 3 (v7.1.map AD))]) (fun v8 => mk [(2, oD (.ptr 2 0)), (3, oD (.ptr 3 0)), (5, oD (.own 2006)), (6, iD v1.2), (7, iD v4.2)] [(2, .box (Ag p0)), (3, .box (AK p1)), (2006, .vec 3 (v8.map AD))]) (fun _ _ => rfl) (sm [(2005, 2003)] _ _ rfl rfl) (fun j7 n7 v7 h => ?_) (fun v8 s h hs => ?_)
     ·unfold Cq at h
      refine wp rfl (qm rfl (AV rfl (Ac ?_)))
      refine Bc h (fun h => ?_) fun h => ?_
      ·refine Am ?_
       refine AS h (fun v10 => mk [(2, oD (.ptr 2 0)), (3, oD (.ptr 3 0)), (5, oD (.own 2007)), (6, iD v1.2), (7, iD v4.2), (8, iD v7.2)] [(2, .box (Ag p0)), (3, .box (AK p1)), (2007, .vec 3 (v10.map AD))]) (fun j10 h => ?_) (fun v10 h => ?_)
       ·refine AM (wq rfl (qw 3 rfl (Bd H0 Ww rfl (qz H0 rfl (qs C4 rfl (Ac (wq rfl (qL Cu BF rfl (qL B4 A1 rfl (qL G4 C4 rfl ?_))))))))))
        refine B7 h fun v11 a11 h => AA [2008, 2009, 2010] (Mf N p0 p1 ((Af.mk v1.2 v4.2 v7.2)) v11 a11) fx rfl (qm rfl (qx rfl (qx rfl (qz E0 rfl (qs A1 rfl (qa rfl (Ac (wq rfl (qm rfl (B6 rfl (Ac ?_)))))))))))
        refine Bc h (fun h => ?_) fun h => ?_
        ·refine Aj Ay rfl (qm rfl (qL G4 C4 rfl (Eg E6 C4 H0 rfl ?_)))
         refine FO h fun c13 h => DI (f := AD) E6 E6 C4 Ol H0 c13 rfl (qe rfl ?_)
         exact sn [(2007, 47)] h
        ·refine Am ?_
         exact sn [(2007, 2005)] h
       ·refine Aj Ay rfl (qm rfl (AZ rfl (qe rfl ?_)))
        exact sn [(2005, 2007)] h
      ·refine AT ?_
       exact sn [(2006, 2005)] h
     ·refine Ah hs (Aj Ay rfl (qm rfl (AZ rfl (qe rfl ?_))))
      exact sn [(2003, 2006)] h
    ·refine AT ?_
     exact sn [(2004, 2003)] h
   ·refine Ah hs (Aj Ay rfl (qm rfl (AZ rfl (qe rfl ?_))))
    exact sn [(2001, 2004)] h
  ·refine AT ?_
   exact sn [(2002, 2001)] h
 ·refine Ah hs (wq rfl (qm rfl (qe rfl ?_)))
  obtain rfl := sj h
  refine Ah (sm [(1000, 2002)] [(4, oD (.own 1000))] [(1000, .vec 3 (v2.map AD))] rfl rfl) (Ar ?_)
  exact ⟨⟨[_], tm, rfl⟩, ⟨rfl, tv⟩⟩
theorem HV (N : Nat) (p0 : List Int) (p1 : List Int) (r : Int) (h : DS N p0 p1 = some r) : Au Tryz.prog 159 [pD (.sl (p0.map Aq)), pD (.sl (p1.map Aq))] [] (iD r) := by
 unfold DS at h
 refine cw (n := 46) (rs := [.tmp 4]) Tryz.func159 fun w0 S0 => ?_
 refine wq rfl (qa rfl (Ac (wp rfl (qe rfl ?_))))
 refine AH (L := DR N p0 p1) h (fun v1 => mk [(0, pD (.sl (p0.map Aq))), (1, pD (.sl (p1.map Aq))), (5, iD v1)] []) (fun v2 => mk [(0, pD (.sl (p0.map Aq))), (1, pD (.sl (p1.map Aq)))] []) (fun _ _ => rfl) (sm [] _ _ rfl rfl) (fun j1 n1 v1 h => ?_) (fun v2 s h hs => ?_)
 ·unfold DR at h
  refine AQ ?_
  refine AS h (fun v3 => mk [(0, pD (.sl (p0.map Aq))), (1, pD (.sl (p1.map Aq))), (5, iD v1), (15, bD v3)] []) (fun j3 h => ?_) (fun v3 h => ?_)
  ·refine Aj Ay rfl (qw 2 rfl (AO AC rfl (AV rfl (qm rfl ?_))))
   refine EO 10 h rfl (fun h => ?_) fun h => ?_
   ·refine qw 2 rfl (AO AC rfl (AV rfl (qp rfl (Ac ?_))))
    exact sn [] h
   ·refine qw 4 rfl (qp rfl (Ac ?_))
    exact sn [] h
  ·refine Bc h (fun h => ?_) fun h => ?_
   ·refine Am (AQ (AM (wp rfl (qw 2 rfl ?_))))
    refine BK h fun v6 a6 b6 h => qi AC DH a6 (Ai b6) rfl (qk Cn rfl (qw 2 rfl ?_))
    refine BK h fun v7 a7 b7 h => qi AC DH a7 (Ai b7) rfl (qk Cn rfl (AV rfl (AP (by kernel_rfl) ?_)))
    refine Bc h (fun h => ?_) fun h => ?_
    ·refine wq rfl (qe rfl ?_)
     obtain rfl := sj h
     refine Ah (sm [] [(4, iD ((-1)))] [] rfl rfl) (Ar ?_)
     exact ⟨⟨[_], tm, rfl⟩, tv⟩
    ·refine Am (wq rfl (qw 2 rfl ?_))
     refine BK h fun v9 a9 b9 h => qi AC DH a9 (Ai b9) rfl (qk Cn rfl (qw 2 rfl ?_))
     refine BK h fun v10 a10 b10 h => qi AC DH a10 (Ai b10) rfl (qk Cn rfl (Gf rfl (AP (by kernel_rfl) ?_)))
     refine Bc h (fun h => ?_) fun h => ?_
     ·refine wq rfl (qe rfl ?_)
      obtain rfl := sj h
      refine Ah (sm [] [(4, iD 1)] [] rfl rfl) (Ar ?_)
      exact ⟨⟨[_], tm, rfl⟩, tv⟩
     ·refine Am (Aj Ay rfl (qm rfl (AZ rfl (qe rfl ?_))))
      exact sn [] h
   ·refine AT ?_
    exact sn [] h
 ·refine Ah hs (wp rfl (qm rfl (AO AC rfl (qm rfl (AO AC rfl (AV rfl (Ac ?_)))))))
  refine Bc h (fun h => ?_) fun h => ?_
  ·refine wq rfl (qe rfl ?_)
   obtain rfl := sj h
   refine Ah (sm [] [(4, iD ((-1)))] [] rfl rfl) (Ar ?_)
   exact ⟨⟨[_], tm, rfl⟩, tv⟩
  ·refine Am (wp rfl (qm rfl (AO AC rfl (qm rfl (AO AC rfl (Gf rfl (Ac ?_)))))))
   refine Bc h (fun h => ?_) fun h => ?_
   ·refine wq rfl (qe rfl ?_)
    obtain rfl := sj h
    refine Ah (sm [] [(4, iD 1)] [] rfl rfl) (Ar ?_)
    exact ⟨⟨[_], tm, rfl⟩, tv⟩
   ·refine Am (wq rfl (qe rfl ?_))
    obtain rfl := sj h
    refine Ah (sm [] [(4, iD 0)] [] rfl rfl) (Ar ?_)
    exact ⟨⟨[_], tm, rfl⟩, tv⟩
theorem Iv (N : Nat) (p0 : List Int) (r : (List Int)) (h : DM N p0 = some r) : Au Tryz.prog 160 [pD (.sl (p0.map Eh))] [(1, r.map Aq)] (oD (.own 0)) := by
 unfold DM at h
 refine cw (n := 20) (rs := [.tmp 2]) Tryz.func160 fun w0 S0 => ?_
 refine wq rfl (qa rfl (Ac (wq rfl (qa rfl (Ac (wp rfl (qe rfl ?_)))))))
 refine AH (L := Db N p0) h (fun v1 => mk [(0, pD (.sl (p0.map Eh))), (3, oD (.own 2001)), (4, iD v1.2)] [(2001, .vec 1 (v1.1.map Aq))]) (fun v2 => mk [(3, oD (.own 2002))] [(2002, .vec 1 (v2.map Aq))]) (fun _ _ => rfl) ((AY 3 2003 1 rfl rfl rfl).trans (sm [(2001, 2003)] _ _ rfl rfl)) (fun j1 n1 v1 h => ?_) (fun v2 s h hs => ?_)
 ·unfold Db at h
  refine wp rfl (qw 2 rfl (AO Ej rfl (AV rfl (Ac ?_))))
  refine Bc h (fun h => ?_) fun h => ?_
  ·refine Am (AQ (AM (Aj Ay rfl (qw 3 rfl ?_))))
   refine BK h fun v4 a4 b4 h => qi Ej G1 a4 (Ai b4) rfl (qk LL rfl (KO eP ao rfl (Eg AC DH KV rfl ?_)))
   refine FO h fun c5 h => DI (f := Aq) AC AC DH LS KV c5 rfl (qa rfl (Ac (Aj Ay rfl (qm rfl (AZ rfl (qe rfl ?_))))))
   exact sn [(2001, 18)] h
  ·refine AT ?_
   exact sn [(2002, 2001)] h
 ·refine Ah hs (wq rfl (qm rfl (qe rfl ?_)))
  obtain rfl := sj h
  refine Ah (sm [(1000, 2002)] [(2, oD (.own 1000))] [(1000, .vec 1 (v2.map Aq))] rfl rfl) (Ar ?_)
  exact ⟨⟨[_], tm, rfl⟩, ⟨rfl, tv⟩⟩
theorem Ln (N : Nat) (p0 : Ae) (p1 : Ae) (r : Int) (h : ED N p0 p1 = some r) : Au Tryz.prog 155 [.e (.agg (AK p0)), .e (.agg (AK p1))] [] (iD r) := by
 unfold ED at h
 refine cw (n := 30) (rs := [.tmp 4]) Tryz.func155 fun w0 S0 => ?_
 refine wq rfl (qb rfl (qb rfl (qa rfl (Ac (wp rfl (qf De rfl (ql A7 rfl (qf De rfl (ql A7 rfl ?_)))))))))
 refine B7 h fun v1 a1 h => AA [] (HV N p0.fH p1.fH v1 a1) X4 rfl (qa rfl (Ac (wq rfl (qm rfl (BS rfl (Ac ?_))))))
 refine Bc h (fun h => ?_) fun h => ?_
 ·refine wq rfl (qm rfl (qe rfl ?_))
  obtain rfl := sj h
  refine Ah (sm [] [(4, iD v1)] [] rfl rfl) (Ar ?_)
  exact ⟨⟨[_], tm, rfl⟩, tv⟩
 ·refine Am (wp rfl (qf BL rfl (ql A7 rfl (qf BL rfl (ql A7 rfl ?_)))))
  refine B7 h fun v3 a3 h => AA [] (HV N p0.fE p1.fE v3 a3) X4 rfl (qa rfl (Ac (wq rfl (qm rfl (BS rfl (Ac ?_))))))
  refine Bc h (fun h => ?_) fun h => ?_
  ·refine wq rfl (qm rfl (qe rfl ?_))
   obtain rfl := sj h
   refine Ah (sm [] [(4, iD v3)] [] rfl rfl) (Ar ?_)
   exact ⟨⟨[_], tm, rfl⟩, tv⟩
  ·refine Am (wq rfl (qf Df rfl (ql H7 rfl ?_)))
   refine B7 h fun v5 a5 h => AA [2001] (Iv N p0.fI v5 a5) am rfl (qf Df rfl (ql H7 rfl ?_))
   refine B7 h fun v6 a6 h => AA [2002] (Iv N p1.fI v6 a6) am rfl ?_
   refine B7 h fun v7 a7 h => Dt [] [2001, 2002] (HV N v5 v6 v7 a7) X4 BP rfl (qa rfl (AP (by kernel_rfl) ?_))
   obtain rfl := sj h
   refine Ah (sm [] [(4, iD v7)] [] rfl rfl) (Ar ?_)
   exact ⟨⟨[_], tm, rfl⟩, tv⟩
theorem Mq (N : Nat) (p0 : Ae) (p1 : Ae) (r : Bool) (h : Fl N p0 p1 = some r) : Au Tryz.prog 145 [.e (.agg (AK p0)), .e (.agg (AK p1))] [] (bD r) := by
 unfold Fl at h
 refine cw (n := 9) (rs := [.tmp 4]) Tryz.func145 fun w0 S0 => ?_
 refine wq rfl (qb rfl (qb rfl (qa rfl (Ac (wq rfl (qL B4 A1 rfl (qL B4 A1 rfl ?_)))))))
 refine B7 h fun v1 a1 h => AA [] (Ln N p0 p1 v1 a1) cT rfl (B6 rfl (qe rfl ?_))
 obtain rfl := sj h
 refine Ah (sm [] [(4, bD ((v1 == 0)))] [] rfl rfl) (Ar ?_)
 exact ⟨⟨[_], tm, rfl⟩, tv⟩
theorem MP (N : Nat) (p0 : List AE) (p1 : Ae) (r : Int) (h : EG N p0 p1 = some r) : Au Tryz.prog 120 [pD (.sl (p0.map BI)), .e (.agg (AK p1))] [] (iD r) := by
 unfold EG at h
 refine cw (n := 20) (rs := [.tmp 4]) Tryz.func120 fun w0 S0 => ?_
 refine wq rfl (qb rfl (qa rfl (Ac (wp rfl (qe rfl ?_)))))
 refine AH (L := CI N p0 p1) h (fun v1 => mk [(0, pD (.sl (p0.map BI))), (3, oD (.ptr 3 0)), (5, iD v1)] [(3, .box (AK p1))]) (fun v2 => mk [] []) (fun _ _ => rfl) (sm [] _ _ rfl rfl) (fun j1 n1 v1 h => ?_) (fun v2 s h hs => ?_)
 ·unfold CI at h
  refine wp rfl (qw 2 rfl (AO HR rfl (AV rfl (Ac ?_))))
  refine Bc h (fun h => ?_) fun h => ?_
  ·refine Am (AQ (AM (wq rfl (qw 2 rfl ?_))))
   refine BK h fun v4 a4 b4 h => qi HR ME a4 (Ai b4) rfl (qg N1 rfl (qK B4 A1 rfl (qL B4 A1 rfl ?_)))
   refine B7 h fun v5 a5 h => AA [] (Mq N ((Ae.mk v4.fZ.fH v4.fZ.fE v4.fZ.fI)) p1 v5 a5) cJ rfl (AP (by kernel_rfl) ?_)
   refine Bc h (fun h => ?_) fun h => ?_
   ·refine wq rfl (qm rfl (qe rfl ?_))
    obtain rfl := sj h
    refine Ah (sm [] [(4, iD v1)] [] rfl rfl) (Ar ?_)
    exact ⟨⟨[_], tm, rfl⟩, tv⟩
   ·refine Am (Aj Ay rfl (qm rfl (AZ rfl (qe rfl ?_))))
    exact sn [] h
  ·refine AT ?_
   exact sn [] h
 ·refine Ah hs (wq rfl (qe rfl ?_))
  obtain rfl := sj h
  refine Ah (sm [] [(4, iD ((-1)))] [] rfl rfl) (Ar ?_)
  exact ⟨⟨[_], tm, rfl⟩, tv⟩
theorem Jb (N : Nat) (p0 : Ab) (p1 : Ae) (p2 : Int) (r : (List AE) × Bool) (h : C5 N p0 p1 p2 = some r) : Au Tryz.prog 85 [.e (.agg (Ag p0)), .e (.agg (AK p1)), iD p2] [(7, r.1.map BI)] (.tup [.one (.own 0), .one (.pure (.val (.bool r.2)))]) := by
 unfold C5 at h
 refine cw (n := 74) (rs := [.tmp 6, .tmp 7]) Tryz.func85 fun w0 S0 => ?_
 refine wq rfl (qb rfl (qb rfl (qa rfl (qa rfl (Ac (wq rfl (qL B4 A1 rfl (Bd TC ai rfl (Eg HR ME TC rfl (qa rfl (Ac (wp rfl (qe rfl ?_)))))))))))))
 refine AH (L := BT N p0 p2) h (fun v1 => mk [(2, iD p2), (3, oD (.ptr 3 0)), (8, oD (.own 2001)), (9, iD v1.2)] [(3, .box (Ag p0)), (2001, .vec 7 (v1.1.map BI))]) (fun v2 => mk [(8, oD (.own 2002))] [(2002, .vec 7 (v2.map BI))]) (fun _ _ => rfl) (sm [(2001, 16)] _ _ rfl rfl) (fun j1 n1 v1 h => ?_) (fun v2 s h hs => ?_)
 ·unfold BT at h
  refine wp rfl (qw 2 rfl (Dm HR rfl (AV rfl (Ac ?_))))
  refine Bc h (fun h => ?_) fun h => ?_
  ·refine Am (AQ (AM (wq rfl (qL Cu BF rfl (qw 2 rfl ?_)))))
   refine BK h fun v4 a4 b4 h => qI HR ME a4 (Ai b4) rfl (qh N1 rfl ?_)
   refine Qs (.p rfl) rfl B4 A1 rfl (Ai b4) rfl rfl (by decide) ?_
   refine B7 h fun v5 a5 h => AA [2003] (Me N p0 ((Ae.mk v4.fZ.fH v4.fZ.fE v4.fZ.fI)) v5 a5) d7 rfl (qa rfl (AP (by kernel_rfl) (wq rfl (qe rfl ?_))))
   refine AH (L := BU N p0 p2 v1 v5) h (fun v6 => mk [(2, iD p2), (3, oD (.ptr 3 0)), (8, oD (.own 2004)), (9, iD v1.2), (10, oD (.own 2005)), (11, iD v6.2)] [(3, .box (Ag p0)), (2004, .vec 7 (v6.1.map BI)), (2005, .vec 3 (v5.map AD))]) (fun v7 => mk [(2, iD p2), (3, oD (.ptr 3 0)), (8, oD (.own 2006)), (9, iD v1.2)] [(3, .box (Ag p0)), (2006, .vec 7 (v7.map BI))]) (fun _ _ => rfl) (sm [(2004, 2001), (2005, 2003)] _ _ rfl rfl) (fun j6 n6 v6 h => ?_) (fun v7 s h hs => ?_)
   ·unfold BU at h
    refine wp rfl (qw 2 rfl (Dm E6 rfl (AV rfl (Ac ?_))))
    refine Bc h (fun h => ?_) fun h => ?_
    ·refine Am (AQ (AM (wq rfl (qL Cu BF rfl (qw 2 rfl ?_)))))
     refine BK h fun v9 a9 b9 h => qI HR ME a9 (Ai b9) rfl (qh N1 rfl ?_)
     refine Qs (.p rfl) rfl B4 A1 rfl (Ai b9) rfl rfl (by decide) ?_
     refine qw 2 rfl ?_
     refine BK h fun v10 a10 b10 h => qI E6 C4 a10 (Ai b10) rfl (qJ G4 C4 (Ai b10) rfl ?_)
     refine B7 h fun v11 a11 h => AA [2007, 2008, 2009] (I8 N p0 ((Ae.mk v9.fZ.fH v9.fZ.fE v9.fZ.fI)) v10 v11 a11) ae rfl (qm rfl (qx rfl (qx rfl (qz E0 rfl (qs A1 rfl (qa rfl (AP (by kernel_rfl) ?_)))))))
     refine AS h (fun v12 => mk [(2, iD p2), (3, oD (.ptr 3 0)), (8, oD (.own 2010)), (9, iD v1.2), (10, oD (.own 2011)), (11, iD v6.2)] [(3, .box (Ag p0)), (2010, .vec 7 (v12.map BI)), (2011, .vec 3 (v5.map AD))]) (fun j12 h => ?_) (fun v12 h => ?_)
     ·refine AS h (fun v13 => mk [(2, iD p2), (3, oD (.ptr 3 0)), (8, oD (.own 2015)), (9, iD v1.2), (10, oD (.own 2016)), (11, iD v6.2), (12, oD (.ptr 12 0)), (58, bD v13)] [(3, .box (Ag p0)), (12, .box [.own 2012, .own 2013, .own 2014]), (2012, .vec 1 (v11.1.fH.map Aq)), (2013, .vec 1 (v11.1.fE.map Aq)), (2014, .vec 1 (v11.1.fI.map Eh)), (2015, .vec 7 (v6.1.map BI)), (2016, .vec 3 (v5.map AD))]) (fun j13 h => ?_) (fun v13 h => ?_)
      ·refine Aj Ay rfl (qL Cu BF rfl (qL B4 A1 rfl ?_))
       refine B7 h fun v14 a14 h => Dt [] [2007, 2008, 2009] (GA N p0 v11.1 v14 a14) bK BP rfl (qm rfl ?_)
       refine EO 53 h rfl (fun h => ?_) fun h => ?_
       ·refine qm rfl (qL B4 A1 rfl ?_)
        refine B7 h fun v16 a16 h => Dt [] [2004, 2007, 2008, 2009] (MP N v6.1 v11.1 v16 a16) dS BP rfl (AV rfl (qp rfl (Ac ?_)))
        exact sn [(2012, 2007), (2013, 2008), (2014, 2009), (2015, 2004), (2016, 2005)] h
       ·refine qw 4 rfl (qp rfl (Ac ?_))
        exact sn [(2012, 2007), (2013, 2008), (2014, 2009), (2015, 2004), (2016, 2005)] h
      ·refine Bc h (fun h => ?_) fun h => ?_
       ·refine Ah (BC 2012 _ _ rfl rfl) (Ah (BC 2013 _ _ rfl rfl) (Ah (BC 2014 _ _ rfl rfl) (Aj Ay rfl (qm rfl (qL B4 A1 rfl (qw 3 rfl ?_))))))
        refine BK h fun v18 a18 b18 h => qI E6 C4 a18 (Ai b18) rfl (qJ G4 C4 (Ai b18) rfl (Bd TC ai rfl (Eg HR ME TC rfl ?_)))
        refine FO h fun c19 h => DI (f := BI) HR HR ME bc TC c19 rfl (qa rfl (AP (by kernel_rfl) ?_))
        exact sn [(2010, 68), (2011, 2016)] h
       ·refine Am ?_
        exact sn [(2010, 2015), (2011, 2016)] h
     ·refine wq rfl (qm rfl (Dm HR rfl (qm rfl (Gf rfl (Ac ?_)))))
      refine Bc h (fun h => ?_) fun h => ?_
      ·refine wq rfl (qa rfl (qe rfl ?_))
       obtain rfl := sj h
       refine Ah ((AY 6 2017 7 rfl rfl rfl).trans (sm [(1000, 2017)] [(6, oD (.own 1000)), (7, bD false)] [(1000, .vec 7 ((([] : List AE)).map BI))] rfl rfl)) (Ar ?_)
       exact ⟨⟨[_, _], ⟨.tmp _ _ rfl, tm⟩, rfl⟩, ⟨rfl, tv⟩⟩
      ·refine Am (Aj Ay rfl (qm rfl (AZ rfl (qe rfl ?_))))
       exact sn [(2004, 2010), (2005, 2011)] h
    ·refine AT ?_
     exact sn [(2006, 2004)] h
   ·refine Ah hs (Aj Ay rfl (qm rfl (AZ rfl (qe rfl ?_))))
    exact sn [(2001, 2006)] h
  ·refine AT ?_
   exact sn [(2002, 2001)] h
 ·refine Ah hs (wq rfl (qm rfl (qa rfl (qe rfl ?_))))
  obtain rfl := sj h
  refine Ah (sm [(1000, 2002)] [(6, oD (.own 1000)), (7, bD true)] [(1000, .vec 7 (v2.map BI))] rfl rfl) (Ar ?_)
  exact ⟨⟨[_, _], ⟨.tmp _ _ rfl, tm⟩, rfl⟩, ⟨rfl, tv⟩⟩
theorem Mh (N : Nat) (p0 : Ab) (p1 : Int) (r : Bool) (h : Ff N p0 p1 = some r) : Au Tryz.prog 59 [.e (.agg (Ag p0)), iD p1] [] (bD r) := by
 unfold Ff at h
 refine cw (n := 30) (rs := [.tmp 4]) Tryz.func59 fun w0 S0 => ?_
 refine wq rfl (qb rfl (qa rfl (Ac (wq rfl (qL Cu BF rfl ?_)))))
 refine B7 h fun v1 a1 h => AA [2001, 2002, 2003] (I6 N p0 v1 a1) dI rfl (qm rfl (qx rfl (qx rfl (qz E0 rfl (qs A1 rfl (qa rfl (Ac (AQ ?_))))))))
 refine AS h (fun v2 => mk [(1, iD p1), (2, oD (.ptr 2 0)), (5, oD (.ptr 5 0)), (21, bD v2)] [(2, .box (Ag p0)), (5, .box [.own 2004, .own 2005, .own 2006]), (2004, .vec 1 (v1.1.fH.map Aq)), (2005, .vec 1 (v1.1.fE.map Aq)), (2006, .vec 1 (v1.1.fI.map Eh))]) (fun j2 h => ?_) (fun v2 h => ?_)
 ·refine Aj Ay rfl (qm rfl (BS rfl (qm rfl ?_)))
  refine EO 16 h rfl (fun h => ?_) fun h => ?_
  ·refine qw 4 rfl (qp rfl (Ac ?_))
   exact sn [(2004, 2001), (2005, 2002), (2006, 2003)] h
  ·refine qL Cu BF rfl (qL B4 A1 rfl ?_)
   refine B7 h fun v4 a4 h => Dt [] [2001, 2002, 2003] (GA N p0 v1.1 v4 a4) bK BP rfl (CP rfl (qp rfl (Ac ?_)))
   exact sn [(2004, 2001), (2005, 2002), (2006, 2003)] h
 ·refine Bc h (fun h => ?_) fun h => ?_
  ·refine wq rfl (qe rfl ?_)
   obtain rfl := sj h
   refine Ah (sm [] [(4, bD true)] [] rfl rfl) (Ar ?_)
   exact ⟨⟨[_], tm, rfl⟩, tv⟩
  ·refine Am (wq rfl (qL Cu BF rfl (qL B4 A1 rfl (qm rfl (Ev (BC 2004 _ _ rfl rfl) (Ev (BC 2005 _ _ rfl rfl) (Ev (BC 2006 _ _ rfl rfl) ?_)))))))
   refine B7 h fun v6 a6 h => AA [2007] (Jb N p0 v1.1 p1 v6 a6) cE rfl (qm rfl (qx rfl (qx rfl (qa rfl (qa rfl (Ac (wq rfl (qm rfl (qe rfl ?_)))))))))
   obtain rfl := sj h
   refine Ah (sm [] [(4, bD v6.2)] [] rfl rfl) (Ar ?_)
   exact ⟨⟨[_], tm, rfl⟩, tv⟩
theorem Mi (N : Nat) (p0 : Ab) (r : Bool) (h : FV N p0 = some r) : Au Tryz.prog 33 [.e (.agg (Ag p0))] [] (bD r) := by
 unfold FV at h
 refine cw (n := 15) (rs := [.tmp 2]) Tryz.func33 fun w0 S0 => ?_
 refine wq rfl (qb rfl (qa rfl (Ac (wq rfl (qL Cu BF rfl ?_)))))
 refine B7 h fun v1 a1 h => AA [2001] (GR N p0 v1 a1) bo rfl (qe rfl ?_)
 refine AS h (fun v2 => mk [(2, bD v2)] []) (fun j2 h => ?_) (fun v2 h => ?_)
 ·refine Aj Ay rfl (qm rfl (Dm Bb rfl (Ub rfl (qm rfl ?_))))
  refine EO 9 h rfl (fun h => ?_) fun h => ?_
  ·refine qL Cu BF rfl (qm rfl (Ev (BC 2001 _ _ rfl rfl) ?_))
   refine B7 h fun v4 a4 h => AA [2002, 2003, 2004] (HU N p0 v1 v4 a4) bh rfl ?_
   refine B7 h fun v5 a5 h => Dt [] [2002, 2003, 2004] (Mh N v4 60 v5 a5) fv BP rfl (qp rfl (qe rfl ?_))
   exact sn [] h
  ·refine qw 4 rfl (qp rfl (qe rfl ?_))
   exact sn [] h
 ·obtain rfl := sj h
  refine Ah (sm [] [(2, bD v2)] [] rfl rfl) (Ar ?_)
  exact ⟨⟨[_], tm, rfl⟩, tv⟩
theorem Oi (N : Nat) (p0 : BJ) (r : Ab × Bool) (h : F1 N p0 = some r) : Au Tryz.prog 10 [.e (.agg (C3 p0))] [(1, r.1.fF.map Aq), (1, r.1.fL.map Aq), (1, r.1.fQ.map Aq), (6, r.1.fG.map AG)] (.tup [.agg [.own 0, .own 1, .own 2, .own 3], .one (.pure (.val (.bool r.2)))]) := by
 unfold F1 at h
 refine cw (n := 23) (rs := [.cell 2 29, .tmp 3]) Tryz.func10 fun w0 S0 => ?_
 refine wq rfl (qb rfl (qz J0 rfl (qa rfl (Ac (wq rfl (qL cO dK rfl ?_))))))
 refine B7 h fun v1 a1 h => AA [2001, 2002, 2003, 2004] (Ok N p0 v1 a1) fu rfl (qm rfl (qx rfl (qx rfl (qz J0 rfl (qs BF rfl (qe rfl ?_))))))
 refine AS h (fun v2 => mk [(2, oD (.ptr 2 0)), (3, bD v2)] [(2, .box [.own 2005, .own 2006, .own 2007, .own 2008]), (2005, .vec 1 (v1.1.fF.map Aq)), (2006, .vec 1 (v1.1.fL.map Aq)), (2007, .vec 1 (v1.1.fQ.map Aq)), (2008, .vec 6 (v1.1.fG.map AG))]) (fun j2 h => ?_) (fun v2 h => ?_)
 ·refine Aj Ay rfl (qL Cu BF rfl (qw 2 rfl ?_))
  refine EO 13 h rfl (fun h => ?_) fun h => ?_
  ·refine qf Bs rfl (ql A7 rfl (Dm AC rfl (Ub rfl (qp rfl (qm rfl ?_)))))
   refine EO 19 h rfl (fun h => ?_) fun h => ?_
   ·refine qL Cu BF rfl ?_
    refine B7 h fun v5 a5 h => Dt [] [2001, 2002, 2003, 2004] (Mi N v1.1 v5 a5) eF BP rfl (qp rfl (qs BF rfl (qa rfl (AP (by kernel_rfl) ?_))))
    exact sn [(2005, 2001), (2006, 2002), (2007, 2003), (2008, 2004)] h
   ·refine qw 2 rfl (qp rfl (qs BF rfl (qa rfl (AP (by kernel_rfl) ?_))))
    exact sn [(2005, 2001), (2006, 2002), (2007, 2003), (2008, 2004)] h
  ·refine qw 4 rfl (qp rfl (qw 3 rfl (qp rfl (qs BF rfl (qa rfl (AP (by kernel_rfl) ?_))))))
   exact sn [(2005, 2001), (2006, 2002), (2007, 2003), (2008, 2004)] h
 ·obtain rfl := sj h
  refine Ah (sm [(1000, 2005), (1001, 2006), (1002, 2007), (1003, 2008)] [(2, oD (.ptr 2 0)), (3, bD v2)] [(2, .box [.own 1000, .own 1001, .own 1002, .own 1003]), (1000, .vec 1 (v1.1.fF.map Aq)), (1001, .vec 1 (v1.1.fL.map Aq)), (1002, .vec 1 (v1.1.fQ.map Aq)), (1003, .vec 6 (v1.1.fG.map AG))] rfl rfl) (Ar ?_)
  exact ⟨⟨[_, _], ⟨.cellN _ _ _ _ _ _ _ rfl rfl Cu BF rfl rfl (Jw rfl), tm⟩, rfl⟩, ⟨rfl, rfl, rfl, rfl, tv⟩⟩
theorem FR (N : Nat) (r : Ab) (h : DJ N = some r) : Au Tryz.prog 34 [] [(1, r.fF.map Aq), (1, r.fL.map Aq), (1, r.fQ.map Aq), (6, r.fG.map AG)] (.e (.agg [.own 0, .own 1, .own 2, .own 3])) := by
 unfold DJ at h
 refine cw (n := 12) (rs := [.cell 0 29]) Tryz.func34 fun w0 S0 => ?_
 refine wq rfl (qz J0 rfl (Ac (wq rfl (Eg Ew Ms WA rfl (Eg Ew Ms WA rfl (Ev (BC 2 _ _ rfl rfl) (Ev (BC 3 _ _ rfl rfl) (Eg Dx H5 SP rfl (Bd Jf cB rfl (qz Jf rfl (qs C1 rfl (Ac (wq rfl (Eg AC DH KV rfl (Eg AC DH KV rfl (Eg AC DH KV rfl (qL G6 C1 rfl (Ev (BC 4 _ _ rfl rfl) (Eg CK C1 Jf rfl (Bd J0 Uw rfl (qs BF rfl (Ac ?_))))))))))))))))))))))
 obtain rfl := sj h
 refine Ah (sm [(1000, 6), (1001, 7), (1002, 8), (1003, 10)] [(0, oD (.ptr 0 0))] [(0, .box [.own 1000, .own 1001, .own 1002, .own 1003]), (1000, .vec 1 ((([2, 2] : List Int)).map Aq)), (1001, .vec 1 ((([0, 0] : List Int)).map Aq)), (1002, .vec 1 ((([1, 1] : List Int)).map Aq)), (1003, .vec 6 ((([(Ao.mk 1 0 1 false (([([true, false] : List Bool), ([false, true] : List Bool)] : List (List Bool))) (([] : List (List Bool))))] : List Ao)).map AG))] rfl rfl) (Ar ?_)
 exact ⟨⟨[_], ⟨.cellN _ _ _ _ _ _ _ rfl rfl Cu BF rfl rfl (Jw rfl), tv⟩, rfl⟩, ⟨rfl, rfl, rfl, rfl, tv⟩⟩
theorem Iq (N : Nat) (p0 : Int) (p1 : Int) (r : Bool) (h : EM N p0 p1 = some r) : Au Tryz.prog 76 [iD p0, iD p1] [] (bD r) := by
 unfold EM at h
 refine cw (n := 12) (rs := [.tmp 4]) Tryz.func76 fun w0 S0 => ?_
 refine wq rfl (qe rfl ?_)
 refine AS h (fun v1 => mk [(4, bD v1)] []) (fun j1 h => ?_) (fun v1 h => ?_)
 ·refine Aj Ay rfl (qm rfl (FM rfl (qm rfl ?_)))
  refine EO 7 h rfl (fun h => ?_) fun h => ?_
  ·refine qw 2 rfl (AV rfl (qp rfl (qe rfl ?_)))
   exact sn [] h
  ·refine qw 3 rfl (qp rfl (qe rfl ?_))
   exact sn [] h
 ·obtain rfl := sj h
  refine Ah (sm [] [(4, bD v1)] [] rfl rfl) (Ar ?_)
  exact ⟨⟨[_], tm, rfl⟩, tv⟩
theorem R8 (N : Nat) (p0 : Int) (p1 : Bool) (r : Bool) (h : HK N p0 p1 = some r) : Au Tryz.prog 110 [iD p0, bD p1] [] (bD r) := by
 unfold HK at h
 refine cw (n := 23) (rs := [.tmp 4]) Tryz.func110 fun w0 S0 => ?_
 refine wq rfl (qe rfl ?_)
 refine AS h (fun v1 => mk [(4, bD v1)] []) (fun j1 h => ?_) (fun v1 h => ?_)
 ·refine Aj Ay rfl (qm rfl (B6 rfl (qm rfl ?_)))
  refine EO 7 h rfl (fun h => ?_) fun h => ?_
  ·refine qw 2 rfl (qp rfl (qw 4 rfl (qu rfl (qu rfl (qw 2 rfl (qu rfl (qu rfl (qn rfl (qp rfl (qe rfl ?_))))))))))
   exact sn [] h
  ·refine qm rfl (B6 rfl (qp rfl (qm rfl ?_)))
   refine EO 11 h rfl (fun h => ?_) fun h => ?_
   ·refine qw 3 rfl (qu rfl (qu rfl (qw 2 rfl (qu rfl (qu rfl (qn rfl (qp rfl (qe rfl ?_))))))))
    exact sn [] h
   ·refine qm rfl (B6 rfl (qm rfl ?_))
    refine EO 14 h rfl (fun h => ?_) fun h => ?_
    ·refine qw 2 rfl (qp rfl (qw 2 rfl (CP rfl (qp rfl (qp rfl (qe rfl ?_))))))
     exact sn [] h
    ·refine qm rfl (B6 rfl (qp rfl (qm rfl ?_)))
     refine EO 18 h rfl (fun h => ?_) fun h => ?_
     ·refine qm rfl (CP rfl (qp rfl (qp rfl (qe rfl ?_))))
      exact sn [] h
     ·refine qw 2 rfl (qp rfl (qp rfl (qe rfl ?_)))
      exact sn [] h
 ·obtain rfl := sj h
  refine Ah (sm [] [(4, bD v1)] [] rfl rfl) (Ar ?_)
  exact ⟨⟨[_], tm, rfl⟩, tv⟩
theorem Oy (N : Nat) (p0 : List Bool) (p1 : Int) (r : Bool) (h : EB N p0 p1 = some r) : Au Tryz.prog 141 [pD (.sl (p0.map eB)), oD (.rop [.val (.int .i64 p1)])] [] (bD r) := by
 unfold EB at h
 refine cw (n := 8) (rs := [.tmp 3]) Tryz.func141 fun w0 S0 => ?_
 refine wq rfl (qa rfl (Ac (wq rfl (qm rfl (AO Ew rfl (qk Cn rfl (BS rfl (qe rfl ?_))))))))
 obtain rfl := sj h
 refine Ah (sm [] [(3, bD (((p0.length : Int) != p1)))] [] rfl rfl) (Ar ?_)
 exact ⟨⟨[_], tm, rfl⟩, tv⟩
theorem I0 (N : Nat) (p0 : List (List Bool)) (p1 : (List Bool) → Option Bool) (r : Int) (h : DX N p0 p1 = some r) : Au Tryz.prog 154 [pD (.sl (p0.map (Fa eB))), oD (.clo (JG (O7 false (Fa eB)) tB p1))] [] (iD r) := by
 unfold DX at h
 refine cw (n := 19) (rs := [.tmp 4]) Tryz.func154 fun w0 S0 => ?_
 refine wq rfl (qa rfl (Ac (wp rfl (qm rfl (AO Dx rfl (qm rfl (Ac ?_)))))))
 refine AH (L := Bv N p0 p1) h (fun v1 => mk [(0, pD (.sl (p0.map (Fa eB)))), (1, oD (.clo (JG (O7 false (Fa eB)) tB p1))), (7, iD ((p0.length : Int))), (8, iD v1)] []) (fun v2 => mk [] []) (fun _ _ => rfl) (sm [] _ _ rfl rfl) (fun j1 n1 v1 h => ?_) (fun v2 s h hs => ?_)
 ·unfold Bv at h
  refine wq rfl (AV rfl (Ac (AQ ?_)))
  refine Bc h (fun h => ?_) fun h => ?_
  ·refine Am (AQ (AM (wq rfl (qm rfl (qa rfl (Ac (wq rfl (qw 3 rfl ?_))))))))
   refine BK h fun v4 a4 b4 h => qi Dx H5 a4 (Ai b4) rfl (qk Lq rfl ?_)
   refine B7 h fun v5 a5 h => Nv (ds0 := [_]) (ar := (O7 false (Fa eB)) v4) (.p rfl) rfl rfl ⟨rfl, tv⟩ rfl rfl rfl (L8 (N4 _ _ (dj ft)) a5) ?_
   refine Ac ?_
   refine Bc h (fun h => ?_) fun h => ?_
   ·refine wq rfl (qm rfl (qe rfl ?_))
    obtain rfl := sj h
    refine Ah (sm [] [(4, iD v1)] [] rfl rfl) (Ar ?_)
    exact ⟨⟨[_], tm, rfl⟩, tv⟩
   ·refine Am (Aj Ay rfl (AZ rfl (qm rfl (Ac ?_))))
    exact sn [] h
  ·refine AT ?_
   exact sn [] h
 ·refine Ah hs (wq rfl (qe rfl ?_))
  obtain rfl := sj h
  refine Ah (sm [] [(4, iD ((-1)))] [] rfl rfl) (Ar ?_)
  exact ⟨⟨[_], tm, rfl⟩, tv⟩
theorem It (N : Nat) (p0 : List (List Bool)) (p1 : (List Bool) → Option Bool) (r : Bool) (h : Dq N p0 p1 = some r) : Au Tryz.prog 140 [pD (.sl (p0.map (Fa eB))), oD (.clo (JG (O7 false (Fa eB)) tB p1))] [] (bD r) := by
 unfold Dq at h
 refine cw (n := 9) (rs := [.tmp 4]) Tryz.func140 fun w0 S0 => ?_
 refine wq rfl (qa rfl (Ac (wq rfl (qw 2 rfl ?_))))
 refine B7 h fun v1 a1 h => AA [] (I0 N p0 p1 v1 a1) dB rfl (FM rfl (qe rfl ?_))
 obtain rfl := sj h
 refine Ah (sm [] [(4, bD ((decide (0 ≤ v1))))] [] rfl rfl) (Ar ?_)
 exact ⟨⟨[_], tm, rfl⟩, tv⟩
theorem Ly (N : Nat) (p0 : List (List Bool)) (p1 : Int) (p2 : Int) (r : Bool) (h : FT N p0 p1 p2 = some r) : Au Tryz.prog 111 [pD (.sl (p0.map (Fa eB))), iD p1, iD p2] [] (bD r) := by
 unfold FT at h
 refine cw (n := 17) (rs := [.tmp 6]) Tryz.func111 fun w0 S0 => ?_
 refine wq rfl (qb rfl (qe rfl ?_))
 refine AS h (fun v1 => mk [(6, bD v1)] []) (fun j1 h => ?_) (fun v1 h => ?_)
 ·refine Aj Ay rfl (qm rfl (AO Dx rfl (qm rfl (B6 rfl (qm rfl ?_)))))
  refine EO 11 h rfl (fun h => ?_) fun h => ?_
  ·refine qm rfl (Ev (Nz 5 [.val (.int .i64 p2)] rfl rfl) ?_)
   refine MI (capD := [_]) (JG (O7 false (Fa eB)) tB ((fun (x : List Bool) => EB N x p2))) (.g rfl rfl) dL rfl ⟨rfl, tv⟩ rfl (fun ar t ht => by obtain ⟨x, r, rfl, hq, rfl⟩ := KE ht; exact Oy N x p2 r hq) ?_
   refine B7 h fun v3 a3 h => AA [] (It N p0 ((fun (x : List Bool) => EB N x p2)) v3 a3) dp rfl (CP rfl (qp rfl (qe rfl ?_)))
   exact sn [] h
  ·refine qw 4 rfl (qp rfl (qe rfl ?_))
   exact sn [] h
 ·obtain rfl := sj h
  refine Ah (sm [] [(6, bD v1)] [] rfl rfl) (Ar ?_)
  exact ⟨⟨[_], tm, rfl⟩, tv⟩
theorem QW (N : Nat) (p0 : Ab) (p1 : Ao) (r : Int) (h : Hg N p0 p1 = some r) : Au Tryz.prog 77 [.e (.agg (Ag p0)), .e (.agg (Bg p1))] [] (iD r) := by
 unfold Hg at h
 refine cw (n := 87) (rs := [.tmp 4]) Tryz.func77 fun w0 S0 => ?_
 refine wq rfl (qb rfl (qb rfl (qa rfl (Ac (wp rfl (qf GX rfl (ql Cn rfl (qf Kd rfl (ql TG rfl ?_)))))))))
 refine B7 h fun v1 a1 h => AA [] (R8 N p1.fJ p1.fS v1 a1) cV rfl (CP rfl (Ac ?_))
 refine Bc h (fun h => ?_) fun h => ?_
 ·refine wq rfl (qe rfl ?_)
  obtain rfl := sj h
  refine Ah (sm [] [(4, iD 1)] [] rfl rfl) (Ar ?_)
  exact ⟨⟨[_], tm, rfl⟩, tv⟩
 ·refine Am (AQ ?_)
  refine AS h (fun v3 => mk [(2, oD (.ptr 2 0)), (3, oD (.ptr 3 0)), (29, bD v3)] [(2, .box (Ag p0)), (3, .box (Bg p1))]) (fun j3 h => ?_) (fun v3 h => ?_)
  ·refine Aj Ay rfl (qf DN rfl (ql Cn rfl (qf Bs rfl (ql A7 rfl (AO AC rfl ?_)))))
   refine B7 h fun v4 a4 h => AA [] (Iq N p1.fK ((p0.fF.length : Int)) v4 a4) ZW rfl (CP rfl (qm rfl ?_))
   refine EO 21 h rfl (fun h => ?_) fun h => ?_
   ·refine qw 7 rfl (qp rfl (Ac ?_))
    exact sn [] h
   ·refine qf Jh rfl (ql Cn rfl (qf Bs rfl (ql A7 rfl (AO AC rfl ?_))))
    refine B7 h fun v6 a6 h => AA [] (Iq N p1.fP ((p0.fF.length : Int)) v6 a6) ZW rfl (CP rfl (qp rfl (Ac ?_)))
    exact sn [] h
  ·refine Bc h (fun h => ?_) fun h => ?_
   ·refine wq rfl (qe rfl ?_)
    obtain rfl := sj h
    refine Ah (sm [] [(4, iD 4)] [] rfl rfl) (Ar ?_)
    exact ⟨⟨[_], tm, rfl⟩, tv⟩
   ·refine Am (wq rfl (qf Bs rfl (ql A7 rfl (qf DN rfl (ql Cn rfl ?_)))))
    refine BK h fun v8 a8 b8 h => qi AC DH a8 (Ai b8) rfl (qk Cn rfl (qa rfl (Ac (wq rfl (qf GX rfl (ql Cn rfl (B6 rfl (qa rfl (Ac (AQ ?_))))))))))
    refine AS h (fun v9 => mk [(3, oD (.ptr 3 0)), (70, bD v9)] [(3, .box (Bg p1))]) (fun j9 h => ?_) (fun v9 h => ?_)
    ·refine Aj Ay rfl (qf EP rfl (ql GZ rfl (qm rfl (qf Bs rfl (ql A7 rfl (qf Jh rfl (ql Cn rfl ?_)))))))
     refine BK h fun v10 a10 b10 h => qi AC DH a10 (Ai b10) rfl (qk Cn rfl ?_)
     refine B7 h fun v11 a11 h => AA [] (Ly N p1.fO v8 v10 v11 a11) aj rfl (CP rfl (qm rfl ?_))
     refine EO 50 h rfl (fun h => ?_) fun h => ?_
     ·refine qw 2 rfl (qu rfl (qu rfl (qu rfl (qu rfl (qu rfl (qu rfl (qn rfl (qp rfl (qw 4 rfl (qu rfl (qu rfl (qu rfl (qu rfl (qn rfl (qp rfl (AP (by kernel_rfl) ?_))))))))))))))))
      exact sn [] h
     ·refine qw 2 rfl ?_
      refine EO 52 h rfl (fun h => ?_) fun h => ?_
      ·refine qf EQ rfl (ql GZ rfl (qw 2 rfl ?_))
       refine B7 h fun v14 a14 h => AA [] (Ly N p1.fR v8 v8 v14 a14) aj rfl (CP rfl (qp rfl (qp rfl (qm rfl ?_))))
       refine EO 61 h rfl (fun h => ?_) fun h => ?_
       ·refine qw 3 rfl (qu rfl (qu rfl (qu rfl (qu rfl (qn rfl (qp rfl (AP (by kernel_rfl) ?_)))))))
        exact sn [] h
       ·refine qm rfl (CP rfl (qm rfl ?_))
        refine EO 64 h rfl (fun h => ?_) fun h => ?_
        ·refine qf EQ rfl (ql GZ rfl (AO Dx rfl (Gf rfl (qp rfl (qp rfl (AP (by kernel_rfl) ?_))))))
         exact sn [] h
        ·refine qw 4 rfl (qp rfl (qp rfl (AP (by kernel_rfl) ?_)))
         exact sn [] h
      ·refine qw 6 rfl (qp rfl (qp rfl (qw 2 rfl (CP rfl (qm rfl ?_)))))
       refine EO 64 h rfl (fun h => ?_) fun h => ?_
       ·refine qf EQ rfl (ql GZ rfl (AO Dx rfl (Gf rfl (qp rfl (qp rfl (AP (by kernel_rfl) ?_))))))
        exact sn [] h
       ·refine qw 4 rfl (qp rfl (qp rfl (AP (by kernel_rfl) ?_)))
        exact sn [] h
    ·refine Bc h (fun h => ?_) fun h => ?_
     ·refine wq rfl (qe rfl ?_)
      obtain rfl := sj h
      refine Ah (sm [] [(4, iD 6)] [] rfl rfl) (Ar ?_)
      exact ⟨⟨[_], tm, rfl⟩, tv⟩
     ·refine Am (wp rfl (qf EQ rfl (ql GZ rfl (AO Dx rfl (qm rfl (Ac ?_))))))
      refine AH (L := DB N p1) h (fun v19 => mk [(3, oD (.ptr 3 0)), (73, iD ((p1.fR.length : Int))), (74, iD v19)] [(3, .box (Bg p1))]) (fun v20 => mk [] []) (fun _ _ => rfl) (sm [] _ _ rfl rfl) (fun j19 n19 v19 h => ?_) (fun v20 s h hs => ?_)
      ·unfold DB at h
       refine wq rfl (AV rfl (Ac (AQ ?_)))
       refine Bc h (fun h => ?_) fun h => ?_
       ·refine Am (AQ (AM (wq rfl (qm rfl (qa rfl (Ac (wq rfl (qf EQ rfl (ql GZ rfl (qm rfl ?_))))))))))
        refine BK h fun v22 a22 b22 h => qi Dx H5 a22 (Ai b22) rfl (qk Lq rfl (qm rfl ?_))
        refine BK h fun v23 a23 b23 h => qi Ew Ms a23 (Ai b23) rfl (qk TG rfl (CP rfl (Ac ?_)))
        refine Bc h (fun h => ?_) fun h => ?_
        ·refine wq rfl (qe rfl ?_)
         obtain rfl := sj h
         refine Ah (sm [] [(4, iD 1)] [] rfl rfl) (Ar ?_)
         exact ⟨⟨[_], tm, rfl⟩, tv⟩
        ·refine Am (Aj Ay rfl (AZ rfl (qm rfl (Ac ?_))))
         exact sn [] h
       ·refine AT ?_
        exact sn [] h
      ·refine Ah hs (wq rfl (qe rfl ?_))
       obtain rfl := sj h
       refine Ah (sm [] [(4, iD 0)] [] rfl rfl) (Ar ?_)
       exact ⟨⟨[_], tm, rfl⟩, tv⟩
theorem Em (N : Nat) (p0 : Ab) (r : Int) (h : BD N p0 = some r) : Au Tryz.prog 48 [.e (.agg (Ag p0))] [] (iD r) := by
 unfold BD at h
 refine cw (n := 81) (rs := [.tmp 2]) Tryz.func48 fun w0 S0 => ?_
 refine wq rfl (qb rfl (qa rfl (Ac (wq rfl (qf Bs rfl (ql A7 rfl (AO AC rfl (qa rfl (Ac (AQ ?_))))))))))
 refine AS h (fun v1 => mk [(1, oD (.ptr 1 0)), (3, iD ((p0.fF.length : Int))), (19, bD v1)] [(1, .box (Ag p0))]) (fun j1 h => ?_) (fun v1 h => ?_)
 ·refine Aj Ay rfl (qm rfl (Gf rfl (qm rfl ?_)))
  refine EO 14 h rfl (fun h => ?_) fun h => ?_
  ·refine qw 4 rfl (qp rfl (Ac ?_))
   exact sn [] h
  ·refine qf Bw rfl (ql F0 rfl (AO CK rfl (Gf rfl (qp rfl (Ac ?_)))))
   exact sn [] h
 ·refine Bc h (fun h => ?_) fun h => ?_
  ·refine wq rfl (qe rfl ?_)
   obtain rfl := sj h
   refine Ah (sm [] [(2, iD 3)] [] rfl rfl) (Ar ?_)
   exact ⟨⟨[_], tm, rfl⟩, tv⟩
  ·refine Am (AQ ?_)
   refine AS h (fun v4 => mk [(1, oD (.ptr 1 0)), (31, bD v4)] [(1, .box (Ag p0))]) (fun j4 h => ?_) (fun v4 h => ?_)
   ·refine Aj Ay rfl (qf GV rfl (ql A7 rfl (AO AC rfl (qm rfl (BS rfl (qm rfl ?_))))))
    refine EO 25 h rfl (fun h => ?_) fun h => ?_
    ·refine qw 5 rfl (qp rfl (Ac ?_))
     exact sn [] h
    ·refine qf If rfl (ql A7 rfl (AO AC rfl (qm rfl (BS rfl (qp rfl (Ac ?_))))))
     exact sn [] h
   ·refine Bc h (fun h => ?_) fun h => ?_
    ·refine wq rfl (qe rfl ?_)
     obtain rfl := sj h
     refine Ah (sm [] [(2, iD 6)] [] rfl rfl) (Ar ?_)
     exact ⟨⟨[_], tm, rfl⟩, tv⟩
    ·refine Am (wp rfl (qf Bs rfl (ql A7 rfl (AO AC rfl (qm rfl (Ac ?_))))))
     refine AH (L := Ch N p0) h (fun v7 => mk [(1, oD (.ptr 1 0)), (33, pD (.sl (p0.fF.map Aq))), (34, iD ((p0.fF.length : Int))), (35, iD v7)] [(1, .box (Ag p0))]) (fun v8 => mk [(1, oD (.ptr 1 0))] [(1, .box (Ag p0))]) (fun _ _ => rfl) (sm [] _ _ rfl rfl) (fun j7 n7 v7 h => ?_) (fun v8 s h hs => ?_)
     ·unfold Ch at h
      refine wq rfl (AV rfl (Ac (AQ ?_)))
      refine Bc h (fun h => ?_) fun h => ?_
      ·refine Am (AQ (AM (wq rfl (qm rfl ?_))))
       refine BK h fun v10 a10 b10 h => qi AC DH a10 (Ai b10) rfl (qk Cn rfl (qa rfl (qe rfl ?_)))
       refine AS h (fun v11 => mk [(1, oD (.ptr 1 0)), (33, pD (.sl (p0.fF.map Aq))), (34, iD ((p0.fF.length : Int))), (35, iD v7), (65, bD v11)] [(1, .box (Ag p0))]) (fun j11 h => ?_) (fun v11 h => ?_)
       ·refine Aj Ay rfl (qm rfl (AV rfl (qm rfl ?_)))
        refine EO 42 h rfl (fun h => ?_) fun h => ?_
        ·refine qw 2 rfl (qp rfl (qw 9 rfl (qp rfl (qw 9 rfl (qp rfl (Ac ?_))))))
         exact sn [] h
        ·refine qm rfl (Gf rfl (qp rfl (qm rfl ?_)))
         refine EO 46 h rfl (fun h => ?_) fun h => ?_
         ·refine qw 8 rfl (qp rfl (qw 9 rfl (qp rfl (Ac ?_))))
          exact sn [] h
         ·refine qf GV rfl (ql A7 rfl (qm rfl ?_))
          refine BK h fun v14 a14 b14 h => qi AC DH a14 (Ai b14) rfl (qk Cn rfl (qm rfl ?_))
          refine B7 h fun v15 a15 h => AA [] (Iq N v14 v10 v15 a15) ZW rfl (CP rfl (qp rfl (qm rfl ?_)))
          refine EO 56 h rfl (fun h => ?_) fun h => ?_
          ·refine qw 8 rfl (qp rfl (Ac ?_))
           exact sn [] h
          ·refine qf If rfl (ql A7 rfl (qm rfl ?_))
           refine BK h fun v17 a17 b17 h => qi AC DH a17 (Ai b17) rfl (qk Cn rfl (qm rfl ?_))
           refine B7 h fun v18 a18 h => AA [] (Iq N v17 v10 v18 a18) ZW rfl (CP rfl (qp rfl (Ac ?_)))
           exact sn [] h
       ·refine Bc h (fun h => ?_) fun h => ?_
        ·refine wq rfl (qe rfl ?_)
         obtain rfl := sj h
         refine Ah (sm [] [(2, iD 7)] [] rfl rfl) (Ar ?_)
         exact ⟨⟨[_], tm, rfl⟩, tv⟩
        ·refine Am (Aj Ay rfl (AZ rfl (qm rfl (Ac ?_))))
         exact sn [] h
      ·refine AT ?_
       exact sn [] h
     ·refine Ah hs (wp rfl (qf Bw rfl (ql F0 rfl (AO CK rfl (qm rfl (Ac ?_))))))
      refine AH (L := BZ N p0) h (fun v20 => mk [(1, oD (.ptr 1 0)), (68, pD (.sl (p0.fG.map AG))), (69, iD ((p0.fG.length : Int))), (70, iD v20)] [(1, .box (Ag p0))]) (fun v21 => mk [] []) (fun _ _ => rfl) (sm [] _ _ rfl rfl) (fun j20 n20 v20 h => ?_) (fun v21 s h hs => ?_)
      ·unfold BZ at h
       refine wq rfl (AV rfl (Ac (AQ ?_)))
       refine Bc h (fun h => ?_) fun h => ?_
       ·refine Am (AQ (AM (wq rfl ?_)))
        refine BK h fun v23 a23 b23 h => qi CK C1 a23 (Ai b23) rfl (qK G6 C1 rfl (qz Jf rfl (qs C1 rfl (Ac (wq rfl (qL Cu BF rfl (qL G6 C1 rfl ?_)))))))
        refine B7 h fun v24 a24 h => AA [] (QW N p0 v23 v24 a24) e8 rfl (qa rfl (Ac (wq rfl (qm rfl (BS rfl (Ac ?_))))))
        refine Bc h (fun h => ?_) fun h => ?_
        ·refine wq rfl (qm rfl (qe rfl ?_))
         obtain rfl := sj h
         refine Ah (sm [] [(2, iD v24)] [] rfl rfl) (Ar ?_)
         exact ⟨⟨[_], tm, rfl⟩, tv⟩
        ·refine Am (Aj Ay rfl (AZ rfl (qm rfl (Ac ?_))))
         exact sn [] h
       ·refine AT ?_
        exact sn [] h
      ·refine Ah hs (wq rfl (qe rfl ?_))
       obtain rfl := sj h
       refine Ah (sm [] [(2, iD 0)] [] rfl rfl) (Ar ?_)
       exact ⟨⟨[_], tm, rfl⟩, tv⟩
theorem Ii (N : Nat) (p0 : Ab) (r : (List Aa)) (h : Eb N p0 = some r) : Au Tryz.prog 41 [.e (.agg (Ag p0))] [(3, r.map Ad)] (oD (.own 0)) := by
 unfold Eb at h
 refine cw (n := 46) (rs := [.tmp 2]) Tryz.func41 fun w0 S0 => ?_
 refine wq rfl (qb rfl (qa rfl (Ac (wq rfl (qa rfl (Ac (wp rfl (qf Bw rfl (ql F0 rfl (AO CK rfl (qm rfl (Ac ?_))))))))))))
 refine AH (L := Cm N p0) h (fun v1 => mk [(3, oD (.own 2001)), (11, pD (.sl (p0.fG.map AG))), (12, iD ((p0.fG.length : Int))), (13, iD v1.2)] [(2001, .vec 3 (v1.1.map Ad))]) (fun v2 => mk [(3, oD (.own 2002))] [(2002, .vec 3 (v2.map Ad))]) (fun _ _ => rfl) ((AY 3 2008 3 rfl rfl rfl).trans (sm [(2001, 2008)] _ _ rfl rfl)) (fun j1 n1 v1 h => ?_) (fun v2 s h hs => ?_)
 ·unfold Cm at h
  refine wq rfl (AV rfl (Ac (AQ ?_)))
  refine Bc h (fun h => ?_) fun h => ?_
  ·refine Am (AQ (AM (wq rfl (qm rfl ?_))))
   refine BK h fun v4 a4 b4 h => qi CK C1 a4 (Ai b4) rfl (qK G6 C1 rfl (qz Jf rfl (qa rfl (qs C1 rfl (Ac (wq rfl (qf EP rfl (ql GZ rfl (AO Dx rfl (qm rfl (Ac ?_)))))))))))
   refine AH (L := CR N v1 v4) h (fun v5 => mk [(3, oD (.own 2003)), (4, iD v1.2), (11, pD (.sl (p0.fG.map AG))), (12, iD ((p0.fG.length : Int))), (13, iD v1.2), (19, pD (.sl (v4.fO.map (Fa eB)))), (20, iD ((v4.fO.length : Int))), (21, iD v5.2)] [(2003, .vec 3 (v5.1.map Ad))]) (fun v6 => mk [(3, oD (.own 2004)), (11, pD (.sl (p0.fG.map AG))), (12, iD ((p0.fG.length : Int))), (13, iD v1.2)] [(2004, .vec 3 (v6.map Ad))]) (fun _ _ => rfl) (sm [(2003, 2001)] _ _ rfl rfl) (fun j5 n5 v5 h => ?_) (fun v6 s h hs => ?_)
   ·unfold CR at h
    refine wq rfl (AV rfl (Ac (AQ ?_)))
    refine Bc h (fun h => ?_) fun h => ?_
    ·refine Am (AQ (AM (wq rfl (qm rfl ?_))))
     refine BK h fun v8 a8 b8 h => qi Dx H5 a8 (Ai b8) rfl (qk Lq rfl (qa rfl (qa rfl (Ac (wq rfl (qm rfl (AO Ew rfl (qm rfl (Ac ?_)))))))))
     refine AH (L := Do N v1 v5 v8) h (fun v9 => mk [(3, oD (.own 2005)), (4, iD v1.2), (6, iD v5.2), (11, pD (.sl (p0.fG.map AG))), (12, iD ((p0.fG.length : Int))), (13, iD v1.2), (19, pD (.sl (v4.fO.map (Fa eB)))), (20, iD ((v4.fO.length : Int))), (21, iD v5.2), (26, pD (.sl (v8.map eB))), (27, iD ((v8.length : Int))), (28, iD v9.2)] [(2005, .vec 3 (v9.1.map Ad))]) (fun v10 => mk [(3, oD (.own 2006)), (4, iD v1.2), (11, pD (.sl (p0.fG.map AG))), (12, iD ((p0.fG.length : Int))), (13, iD v1.2), (19, pD (.sl (v4.fO.map (Fa eB)))), (20, iD ((v4.fO.length : Int))), (21, iD v5.2)] [(2006, .vec 3 (v10.map Ad))]) (fun _ _ => rfl) (sm [(2005, 2003)] _ _ rfl rfl) (fun j9 n9 v9 h => ?_) (fun v10 s h hs => ?_)
     ·unfold Do at h
      refine wq rfl (AV rfl (Ac (AQ ?_)))
      refine Bc h (fun h => ?_) fun h => ?_
      ·refine Am ?_
       refine AS h (fun v12 => mk [(3, oD (.own 2007)), (4, iD v1.2), (6, iD v5.2), (11, pD (.sl (p0.fG.map AG))), (12, iD ((p0.fG.length : Int))), (13, iD v1.2), (19, pD (.sl (v4.fO.map (Fa eB)))), (20, iD ((v4.fO.length : Int))), (21, iD v5.2), (26, pD (.sl (v8.map eB))), (27, iD ((v8.length : Int))), (28, iD v9.2)] [(2007, .vec 3 (v12.map Ad))]) (fun j12 h => ?_) (fun v12 h => ?_)
       ·refine AM (wq rfl (qm rfl ?_))
        refine BK h fun v13 a13 b13 h => qi Ew Ms a13 (Ai b13) rfl (qk TG rfl (qa rfl (qa rfl (Ac (wq rfl (qm rfl (CP rfl (Ac ?_))))))))
        refine Bc h (fun h => ?_) fun h => ?_
        ·refine Aj Ay rfl (qw 4 rfl (Bd GH QX rfl (Eg Bb CQ GH rfl ?_)))
         refine FO h fun c15 h => DI (f := Ad) Bb Bb CQ Lp GH c15 rfl (qe rfl ?_)
         exact sn [(2007, 41)] h
        ·refine Am ?_
         exact sn [(2007, 2005)] h
       ·refine Aj Ay rfl (AZ rfl (qm rfl (Ac ?_)))
        exact sn [(2005, 2007)] h
      ·refine AT ?_
       exact sn [(2006, 2005)] h
     ·refine Ah hs (Aj Ay rfl (AZ rfl (qm rfl (Ac ?_))))
      exact sn [(2003, 2006)] h
    ·refine AT ?_
     exact sn [(2004, 2003)] h
   ·refine Ah hs (Aj Ay rfl (AZ rfl (qm rfl (Ac ?_))))
    exact sn [(2001, 2004)] h
  ·refine AT ?_
   exact sn [(2002, 2001)] h
 ·refine Ah hs (wq rfl (qm rfl (qe rfl ?_)))
  obtain rfl := sj h
  refine Ah (sm [(1000, 2002)] [(2, oD (.own 1000))] [(1000, .vec 3 (v2.map Ad))] rfl rfl) (Ar ?_)
  exact ⟨⟨[_], tm, rfl⟩, ⟨rfl, tv⟩⟩
theorem Kc (N : Nat) (p0 : Ab) (r : (List Aa) × Int) (h : E1 N p0 = some r) : Au Tryz.prog 21 [.e (.agg (Ag p0))] [(3, r.1.map Ad)] (.tup [.one (.own 0), .one (iC r.2)]) := by
 unfold E1 at h
 refine cw (n := 12) (rs := [.tmp 2, .tmp 3]) Tryz.func21 fun w0 S0 => ?_
 refine wq rfl (qb rfl (qa rfl (qa rfl (Ac (wp rfl (qL Cu BF rfl ?_))))))
 refine B7 h fun v1 a1 h => AA [] (Em N p0 v1 a1) W2 rfl (qa rfl (Ac (wq rfl (qm rfl (BS rfl (Ac ?_))))))
 refine Bc h (fun h => ?_) fun h => ?_
 ·refine wq rfl (qm rfl (qa rfl (qe rfl ?_)))
  obtain rfl := sj h
  refine Ah ((AY 2 2001 3 rfl rfl rfl).trans (sm [(1000, 2001)] [(2, oD (.own 1000)), (3, iD v1)] [(1000, .vec 3 ((([] : List Aa)).map Ad))] rfl rfl)) (Ar ?_)
  exact ⟨⟨[_, _], ⟨.tmp _ _ rfl, tm⟩, rfl⟩, ⟨rfl, tv⟩⟩
 ·refine Am (wq rfl (qL Cu BF rfl ?_))
  refine B7 h fun v3 a3 h => AA [2002] (Ii N p0 v3 a3) aW rfl (qa rfl (qe rfl ?_))
  obtain rfl := sj h
  refine Ah (sm [(1000, 2002)] [(2, oD (.own 1000)), (3, iD 0)] [(1000, .vec 3 (v3.map Ad))] rfl rfl) (Ar ?_)
  exact ⟨⟨[_, _], ⟨.tmp _ _ rfl, tm⟩, rfl⟩, ⟨rfl, tv⟩⟩
open IntKind renaming wrap → wI
theorem OI (N : Nat) (rc : (List Aa) → Int → Option ((List (List Aa)))) (hrc : ∀ (p0 : List Aa) (p1 : Int) (r : (List (List Aa))), rc p0 p1 = some r → Au Tryz.prog 51 [pD (.sl (p0.map Ad)), iD p1] [(1, r.map (Fa Ad))] (oD (.own 0))) (p0 : List Aa) (p1 : Int) (r : (List (List Aa))) (h : GT N rc p0 p1 = some r) : Au Tryz.prog 51 [pD (.sl (p0.map Ad)), iD p1] [(1, r.map (Fa Ad))] (oD (.own 0)) := by
 unfold GT at h
 refine cw (n := 42) (rs := [.tmp 4]) Tryz.func51 fun w0 S0 => ?_
 refine wq rfl (qa rfl (Ac (wp rfl (qm rfl (B6 rfl (Ac ?_))))))
 refine Bc h (fun h => ?_) fun h => ?_
 ·refine wq rfl (Eg Ka Tf XA rfl (qe rfl ?_))
  obtain rfl := sj h
  refine Ah (sm [(1000, 12)] [(4, oD (.own 1000))] [(1000, .vec 1 ((([([] : List Aa)] : List (List Aa))).map (Fa Ad)))] rfl rfl) (Ar ?_)
  exact ⟨⟨[_], tm, rfl⟩, ⟨rfl, tv⟩⟩
 ·refine Am (wq rfl (qa rfl (Ac (wp rfl (qm rfl (AO Bb rfl (qm rfl (Ac ?_))))))))
  refine AH (L := DC N p0 p1 rc) h (fun v2 => mk [(0, pD (.sl (p0.map Ad))), (1, iD p1), (5, oD (.own 2001)), (13, pD (.sl (p0.map Ad))), (14, iD ((p0.length : Int))), (15, iD v2.2)] [(2001, .vec 1 (v2.1.map (Fa Ad)))]) (fun v3 => mk [(5, oD (.own 2002))] [(2002, .vec 1 (v3.map (Fa Ad)))]) (fun _ _ => rfl) ((AY 5 2007 1 rfl rfl rfl).trans (sm [(2001, 2007)] _ _ rfl rfl)) (fun j2 n2 v2 h => ?_) (fun v3 s h hs => ?_)
  ·unfold DC at h
   refine wq rfl (AV rfl (Ac (AQ ?_)))
   refine Bc h (fun h => ?_) fun h => ?_
   ·refine Am (AQ (AM (wq rfl (qm rfl ?_))))
    refine BK h fun v5 a5 b5 h => qi Bb CQ a5 (Ai b5) rfl (qK ID CQ rfl (qz GH rfl (qa rfl (qs CQ rfl (Ac (wq rfl (qw 2 rfl (AZ rfl ?_))))))))
    refine FO h fun c6 h => RW (.p rfl) rfl Bb CQ (Ls (f := Ad) (n := 3) (fun _ => rfl) _) (.some _ _ _ _ c6.1) (.none _) ⟨rfl, tv⟩ tv (by have := c6.2.1; (try simp only [List.length_map]); omega) (by have := c6.2.2; (try simp only [List.length_map]); omega) (Qq Ad p0 _ _ (p0.length - ((wI .i64 (v2.2 + 1))).toNat) (by rw [List.length_map])) ?_
    refine qm rfl (O3 rfl ?_)
    refine B7 h fun v7 a7 h => AA [2003] (hrc (((p0.drop ((wI .i64 (v2.2 + 1))).toNat).take (p0.length - ((wI .i64 (v2.2 + 1))).toNat))) ((wI .i64 (p1 - 1))) v7 a7) ec rfl (Dm Ka rfl (qm rfl (Ac ?_)))
    refine AH (L := D9 N v5 v7) h (fun v8 => mk [(0, pD (.sl (p0.map Ad))), (1, iD p1), (5, oD (.own 2004)), (7, oD (.ptr 7 0)), (13, pD (.sl (p0.map Ad))), (14, iD ((p0.length : Int))), (15, iD v2.2), (26, oD (.own 2005)), (27, iD ((v7.length : Int))), (28, iD v8.2)] [(7, .box (E8 v5)), (2004, .vec 1 (v8.1.map (Fa Ad))), (2005, .vec 1 (v7.map (Fa Ad)))]) (fun v9 => mk [(0, pD (.sl (p0.map Ad))), (1, iD p1), (5, oD (.own 2006)), (13, pD (.sl (p0.map Ad))), (14, iD ((p0.length : Int))), (15, iD v2.2)] [(2006, .vec 1 (v9.map (Fa Ad)))]) (fun _ _ => rfl) (sm [(2004, 2001), (2005, 2003)] _ _ rfl rfl) (fun j8 n8 v8 h => ?_) (fun v9 s h hs => ?_)
    ·unfold D9 at h
     refine wq rfl (AV rfl (Ac (AQ ?_)))
     refine Bc h (fun h => ?_) fun h => ?_
     ·refine Am (AQ (AM (wq rfl ?_)))
      refine BK h fun v11 a11 b11 h => qI Ka Tf a11 (Ai b11) rfl (qj aY (Ai b11) rfl (qa rfl (Ac (Aj Ay rfl (qm rfl (qL ID CQ rfl (Eg Bb CQ GH rfl (qm rfl ?_))))))))
      refine FO h fun c12 h => GE (f := Ad) Bb Bb CQ Lp GH (fun _ => rfl) c12 rfl (Ev (BC 36 _ _ rfl rfl) (Eg Ka Tf XA rfl ?_))
      refine FO h fun c13 h => DI (f := (Fa Ad)) Ka Ka Tf aQ XA c13 rfl (qa rfl (Ac (Aj Ay rfl (AZ rfl (qm rfl (Ac ?_))))))
      exact sn [(2004, 38)] h
     ·refine AT ?_
      exact sn [(2006, 2004)] h
    ·refine Ah hs (Aj Ay rfl (AZ rfl (qm rfl (Ac ?_))))
     exact sn [(2001, 2006)] h
   ·refine AT ?_
    exact sn [(2002, 2001)] h
  ·refine Ah hs (wq rfl (qm rfl (qe rfl ?_)))
   obtain rfl := sj h
   refine Ah (sm [(1000, 2002)] [(4, oD (.own 1000))] [(1000, .vec 1 (v3.map (Fa Ad)))] rfl rfl) (Ar ?_)
   exact ⟨⟨[_], tm, rfl⟩, ⟨rfl, tv⟩⟩
theorem KJ (N : Nat) : ∀ (k : Nat) (p0 : List Aa) (p1 : Int) (r : (List (List Aa))), DU N k p0 p1 = some r → Au Tryz.prog 51 [pD (.sl (p0.map Ad)), iD p1] [(1, r.map (Fa Ad))] (oD (.own 0))
 | 0, _, _, _, h => by cases h
 | k + 1, p0, p1, r, h => OI N (DU N k) (KJ N k) p0 p1 r h
theorem PX (N : Nat) (p0 : List Aa) (p1 : Int) (r : (List (List Aa))) (h : I5 N p0 p1 = some r) : Au Tryz.prog 51 [pD (.sl (p0.map Ad)), iD p1] [(1, r.map (Fa Ad))] (oD (.own 0)) := KJ N N p0 p1 r h
theorem CA (N : Nat) (p0 : List Int) (r : (List Int)) (h : A0 N p0 = some r) : Au Tryz.prog 60 [pD (.sl (p0.map Aq))] [(1, r.map Aq)] (oD (.own 0)) := by
 unfold A0 at h
 refine cw (n := 8) (rs := [.tmp 2]) Tryz.func60 fun w0 S0 => ?_
 refine wq rfl (qa rfl (Ac (wp rfl (qm rfl ?_))))
 refine NB (.p rfl) rfl AC ?_
 refine Ac ?_
 refine NQ rfl (fun c2 => ?_) ?_
 ·have c2 := List.map_eq_nil_iff.1 c2
  rw [c2] at h
  have h : (some (([] : List Int))) = some r := h
  refine wq rfl (qe rfl ?_)
  obtain rfl := sj h
  refine Ah ((AY 2 2001 1 rfl rfl rfl).trans (sm [(1000, 2001)] [(2, oD (.own 1000))] [(1000, .vec 1 ((([] : List Int)).map Aq))] rfl rfl)) (Ar ?_)
  exact ⟨⟨[_], tm, rfl⟩, ⟨rfl, tv⟩⟩
 ·refine Am (wq rfl (Eg AC DH KV rfl (qm rfl ?_)))
  refine FO h fun c1 h => GE (f := Aq) AC AC DH LS KV (fun _ => rfl) c1 rfl (qe rfl ?_)
  obtain rfl := sj h
  refine Ah (sm [(1000, 7)] [(2, oD (.own 1000))] [(1000, .vec 1 (((([] : List Int)) ++ p0).map Aq))] rfl rfl) (Ar ?_)
  exact ⟨⟨[_], tm, rfl⟩, ⟨rfl, tv⟩⟩
theorem Hw (N : Nat) (p0 : List (List Bool)) (r : (List (List Bool))) (h : Da N p0 = some r) : Au Tryz.prog 138 [pD (.sl (p0.map (Fa eB)))] [(1, r.map (Fa eB))] (oD (.own 0)) := by
 unfold Da at h
 refine cw (n := 8) (rs := [.tmp 2]) Tryz.func138 fun w0 S0 => ?_
 refine wq rfl (qa rfl (Ac (wp rfl (qm rfl ?_))))
 refine NB (.p rfl) rfl Dx ?_
 refine Ac ?_
 refine NQ rfl (fun c2 => ?_) ?_
 ·have c2 := List.map_eq_nil_iff.1 c2
  rw [c2] at h
  have h : (some (([] : List (List Bool)))) = some r := h
  refine wq rfl (qe rfl ?_)
  obtain rfl := sj h
  refine Ah ((AY 2 2001 1 rfl rfl rfl).trans (sm [(1000, 2001)] [(2, oD (.own 1000))] [(1000, .vec 1 ((([] : List (List Bool))).map (Fa eB)))] rfl rfl)) (Ar ?_)
  exact ⟨⟨[_], tm, rfl⟩, ⟨rfl, tv⟩⟩
 ·refine Am (wq rfl (Eg Dx H5 SP rfl (qm rfl ?_)))
  refine FO h fun c1 h => GE (f := (Fa eB)) Dx Dx H5 VX SP (fun _ => rfl) c1 rfl (qe rfl ?_)
  obtain rfl := sj h
  refine Ah (sm [(1000, 7)] [(2, oD (.own 1000))] [(1000, .vec 1 (((([] : List (List Bool))) ++ p0).map (Fa eB)))] rfl rfl) (Ar ?_)
  exact ⟨⟨[_], tm, rfl⟩, ⟨rfl, tv⟩⟩
theorem Hh (N : Nat) (p0 : List Bool) (r : (List Bool)) (h : CO N p0 = some r) : Au Tryz.prog 139 [pD (.sl (p0.map eB))] [(1, r.map eB)] (oD (.own 0)) := by
 unfold CO at h
 refine cw (n := 8) (rs := [.tmp 2]) Tryz.func139 fun w0 S0 => ?_
 refine wq rfl (qa rfl (Ac (wp rfl (qm rfl ?_))))
 refine NB (.p rfl) rfl Ew ?_
 refine Ac ?_
 refine NQ rfl (fun c2 => ?_) ?_
 ·have c2 := List.map_eq_nil_iff.1 c2
  rw [c2] at h
  have h : (some (([] : List Bool))) = some r := h
  refine wq rfl (qe rfl ?_)
  obtain rfl := sj h
  refine Ah ((AY 2 2001 1 rfl rfl rfl).trans (sm [(1000, 2001)] [(2, oD (.own 1000))] [(1000, .vec 1 ((([] : List Bool)).map eB))] rfl rfl)) (Ar ?_)
  exact ⟨⟨[_], tm, rfl⟩, ⟨rfl, tv⟩⟩
 ·refine Am (wq rfl (Eg Ew Ms WA rfl (qm rfl ?_)))
  refine FO h fun c1 h => GE (f := eB) Ew Ew Ms W8 WA (fun _ => rfl) c1 rfl (qe rfl ?_)
  obtain rfl := sj h
  refine Ah (sm [(1000, 7)] [(2, oD (.own 1000))] [(1000, .vec 1 (((([] : List Bool)) ++ p0).map eB))] rfl rfl) (Ar ?_)
  exact ⟨⟨[_], tm, rfl⟩, ⟨rfl, tv⟩⟩
theorem OH (N : Nat) (p0 : Ao) (r : Ao) (h : FY N p0 = some r) : D1 Tryz.prog 109 [.e (.agg (Bg p0))] [] [.dvec 1 [.x 1 []] (r.fO.map (Fa eB)), .dvec 1 [.x 1 []] (r.fR.map (Fa eB))] (.e (.agg [iC r.fJ, iC r.fK, iC r.fP, .pure (.val (.bool r.fS)), .own 0, .own 1])) := by
 unfold FY at h
 refine Fb (n := 48) (rs := [.cell 2 76]) Tryz.func109 rfl rfl rfl (Hn rfl) (Hn rfl) rfl rfl (Hn rfl) rfl (Hn rfl) fun w0 S0 GL => ?_
 refine Ah (sm [] [(0, .e (.agg (Bg p0)))] [] rfl rfl) (wq rfl (qb rfl (qz Jf rfl (Ac (wq rfl (qf EP rfl (ql GZ rfl ?_)))))))
 refine B7 h fun v1 a1 h => AA [2001] (Hw N p0.fO v1 a1) aP rfl (qf EQ rfl (ql GZ rfl ?_))
 refine B7 h fun v2 a2 h => AA [2002] (Hw N p0.fR v2 a2) aP rfl (qf EP rfl (qs TI rfl (qf EQ rfl (qs TI rfl (AP (by kernel_rfl) (wp rfl (qf EP rfl (ql GZ rfl (Dm Dx rfl (qm rfl (Ac (Ah (T1 2001 1 [.x 1 []] _ rfl) ?_))))))))))))
 refine AH (L := DF N v1) h (fun v3 => mk [(1, oD (.ptr 1 0)), (2, oD (.ptr 2 0)), (15, iD ((v1.length : Int))), (16, iD v3.2)] [(1, .box [iC p0.fJ, iC p0.fK, iC p0.fP, .pure (.val (.bool p0.fS)), .own 2003, .own 2004]), (2, .box [iC 0, iC 0, iC 0, .pure (.val (.bool false)), .pure (.nil0), .pure (.nil0)]), (2003, .pvec ((v3.2).toNat) 1 [.x 1 []] (v3.1.map (Fa eB))), (2004, .vec 1 (v2.map (Fa eB)))]) (fun v4 => mk [(1, oD (.ptr 1 0)), (2, oD (.ptr 2 0))] [(1, .box [iC p0.fJ, iC p0.fK, iC p0.fP, .pure (.val (.bool p0.fS)), .own 2005, .own 2006]), (2, .box [iC 0, iC 0, iC 0, .pure (.val (.bool false)), .pure (.nil0), .pure (.nil0)]), (2005, .dvec 1 [.x 1 []] (v4.map (Fa eB))), (2006, .vec 1 (v2.map (Fa eB)))]) (fun _ _ => rfl) (sm [(2003, 2001), (2004, 2002)] _ _ rfl rfl) (fun j3 n3 v3 h => ?_) (fun v4 s h hs => ?_)
 ·unfold DF at h
  refine wq rfl (AV rfl (Ac (AQ ?_)))
  refine Bc h (fun h => ?_) fun h => ?_
  ·refine Am (AQ (AM (wq rfl (qm rfl (qa rfl (Ac (Aj Ay rfl (qf EP rfl (ql GZ rfl (qm rfl (qf EP rfl (ql GZ rfl (qm rfl ?_)))))))))))))
   refine BK h fun v6 a6 b6 h => HH (.p rfl) rfl rfl rfl (Pl (Fa eB) v3.1 _ _ _) Dx H5 a6 (Ax b6) ?_
   refine TR (.p rfl) rfl Lq rfl (Ai b6) rfl (Nat.le_refl _) ?_
   refine B7 h fun v7 a7 h => AA [2007] (Hh N v6 v7 a7) aO rfl ?_
   refine BK h fun v8 a8 b8 h => HH (.p rfl) rfl rfl rfl (Pl (Fa eB) v3.1 _ _ _) Dx H5 a8 (Ax b8) ?_
   refine Rb rfl rfl rfl rfl (rows2 := v7.map eB) (cols2 := []) rfl rfl (Ai b8) rfl H5 rfl rfl (C8 (Fa eB) v3.1 _ v7) ?_
   refine AP (by kernel_rfl) (Aj Ay rfl (AZ rfl (qm rfl (Ac ?_))))
   exact FO h fun c9 h => WI _ h ((Ur 2003 rfl c9).trans (sm [] _ _ rfl rfl))
  ·refine AT ?_
   exact FO h fun c10 h => WI _ h ((UB 2003 rfl (by rw [List.length_map]; exact c10)).trans (sm [(2005, 2003), (2006, 2004)] _ _ rfl rfl))
 ·refine Ah hs (wp rfl (qf EQ rfl (ql GZ rfl (Dm Dx rfl (qm rfl (Ac (Ah (T1 2006 1 [.x 1 []] _ rfl) ?_)))))))
  refine AH (L := BW N v2) h (fun v11 => mk [(1, oD (.ptr 1 0)), (2, oD (.ptr 2 0)), (32, iD ((v2.length : Int))), (33, iD v11.2)] [(1, .box [iC p0.fJ, iC p0.fK, iC p0.fP, .pure (.val (.bool p0.fS)), .own 2008, .own 2009]), (2, .box [iC 0, iC 0, iC 0, .pure (.val (.bool false)), .pure (.nil0), .pure (.nil0)]), (2008, .dvec 1 [.x 1 []] (v4.map (Fa eB))), (2009, .pvec ((v11.2).toNat) 1 [.x 1 []] (v11.1.map (Fa eB)))]) (fun v12 => mk [(1, oD (.ptr 1 0)), (2, oD (.ptr 2 0))] [(1, .box [iC p0.fJ, iC p0.fK, iC p0.fP, .pure (.val (.bool p0.fS)), .own 2010, .own 2011]), (2, .box [iC 0, iC 0, iC 0, .pure (.val (.bool false)), .pure (.nil0), .pure (.nil0)]), (2010, .dvec 1 [.x 1 []] (v4.map (Fa eB))), (2011, .dvec 1 [.x 1 []] (v12.map (Fa eB)))]) (fun _ _ => rfl) (sm [(2008, 2005), (2009, 2006)] _ _ rfl rfl) (fun j11 n11 v11 h => ?_) (fun v12 s h hs => ?_)
  ·unfold BW at h
   refine wq rfl (AV rfl (Ac (AQ ?_)))
   refine Bc h (fun h => ?_) fun h => ?_
   ·refine Am (AQ (AM (wq rfl (qm rfl (qa rfl (Ac (Aj Ay rfl (qf EQ rfl (ql GZ rfl (qm rfl (qf EQ rfl (ql GZ rfl (qm rfl ?_)))))))))))))
    refine BK h fun v14 a14 b14 h => HH (.p rfl) rfl rfl rfl (Pl (Fa eB) v11.1 _ _ _) Dx H5 a14 (Ax b14) ?_
    refine TR (.p rfl) rfl Lq rfl (Ai b14) rfl (Nat.le_refl _) ?_
    refine B7 h fun v15 a15 h => AA [2012] (Hh N v14 v15 a15) aO rfl ?_
    refine BK h fun v16 a16 b16 h => HH (.p rfl) rfl rfl rfl (Pl (Fa eB) v11.1 _ _ _) Dx H5 a16 (Ax b16) ?_
    refine Rb rfl rfl rfl rfl (rows2 := v15.map eB) (cols2 := []) rfl rfl (Ai b16) rfl H5 rfl rfl (C8 (Fa eB) v11.1 _ v15) ?_
    refine AP (by kernel_rfl) (Aj Ay rfl (AZ rfl (qm rfl (Ac ?_))))
    exact FO h fun c17 h => WI _ h ((Ur 2009 rfl c17).trans (sm [] _ _ rfl rfl))
   ·refine AT ?_
    exact FO h fun c18 h => WI _ h ((UB 2009 rfl (by rw [List.length_map]; exact c18)).trans (sm [(2010, 2008), (2011, 2009)] _ _ rfl rfl))
  ·refine Ah hs (wq rfl (qL G6 C1 rfl (qs C1 rfl (Ac ?_))))
   obtain rfl := sj h
   refine Ah (sm [(1000, 2010), (1001, 2011)] [(2, oD (.ptr 2 0))] [(2, .box [iC p0.fJ, iC p0.fK, iC p0.fP, .pure (.val (.bool p0.fS)), .own 1000, .own 1001]), (1000, .dvec 1 [.x 1 []] (v4.map (Fa eB))), (1001, .dvec 1 [.x 1 []] (v12.map (Fa eB)))] rfl rfl) (Ar ?_)
   exact ⟨⟨[_], ⟨.cellN _ _ _ _ _ _ _ rfl rfl G6 C1 rfl rfl (Jw rfl), tv⟩, rfl⟩, tv, ⟨rfl, rfl, tv⟩⟩
theorem Np (N : Nat) (p0 : Ab) (p1 : List Int) (p2 : List Int) (r : Ab × Int) (h : FL N p0 p1 p2 = some r) : D1 Tryz.prog 75 [.e (.agg (Ag p0)), pD (.sl (p1.map Aq)), pD (.sl (p2.map Aq))] [] [.vec 1 (r.1.fF.map Aq), .vec 1 (r.1.fL.map Aq), .vec 1 (r.1.fQ.map Aq), .dvec 6 [.s, .s, .s, .s, .x 1 [.x 1 []], .x 1 [.x 1 []]] (r.1.fG.map AG)] (.tup [.agg [.own 0, .own 1, .own 2, .own 3], .one (iC r.2)]) := by
 unfold FL at h
 refine Fb (n := 49) (rs := [.cell 6 29, .tmp 7]) Tryz.func75 rfl rfl rfl (Hn rfl) (Hn rfl) rfl rfl (Hn rfl) rfl (Hn rfl) fun w0 S0 GL => ?_
 refine Ah (sm [] [(0, .e (.agg (Ag p0))), (1, pD (.sl (p1.map Aq))), (2, pD (.sl (p2.map Aq)))] [] rfl rfl) (wq rfl (qb rfl (qz J0 rfl (qa rfl (Ac (wp rfl (qL Cu BF rfl ?_)))))))
 refine B7 h fun v1 a1 h => AA [] (Em N p0 v1 a1) W2 rfl (qa rfl (Ac (wq rfl (qm rfl (BS rfl (Ac ?_))))))
 refine Bc h (fun h => ?_) fun h => ?_
 ·refine wq rfl (Bd J0 Uw rfl (qm rfl (qs BF rfl (qe rfl ?_))))
  obtain rfl := sj h
  refine Ah ((Av 6 0 2001 1 _ rfl rfl rfl rfl).trans ((Av 6 1 2002 1 _ rfl rfl rfl rfl).trans ((Av 6 2 2003 1 _ rfl rfl rfl rfl).trans ((Av 6 3 2004 6 _ rfl rfl rfl rfl).trans ((H4 2004 6 [.s, .s, .s, .s, .x 1 [.x 1 []], .x 1 [.x 1 []]] [] [] rfl rfl).trans (sm [(1000, 2001), (1001, 2002), (1002, 2003), (1003, 2004)] [(6, oD (.ptr 6 0)), (7, iD v1)] [(6, .box [.own 1000, .own 1001, .own 1002, .own 1003]), (1000, .vec 1 ((([] : List Int)).map Aq)), (1001, .vec 1 ((([] : List Int)).map Aq)), (1002, .vec 1 ((([] : List Int)).map Aq)), (1003, .dvec 6 [.s, .s, .s, .s, .x 1 [.x 1 []], .x 1 [.x 1 []]] ((([] : List Ao)).map AG))] rfl rfl)))))) (Ar ?_)
  exact ⟨⟨[_, _], ⟨.cellN _ _ _ _ _ _ _ rfl rfl Cu BF rfl rfl (Jw rfl), tm⟩, rfl⟩, tv, ⟨rfl, rfl, rfl, rfl, tv⟩⟩
 ·refine Am (wq rfl (qf Bs rfl (ql A7 rfl ?_)))
  refine B7 h fun v3 a3 h => AA [2005] (CA N p0.fF v3 a3) T7 rfl (qm rfl ?_)
  refine B7 h fun v4 a4 h => AA [2006] (CA N p1 v4 a4) T7 rfl (qm rfl ?_)
  refine B7 h fun v5 a5 h => AA [2007] (CA N p2 v5 a5) T7 rfl (Bd J0 Uw rfl (qz J0 rfl (qs BF rfl (Ac (wp rfl (qf Bw rfl (ql F0 rfl (AO CK rfl (qm rfl (Ac ?_))))))))))
  refine AH (L := Dn N p0) h (fun v6 => mk [(6, oD (.ptr 6 0)), (9, oD (.ptr 9 0)), (28, pD (.sl (p0.fG.map AG))), (29, iD ((p0.fG.length : Int))), (30, iD v6.2)] [(6, .box [.pure (.nil0), .pure (.nil0), .pure (.nil0), .pure (.nil0)]), (9, .box [.own 2008, .own 2009, .own 2010, .own 2011]), (2008, .vec 1 (v3.map Aq)), (2009, .vec 1 (v4.map Aq)), (2010, .vec 1 (v5.map Aq)), (2011, .dvec 6 [.s, .s, .s, .s, .x 1 [.x 1 []], .x 1 [.x 1 []]] (v6.1.map AG))]) (fun v7 => mk [(6, oD (.ptr 6 0)), (9, oD (.ptr 9 0))] [(6, .box [.pure (.nil0), .pure (.nil0), .pure (.nil0), .pure (.nil0)]), (9, .box [.own 2012, .own 2013, .own 2014, .own 2015]), (2012, .vec 1 (v3.map Aq)), (2013, .vec 1 (v4.map Aq)), (2014, .vec 1 (v5.map Aq)), (2015, .dvec 6 [.s, .s, .s, .s, .x 1 [.x 1 []], .x 1 [.x 1 []]] (v7.map AG))]) (fun _ _ => rfl) ((Av 9 3 2018 6 _ rfl rfl rfl rfl).trans ((H4 2018 6 [.s, .s, .s, .s, .x 1 [.x 1 []], .x 1 [.x 1 []]] [] [] rfl rfl).trans (sm [(2008, 2005), (2009, 2006), (2010, 2007), (2011, 2018)] _ _ rfl rfl))) (fun j6 n6 v6 h => ?_) (fun v7 s h hs => ?_)
  ·unfold Dn at h
   refine wq rfl (AV rfl (Ac (AQ ?_)))
   refine Bc h (fun h => ?_) fun h => ?_
   ·refine Am (AQ (AM (wq rfl ?_)))
    refine BK h fun v9 a9 b9 h => qi CK C1 a9 (Ai b9) rfl (qK G6 C1 rfl (qz Jf rfl (qs C1 rfl (Ac (Aj Ay rfl (qf Bw rfl (ql F0 rfl (qL G6 C1 rfl ?_))))))))
    refine B7 h fun v10 a10 h => Ji (ds0 := [_]) [] [2016, 2017] [] (OH N v9 v10 a10) (.p rfl) cR rfl ⟨rfl, tv⟩ rfl rfl (by decide) tv rfl (FD rfl) ⟨rfl, rfl, tv⟩ tv rfl rfl rfl ?_
    refine IL (x := .agg [iC v10.fJ, iC v10.fK, iC v10.fP, .pure (.val (.bool v10.fS)), .own 2016, .own 2017]) (cs := [iC v10.fJ, iC v10.fK, iC v10.fP, .pure (.val (.bool v10.fS)), .own 2016, .own 2017]) (ts := [.val (.int .i64 v10.fJ), .val (.int .i64 v10.fK), .val (.int .i64 v10.fP), .val (.bool v10.fS), .sl (v10.fO.map (Fa eB)), .sl (v10.fR.map (Fa eB))]) [.s, .s, .s, .s, .x 1 [.x 1 []], .x 1 [.x 1 []]] [(2016, .dvec 1 [.x 1 []] (v10.fO.map (Fa eB))), (2017, .dvec 1 [.x 1 []] (v10.fR.map (Fa eB)))] (.p rfl) rfl rfl rfl rfl rfl ⟨rfl, rfl, tv⟩ ⟨rfl, rfl, rfl, rfl, rfl, rfl, tv⟩ rfl rfl rfl CK C1 Jf (Hn rfl) ?_
    refine FO h fun c11 h => KC (.p rfl) rfl rfl rfl rfl rfl (by decide) CK CK C1 Yg (Hn rfl) Jf rfl (Ny (f := AG) (g := AG) (xs := v6.1) (ys := (([v10] : List Ao))) c11) (Nb AG v6.1 (([v10] : List Ao))) rfl rfl ?_
    refine qf Bw rfl (qs bO rfl (AP (by kernel_rfl) (Aj Ay rfl (AZ rfl (qm rfl (Ac ?_))))))
    exact sn [(2011, 39)] h
   ·refine AT ?_
    exact sn [(2012, 2008), (2013, 2009), (2014, 2010), (2015, 2011)] h
  ·refine Ah hs (wp rfl (qL Cu BF rfl ?_))
   refine B7 h fun v12 a12 h => Dt [] [2012, 2013, 2014, 2015] (Em N ((Ab.mk v3 v4 v5 v7)) v12 a12) W2 BP rfl (qa rfl (Ac (wq rfl (qm rfl (BS rfl (Ac ?_))))))
   refine Bc h (fun h => ?_) fun h => ?_
   ·refine wq rfl (Bd J0 Uw rfl (qm rfl (qs BF rfl (qe rfl ?_))))
    obtain rfl := sj h
    refine Ah ((Av 6 0 2019 1 _ rfl rfl rfl rfl).trans ((Av 6 1 2020 1 _ rfl rfl rfl rfl).trans ((Av 6 2 2021 1 _ rfl rfl rfl rfl).trans ((Av 6 3 2022 6 _ rfl rfl rfl rfl).trans ((H4 2022 6 [.s, .s, .s, .s, .x 1 [.x 1 []], .x 1 [.x 1 []]] [] [] rfl rfl).trans (sm [(1000, 2019), (1001, 2020), (1002, 2021), (1003, 2022)] [(6, oD (.ptr 6 0)), (7, iD v12)] [(6, .box [.own 1000, .own 1001, .own 1002, .own 1003]), (1000, .vec 1 ((([] : List Int)).map Aq)), (1001, .vec 1 ((([] : List Int)).map Aq)), (1002, .vec 1 ((([] : List Int)).map Aq)), (1003, .dvec 6 [.s, .s, .s, .s, .x 1 [.x 1 []], .x 1 [.x 1 []]] ((([] : List Ao)).map AG))] rfl rfl)))))) (Ar ?_)
    exact ⟨⟨[_, _], ⟨.cellN _ _ _ _ _ _ _ rfl rfl Cu BF rfl rfl (Jw rfl), tm⟩, rfl⟩, tv, ⟨rfl, rfl, rfl, rfl, tv⟩⟩
   ·refine Am (wq rfl (qL Cu BF rfl (qs BF rfl (qe rfl ?_))))
    obtain rfl := sj h
    refine Ah (sm [(1000, 2012), (1001, 2013), (1002, 2014), (1003, 2015)] [(6, oD (.ptr 6 0)), (7, iD 0)] [(6, .box [.own 1000, .own 1001, .own 1002, .own 1003]), (1000, .vec 1 (v3.map Aq)), (1001, .vec 1 (v4.map Aq)), (1002, .vec 1 (v5.map Aq)), (1003, .dvec 6 [.s, .s, .s, .s, .x 1 [.x 1 []], .x 1 [.x 1 []]] (v7.map AG))] rfl rfl) (Ar ?_)
    exact ⟨⟨[_, _], ⟨.cellN _ _ _ _ _ _ _ rfl rfl Cu BF rfl rfl (Jw rfl), tm⟩, rfl⟩, tv, ⟨rfl, rfl, rfl, rfl, tv⟩⟩
theorem PH (N : Nat) (p0 : Ab) (p1 : List Aa) (r : Ab) (h : GK N p0 p1 = some r) : Au Tryz.prog 47 [.e (.agg (Ag p0)), pD (.sl (p1.map Ad))] [(1, r.fF.map Aq), (1, r.fL.map Aq), (1, r.fQ.map Aq)] (.e (.agg [.own 0, .own 1, .own 2, sC (r.fG.map AG)])) := by
 unfold GK at h
 refine cw (n := 40) (rs := [.cell 4 29]) Tryz.func47 fun w0 S0 => ?_
 refine wq rfl (qb rfl (qz J0 rfl (Ac (wq rfl (qL Cu BF rfl (qf GV rfl (ql A7 rfl (qf If rfl (ql A7 rfl ?_)))))))))
 refine B7 h fun v1 a1 h => Ji (ds0 := [_, _, _]) [] [2001, 2002, 2003, 2004] [] (Np N p0 p0.fL p0.fQ v1 a1) (.p rfl) ev rfl ⟨rfl, rfl, rfl, tv⟩ rfl rfl (by decide) tv rfl (FD rfl) ⟨rfl, rfl, rfl, rfl, tv⟩ tv rfl rfl rfl ?_
 refine qm rfl (qx rfl (qx rfl (qz J0 rfl (qs BF rfl (qa rfl (Ac (wp rfl (qm rfl (AO Bb rfl (qm rfl (Ac ?_)))))))))))
 refine AH (L := Ef N p1) h (fun v2 => mk [(4, oD (.ptr 4 0)), (5, oD (.ptr 5 0)), (18, pD (.sl (p1.map Ad))), (19, iD ((p1.length : Int))), (20, iD v2.2)] [(4, .box [.pure (.nil0), .pure (.nil0), .pure (.nil0), .pure (.nil0)]), (5, .box [.own 2005, .own 2006, .own 2007, .own 2008]), (2005, .vec 1 (v1.1.fF.map Aq)), (2006, .vec 1 (v1.1.fL.map Aq)), (2007, .vec 1 (v1.1.fQ.map Aq)), (2008, .dvec 6 [.s, .s, .s, .s, .x 1 [.x 1 []], .x 1 [.x 1 []]] (v2.1.map AG))]) (fun v3 => mk [(4, oD (.ptr 4 0)), (5, oD (.ptr 5 0))] [(4, .box [.pure (.nil0), .pure (.nil0), .pure (.nil0), .pure (.nil0)]), (5, .box [.own 2009, .own 2010, .own 2011, .own 2012]), (2009, .vec 1 (v1.1.fF.map Aq)), (2010, .vec 1 (v1.1.fL.map Aq)), (2011, .vec 1 (v1.1.fQ.map Aq)), (2012, .dvec 6 [.s, .s, .s, .s, .x 1 [.x 1 []], .x 1 [.x 1 []]] (v3.map AG))]) (fun _ _ => rfl) (sm [(2005, 2001), (2006, 2002), (2007, 2003), (2008, 2004)] _ _ rfl rfl) (fun j2 n2 v2 h => ?_) (fun v3 s h hs => ?_)
 ·unfold Ef at h
  refine wq rfl (AV rfl (Ac (AQ ?_)))
  refine Bc h (fun h => ?_) fun h => ?_
  ·refine Am (AQ (AM (wq rfl ?_)))
   refine BK h fun v5 a5 b5 h => qi Bb CQ a5 (Ai b5) rfl (qK ID CQ rfl (qz GH rfl (qs CQ rfl (Ac ?_))))
   refine BK h fun v6 a6 b6 h => Ah (RB 2008 2013 ((v5.fW).toNat) 4 rfl (Ai b6) rfl rfl rfl rfl rfl) ?_
   refine BK h fun v7 a7 b7 h => Ah (RB 2013 2014 ((v5.fV).toNat) 0 rfl (Ai b7) rfl rfl rfl rfl rfl) (Aj Ay rfl (qf Bw rfl (ql F0 rfl (qf RZ rfl (ql Cn rfl ?_)))))
   refine BK h fun v8 a8 b8 h => HH (.p rfl) rfl rfl rfl (U1 AG v2.1 _ _ _ _ _) CK C1 a8 (Ax b8) ?_
   refine qh EP rfl ?_
   refine VV (.p rfl) rfl GZ rfl (Ai b8) rfl ?_
   refine qf S4 rfl (ql Cn rfl ?_)
   refine BK h fun v9 a9 b9 h => HH (.p rfl) rfl rfl rfl (U1 (Fa eB) v6.fO _ _ _ _ _) Dx H5 a9 (Ax b9) ?_
   refine VV (.p rfl) rfl Lq rfl (Ai b9) rfl ?_
   refine qf Sc rfl (ql Cn rfl ?_)
   refine BK h fun v10 a10 b10 h => qI Ew Ms a10 (Ai b10) rfl ?_
   refine D4 rfl rfl rfl rfl (Ai b10) rfl Ms rfl (Hn rfl) (C8 eB v7 _ true) ?_
   refine AP (by kernel_rfl) (Ah ((Q0 2013 2014 (e2 := 1) (cols2 := []) (rows2 := (v7.set ((v5.fX).toNat) true).map eB) rfl rfl rfl (Ai b7) rfl rfl (C8 (Fa eB) v6.fO _ (v7.set ((v5.fX).toNat) true))).trans (Q0 2008 2013 (e2 := 1) (cols2 := [.x 1 []]) (rows2 := (v6.fO.set ((v5.fV).toNat) (v7.set ((v5.fX).toNat) true)).map (Fa eB)) rfl rfl rfl (Ai b6) rfl rfl (C8 AG v2.1 _ ((Ao.mk v6.fJ v6.fK v6.fP v6.fS (v6.fO.set ((v5.fV).toNat) (v7.set ((v5.fX).toNat) true)) v6.fR))))) (Aj Ay rfl (AZ rfl (qm rfl (Ac ?_)))))
   exact sn [] h
  ·refine AT ?_
   exact sn [(2009, 2005), (2010, 2006), (2011, 2007), (2012, 2008)] h
 ·refine Ah hs (wq rfl (qL Cu BF rfl (qs BF rfl (Ac ?_))))
  obtain rfl := sj h
  refine Ah ((OF 2012 _ _ _ rfl rfl).trans (sm [(1000, 2009), (1001, 2010), (1002, 2011)] [(4, oD (.ptr 4 0))] [(4, .box [.own 1000, .own 1001, .own 1002, sC (v3.map AG)]), (1000, .vec 1 (v1.1.fF.map Aq)), (1001, .vec 1 (v1.1.fL.map Aq)), (1002, .vec 1 (v1.1.fQ.map Aq))] rfl rfl)) (Ar ?_)
  exact ⟨⟨[_], ⟨.cellN _ _ _ _ _ _ _ rfl rfl Cu BF rfl rfl (Jw rfl), tv⟩, rfl⟩, ⟨rfl, rfl, rfl, tv⟩⟩
theorem N7 (N : Nat) (p0 : Int) (p1 : Int) (r : Int × Int) (h : HP N p0 p1 = some r) : Au Tryz.prog 121 [pD (.val (.int .u32 p0)), pD (.val (.int .u32 p1))] [] (.tup [.one (.pure (.val (.int .u32 r.1))), .one (.pure (.val (.int .u32 r.2)))]) := by
 unfold HP at h
 refine cw (n := 17) (rs := [.tmp 4, .tmp 5]) Tryz.func121 fun w0 S0 => ?_
 refine wq rfl (qa rfl (qa rfl (Ac (wq rfl (qm rfl (KO Wd ak rfl (qm rfl (KO Wd ak rfl (NE rfl (qa rfl (Ac (wq rfl (qm rfl (KH rfl (by decide) (KO aF V9 rfl (qm rfl (KO aF V9 rfl (qa rfl (qe rfl ?_)))))))))))))))))))
 obtain rfl := sj h
 refine Ah (sm [] [(4, pD (.val (.int .u32 ((wI .u32 ((Gv .u64 ((wI .u64 ((wI .u64 p0) * (wI .u64 p1)))) 32))))))), (5, pD (.val (.int .u32 ((wI .u32 ((wI .u64 ((wI .u64 p0) * (wI .u64 p1)))))))))] [] rfl rfl) (Ar ?_)
 exact ⟨⟨[_, _], ⟨.tmp _ _ rfl, tm⟩, rfl⟩, tv⟩
theorem NY (N : Nat) (p0 : Int) (p1 : Int) (r : Int × Int) (h : HT N p0 p1 = some r) : Au Tryz.prog 122 [pD (.val (.int .u64 p0)), pD (.val (.int .u64 p1))] [] (.tup [.one (.pure (.val (.int .u64 r.1))), .one (.pure (.val (.int .u64 r.2)))]) := by
 unfold HT at h
 refine cw (n := 51) (rs := [.tmp 4, .tmp 5]) Tryz.func122 fun w0 S0 => ?_
 refine wq rfl (qa rfl (qa rfl (Ac (wq rfl (qm rfl (OL rfl (qa rfl (Ac (wq rfl (qm rfl (KH rfl (by decide) (qa rfl (Ac (wq rfl (qm rfl (OL rfl (qa rfl (Ac (wq rfl (qm rfl (KH rfl (by decide) (qa rfl (Ac (wq rfl (qw 2 rfl (NE rfl (qa rfl (Ac (wq rfl (qw 2 rfl ?_))))))))))))))))))))))))))))))
 refine NE rfl (qm rfl (KH rfl (by decide) (AZ rfl (qa rfl (Ac (wq rfl (qm rfl (OL rfl (qa rfl (Ac (wq rfl (qm rfl (KH rfl (by decide) (qa rfl (Ac (wq rfl (qw 3 rfl (NE rfl (AZ rfl (qa rfl (Ac (wq rfl (qw 2 rfl (NE rfl (qm rfl (AZ rfl (qm rfl (KH rfl (by decide) (AZ rfl (qa rfl (Ac (AQ ?_))))))))))))))))))))))))))))))))
 refine Aj Ay rfl (qw 2 rfl (NE rfl (qe rfl ?_)))
 obtain rfl := sj h
 refine Ah (sm [] [(4, pD (.val (.int .u64 ((wI .u64 ((wI .u64 ((wI .u64 ((Gv .u64 p0 32) * (Gv .u64 p1 32))) + (Gv .u64 ((wI .u64 ((wI .u64 ((Gv .u64 p0 32) * (Hk .u64 p1 4294967295))) + (Gv .u64 ((wI .u64 ((Hk .u64 p0 4294967295) * (Hk .u64 p1 4294967295)))) 32)))) 32))) + (Gv .u64 ((wI .u64 ((Hk .u64 ((wI .u64 ((wI .u64 ((Gv .u64 p0 32) * (Hk .u64 p1 4294967295))) + (Gv .u64 ((wI .u64 ((Hk .u64 p0 4294967295) * (Hk .u64 p1 4294967295)))) 32)))) 4294967295) + (wI .u64 ((Hk .u64 p0 4294967295) * (Gv .u64 p1 32)))))) 32))))))), (5, pD (.val (.int .u64 ((wI .u64 (p0 * p1))))))] [] rfl rfl) (Ar ?_)
 exact ⟨⟨[_, _], ⟨.tmp _ _ rfl, tm⟩, rfl⟩, tv⟩
theorem Pa (N : Nat) (p0 : Int) (p1 : Int) (r : Int × Int) (h : Iy N p0 p1 = some r) : Au Tryz.prog 86 [pD (.val (.int .u64 p0)), pD (.val (.int .u64 p1))] [] (.tup [.one (.pure (.val (.int .u64 r.1))), .one (.pure (.val (.int .u64 r.2)))]) := by
 unfold Iy at h
 refine cw (n := 30) (rs := [.tmp 4, .tmp 5]) Tryz.func86 fun w0 S0 => ?_
 refine wq rfl (qa rfl (qa rfl (Ac (AQ ?_))))
 refine Bc h (fun h => ?_) fun h => ?_
 ·refine wq rfl (qm rfl (KO XV V9 rfl (qm rfl (KO XV V9 rfl ?_))))
  refine B7 h fun v2 a2 h => AA [] (N7 N ((wI .u32 p0)) ((wI .u32 p1)) v2 a2) cP rfl (qm rfl (qx rfl (qx rfl (qa rfl (qa rfl (Ac (wq rfl (qm rfl (KO Wd VZ rfl (qm rfl (KO Wd VZ rfl (qa rfl (qe rfl ?_)))))))))))))
  obtain rfl := sj h
  refine Ah (sm [] [(4, pD (.val (.int .u64 ((wI .u64 v2.1))))), (5, pD (.val (.int .u64 ((wI .u64 v2.2)))))] [] rfl rfl) (Ar ?_)
  exact ⟨⟨[_, _], ⟨.tmp _ _ rfl, tm⟩, rfl⟩, tv⟩
 ·refine Am (wq rfl (qw 2 rfl ?_))
  refine B7 h fun v3 a3 h => AA [] (NY N p0 p1 v3 a3) dq rfl (qm rfl (qx rfl (qx rfl (qa rfl (qa rfl (Ac (wq rfl (qw 2 rfl (qa rfl (qe rfl ?_))))))))))
  obtain rfl := sj h
  refine Ah (sm [] [(4, pD (.val (.int .u64 v3.1))), (5, pD (.val (.int .u64 v3.2)))] [] rfl rfl) (Ar ?_)
  exact ⟨⟨[_, _], ⟨.tmp _ _ rfl, tm⟩, rfl⟩, tv⟩
theorem KK (N : Nat) (p0 : List Int) (p1 : Int) (r : (List Int)) (h : E7 N p0 p1 = some r) : Au Tryz.prog 61 [pD (.sl (p0.map Aq)), iD p1] [(1, r.map Aq)] (oD (.own 0)) := by
 unfold E7 at h
 refine cw (n := 48) (rs := [.tmp 4]) Tryz.func61 fun w0 S0 => ?_
 refine wq rfl (qe rfl ?_)
 refine AS h (fun v1 => mk [(0, pD (.sl (p0.map Aq))), (1, iD p1)] []) (fun j1 h => ?_) (fun v1 h => ?_)
 ·refine wq rfl (qm rfl (AV rfl (Ac ?_)))
  refine Bc h (fun h => ?_) fun h => ?_
  ·refine Aj Ay rfl ?_
   cases h
  ·refine Am ?_
   exact sn [] h
 ·refine wq rfl (qm rfl (AO AC rfl (KO ep VZ rfl (qm rfl (KO ep VZ rfl ?_)))))
  refine B7 h fun v3 a3 h => AA [] (Pa N ((wI .u64 ((p0.length : Int)))) ((wI .u64 p1)) v3 a3) fd rfl (qm rfl (qx rfl (qx rfl (qa rfl (qe rfl ?_)))))
  refine AS h (fun v4 => mk [(0, pD (.sl (p0.map Aq))), (6, pD (.val (.int .u64 v3.2)))] []) (fun j4 h => ?_) (fun v4 h => ?_)
  ·refine AS h (fun v5 => mk [(0, pD (.sl (p0.map Aq))), (6, pD (.val (.int .u64 v3.2))), (26, bD v5)] []) (fun j5 h => ?_) (fun v5 h => ?_)
   ·refine Aj Ay rfl (qm rfl (Gf rfl (qm rfl ?_)))
    refine EO 23 h rfl (fun h => ?_) fun h => ?_
    ·refine qw 2 rfl (qp rfl (Ac ?_))
     exact sn [] h
    ·refine qm rfl (Gf rfl (qp rfl (Ac ?_)))
     exact sn [] h
   ·refine Bc h (fun h => ?_) fun h => ?_
    ·refine Aj Ay rfl ?_
     cases h
    ·refine Am ?_
     exact sn [] h
  ·refine wq rfl (qm rfl (KO XV ao rfl ?_))
   refine FO h fun c8 h => LF (.p rfl) rfl rfl rfl AC DH LS (Hn rfl) KV rfl rfl rfl c8.1 c8.2.1 c8.2.2 (R1 Aq _ ((0 : Int))) ?_
   refine qa rfl (Ac (wq rfl (qw 2 rfl ?_)))
   refine Wx Aq (List.replicate ((wI .i64 v3.2)).toNat ((0 : Int))) p0 (.p rfl) rfl (HD Aq _ _ (List.replicate ((wI .i64 v3.2)).toNat ((0 : Int)))) rfl rfl (Zd Aq _ _ (fun _ => rfl)) tv AC DH ?_
   refine qa rfl (Ac (AQ ?_))
   refine AH (L := Et N) h (fun v9 => mk [(7, oD (.own 2001)), (8, iD v9.2)] [(2001, .vec 1 (v9.1.map Aq))]) (fun v10 => mk [(7, oD (.own 2002))] [(2002, .vec 1 (v10.map Aq))]) (fun _ _ => rfl) (sm [(2001, 30)] _ _ rfl rfl) (fun j9 n9 v9 h => ?_) (fun v10 s h hs => ?_)
   ·unfold Et at h
    refine wp rfl (qw 2 rfl (Dm AC rfl (AV rfl (Ac ?_))))
    refine Bc h (fun h => ?_) fun h => ?_
    ·refine Am (AM (Aj Ay rfl (qw 3 rfl ?_)))
     obtain ⟨c12, h⟩ := Fy h
     have w13 : ((v9.2).toNat) + ((v9.1.length - (v9.2).toNat)) ≤ v9.1.length := by have := c12.2.1; have := c12.2.2; omega
     refine HJ Aq v9.1 (.p rfl) rfl (HD Aq _ _ v9.1) rfl AC DH (.some _ _ _ _ c12.1) (.none _) ⟨rfl, tv⟩ tv c12.2.1 (by rw [Nat.zero_add]; exact c12.2.2) (Nat.zero_add _) rfl ?_
     refine qw 2 rfl ?_
     obtain ⟨c14, h⟩ := Fy h
     have w15 : 0 + ((v9.2).toNat) ≤ v9.1.length := by have := c14.2.1; have := c14.2.2; omega
     refine HJ Aq v9.1 (.p rfl) rfl (HD Aq _ _ v9.1) rfl AC DH (.none _) (.some _ _ _ _ c14.1) tv ⟨rfl, tv⟩ c14.2.1 (by rw [Nat.zero_add]; exact c14.2.2) (Nat.zero_add _) rfl ?_
     refine Wx Aq v9.1 (((v9.1.drop 0).take ((v9.2).toNat))) (.p rfl) rfl (Ju Aq _ _ ((v9.2).toNat) ((v9.1.length - (v9.2).toNat)) v9.1 w13) rfl rfl (Rj Aq _ _ 0 ((v9.2).toNat) v9.1 w15) ⟨rfl, tv⟩ AC DH ?_
     refine AZ rfl (qa rfl (AP (by kernel_rfl) ?_))
     exact sn [] h
    ·refine AT ?_
     exact sn [(2002, 2001)] h
   ·refine Ah hs (wq rfl (qm rfl (qe rfl ?_)))
    obtain rfl := sj h
    refine Ah (sm [(1000, 2002)] [(4, oD (.own 1000))] [(1000, .vec 1 (v10.map Aq))] rfl rfl) (Ar ?_)
    exact ⟨⟨[_], tm, rfl⟩, ⟨rfl, tv⟩⟩
theorem K4 (N : Nat) (p0 : Ao) (r : Bool) (h : F9 N p0 = some r) : Au Tryz.prog 62 [.e (.agg (Bg p0))] [] (bD r) := by
 unfold F9 at h
 refine cw (n := 11) (rs := [.tmp 2]) Tryz.func62 fun w0 S0 => ?_
 refine wq rfl (qb rfl (qe rfl ?_))
 refine AS h (fun v1 => mk [(2, bD v1)] []) (fun j1 h => ?_) (fun v1 h => ?_)
 ·refine Aj Ay rfl (qf GX rfl (ql Cn rfl (B6 rfl (qm rfl ?_))))
  refine EO 6 h rfl (fun h => ?_) fun h => ?_
  ·refine qw 3 rfl (qp rfl (qe rfl ?_))
   exact sn [] h
  ·refine qf GX rfl (ql Cn rfl (B6 rfl (qp rfl (qe rfl ?_))))
   exact sn [] h
 ·obtain rfl := sj h
  refine Ah (sm [] [(2, bD v1)] [] rfl rfl) (Ar ?_)
  exact ⟨⟨[_], tm, rfl⟩, tv⟩
theorem Tw (N : Nat) (p0 : Ab) (r : Ae × Int) (h : Ir N p0 = some r) : Au Tryz.prog 35 [.e (.agg (Ag p0))] [(1, r.1.fH.map Aq), (1, r.1.fE.map Aq), (1, r.1.fI.map Eh)] (.tup [.agg [.own 0, .own 1, .own 2], .one (iC r.2)]) := by
 unfold Ir at h
 refine cw (n := 50) (rs := [.cell 2 64, .tmp 3]) Tryz.func35 fun w0 S0 => ?_
 refine wq rfl (qb rfl (qz E0 rfl (qa rfl (Ac (wp rfl (qL Cu BF rfl ?_))))))
 refine B7 h fun v1 a1 h => AA [] (Em N p0 v1 a1) W2 rfl (qa rfl (Ac (wq rfl (qm rfl (BS rfl (Ac ?_))))))
 refine Bc h (fun h => ?_) fun h => ?_
 ·refine wq rfl (Bd E0 Jo rfl (qm rfl (qs A1 rfl (qe rfl ?_))))
  obtain rfl := sj h
  refine Ah ((Av 2 0 2001 1 _ rfl rfl rfl rfl).trans ((Av 2 1 2002 1 _ rfl rfl rfl rfl).trans ((Av 2 2 2003 1 _ rfl rfl rfl rfl).trans (sm [(1000, 2001), (1001, 2002), (1002, 2003)] [(2, oD (.ptr 2 0)), (3, iD v1)] [(2, .box [.own 1000, .own 1001, .own 1002]), (1000, .vec 1 ((([] : List Int)).map Aq)), (1001, .vec 1 ((([] : List Int)).map Aq)), (1002, .vec 1 ((([] : List Int)).map Eh))] rfl rfl)))) (Ar ?_)
  exact ⟨⟨[_, _], ⟨.cellN _ _ _ _ _ _ _ rfl rfl B4 A1 rfl rfl (Jw rfl), tm⟩, rfl⟩, ⟨rfl, rfl, rfl, tv⟩⟩
 ·refine Am (wq rfl (qf GV rfl (ql A7 rfl ?_)))
  refine B7 h fun v3 a3 h => AA [2004] (CA N p0.fL v3 a3) T7 rfl (Eg AC DH KV rfl (qf GV rfl (ql A7 rfl (AO AC rfl ?_))))
  refine B7 h fun v4 a4 h => Dt [2005] [17] (KK N (([(-1)] : List Int)) ((p0.fL.length : Int)) v4 a4) fj (Hd (fun _ => rfl) BP) rfl (qf Bw rfl (ql F0 rfl (AO CK rfl ?_)))
  refine FO h fun c5 h => LF (.p rfl) rfl rfl rfl Ej G1 Tc (Hn rfl) R0 rfl rfl rfl c5.1 c5.2.1 c5.2.2 (R1 Eh _ ((0 : Int))) ?_
  refine Bd E0 Jo rfl (qz E0 rfl (qs A1 rfl (AP (by kernel_rfl) (wp rfl (qf Bw rfl (ql F0 rfl (AO CK rfl (qm rfl (Ac ?_)))))))))
  refine AH (L := EL N p0) h (fun v6 => mk [(1, oD (.ptr 1 0)), (2, oD (.ptr 2 0)), (5, oD (.ptr 5 0)), (28, pD (.sl (p0.fG.map AG))), (29, iD ((p0.fG.length : Int))), (30, iD v6.2)] [(1, .box (Ag p0)), (2, .box [.pure (.nil0), .pure (.nil0), .pure (.nil0)]), (5, .box [.own 2006, .own 2007, .own 2008]), (2006, .vec 1 (v3.map Aq)), (2007, .vec 1 (v4.map Aq)), (2008, .vec 1 (v6.1.map Eh))]) (fun v7 => mk [(2, oD (.ptr 2 0)), (5, oD (.ptr 5 0))] [(2, .box [.pure (.nil0), .pure (.nil0), .pure (.nil0)]), (5, .box [.own 2009, .own 2010, .own 2011]), (2009, .vec 1 (v3.map Aq)), (2010, .vec 1 (v4.map Aq)), (2011, .vec 1 (v7.map Eh))]) (fun _ _ => rfl) (sm [(2006, 2004), (2007, 2005), (2008, 25)] _ _ rfl rfl) (fun j6 n6 v6 h => ?_) (fun v7 s h hs => ?_)
  ·unfold EL at h
   refine wq rfl (AV rfl (Ac (AQ ?_)))
   refine Bc h (fun h => ?_) fun h => ?_
   ·refine Am ?_
    refine AS h (fun v9 => mk [(1, oD (.ptr 1 0)), (2, oD (.ptr 2 0)), (5, oD (.ptr 5 0)), (28, pD (.sl (p0.fG.map AG))), (29, iD ((p0.fG.length : Int))), (30, iD v6.2)] [(1, .box (Ag p0)), (2, .box [.pure (.nil0), .pure (.nil0), .pure (.nil0)]), (5, .box [.own 2012, .own 2013, .own 2014]), (2012, .vec 1 (v3.map Aq)), (2013, .vec 1 (v4.map Aq)), (2014, .vec 1 (v9.map Eh))]) (fun j9 h => ?_) (fun v9 h => ?_)
    ·refine AM (wq rfl (qm rfl ?_))
     refine BK h fun v10 a10 b10 h => qi CK C1 a10 (Ai b10) rfl (qK G6 C1 rfl (qz Jf rfl (qa rfl (qs C1 rfl (Ac (wq rfl (qL G6 C1 rfl ?_)))))))
     refine B7 h fun v11 a11 h => AA [] (K4 N v10 v11 a11) bN rfl (Ac ?_)
     refine Bc h (fun h => ?_) fun h => ?_
     ·refine Aj Ay rfl (qf Df rfl (ql H7 rfl (qm rfl (qf GV rfl (ql A7 rfl (qf DN rfl (ql Cn rfl ?_)))))))
      refine BK h fun v13 a13 b13 h => qi AC DH a13 (Ai b13) rfl (qk Cn rfl ?_)
      refine FO h fun c14 h => Kh rfl c14 ?_
      refine BK h fun v15 a15 b15 h => qI Ej G1 a15 (Ai b15) rfl ?_
      refine D4 rfl rfl rfl rfl (Ai b15) rfl G1 rfl (Hn rfl) (C8 Eh v6.1 _ ((Ex .u8 1 v13))) ?_
      refine AP (by kernel_rfl) ?_
      exact sn [(2012, 2006), (2013, 2007), (2014, 2008)] h
     ·refine Am ?_
      exact sn [(2012, 2006), (2013, 2007), (2014, 2008)] h
    ·refine Aj Ay rfl (AZ rfl (qm rfl (Ac ?_)))
     exact sn [(2006, 2012), (2007, 2013), (2008, 2014)] h
   ·refine AT ?_
    exact sn [(2009, 2006), (2010, 2007), (2011, 2008)] h
  ·refine Ah hs (wq rfl (qL B4 A1 rfl (qs A1 rfl (qe rfl ?_))))
   obtain rfl := sj h
   refine Ah (sm [(1000, 2009), (1001, 2010), (1002, 2011)] [(2, oD (.ptr 2 0)), (3, iD 0)] [(2, .box [.own 1000, .own 1001, .own 1002]), (1000, .vec 1 (v3.map Aq)), (1001, .vec 1 (v4.map Aq)), (1002, .vec 1 (v7.map Eh))] rfl rfl) (Ar ?_)
   exact ⟨⟨[_, _], ⟨.cellN _ _ _ _ _ _ _ rfl rfl B4 A1 rfl rfl (Jw rfl), tm⟩, rfl⟩, ⟨rfl, rfl, rfl, tv⟩⟩
theorem Kk (N : Nat) (p0 : Ae) (p1 : Int) (r : Int) (h : FN N p0 p1 = some r) : Au Tryz.prog 130 [.e (.agg (AK p0)), iD p1] [] (pD (.val (.int .u8 r))) := by
 unfold FN at h
 refine cw (n := 27) (rs := [.tmp 4]) Tryz.func130 fun w0 S0 => ?_
 refine wq rfl (qb rfl (qa rfl (Ac (wq rfl (qf De rfl (ql A7 rfl (qm rfl ?_)))))))
 refine BK h fun v1 a1 b1 h => qi AC DH a1 (Ai b1) rfl (qk Cn rfl ?_)
 refine FO h fun c2 h => Kh rfl c2 (qe rfl ?_)
 refine AS h (fun v3 => mk [(5, pD (.val (.int .u8 v3)))] []) (fun j3 h => ?_) (fun v3 h => ?_)
 ·refine wq rfl (qf BL rfl (ql A7 rfl (qm rfl ?_)))
  refine BK h fun v4 a4 b4 h => qi AC DH a4 (Ai b4) rfl (qk Cn rfl (FM rfl (Ac ?_)))
  refine Bc h (fun h => ?_) fun h => ?_
  ·refine Aj Ay rfl (qm rfl (qf BL rfl (ql A7 rfl (qm rfl ?_))))
   refine BK h fun v6 a6 b6 h => qi AC DH a6 (Ai b6) rfl (qk Cn rfl ?_)
   refine FO h fun c7 h => Kh rfl c7 (Xw rfl (qe rfl ?_))
   exact sn [] h
  ·refine Am ?_
   exact sn [] h
 ·refine wq rfl (qm rfl (qe rfl ?_))
  obtain rfl := sj h
  refine Ah (sm [] [(4, pD (.val (.int .u8 v3)))] [] rfl rfl) (Ar ?_)
  exact ⟨⟨[_], tm, rfl⟩, tv⟩
theorem J2 (N : Nat) (p0 : Ab) (p1 : Ae) (r : Int) (h : FX N p0 p1 = some r) : Au Tryz.prog 91 [.e (.agg (Ag p0)), .e (.agg (AK p1))] [] (iD r) := by
 unfold FX at h
 refine cw (n := 135) (rs := [.tmp 4]) Tryz.func91 fun w0 S0 => ?_
 refine wq rfl (qb rfl (qb rfl (qa rfl (Ac (wp rfl (qL Cu BF rfl ?_))))))
 refine B7 h fun v1 a1 h => AA [] (Em N p0 v1 a1) W2 rfl (qa rfl (Ac (wq rfl (qm rfl (BS rfl (Ac ?_))))))
 refine Bc h (fun h => ?_) fun h => ?_
 ·refine wq rfl (qm rfl (qe rfl ?_))
  obtain rfl := sj h
  refine Ah (sm [] [(4, iD v1)] [] rfl rfl) (Ar ?_)
  exact ⟨⟨[_], tm, rfl⟩, tv⟩
 ·refine Am (AQ ?_)
  refine AS h (fun v3 => mk [(2, oD (.ptr 2 0)), (3, oD (.ptr 3 0)), (41, bD v3)] [(2, .box (Ag p0)), (3, .box (AK p1))]) (fun j3 h => ?_) (fun v3 h => ?_)
  ·refine Aj Ay rfl (qf De rfl (ql A7 rfl (AO AC rfl (qf Bs rfl (ql A7 rfl (AO AC rfl (BS rfl (qm rfl ?_))))))))
   refine EO 24 h rfl (fun h => ?_) fun h => ?_
   ·refine qw 7 rfl (qp rfl (qw 8 rfl (qp rfl (Ac ?_))))
    exact sn [] h
   ·refine qf BL rfl (ql A7 rfl (AO AC rfl (qf Bs rfl (ql A7 rfl (AO AC rfl (BS rfl (qp rfl (qm rfl ?_))))))))
    refine EO 33 h rfl (fun h => ?_) fun h => ?_
    ·refine qw 7 rfl (qp rfl (Ac ?_))
     exact sn [] h
    ·refine qf Df rfl (ql H7 rfl (AO Ej rfl (qf Bw rfl (ql F0 rfl (AO CK rfl (BS rfl (qp rfl (Ac ?_))))))))
     exact sn [] h
  ·refine Bc h (fun h => ?_) fun h => ?_
   ·refine wq rfl (qe rfl ?_)
    obtain rfl := sj h
    refine Ah (sm [] [(4, iD 6)] [] rfl rfl) (Ar ?_)
    exact ⟨⟨[_], tm, rfl⟩, tv⟩
   ·refine Am (wp rfl (qf Bs rfl (ql A7 rfl (AO AC rfl (qm rfl (Ac ?_))))))
    refine AH (L := EJ N p0 p1) h (fun v7 => mk [(2, oD (.ptr 2 0)), (3, oD (.ptr 3 0)), (43, pD (.sl (p0.fF.map Aq))), (44, iD ((p0.fF.length : Int))), (45, iD v7)] [(2, .box (Ag p0)), (3, .box (AK p1))]) (fun v8 => mk [(2, oD (.ptr 2 0)), (3, oD (.ptr 3 0))] [(2, .box (Ag p0)), (3, .box (AK p1))]) (fun _ _ => rfl) (sm [] _ _ rfl rfl) (fun j7 n7 v7 h => ?_) (fun v8 s h hs => ?_)
    ·unfold EJ at h
     refine wq rfl (AV rfl (Ac (AQ ?_)))
     refine Bc h (fun h => ?_) fun h => ?_
     ·refine Am (AQ (AM (wq rfl (qm rfl ?_))))
      refine BK h fun v10 a10 b10 h => qi AC DH a10 (Ai b10) rfl (qk Cn rfl (qa rfl (qa rfl (Ac (AQ ?_)))))
      refine AS h (fun v11 => mk [(2, oD (.ptr 2 0)), (3, oD (.ptr 3 0)), (6, iD v7), (43, pD (.sl (p0.fF.map Aq))), (44, iD ((p0.fF.length : Int))), (45, iD v7), (81, bD v11)] [(2, .box (Ag p0)), (3, .box (AK p1))]) (fun j11 h => ?_) (fun v11 h => ?_)
      ·refine Aj Ay rfl (qf De rfl (ql A7 rfl (qm rfl ?_)))
       refine BK h fun v12 a12 b12 h => qi AC DH a12 (Ai b12) rfl (qk Cn rfl (AV rfl (qm rfl ?_)))
       refine EO 56 h rfl (fun h => ?_) fun h => ?_
       ·refine qw 7 rfl (qp rfl (qw 7 rfl (qp rfl (qw 8 rfl (qp rfl (Ac ?_))))))
        exact sn [] h
       ·refine qf De rfl (ql A7 rfl (qm rfl ?_))
        refine BK h fun v14 a14 b14 h => qi AC DH a14 (Ai b14) rfl (qk Cn rfl (qm rfl (FM rfl (qp rfl (qm rfl ?_)))))
        refine EO 65 h rfl (fun h => ?_) fun h => ?_
        ·refine qw 6 rfl (qp rfl (qw 8 rfl (qp rfl (Ac ?_))))
         exact sn [] h
        ·refine qf BL rfl (ql A7 rfl (qm rfl ?_))
         refine BK h fun v16 a16 b16 h => qi AC DH a16 (Ai b16) rfl (qk Cn rfl (AV rfl (qp rfl (qm rfl ?_))))
         refine EO 73 h rfl (fun h => ?_) fun h => ?_
         ·refine qw 7 rfl (qp rfl (Ac ?_))
          exact sn [] h
         ·refine qf BL rfl (ql A7 rfl (qm rfl ?_))
          refine BK h fun v18 a18 b18 h => qi AC DH a18 (Ai b18) rfl (qk Cn rfl (qm rfl (FM rfl (qp rfl (Ac ?_)))))
          exact sn [] h
      ·refine Bc h (fun h => ?_) fun h => ?_
       ·refine wq rfl (qe rfl ?_)
        obtain rfl := sj h
        refine Ah (sm [] [(4, iD 7)] [] rfl rfl) (Ar ?_)
        exact ⟨⟨[_], tm, rfl⟩, tv⟩
       ·refine Am (wq rfl (qf De rfl (ql A7 rfl (qm rfl ?_))))
        refine BK h fun v20 a20 b20 h => qi AC DH a20 (Ai b20) rfl (qk Cn rfl (qf BL rfl (ql A7 rfl (qm rfl ?_))))
        refine BK h fun v21 a21 b21 h => qi AC DH a21 (Ai b21) rfl (qk Cn rfl (B6 rfl (AP (by kernel_rfl) ?_)))
        refine Bc h (fun h => ?_) fun h => ?_
        ·refine wq rfl (qe rfl ?_)
         obtain rfl := sj h
         refine Ah (sm [] [(4, iD 1)] [] rfl rfl) (Ar ?_)
         exact ⟨⟨[_], tm, rfl⟩, tv⟩
        ·refine Am (Aj Ay rfl (AZ rfl (qm rfl (Ac ?_))))
         exact sn [] h
     ·refine AT ?_
      exact sn [] h
    ·refine Ah hs (wp rfl (qf Bw rfl (ql F0 rfl (AO CK rfl (qm rfl (Ac ?_))))))
     refine AH (L := Ek N p0 p1) h (fun v23 => mk [(2, oD (.ptr 2 0)), (3, oD (.ptr 3 0)), (95, pD (.sl (p0.fG.map AG))), (96, iD ((p0.fG.length : Int))), (97, iD v23)] [(2, .box (Ag p0)), (3, .box (AK p1))]) (fun v24 => mk [] []) (fun _ _ => rfl) (sm [] _ _ rfl rfl) (fun j23 n23 v23 h => ?_) (fun v24 s h hs => ?_)
     ·unfold Ek at h
      refine wq rfl (AV rfl (Ac (AQ ?_)))
      refine Bc h (fun h => ?_) fun h => ?_
      ·refine Am (AQ (AM (wq rfl (qm rfl ?_))))
       refine BK h fun v26 a26 b26 h => qi CK C1 a26 (Ai b26) rfl (qK G6 C1 rfl (qz Jf rfl (qa rfl (qs C1 rfl (Ac (wq rfl (qa rfl (qe rfl ?_))))))))
       refine AS h (fun v27 => mk [(2, oD (.ptr 2 0)), (3, oD (.ptr 3 0)), (8, iD v23), (10, pD (.val (.int .u8 v27.1))), (11, pD (.val (.int .u8 v27.2))), (95, pD (.sl (p0.fG.map AG))), (96, iD ((p0.fG.length : Int))), (97, iD v23)] [(2, .box (Ag p0)), (3, .box (AK p1))]) (fun j27 h => ?_) (fun v27 h => ?_)
       ·refine wq rfl (qL G6 C1 rfl ?_)
        refine B7 h fun v28 a28 h => AA [] (K4 N v26 v28 a28) bN rfl (Ac ?_)
        refine Bc h (fun h => ?_) fun h => ?_
        ·refine Aj Ay rfl (qL B4 A1 rfl (qf DN rfl (ql Cn rfl ?_)))
         refine B7 h fun v30 a30 h => AA [] (Kk N p1 v26.fK v30 a30) YN rfl (qf Bs rfl (ql A7 rfl (qf DN rfl (ql Cn rfl ?_))))
         refine BK h fun v31 a31 b31 h => qi AC DH a31 (Ai b31) rfl (qk Cn rfl ?_)
         refine FO h fun c32 h => Kh rfl c32 (O3 rfl (qa rfl (qa rfl (AP (by kernel_rfl) ?_))))
         exact sn [] h
        ·refine Am ?_
         exact sn [] h
       ·refine AS h (fun v33 => mk [(2, oD (.ptr 2 0)), (3, oD (.ptr 3 0)), (95, pD (.sl (p0.fG.map AG))), (96, iD ((p0.fG.length : Int))), (97, iD v23), (133, bD v33)] [(2, .box (Ag p0)), (3, .box (AK p1))]) (fun j33 h => ?_) (fun v33 h => ?_)
        ·refine Aj Ay rfl (qm rfl (qf Df rfl (ql H7 rfl (qm rfl ?_))))
         refine BK h fun v34 a34 b34 h => qi Ej G1 a34 (Ai b34) rfl (qk LL rfl (Jz rfl (BS rfl (qm rfl ?_))))
         refine EO 124 h rfl (fun h => ?_) fun h => ?_
         ·refine qw 8 rfl (qp rfl (Ac ?_))
          exact sn [] h
         ·refine qf Df rfl (ql H7 rfl (qm rfl ?_))
          refine BK h fun v36 a36 b36 h => qi Ej G1 a36 (Ai b36) rfl (qk LL rfl (qm rfl (Jz rfl (BS rfl (qp rfl (Ac ?_))))))
          exact sn [] h
        ·refine Bc h (fun h => ?_) fun h => ?_
         ·refine wq rfl (qe rfl ?_)
          obtain rfl := sj h
          refine Ah (sm [] [(4, iD 1)] [] rfl rfl) (Ar ?_)
          exact ⟨⟨[_], tm, rfl⟩, tv⟩
         ·refine Am (Aj Ay rfl (AZ rfl (qm rfl (Ac ?_))))
          exact sn [] h
      ·refine AT ?_
       exact sn [] h
     ·refine Ah hs (wq rfl (qe rfl ?_))
      obtain rfl := sj h
      refine Ah (sm [] [(4, iD 0)] [] rfl rfl) (Ar ?_)
      exact ⟨⟨[_], tm, rfl⟩, tv⟩
theorem Gr (N : Nat) (p0 : List Int) (r : (List Int)) (h : B5 N p0 = some r) : Au Tryz.prog 146 [pD (.sl (p0.map Eh))] [(1, r.map Eh)] (oD (.own 0)) := by
 unfold B5 at h
 refine cw (n := 8) (rs := [.tmp 2]) Tryz.func146 fun w0 S0 => ?_
 refine wq rfl (qa rfl (Ac (wp rfl (qm rfl ?_))))
 refine NB (.p rfl) rfl Ej ?_
 refine Ac ?_
 refine NQ rfl (fun c2 => ?_) ?_
 ·have c2 := List.map_eq_nil_iff.1 c2
  rw [c2] at h
  have h : (some (([] : List Int))) = some r := h
  refine wq rfl (qe rfl ?_)
  obtain rfl := sj h
  refine Ah ((AY 2 2001 1 rfl rfl rfl).trans (sm [(1000, 2001)] [(2, oD (.own 1000))] [(1000, .vec 1 ((([] : List Int)).map Eh))] rfl rfl)) (Ar ?_)
  exact ⟨⟨[_], tm, rfl⟩, ⟨rfl, tv⟩⟩
 ·refine Am (wq rfl (Eg Ej G1 R0 rfl (qm rfl ?_)))
  refine FO h fun c1 h => GE (f := Eh) Ej Ej G1 Tc R0 (fun _ => rfl) c1 rfl (qe rfl ?_)
  obtain rfl := sj h
  refine Ah (sm [(1000, 7)] [(2, oD (.own 1000))] [(1000, .vec 1 (((([] : List Int)) ++ p0).map Eh))] rfl rfl) (Ar ?_)
  exact ⟨⟨[_], tm, rfl⟩, ⟨rfl, tv⟩⟩
theorem Se (N : Nat) (p0 : Ab) (p1 : Ae) (r : (List Ae) × Int) (h : HF N p0 p1 = some r) : Au Tryz.prog 123 [.e (.agg (Ag p0)), .e (.agg (AK p1))] [(3, r.1.map Fo)] (.tup [.one (.own 0), .one (iC r.2)]) := by
 unfold HF at h
 refine cw (n := 75) (rs := [.tmp 4, .tmp 5]) Tryz.func123 fun w0 S0 => ?_
 refine wq rfl (qb rfl (qb rfl (qa rfl (qa rfl (Ac (wp rfl (qL Cu BF rfl (qL B4 A1 rfl ?_))))))))
 refine B7 h fun v1 a1 h => AA [] (J2 N p0 p1 v1 a1) ZY rfl (qa rfl (Ac (wq rfl (qm rfl (BS rfl (Ac ?_))))))
 refine Bc h (fun h => ?_) fun h => ?_
 ·refine wq rfl (qm rfl (qa rfl (qe rfl ?_)))
  obtain rfl := sj h
  refine Ah ((AY 4 2001 3 rfl rfl rfl).trans (sm [(1000, 2001)] [(4, oD (.own 1000)), (5, iD v1)] [(1000, .vec 3 ((([] : List Ae)).map Fo))] rfl rfl)) (Ar ?_)
  exact ⟨⟨[_, _], ⟨.tmp _ _ rfl, tm⟩, rfl⟩, ⟨rfl, tv⟩⟩
 ·refine Am (wq rfl (qa rfl (Ac (wp rfl (qf BL rfl (ql A7 rfl (AO AC rfl (qm rfl (Ac ?_)))))))))
  refine AH (L := Ep N p1) h (fun v3 => mk [(3, oD (.ptr 3 0)), (7, oD (.own 2002)), (22, pD (.sl (p1.fE.map Aq))), (23, iD ((p1.fE.length : Int))), (24, iD v3.2)] [(3, .box (AK p1)), (2002, .vec 1 (v3.1.map Aq))]) (fun v4 => mk [(3, oD (.ptr 3 0)), (7, oD (.own 2003))] [(3, .box (AK p1)), (2003, .vec 1 (v4.map Aq))]) (fun _ _ => rfl) ((AY 7 2005 1 rfl rfl rfl).trans (sm [(2002, 2005)] _ _ rfl rfl)) (fun j3 n3 v3 h => ?_) (fun v4 s h hs => ?_)
  ·unfold Ep at h
   refine wq rfl (AV rfl (Ac (AQ ?_)))
   refine Bc h (fun h => ?_) fun h => ?_
   ·refine Am ?_
    refine AS h (fun v6 => mk [(3, oD (.ptr 3 0)), (7, oD (.own 2004)), (22, pD (.sl (p1.fE.map Aq))), (23, iD ((p1.fE.length : Int))), (24, iD v3.2)] [(3, .box (AK p1)), (2004, .vec 1 (v6.map Aq))]) (fun j6 h => ?_) (fun v6 h => ?_)
    ·refine AM (wq rfl (qm rfl ?_))
     refine BK h fun v7 a7 b7 h => qi AC DH a7 (Ai b7) rfl (qk Cn rfl (qa rfl (qa rfl (Ac (wq rfl (qm rfl (FM rfl (Ac ?_))))))))
     refine Bc h (fun h => ?_) fun h => ?_
     ·refine Aj Ay rfl (qw 2 rfl (Eg AC DH KV rfl ?_))
      refine FO h fun c9 h => DI (f := Aq) AC AC DH LS KV c9 rfl (qe rfl ?_)
      exact sn [(2004, 34)] h
     ·refine Am ?_
      exact sn [(2004, 2002)] h
    ·refine Aj Ay rfl (AZ rfl (qm rfl (Ac ?_)))
     exact sn [(2002, 2004)] h
   ·refine AT ?_
    exact sn [(2003, 2002)] h
  ·refine Ah hs (wq rfl (qa rfl (Ac (wp rfl (qm rfl (Dm AC rfl ?_))))))
   refine FO h fun c10 h => Kh rfl c10 (qm rfl (Ac ?_))
   refine AH (L := Dv N p1 v4) h (fun v11 => mk [(3, oD (.ptr 3 0)), (7, oD (.own 2006)), (10, oD (.own 2007)), (38, iD ((Ex .i64 1 ((v4.length : Int))))), (39, iD v11.2)] [(3, .box (AK p1)), (2006, .vec 1 (v4.map Aq)), (2007, .vec 3 (v11.1.map Fo))]) (fun v12 => mk [(10, oD (.own 2008))] [(2008, .vec 3 (v12.map Fo))]) (fun _ _ => rfl) ((AY 10 2027 3 rfl rfl rfl).trans (sm [(2006, 2003), (2007, 2027)] _ _ rfl rfl)) (fun j11 n11 v11 h => ?_) (fun v12 s h hs => ?_)
   ·unfold Dv at h
    refine wq rfl (AV rfl (Ac (AQ ?_)))
    refine Bc h (fun h => ?_) fun h => ?_
    ·refine Am (AQ (AM (wq rfl (qm rfl (qa rfl (Ac (wq rfl (qf De rfl (ql A7 rfl ?_)))))))))
     refine B7 h fun v14 a14 h => AA [2009] (CA N p1.fH v14 a14) T7 rfl (qf BL rfl (ql A7 rfl ?_))
     refine B7 h fun v15 a15 h => AA [2010] (CA N p1.fE v15 a15) T7 rfl (qf Df rfl (ql H7 rfl ?_))
     refine B7 h fun v16 a16 h => AA [2011] (Gr N p1.fI v16 a16) aR rfl (Bd E0 Jo rfl (qz E0 rfl (qs A1 rfl (AP (by kernel_rfl) (wp rfl (qm rfl (Dm AC rfl (qm rfl (Ac ?_)))))))))
     refine AH (L := Dr N v4 v11) h (fun v17 => mk [(3, oD (.ptr 3 0)), (7, oD (.own 2015)), (10, oD (.own 2016)), (11, iD v11.2), (12, oD (.ptr 12 0)), (38, iD ((Ex .i64 1 ((v4.length : Int))))), (39, iD v11.2), (52, oD (.own 2015)), (53, iD ((v4.length : Int))), (54, iD v17.2)] [(3, .box (AK p1)), (12, .box [.own 2012, .own 2013, .own 2014]), (2012, .vec 1 (v14.map Aq)), (2013, .vec 1 (v17.1.map Aq)), (2014, .vec 1 (v16.map Eh)), (2015, .vec 1 (v4.map Aq)), (2016, .vec 3 (v11.1.map Fo))]) (fun v18 => mk [(3, oD (.ptr 3 0)), (7, oD (.own 2020)), (10, oD (.own 2021)), (12, oD (.ptr 12 0)), (38, iD ((Ex .i64 1 ((v4.length : Int))))), (39, iD v11.2)] [(3, .box (AK p1)), (12, .box [.own 2017, .own 2018, .own 2019]), (2017, .vec 1 (v14.map Aq)), (2018, .vec 1 (v18.map Aq)), (2019, .vec 1 (v16.map Eh)), (2020, .vec 1 (v4.map Aq)), (2021, .vec 3 (v11.1.map Fo))]) (fun _ _ => rfl) (sm [(2012, 2009), (2013, 2010), (2014, 2011), (2015, 2006), (2016, 2007)] _ _ rfl rfl) (fun j17 n17 v17 h => ?_) (fun v18 s h hs => ?_)
     ·unfold Dr at h
      refine wq rfl (AV rfl (Ac (AQ ?_)))
      refine Bc h (fun h => ?_) fun h => ?_
      ·refine Am ?_
       refine AS h (fun v20 => mk [(3, oD (.ptr 3 0)), (7, oD (.own 2025)), (10, oD (.own 2026)), (11, iD v11.2), (12, oD (.ptr 12 0)), (38, iD ((Ex .i64 1 ((v4.length : Int))))), (39, iD v11.2), (52, oD (.own 2025)), (53, iD ((v4.length : Int))), (54, iD v17.2)] [(3, .box (AK p1)), (12, .box [.own 2022, .own 2023, .own 2024]), (2022, .vec 1 (v14.map Aq)), (2023, .vec 1 (v20.map Aq)), (2024, .vec 1 (v16.map Eh)), (2025, .vec 1 (v4.map Aq)), (2026, .vec 3 (v11.1.map Fo))]) (fun j20 h => ?_) (fun v20 h => ?_)
       ·refine AM (wq rfl (qm rfl ?_))
        refine BK h fun v21 a21 b21 h => qI AC DH a21 (Ai b21) rfl (qj Cn (Ai b21) rfl (qa rfl (qa rfl (Ac (wq rfl (qw 2 rfl ?_))))))
        refine FO h fun c22 h => KH rfl c22 (OL rfl (B6 rfl (Ac ?_)))
        refine Bc h (fun h => ?_) fun h => ?_
        ·refine Aj Ay rfl (qf BL rfl (ql A7 rfl (qm rfl ?_)))
         refine BK h fun v24 a24 b24 h => qI AC DH a24 (Ai b24) rfl ?_
         refine D4 rfl rfl rfl rfl (Ai b24) rfl DH rfl (Hn rfl) (C8 Aq v17.1 _ ((-1))) ?_
         refine Ac ?_
         exact sn [(2022, 2012), (2023, 2013), (2024, 2014), (2025, 2015), (2026, 2016)] h
        ·refine Am ?_
         exact sn [(2022, 2012), (2023, 2013), (2024, 2014), (2025, 2015), (2026, 2016)] h
       ·refine Aj Ay rfl (AZ rfl (qm rfl (Ac ?_)))
        exact sn [(2012, 2022), (2013, 2023), (2014, 2024), (2015, 2025), (2016, 2026)] h
      ·refine AT ?_
       exact sn [(2017, 2012), (2018, 2013), (2019, 2014), (2020, 2015), (2021, 2016)] h
     ·refine Ah hs (Aj Ay rfl (qm rfl (qL B4 A1 rfl (Ev (BC 2017 _ _ rfl rfl) (Ev (BC 2018 _ _ rfl rfl) (Ev (BC 2019 _ _ rfl rfl) (Eg Kx A1 E0 rfl ?_)))))))
      refine FO h fun c25 h => DI (f := Fo) Kx Kx A1 ag E0 c25 rfl (qa rfl (Ac (Aj Ay rfl (AZ rfl (qm rfl (Ac ?_))))))
      exact sn [(2006, 2020), (2007, 72)] h
    ·refine AT ?_
     exact sn [(2008, 2007)] h
   ·refine Ah hs (wq rfl (qm rfl (qa rfl (qe rfl ?_))))
    obtain rfl := sj h
    refine Ah (sm [(1000, 2008)] [(4, oD (.own 1000)), (5, iD 0)] [(1000, .vec 3 (v12.map Fo))] rfl rfl) (Ar ?_)
    exact ⟨⟨[_, _], ⟨.tmp _ _ rfl, tm⟩, rfl⟩, ⟨rfl, tv⟩⟩
theorem Pd (N : Nat) (p0 : Ab) (p1 : Ae) (r : (List Aa)) (h : Gk N p0 p1 = some r) : Au Tryz.prog 124 [.e (.agg (Ag p0)), .e (.agg (AK p1))] [(3, r.map Ad)] (oD (.own 0)) := by
 unfold Gk at h
 refine cw (n := 98) (rs := [.tmp 4]) Tryz.func124 fun w0 S0 => ?_
 refine wq rfl (qb rfl (qb rfl (qa rfl (Ac (wq rfl (qa rfl (Ac (wp rfl (qf Bw rfl (ql F0 rfl (AO CK rfl (qm rfl (Ac ?_)))))))))))))
 refine AH (L := DT N p0 p1) h (fun v1 => mk [(3, oD (.ptr 3 0)), (5, oD (.own 2001)), (15, pD (.sl (p0.fG.map AG))), (16, iD ((p0.fG.length : Int))), (17, iD v1.2)] [(3, .box (AK p1)), (2001, .vec 3 (v1.1.map Ad))]) (fun v2 => mk [(5, oD (.own 2002))] [(2002, .vec 3 (v2.map Ad))]) (fun _ _ => rfl) ((AY 5 2013 3 rfl rfl rfl).trans (sm [(2001, 2013)] _ _ rfl rfl)) (fun j1 n1 v1 h => ?_) (fun v2 s h hs => ?_)
 ·unfold DT at h
  refine wq rfl (AV rfl (Ac (AQ ?_)))
  refine Bc h (fun h => ?_) fun h => ?_
  ·refine Am (AQ (AM (wq rfl (qm rfl ?_))))
   refine BK h fun v4 a4 b4 h => qi CK C1 a4 (Ai b4) rfl (qK G6 C1 rfl (qz Jf rfl (qa rfl (qs C1 rfl (Ac (wq rfl (qL B4 A1 rfl (qf DN rfl (ql Cn rfl ?_)))))))))
   refine B7 h fun v5 a5 h => AA [] (Kk N p1 v4.fK v5 a5) YN rfl (qL B4 A1 rfl (qf Jh rfl (ql Cn rfl ?_)))
   refine B7 h fun v6 a6 h => AA [] (Kk N p1 v4.fP v6 a6) YN rfl (qa rfl (qa rfl (AP (by kernel_rfl) ?_)))
   refine AS h (fun v7 => mk [(3, oD (.ptr 3 0)), (5, oD (.own 2003)), (6, iD v1.2), (7, oD (.ptr 7 0)), (8, pD (.val (.int .u8 v7))), (9, pD (.val (.int .u8 v6))), (15, pD (.sl (p0.fG.map AG))), (16, iD ((p0.fG.length : Int))), (17, iD v1.2)] [(3, .box (AK p1)), (7, .box (Bg v4)), (2003, .vec 3 (v1.1.map Ad))]) (fun j7 h => ?_) (fun v7 h => ?_)
   ·refine wq rfl (qL G6 C1 rfl ?_)
    refine B7 h fun v8 a8 h => AA [] (K4 N v4 v8 a8) bN rfl (Ac ?_)
    refine Bc h (fun h => ?_) fun h => ?_
    ·refine Aj Ay rfl (qf Df rfl (ql H7 rfl (qm rfl ?_)))
     refine BK h fun v10 a10 b10 h => qi Ej G1 a10 (Ai b10) rfl (qk LL rfl (qe rfl ?_))
     exact sn [(2003, 2001)] h
    ·refine Am ?_
     exact sn [(2003, 2001)] h
   ·refine wq rfl (qf EP rfl (ql GZ rfl (AO Dx rfl (qm rfl (Ac ?_)))))
    refine AH (L := CC N v1 v4 v6 v7) h (fun v11 => mk [(3, oD (.ptr 3 0)), (5, oD (.own 2004)), (6, iD v1.2), (7, oD (.ptr 7 0)), (8, pD (.val (.int .u8 v7))), (9, pD (.val (.int .u8 v6))), (15, pD (.sl (p0.fG.map AG))), (16, iD ((p0.fG.length : Int))), (17, iD v1.2), (39, iD ((v4.fO.length : Int))), (40, iD v11.2)] [(3, .box (AK p1)), (7, .box (Bg v4)), (2004, .vec 3 (v11.1.map Ad))]) (fun v12 => mk [(3, oD (.ptr 3 0)), (5, oD (.own 2005)), (15, pD (.sl (p0.fG.map AG))), (16, iD ((p0.fG.length : Int))), (17, iD v1.2)] [(3, .box (AK p1)), (2005, .vec 3 (v12.map Ad))]) (fun _ _ => rfl) (sm [(2004, 2003)] _ _ rfl rfl) (fun j11 n11 v11 h => ?_) (fun v12 s h hs => ?_)
    ·unfold CC at h
     refine wq rfl (AV rfl (Ac (AQ ?_)))
     refine Bc h (fun h => ?_) fun h => ?_
     ·refine Am ?_
      refine AS h (fun v14 => mk [(3, oD (.ptr 3 0)), (5, oD (.own 2006)), (6, iD v1.2), (7, oD (.ptr 7 0)), (8, pD (.val (.int .u8 v7))), (9, pD (.val (.int .u8 v6))), (15, pD (.sl (p0.fG.map AG))), (16, iD ((p0.fG.length : Int))), (17, iD v1.2), (39, iD ((v4.fO.length : Int))), (40, iD v11.2)] [(3, .box (AK p1)), (7, .box (Bg v4)), (2006, .vec 3 (v14.map Ad))]) (fun j14 h => ?_) (fun v14 h => ?_)
      ·refine AM (wq rfl (qm rfl (qa rfl (Ac (wp rfl (qw 2 rfl ?_))))))
       refine FO h fun c15 h => KH rfl c15 (OL rfl (B6 rfl (Ac ?_)))
       refine Bc h (fun h => ?_) fun h => ?_
       ·refine AT ?_
        exact sn [(2006, 2004)] h
       ·refine Am (wq rfl (qa rfl (Ac (wp rfl (qf EP rfl (ql GZ rfl (qm rfl ?_)))))))
        refine BK h fun v17 a17 b17 h => qi Dx H5 a17 (Ai b17) rfl (qk Lq rfl (AO Ew rfl (qm rfl (Ac ?_))))
        refine AH (L := Cg N v1 v4 v6 v11 v17) h (fun v18 => mk [(3, oD (.ptr 3 0)), (5, oD (.own 2007)), (6, iD v1.2), (7, oD (.ptr 7 0)), (8, pD (.val (.int .u8 v7))), (9, pD (.val (.int .u8 v6))), (10, iD v11.2), (11, bD v18.2.1), (15, pD (.sl (p0.fG.map AG))), (16, iD ((p0.fG.length : Int))), (17, iD v1.2), (39, iD ((v4.fO.length : Int))), (40, iD v11.2), (52, pD (.sl (v17.map eB))), (53, iD ((v17.length : Int))), (54, iD v18.2.2)] [(3, .box (AK p1)), (7, .box (Bg v4)), (2007, .vec 3 (v18.1.map Ad))]) (fun v19 => mk [(3, oD (.ptr 3 0)), (5, oD (.own 2008)), (6, iD v1.2), (7, oD (.ptr 7 0)), (8, pD (.val (.int .u8 v7))), (9, pD (.val (.int .u8 v6))), (10, iD v11.2), (11, bD v19.2), (15, pD (.sl (p0.fG.map AG))), (16, iD ((p0.fG.length : Int))), (17, iD v1.2), (39, iD ((v4.fO.length : Int))), (40, iD v11.2)] [(3, .box (AK p1)), (7, .box (Bg v4)), (2008, .vec 3 (v19.1.map Ad))]) (fun _ _ => rfl) (sm [(2007, 2004)] _ _ rfl rfl) (fun j18 n18 v18 h => ?_) (fun v19 s h hs => ?_)
        ·unfold Cg at h
         refine wq rfl (AV rfl (Ac (AQ ?_)))
         refine Bc h (fun h => ?_) fun h => ?_
         ·refine Am ?_
          refine AS h (fun v21 => mk [(3, oD (.ptr 3 0)), (5, oD (.own 2009)), (6, iD v1.2), (7, oD (.ptr 7 0)), (8, pD (.val (.int .u8 v7))), (9, pD (.val (.int .u8 v6))), (10, iD v11.2), (11, bD v21.2), (15, pD (.sl (p0.fG.map AG))), (16, iD ((p0.fG.length : Int))), (17, iD v1.2), (39, iD ((v4.fO.length : Int))), (40, iD v11.2), (52, pD (.sl (v17.map eB))), (53, iD ((v17.length : Int))), (54, iD v18.2.2)] [(3, .box (AK p1)), (7, .box (Bg v4)), (2009, .vec 3 (v21.1.map Ad))]) (fun j21 h => ?_) (fun v21 h => ?_)
          ·refine AM (wq rfl (qm rfl ?_))
           refine BK h fun v22 a22 b22 h => qi Ew Ms a22 (Ai b22) rfl (qk TG rfl (qa rfl (qa rfl (Ac (wp rfl (qw 2 rfl ?_))))))
           refine FO h fun c23 h => KH rfl c23 (OL rfl (B6 rfl (Ac ?_)))
           refine Bc h (fun h => ?_) fun h => ?_
           ·refine AT ?_
            exact sn [(2009, 2007)] h
           ·refine Am ?_
            refine AS h (fun v25 => mk [(3, oD (.ptr 3 0)), (5, oD (.own 2010)), (6, iD v1.2), (7, oD (.ptr 7 0)), (8, pD (.val (.int .u8 v7))), (9, pD (.val (.int .u8 v6))), (10, iD v11.2), (11, bD v25), (12, iD v18.2.2), (13, bD v22), (15, pD (.sl (p0.fG.map AG))), (16, iD ((p0.fG.length : Int))), (17, iD v1.2), (39, iD ((v4.fO.length : Int))), (40, iD v11.2), (52, pD (.sl (v17.map eB))), (53, iD ((v17.length : Int))), (54, iD v18.2.2)] [(3, .box (AK p1)), (7, .box (Bg v4)), (2010, .vec 3 (v18.1.map Ad))]) (fun j25 h => ?_) (fun v25 h => ?_)
            ·refine Aj Ay rfl (qw 2 rfl ?_)
             refine EO 65 h rfl (fun h => ?_) fun h => ?_
             ·refine qn rfl (qp rfl (qe rfl ?_))
              exact sn [(2010, 2007)] h
             ·refine qm rfl (qp rfl (qe rfl ?_))
              exact sn [(2010, 2007)] h
            ·refine AS h (fun v27 => mk [(3, oD (.ptr 3 0)), (5, oD (.own 2011)), (6, iD v1.2), (7, oD (.ptr 7 0)), (8, pD (.val (.int .u8 v7))), (9, pD (.val (.int .u8 v6))), (10, iD v11.2), (11, bD v25), (12, iD v18.2.2), (15, pD (.sl (p0.fG.map AG))), (16, iD ((p0.fG.length : Int))), (17, iD v1.2), (39, iD ((v4.fO.length : Int))), (40, iD v11.2), (52, pD (.sl (v17.map eB))), (53, iD ((v17.length : Int))), (54, iD v18.2.2), (74, bD v27)] [(3, .box (AK p1)), (7, .box (Bg v4)), (2011, .vec 3 (v18.1.map Ad))]) (fun j27 h => ?_) (fun v27 h => ?_)
             ·refine Aj Ay rfl (qm rfl (CP rfl (qm rfl ?_)))
              refine EO 70 h rfl (fun h => ?_) fun h => ?_
              ·refine qf Kd rfl (ql TG rfl (CP rfl (qp rfl (Ac ?_))))
               exact sn [(2011, 2010)] h
              ·refine qw 3 rfl (qp rfl (Ac ?_))
               exact sn [(2011, 2010)] h
             ·refine Bc h (fun h => ?_) fun h => ?_
              ·refine Aj Ay rfl (qw 4 rfl (Bd GH QX rfl (Eg Bb CQ GH rfl ?_)))
               refine FO h fun c30 h => DI (f := Ad) Bb Bb CQ Lp GH c30 rfl (qe rfl ?_)
               exact sn [(2009, 81)] h
              ·refine Am ?_
               exact sn [(2009, 2011)] h
          ·refine Aj Ay rfl (AZ rfl (qm rfl (Ac ?_)))
           exact sn [(2007, 2009)] h
         ·refine AT ?_
          exact sn [(2008, 2007)] h
        ·refine Ah hs ?_
         refine AS h (fun v31 => mk [(3, oD (.ptr 3 0)), (5, oD (.own 2012)), (6, iD v1.2), (7, oD (.ptr 7 0)), (8, pD (.val (.int .u8 v7))), (9, pD (.val (.int .u8 v6))), (10, iD v11.2), (15, pD (.sl (p0.fG.map AG))), (16, iD ((p0.fG.length : Int))), (17, iD v1.2), (39, iD ((v4.fO.length : Int))), (40, iD v11.2), (88, bD v31)] [(3, .box (AK p1)), (7, .box (Bg v4)), (2012, .vec 3 (v19.1.map Ad))]) (fun j31 h => ?_) (fun v31 h => ?_)
         ·refine Aj Ay rfl (qf Kd rfl (ql TG rfl (qm rfl ?_)))
          refine EO 85 h rfl (fun h => ?_) fun h => ?_
          ·refine qm rfl (CP rfl (qp rfl (Ac ?_)))
           exact sn [(2012, 2008)] h
          ·refine qw 2 rfl (qp rfl (Ac ?_))
           exact sn [(2012, 2008)] h
         ·refine Bc h (fun h => ?_) fun h => ?_
          ·refine Aj Ay rfl (qw 3 rfl (Bd GH QX rfl (Eg Bb CQ GH rfl ?_)))
           refine FO h fun c34 h => DI (f := Ad) Bb Bb CQ Lp GH c34 rfl (qe rfl ?_)
           exact sn [(2006, 94)] h
          ·refine Am ?_
           exact sn [(2006, 2012)] h
      ·refine Aj Ay rfl (AZ rfl (qm rfl (Ac ?_)))
       exact sn [(2004, 2006)] h
     ·refine AT ?_
      exact sn [(2005, 2004)] h
    ·refine Ah hs (Aj Ay rfl (AZ rfl (qm rfl (Ac ?_))))
     exact sn [(2001, 2005)] h
  ·refine AT ?_
   exact sn [(2002, 2001)] h
 ·refine Ah hs (wq rfl (qm rfl (qe rfl ?_)))
  obtain rfl := sj h
  refine Ah (sm [(1000, 2002)] [(4, oD (.own 1000))] [(1000, .vec 3 (v2.map Ad))] rfl rfl) (Ar ?_)
  exact ⟨⟨[_], tm, rfl⟩, ⟨rfl, tv⟩⟩
theorem Ud (N : Nat) (p0 : Ab) (p1 : Ae) (r : Ae × Aa × Int) (h : H8 N p0 p1 = some r) : Au Tryz.prog 87 [.e (.agg (Ag p0)), .e (.agg (AK p1))] [] (.tup [.agg (AK r.1), .agg (E8 r.2.1), .one (iC r.2.2)]) := by
 unfold H8 at h
 refine cw (n := 42) (rs := [.cell 4 64, .cell 5 45, .tmp 6]) Tryz.func87 fun w0 S0 => ?_
 refine wq rfl (qb rfl (qb rfl (qz E0 rfl (qz GH rfl (qa rfl (Ac (wq rfl (qL Cu BF rfl (qL B4 A1 rfl ?_)))))))))
 refine B7 h fun v1 a1 h => AA [2001] (Se N p0 p1 v1 a1) dW rfl (qm rfl (qx rfl (qx rfl (qa rfl (qa rfl (Ac (wp rfl (qm rfl (BS rfl (Ac ?_))))))))))
 refine Bc h (fun h => ?_) fun h => ?_
 ·refine wq rfl (Bd E0 Jo rfl (Bd GH QX rfl (qm rfl (qs A1 rfl (qs CQ rfl (qe rfl ?_))))))
  obtain rfl := sj h
  refine Ah ((L6 4 _ rfl).trans (sm [] [(4, oD (.ptr 4 0)), (5, oD (.ptr 5 0)), (6, iD v1.2)] [(4, .box [sC ((([] : List Int)).map Aq), sC ((([] : List Int)).map Aq), sC ((([] : List Int)).map Eh)]), (5, .box [iC 0, iC 0, iC 0])] rfl rfl)) (Ar ?_)
  exact ⟨⟨[_, _, _], ⟨.cellN _ _ _ _ _ _ _ rfl rfl B4 A1 rfl rfl (Jw rfl), ⟨.cellN _ _ _ _ _ _ _ rfl rfl ID CQ rfl rfl (Jw rfl), tm⟩⟩, rfl⟩, tv⟩
 ·refine Am (wp rfl (qm rfl (Dm Kx rfl (qm rfl (Ac ?_)))))
  refine AH (L := Fq N p0 v1) h (fun v3 => mk [(2, oD (.ptr 2 0)), (4, oD (.ptr 4 0)), (5, oD (.ptr 5 0)), (23, oD (.own 2002)), (24, iD ((v1.1.length : Int))), (25, iD v3)] [(2, .box (Ag p0)), (4, .box [.pure (.nil0), .pure (.nil0), .pure (.nil0)]), (5, .box [iC 0, iC 0, iC 0]), (2002, .vec 3 (v1.1.map Fo))]) (fun v4 => mk [(4, oD (.ptr 4 0)), (5, oD (.ptr 5 0))] [(4, .box [.pure (.nil0), .pure (.nil0), .pure (.nil0)]), (5, .box [iC 0, iC 0, iC 0])]) (fun _ _ => rfl) (sm [(2002, 2001)] _ _ rfl rfl) (fun j3 n3 v3 h => ?_) (fun v4 s h hs => ?_)
  ·unfold Fq at h
   refine wq rfl (AV rfl (Ac (AQ ?_)))
   refine Bc h (fun h => ?_) fun h => ?_
   ·refine Am (AQ (AM (wq rfl ?_)))
    refine BK h fun v6 a6 b6 h => qI Kx A1 a6 (Ai b6) rfl (qJ B4 A1 (Ai b6) rfl (qz E0 rfl (qs A1 rfl (Ac (wq rfl (qL Cu BF rfl (qL B4 A1 rfl ?_)))))))
    refine B7 h fun v7 a7 h => AA [2003] (Pd N p0 v6 v7 a7) d4 rfl (qa rfl (Ac (wq rfl (qm rfl (Dm Bb rfl (Gf rfl (Ac ?_)))))))
    refine Bc h (fun h => ?_) fun h => ?_
    ·refine wq rfl (qL B4 A1 rfl (qm rfl ?_))
     refine BK h fun v9 a9 b9 h => qI Bb CQ a9 (Ai b9) rfl (qJ ID CQ (Ai b9) rfl (qs A1 rfl (qs CQ rfl (qa rfl (AP (by kernel_rfl) ?_)))))
     obtain rfl := sj h
     refine Ah (sm [] [(4, oD (.ptr 4 0)), (5, oD (.ptr 5 0)), (6, iD 0)] [(4, .box (AK v6)), (5, .box (E8 v9))] rfl rfl) (Ar ?_)
     exact ⟨⟨[_, _, _], ⟨.cellN _ _ _ _ _ _ _ rfl rfl B4 A1 rfl rfl (Jw rfl), ⟨.cellN _ _ _ _ _ _ _ rfl rfl ID CQ rfl rfl (Jw rfl), tm⟩⟩, rfl⟩, tv⟩
    ·refine Am (Aj Ay rfl (AZ rfl (qm rfl (Ac ?_))))
     exact sn [] h
   ·refine AT ?_
    exact sn [] h
  ·refine Ah hs (wq rfl (Bd E0 Jo rfl (Bd GH QX rfl (qs A1 rfl (qs CQ rfl (qe rfl ?_))))))
   obtain rfl := sj h
   refine Ah ((L6 4 _ rfl).trans (sm [] [(4, oD (.ptr 4 0)), (5, oD (.ptr 5 0)), (6, iD 15)] [(4, .box [sC ((([] : List Int)).map Aq), sC ((([] : List Int)).map Aq), sC ((([] : List Int)).map Eh)]), (5, .box [iC 0, iC 0, iC 0])] rfl rfl)) (Ar ?_)
   exact ⟨⟨[_, _, _], ⟨.cellN _ _ _ _ _ _ _ rfl rfl B4 A1 rfl rfl (Jw rfl), ⟨.cellN _ _ _ _ _ _ _ rfl rfl ID CQ rfl rfl (Jw rfl), tm⟩⟩, rfl⟩, tv⟩
theorem NR (N : Nat) (p0 : Ab) (p1 : Ae) (r : Bool × Int) (h : GP N p0 p1 = some r) : Au Tryz.prog 63 [.e (.agg (Ag p0)), .e (.agg (AK p1))] [] (.tup [.one (.pure (.val (.bool r.1))), .one (iC r.2)]) := by
 unfold GP at h
 refine cw (n := 22) (rs := [.tmp 4, .tmp 5]) Tryz.func63 fun w0 S0 => ?_
 refine wq rfl (qb rfl (qb rfl (qa rfl (qa rfl (Ac (wq rfl (qL Cu BF rfl (qL B4 A1 rfl ?_))))))))
 refine B7 h fun v1 a1 h => AA [] (Ud N p0 p1 v1 a1) fm rfl (qm rfl (qx rfl (qx rfl (qx rfl (qz E0 rfl (qz GH rfl (qs A1 rfl (qs CQ rfl (qa rfl (Ac (wq rfl (qm rfl (Ac (AM (wq rfl (B6 rfl (qe rfl ?_)))))))))))))))))
 refine Bc h (fun h => ?_) fun h => ?_
 ·refine wq rfl (qa rfl (qe rfl ?_))
  obtain rfl := sj h
  refine Ah (sm [] [(4, bD false), (5, iD 0)] [] rfl rfl) (Ar ?_)
  exact ⟨⟨[_, _], ⟨.tmp _ _ rfl, tm⟩, rfl⟩, tv⟩
 ·refine wq rfl (B6 rfl (qe rfl ?_))
  refine Bc h (fun h => ?_) fun h => ?_
  ·refine wq rfl (qa rfl (qe rfl ?_))
   obtain rfl := sj h
   refine Ah (sm [] [(4, bD true), (5, iD 0)] [] rfl rfl) (Ar ?_)
   exact ⟨⟨[_, _], ⟨.tmp _ _ rfl, tm⟩, rfl⟩, tv⟩
  ·refine wq rfl (qm rfl (qa rfl (qe rfl ?_)))
   obtain rfl := sj h
   refine Ah (sm [] [(4, bD false), (5, iD v1.2.2)] [] rfl rfl) (Ar ?_)
   exact ⟨⟨[_, _], ⟨.tmp _ _ rfl, tm⟩, rfl⟩, tv⟩
theorem Qy (N : Nat) (p0 : Ae) (r : ByteArray) (h : HW N p0 = some r) : Au Tryz.prog 88 [.e (.agg (AK p0))] [] (pD (.val (.string r))) := by
 unfold HW at h
 refine cw (n := 53) (rs := [.tmp 2]) Tryz.func88 fun w0 S0 => ?_
 refine wq rfl (qb rfl (qa rfl (Ac (wq rfl (qf De rfl (ql A7 rfl (AO AC rfl (NE rfl (qf Df rfl (ql H7 rfl (AO Ej rfl (AZ rfl ?_))))))))))))
 refine FO h fun c1 h => LF (.p rfl) rfl rfl rfl Lj aX ct (Hn rfl) d8 rfl rfl rfl c1.1 c1.2.1 c1.2.2 (R1 Eh _ ((0 : Int))) ?_
 refine qa rfl (Ac (wp rfl (qf De rfl (ql A7 rfl (AO AC rfl (qm rfl (Ac ?_)))))))
 refine AH (L := Fg N p0) h (fun v2 => mk [(1, oD (.ptr 1 0)), (3, oD (.own 2001)), (18, iD ((p0.fH.length : Int))), (19, iD v2.2)] [(1, .box (AK p0)), (2001, .vec 1 (v2.1.map Eh))]) (fun v3 => mk [(1, oD (.ptr 1 0)), (3, oD (.own 2002))] [(1, .box (AK p0)), (2002, .vec 1 (v3.map Eh))]) (fun _ _ => rfl) (sm [(2001, 15)] _ _ rfl rfl) (fun j2 n2 v2 h => ?_) (fun v3 s h hs => ?_)
 ·unfold Fg at h
  refine wq rfl (AV rfl (Ac (AQ ?_)))
  refine Bc h (fun h => ?_) fun h => ?_
  ·refine Am (AQ (AM (wq rfl (qm rfl (qa rfl (Ac (Aj Ay rfl (qm rfl (qf De rfl (ql A7 rfl (qm rfl ?_)))))))))))
   refine BK h fun v5 a5 b5 h => qi AC DH a5 (Ai b5) rfl (qk Cn rfl (KO ep fy rfl (qf BL rfl (ql A7 rfl (qm rfl ?_)))))
   refine BK h fun v6 a6 b6 h => qi AC DH a6 (Ai b6) rfl (qk Cn rfl (AZ rfl (KO ep fy rfl (Eg Lj aX d8 rfl ?_))))
   refine FO h fun c7 h => DI (f := Eh) Lj Lj aX ct d8 c7 rfl (qa rfl (AP (by kernel_rfl) (Aj Ay rfl (AZ rfl (qm rfl (Ac ?_))))))
   exact sn [(2001, 37)] h
  ·refine AT ?_
   exact sn [(2002, 2001)] h
 ·refine Ah hs (wp rfl (qf Df rfl (ql H7 rfl (AO Ej rfl (qm rfl (Ac ?_))))))
  refine AH (L := D6 N p0) h (fun v8 => mk [(3, oD (.own 2003)), (40, pD (.sl (p0.fI.map Eh))), (41, iD ((p0.fI.length : Int))), (42, iD v8.2)] [(2003, .vec 1 (v8.1.map Eh))]) (fun v9 => mk [(3, oD (.own 2004))] [(2004, .vec 1 (v9.map Eh))]) (fun _ _ => rfl) (sm [(2003, 2002)] _ _ rfl rfl) (fun j8 n8 v8 h => ?_) (fun v9 s h hs => ?_)
  ·unfold D6 at h
   refine wq rfl (AV rfl (Ac (AQ ?_)))
   refine Bc h (fun h => ?_) fun h => ?_
   ·refine Am (AQ (AM (wq rfl ?_)))
    refine BK h fun v11 a11 b11 h => qi Ej G1 a11 (Ai b11) rfl (qk LL rfl (qa rfl (Ac (Aj Ay rfl (qw 2 rfl (Eg Lj aX d8 rfl ?_))))))
    refine FO h fun c12 h => DI (f := Eh) Lj Lj aX ct d8 c12 rfl (qa rfl (Ac (Aj Ay rfl (AZ rfl (qm rfl (Ac ?_))))))
    exact sn [(2003, 49)] h
   ·refine AT ?_
    exact sn [(2004, 2003)] h
  ·refine Ah hs (wq rfl (qm rfl ?_))
   refine YB v9 (.p rfl) rfl (Xu Eh _ _ _) ⟨rfl, tv⟩ rfl dQ dz ?_
   refine qa rfl (Ac ?_)
   obtain rfl := sj h
   refine Ah (sm [] [(2, pD (.val (.string ((CU v9)))))] [] rfl rfl) (Ar ?_)
   exact ⟨⟨[_], tm, rfl⟩, tv⟩
theorem UZ (N : Nat) (p0 : Ab) (r : (List Af)) (h : IT N p0 = some r) : Au Tryz.prog 126 [.e (.agg (Ag p0))] [(3, r.map AD)] (oD (.own 0)) := by
 unfold IT at h
 refine cw (n := 54) (rs := [.tmp 2]) Tryz.func126 fun w0 S0 => ?_
 refine wq rfl (qb rfl (qa rfl (Ac (wq rfl (qa rfl (Ac (wp rfl (qf Bs rfl (ql A7 rfl (AO AC rfl (qm rfl (Ac ?_))))))))))))
 refine AH (L := Dz N p0) h (fun v1 => mk [(1, oD (.ptr 1 0)), (3, oD (.own 2001)), (10, pD (.sl (p0.fF.map Aq))), (11, iD ((p0.fF.length : Int))), (12, iD v1.2)] [(1, .box (Ag p0)), (2001, .vec 3 (v1.1.map AD))]) (fun v2 => mk [(1, oD (.ptr 1 0)), (3, oD (.own 2002))] [(1, .box (Ag p0)), (2002, .vec 3 (v2.map AD))]) (fun _ _ => rfl) ((AY 3 2005 3 rfl rfl rfl).trans (sm [(2001, 2005)] _ _ rfl rfl)) (fun j1 n1 v1 h => ?_) (fun v2 s h hs => ?_)
 ·unfold Dz at h
  refine wq rfl (AV rfl (Ac (AQ ?_)))
  refine Bc h (fun h => ?_) fun h => ?_
  ·refine Am (AQ (AM (wq rfl (qm rfl ?_))))
   refine BK h fun v4 a4 b4 h => qi AC DH a4 (Ai b4) rfl (qk Cn rfl (qa rfl (qa rfl (Ac (wq rfl (qw 2 rfl (Ac ?_)))))))
   refine AH (L := Fm N v1 v4) h (fun v5 => mk [(1, oD (.ptr 1 0)), (3, oD (.own 2003)), (4, iD v1.2), (10, pD (.sl (p0.fF.map Aq))), (11, iD ((p0.fF.length : Int))), (12, iD v1.2), (17, iD v4), (18, iD v5.2)] [(1, .box (Ag p0)), (2003, .vec 3 (v5.1.map AD))]) (fun v6 => mk [(1, oD (.ptr 1 0)), (3, oD (.own 2004)), (10, pD (.sl (p0.fF.map Aq))), (11, iD ((p0.fF.length : Int))), (12, iD v1.2)] [(1, .box (Ag p0)), (2004, .vec 3 (v6.map AD))]) (fun _ _ => rfl) (sm [(2003, 2001)] _ _ rfl rfl) (fun j5 n5 v5 h => ?_) (fun v6 s h hs => ?_)
   ·unfold Fm at h
    refine wq rfl (AV rfl (Ac (AQ ?_)))
    refine Bc h (fun h => ?_) fun h => ?_
    ·refine Am (AQ (AM (wq rfl (qm rfl (qa rfl (Ac (Aj Ay rfl (qw 3 rfl (Bd H0 Ww rfl (Eg E6 C4 H0 rfl ?_))))))))))
     refine FO h fun c8 h => DI (f := AD) E6 E6 C4 Ol H0 c8 rfl (qa rfl (Ac (Aj Ay rfl (AZ rfl (qm rfl (Ac ?_))))))
     exact sn [(2003, 26)] h
    ·refine AT ?_
     exact sn [(2004, 2003)] h
   ·refine Ah hs (Aj Ay rfl (AZ rfl (qm rfl (Ac ?_))))
    exact sn [(2001, 2004)] h
  ·refine AT ?_
   exact sn [(2002, 2001)] h
 ·refine Ah hs (wp rfl (qf Bs rfl (ql A7 rfl (AO AC rfl (qm rfl (Ac ?_))))))
  refine AH (L := Cz N p0) h (fun v9 => mk [(1, oD (.ptr 1 0)), (3, oD (.own 2006)), (31, iD ((p0.fF.length : Int))), (32, iD v9.2)] [(1, .box (Ag p0)), (2006, .vec 3 (v9.1.map AD))]) (fun v10 => mk [(1, oD (.ptr 1 0)), (3, oD (.own 2007))] [(1, .box (Ag p0)), (2007, .vec 3 (v10.map AD))]) (fun _ _ => rfl) (sm [(2006, 2002)] _ _ rfl rfl) (fun j9 n9 v9 h => ?_) (fun v10 s h hs => ?_)
  ·unfold Cz at h
   refine wq rfl (AV rfl (Ac (AQ ?_)))
   refine Bc h (fun h => ?_) fun h => ?_
   ·refine Am (AQ (AM (wq rfl (qm rfl (qa rfl (Ac (Aj Ay rfl (qw 2 rfl (Bd H0 Ww rfl (Eg E6 C4 H0 rfl ?_))))))))))
    refine FO h fun c12 h => DI (f := AD) E6 E6 C4 Ol H0 c12 rfl (qa rfl (Ac (Aj Ay rfl (AZ rfl (qm rfl (Ac ?_))))))
    exact sn [(2006, 39)] h
   ·refine AT ?_
    exact sn [(2007, 2006)] h
  ·refine Ah hs (wp rfl (qf Bw rfl (ql F0 rfl (AO CK rfl (qm rfl (Ac ?_))))))
   refine AH (L := By N p0) h (fun v13 => mk [(3, oD (.own 2008)), (43, iD ((p0.fG.length : Int))), (44, iD v13.2)] [(2008, .vec 3 (v13.1.map AD))]) (fun v14 => mk [(3, oD (.own 2009))] [(2009, .vec 3 (v14.map AD))]) (fun _ _ => rfl) (sm [(2008, 2007)] _ _ rfl rfl) (fun j13 n13 v13 h => ?_) (fun v14 s h hs => ?_)
   ·unfold By at h
    refine wq rfl (AV rfl (Ac (AQ ?_)))
    refine Bc h (fun h => ?_) fun h => ?_
    ·refine Am (AQ (AM (wq rfl (qm rfl (qa rfl (Ac (Aj Ay rfl (qw 2 rfl (Bd H0 Ww rfl (Eg E6 C4 H0 rfl ?_))))))))))
     refine FO h fun c16 h => DI (f := AD) E6 E6 C4 Ol H0 c16 rfl (qa rfl (Ac (Aj Ay rfl (AZ rfl (qm rfl (Ac ?_))))))
     exact sn [(2008, 51)] h
    ·refine AT ?_
     exact sn [(2009, 2008)] h
   ·refine Ah hs (wq rfl (qm rfl (qe rfl ?_)))
    obtain rfl := sj h
    refine Ah (sm [(1000, 2009)] [(2, oD (.own 1000))] [(1000, .vec 3 (v14.map AD))] rfl rfl) (Ar ?_)
    exact ⟨⟨[_], tm, rfl⟩, ⟨rfl, tv⟩⟩
theorem QK (N : Nat) (p0 : Ae) (r : Ae) (h : Hc N p0 = some r) : Au Tryz.prog 148 [.e (.agg (AK p0))] [(1, r.fH.map Aq), (1, r.fE.map Aq), (1, r.fI.map Eh)] (.e (.agg [.own 0, .own 1, .own 2])) := by
 unfold Hc at h
 refine cw (n := 13) (rs := [.cell 2 64]) Tryz.func148 fun w0 S0 => ?_
 refine wq rfl (qb rfl (qz E0 rfl (Ac (wq rfl (qf De rfl (ql A7 rfl ?_))))))
 refine B7 h fun v1 a1 h => AA [2001] (CA N p0.fH v1 a1) T7 rfl (qf BL rfl (ql A7 rfl ?_))
 refine B7 h fun v2 a2 h => AA [2002] (CA N p0.fE v2 a2) T7 rfl (qf Df rfl (ql H7 rfl ?_))
 refine B7 h fun v3 a3 h => AA [2003] (Gr N p0.fI v3 a3) aR rfl (Bd E0 Jo rfl (qs A1 rfl (AP (by kernel_rfl) ?_)))
 obtain rfl := sj h
 refine Ah (sm [(1000, 2001), (1001, 2002), (1002, 2003)] [(2, oD (.ptr 2 0))] [(2, .box [.own 1000, .own 1001, .own 1002]), (1000, .vec 1 (v1.map Aq)), (1001, .vec 1 (v2.map Aq)), (1002, .vec 1 (v3.map Eh))] rfl rfl) (Ar ?_)
 exact ⟨⟨[_], ⟨.cellN _ _ _ _ _ _ _ rfl rfl B4 A1 rfl rfl (Jw rfl), tv⟩, rfl⟩, ⟨rfl, rfl, rfl, tv⟩⟩
theorem Mx (N : Nat) (p0 : Ao) (r : Bool) (h : Gi N p0 = some r) : Au Tryz.prog 156 [.e (.agg (Bg p0))] [] (bD r) := by
 unfold Gi at h
 refine cw (n := 11) (rs := [.tmp 2]) Tryz.func156 fun w0 S0 => ?_
 refine wq rfl (qb rfl (qe rfl ?_))
 refine AS h (fun v1 => mk [(2, bD v1)] []) (fun j1 h => ?_) (fun v1 h => ?_)
 ·refine Aj Ay rfl (qf GX rfl (ql Cn rfl (B6 rfl (qm rfl ?_))))
  refine EO 6 h rfl (fun h => ?_) fun h => ?_
  ·refine qw 3 rfl (qp rfl (qe rfl ?_))
   exact sn [] h
  ·refine qf GX rfl (ql Cn rfl (B6 rfl (qp rfl (qe rfl ?_))))
   exact sn [] h
 ·obtain rfl := sj h
  refine Ah (sm [] [(2, bD v1)] [] rfl rfl) (Ar ?_)
  exact ⟨⟨[_], tm, rfl⟩, tv⟩
theorem Ss (N : Nat) (p0 : Ab) (p1 : Ae) (p2 : Af) (r : Bool × (List Int) × (List Int)) (h : IG N p0 p1 p2 = some r) : D1 Tryz.prog 149 [.e (.agg (Ag p0)), oD (.ptr 90000 0), .e (.agg (DA p2))] [(.box [.own 90001, .own 90002, .own 90003], .box [.own 90001, .own 90002, .own 90003]), (.vec 1 (p1.fH.map Aq), .vec 1 (p1.fH.map Aq)), (.vec 1 (p1.fE.map Aq), .vec 1 (r.2.1.map Aq)), (.vec 1 (p1.fI.map Eh), .vec 1 (r.2.2.map Eh))] [] (bD r.1) := by
 unfold IG at h
 refine Fb (n := 70) (rs := [.tmp 6]) Tryz.func149 rfl rfl rfl (Hn rfl) (Hn rfl) rfl rfl (Hn rfl) rfl (Hn rfl) fun w0 S0 GL => ?_
 refine Ah (sm [] [(0, .e (.agg (Ag p0))), (1, oD (.ptr 90000 0)), (2, .e (.agg (DA p2)))] [(90000, .box [.own 90001, .own 90002, .own 90003]), (90001, .vec 1 (p1.fH.map Aq)), (90002, .vec 1 (p1.fE.map Aq)), (90003, .vec 1 (p1.fI.map Eh))] rfl rfl) (wq rfl (qb rfl (qb rfl (qa rfl (Ac (AQ ?_))))))
 refine AS h (fun v1 => mk [(1, oD (.ptr 90000 0)), (3, oD (.ptr 3 0)), (5, oD (.ptr 5 0)), (30, bD v1)] [(3, .box (Ag p0)), (5, .box (DA p2)), (90000, .box [.own 90001, .own 90002, .own 90003]), (90001, .vec 1 (p1.fH.map Aq)), (90002, .vec 1 (p1.fE.map Aq)), (90003, .vec 1 (p1.fI.map Eh))]) (fun j1 h => ?_) (fun v1 h => ?_)
 ·refine Aj Ay rfl (qm rfl (ab rfl (qf BL rfl (ql A7 rfl (qf EX rfl (ql Cn rfl ?_))))))
  refine BK h fun v2 a2 b2 h => qI AC DH a2 (Ai b2) rfl (qj Cn (Ai b2) rfl (FM rfl (qm rfl ?_)))
  refine EO 18 h rfl (fun h => ?_) fun h => ?_
  ·refine qw 11 rfl (qp rfl (AP (by kernel_rfl) ?_))
   exact sn [] h
  ·refine qm rfl (ab rfl (qf De rfl (ql A7 rfl (qf EX rfl (ql Cn rfl ?_)))))
   refine BK h fun v4 a4 b4 h => qI AC DH a4 (Ai b4) rfl (qj Cn (Ai b4) rfl (qf GO rfl (ql Cn rfl (B6 rfl (qp rfl (AP (by kernel_rfl) ?_))))))
   exact sn [] h
 ·refine Bc h (fun h => ?_) fun h => ?_
  ·refine wq rfl (qe rfl ?_)
   obtain rfl := sj h
   refine Ah (sm [] [(6, bD false)] [(90000, .box [.own 90001, .own 90002, .own 90003]), (90001, .vec 1 (p1.fH.map Aq)), (90002, .vec 1 (p1.fE.map Aq)), (90003, .vec 1 (p1.fI.map Eh))] rfl rfl) (Ar ?_)
   exact ⟨⟨[_], tm, rfl⟩, ⟨rfl, rfl, rfl, rfl, tv⟩, tv⟩
  ·refine Am (wq rfl (qm rfl (ab rfl (qf BL rfl (ql A7 rfl (qf EX rfl (ql Cn rfl (qf GO rfl (ql Cn rfl ?_)))))))))
   refine BK h fun v6 a6 b6 h => qI AC DH a6 (Ai b6) rfl ?_
   refine D4 rfl rfl rfl rfl (Ai b6) rfl DH rfl (Hn rfl) (C8 Aq p1.fE _ p2.fT) ?_
   refine AP (by kernel_rfl) (wp rfl (qf Bw rfl (ql F0 rfl (AO CK rfl (qm rfl (Ac ?_))))))
   refine AH (L := Ei N p0 p2) h (fun v7 => mk [(1, oD (.ptr 90000 0)), (5, oD (.ptr 5 0)), (41, pD (.sl (p0.fG.map AG))), (42, iD ((p0.fG.length : Int))), (43, iD v7.2)] [(5, .box (DA p2)), (90000, .box [.own 90001, .own 90002, .own 90003]), (90001, .vec 1 (p1.fH.map Aq)), (90002, .vec 1 ((p1.fE.set ((p2.fN).toNat) p2.fT).map Aq)), (90003, .vec 1 (v7.1.map Eh))]) (fun v8 => mk [] [(90000, .box [.own 90001, .own 90002, .own 90003]), (90001, .vec 1 (p1.fH.map Aq)), (90002, .vec 1 ((p1.fE.set ((p2.fN).toNat) p2.fT).map Aq)), (90003, .vec 1 (v8.map Eh))]) (fun _ _ => rfl) (sm [] _ _ rfl rfl) (fun j7 n7 v7 h => ?_) (fun v8 s h hs => ?_)
   ·unfold Ei at h
    refine wq rfl (AV rfl (Ac (AQ ?_)))
    refine Bc h (fun h => ?_) fun h => ?_
    ·refine Am ?_
     refine AS h (fun v10 => mk [(1, oD (.ptr 90000 0)), (5, oD (.ptr 5 0)), (41, pD (.sl (p0.fG.map AG))), (42, iD ((p0.fG.length : Int))), (43, iD v7.2)] [(5, .box (DA p2)), (90000, .box [.own 90001, .own 90002, .own 90003]), (90001, .vec 1 (p1.fH.map Aq)), (90002, .vec 1 ((p1.fE.set ((p2.fN).toNat) p2.fT).map Aq)), (90003, .vec 1 (v10.map Eh))]) (fun j10 h => ?_) (fun v10 h => ?_)
     ·refine AM (wq rfl (qm rfl ?_))
      refine BK h fun v11 a11 b11 h => qi CK C1 a11 (Ai b11) rfl (qK G6 C1 rfl (qz Jf rfl (qa rfl (qs C1 rfl (Ac ?_)))))
      refine AS h (fun v12 => mk [(1, oD (.ptr 90000 0)), (5, oD (.ptr 5 0)), (7, iD v7.2), (41, pD (.sl (p0.fG.map AG))), (42, iD ((p0.fG.length : Int))), (43, iD v7.2), (56, bD v12)] [(5, .box (DA p2)), (90000, .box [.own 90001, .own 90002, .own 90003]), (90001, .vec 1 (p1.fH.map Aq)), (90002, .vec 1 ((p1.fE.set ((p2.fN).toNat) p2.fT).map Aq)), (90003, .vec 1 (v7.1.map Eh))]) (fun j12 h => ?_) (fun v12 h => ?_)
      ·refine Aj Ay rfl (qf DN rfl (ql Cn rfl (qf EX rfl (ql Cn rfl (B6 rfl (qm rfl ?_))))))
       refine EO 53 h rfl (fun h => ?_) fun h => ?_
       ·refine qL G6 C1 rfl ?_
        refine B7 h fun v14 a14 h => AA [] (Mx N v11 v14 a14) au rfl (qp rfl (Ac ?_))
        exact sn [] h
       ·refine qw 2 rfl (qp rfl (Ac ?_))
        exact sn [] h
      ·refine Bc h (fun h => ?_) fun h => ?_
       ·refine Aj Ay rfl (qm rfl (ab rfl (qf Df rfl (ql H7 rfl (qm rfl ?_)))))
        refine BK h fun v16 a16 b16 h => qI Ej G1 a16 (Ai b16) rfl (qj LL (Ai b16) rfl (qf GO rfl (ql Cn rfl ?_)))
        refine FO h fun c17 h => Kh rfl c17 (Xw rfl ?_)
        refine BK h fun v18 a18 b18 h => qI Ej G1 a18 (Ai b18) rfl ?_
        refine D4 rfl rfl rfl rfl (Ai b18) rfl G1 rfl (Hn rfl) (C8 Eh v7.1 _ ((QD .u8 v16 ((Ex .u8 1 p2.fT))))) ?_
        refine AP (by kernel_rfl) ?_
        exact sn [] h
       ·refine Am ?_
        exact sn [] h
     ·refine Aj Ay rfl (AZ rfl (qm rfl (Ac ?_)))
      exact sn [] h
    ·refine AT ?_
     exact sn [] h
   ·refine Ah hs (wq rfl (qe rfl ?_))
    obtain rfl := sj h
    refine Ah (sm [] [(6, bD true)] [(90000, .box [.own 90001, .own 90002, .own 90003]), (90001, .vec 1 (p1.fH.map Aq)), (90002, .vec 1 ((p1.fE.set ((p2.fN).toNat) p2.fT).map Aq)), (90003, .vec 1 (v8.map Eh))] rfl rfl) (Ar ?_)
    exact ⟨⟨[_], tm, rfl⟩, ⟨rfl, rfl, rfl, rfl, tv⟩, tv⟩
theorem Pz (N : Nat) (p0 : Ae) (p1 : Int) (r : Int) (h : GM N p0 p1 = some r) : Au Tryz.prog 157 [.e (.agg (AK p0)), iD p1] [] (pD (.val (.int .u8 r))) := by
 unfold GM at h
 refine cw (n := 27) (rs := [.tmp 4]) Tryz.func157 fun w0 S0 => ?_
 refine wq rfl (qb rfl (qa rfl (Ac (wq rfl (qf De rfl (ql A7 rfl (qm rfl ?_)))))))
 refine BK h fun v1 a1 b1 h => qi AC DH a1 (Ai b1) rfl (qk Cn rfl ?_)
 refine FO h fun c2 h => Kh rfl c2 (qe rfl ?_)
 refine AS h (fun v3 => mk [(5, pD (.val (.int .u8 v3)))] []) (fun j3 h => ?_) (fun v3 h => ?_)
 ·refine wq rfl (qf BL rfl (ql A7 rfl (qm rfl ?_)))
  refine BK h fun v4 a4 b4 h => qi AC DH a4 (Ai b4) rfl (qk Cn rfl (FM rfl (Ac ?_)))
  refine Bc h (fun h => ?_) fun h => ?_
  ·refine Aj Ay rfl (qm rfl (qf BL rfl (ql A7 rfl (qm rfl ?_))))
   refine BK h fun v6 a6 b6 h => qi AC DH a6 (Ai b6) rfl (qk Cn rfl ?_)
   refine FO h fun c7 h => Kh rfl c7 (Xw rfl (qe rfl ?_))
   exact sn [] h
  ·refine Am ?_
   exact sn [] h
 ·refine wq rfl (qm rfl (qe rfl ?_))
  obtain rfl := sj h
  refine Ah (sm [] [(4, pD (.val (.int .u8 v3)))] [] rfl rfl) (Ar ?_)
  exact ⟨⟨[_], tm, rfl⟩, tv⟩
theorem JW (N : Nat) (p0 : Int) (r : Int) (h : Du N p0 = some r) : Au Tryz.prog 161 [pD (.val (.int .u8 p0))] [] (iD r) := by
 unfold Du at h
 refine cw (n := 6) (rs := [.tmp 2]) Tryz.func161 fun w0 S0 => ?_
 refine wq rfl (qa rfl (Ac (wq rfl (qm rfl ?_))))
 refine B7 h fun v1 a1 h => W5 (.p rfl) rfl rfl dz a1 ?_
 refine KO cu ao rfl (qe rfl ?_)
 obtain rfl := sj h
 refine Ah (sm [] [(2, iD ((wI .i64 v1)))] [] rfl rfl) (Ar ?_)
 exact ⟨⟨[_], tm, rfl⟩, tv⟩
theorem NK (N : Nat) (p0 : Ao) (p1 : Int) (p2 : Int) (r : Bool) (h : GD N p0 p1 p2 = some r) : Au Tryz.prog 158 [.e (.agg (Bg p0)), pD (.val (.int .u8 p1)), iD p2] [] (bD r) := by
 unfold GD at h
 refine cw (n := 25) (rs := [.tmp 6]) Tryz.func158 fun w0 S0 => ?_
 refine wq rfl (qb rfl (qa rfl (Ac (wp rfl (qm rfl (qe rfl ?_))))))
 refine AH (L := D0 N p0 p2) h (fun v1 => mk [(2, iD p2), (3, oD (.ptr 3 0)), (7, pD (.val (.int .u8 v1)))] [(3, .box (Bg p0))]) (fun v2 => mk [] []) (fun _ _ => rfl) (sm [] _ _ rfl rfl) (fun j1 n1 v1 h => ?_) (fun v2 s h hs => ?_)
 ·unfold D0 at h
  refine wp rfl (qm rfl (BS rfl (Ac ?_)))
  refine Bc h (fun h => ?_) fun h => ?_
  ·refine Am (AQ (AM (wq rfl (qf EQ rfl (ql GZ rfl (qm rfl ?_))))))
   refine B7 h fun v4 a4 h => AA [] (JW N v1 v4 a4) cQ rfl ?_
   refine BK h fun v5 a5 b5 h => qi Dx H5 a5 (Ai b5) rfl (qk Lq rfl (qm rfl ?_))
   refine BK h fun v6 a6 b6 h => qi Ew Ms a6 (Ai b6) rfl (qk TG rfl (CP rfl (AP (by kernel_rfl) ?_)))
   refine Bc h (fun h => ?_) fun h => ?_
   ·refine wq rfl (qe rfl ?_)
    obtain rfl := sj h
    refine Ah (sm [] [(6, bD false)] [] rfl rfl) (Ar ?_)
    exact ⟨⟨[_], tm, rfl⟩, tv⟩
   ·refine Am (Aj Ay rfl (qw 2 rfl (O3 rfl (OL rfl (qe rfl ?_)))))
    exact sn [] h
  ·refine AT ?_
   exact sn [] h
 ·refine Ah hs (wq rfl (qe rfl ?_))
  obtain rfl := sj h
  refine Ah (sm [] [(6, bD true)] [] rfl rfl) (Ar ?_)
  exact ⟨⟨[_], tm, rfl⟩, tv⟩
theorem Sb (N : Nat) (p0 : Ab) (p1 : Ae) (p2 : Int) (r : Bool × (List Int)) (h : HA N p0 p1 p2 = some r) : D1 Tryz.prog 150 [.e (.agg (Ag p0)), oD (.ptr 90000 0), iD p2] [(.box [.own 90001, .own 90002, .own 90003], .box [.own 90001, .own 90002, .own 90003]), (.vec 1 (p1.fH.map Aq), .vec 1 (p1.fH.map Aq)), (.vec 1 (p1.fE.map Aq), .vec 1 (p1.fE.map Aq)), (.vec 1 (p1.fI.map Eh), .vec 1 (r.2.map Eh))] [] (bD r.1) := by
 unfold HA at h
 refine Fb (n := 68) (rs := [.tmp 6]) Tryz.func150 rfl rfl rfl (Hn rfl) (Hn rfl) rfl rfl (Hn rfl) rfl (Hn rfl) fun w0 S0 GL => ?_
 refine Ah (sm [] [(0, .e (.agg (Ag p0))), (1, oD (.ptr 90000 0)), (2, iD p2)] [(90000, .box [.own 90001, .own 90002, .own 90003]), (90001, .vec 1 (p1.fH.map Aq)), (90002, .vec 1 (p1.fE.map Aq)), (90003, .vec 1 (p1.fI.map Eh))] rfl rfl) (wq rfl (qb rfl (qa rfl (Ac (wq rfl (qf Bw rfl (ql F0 rfl (qm rfl ?_))))))))
 refine BK h fun v1 a1 b1 h => qi CK C1 a1 (Ai b1) rfl (qK G6 C1 rfl (qz Jf rfl (qs C1 rfl (Ac (wp rfl (qL G6 C1 rfl ?_))))))
 refine B7 h fun v2 a2 h => AA [] (Mx N v1 v2 a2) au rfl (CP rfl (Ac ?_))
 refine Bc h (fun h => ?_) fun h => ?_
 ·refine wq rfl (qe rfl ?_)
  obtain rfl := sj h
  refine Ah (sm [] [(6, bD false)] [(90000, .box [.own 90001, .own 90002, .own 90003]), (90001, .vec 1 (p1.fH.map Aq)), (90002, .vec 1 (p1.fE.map Aq)), (90003, .vec 1 (p1.fI.map Eh))] rfl rfl) (Ar ?_)
  exact ⟨⟨[_], tm, rfl⟩, ⟨rfl, rfl, rfl, rfl, tv⟩, tv⟩
 ·refine Am (wq rfl (qm rfl (ab rfl (qL B4 A1 rfl (qf DN rfl (ql Cn rfl ?_))))))
  refine B7 h fun v4 a4 h => Dt [] [90001, 90002, 90003] (Pz N p1 v1.fK v4 a4) dZ BP rfl (qa rfl (AP (by kernel_rfl) (wq rfl (qm rfl (ab rfl (qf Df rfl (ql H7 rfl (qm rfl ?_))))))))
  refine BK h fun v5 a5 b5 h => qI Ej G1 a5 (Ai b5) rfl (qj LL (Ai b5) rfl (qm rfl (Jz rfl (qa rfl (Ac (AQ ?_))))))
  refine AS h (fun v6 => mk [(1, oD (.ptr 90000 0)), (2, iD p2), (8, pD (.val (.int .u8 v4))), (60, bD v6)] [(90000, .box [.own 90001, .own 90002, .own 90003]), (90001, .vec 1 (p1.fH.map Aq)), (90002, .vec 1 (p1.fE.map Aq)), (90003, .vec 1 (p1.fI.map Eh))]) (fun j6 h => ?_) (fun v6 h => ?_)
  ·refine Aj Ay rfl (qm rfl (ab rfl (qf Df rfl (ql H7 rfl (qm rfl ?_)))))
   refine BK h fun v7 a7 b7 h => qI Ej G1 a7 (Ai b7) rfl (qj LL (Ai b7) rfl (qm rfl (B6 rfl (qm rfl ?_))))
   refine EO 42 h rfl (fun h => ?_) fun h => ?_
   ·refine qw 4 rfl (qu rfl (qu rfl (qu rfl (qu rfl (qu rfl (qu rfl (qu rfl (qu rfl (qu rfl (qu rfl (qu rfl (qu rfl (qn rfl (qp rfl (AP (by kernel_rfl) ?_)))))))))))))))
    exact sn [] h
   ·refine qf GX rfl (ql Cn rfl (B6 rfl (qm rfl ?_)))
    refine EO 46 h rfl (fun h => ?_) fun h => ?_
    ·refine qL G6 C1 rfl (qw 2 rfl (ab rfl (qf De rfl (ql A7 rfl (qf DN rfl (ql Cn rfl ?_))))))
     refine BK h fun v10 a10 b10 h => qI AC DH a10 (Ai b10) rfl (qj Cn (Ai b10) rfl ?_)
     refine B7 h fun v11 a11 h => AA [] (NK N v1 ((DL .u8 v5 v4)) v10 v11 a11) ee rfl (CP rfl (qp rfl (qp rfl (AP (by kernel_rfl) ?_))))
     exact sn [] h
    ·refine qw 12 rfl (qp rfl (qp rfl (AP (by kernel_rfl) ?_)))
     exact sn [] h
  ·refine Bc h (fun h => ?_) fun h => ?_
   ·refine wq rfl (qe rfl ?_)
    obtain rfl := sj h
    refine Ah (sm [] [(6, bD false)] [(90000, .box [.own 90001, .own 90002, .own 90003]), (90001, .vec 1 (p1.fH.map Aq)), (90002, .vec 1 (p1.fE.map Aq)), (90003, .vec 1 (p1.fI.map Eh))] rfl rfl) (Ar ?_)
    exact ⟨⟨[_], tm, rfl⟩, ⟨rfl, rfl, rfl, rfl, tv⟩, tv⟩
   ·refine Am (wq rfl (qm rfl (ab rfl (qf Df rfl (ql H7 rfl (qw 2 rfl ?_))))))
    refine BK h fun v13 a13 b13 h => qI Ej G1 a13 (Ai b13) rfl ?_
    refine D4 rfl rfl rfl rfl (Ai b13) rfl G1 rfl (Hn rfl) (C8 Eh p1.fI _ v4) ?_
    refine Ac (wq rfl (qe rfl ?_))
    obtain rfl := sj h
    refine Ah (sm [] [(6, bD true)] [(90000, .box [.own 90001, .own 90002, .own 90003]), (90001, .vec 1 (p1.fH.map Aq)), (90002, .vec 1 (p1.fE.map Aq)), (90003, .vec 1 ((p1.fI.set ((p2).toNat) v4).map Eh))] rfl rfl) (Ar ?_)
    exact ⟨⟨[_], tm, rfl⟩, ⟨rfl, rfl, rfl, rfl, tv⟩, tv⟩
theorem Nn (N : Nat) (p0 : Ab) (p1 : Ae) (p2 : Af) (r : Ae × Bool) (h : F8 N p0 p1 p2 = some r) : Au Tryz.prog 128 [.e (.agg (Ag p0)), .e (.agg (AK p1)), .e (.agg (DA p2))] [(1, r.1.fH.map Aq), (1, r.1.fE.map Aq), (1, r.1.fI.map Eh)] (.tup [.agg [.own 0, .own 1, .own 2], .one (.pure (.val (.bool r.2)))]) := by
 unfold F8 at h
 refine cw (n := 51) (rs := [.cell 6 64, .tmp 7]) Tryz.func128 fun w0 S0 => ?_
 refine wq rfl (qb rfl (qb rfl (qb rfl (qz E0 rfl (qa rfl (Ac (wq rfl (qL B4 A1 rfl ?_))))))))
 refine B7 h fun v1 a1 h => AA [2001, 2002, 2003] (QK N p1 v1 a1) d9 rfl (qz E0 rfl (qs A1 rfl (Ac (wp rfl (qf FP rfl (ql Cn rfl (Ac (AM (wq rfl (B6 rfl (qe rfl ?_)))))))))))
 refine Bc h (fun h => ?_) fun h => ?_
 ·refine wq rfl (qL B4 A1 rfl (qL Cu BF rfl (qL G4 C4 rfl ?_)))
  refine B7 h fun v3 a3 h => Ji (ds0 := [_, _, _]) [8, 2001, 2002, 2003] [] [false, false, true, true] (Ss N p0 v1 p2 v3 a3) (.p rfl) dJ rfl ⟨rfl, rfl, rfl, tv⟩ rfl rfl (by decide) ⟨rfl, rfl, rfl, rfl, tv⟩ rfl (FD rfl) tv ⟨(fun _ => rfl), (fun _ => rfl), (fun h => by cases h), (fun h => by cases h), tv⟩ rfl rfl rfl ?_
  refine qs A1 rfl (qa rfl (AP (by kernel_rfl) ?_))
  obtain rfl := sj h
  refine Ah (sm [(1000, 2001), (1001, 2002), (1002, 2003)] [(6, oD (.ptr 6 0)), (7, bD v3.1)] [(6, .box [.own 1000, .own 1001, .own 1002]), (1000, .vec 1 (v1.fH.map Aq)), (1001, .vec 1 (v3.2.1.map Aq)), (1002, .vec 1 (v3.2.2.map Eh))] rfl rfl) (Ar ?_)
  exact ⟨⟨[_, _], ⟨.cellN _ _ _ _ _ _ _ rfl rfl B4 A1 rfl rfl (Jw rfl), tm⟩, rfl⟩, ⟨rfl, rfl, rfl, tv⟩⟩
 ·refine wq rfl (B6 rfl (qe rfl ?_))
  refine Bc h (fun h => ?_) fun h => ?_
  ·refine wq rfl (qL B4 A1 rfl (qL Cu BF rfl (qf EX rfl (ql Cn rfl ?_))))
   refine B7 h fun v5 a5 h => Ji (ds0 := [_, _, _]) [8, 2001, 2002, 2003] [] [false, false, false, true] (Sb N p0 v1 p2.fN v5 a5) (.p rfl) dw rfl ⟨rfl, rfl, rfl, tv⟩ rfl rfl (by decide) ⟨rfl, rfl, rfl, rfl, tv⟩ rfl (FD rfl) tv ⟨(fun _ => rfl), (fun _ => rfl), (fun _ => rfl), (fun h => by cases h), tv⟩ rfl rfl rfl ?_
   refine qs A1 rfl (qa rfl (AP (by kernel_rfl) ?_))
   obtain rfl := sj h
   refine Ah (sm [(1000, 2001), (1001, 2002), (1002, 2003)] [(6, oD (.ptr 6 0)), (7, bD v5.1)] [(6, .box [.own 1000, .own 1001, .own 1002]), (1000, .vec 1 (v1.fH.map Aq)), (1001, .vec 1 (v1.fE.map Aq)), (1002, .vec 1 (v5.2.map Eh))] rfl rfl) (Ar ?_)
   exact ⟨⟨[_, _], ⟨.cellN _ _ _ _ _ _ _ rfl rfl B4 A1 rfl rfl (Jw rfl), tm⟩, rfl⟩, ⟨rfl, rfl, rfl, tv⟩⟩
  ·refine Am (wq rfl (qf BL rfl (ql A7 rfl (qf EX rfl (ql Cn rfl ?_)))))
   refine BK h fun v6 a6 b6 h => qI AC DH a6 (Ai b6) rfl (qj Cn (Ai b6) rfl (qa rfl (Ac (wp rfl (qm rfl (AV rfl (Ac ?_)))))))
   refine Bc h (fun h => ?_) fun h => ?_
   ·refine wq rfl (qL B4 A1 rfl (qs A1 rfl (qe rfl ?_)))
    obtain rfl := sj h
    refine Ah (sm [(1000, 2001), (1001, 2002), (1002, 2003)] [(6, oD (.ptr 6 0)), (7, bD false)] [(6, .box [.own 1000, .own 1001, .own 1002]), (1000, .vec 1 (v1.fH.map Aq)), (1001, .vec 1 (v1.fE.map Aq)), (1002, .vec 1 (v1.fI.map Eh))] rfl rfl) (Ar ?_)
    exact ⟨⟨[_, _], ⟨.cellN _ _ _ _ _ _ _ rfl rfl B4 A1 rfl rfl (Jw rfl), tm⟩, rfl⟩, ⟨rfl, rfl, rfl, tv⟩⟩
   ·refine Am (wq rfl (qf BL rfl (ql A7 rfl (qf EX rfl (ql Cn rfl ?_)))))
    refine BK h fun v8 a8 b8 h => qI AC DH a8 (Ai b8) rfl ?_
    refine D4 rfl rfl rfl rfl (Ai b8) rfl DH rfl (Hn rfl) (C8 Aq v1.fE _ ((-1))) ?_
    refine Ac ?_
    refine AS h (fun v9 => mk [(6, oD (.ptr 6 0)), (8, oD (.ptr 8 0))] [(6, .box [.pure (.nil0), .pure (.nil0), .pure (.nil0)]), (8, .box [.own 2004, .own 2005, .own 2006]), (2004, .vec 1 (v9.map Aq)), (2005, .vec 1 ((v1.fE.set ((p2.fN).toNat) ((-1))).map Aq)), (2006, .vec 1 (v1.fI.map Eh))]) (fun j9 h => ?_) (fun v9 h => ?_)
    ·refine wq rfl (qf FP rfl (ql Cn rfl (B6 rfl (Ac ?_))))
     refine Bc h (fun h => ?_) fun h => ?_
     ·refine Aj Ay rfl (qf De rfl (ql A7 rfl (qf EX rfl (ql Cn rfl (qm rfl ?_)))))
      refine BK h fun v11 a11 b11 h => qI AC DH a11 (Ai b11) rfl ?_
      refine D4 rfl rfl rfl rfl (Ai b11) rfl DH rfl (Hn rfl) (C8 Aq v1.fH _ v6) ?_
      refine Ac ?_
      exact sn [(2004, 2001), (2005, 2002), (2006, 2003)] h
     ·refine Am ?_
      exact sn [(2004, 2001), (2005, 2002), (2006, 2003)] h
    ·refine wq rfl (qL B4 A1 rfl (qs A1 rfl (qe rfl ?_)))
     obtain rfl := sj h
     refine Ah (sm [(1000, 2004), (1001, 2005), (1002, 2006)] [(6, oD (.ptr 6 0)), (7, bD true)] [(6, .box [.own 1000, .own 1001, .own 1002]), (1000, .vec 1 (v9.map Aq)), (1001, .vec 1 ((v1.fE.set ((p2.fN).toNat) ((-1))).map Aq)), (1002, .vec 1 (v1.fI.map Eh))] rfl rfl) (Ar ?_)
     exact ⟨⟨[_, _], ⟨.cellN _ _ _ _ _ _ _ rfl rfl B4 A1 rfl rfl (Jw rfl), tm⟩, rfl⟩, ⟨rfl, rfl, rfl, tv⟩⟩
theorem OG (N : Nat) (p0 : Af) (p1 : List Int) (p2 : List Int) (p3 : List Int) (p4 : List Ao) (p5 : List Int) (p6 : List Int) (p7 : List Int) (r : Bool) (h : DW N p0 p1 p2 p3 p4 p5 p6 p7 = some r) : Au Tryz.prog 127 [.e (.agg (DA p0)), oD (.rop [.sl (p1.map Aq), .sl (p2.map Aq), .sl (p3.map Aq), .sl (p4.map AG)]), oD (.rop [.sl (p5.map Aq), .sl (p6.map Aq), .sl (p7.map Eh)])] [] (bD r) := by
 unfold DW at h
 refine cw (n := 16) (rs := [.tmp 4]) Tryz.func127 fun w0 S0 => ?_
 refine wq rfl (qb rfl (qa rfl (Ac (wq rfl (qK Cu BF rfl (qK B4 A1 rfl (qL G4 C4 rfl ?_)))))))
 refine B7 h fun v1 a1 h => AA [2001, 2002, 2003] (Nn N ((Ab.mk p1 p2 p3 p4)) ((Ae.mk p5 p6 p7)) p0 v1 a1) aT rfl (qm rfl (qx rfl (qx rfl (qz E0 rfl (qs A1 rfl (qa rfl (Ac (wq rfl (qm rfl (CP rfl (qe rfl ?_)))))))))))
 obtain rfl := sj h
 refine Ah (sm [] [(4, bD ((!v1.2)))] [] rfl rfl) (Ar ?_)
 exact ⟨⟨[_], tm, rfl⟩, tv⟩
theorem Hr (N : Nat) (p0 : List Af) (p1 : Af → Option Bool) (r : Int) (h : BV N p0 p1 = some r) : Au Tryz.prog 147 [pD (.sl (p0.map AD)), oD (.clo (JG (O7 true AD) tB p1))] [] (iD r) := by
 unfold BV at h
 refine cw (n := 19) (rs := [.tmp 4]) Tryz.func147 fun w0 S0 => ?_
 refine wq rfl (qa rfl (Ac (wp rfl (qm rfl (AO E6 rfl (qm rfl (Ac ?_)))))))
 refine AH (L := A4 N p0 p1) h (fun v1 => mk [(0, pD (.sl (p0.map AD))), (1, oD (.clo (JG (O7 true AD) tB p1))), (7, iD ((p0.length : Int))), (8, iD v1)] []) (fun v2 => mk [] []) (fun _ _ => rfl) (sm [] _ _ rfl rfl) (fun j1 n1 v1 h => ?_) (fun v2 s h hs => ?_)
 ·unfold A4 at h
  refine wq rfl (AV rfl (Ac (AQ ?_)))
  refine Bc h (fun h => ?_) fun h => ?_
  ·refine Am (AQ (AM (wq rfl (qm rfl (qa rfl (Ac (wq rfl (qw 3 rfl ?_))))))))
   refine BK h fun v4 a4 b4 h => qi E6 C4 a4 (Ai b4) rfl (qK G4 C4 rfl ?_)
   refine B7 h fun v5 a5 h => Nv (ds0 := [_]) (ar := (O7 true AD) v4) (.p rfl) rfl rfl ⟨rfl, tv⟩ rfl rfl rfl (L8 (N4 _ _ PK) a5) ?_
   refine Ac ?_
   refine Bc h (fun h => ?_) fun h => ?_
   ·refine wq rfl (qm rfl (qe rfl ?_))
    obtain rfl := sj h
    refine Ah (sm [] [(4, iD v1)] [] rfl rfl) (Ar ?_)
    exact ⟨⟨[_], tm, rfl⟩, tv⟩
   ·refine Am (Aj Ay rfl (AZ rfl (qm rfl (Ac ?_))))
    exact sn [] h
  ·refine AT ?_
   exact sn [] h
 ·refine Ah hs (wq rfl (qe rfl ?_))
  obtain rfl := sj h
  refine Ah (sm [] [(4, iD ((-1)))] [] rfl rfl) (Ar ?_)
  exact ⟨⟨[_], tm, rfl⟩, tv⟩
theorem Hi (N : Nat) (p0 : List Af) (p1 : Af → Option Bool) (r : Nat × (List Af)) (h : BQ N p0 p1 = some r) : D1 Tryz.prog 125 [oD (.own 90000), oD (.clo (JG (O7 true AD) tB p1))] [(.vec 3 (p0.map AD), .vec 3 (r.2.map AD))] [] (oD (.view 90000 3 0 r.1)) := by
 unfold BQ at h
 refine Fb (n := 42) (rs := [.tmp 4]) Tryz.func125 rfl rfl rfl (Hn rfl) (Hn rfl) rfl rfl (Hn rfl) rfl (Hn rfl) fun w0 S0 GL => ?_
 refine Ah (sm [] [(0, oD (.own 90000)), (1, oD (.clo (JG (O7 true AD) tB p1)))] [(90000, .vec 3 (p0.map AD))] rfl rfl) (wq rfl (qa rfl (Ac (wq rfl (qw 2 rfl ?_)))))
 refine B7 h fun v1 a1 h => Dt [] [90000] (Hr N p0 p1 v1 a1) dF BP rfl (qa rfl (Ac (wp rfl (qm rfl (B6 rfl (Ac ?_))))))
 refine Bc h (fun h => ?_) fun h => ?_
 ·refine wq rfl (qm rfl (qe rfl ?_))
  obtain rfl := sj h
  refine Ah ((Pi AD p0 4 90000 3 rfl rfl).trans (sm [] [(4, oD (.view 90000 3 0 p0.length))] [(90000, .vec 3 (p0.map AD))] rfl rfl)) (Ar ?_)
  exact ⟨⟨[_], tm, rfl⟩, ⟨rfl, tv⟩, tv⟩
 ·refine Am (wp rfl (qm rfl (AZ rfl (qe rfl ?_))))
  refine AH (L := AW N p1) h (fun v3 => mk [(0, oD (.own 90000)), (1, oD (.clo (JG (O7 true AD) tB p1))), (5, iD v3.2.1), (6, iD v3.2.2)] [(90000, .vec 3 (v3.1.map AD))]) (fun v4 => mk [(0, oD (.own 90000)), (5, iD v4.2)] [(90000, .vec 3 (v4.1.map AD))]) (fun _ _ => rfl) (sm [] _ _ rfl rfl) (fun j3 n3 v3 h => ?_) (fun v4 s h hs => ?_)
  ·unfold AW at h
   refine wp rfl (qw 2 rfl (Dm E6 rfl (AV rfl (Ac ?_))))
   refine Bc h (fun h => ?_) fun h => ?_
   ·refine Am ?_
    refine AS h (fun v6 => mk [(0, oD (.own 90000)), (1, oD (.clo (JG (O7 true AD) tB p1))), (5, iD v6.2), (6, iD v3.2.2)] [(90000, .vec 3 (v6.1.map AD))]) (fun j6 h => ?_) (fun v6 h => ?_)
    ·refine AM (wq rfl (qw 2 rfl ?_))
     refine BK h fun v7 a7 b7 h => qI E6 C4 a7 (Ai b7) rfl (qJ G4 C4 (Ai b7) rfl (qz H0 rfl (qs C4 rfl (Ac (wq rfl (qm rfl (qL G4 C4 rfl ?_)))))))
     refine B7 h fun v8 a8 h => Nv (ds0 := [_]) (ar := (O7 true AD) v7) (.p rfl) rfl rfl ⟨rfl, tv⟩ rfl rfl rfl (L8 (N4 _ _ PK) a8) ?_
     refine CP rfl (Ac ?_)
     refine Bc h (fun h => ?_) fun h => ?_
     ·refine wq rfl (qw 2 rfl (qL G4 C4 rfl ?_))
      refine BK h fun v10 a10 b10 h => qI E6 C4 a10 (Ai b10) rfl ?_
      refine D4 rfl rfl rfl rfl (Ai b10) rfl C4 rfl (Hn rfl) (C8 AD v3.1 _ v7) ?_
      refine Ac (Aj Ay rfl (qm rfl (AZ rfl (qe rfl ?_))))
      exact sn [] h
     ·refine Am ?_
      exact sn [] h
    ·refine Aj Ay rfl (qm rfl (AZ rfl (qe rfl ?_)))
     exact sn [] h
   ·refine AT ?_
    exact sn [] h
  ·refine Ah hs (wq rfl (qw 2 rfl ?_))
   obtain ⟨c11, h⟩ := Fy h
   have w12 : ((v4.2).toNat) + ((v4.1.length - (v4.2).toNat)) ≤ v4.1.length := by have := c11.2.1; have := c11.2.2; omega
   refine HJ AD v4.1 (.p rfl) rfl (HD AD _ _ v4.1) rfl E6 C4 (.some _ _ _ _ c11.1) (.none _) ⟨rfl, tv⟩ tv c11.2.1 (by rw [Nat.zero_add]; exact c11.2.2) (Nat.zero_add _) rfl ?_
   have w13 : (Gx v4.1 ((v4.2).toNat) (List.replicate ((v4.1.length - (v4.2).toNat)) ((Af.mk 0 0 0)))).length = v4.1.length := GI (by rw [List.length_replicate]; exact w12)
   refine Pw AD v4.1 ((Af.mk 0 0 0)) rfl rfl (Ju AD _ _ ((v4.2).toNat) ((v4.1.length - (v4.2).toNat)) v4.1 w12) rfl E6 H0 rfl rfl rfl rfl ?_
   refine Ac (wq rfl (qw 2 rfl ?_))
   obtain ⟨c14, h⟩ := Fy h
   have w15 : 0 + ((v4.2).toNat) ≤ (Gx v4.1 ((v4.2).toNat) (List.replicate ((v4.1.length - (v4.2).toNat)) ((Af.mk 0 0 0)))).length := by have := c14.2.1; have := c14.2.2; omega
   refine HJ AD (Gx v4.1 ((v4.2).toNat) (List.replicate ((v4.1.length - (v4.2).toNat)) ((Af.mk 0 0 0)))) (.p rfl) rfl (HD AD _ _ (Gx v4.1 ((v4.2).toNat) (List.replicate ((v4.1.length - (v4.2).toNat)) ((Af.mk 0 0 0))))) rfl E6 C4 (.none _) (.some _ _ _ _ c14.1) tv ⟨rfl, tv⟩ c14.2.1 (by rw [Nat.zero_add]; exact c14.2.2) (Nat.zero_add _) rfl ?_
   refine qa rfl (Ac ?_)
   obtain rfl := sj h
   refine Ah (sm [] [(4, oD (.view 90000 3 0 ((v4.2).toNat)))] [(90000, .vec 3 ((Gx v4.1 ((v4.2).toNat) (List.replicate ((v4.1.length - (v4.2).toNat)) ((Af.mk 0 0 0)))).map AD))] rfl rfl) (Ar ?_)
   exact ⟨⟨[_], tm, rfl⟩, ⟨rfl, tv⟩, tv⟩
theorem Qn (N : Nat) (p0 : Ab) (p1 : Ae) (r : (List Af) × Int) (h : GJ N p0 p1 = some r) : Au Tryz.prog 89 [.e (.agg (Ag p0)), .e (.agg (AK p1))] [(3, r.1.map AD)] (.tup [.one (.own 0), .one (iC r.2)]) := by
 unfold GJ at h
 refine cw (n := 17) (rs := [.tmp 4, .tmp 5]) Tryz.func89 fun w0 S0 => ?_
 refine wq rfl (qb rfl (qb rfl (qa rfl (qa rfl (Ac (wp rfl (qL Cu BF rfl (qL B4 A1 rfl ?_))))))))
 refine B7 h fun v1 a1 h => AA [] (J2 N p0 p1 v1 a1) ZY rfl (qa rfl (Ac (wq rfl (qm rfl (BS rfl (Ac ?_))))))
 refine Bc h (fun h => ?_) fun h => ?_
 ·refine wq rfl (qm rfl (qa rfl (qe rfl ?_)))
  obtain rfl := sj h
  refine Ah ((AY 4 2001 3 rfl rfl rfl).trans (sm [(1000, 2001)] [(4, oD (.own 1000)), (5, iD v1)] [(1000, .vec 3 ((([] : List Af)).map AD))] rfl rfl)) (Ar ?_)
  exact ⟨⟨[_, _], ⟨.tmp _ _ rfl, tm⟩, rfl⟩, ⟨rfl, tv⟩⟩
 ·refine Am (wq rfl (qL Cu BF rfl ?_))
  refine B7 h fun v3 a3 h => AA [2002] (UZ N p0 v3 a3) ek rfl (Ev (Nz 2 [.sl (p0.fF.map Aq), .sl (p0.fL.map Aq), .sl (p0.fQ.map Aq), .sl (p0.fG.map AG)] rfl rfl) (Ev (Nz 3 [.sl (p1.fH.map Aq), .sl (p1.fE.map Aq), .sl (p1.fI.map Eh)] rfl rfl) ?_))
  refine MI (capD := [_, _]) (JG (O7 true AD) tB ((fun (x : Af) => DW N x p0.fF p0.fL p0.fQ p0.fG p1.fH p1.fE p1.fI))) (.p rfl) eb rfl ⟨rfl, rfl, tv⟩ rfl (fun ar t ht => by obtain ⟨x, r, rfl, hq, rfl⟩ := KE ht; exact OG N x p0.fF p0.fL p0.fQ p0.fG p1.fH p1.fE p1.fI r hq) ?_
  obtain ⟨v4, a4, h⟩ := bind_some h
  obtain ⟨c5, h⟩ := Fy h
  have w6 : 0 + v4.1 ≤ v4.2.length := by rw [Nat.zero_add]; exact c5
  refine Ji (ds0 := [_, _]) [2002] [] [true] (Hi N v3 ((fun (x : Af) => DW N x p0.fF p0.fL p0.fQ p0.fG p1.fH p1.fE p1.fI)) v4 a4) (.p rfl) d5 rfl ⟨rfl, rfl, tv⟩ rfl rfl (by decide) ⟨rfl, tv⟩ rfl (FD rfl) tv ⟨(fun h => by cases h), tv⟩ rfl rfl rfl ?_
  refine Ev (YS AD v4.2 16 2002 2003 3 v4.1 rfl rfl rfl rfl rfl c5) (qa rfl (qe rfl ?_))
  obtain rfl := sj h
  refine Ah (sm [(1000, 2003)] [(4, oD (.own 1000)), (5, iD 0)] [(1000, .vec 3 ((v4.2.take v4.1).map AD))] rfl rfl) (Ar ?_)
  exact ⟨⟨[_, _], ⟨.tmp _ _ rfl, tm⟩, rfl⟩, ⟨rfl, tv⟩⟩
theorem Sj (N : Nat) (p0 : Af) (r : Bool) (h : HL N p0 = some r) : Au Tryz.prog 151 [.e (.agg (DA p0))] [] (bD r) := by
 unfold HL at h
 refine cw (n := 27) (rs := [.tmp 2]) Tryz.func151 fun w0 S0 => ?_
 refine wq rfl (qb rfl (qa rfl (Ac (AQ ?_))))
 refine AS h (fun v1 => mk [(1, oD (.ptr 1 0)), (18, bD v1)] [(1, .box (DA p0))]) (fun j1 h => ?_) (fun v1 h => ?_)
 ·refine Aj Ay rfl (qf EX rfl (ql Cn rfl (qf GO rfl (ql Cn rfl ?_))))
  refine cF (.p rfl) rfl rfl ?_
  refine AV rfl (qm rfl ?_)
  refine EO 9 h rfl (fun h => ?_) fun h => ?_
  ·refine qw 3 rfl (qp rfl (qw 4 rfl (qp rfl (Ac ?_))))
   exact sn [] h
  ·refine qf FP rfl (ql Cn rfl (AV rfl (qp rfl (qm rfl ?_))))
   refine EO 14 h rfl (fun h => ?_) fun h => ?_
   ·refine qw 3 rfl (qp rfl (Ac ?_))
    exact sn [] h
   ·refine qf FP rfl (ql Cn rfl (Gf rfl (qp rfl (Ac ?_))))
    exact sn [] h
 ·refine Bc h (fun h => ?_) fun h => ?_
  ·refine wq rfl (qe rfl ?_)
   obtain rfl := sj h
   refine Ah (sm [] [(2, bD false)] [] rfl rfl) (Ar ?_)
   exact ⟨⟨[_], tm, rfl⟩, tv⟩
  ·refine Am ?_
   refine AS h (fun v5 => mk [(2, bD v5)] []) (fun j5 h => ?_) (fun v5 h => ?_)
   ·refine Aj Ay rfl (qf FP rfl (ql Cn rfl (B6 rfl (qm rfl ?_))))
    refine EO 22 h rfl (fun h => ?_) fun h => ?_
    ·refine qw 3 rfl (qp rfl (qe rfl ?_))
     exact sn [] h
    ·refine qf GO rfl (ql Cn rfl (B6 rfl (qp rfl (qe rfl ?_))))
     exact sn [] h
   ·obtain rfl := sj h
    refine Ah (sm [] [(2, bD v5)] [] rfl rfl) (Ar ?_)
    exact ⟨⟨[_], tm, rfl⟩, tv⟩
theorem QQ (N : Nat) (p0 : Ab) (p1 : Af) (r : Bool) (h : G9 N p0 p1 = some r) : Au Tryz.prog 152 [.e (.agg (Ag p0)), .e (.agg (DA p1))] [] (bD r) := by
 unfold G9 at h
 refine cw (n := 36) (rs := [.tmp 4]) Tryz.func152 fun w0 S0 => ?_
 refine wq rfl (qb rfl (qb rfl (qa rfl (Ac (wp rfl (qf FP rfl (ql Cn rfl (B6 rfl (Ac ?_)))))))))
 refine Bc h (fun h => ?_) fun h => ?_
 ·refine wq rfl (qf EX rfl (ql Cn rfl (qf Bw rfl (ql F0 rfl (AO CK rfl (AV rfl (qe rfl ?_)))))))
  obtain rfl := sj h
  refine Ah (sm [] [(4, bD ((decide (p1.fN < (p0.fG.length : Int)))))] [] rfl rfl) (Ar ?_)
  exact ⟨⟨[_], tm, rfl⟩, tv⟩
 ·refine Am ?_
  refine AS h (fun v2 => mk [(4, bD v2)] []) (fun j2 h => ?_) (fun v2 h => ?_)
  ·refine Aj Ay rfl (qf EX rfl (ql Cn rfl (qf Bs rfl (ql A7 rfl (AO AC rfl (AV rfl (qm rfl ?_)))))))
   refine EO 20 h rfl (fun h => ?_) fun h => ?_
   ·refine qf FP rfl (ql Cn rfl (BS rfl (qm rfl ?_)))
    refine EO 24 h rfl (fun h => ?_) fun h => ?_
    ·refine qw 9 rfl (qp rfl (qp rfl (qa rfl (AP (by kernel_rfl) ?_))))
     exact sn [] h
    ·refine qf GO rfl (ql Cn rfl (qf Bs rfl (ql A7 rfl (qf EX rfl (ql Cn rfl ?_)))))
     refine BK h fun v5 a5 b5 h => qi AC DH a5 (Ai b5) rfl (qk Cn rfl (AV rfl (qp rfl (qp rfl (qa rfl (AP (by kernel_rfl) ?_))))))
     exact sn [] h
   ·refine qw 4 rfl (qu rfl (qu rfl (qu rfl (qu rfl (qu rfl (qu rfl (qu rfl (qu rfl (qu rfl (qn rfl (qp rfl (qa rfl (AP (by kernel_rfl) ?_)))))))))))))
    exact sn [] h
  ·obtain rfl := sj h
   refine Ah (sm [] [(4, bD v2)] [] rfl rfl) (Ar ?_)
   exact ⟨⟨[_], tm, rfl⟩, tv⟩
theorem ST (N : Nat) (p0 : Ab) (p1 : Ae) (p2 : Af) (r : Ae × Int) (h : HE N p0 p1 p2 = some r) : Au Tryz.prog 129 [.e (.agg (Ag p0)), .e (.agg (AK p1)), .e (.agg (DA p2))] [(1, r.1.fH.map Aq), (1, r.1.fE.map Aq), (1, r.1.fI.map Eh)] (.tup [.agg [.own 0, .own 1, .own 2], .one (iC r.2)]) := by
 unfold HE at h
 refine cw (n := 32) (rs := [.cell 6 64, .tmp 7]) Tryz.func129 fun w0 S0 => ?_
 refine wq rfl (qb rfl (qb rfl (qb rfl (qz E0 rfl (qa rfl (Ac (AQ (AM (wq rfl (qL G4 C4 rfl ?_))))))))))
 refine B7 h fun v1 a1 h => AA [] (Sj N p2 v1 a1) df rfl (CP rfl (qe rfl ?_))
 refine Bc h (fun h => ?_) fun h => ?_
 ·refine wq rfl (Bd E0 Jo rfl (qs A1 rfl (qe rfl ?_)))
  obtain rfl := sj h
  refine Ah ((Av 6 0 2001 1 _ rfl rfl rfl rfl).trans ((Av 6 1 2002 1 _ rfl rfl rfl rfl).trans ((Av 6 2 2003 1 _ rfl rfl rfl rfl).trans (sm [(1000, 2001), (1001, 2002), (1002, 2003)] [(6, oD (.ptr 6 0)), (7, iD 1)] [(6, .box [.own 1000, .own 1001, .own 1002]), (1000, .vec 1 ((([] : List Int)).map Aq)), (1001, .vec 1 ((([] : List Int)).map Aq)), (1002, .vec 1 ((([] : List Int)).map Eh))] rfl rfl)))) (Ar ?_)
  exact ⟨⟨[_, _], ⟨.cellN _ _ _ _ _ _ _ rfl rfl B4 A1 rfl rfl (Jw rfl), tm⟩, rfl⟩, ⟨rfl, rfl, rfl, tv⟩⟩
 ·refine wq rfl (qL Cu BF rfl (qL G4 C4 rfl ?_))
  refine B7 h fun v3 a3 h => AA [] (QQ N p0 p2 v3 a3) dE rfl (CP rfl (qe rfl ?_))
  refine Bc h (fun h => ?_) fun h => ?_
  ·refine wq rfl (Bd E0 Jo rfl (qs A1 rfl (qe rfl ?_)))
   obtain rfl := sj h
   refine Ah ((Av 6 0 2004 1 _ rfl rfl rfl rfl).trans ((Av 6 1 2005 1 _ rfl rfl rfl rfl).trans ((Av 6 2 2006 1 _ rfl rfl rfl rfl).trans (sm [(1000, 2004), (1001, 2005), (1002, 2006)] [(6, oD (.ptr 6 0)), (7, iD 4)] [(6, .box [.own 1000, .own 1001, .own 1002]), (1000, .vec 1 ((([] : List Int)).map Aq)), (1001, .vec 1 ((([] : List Int)).map Aq)), (1002, .vec 1 ((([] : List Int)).map Eh))] rfl rfl)))) (Ar ?_)
   exact ⟨⟨[_, _], ⟨.cellN _ _ _ _ _ _ _ rfl rfl B4 A1 rfl rfl (Jw rfl), tm⟩, rfl⟩, ⟨rfl, rfl, rfl, tv⟩⟩
  ·refine Am (wq rfl (qL Cu BF rfl (qL B4 A1 rfl (qL G4 C4 rfl ?_))))
   refine B7 h fun v5 a5 h => AA [2007, 2008, 2009] (Nn N p0 p1 p2 v5 a5) aT rfl (qm rfl (qx rfl (qx rfl (qz E0 rfl (qs A1 rfl (qa rfl (Ac (wp rfl (qm rfl (CP rfl (Ac ?_)))))))))))
   refine Bc h (fun h => ?_) fun h => ?_
   ·refine wq rfl (Bd E0 Jo rfl (qs A1 rfl (qe rfl ?_)))
    obtain rfl := sj h
    refine Ah ((Av 6 0 2010 1 _ rfl rfl rfl rfl).trans ((Av 6 1 2011 1 _ rfl rfl rfl rfl).trans ((Av 6 2 2012 1 _ rfl rfl rfl rfl).trans (sm [(1000, 2010), (1001, 2011), (1002, 2012)] [(6, oD (.ptr 6 0)), (7, iD 11)] [(6, .box [.own 1000, .own 1001, .own 1002]), (1000, .vec 1 ((([] : List Int)).map Aq)), (1001, .vec 1 ((([] : List Int)).map Aq)), (1002, .vec 1 ((([] : List Int)).map Eh))] rfl rfl)))) (Ar ?_)
    exact ⟨⟨[_, _], ⟨.cellN _ _ _ _ _ _ _ rfl rfl B4 A1 rfl rfl (Jw rfl), tm⟩, rfl⟩, ⟨rfl, rfl, rfl, tv⟩⟩
   ·refine Am (wq rfl (qL B4 A1 rfl (qs A1 rfl (qe rfl ?_))))
    obtain rfl := sj h
    refine Ah (sm [(1000, 2007), (1001, 2008), (1002, 2009)] [(6, oD (.ptr 6 0)), (7, iD 0)] [(6, .box [.own 1000, .own 1001, .own 1002]), (1000, .vec 1 (v5.1.fH.map Aq)), (1001, .vec 1 (v5.1.fE.map Aq)), (1002, .vec 1 (v5.1.fI.map Eh))] rfl rfl) (Ar ?_)
    exact ⟨⟨[_, _], ⟨.cellN _ _ _ _ _ _ _ rfl rfl B4 A1 rfl rfl (Jw rfl), tm⟩, rfl⟩, ⟨rfl, rfl, rfl, tv⟩⟩
theorem SI (N : Nat) (p0 : Ab) (p1 : Ae) (p2 : Af) (r : Ae × Int) (h : Hv N p0 p1 p2 = some r) : Au Tryz.prog 90 [.e (.agg (Ag p0)), .e (.agg (AK p1)), .e (.agg (DA p2))] [(1, r.1.fH.map Aq), (1, r.1.fE.map Aq), (1, r.1.fI.map Eh)] (.tup [.agg [.own 0, .own 1, .own 2], .one (iC r.2)]) := by
 unfold Hv at h
 refine cw (n := 22) (rs := [.cell 6 64, .tmp 7]) Tryz.func90 fun w0 S0 => ?_
 refine wq rfl (qb rfl (qb rfl (qb rfl (qz E0 rfl (qa rfl (Ac (wp rfl (qL Cu BF rfl (qL B4 A1 rfl ?_)))))))))
 refine B7 h fun v1 a1 h => AA [] (J2 N p0 p1 v1 a1) ZY rfl (qa rfl (Ac (wq rfl (qm rfl (BS rfl (Ac ?_))))))
 refine Bc h (fun h => ?_) fun h => ?_
 ·refine wq rfl (Bd E0 Jo rfl (qm rfl (qs A1 rfl (qe rfl ?_))))
  obtain rfl := sj h
  refine Ah ((Av 6 0 2001 1 _ rfl rfl rfl rfl).trans ((Av 6 1 2002 1 _ rfl rfl rfl rfl).trans ((Av 6 2 2003 1 _ rfl rfl rfl rfl).trans (sm [(1000, 2001), (1001, 2002), (1002, 2003)] [(6, oD (.ptr 6 0)), (7, iD v1)] [(6, .box [.own 1000, .own 1001, .own 1002]), (1000, .vec 1 ((([] : List Int)).map Aq)), (1001, .vec 1 ((([] : List Int)).map Aq)), (1002, .vec 1 ((([] : List Int)).map Eh))] rfl rfl)))) (Ar ?_)
  exact ⟨⟨[_, _], ⟨.cellN _ _ _ _ _ _ _ rfl rfl B4 A1 rfl rfl (Jw rfl), tm⟩, rfl⟩, ⟨rfl, rfl, rfl, tv⟩⟩
 ·refine Am (wq rfl (qL Cu BF rfl (qL B4 A1 rfl (qL G4 C4 rfl ?_))))
  refine B7 h fun v3 a3 h => AA [2004, 2005, 2006] (ST N p0 p1 p2 v3 a3) dC rfl (qx rfl (qx rfl (qs A1 rfl (qe rfl ?_))))
  obtain rfl := sj h
  refine Ah (sm [(1000, 2004), (1001, 2005), (1002, 2006)] [(6, oD (.ptr 6 0)), (7, iD v3.2)] [(6, .box [.own 1000, .own 1001, .own 1002]), (1000, .vec 1 (v3.1.fH.map Aq)), (1001, .vec 1 (v3.1.fE.map Aq)), (1002, .vec 1 (v3.1.fI.map Eh))] rfl rfl) (Ar ?_)
  exact ⟨⟨[_, _], ⟨.cellN _ _ _ _ _ _ _ rfl rfl B4 A1 rfl rfl (Jw rfl), tm⟩, rfl⟩, ⟨rfl, rfl, rfl, tv⟩⟩
theorem QT (N : Nat) (p0 : Ab) (p1 : Ae) (r : (List AF) × Int) (h : He N p0 p1 = some r) : Au Tryz.prog 64 [.e (.agg (Ag p0)), .e (.agg (AK p1))] [] (.tup [.one (sC (r.1.map Bf)), .one (iC r.2)]) := by
 unfold He at h
 refine cw (n := 119) (rs := [.tmp 4, .tmp 5]) Tryz.func64 fun w0 S0 => ?_
 refine wq rfl (qb rfl (qb rfl (qa rfl (qa rfl (Ac (wq rfl (qL B4 A1 rfl (Bd Uf af rfl ?_))))))))
 refine Mt [(0, .tmp 21, _)] (.p rfl) rfl ⟨rfl, tv⟩ rfl I7 Lk Uf rfl rfl (Hn rfl) rfl rfl ?_
 refine Ev (H4 22 8 [.s, .s, .s, .s, .s, .s, .s, .x 1 []] _ ((([(AF.mk p1 ((-1)) ((Af.mk 0 0 0)) (([] : List Int)))] : List AF)).map Bf) rfl rfl) (qa rfl (Ac (wq rfl ?_)))
 refine W6 (.p rfl) rfl ?_
 refine qL B4 A1 rfl ?_
 refine B7 h fun v1 a1 h => AA [] (Qy N p1 v1 a1) dA rfl ?_
 refine UC (kv := Value.string) (vt := PD) (m := ([] : List (ByteArray × Int))) (k := v1) (v := 0) rfl (.inr rfl) rfl rfl rfl rfl (Oz Sx cn) rfl ?_
 refine qm rfl (qa rfl (Ac (wp rfl (qe rfl ?_))))
 refine AH (L := DZ N p0) h (fun v2 => mk [(2, oD (.ptr 2 0)), (6, oD (.own 2001)), (7, oD (.mref 2002)), (8, iD v2.2.2)] [(2, .box (Ag p0)), (2001, .dvec 8 [.s, .s, .s, .s, .s, .s, .s, .x 1 []] (v2.1.map Bf)), (2002, .mp (JC Value.string PD v2.2.1))]) (fun v3 => mk [(6, oD (.own 2003))] [(2003, .dvec 8 [.s, .s, .s, .s, .s, .s, .s, .x 1 []] (v3.map Bf))]) (fun _ _ => rfl) (sm [(2001, 22), (2002, 23)] _ _ rfl rfl) (fun j2 n2 v2 h => ?_) (fun v3 s h hs => ?_)
 ·unfold DZ at h
  refine wp rfl (qw 2 rfl ?_)
  refine Vv (.p rfl) rfl rfl (L2 Bf v2.1 _ _) I7 ?_
  refine AV rfl (Ac ?_)
  refine Bc h (fun h => ?_) fun h => ?_
  ·refine Am (AQ (AM (wq rfl (qL Cu BF rfl (qw 2 rfl ?_)))))
   refine BK h fun v5 a5 b5 h => HH (.p rfl) rfl rfl rfl (L2 Bf v2.1 _ _) I7 Lk a5 (Ax b5) ?_
   refine qh Qb rfl ?_
   refine T6 (.p rfl) rfl B4 A1 rfl (Ai b5) rfl rfl (by decide) rfl ?_
   refine B7 h fun v6 a6 h => AA [2004] (Qn N p0 ((Ae.mk v5.fU.fH v5.fU.fE v5.fU.fI)) v6 a6) eX rfl (qm rfl (qx rfl (qx rfl (qa rfl (qa rfl (AP (by kernel_rfl) (wp rfl (qm rfl (BS rfl (Ac ?_))))))))))
   refine Bc h (fun h => ?_) fun h => ?_
   ·refine wq rfl (qm rfl (qa rfl (qe rfl ?_)))
    obtain rfl := sj h
    refine Ah ((M8 4 _ rfl).trans (sm [] [(4, pD (.sl ((([] : List AF)).map Bf))), (5, iD v6.2)] [] rfl rfl)) (Ar ?_)
    exact ⟨⟨[_, _], ⟨.tmp _ _ rfl, tm⟩, rfl⟩, tv⟩
   ·refine Am (wq rfl (qm rfl (Dm E6 rfl (qm rfl (Ac ?_)))))
    refine AH (L := CJ N p0 v2 v6) h (fun v8 => mk [(2, oD (.ptr 2 0)), (6, oD (.own 2005)), (7, oD (.mref 2006)), (8, iD v2.2.2), (46, oD (.own 2007)), (47, iD ((v6.1.length : Int))), (48, iD v8.2.2)] [(2, .box (Ag p0)), (2005, .dvec 8 [.s, .s, .s, .s, .s, .s, .s, .x 1 []] (v8.1.map Bf)), (2006, .mp (JC Value.string PD v8.2.1)), (2007, .vec 3 (v6.1.map AD))]) (fun v9 => mk [(2, oD (.ptr 2 0)), (6, oD (.own 2008)), (7, oD (.mref 2009)), (8, iD v2.2.2)] [(2, .box (Ag p0)), (2008, .dvec 8 [.s, .s, .s, .s, .s, .s, .s, .x 1 []] (v9.1.map Bf)), (2009, .mp (JC Value.string PD v9.2))]) (fun _ _ => rfl) (sm [(2005, 2001), (2006, 2002), (2007, 2004)] _ _ rfl rfl) (fun j8 n8 v8 h => ?_) (fun v9 s h hs => ?_)
    ·unfold CJ at h
     refine wq rfl (AV rfl (Ac (AQ ?_)))
     refine Bc h (fun h => ?_) fun h => ?_
     ·refine Am (AQ (AM (wq rfl ?_)))
      refine BK h fun v11 a11 b11 h => qI E6 C4 a11 (Ai b11) rfl (qJ G4 C4 (Ai b11) rfl (qz H0 rfl (qs C4 rfl (Ac (wq rfl (qL Cu BF rfl (qw 2 rfl ?_)))))))
      refine BK h fun v12 a12 b12 h => HH (.p rfl) rfl rfl rfl (L2 Bf v8.1 _ _) I7 Lk a12 (Ax b12) ?_
      refine qh Qb rfl ?_
      refine T6 (.p rfl) rfl B4 A1 rfl (Ai b12) rfl rfl (by decide) rfl ?_
      refine qL G4 C4 rfl ?_
      refine B7 h fun v13 a13 h => AA [2010, 2011, 2012] (SI N p0 ((Ae.mk v12.fU.fH v12.fU.fE v12.fU.fI)) v11 v13 a13) ff rfl (qm rfl (qx rfl (qx rfl (qz E0 rfl (qs A1 rfl (qa rfl (AP (by kernel_rfl) (wp rfl (qm rfl (BS rfl (Ac ?_)))))))))))
      refine Bc h (fun h => ?_) fun h => ?_
      ·refine wq rfl (qm rfl (qa rfl (qe rfl ?_)))
       obtain rfl := sj h
       refine Ah ((M8 4 _ rfl).trans (sm [] [(4, pD (.sl ((([] : List AF)).map Bf))), (5, iD v13.2)] [] rfl rfl)) (Ar ?_)
       exact ⟨⟨[_, _], ⟨.tmp _ _ rfl, tm⟩, rfl⟩, tv⟩
      ·refine Am (wq rfl (qL B4 A1 rfl ?_))
       refine B7 h fun v15 a15 h => Dt [] [2010, 2011, 2012] (Qy N v13.1 v15 a15) dA BP rfl (qa rfl (Ac (wq rfl (qw 2 rfl ?_))))
       refine YE (kv := Value.string) (vt := PD) (m := v8.2.1) (dv := 0) (.p rfl) rfl rfl rfl (Oz Sx cn) (by rw [Sx]; rfl) KV rfl rfl rfl ?_
       refine qm rfl (qx rfl (qx rfl (qa rfl (qe rfl ?_))))
       refine AS h (fun v16 => mk [(2, oD (.ptr 2 0)), (6, oD (.own 2013)), (7, oD (.mref 2014)), (8, iD v2.2.2), (16, iD v16.2.2), (46, oD (.own 2015)), (47, iD ((v6.1.length : Int))), (48, iD v8.2.2)] [(2, .box (Ag p0)), (2013, .dvec 8 [.s, .s, .s, .s, .s, .s, .s, .x 1 []] (v16.1.map Bf)), (2014, .mp (JC Value.string PD v16.2.1)), (2015, .vec 3 (v6.1.map AD))]) (fun j16 h => ?_) (fun v16 h => ?_)
       ·refine wq rfl (qm rfl (CP rfl (Ac ?_)))
        refine Bc h (fun h => ?_) fun h => ?_
        ·refine AS h (fun v18 => mk [(2, oD (.ptr 2 0)), (6, oD (.own 2016)), (7, oD (.mref 2017)), (8, iD v2.2.2), (15, pD (.val (.string v15))), (16, iD v18.2), (46, oD (.own 2018)), (47, iD ((v6.1.length : Int))), (48, iD v8.2.2)] [(2, .box (Ag p0)), (2016, .dvec 8 [.s, .s, .s, .s, .s, .s, .s, .x 1 []] (v18.1.map Bf)), (2017, .mp (JC Value.string PD v8.2.1)), (2018, .vec 3 (v6.1.map AD))]) (fun j18 h => ?_) (fun v18 h => ?_)
         ·refine wq rfl (qL Cu BF rfl (qL B4 A1 rfl ?_))
          refine B7 h fun v19 a19 h => Dt [] [2010, 2011, 2012] (NR N p0 v13.1 v19 a19) dh BP rfl (qm rfl (qx rfl (qx rfl (qa rfl (qe rfl ?_)))))
          refine AS h (fun v20 => mk [(2, oD (.ptr 2 0)), (6, oD (.own 2022)), (7, oD (.mref 2023)), (8, iD v2.2.2), (12, oD (.ptr 12 0)), (13, oD (.ptr 13 0)), (15, pD (.val (.string v15))), (46, oD (.own 2024)), (47, iD ((v6.1.length : Int))), (48, iD v8.2.2), (87, bD v20)] [(2, .box (Ag p0)), (12, .box (DA v11)), (13, .box [.own 2019, .own 2020, .own 2021]), (2019, .vec 1 (v13.1.fH.map Aq)), (2020, .vec 1 (v13.1.fE.map Aq)), (2021, .vec 1 (v13.1.fI.map Eh)), (2022, .dvec 8 [.s, .s, .s, .s, .s, .s, .s, .x 1 []] (v8.1.map Bf)), (2023, .mp (JC Value.string PD v8.2.1)), (2024, .vec 3 (v6.1.map AD))]) (fun j20 h => ?_) (fun v20 h => ?_)
          ·refine Aj Ay rfl (qm rfl (BS rfl (qm rfl ?_)))
           refine EO 84 h rfl (fun h => ?_) fun h => ?_
           ·refine qw 2 rfl (qp rfl (Ac ?_))
            exact sn [(2019, 2010), (2020, 2011), (2021, 2012), (2022, 2005), (2023, 2006), (2024, 2007)] h
           ·refine qm rfl (CP rfl (qp rfl (Ac ?_)))
            exact sn [(2019, 2010), (2020, 2011), (2021, 2012), (2022, 2005), (2023, 2006), (2024, 2007)] h
          ·refine Bc h (fun h => ?_) fun h => ?_
           ·refine Aj Ay rfl (qe rfl ?_)
            exact sn [(2016, 2022), (2017, 2023), (2018, 2024)] h
           ·refine wq rfl (qm rfl ?_)
            refine Vv (.p rfl) rfl rfl (L2 Bf v8.1 _ _) I7 ?_
            refine qa rfl (Ac (Aj Ay rfl (qm rfl (qL B4 A1 rfl (qm rfl (qL G4 C4 rfl (Bd Uf af rfl (Ev (BC 2019 _ _ rfl rfl) (Ev (BC 2020 _ _ rfl rfl) (Ev (BC 2021 _ _ rfl rfl) ?_))))))))))
            refine Mt [(0, .tmp 94, _)] (.p rfl) rfl ⟨rfl, tv⟩ rfl I7 Lk Uf rfl rfl (Hn rfl) rfl rfl ?_
            refine Ev (H4 95 8 [.s, .s, .s, .s, .s, .s, .s, .x 1 []] _ ((([(AF.mk v13.1 v2.2.2 v11 (([] : List Int)))] : List AF)).map Bf) rfl rfl) ?_
            refine FO h fun c23 h => KC (.p rfl) rfl rfl rfl rfl rfl (by decide) I7 I7 Lk aV (Hn rfl) Uf rfl (Ny (f := Bf) (g := Bf) (xs := v8.1) (ys := (([(AF.mk v13.1 v2.2.2 v11 (([] : List Int)))] : List AF))) c23) (Nb Bf v8.1 (([(AF.mk v13.1 v2.2.2 v11 (([] : List Int)))] : List AF))) rfl rfl ?_
            refine qa rfl (Ac ?_)
            exact sn [(2016, 96), (2017, 2023), (2018, 2024)] h
         ·refine Aj Ay rfl (qw 3 rfl ?_)
          refine UC (kv := Value.string) (vt := PD) (m := v8.2.1) (k := v15) (v := v18.2) rfl (.inl rfl) rfl rfl rfl rfl (Oz Sx cn) rfl ?_
          refine Ac ?_
          exact sn [(2013, 2016), (2014, 2017), (2015, 2018)] h
        ·refine Am ?_
         exact sn [(2013, 2005), (2014, 2006), (2015, 2007)] h
       ·refine AS h (fun v24 => mk [(2, oD (.ptr 2 0)), (6, oD (.own 2025)), (7, oD (.mref 2026)), (8, iD v2.2.2), (46, oD (.own 2027)), (47, iD ((v6.1.length : Int))), (48, iD v8.2.2)] [(2, .box (Ag p0)), (2025, .dvec 8 [.s, .s, .s, .s, .s, .s, .s, .x 1 []] (v24.map Bf)), (2026, .mp (JC Value.string PD v16.2.1)), (2027, .vec 3 (v6.1.map AD))]) (fun j24 h => ?_) (fun v24 h => ?_)
        ·refine wq rfl (qm rfl (FM rfl (Ac ?_)))
         refine Bc h (fun h => ?_) fun h => ?_
         ·refine Aj Ay rfl (qw 4 rfl ?_)
          refine BK h fun v26 a26 b26 h => HH (.p rfl) rfl rfl rfl (L2 Bf v16.1 _ _) I7 Lk a26 (Ax b26) ?_
          refine qh TB rfl ?_
          refine bT (.p rfl) rfl A7 rfl (Ai b26) rfl rfl rfl rfl ?_
          refine qm rfl (Eg AC DH KV rfl ?_)
          refine FO h fun c27 h => DI (f := Aq) AC AC DH LS KV c27 rfl ?_
          refine BK h fun v28 a28 b28 h => HH (.p rfl) rfl rfl rfl (U1 Bf v16.1 _ _ _ _ _) I7 Lk a28 (Ax b28) ?_
          refine qh TB rfl ?_
          refine Yh rfl rfl rfl rfl (rows2 := (v26.fE ++ (([v16.2.2] : List Int))).map Aq) (cols2 := []) rfl rfl (Ai b28) (by decide) WL rfl rfl (C8 Bf v16.1 _ ((AF.mk ((Ae.mk v28.fU.fH v28.fU.fE v28.fU.fI)) v28.fK ((Af.mk v28.fY.fJ v28.fY.fN v28.fY.fT)) (v26.fE ++ (([v16.2.2] : List Int)))))) ?_
          refine Ac ?_
          exact sn [(2025, 2013), (2026, 2014), (2027, 2015)] h
         ·refine Am ?_
          exact sn [(2025, 2013), (2026, 2014), (2027, 2015)] h
        ·refine wq rfl (qm rfl ?_)
         refine Vv (.p rfl) rfl rfl (L2 Bf v24 _ _) I7 ?_
         refine Gf rfl (Ac ?_)
         refine Bc h (fun h => ?_) fun h => ?_
         ·refine wq rfl (qa rfl (qe rfl ?_))
          obtain rfl := sj h
          refine Ah ((M8 4 _ rfl).trans (sm [] [(4, pD (.sl ((([] : List AF)).map Bf))), (5, iD 3)] [] rfl rfl)) (Ar ?_)
          exact ⟨⟨[_, _], ⟨.tmp _ _ rfl, tm⟩, rfl⟩, tv⟩
         ·refine Am (Aj Ay rfl (AZ rfl (qm rfl (Ac ?_))))
          exact sn [(2005, 2025), (2006, 2026), (2007, 2027)] h
     ·refine AT ?_
      exact sn [(2008, 2005), (2009, 2006)] h
    ·refine Ah hs (Aj Ay rfl (qm rfl (AZ rfl (qe rfl ?_))))
     exact sn [(2001, 2008), (2002, 2009)] h
  ·refine AT ?_
   exact sn [(2003, 2001)] h
 ·refine Ah hs (wq rfl (qm rfl (qa rfl (qe rfl ?_))))
  obtain rfl := sj h
  refine Ah ((OF 2003 _ _ _ rfl rfl).trans (sm [] [(4, pD (.sl (v3.map Bf))), (5, iD 0)] [] rfl rfl)) (Ar ?_)
  exact ⟨⟨[_, _], ⟨.tmp _ _ rfl, tm⟩, rfl⟩, tv⟩
theorem Lb (N : Nat) (p0 : List Int) (p1 : List Int) (r : Bool) (h : Eo N p0 p1 = some r) : Au Tryz.prog 92 [pD (.sl (p0.map Aq)), pD (.sl (p1.map Aq))] [] (bD r) := by
 unfold Eo at h
 refine cw (n := 26) (rs := [.tmp 4]) Tryz.func92 fun w0 S0 => ?_
 refine wq rfl (qa rfl (Ac (wp rfl (qm rfl (AO AC rfl (qm rfl (AO AC rfl (BS rfl (Ac ?_)))))))))
 refine Bc h (fun h => ?_) fun h => ?_
 ·refine wq rfl (qe rfl ?_)
  obtain rfl := sj h
  refine Ah (sm [] [(4, bD false)] [] rfl rfl) (Ar ?_)
  exact ⟨⟨[_], tm, rfl⟩, tv⟩
 ·refine Am (wp rfl (qm rfl (AO AC rfl (qm rfl (Ac ?_)))))
  refine AH (L := Cj N p0 p1) h (fun v2 => mk [(0, pD (.sl (p0.map Aq))), (1, pD (.sl (p1.map Aq))), (12, iD ((p0.length : Int))), (13, iD v2)] []) (fun v3 => mk [] []) (fun _ _ => rfl) (sm [] _ _ rfl rfl) (fun j2 n2 v2 h => ?_) (fun v3 s h hs => ?_)
  ·unfold Cj at h
   refine wq rfl (AV rfl (Ac (AQ ?_)))
   refine Bc h (fun h => ?_) fun h => ?_
   ·refine Am (AQ (AM (wq rfl (qm rfl (qa rfl (Ac (wq rfl (qw 2 rfl ?_))))))))
    refine BK h fun v5 a5 b5 h => qi AC DH a5 (Ai b5) rfl (qk Cn rfl (qw 2 rfl ?_))
    refine BK h fun v6 a6 b6 h => qi AC DH a6 (Ai b6) rfl (qk Cn rfl (BS rfl (AP (by kernel_rfl) ?_)))
    refine Bc h (fun h => ?_) fun h => ?_
    ·refine wq rfl (qe rfl ?_)
     obtain rfl := sj h
     refine Ah (sm [] [(4, bD false)] [] rfl rfl) (Ar ?_)
     exact ⟨⟨[_], tm, rfl⟩, tv⟩
    ·refine Am (Aj Ay rfl (AZ rfl (qm rfl (Ac ?_))))
     exact sn [] h
   ·refine AT ?_
    exact sn [] h
  ·refine Ah hs (wq rfl (qe rfl ?_))
   obtain rfl := sj h
   refine Ah (sm [] [(4, bD true)] [] rfl rfl) (Ar ?_)
   exact ⟨⟨[_], tm, rfl⟩, tv⟩
theorem JJ (N : Nat) (p0 : List Int) (p1 : Int → Option Bool) (r : Int) (h : Eu N p0 p1 = some r) : Au Tryz.prog 131 [pD (.sl (p0.map Aq)), oD (.clo (JG (O7 false Aq) tB p1))] [] (iD r) := by
 unfold Eu at h
 refine cw (n := 19) (rs := [.tmp 4]) Tryz.func131 fun w0 S0 => ?_
 refine wq rfl (qa rfl (Ac (wp rfl (qm rfl (AO AC rfl (qm rfl (Ac ?_)))))))
 refine AH (L := Bo N p0 p1) h (fun v1 => mk [(0, pD (.sl (p0.map Aq))), (1, oD (.clo (JG (O7 false Aq) tB p1))), (7, iD ((p0.length : Int))), (8, iD v1)] []) (fun v2 => mk [] []) (fun _ _ => rfl) (sm [] _ _ rfl rfl) (fun j1 n1 v1 h => ?_) (fun v2 s h hs => ?_)
 ·unfold Bo at h
  refine wq rfl (AV rfl (Ac (AQ ?_)))
  refine Bc h (fun h => ?_) fun h => ?_
  ·refine Am (AQ (AM (wq rfl (qm rfl (qa rfl (Ac (wq rfl (qw 3 rfl ?_))))))))
   refine BK h fun v4 a4 b4 h => qi AC DH a4 (Ai b4) rfl (qk Cn rfl ?_)
   refine B7 h fun v5 a5 h => Nv (ds0 := [_]) (ar := (O7 false Aq) v4) (.p rfl) rfl rfl ⟨rfl, tv⟩ rfl rfl rfl (L8 (N4 _ _ SS) a5) ?_
   refine Ac ?_
   refine Bc h (fun h => ?_) fun h => ?_
   ·refine wq rfl (qm rfl (qe rfl ?_))
    obtain rfl := sj h
    refine Ah (sm [] [(4, iD v1)] [] rfl rfl) (Ar ?_)
    exact ⟨⟨[_], tm, rfl⟩, tv⟩
   ·refine Am (Aj Ay rfl (AZ rfl (qm rfl (Ac ?_))))
    exact sn [] h
  ·refine AT ?_
   exact sn [] h
 ·refine Ah hs (wq rfl (qe rfl ?_))
  obtain rfl := sj h
  refine Ah (sm [] [(4, iD ((-1)))] [] rfl rfl) (Ar ?_)
  exact ⟨⟨[_], tm, rfl⟩, tv⟩
theorem IS (N : Nat) (p0 : List Int) (p1 : Int → Option Bool) (r : Bool) (h : CW N p0 p1 = some r) : Au Tryz.prog 93 [pD (.sl (p0.map Aq)), oD (.clo (JG (O7 false Aq) tB p1))] [] (bD r) := by
 unfold CW at h
 refine cw (n := 9) (rs := [.tmp 4]) Tryz.func93 fun w0 S0 => ?_
 refine wq rfl (qa rfl (Ac (wq rfl (qw 2 rfl ?_))))
 refine B7 h fun v1 a1 h => AA [] (JJ N p0 p1 v1 a1) cN rfl (FM rfl (qe rfl ?_))
 obtain rfl := sj h
 refine Ah (sm [] [(4, bD ((decide (0 ≤ v1))))] [] rfl rfl) (Ar ?_)
 exact ⟨⟨[_], tm, rfl⟩, tv⟩
theorem Sw (N : Nat) (p0 : Int) (r : Bool) (h : Hy N p0 = some r) : Au Tryz.prog 94 [iD p0] [] (bD r) := by
 unfold Hy at h
 refine cw (n := 5) (rs := [.tmp 2]) Tryz.func94 fun w0 S0 => ?_
 refine wq rfl (qa rfl (Ac (wq rfl (qm rfl (FM rfl (qe rfl ?_))))))
 obtain rfl := sj h
 refine Ah (sm [] [(2, bD ((decide (0 ≤ p0))))] [] rfl rfl) (Ar ?_)
 exact ⟨⟨[_], tm, rfl⟩, tv⟩
theorem VF (N : Nat) (p0 : Ab) (p1 : Ae) (r : Bool) (h : IX N p0 p1 = some r) : Au Tryz.prog 67 [.e (.agg (Ag p0)), .e (.agg (AK p1))] [] (bD r) := by
 unfold IX at h
 refine cw (n := 22) (rs := [.tmp 4]) Tryz.func67 fun w0 S0 => ?_
 refine wq rfl (qb rfl (qb rfl (qe rfl ?_)))
 refine AS h (fun v1 => mk [(4, bD v1)] []) (fun j1 h => ?_) (fun v1 h => ?_)
 ·refine Aj Ay rfl (qL Cu BF rfl (qL B4 A1 rfl ?_))
  refine B7 h fun v2 a2 h => AA [] (J2 N p0 p1 v2 a2) ZY rfl (B6 rfl (qm rfl ?_))
  refine EO 9 h rfl (fun h => ?_) fun h => ?_
  ·refine qf De rfl (ql A7 rfl (qf If rfl (ql A7 rfl ?_)))
   refine B7 h fun v4 a4 h => AA [] (Lb N p1.fH p0.fQ v4 a4) eC rfl (qp rfl (qm rfl ?_))
   refine EO 16 h rfl (fun h => ?_) fun h => ?_
   ·refine qf BL rfl (ql A7 rfl ?_)
    refine B7 h fun v6 a6 h => AA [] (Au.weak (ds' := [pD (.sl (p1.fE.map Aq)), oD (.fnc 94)]) (IS N p1.fE ((fun (x : Int) => Hy N x)) v6 a6) ⟨(fun _ _ _ hh => hh), (fun _ _ _ hh => Wk eL (fun ar t ht => by obtain ⟨x, r, rfl, hq, rfl⟩ := KE ht; exact Sw N x r hq) hh), tv⟩) fa rfl ?_
    refine CP rfl (qp rfl (qe rfl ?_))
    exact sn [] h
   ·refine qw 4 rfl (qp rfl (qe rfl ?_))
    exact sn [] h
  ·refine qw 5 rfl (qp rfl (qw 5 rfl (qp rfl (qe rfl ?_))))
   exact sn [] h
 ·obtain rfl := sj h
  refine Ah (sm [] [(4, bD v1)] [] rfl rfl) (Ar ?_)
  exact ⟨⟨[_], tm, rfl⟩, tv⟩
theorem QR (N : Nat) (p0 : AF) (p1 : List Int) (p2 : List Int) (p3 : List Int) (p4 : List Ao) (r : Bool) (h : Fn N p0 p1 p2 p3 p4 = some r) : Au Tryz.prog 66 [.e (.agg (WK p0)), oD (.rop [.sl (p1.map Aq), .sl (p2.map Aq), .sl (p3.map Aq), .sl (p4.map AG)])] [] (bD r) := by
 unfold Fn at h
 refine cw (n := 8) (rs := [.tmp 3]) Tryz.func66 fun w0 S0 => ?_
 refine wq rfl (qb rfl (qa rfl (Ac (wq rfl (qK Cu BF rfl (qf Qb rfl (qL B4 A1 rfl ?_)))))))
 refine B7 h fun v1 a1 h => AA [] (VF N ((Ab.mk p1 p2 p3 p4)) ((Ae.mk p0.fU.fH p0.fU.fE p0.fU.fI)) v1 a1) eS rfl (qe rfl ?_)
 obtain rfl := sj h
 refine Ah (sm [] [(3, bD v1)] [] rfl rfl) (Ar ?_)
 exact ⟨⟨[_], tm, rfl⟩, tv⟩
theorem Hf (N : Nat) (p0 : List AF) (p1 : AF → Option Bool) (r : Int) (h : Cw N p0 p1 = some r) : Au Tryz.prog 65 [pD (.sl (p0.map Bf)), oD (.clo (JG (O7 true Bf) tB p1))] [] (iD r) := by
 unfold Cw at h
 refine cw (n := 19) (rs := [.tmp 4]) Tryz.func65 fun w0 S0 => ?_
 refine wq rfl (qa rfl (Ac (wp rfl (qm rfl (AO I7 rfl (qm rfl (Ac ?_)))))))
 refine AH (L := AU N p0 p1) h (fun v1 => mk [(0, pD (.sl (p0.map Bf))), (1, oD (.clo (JG (O7 true Bf) tB p1))), (7, iD ((p0.length : Int))), (8, iD v1)] []) (fun v2 => mk [] []) (fun _ _ => rfl) (sm [] _ _ rfl rfl) (fun j1 n1 v1 h => ?_) (fun v2 s h hs => ?_)
 ·unfold AU at h
  refine wq rfl (AV rfl (Ac (AQ ?_)))
  refine Bc h (fun h => ?_) fun h => ?_
  ·refine Am (AQ (AM (wq rfl (qm rfl (qa rfl (Ac (wq rfl (qw 3 rfl ?_))))))))
   refine BK h fun v4 a4 b4 h => qi I7 Lk a4 (Ai b4) rfl (qK cK Lk rfl ?_)
   refine B7 h fun v5 a5 h => Nv (ds0 := [_]) (ar := (O7 true Bf) ((AF.mk ((Ae.mk v4.fU.fH v4.fU.fE v4.fU.fI)) v4.fK ((Af.mk v4.fY.fJ v4.fY.fN v4.fY.fT)) v4.fE))) (.p rfl) rfl rfl ⟨rfl, tv⟩ rfl rfl rfl (L8 (N4 _ _ Tk) a5) ?_
   refine Ac ?_
   refine Bc h (fun h => ?_) fun h => ?_
   ·refine wq rfl (qm rfl (qe rfl ?_))
    obtain rfl := sj h
    refine Ah (sm [] [(4, iD v1)] [] rfl rfl) (Ar ?_)
    exact ⟨⟨[_], tm, rfl⟩, tv⟩
   ·refine Am (Aj Ay rfl (AZ rfl (qm rfl (Ac ?_))))
    exact sn [] h
  ·refine AT ?_
   exact sn [] h
 ·refine Ah hs (wq rfl (qe rfl ?_))
  obtain rfl := sj h
  refine Ah (sm [] [(4, iD ((-1)))] [] rfl rfl) (Ar ?_)
  exact ⟨⟨[_], tm, rfl⟩, tv⟩
theorem HQ (N : Nat) (p0 : List Af) (r : (List Af)) (h : Bz N p0 = some r) : D1 Tryz.prog 95 [oD (.own 90000)] [(.vec 3 (p0.map AD), .vec 3 (r.map AD))] [] (.tup []) := by
 unfold Bz at h
 refine Fb (n := 28) (rs := []) Tryz.func95 rfl rfl rfl (Hn rfl) (Hn rfl) rfl rfl (Hn rfl) rfl (Hn rfl) fun w0 S0 GL => ed ?_
 refine Ah (sm [] [(0, oD (.own 90000))] [(90000, .vec 3 (p0.map AD))] rfl rfl) (wq rfl (qm rfl (Dm E6 rfl (O3 rfl (qa rfl (qe rfl ?_))))))
 refine AH (L := Bj N) h (fun v1 => mk [(0, oD (.own 90000)), (2, iD v1.2.1), (3, iD v1.2.2)] [(90000, .vec 3 (v1.1.map AD))]) (fun v2 => mk [] [(90000, .vec 3 (v2.map AD))]) (fun _ _ => rfl) (sm [] _ _ rfl rfl) (fun j1 n1 v1 h => ?_) (fun v2 s h hs => ?_)
 ·unfold Bj at h
  refine wp rfl (qw 2 rfl (AV rfl (Ac ?_)))
  refine Bc h (fun h => ?_) fun h => ?_
  ·refine Am (AQ (AM (Aj Ay rfl (qw 6 rfl ?_))))
   refine BK h fun v4 a4 b4 h => qI E6 C4 a4 (Ai b4) rfl (qJ G4 C4 (Ai b4) rfl (qw 2 rfl ?_))
   refine BK h fun v5 a5 b5 h => qI E6 C4 a5 (Ai b5) rfl (qJ G4 C4 (Ai b5) rfl ?_)
   refine BK h fun v6 a6 b6 h => qI E6 C4 a6 (Ai b6) rfl ?_
   refine D4 rfl rfl rfl rfl (Ai b6) rfl C4 rfl (Hn rfl) (C8 AD v1.1 _ v4) ?_
   refine BK h fun v7 a7 b7 h => qI E6 C4 a7 (Ai b7) rfl ?_
   refine D4 rfl rfl rfl rfl (Ai b7) rfl C4 rfl (Hn rfl) (C8 AD (v1.1.set ((v1.2.1).toNat) v4) _ v5) ?_
   refine AP (by kernel_rfl) (Aj Ay rfl (qm rfl (AZ rfl (qm rfl (O3 rfl (qa rfl (qe rfl ?_)))))))
   exact sn [] h
  ·refine AT ?_
   exact sn [] h
 ·obtain rfl := sj h
  refine ⟨_, hs.trans (sm [] [] [(90000, .vec 3 (v2.map AD))] rfl rfl), ?_⟩
  exact ⟨⟨[], tv, rfl⟩, ⟨rfl, tv⟩, tv⟩
theorem Vb (N : Nat) (p0 : List AF) (p1 : Int) (r : (List Af)) (h : J5 N p0 p1 = some r) : Au Tryz.prog 68 [pD (.sl (p0.map Bf)), iD p1] [(3, r.map AD)] (oD (.own 0)) := by
 unfold J5 at h
 refine cw (n := 28) (rs := [.tmp 4]) Tryz.func68 fun w0 S0 => ?_
 refine wq rfl (qa rfl (Ac (wq rfl (qa rfl (Ac (AQ ?_))))))
 refine AH (L := Gp N p0) h (fun v1 => mk [(0, pD (.sl (p0.map Bf))), (1, iD v1.1), (5, oD (.own 2001))] [(2001, .vec 3 (v1.2.map AD))]) (fun v2 => mk [(5, oD (.own 2002))] [(2002, .vec 3 (v2.map AD))]) (fun _ _ => rfl) ((AY 5 2003 3 rfl rfl rfl).trans (sm [(2001, 2003)] _ _ rfl rfl)) (fun j1 n1 v1 h => ?_) (fun v2 s h hs => ?_)
 ·unfold Gp at h
  refine wp rfl (qw 2 rfl ?_)
  refine BK h fun v3 a3 b3 h => qi I7 Lk a3 (Ai b3) rfl (qg T3 rfl (qk Cn rfl (FM rfl (Ac ?_))))
  refine Bc h (fun h => ?_) fun h => ?_
  ·refine Am (AQ (AM (Aj Ay rfl (qw 3 rfl ?_))))
   refine BK h fun v5 a5 b5 h => qi I7 Lk a5 (Ai b5) rfl (qg YJ rfl (qK G4 C4 rfl (Eg E6 C4 H0 rfl ?_)))
   refine FO h fun c6 h => DI (f := AD) E6 E6 C4 Ol H0 c6 rfl (qa rfl (Ac (Aj Ay rfl (qw 2 rfl ?_))))
   refine BK h fun v7 a7 b7 h => qi I7 Lk a7 (Ai b7) rfl (qg T3 rfl (qk Cn rfl (qe rfl ?_)))
   exact sn [(2001, 24)] h
  ·refine AT ?_
   exact sn [(2002, 2001)] h
 ·refine Ah hs (wq rfl (qm rfl ?_))
  refine B7 h fun v8 a8 h => Ji (ds0 := [_]) [2002] [] [true] (HQ N v2 v8 a8) (.p rfl) eO rfl ⟨rfl, tv⟩ rfl rfl (by decide) ⟨rfl, tv⟩ rfl (FD rfl) tv ⟨(fun h => by cases h), tv⟩ rfl rfl rfl ?_
  refine Ac (wq rfl (qm rfl (qe rfl ?_)))
  obtain rfl := sj h
  refine Ah (sm [(1000, 2002)] [(4, oD (.own 1000))] [(1000, .vec 3 (v8.map AD))] rfl rfl) (Ar ?_)
  exact ⟨⟨[_], tm, rfl⟩, ⟨rfl, tv⟩⟩
theorem Un (N : Nat) (p0 : Ab) (p1 : Ae) (r : (List Af) × Int) (h : F5 N p0 p1 = some r) : Au Tryz.prog 36 [.e (.agg (Ag p0)), .e (.agg (AK p1))] [(3, r.1.map AD)] (.tup [.one (.own 0), .one (iC r.2)]) := by
 unfold F5 at h
 refine cw (n := 38) (rs := [.tmp 4, .tmp 5]) Tryz.func36 fun w0 S0 => ?_
 refine wq rfl (qb rfl (qb rfl (qa rfl (qa rfl (Ac (wq rfl (qL Cu BF rfl (qL B4 A1 rfl ?_))))))))
 refine B7 h fun v1 a1 h => AA [] (NR N p0 p1 v1 a1) dh rfl (qm rfl (qx rfl (qx rfl (qa rfl (qa rfl (Ac (wp rfl (qm rfl (BS rfl (Ac ?_))))))))))
 refine Bc h (fun h => ?_) fun h => ?_
 ·refine wq rfl (qm rfl (qa rfl (qe rfl ?_)))
  obtain rfl := sj h
  refine Ah ((AY 4 2001 3 rfl rfl rfl).trans (sm [(1000, 2001)] [(4, oD (.own 1000)), (5, iD v1.2)] [(1000, .vec 3 ((([] : List Af)).map AD))] rfl rfl)) (Ar ?_)
  exact ⟨⟨[_, _], ⟨.tmp _ _ rfl, tm⟩, rfl⟩, ⟨rfl, tv⟩⟩
 ·refine Am (wp rfl (qm rfl (CP rfl (Ac ?_))))
  refine Bc h (fun h => ?_) fun h => ?_
  ·refine wq rfl (qa rfl (qe rfl ?_))
   obtain rfl := sj h
   refine Ah ((AY 4 2002 3 rfl rfl rfl).trans (sm [(1000, 2002)] [(4, oD (.own 1000)), (5, iD 13)] [(1000, .vec 3 ((([] : List Af)).map AD))] rfl rfl)) (Ar ?_)
   exact ⟨⟨[_, _], ⟨.tmp _ _ rfl, tm⟩, rfl⟩, ⟨rfl, tv⟩⟩
  ·refine Am (wq rfl (qL Cu BF rfl (qL B4 A1 rfl ?_)))
   refine B7 h fun v4 a4 h => AA [] (QT N p0 p1 v4 a4) fe rfl (qm rfl (qx rfl (qx rfl (qa rfl (qa rfl (Ac (wp rfl (qm rfl (BS rfl (Ac ?_))))))))))
   refine Bc h (fun h => ?_) fun h => ?_
   ·refine wq rfl (qm rfl (qa rfl (qe rfl ?_)))
    obtain rfl := sj h
    refine Ah ((AY 4 2003 3 rfl rfl rfl).trans (sm [(1000, 2003)] [(4, oD (.own 1000)), (5, iD v4.2)] [(1000, .vec 3 ((([] : List Af)).map AD))] rfl rfl)) (Ar ?_)
    exact ⟨⟨[_, _], ⟨.tmp _ _ rfl, tm⟩, rfl⟩, ⟨rfl, tv⟩⟩
   ·refine Am (wq rfl (qm rfl (Ev (Nz 2 [.sl (p0.fF.map Aq), .sl (p0.fL.map Aq), .sl (p0.fQ.map Aq), .sl (p0.fG.map AG)] rfl rfl) ?_)))
    refine MI (capD := [_]) (JG (O7 true Bf) tB ((fun (x : AF) => Fn N x p0.fF p0.fL p0.fQ p0.fG))) (.p rfl) fq rfl ⟨rfl, tv⟩ rfl (fun ar t ht => by obtain ⟨x, r, rfl, hq, rfl⟩ := KE ht; exact QR N x p0.fF p0.fL p0.fQ p0.fG r hq) ?_
    refine B7 h fun v6 a6 h => AA [] (Hf N v4.1 ((fun (x : AF) => Fn N x p0.fF p0.fL p0.fQ p0.fG)) v6 a6) eM rfl (qa rfl (Ac (wp rfl (qm rfl (AV rfl (Ac ?_))))))
    refine Bc h (fun h => ?_) fun h => ?_
    ·refine wq rfl (qa rfl (qe rfl ?_))
     obtain rfl := sj h
     refine Ah ((AY 4 2004 3 rfl rfl rfl).trans (sm [(1000, 2004)] [(4, oD (.own 1000)), (5, iD 14)] [(1000, .vec 3 ((([] : List Af)).map AD))] rfl rfl)) (Ar ?_)
     exact ⟨⟨[_, _], ⟨.tmp _ _ rfl, tm⟩, rfl⟩, ⟨rfl, tv⟩⟩
    ·refine Am (wq rfl (qw 2 rfl ?_))
     refine B7 h fun v8 a8 h => AA [2005] (Vb N v4.1 v6 v8 a8) eE rfl (qa rfl (qe rfl ?_))
     obtain rfl := sj h
     refine Ah (sm [(1000, 2005)] [(4, oD (.own 1000)), (5, iD 0)] [(1000, .vec 3 (v8.map AD))] rfl rfl) (Ar ?_)
     exact ⟨⟨[_, _], ⟨.tmp _ _ rfl, tm⟩, rfl⟩, ⟨rfl, tv⟩⟩
theorem TV (N : Nat) (p0 : Ab) (r : (List Af) × Int) (h : GF N p0 = some r) : Au Tryz.prog 13 [.e (.agg (Ag p0))] [(3, r.1.map AD)] (.tup [.one (.own 0), .one (iC r.2)]) := by
 unfold GF at h
 refine cw (n := 19) (rs := [.tmp 2, .tmp 3]) Tryz.func13 fun w0 S0 => ?_
 refine wq rfl (qb rfl (qa rfl (qa rfl (Ac (wq rfl (qL Cu BF rfl ?_))))))
 refine B7 h fun v1 a1 h => AA [2001, 2002, 2003] (Tw N p0 v1 a1) fo rfl (qm rfl (qx rfl (qx rfl (qz E0 rfl (qs A1 rfl (qa rfl (Ac (wp rfl (qm rfl (BS rfl (Ac ?_)))))))))))
 refine Bc h (fun h => ?_) fun h => ?_
 ·refine wq rfl (qm rfl (qa rfl (qe rfl ?_)))
  obtain rfl := sj h
  refine Ah ((AY 2 2004 3 rfl rfl rfl).trans (sm [(1000, 2004)] [(2, oD (.own 1000)), (3, iD v1.2)] [(1000, .vec 3 ((([] : List Af)).map AD))] rfl rfl)) (Ar ?_)
  exact ⟨⟨[_, _], ⟨.tmp _ _ rfl, tm⟩, rfl⟩, ⟨rfl, tv⟩⟩
 ·refine Am (wq rfl (qL Cu BF rfl (qL B4 A1 rfl ?_)))
  refine B7 h fun v3 a3 h => Dt [2005] [2001, 2002, 2003] (Un N p0 v1.1 v3 a3) fh (Hd (fun _ => rfl) BP) rfl (qx rfl (qx rfl (qa rfl (qe rfl ?_))))
  obtain rfl := sj h
  refine Ah (sm [(1000, 2005)] [(2, oD (.own 1000)), (3, iD v3.2)] [(1000, .vec 3 (v3.1.map AD))] rfl rfl) (Ar ?_)
  exact ⟨⟨[_, _], ⟨.tmp _ _ rfl, tm⟩, rfl⟩, ⟨rfl, tv⟩⟩
theorem H9 (N : Nat) (p0 : Ab) (p1 : List Aa) (r : Bool × Int) (h : Ed N p0 p1 = some r) : Au Tryz.prog 42 [.e (.agg (Ag p0)), pD (.sl (p1.map Ad))] [] (.tup [.one (.pure (.val (.bool r.1))), .one (iC r.2)]) := by
 unfold Ed at h
 refine cw (n := 20) (rs := [.tmp 4, .tmp 5]) Tryz.func42 fun w0 S0 => ?_
 refine wq rfl (qb rfl (qa rfl (qa rfl (Ac (wq rfl (qL Cu BF rfl (qm rfl ?_)))))))
 refine B7 h fun v1 a1 h => AA [2001, 2002, 2003] (PH N p0 p1 v1 a1) eU rfl ?_
 refine B7 h fun v2 a2 h => Dt [2004] [2001, 2002, 2003] (TV N v1 v2 a2) eH (Hd (fun _ => rfl) BP) rfl (qm rfl (qx rfl (qx rfl (qa rfl (qa rfl (Ac (wp rfl (qm rfl (B6 rfl (Ac ?_))))))))))
 refine Bc h (fun h => ?_) fun h => ?_
 ·refine wq rfl (qm rfl (qa rfl (qe rfl ?_)))
  obtain rfl := sj h
  refine Ah (sm [] [(4, bD false), (5, iD v2.2)] [] rfl rfl) (Ar ?_)
  exact ⟨⟨[_, _], ⟨.tmp _ _ rfl, tm⟩, rfl⟩, tv⟩
 ·refine Am (wq rfl (qm rfl (B6 rfl (qa rfl (qe rfl ?_)))))
  obtain rfl := sj h
  refine Ah (sm [] [(4, bD ((v2.2 == 0))), (5, iD 0)] [] rfl rfl) (Ar ?_)
  exact ⟨⟨[_, _], ⟨.tmp _ _ rfl, tm⟩, rfl⟩, tv⟩
theorem Mw (N : Nat) (p0 : Ab) (r : (List (List Aa)) × Int) (h : Gq N p0 = some r) : Au Tryz.prog 24 [.e (.agg (Ag p0))] [(1, r.1.map (Fa Ad))] (.tup [.one (.own 0), .one (iC r.2)]) := by
 unfold Gq at h
 refine cw (n := 54) (rs := [.tmp 2, .tmp 3]) Tryz.func24 fun w0 S0 => ?_
 refine wq rfl (qb rfl (qa rfl (qa rfl (Ac (wq rfl (qL Cu BF rfl ?_))))))
 refine B7 h fun v1 a1 h => AA [2001] (Kc N p0 v1 a1) dO rfl (qm rfl (qx rfl (qx rfl (qa rfl (qa rfl (Ac (wp rfl (qm rfl (BS rfl (Ac ?_))))))))))
 refine Bc h (fun h => ?_) fun h => ?_
 ·refine wq rfl (qm rfl (qa rfl (qe rfl ?_)))
  obtain rfl := sj h
  refine Ah ((AY 2 2002 1 rfl rfl rfl).trans (sm [(1000, 2002)] [(2, oD (.own 1000)), (3, iD v1.2)] [(1000, .vec 1 ((([] : List (List Aa))).map (Fa Ad)))] rfl rfl)) (Ar ?_)
  exact ⟨⟨[_, _], ⟨.tmp _ _ rfl, tm⟩, rfl⟩, ⟨rfl, tv⟩⟩
 ·refine Am (wp rfl (qm rfl (Dm Bb rfl (Gf rfl (Ac ?_)))))
  refine Bc h (fun h => ?_) fun h => ?_
  ·refine wq rfl (qa rfl (qe rfl ?_))
   obtain rfl := sj h
   refine Ah ((AY 2 2003 1 rfl rfl rfl).trans (sm [(1000, 2003)] [(2, oD (.own 1000)), (3, iD 3)] [(1000, .vec 1 ((([] : List (List Aa))).map (Fa Ad)))] rfl rfl)) (Ar ?_)
   exact ⟨⟨[_, _], ⟨.tmp _ _ rfl, tm⟩, rfl⟩, ⟨rfl, tv⟩⟩
  ·refine Am (wp rfl (qe rfl ?_))
   refine AH (L := EC N p0) h (fun v4 => mk [(1, oD (.ptr 1 0)), (4, pD (.sl (v4.1.map Ad))), (6, iD v4.2)] [(1, .box (Ag p0))]) (fun v5 => mk [] []) (fun _ _ => rfl) ((BC 2001 _ _ rfl rfl).trans (sm [] _ _ rfl rfl)) (fun j4 n4 v4 h => ?_) (fun v5 s h hs => ?_)
   ·unfold EC at h
    refine wp rfl (qm rfl (Ub rfl (Ac ?_)))
    refine Bc h (fun h => ?_) fun h => ?_
    ·refine Am (AQ (AM (wq rfl (qa rfl (Ac (wp rfl (qw 2 rfl ?_)))))))
     refine B7 h fun v7 a7 h => AA [2004] (PX N v4.1 v4.2 v7 a7) ec rfl (Dm Ka rfl (qm rfl (Ac ?_)))
     refine AH (L := DV N p0 v7) h (fun v8 => mk [(1, oD (.ptr 1 0)), (4, pD (.sl (v4.1.map Ad))), (6, iD v4.2), (7, oD (.own 2005)), (29, oD (.own 2006)), (30, iD ((v7.length : Int))), (31, iD v8.2)] [(1, .box (Ag p0)), (2005, .vec 1 (v8.1.map (Fa Ad))), (2006, .vec 1 (v7.map (Fa Ad)))]) (fun v9 => mk [(1, oD (.ptr 1 0)), (4, pD (.sl (v4.1.map Ad))), (6, iD v4.2), (7, oD (.own 2007))] [(1, .box (Ag p0)), (2007, .vec 1 (v9.map (Fa Ad)))]) (fun _ _ => rfl) ((AY 7 2011 1 rfl rfl rfl).trans (sm [(2005, 2011), (2006, 2004)] _ _ rfl rfl)) (fun j8 n8 v8 h => ?_) (fun v9 s h hs => ?_)
     ·unfold DV at h
      refine wq rfl (AV rfl (Ac (AQ ?_)))
      refine Bc h (fun h => ?_) fun h => ?_
      ·refine Am ?_
       refine AS h (fun v11 => mk [(1, oD (.ptr 1 0)), (4, pD (.sl (v4.1.map Ad))), (6, iD v4.2), (7, oD (.own 2008)), (29, oD (.own 2009)), (30, iD ((v7.length : Int))), (31, iD v8.2)] [(1, .box (Ag p0)), (2008, .vec 1 (v11.map (Fa Ad))), (2009, .vec 1 (v7.map (Fa Ad)))]) (fun j11 h => ?_) (fun v11 h => ?_)
       ·refine AM (wq rfl ?_)
        refine BK h fun v12 a12 b12 h => qI Ka Tf a12 (Ai b12) rfl (qj aY (Ai b12) rfl (qa rfl (Ac (wq rfl (qL Cu BF rfl (qm rfl ?_))))))
        refine B7 h fun v13 a13 h => AA [] (H9 N p0 v12 v13 a13) bm rfl (qm rfl (qx rfl (qx rfl (qa rfl (qa rfl (Ac (wp rfl (qm rfl (BS rfl (Ac ?_))))))))))
        refine Bc h (fun h => ?_) fun h => ?_
        ·refine wq rfl (qm rfl (qa rfl (qe rfl ?_)))
         obtain rfl := sj h
         refine Ah ((AY 2 2010 1 rfl rfl rfl).trans (sm [(1000, 2010)] [(2, oD (.own 1000)), (3, iD v13.2)] [(1000, .vec 1 ((([] : List (List Aa))).map (Fa Ad)))] rfl rfl)) (Ar ?_)
         exact ⟨⟨[_, _], ⟨.tmp _ _ rfl, tm⟩, rfl⟩, ⟨rfl, tv⟩⟩
        ·refine Am (wq rfl (qm rfl (Ac ?_)))
         refine Bc h (fun h => ?_) fun h => ?_
         ·refine Aj Ay rfl (qw 2 rfl (Eg Ka Tf XA rfl ?_))
          refine FO h fun c16 h => DI (f := (Fa Ad)) Ka Ka Tf aQ XA c16 rfl (qe rfl ?_)
          exact sn [(2008, 48), (2009, 2006)] h
         ·refine Am ?_
          exact sn [(2008, 2005), (2009, 2006)] h
       ·refine Aj Ay rfl (AZ rfl (qm rfl (Ac ?_)))
        exact sn [(2005, 2008), (2006, 2009)] h
      ·refine AT ?_
       exact sn [(2007, 2005)] h
     ·refine Ah hs (wq rfl (qm rfl (Dm Ka rfl (Gf rfl (Ac ?_)))))
      refine Bc h (fun h => ?_) fun h => ?_
      ·refine wq rfl (qm rfl (qa rfl (qe rfl ?_)))
       obtain rfl := sj h
       refine Ah (sm [(1000, 2007)] [(2, oD (.own 1000)), (3, iD 0)] [(1000, .vec 1 (v9.map (Fa Ad)))] rfl rfl) (Ar ?_)
       exact ⟨⟨[_, _], ⟨.tmp _ _ rfl, tm⟩, rfl⟩, ⟨rfl, tv⟩⟩
      ·refine Am (Aj Ay rfl (qm rfl (AZ rfl (qe rfl ?_))))
       exact sn [] h
    ·refine AT ?_
     exact sn [] h
   ·refine Ah hs (wq rfl (qa rfl (qe rfl ?_)))
    obtain rfl := sj h
    refine Ah ((AY 2 2012 1 rfl rfl rfl).trans (sm [(1000, 2012)] [(2, oD (.own 1000)), (3, iD 14)] [(1000, .vec 1 ((([] : List (List Aa))).map (Fa Ad)))] rfl rfl)) (Ar ?_)
    exact ⟨⟨[_, _], ⟨.tmp _ _ rfl, tm⟩, rfl⟩, ⟨rfl, tv⟩⟩
theorem GQ (N : Nat) (p0 : List Aa) (p1 : Aa) (r : Int) (h : Ci N p0 p1 = some r) : Au Tryz.prog 96 [pD (.sl (p0.map Ad)), .e (.agg (E8 p1))] [] (iD r) := by
 unfold Ci at h
 refine cw (n := 19) (rs := [.tmp 4]) Tryz.func96 fun w0 S0 => ?_
 refine wq rfl (qb rfl (qa rfl (Ac (wp rfl (qm rfl (AO Bb rfl (qm rfl (Ac ?_))))))))
 refine AH (L := AX N p0 p1) h (fun v1 => mk [(0, pD (.sl (p0.map Ad))), (3, oD (.ptr 3 0)), (7, iD ((p0.length : Int))), (8, iD v1)] [(3, .box (E8 p1))]) (fun v2 => mk [] []) (fun _ _ => rfl) (sm [] _ _ rfl rfl) (fun j1 n1 v1 h => ?_) (fun v2 s h hs => ?_)
 ·unfold AX at h
  refine wq rfl (AV rfl (Ac (AQ ?_)))
  refine Bc h (fun h => ?_) fun h => ?_
  ·refine Am (AQ (AM (wq rfl (qm rfl (qa rfl (Ac (wq rfl (qL ID CQ rfl (qw 2 rfl ?_)))))))))
   refine BK h fun v4 a4 b4 h => qi Bb CQ a4 (Ai b4) rfl (qK ID CQ rfl ?_)
   refine Um [.int .i64 p1.fW, .int .i64 p1.fV, .int .i64 p1.fX] [.int .i64 v4.fW, .int .i64 v4.fV, .int .i64 v4.fX] (.p rfl) rfl rfl Re rfl ?_
   refine AP (by kernel_rfl) ?_
   refine Bc h (fun h => ?_) fun h => ?_
   ·refine wq rfl (qm rfl (qe rfl ?_))
    obtain rfl := sj h
    refine Ah (sm [] [(4, iD v1)] [] rfl rfl) (Ar ?_)
    exact ⟨⟨[_], tm, rfl⟩, tv⟩
   ·refine Am (Aj Ay rfl (AZ rfl (qm rfl (Ac ?_))))
    exact sn [] h
  ·refine AT ?_
   exact sn [] h
 ·refine Ah hs (wq rfl (qe rfl ?_))
  obtain rfl := sj h
  refine Ah (sm [] [(4, iD ((-1)))] [] rfl rfl) (Ar ?_)
  exact ⟨⟨[_], tm, rfl⟩, tv⟩
theorem Gy (N : Nat) (p0 : List Aa) (p1 : Aa) (r : Bool) (h : Bm N p0 p1 = some r) : Au Tryz.prog 69 [pD (.sl (p0.map Ad)), .e (.agg (E8 p1))] [] (bD r) := by
 unfold Bm at h
 refine cw (n := 9) (rs := [.tmp 4]) Tryz.func69 fun w0 S0 => ?_
 refine wq rfl (qb rfl (qa rfl (Ac (wq rfl (qm rfl (qL ID CQ rfl ?_))))))
 refine B7 h fun v1 a1 h => AA [] (GQ N p0 p1 v1 a1) eJ rfl (FM rfl (qe rfl ?_))
 obtain rfl := sj h
 refine Ah (sm [] [(4, bD ((decide (0 ≤ v1))))] [] rfl rfl) (Ar ?_)
 exact ⟨⟨[_], tm, rfl⟩, tv⟩
theorem O8 (N : Nat) (p0 : Ab) (p1 : List Aa) (r : Int) (h : Gj N p0 p1 = some r) : Au Tryz.prog 37 [.e (.agg (Ag p0)), pD (.sl (p1.map Ad))] [] (iD r) := by
 unfold Gj at h
 refine cw (n := 27) (rs := [.tmp 4]) Tryz.func37 fun w0 S0 => ?_
 refine wq rfl (qb rfl (qa rfl (Ac (wp rfl (qL Cu BF rfl ?_)))))
 refine B7 h fun v1 a1 h => AA [] (Em N p0 v1 a1) W2 rfl (qa rfl (Ac (wq rfl (qm rfl (BS rfl (Ac ?_))))))
 refine Bc h (fun h => ?_) fun h => ?_
 ·refine wq rfl (qm rfl (qe rfl ?_))
  obtain rfl := sj h
  refine Ah (sm [] [(4, iD v1)] [] rfl rfl) (Ar ?_)
  exact ⟨⟨[_], tm, rfl⟩, tv⟩
 ·refine Am (wq rfl (qL Cu BF rfl ?_))
  refine B7 h fun v3 a3 h => AA [2001] (Ii N p0 v3 a3) aW rfl (qa rfl (Ac (wp rfl (qm rfl (AO Bb rfl (qm rfl (Ac ?_)))))))
  refine AH (L := EF N p1 v3) h (fun v4 => mk [(6, oD (.own 2002)), (16, pD (.sl (p1.map Ad))), (17, iD ((p1.length : Int))), (18, iD v4)] [(2002, .vec 3 (v3.map Ad))]) (fun v5 => mk [] []) (fun _ _ => rfl) (sm [(2002, 2001)] _ _ rfl rfl) (fun j4 n4 v4 h => ?_) (fun v5 s h hs => ?_)
  ·unfold EF at h
   refine wq rfl (AV rfl (Ac (AQ ?_)))
   refine Bc h (fun h => ?_) fun h => ?_
   ·refine Am (AQ (AM (wq rfl ?_)))
    refine BK h fun v7 a7 b7 h => qi Bb CQ a7 (Ai b7) rfl (qK ID CQ rfl (qz GH rfl (qs CQ rfl (Ac (wq rfl (qm rfl (qL ID CQ rfl ?_)))))))
    refine B7 h fun v8 a8 h => Dt [] [2002] (Gy N v3 v7 v8 a8) ex BP rfl (CP rfl (Ac ?_))
    refine Bc h (fun h => ?_) fun h => ?_
    ·refine wq rfl (qe rfl ?_)
     obtain rfl := sj h
     refine Ah (sm [] [(4, iD 4)] [] rfl rfl) (Ar ?_)
     exact ⟨⟨[_], tm, rfl⟩, tv⟩
    ·refine Am (Aj Ay rfl (AZ rfl (qm rfl (Ac ?_))))
     exact sn [] h
   ·refine AT ?_
    exact sn [] h
  ·refine Ah hs (wq rfl (qe rfl ?_))
   obtain rfl := sj h
   refine Ah (sm [] [(4, iD 0)] [] rfl rfl) (Ar ?_)
   exact ⟨⟨[_], tm, rfl⟩, tv⟩
theorem Dk (N : Nat) (p0 : List Aa) (r : (List Aa)) (h : A2 N p0 = some r) : Au Tryz.prog 15 [pD (.sl (p0.map Ad))] [(3, r.map Ad)] (oD (.own 0)) := by
 unfold A2 at h
 refine cw (n := 8) (rs := [.tmp 2]) Tryz.func15 fun w0 S0 => ?_
 refine wq rfl (qa rfl (Ac (wp rfl (qm rfl ?_))))
 refine NB (.p rfl) rfl Bb ?_
 refine Ac ?_
 refine NQ rfl (fun c2 => ?_) ?_
 ·have c2 := List.map_eq_nil_iff.1 c2
  rw [c2] at h
  have h : (some (([] : List Aa))) = some r := h
  refine wq rfl (qe rfl ?_)
  obtain rfl := sj h
  refine Ah ((AY 2 2001 3 rfl rfl rfl).trans (sm [(1000, 2001)] [(2, oD (.own 1000))] [(1000, .vec 3 ((([] : List Aa)).map Ad))] rfl rfl)) (Ar ?_)
  exact ⟨⟨[_], tm, rfl⟩, ⟨rfl, tv⟩⟩
 ·refine Am (wq rfl (Eg Bb CQ GH rfl (qm rfl ?_)))
  refine FO h fun c1 h => GE (f := Ad) Bb Bb CQ Lp GH (fun _ => rfl) c1 rfl (qe rfl ?_)
  obtain rfl := sj h
  refine Ah (sm [(1000, 7)] [(2, oD (.own 1000))] [(1000, .vec 3 (((([] : List Aa)) ++ p0).map Ad))] rfl rfl) (Ar ?_)
  exact ⟨⟨[_], tm, rfl⟩, ⟨rfl, tv⟩⟩
def bR : Go.Shelf.Ren := ⟨fun | 6 => 38 | 14 => 70 | 15 => 71 | 20 => 97 | 21 => 98 | 22 => 99 | 23 => 100 | 24 => 101 | 25 => 102 | 26 => 103 | 27 => 104 | 28 => 105 | 29 => 106 | 46 => 132 | 47 => 133 | 48 => 134 | 49 => 135 | 50 => 136 | 57 => 153 | n => n, fun | 0 => 0 | 3 => 3 | 4 => 4 | 5 => 5 | 9 => 9 | 22 => 33 | 24 => 45 | 25 => 70 | 39 => 109 | 45 => 133 | 46 => 134 | 50 => 126 | 53 => 140 | 55 => 142 | 66 => 165 | 70 => 169 | 76 => 185 | 77 => 186 | n => n, fun n => n⟩
theorem cg : SlLaysF0.n6 Tryz.prog bR := { mixed := Ay, f6 := ⟨Tryz.f38.name, by decide, Tryz.func38.trans (congrArg some (by kernel_rfl))⟩, f14 := ⟨Tryz.f70.name, by decide, Tryz.func70.trans (congrArg some (by kernel_rfl))⟩, f15 := Tryz.func71.trans (congrArg some (by kernel_rfl)), f20 := ⟨Tryz.f97.name, by decide, Tryz.func97.trans (congrArg some (by kernel_rfl))⟩, f21 := ⟨Tryz.f98.name, by decide, Tryz.func98.trans (congrArg some (by kernel_rfl))⟩, f22 := ⟨Tryz.f99.name, by decide, Tryz.func99.trans (congrArg some (by kernel_rfl))⟩, f23 := ⟨Tryz.f100.name, by decide, Tryz.func100.trans (congrArg some (by kernel_rfl))⟩, f24 := ⟨Tryz.f101.name, by decide, Tryz.func101.trans (congrArg some (by kernel_rfl))⟩, f25 := ⟨Tryz.f102.name, by decide, Tryz.func102.trans (congrArg some (by kernel_rfl))⟩, f26 := ⟨Tryz.f103.name, by decide, Tryz.func103.trans (congrArg some (by kernel_rfl))⟩, f27 := ⟨Tryz.f104.name, by decide, Tryz.func104.trans (congrArg some (by kernel_rfl))⟩, f28 := Tryz.func105.trans (congrArg some (by kernel_rfl)), f29 := Tryz.func106.trans (congrArg some (by kernel_rfl)), f46 := ⟨Tryz.f132.name, by decide, Tryz.func132.trans (congrArg some (by kernel_rfl))⟩, f47 := Tryz.func133.trans (congrArg some (by kernel_rfl)), f48 := Tryz.func134.trans (congrArg some (by kernel_rfl)), f49 := ⟨Tryz.f135.name, by decide, Tryz.func135.trans (congrArg some (by kernel_rfl))⟩, f50 := ⟨Tryz.f136.name, by decide, Tryz.func136.trans (congrArg some (by kernel_rfl))⟩, f57 := ⟨Tryz.f153.name, by decide, Tryz.func153.trans (congrArg some (by kernel_rfl))⟩, t0 := Tryz.underlying0, a0 := Tryz.isAgg0, z0 := Tryz.sizeOf0, v0 := Tryz.zeroValue0, t3 := Tryz.underlying3, a3 := Tryz.isAgg3, z3 := Tryz.sizeOf3, v3 := Tryz.zeroValue3, t4 := Tryz.underlying4, a4 := Tryz.isAgg4, z4 := Tryz.sizeOf4, v4 := Tryz.zeroValue4, t5 := Tryz.underlying5, a5 := Tryz.isAgg5, z5 := Tryz.sizeOf5, v5 := Tryz.zeroValue5, t9 := Tryz.underlying9, a9 := Tryz.isAgg9, z9 := Tryz.sizeOf9, v9 := Tryz.zeroValue9, t22 := Tryz.underlying33, a22 := Tryz.isAgg33, z22 := Tryz.sizeOf33, v22 := Tryz.zeroValue33, t25 := Tryz.underlying70, a25 := Tryz.isAgg70, z25 := Tryz.sizeOf70, v25 := Tryz.zeroValue70, t39 := Tryz.underlying109, a39 := Tryz.isAgg109, z39 := Tryz.sizeOf109, v39 := Tryz.zeroValue109, t45 := Tryz.underlying133, a45 := Tryz.isAgg133, z45 := Tryz.sizeOf133, v45 := Tryz.zeroValue133, t46 := Tryz.underlying134, a46 := Tryz.isAgg134, z46 := Tryz.sizeOf134, v46 := Tryz.zeroValue134, t50 := Tryz.underlying126, a50 := Tryz.isAgg126, z50 := Tryz.sizeOf126, v50 := Tryz.zeroValue126, t53 := Tryz.underlying140, a53 := Tryz.isAgg140, z53 := Tryz.sizeOf140, v53 := Tryz.zeroValue140, t55 := Tryz.underlying142, a55 := Tryz.isAgg142, z55 := Tryz.sizeOf142, v55 := Tryz.zeroValue142, t66 := Tryz.underlying165, a66 := Tryz.isAgg165, z66 := Tryz.sizeOf165, v66 := Tryz.zeroValue165, t70 := Tryz.underlying169, a70 := Tryz.isAgg169, z70 := Tryz.sizeOf169, v70 := Tryz.zeroValue169, t76 := Tryz.underlying185, a76 := Tryz.isAgg185, z76 := Tryz.sizeOf185, v76 := Tryz.zeroValue185, t77 := Tryz.underlying186, a77 := Tryz.isAgg186, z77 := Tryz.sizeOf186, v77 := Tryz.zeroValue186 }
theorem Gw (N : Nat) (p0 : List Aa) (p1 : (Aa × Aa) → Option Int) (r : (List Aa)) (h : CX N p0 p1 = some r) : D1 Tryz.prog 38 [oD (.own 90000), oD (.clo (JG (cy true Ad true Ad) PD p1))] [(.vec 3 (p0.map Ad), .vec 3 (r.map Ad))] [] (.tup []) := ZC cg 3 (Iw ID) (D8 CQ) P5 (@Oj) h
theorem Lg (N : Nat) (p0 : Int) (r : Bool) (h : Gu N p0 = some r) : Au Tryz.prog 107 [iD p0] [] (bD r) := by
 unfold Gu at h
 refine cw (n := 6) (rs := [.tmp 2]) Tryz.func107 fun w0 S0 => ?_
 refine wq rfl (qa rfl (Ac (wq rfl (qw 2 rfl (BS rfl (qe rfl ?_))))))
 obtain rfl := sj h
 refine Ah (sm [] [(2, bD ((p0 != p0)))] [] rfl rfl) (Ar ?_)
 exact ⟨⟨[_], tm, rfl⟩, tv⟩
theorem Ip (N : Nat) (p0 : Int) (p1 : Int) (r : Int) (h : Ea N p0 p1 = some r) : Au Tryz.prog 73 [iD p0, iD p1] [] (iD r) := by
 unfold Ea at h
 refine cw (n := 20) (rs := [.tmp 4]) Tryz.func73 fun w0 S0 => ?_
 refine wq rfl (qa rfl (Ac (wq rfl (qm rfl ?_))))
 refine B7 h fun v1 a1 h => AA [] (Lg N p0 v1 a1) aI rfl (qa rfl (Ac (wq rfl (qm rfl ?_))))
 refine B7 h fun v2 a2 h => AA [] (Lg N p1 v2 a2) aI rfl (qa rfl (Ac (wp rfl (qm rfl (Ac ?_)))))
 refine Bc h (fun h => ?_) fun h => ?_
 ·refine wp rfl (qm rfl (Ac ?_))
  refine Bc h (fun h => ?_) fun h => ?_
  ·refine wq rfl (qe rfl ?_)
   obtain rfl := sj h
   refine Ah (sm [] [(4, iD 0)] [] rfl rfl) (Ar ?_)
   exact ⟨⟨[_], tm, rfl⟩, tv⟩
  ·refine Am (wq rfl (qe rfl ?_))
   obtain rfl := sj h
   refine Ah (sm [] [(4, iD ((-1)))] [] rfl rfl) (Ar ?_)
   exact ⟨⟨[_], tm, rfl⟩, tv⟩
 ·refine Am (wp rfl (qm rfl (Ac ?_)))
  refine Bc h (fun h => ?_) fun h => ?_
  ·refine wq rfl (qe rfl ?_)
   obtain rfl := sj h
   refine Ah (sm [] [(4, iD 1)] [] rfl rfl) (Ar ?_)
   exact ⟨⟨[_], tm, rfl⟩, tv⟩
  ·refine Am (wp rfl (qw 2 rfl (AV rfl (Ac ?_))))
   refine Bc h (fun h => ?_) fun h => ?_
   ·refine wq rfl (qe rfl ?_)
    obtain rfl := sj h
    refine Ah (sm [] [(4, iD ((-1)))] [] rfl rfl) (Ar ?_)
    exact ⟨⟨[_], tm, rfl⟩, tv⟩
   ·refine Am (wp rfl (qw 2 rfl (Gf rfl (Ac ?_))))
    refine Bc h (fun h => ?_) fun h => ?_
    ·refine wq rfl (qe rfl ?_)
     obtain rfl := sj h
     refine Ah (sm [] [(4, iD 1)] [] rfl rfl) (Ar ?_)
     exact ⟨⟨[_], tm, rfl⟩, tv⟩
    ·refine Am (wq rfl (qe rfl ?_))
     obtain rfl := sj h
     refine Ah (sm [] [(4, iD 0)] [] rfl rfl) (Ar ?_)
     exact ⟨⟨[_], tm, rfl⟩, tv⟩
theorem SF (N : Nat) (p0 : List Int) (r : Int) (h : Hx N p0 = some r) : Au Tryz.prog 72 [pD (.sl (p0.map Aq))] [] (iD r) := by
 unfold Hx at h
 refine cw (n := 18) (rs := [.tmp 2]) Tryz.func72 fun w0 S0 => ?_
 refine wq rfl (qa rfl (Ac (wq rfl (qa rfl (Ac (wp rfl (qm rfl (AO AC rfl (qm rfl (Ac ?_))))))))))
 refine AH (L := FI N p0) h (fun v1 => mk [(3, iD 0), (6, pD (.sl (p0.map Aq))), (7, iD ((p0.length : Int))), (8, iD v1)] []) (fun v2 => mk [(3, iD 0)] []) (fun _ _ => rfl) (sm [] _ _ rfl rfl) (fun j1 n1 v1 h => ?_) (fun v2 s h hs => ?_)
 ·unfold FI at h
  refine wq rfl (AV rfl (Ac (AQ ?_)))
  refine Bc h (fun h => ?_) fun h => ?_
  ·refine Am (AQ (AM (wq rfl ?_)))
   refine BK h fun v4 a4 b4 h => qi AC DH a4 (Ai b4) rfl (qk Cn rfl (qa rfl (Ac (wq rfl (qw 2 rfl (BS rfl (Ac ?_)))))))
   refine Bc h (fun h => ?_) fun h => ?_
   ·refine wq rfl (qm rfl (qe rfl ?_))
    obtain rfl := sj h
    refine Ah (sm [] [(2, iD v4)] [] rfl rfl) (Ar ?_)
    exact ⟨⟨[_], tm, rfl⟩, tv⟩
   ·refine Am (Aj Ay rfl (AZ rfl (qm rfl (Ac ?_))))
    exact sn [] h
  ·refine AT ?_
   exact sn [] h
 ·refine Ah hs (wq rfl (qm rfl (qe rfl ?_)))
  obtain rfl := sj h
  refine Ah (sm [] [(2, iD 0)] [] rfl rfl) (Ar ?_)
  exact ⟨⟨[_], tm, rfl⟩, tv⟩
theorem N0 (N : Nat) (p0 : Aa) (p1 : Aa) (r : Int) (h : DD N p0 p1 = some r) : Au Tryz.prog 39 [.e (.agg (E8 p0)), .e (.agg (E8 p1))] [] (iD r) := by
 unfold DD at h
 refine cw (n := 22) (rs := [.tmp 4]) Tryz.func39 fun w0 S0 => ?_
 refine wq rfl (qb rfl (qb rfl (qa rfl (Ac (wq rfl (qf RZ rfl (ql Cn rfl (qf RZ rfl (ql Cn rfl ?_)))))))))
 refine B7 h fun v1 a1 h => AA [] (Ip N p0.fW p1.fW v1 a1) bu rfl (qf S4 rfl (ql Cn rfl (qf S4 rfl (ql Cn rfl ?_))))
 refine B7 h fun v2 a2 h => AA [] (Ip N p0.fV p1.fV v2 a2) bu rfl (qf Sc rfl (ql Cn rfl (qf Sc rfl (ql Cn rfl ?_))))
 refine B7 h fun v3 a3 h => AA [] (Ip N p0.fX p1.fX v3 a3) bu rfl (Eg AC DH KV rfl ?_)
 refine B7 h fun v4 a4 h => Dt [] [20] (SF N (([v1, v2, v3] : List Int)) v4 a4) eY BP rfl (qa rfl (AP (by kernel_rfl) ?_))
 obtain rfl := sj h
 refine Ah (sm [] [(4, iD v4)] [] rfl rfl) (Ar ?_)
 exact ⟨⟨[_], tm, rfl⟩, tv⟩
theorem GG (N : Nat) (p0 : List Aa) (r : Nat × (List Aa)) (h : B3 N p0 = some r) : D1 Tryz.prog 40 [oD (.own 90000)] [(.vec 3 (p0.map Ad), .vec 3 (r.2.map Ad))] [] (oD (.view 90000 3 0 r.1)) := by
 unfold B3 at h
 refine Fb (n := 61) (rs := [.tmp 2]) Tryz.func40 rfl rfl rfl (Hn rfl) (Hn rfl) rfl rfl (Hn rfl) rfl (Hn rfl) fun w0 S0 GL => ?_
 refine Ah (sm [] [(0, oD (.own 90000))] [(90000, .vec 3 (p0.map Ad))] rfl rfl) (wq rfl (qa rfl (Ac (wp rfl (qm rfl (Dm Bb rfl (AV rfl (Ac ?_))))))))
 refine Bc h (fun h => ?_) fun h => ?_
 ·refine wq rfl (qm rfl (qe rfl ?_))
  obtain rfl := sj h
  refine Ah ((Pi Ad p0 2 90000 3 rfl rfl).trans (sm [] [(2, oD (.view 90000 3 0 p0.length))] [(90000, .vec 3 (p0.map Ad))] rfl rfl)) (Ar ?_)
  exact ⟨⟨[_], tm, rfl⟩, ⟨rfl, tv⟩, tv⟩
 ·refine Am (wp rfl (qe rfl ?_))
  refine AH (L := BM N p0) h (fun v2 => mk [(0, oD (.own 90000)), (3, iD v2)] [(90000, .vec 3 (p0.map Ad))]) (fun v3 => mk [(0, oD (.own 90000))] [(90000, .vec 3 (p0.map Ad))]) (fun _ _ => rfl) (sm [] _ _ rfl rfl) (fun j2 n2 v2 h => ?_) (fun v3 s h hs => ?_)
  ·unfold BM at h
   refine wp rfl (qw 2 rfl (Dm Bb rfl (AV rfl (Ac ?_))))
   refine Bc h (fun h => ?_) fun h => ?_
   ·refine Am (AQ (AM (wq rfl (qw 2 rfl ?_))))
    refine BK h fun v5 a5 b5 h => qI Bb CQ a5 (Ai b5) rfl (qJ ID CQ (Ai b5) rfl (qw 2 rfl (O3 rfl ?_)))
    refine BK h fun v6 a6 b6 h => qI Bb CQ a6 (Ai b6) rfl (qJ ID CQ (Ai b6) rfl ?_)
    refine Um [.int .i64 v5.fW, .int .i64 v5.fV, .int .i64 v5.fX] [.int .i64 v6.fW, .int .i64 v6.fV, .int .i64 v6.fX] (.p rfl) rfl rfl Re rfl ?_
    refine AP (by kernel_rfl) ?_
    refine Bc h (fun h => ?_) fun h => ?_
    ·refine wq rfl (qw 2 rfl ?_)
     obtain ⟨c8, h⟩ := Fy h
     have w9 : ((v2).toNat) + ((p0.length - (v2).toNat)) ≤ p0.length := by have := c8.2.1; have := c8.2.2; omega
     refine HJ Ad p0 (.p rfl) rfl (HD Ad _ _ p0) rfl Bb CQ (.some _ _ _ _ c8.1) (.none _) ⟨rfl, tv⟩ tv c8.2.1 (by rw [Nat.zero_add]; exact c8.2.2) (Nat.zero_add _) rfl ?_
     refine qa rfl (Ac (wp rfl (qe rfl ?_)))
     refine AH (L := BH N p0 v2) h (fun v10 => mk [(0, oD (.own 90000)), (3, iD v10.2.1), (4, oD (.view 90000 3 ((v2).toNat) ((p0.length - (v2).toNat)))), (5, iD v10.2.2)] [(90000, .vec 3 (v10.1.map Ad))]) (fun v11 => mk [(0, oD (.own 90000)), (3, iD v11.2)] [(90000, .vec 3 (v11.1.map Ad))]) (fun _ _ => rfl) (sm [] _ _ rfl rfl) (fun j10 n10 v10 h => ?_) (fun v11 s h hs => ?_)
     ·unfold BH at h
      refine wp rfl (qw 2 rfl ?_)
      refine Wz (.p rfl) rfl Bb ?_
      refine AV rfl (Ac ?_)
      refine Bc h (fun h => ?_) fun h => ?_
      ·refine Am ?_
       refine AS h (fun v13 => mk [(0, oD (.own 90000)), (3, iD v13.2), (4, oD (.view 90000 3 ((v2).toNat) ((p0.length - (v2).toNat)))), (5, iD v10.2.2)] [(90000, .vec 3 (v13.1.map Ad))]) (fun j13 h => ?_) (fun v13 h => ?_)
       ·refine AM (wq rfl (qw 2 rfl ?_))
        refine FO h fun c15 h => BK h fun v14 a14 b14 h => Oa Ad v10.1 (.p rfl) rfl c15 rfl rfl Bb CQ a14 (KA b14).1 rfl ?_
        refine Nl (.p rfl) rfl ID CQ rfl (Ai (KA b14).2) ?_
        refine qw 2 rfl (O3 rfl ?_)
        refine BK h fun v16 a16 b16 h => Oa Ad v10.1 (.p rfl) rfl c15 rfl rfl Bb CQ a16 (KA b16).1 rfl ?_
        refine Nl (.p rfl) rfl ID CQ rfl (Ai (KA b16).2) ?_
        refine di [.int .i64 v14.fW, .int .i64 v14.fV, .int .i64 v14.fX] [.int .i64 v16.fW, .int .i64 v16.fV, .int .i64 v16.fX] (.p rfl) rfl rfl Re rfl ?_
        refine AP (by kernel_rfl) ?_
        refine Bc h (fun h => ?_) fun h => ?_
        ·refine wq rfl (qw 4 rfl ?_)
         refine BK h fun v18 a18 b18 h => Oa Ad v10.1 (.p rfl) rfl c15 rfl rfl Bb CQ a18 (KA b18).1 rfl ?_
         refine Nl (.p rfl) rfl ID CQ rfl (Ai (KA b18).2) ?_
         refine BK h fun v19 a19 b19 h => qI Bb CQ a19 (Ai b19) rfl ?_
         refine D4 rfl rfl rfl rfl (Ai b19) rfl CQ rfl (Hn rfl) (C8 Ad v10.1 _ v18) ?_
         refine Ac (Aj Ay rfl (qm rfl (AZ rfl (qe rfl ?_))))
         exact sn [] h
        ·refine Am ?_
         exact sn [] h
       ·refine Aj Ay rfl (qm rfl (AZ rfl (qe rfl ?_)))
        exact sn [] h
      ·refine AT ?_
       exact sn [] h
     ·refine Ah hs (wq rfl (qw 2 rfl ?_))
      obtain ⟨c20, h⟩ := Fy h
      have w21 : ((v11.2).toNat) + ((v11.1.length - (v11.2).toNat)) ≤ v11.1.length := by have := c20.2.1; have := c20.2.2; omega
      refine HJ Ad v11.1 (.p rfl) rfl (HD Ad _ _ v11.1) rfl Bb CQ (.some _ _ _ _ c20.1) (.none _) ⟨rfl, tv⟩ tv c20.2.1 (by rw [Nat.zero_add]; exact c20.2.2) (Nat.zero_add _) rfl ?_
      have w22 : (Gx v11.1 ((v11.2).toNat) (List.replicate ((v11.1.length - (v11.2).toNat)) ((Aa.mk 0 0 0)))).length = v11.1.length := GI (by rw [List.length_replicate]; exact w21)
      refine Pw Ad v11.1 ((Aa.mk 0 0 0)) rfl rfl (Ju Ad _ _ ((v11.2).toNat) ((v11.1.length - (v11.2).toNat)) v11.1 w21) rfl Bb GH rfl rfl rfl rfl ?_
      refine Ac (wq rfl (qw 2 rfl ?_))
      obtain ⟨c23, h⟩ := Fy h
      have w24 : 0 + ((v11.2).toNat) ≤ (Gx v11.1 ((v11.2).toNat) (List.replicate ((v11.1.length - (v11.2).toNat)) ((Aa.mk 0 0 0)))).length := by have := c23.2.1; have := c23.2.2; omega
      refine HJ Ad (Gx v11.1 ((v11.2).toNat) (List.replicate ((v11.1.length - (v11.2).toNat)) ((Aa.mk 0 0 0)))) (.p rfl) rfl (HD Ad _ _ (Gx v11.1 ((v11.2).toNat) (List.replicate ((v11.1.length - (v11.2).toNat)) ((Aa.mk 0 0 0))))) rfl Bb CQ (.none _) (.some _ _ _ _ c23.1) tv ⟨rfl, tv⟩ c23.2.1 (by rw [Nat.zero_add]; exact c23.2.2) (Nat.zero_add _) rfl ?_
      refine qa rfl (Ac ?_)
      obtain rfl := sj h
      refine Ah (sm [] [(2, oD (.view 90000 3 0 ((v11.2).toNat)))] [(90000, .vec 3 ((Gx v11.1 ((v11.2).toNat) (List.replicate ((v11.1.length - (v11.2).toNat)) ((Aa.mk 0 0 0)))).map Ad))] rfl rfl) (Ar ?_)
      exact ⟨⟨[_], tm, rfl⟩, ⟨rfl, tv⟩, tv⟩
    ·refine Am (Aj Ay rfl (qm rfl (AZ rfl (qe rfl ?_))))
     exact sn [] h
   ·refine AT ?_
    exact sn [] h
  ·refine Ah hs (wq rfl (qm rfl (qe rfl ?_)))
   obtain rfl := sj h
   refine Ah ((Pi Ad p0 2 90000 3 rfl rfl).trans (sm [] [(2, oD (.view 90000 3 0 p0.length))] [(90000, .vec 3 (p0.map Ad))] rfl rfl)) (Ar ?_)
   exact ⟨⟨[_], tm, rfl⟩, ⟨rfl, tv⟩, tv⟩
theorem GN (N : Nat) (p0 : List Aa) (p1 : Int) (p2 : Int) (r : Nat × (List Aa)) (h : Bx N p0 p1 p2 = some r) : D1 Tryz.prog 25 [oD (.own 90000), iD p1, iD p2] [(.vec 3 (p0.map Ad), .vec 3 (r.2.map Ad))] [] (oD (.view 90000 3 0 r.1)) := by
 unfold Bx at h
 refine Fb (n := 33) (rs := [.tmp 6]) Tryz.func25 rfl rfl rfl (Hn rfl) (Hn rfl) rfl rfl (Hn rfl) rfl (Hn rfl) fun w0 S0 GL => ?_
 refine Ah (sm [] [(0, oD (.own 90000)), (1, iD p1), (2, iD p2)] [(90000, .vec 3 (p0.map Ad))] rfl rfl) (wq rfl (qa rfl (Ac (wq rfl (qw 4 rfl (Dm Bb rfl ?_))))))
 refine FO h fun c1 h => X7 (.p rfl) rfl rfl Bb CQ rfl rfl rfl c1.1 c1.2.1 c1.2.2.1 c1.2.2.2.1 c1.2.2.2.2.1 (by rw [List.length_map]; exact c1.2.2.2.2.2) ?_
 refine Ac (wp rfl (qw 2 rfl (B6 rfl (Ac ?_))))
 refine Bc h (fun h => ?_) fun h => ?_
 ·refine wq rfl (qm rfl (qe rfl ?_))
  obtain rfl := sj h
  refine Ah ((Pi Ad p0 6 90000 3 rfl rfl).trans (sm [] [(6, oD (.view 90000 3 0 p0.length))] [(90000, .vec 3 (p0.map Ad))] rfl rfl)) (Ar ?_)
  exact ⟨⟨[_], tm, rfl⟩, ⟨rfl, tv⟩, tv⟩
 ·refine Am (wq rfl (qm rfl (Dm Bb rfl (qa rfl (Ac (wq rfl (qw 2 rfl ?_)))))))
  obtain ⟨c3, h⟩ := Fy h
  have w4 : 0 + ((p1).toNat) ≤ p0.length := by have := c3.2.1; have := c3.2.2; omega
  refine HJ Ad p0 (.p rfl) rfl (HD Ad _ _ p0) rfl Bb CQ (.none _) (.some _ _ _ _ c3.1) tv ⟨rfl, tv⟩ c3.2.1 (by rw [Nat.zero_add]; exact c3.2.2) (Nat.zero_add _) rfl ?_
  refine qw 2 rfl ?_
  obtain ⟨c5, h⟩ := Fy h
  have w6 : ((p2).toNat) + ((p0.length - (p2).toNat)) ≤ p0.length := by have := c5.2.1; have := c5.2.2; omega
  refine HJ Ad p0 (.p rfl) rfl (HD Ad _ _ p0) rfl Bb CQ (.some _ _ _ _ c5.1) (.none _) ⟨rfl, tv⟩ tv c5.2.1 (by rw [Nat.zero_add]; exact c5.2.2) (Nat.zero_add _) rfl ?_
  obtain ⟨c7, h⟩ := Fy h
  have w9f : 0 + ((p1).toNat) + (((p0.drop ((p2).toNat)).take ((p0.length - (p2).toNat)))).length ≤ p0.length := by have := c7; omega
  have w8 : (Gx p0 (0 + ((p1).toNat)) (((p0.drop ((p2).toNat)).take ((p0.length - (p2).toNat))))).length = p0.length := GI w9f
  have w9 : 0 + ((p1).toNat + (((p0.drop ((p2).toNat)).take ((p0.length - (p2).toNat)))).length) ≤ (Gx p0 (0 + ((p1).toNat)) (((p0.drop ((p2).toNat)).take ((p0.length - (p2).toNat))))).length := by rw [w8]; have := c7; omega
  refine Vo Ad p0 (((p0.drop ((p2).toNat)).take ((p0.length - (p2).toNat)))) (.p rfl) rfl (Ju Ad _ _ 0 ((p1).toNat) p0 w4) rfl rfl (Rj Ad _ _ ((p2).toNat) ((p0.length - (p2).toNat)) p0 w6) ⟨rfl, tv⟩ Bb Bb CQ w9f rfl ?_
  refine qa rfl (AP (by kernel_rfl) (wq rfl (qw 2 rfl ?_)))
  refine Wz (.p rfl) rfl Bb ?_
  refine qm rfl ?_
  obtain ⟨c10, h⟩ := Fy h
  have w11 : (((((((p1).toNat + (((p0.drop ((p2).toNat)).take ((p0.length - (p2).toNat)))).length)) : Nat) : Int)).toNat) + ((((p0.length : Int)).toNat - ((((((p1).toNat + (((p0.drop ((p2).toNat)).take ((p0.length - (p2).toNat)))).length)) : Nat) : Int)).toNat)) ≤ (Gx p0 (0 + ((p1).toNat)) (((p0.drop ((p2).toNat)).take ((p0.length - (p2).toNat))))).length := by have := c10.2.2.1; have := c10.2.2.2; omega
  refine HJ Ad (Gx p0 (0 + ((p1).toNat)) (((p0.drop ((p2).toNat)).take ((p0.length - (p2).toNat))))) (.p rfl) rfl (Ju Ad _ _ 0 (((p1).toNat + (((p0.drop ((p2).toNat)).take ((p0.length - (p2).toNat)))).length)) (Gx p0 (0 + ((p1).toNat)) (((p0.drop ((p2).toNat)).take ((p0.length - (p2).toNat))))) w9) rfl Bb CQ (.some _ _ _ _ c10.1) (.some _ _ _ _ c10.2.1) ⟨rfl, tv⟩ ⟨rfl, tv⟩ c10.2.2.1 (by rw [Nat.zero_add]; exact c10.2.2.2) (Nat.zero_add _) rfl ?_
  have w12 : (Gx (Gx p0 (0 + ((p1).toNat)) (((p0.drop ((p2).toNat)).take ((p0.length - (p2).toNat))))) (((((((p1).toNat + (((p0.drop ((p2).toNat)).take ((p0.length - (p2).toNat)))).length)) : Nat) : Int)).toNat) (List.replicate ((((p0.length : Int)).toNat - ((((((p1).toNat + (((p0.drop ((p2).toNat)).take ((p0.length - (p2).toNat)))).length)) : Nat) : Int)).toNat)) ((Aa.mk 0 0 0)))).length = (Gx p0 (0 + ((p1).toNat)) (((p0.drop ((p2).toNat)).take ((p0.length - (p2).toNat))))).length := GI (by rw [List.length_replicate]; exact w11)
  refine Pw Ad (Gx p0 (0 + ((p1).toNat)) (((p0.drop ((p2).toNat)).take ((p0.length - (p2).toNat))))) ((Aa.mk 0 0 0)) rfl rfl (Ju Ad _ _ (((((((p1).toNat + (((p0.drop ((p2).toNat)).take ((p0.length - (p2).toNat)))).length)) : Nat) : Int)).toNat) ((((p0.length : Int)).toNat - ((((((p1).toNat + (((p0.drop ((p2).toNat)).take ((p0.length - (p2).toNat)))).length)) : Nat) : Int)).toNat)) (Gx p0 (0 + ((p1).toNat)) (((p0.drop ((p2).toNat)).take ((p0.length - (p2).toNat))))) w11) rfl Bb GH rfl rfl rfl rfl ?_
  refine Ac (wq rfl (qm rfl (qe rfl ?_)))
  obtain rfl := sj h
  refine Ah (sm [] [(6, oD (.view 90000 3 0 (((p1).toNat + (((p0.drop ((p2).toNat)).take ((p0.length - (p2).toNat)))).length))))] [(90000, .vec 3 ((Gx (Gx p0 (0 + ((p1).toNat)) (((p0.drop ((p2).toNat)).take ((p0.length - (p2).toNat))))) (((((((p1).toNat + (((p0.drop ((p2).toNat)).take ((p0.length - (p2).toNat)))).length)) : Nat) : Int)).toNat) (List.replicate ((((p0.length : Int)).toNat - ((((((p1).toNat + (((p0.drop ((p2).toNat)).take ((p0.length - (p2).toNat)))).length)) : Nat) : Int)).toNat)) ((Aa.mk 0 0 0)))).map Ad))] rfl rfl) (Ar ?_)
  exact ⟨⟨[_], tm, rfl⟩, ⟨rfl, tv⟩, tv⟩
theorem Is (N : Nat) (p0 : Ab) (p1 : List Aa) (r : Bool × Int) (h : Ee N p0 p1 = some r) : Au Tryz.prog 14 [.e (.agg (Ag p0)), pD (.sl (p1.map Ad))] [] (.tup [.one (.pure (.val (.bool r.1))), .one (iC r.2)]) := by
 unfold Ee at h
 refine cw (n := 69) (rs := [.tmp 4, .tmp 5]) Tryz.func14 fun w0 S0 => ?_
 refine wq rfl (qb rfl (qa rfl (qa rfl (Ac (wp rfl (qL Cu BF rfl (qm rfl ?_)))))))
 refine B7 h fun v1 a1 h => AA [] (O8 N p0 p1 v1 a1) eI rfl (qa rfl (Ac (wq rfl (qm rfl (BS rfl (Ac ?_))))))
 refine Bc h (fun h => ?_) fun h => ?_
 ·refine wq rfl (qm rfl (qa rfl (qe rfl ?_)))
  obtain rfl := sj h
  refine Ah (sm [] [(4, bD false), (5, iD v1)] [] rfl rfl) (Ar ?_)
  exact ⟨⟨[_, _], ⟨.tmp _ _ rfl, tm⟩, rfl⟩, tv⟩
 ·refine Am (wq rfl (qm rfl ?_))
  refine B7 h fun v3 a3 h => AA [2001] (Dk N p1 v3 a3) bC rfl (qa rfl (Ac (wq rfl (qm rfl ?_))))
  refine B7 h fun v4 a4 h => Ji (ds0 := [_, _]) [2001] [] [true] (D1.weak (ds' := [_, oD (.fnc 39)]) (Gw N v3 ((fun (x : Aa × Aa) => DD N x.1 x.2)) v4 a4) ⟨(fun _ _ _ hh => hh), (fun _ _ _ hh => YP fi (fun ar t ht => by obtain ⟨x, r, rfl, hq, rfl⟩ := KE ht; exact N0 N x.1 x.2 r hq) hh), tv⟩) (.p rfl) eD rfl ⟨rfl, rfl, tv⟩ rfl rfl (by decide) ⟨rfl, tv⟩ rfl (FD rfl) tv ⟨(fun h => by cases h), tv⟩ rfl rfl rfl ?_
  refine Ac (wq rfl (qm rfl ?_))
  obtain ⟨v5, a5, h⟩ := bind_some h
  obtain ⟨c6, h⟩ := Fy h
  have w7 : 0 + v5.1 ≤ v5.2.length := by rw [Nat.zero_add]; exact c6
  refine Ji (ds0 := [_]) [2001] [] [true] (GG N v4 v5 a5) (.p rfl) eT rfl ⟨rfl, tv⟩ rfl rfl (by decide) ⟨rfl, tv⟩ rfl (FD rfl) tv ⟨(fun h => by cases h), tv⟩ rfl rfl rfl ?_
  refine Ev (YS Ad v5.2 24 2001 2002 3 v5.1 rfl rfl rfl rfl rfl c6) (qa rfl (Ac (AQ ?_)))
  refine AS h (fun v8 => mk [(2, oD (.ptr 2 0)), (7, oD (.own 2003)), (33, bD v8)] [(2, .box (Ag p0)), (2003, .vec 3 ((v5.2.take v5.1).map Ad))]) (fun j8 h => ?_) (fun v8 h => ?_)
  ·refine Aj Ay rfl (qL Cu BF rfl ?_)
   refine B7 h fun v9 a9 h => AA [2004] (Ii N p0 v9 a9) aW rfl (Dm Bb rfl (Gf rfl (qm rfl ?_)))
   refine EO 29 h rfl (fun h => ?_) fun h => ?_
   ·refine qw 3 rfl (qp rfl (Ac ?_))
    exact sn [(2003, 2002)] h
   ·refine qm rfl (Dm Bb rfl (Gf rfl (qp rfl (Ac ?_))))
    exact sn [(2003, 2002)] h
  ·refine Bc h (fun h => ?_) fun h => ?_
   ·refine wq rfl (qa rfl (qe rfl ?_))
    obtain rfl := sj h
    refine Ah (sm [] [(4, bD false), (5, iD 3)] [] rfl rfl) (Ar ?_)
    exact ⟨⟨[_, _], ⟨.tmp _ _ rfl, tm⟩, rfl⟩, tv⟩
   ·refine Am (wq rfl (qL Cu BF rfl (qm rfl ?_)))
    refine B7 h fun v12 a12 h => Dt [] [2003] (H9 N p0 (v5.2.take v5.1) v12 a12) bm BP rfl (qm rfl (qx rfl (qx rfl (qa rfl (qa rfl (Ac (wp rfl (qm rfl (BS rfl (Ac ?_))))))))))
    refine Bc h (fun h => ?_) fun h => ?_
    ·refine wq rfl (qm rfl (qa rfl (qe rfl ?_)))
     obtain rfl := sj h
     refine Ah (sm [] [(4, bD false), (5, iD v12.2)] [] rfl rfl) (Ar ?_)
     exact ⟨⟨[_, _], ⟨.tmp _ _ rfl, tm⟩, rfl⟩, tv⟩
    ·refine Am (wp rfl (qm rfl (Dm Bb rfl (qm rfl (Ac ?_)))))
     refine AH (L := DP N p0 v5) h (fun v14 => mk [(2, oD (.ptr 2 0)), (7, oD (.own 2005)), (8, bD v14.1), (44, iD (((v5.2.take v5.1).length : Int))), (45, iD v14.2)] [(2, .box (Ag p0)), (2005, .vec 3 ((v5.2.take v5.1).map Ad))]) (fun v15 => mk [(8, bD v15)] []) (fun _ _ => rfl) (sm [(2005, 2003)] _ _ rfl rfl) (fun j14 n14 v14 h => ?_) (fun v15 s h hs => ?_)
     ·unfold DP at h
      refine wq rfl (AV rfl (Ac (AQ ?_)))
      refine Bc h (fun h => ?_) fun h => ?_
      ·refine Am ?_
       refine AS h (fun v17 => mk [(2, oD (.ptr 2 0)), (7, oD (.own 2006)), (8, bD v17), (44, iD (((v5.2.take v5.1).length : Int))), (45, iD v14.2)] [(2, .box (Ag p0)), (2006, .vec 3 ((v5.2.take v5.1).map Ad))]) (fun j17 h => ?_) (fun v17 h => ?_)
       ·refine AM (wq rfl (qm rfl (qa rfl (Ac (wq rfl (qL Cu BF rfl (qm rfl ?_)))))))
        refine B7 h fun v18 a18 h => Dt [2007] [2005] (Dk N (v5.2.take v5.1) v18 a18) bC (Hd (fun _ => rfl) BP) rfl (qw 2 rfl (AZ rfl ?_))
        obtain ⟨v19, a19, h⟩ := bind_some h
        obtain ⟨c20, h⟩ := Fy h
        have w21 : 0 + v19.1 ≤ v19.2.length := by rw [Nat.zero_add]; exact c20
        refine Ji (ds0 := [_, _, _]) [2007] [] [true] (GN N v18 v14.2 ((wI .i64 (v14.2 + 1))) v19 a19) (.p rfl) ew rfl ⟨rfl, rfl, rfl, tv⟩ rfl rfl (by decide) ⟨rfl, tv⟩ rfl (FD rfl) tv ⟨(fun h => by cases h), tv⟩ rfl rfl rfl ?_
        refine B7 h fun v22 a22 h => Wy (ds0 := [_, _]) [] [(2007, _)] (H9 N p0 (((v19.2.drop 0).take v19.1)) v22 a22) (.p rfl) bm rfl ⟨rfl, rfl, tv⟩ ⟨rfl, tv⟩ (Y4 (Y6 w21 rfl rfl)) rfl rfl (FD rfl) tv rfl BP rfl ?_
        refine qm rfl (qx rfl (qx rfl (qa rfl (qa rfl (AP (by kernel_rfl) (wp rfl (qm rfl (BS rfl (Ac ?_)))))))))
        refine Bc h (fun h => ?_) fun h => ?_
        ·refine wq rfl (qm rfl (qa rfl (qe rfl ?_)))
         obtain rfl := sj h
         refine Ah (sm [] [(4, bD false), (5, iD v22.2)] [] rfl rfl) (Ar ?_)
         exact ⟨⟨[_, _], ⟨.tmp _ _ rfl, tm⟩, rfl⟩, tv⟩
        ·refine Am (Aj Ay rfl (qw 2 rfl ?_))
         refine EO 63 h rfl (fun h => ?_) fun h => ?_
         ·refine qm rfl (CP rfl (qp rfl (qe rfl ?_)))
          exact sn [(2006, 2005)] h
         ·refine qw 2 rfl (qp rfl (qe rfl ?_))
          exact sn [(2006, 2005)] h
       ·refine Aj Ay rfl (AZ rfl (qm rfl (Ac ?_)))
        exact sn [(2005, 2006)] h
      ·refine AT ?_
       exact sn [] h
     ·refine Ah hs (wq rfl (qm rfl (qa rfl (qe rfl ?_))))
      obtain rfl := sj h
      refine Ah (sm [] [(4, bD v15), (5, iD 0)] [] rfl rfl) (Ar ?_)
      exact ⟨⟨[_, _], ⟨.tmp _ _ rfl, tm⟩, rfl⟩, tv⟩
theorem Lf (N : Nat) (p0 : Ab) (r : (List Aa) × Int) (h : FF N p0 = some r) : Au Tryz.prog 12 [.e (.agg (Ag p0))] [] (.tup [.one (sC (r.1.map Ad)), .one (iC r.2)]) := by
 unfold FF at h
 refine cw (n := 17) (rs := [.tmp 2, .tmp 3]) Tryz.func12 fun w0 S0 => ?_
 refine wq rfl (qb rfl (qa rfl (qa rfl (Ac (wq rfl (qL Cu BF rfl ?_))))))
 refine B7 h fun v1 a1 h => AA [2001] (Mw N p0 v1 a1) dn rfl (qm rfl (qx rfl (qx rfl (qa rfl (qa rfl (Ac (wp rfl (qm rfl (BS rfl (Ac ?_))))))))))
 refine Bc h (fun h => ?_) fun h => ?_
 ·refine wq rfl (qm rfl (qa rfl (qe rfl ?_)))
  obtain rfl := sj h
  refine Ah ((M8 2 _ rfl).trans (sm [] [(2, pD (.sl ((([] : List Aa)).map Ad))), (3, iD v1.2)] [] rfl rfl)) (Ar ?_)
  exact ⟨⟨[_, _], ⟨.tmp _ _ rfl, tm⟩, rfl⟩, tv⟩
 ·refine Am (wq rfl (qm rfl ?_))
  refine BK h fun v3 a3 b3 h => qI Ka Tf a3 (Ai b3) rfl (qj aY (Ai b3) rfl (qa rfl (qe rfl ?_)))
  obtain rfl := sj h
  refine Ah (sm [] [(2, pD (.sl (v3.map Ad))), (3, iD 0)] [] rfl rfl) (Ar ?_)
  exact ⟨⟨[_, _], ⟨.tmp _ _ rfl, tm⟩, rfl⟩, tv⟩
theorem Jc (N : Nat) (r : Bool) (h : Fd N = some r) : Au Tryz.prog 11 [] [] (bD r) := by
 unfold Fd at h
 refine cw (n := 79) (rs := [.tmp 0]) Tryz.func11 fun w0 S0 => ?_
 refine wq rfl (qa rfl (Ac (wq rfl ?_)))
 refine B7 h fun v1 a1 h => AA [2001, 2002, 2003, 2004] (FR N v1 a1) Y1 rfl (Ev (BC 2001 _ _ rfl rfl) (Ev (BC 2002 _ _ rfl rfl) (Ev (BC 2003 _ _ rfl rfl) (Ev (BC 2004 _ _ rfl rfl) ?_))))
 refine B7 h fun v2 a2 h => AA [2005] (Mw N v1 v2 a2) dn rfl (qm rfl (qx rfl (qx rfl (qa rfl (qa rfl (Ac (wq rfl ?_)))))))
 refine B7 h fun v3 a3 h => AA [2006, 2007, 2008, 2009] (FR N v3 a3) Y1 rfl ?_
 refine B7 h fun v4 a4 h => Dt [2010] [2006, 2007, 2008, 2009] (Kc N v3 v4 a4) dO (Hd (fun _ => rfl) BP) rfl (qm rfl (qx rfl (qx rfl (qa rfl (qa rfl (Ac (wq rfl ?_)))))))
 refine B7 h fun v5 a5 h => AA [2011, 2012, 2013, 2014] (FR N v5 a5) Y1 rfl (qm rfl ?_)
 refine B7 h fun v6 a6 h => Dt [] [2011, 2012, 2013, 2014, 2010] (Is N v5 v4.1 v6 a6) cj BP rfl (qm rfl (qx rfl (qx rfl (qa rfl (qa rfl (Ac (wq rfl ?_)))))))
 refine B7 h fun v7 a7 h => AA [2015, 2016, 2017, 2018] (FR N v7 a7) Y1 rfl (Ev (BC 2015 _ _ rfl rfl) (Ev (BC 2016 _ _ rfl rfl) (Ev (BC 2017 _ _ rfl rfl) (Ev (BC 2018 _ _ rfl rfl) ?_))))
 refine B7 h fun v8 a8 h => AA [] (Lf N v7 v8 a8) dX rfl (qm rfl (qx rfl (qx rfl (qa rfl (qa rfl (Ac (wq rfl (Bd GH QX rfl (qz GH rfl (qs CQ rfl (Ac ?_)))))))))))
 refine AS h (fun v9 => mk [(0, bD v9)] []) (fun j9 h => ?_) (fun v9 h => ?_)
 ·refine Aj Ay rfl (qm rfl (B6 rfl (qm rfl ?_)))
  refine EO 34 h rfl (fun h => ?_) fun h => ?_
  ·refine qm rfl (B6 rfl (qp rfl (qm rfl ?_)))
   refine EO 38 h rfl (fun h => ?_) fun h => ?_
   ·refine qm rfl (B6 rfl (qp rfl (qm rfl ?_)))
    refine EO 42 h rfl (fun h => ?_) fun h => ?_
    ·refine qm rfl (B6 rfl (qp rfl (qm rfl ?_)))
     refine EO 46 h rfl (fun h => ?_) fun h => ?_
     ·refine qm rfl (Dm Ka rfl (B6 rfl (qp rfl (qm rfl ?_))))
      refine EO 51 h rfl (fun h => ?_) fun h => ?_
      ·refine qm rfl (Dm Bb rfl (B6 rfl (qp rfl (qm rfl ?_))))
       refine EO 56 h rfl (fun h => ?_) fun h => ?_
       ·refine qm rfl ?_
        refine BK h fun v16 a16 b16 h => qI Bb CQ a16 (Ai b16) rfl (qJ ID CQ (Ai b16) rfl (qL ID CQ rfl ?_))
        refine Um [.int .i64 v16.fW, .int .i64 v16.fV, .int .i64 v16.fX] [.int .i64 0, .int .i64 0, .int .i64 1] (.g rfl rfl) rfl rfl Re rfl ?_
        refine qp rfl (qm rfl ?_)
        refine EO 63 h rfl (fun h => ?_) fun h => ?_
        ·refine qm rfl (CP rfl (qp rfl (qm rfl ?_)))
         refine EO 67 h rfl (fun h => ?_) fun h => ?_
         ·refine qm rfl (AO Bb rfl (B6 rfl (qp rfl (qm rfl ?_))))
          refine EO 72 h rfl (fun h => ?_) fun h => ?_
          ·refine qm rfl ?_
           refine BK h fun v20 a20 b20 h => qi Bb CQ a20 (Ai b20) rfl (qK ID CQ rfl (qL ID CQ rfl ?_))
           refine Um [.int .i64 v20.fW, .int .i64 v20.fV, .int .i64 v20.fX] [.int .i64 0, .int .i64 0, .int .i64 1] (.g rfl rfl) rfl rfl Re rfl ?_
           refine qp rfl (qa rfl (AP (by kernel_rfl) ?_))
           exact sn [] h
          ·refine qw 5 rfl (qp rfl (qa rfl (AP (by kernel_rfl) ?_)))
           exact sn [] h
         ·refine qw 3 rfl (qp rfl (qw 6 rfl (qp rfl (qa rfl (AP (by kernel_rfl) ?_)))))
          exact sn [] h
        ·refine qw 2 rfl (qp rfl (qw 4 rfl (qp rfl (qw 6 rfl (qp rfl (qa rfl (AP (by kernel_rfl) ?_)))))))
         exact sn [] h
       ·refine qw 5 rfl (qp rfl (qw 3 rfl (qp rfl (qw 4 rfl (qp rfl (qw 6 rfl (qp rfl (qa rfl (AP (by kernel_rfl) ?_)))))))))
        exact sn [] h
      ·refine qw 3 rfl (qp rfl (qw 6 rfl (qp rfl (qw 3 rfl (qp rfl (qw 4 rfl (qp rfl (qw 6 rfl (qp rfl (qa rfl (AP (by kernel_rfl) ?_)))))))))))
       exact sn [] h
     ·refine qw 3 rfl (qp rfl (qw 4 rfl (qp rfl (qw 6 rfl (qp rfl (qw 3 rfl (qp rfl (qw 4 rfl (qp rfl (qw 6 rfl (qp rfl (qa rfl (AP (by kernel_rfl) ?_)))))))))))))
      exact sn [] h
    ·refine qw 2 rfl (qp rfl (qw 4 rfl (qp rfl (qw 4 rfl (qp rfl (qw 6 rfl (qp rfl (qw 3 rfl (qp rfl (qw 4 rfl (qp rfl (qw 6 rfl (qp rfl (qa rfl (AP (by kernel_rfl) ?_)))))))))))))))
     exact sn [] h
   ·refine qw 2 rfl (qp rfl (qw 3 rfl (qp rfl (qw 4 rfl (qp rfl (qw 4 rfl (qp rfl (qw 6 rfl (qp rfl (qw 3 rfl (qp rfl (qw 4 rfl (qp rfl (qw 6 rfl (qp rfl ?_)))))))))))))))
    refine qa rfl (AP (by kernel_rfl) ?_)
    exact sn [] h
  ·refine qw 2 rfl (qp rfl (qw 3 rfl (qp rfl (qw 3 rfl (qp rfl (qw 4 rfl (qp rfl (qw 4 rfl (qp rfl (qw 6 rfl (qp rfl (qw 3 rfl (qp rfl (qw 4 rfl (qp rfl (qw 3 rfl ?_))))))))))))))))
   refine qw 3 rfl (qp rfl (qa rfl (AP (by kernel_rfl) ?_)))
   exact sn [] h
 ·obtain rfl := sj h
  refine Ah (sm [] [(0, bD v9)] [] rfl rfl) (Ar ?_)
  exact ⟨⟨[_], tm, rfl⟩, tv⟩
theorem ML (N : Nat) (p0 : Ab) (p1 : List Aa) (r : Ab × Int) (h : Fv N p0 p1 = some r) : Au Tryz.prog 18 [.e (.agg (Ag p0)), pD (.sl (p1.map Ad))] [(1, r.1.fF.map Aq), (1, r.1.fL.map Aq), (1, r.1.fQ.map Aq)] (.tup [.agg [.own 0, .own 1, .own 2, sC (r.1.fG.map AG)], .one (iC r.2)]) := by
 unfold Fv at h
 refine cw (n := 34) (rs := [.cell 4 29, .tmp 5]) Tryz.func18 fun w0 S0 => ?_
 refine wq rfl (qb rfl (qz J0 rfl (qa rfl (Ac (wp rfl (qL Cu BF rfl ?_))))))
 refine B7 h fun v1 a1 h => AA [] (FK N p0 v1 a1) ce rfl (qa rfl (Ac (wq rfl (qm rfl (BS rfl (Ac ?_))))))
 refine Bc h (fun h => ?_) fun h => ?_
 ·refine wq rfl (Bd J0 Uw rfl (qm rfl (qs BF rfl (qe rfl ?_))))
  obtain rfl := sj h
  refine Ah ((Av 4 0 2001 1 _ rfl rfl rfl rfl).trans ((Av 4 1 2002 1 _ rfl rfl rfl rfl).trans ((Av 4 2 2003 1 _ rfl rfl rfl rfl).trans ((L6 4 _ rfl).trans (sm [(1000, 2001), (1001, 2002), (1002, 2003)] [(4, oD (.ptr 4 0)), (5, iD v1)] [(4, .box [.own 1000, .own 1001, .own 1002, sC ((([] : List Ao)).map AG)]), (1000, .vec 1 ((([] : List Int)).map Aq)), (1001, .vec 1 ((([] : List Int)).map Aq)), (1002, .vec 1 ((([] : List Int)).map Aq))] rfl rfl))))) (Ar ?_)
  exact ⟨⟨[_, _], ⟨.cellN _ _ _ _ _ _ _ rfl rfl Cu BF rfl rfl (Jw rfl), tm⟩, rfl⟩, ⟨rfl, rfl, rfl, tv⟩⟩
 ·refine Am (wq rfl (qL Cu BF rfl ?_))
  refine B7 h fun v3 a3 h => AA [2004] (GR N p0 v3 a3) bo rfl (qa rfl (Ac (wp rfl (qe rfl ?_))))
  refine AH (L := DQ N p1 v3) h (fun v4 => mk [(1, pD (.sl (p1.map Ad))), (2, oD (.ptr 2 0)), (4, oD (.ptr 4 0)), (7, oD (.own 2005)), (8, iD v4)] [(2, .box (Ag p0)), (4, .box [.pure (.nil0), .pure (.nil0), .pure (.nil0), .pure (.nil0)]), (2005, .vec 3 (v3.map Ad))]) (fun v5 => mk [(1, pD (.sl (p1.map Ad))), (2, oD (.ptr 2 0)), (4, oD (.ptr 4 0))] [(2, .box (Ag p0)), (4, .box [.pure (.nil0), .pure (.nil0), .pure (.nil0), .pure (.nil0)])]) (fun _ _ => rfl) (sm [(2005, 2004)] _ _ rfl rfl) (fun j4 n4 v4 h => ?_) (fun v5 s h hs => ?_)
  ·unfold DQ at h
   refine wp rfl (qw 2 rfl (AO Bb rfl (AV rfl (Ac ?_))))
   refine Bc h (fun h => ?_) fun h => ?_
   ·refine Am (AQ (AM (wq rfl (qw 3 rfl ?_))))
    refine BK h fun v7 a7 b7 h => qi Bb CQ a7 (Ai b7) rfl (qK ID CQ rfl ?_)
    refine B7 h fun v8 a8 h => Dt [] [2005] (IE N v3 v7 v8 a8) ci BP rfl (CP rfl (Ac ?_))
    refine Bc h (fun h => ?_) fun h => ?_
    ·refine wq rfl (Bd J0 Uw rfl (qs BF rfl (qe rfl ?_)))
     obtain rfl := sj h
     refine Ah ((Av 4 0 2006 1 _ rfl rfl rfl rfl).trans ((Av 4 1 2007 1 _ rfl rfl rfl rfl).trans ((Av 4 2 2008 1 _ rfl rfl rfl rfl).trans ((L6 4 _ rfl).trans (sm [(1000, 2006), (1001, 2007), (1002, 2008)] [(4, oD (.ptr 4 0)), (5, iD 4)] [(4, .box [.own 1000, .own 1001, .own 1002, sC ((([] : List Ao)).map AG)]), (1000, .vec 1 ((([] : List Int)).map Aq)), (1001, .vec 1 ((([] : List Int)).map Aq)), (1002, .vec 1 ((([] : List Int)).map Aq))] rfl rfl))))) (Ar ?_)
     exact ⟨⟨[_, _], ⟨.cellN _ _ _ _ _ _ _ rfl rfl Cu BF rfl rfl (Jw rfl), tm⟩, rfl⟩, ⟨rfl, rfl, rfl, tv⟩⟩
    ·refine Am (Aj Ay rfl (qm rfl (AZ rfl (qe rfl ?_))))
     exact sn [] h
   ·refine AT ?_
    exact sn [] h
  ·refine Ah hs (wq rfl (qL Cu BF rfl (qm rfl ?_)))
   refine B7 h fun v10 a10 h => AA [2009, 2010, 2011] (HU N p0 p1 v10 a10) bh rfl (qs BF rfl (qe rfl ?_))
   obtain rfl := sj h
   refine Ah (sm [(1000, 2009), (1001, 2010), (1002, 2011)] [(4, oD (.ptr 4 0)), (5, iD 0)] [(4, .box [.own 1000, .own 1001, .own 1002, sC (v10.fG.map AG)]), (1000, .vec 1 (v10.fF.map Aq)), (1001, .vec 1 (v10.fL.map Aq)), (1002, .vec 1 (v10.fQ.map Aq))] rfl rfl) (Ar ?_)
   exact ⟨⟨[_, _], ⟨.cellN _ _ _ _ _ _ _ rfl rfl Cu BF rfl rfl (Jw rfl), tm⟩, rfl⟩, ⟨rfl, rfl, rfl, tv⟩⟩
theorem M3 (N : Nat) (p0 : Ab) (p1 : Ae) (r : Bool) (h : Fu N p0 p1 = some r) : Au Tryz.prog 81 [.e (.agg (Ag p0)), .e (.agg (AK p1))] [] (bD r) := by
 unfold Fu at h
 refine cw (n := 36) (rs := [.tmp 4]) Tryz.func81 fun w0 S0 => ?_
 refine wq rfl (qb rfl (qb rfl (qa rfl (Ac (wp rfl (qL Cu BF rfl (qL B4 A1 rfl ?_)))))))
 refine B7 h fun v1 a1 h => AA [] (Hs N p0 p1 v1 a1) X3 rfl (BS rfl (Ac ?_))
 refine Bc h (fun h => ?_) fun h => ?_
 ·refine wq rfl (qe rfl ?_)
  obtain rfl := sj h
  refine Ah (sm [] [(4, bD false)] [] rfl rfl) (Ar ?_)
  exact ⟨⟨[_], tm, rfl⟩, tv⟩
 ·refine Am (wp rfl (qe rfl ?_))
  refine AH (L := Dg N p0 p1) h (fun v3 => mk [(2, oD (.ptr 2 0)), (3, oD (.ptr 3 0)), (5, iD v3)] [(2, .box (Ag p0)), (3, .box (AK p1))]) (fun v4 => mk [] []) (fun _ _ => rfl) (sm [] _ _ rfl rfl) (fun j3 n3 v3 h => ?_) (fun v4 s h hs => ?_)
  ·unfold Dg at h
   refine wp rfl (qm rfl (qf De rfl (ql A7 rfl (AO AC rfl (AV rfl (Ac ?_))))))
   refine Bc h (fun h => ?_) fun h => ?_
   ·refine Am (AQ (AM ?_))
    refine AS h (fun v6 => mk [(2, oD (.ptr 2 0)), (3, oD (.ptr 3 0)), (5, iD v3), (35, bD v6)] [(2, .box (Ag p0)), (3, .box (AK p1))]) (fun j6 h => ?_) (fun v6 h => ?_)
    ·refine Aj Ay rfl (qf BL rfl (ql A7 rfl (qm rfl ?_)))
     refine BK h fun v7 a7 b7 h => qi AC DH a7 (Ai b7) rfl (qk Cn rfl (FM rfl (qm rfl ?_)))
     refine EO 23 h rfl (fun h => ?_) fun h => ?_
     ·refine qw 11 rfl (qp rfl (AP (by kernel_rfl) ?_))
      exact sn [] h
     ·refine qf De rfl (ql A7 rfl (qm rfl ?_))
      refine BK h fun v9 a9 b9 h => qi AC DH a9 (Ai b9) rfl (qk Cn rfl (qf If rfl (ql A7 rfl (qm rfl ?_))))
      refine BK h fun v10 a10 b10 h => qi AC DH a10 (Ai b10) rfl (qk Cn rfl (BS rfl (qp rfl (AP (by kernel_rfl) ?_))))
      exact sn [] h
    ·refine Bc h (fun h => ?_) fun h => ?_
     ·refine wq rfl (qe rfl ?_)
      obtain rfl := sj h
      refine Ah (sm [] [(4, bD false)] [] rfl rfl) (Ar ?_)
      exact ⟨⟨[_], tm, rfl⟩, tv⟩
     ·refine Am (Aj Ay rfl (qm rfl (AZ rfl (qe rfl ?_))))
      exact sn [] h
   ·refine AT ?_
    exact sn [] h
  ·refine Ah hs (wq rfl (qe rfl ?_))
   obtain rfl := sj h
   refine Ah (sm [] [(4, bD true)] [] rfl rfl) (Ar ?_)
   exact ⟨⟨[_], tm, rfl⟩, tv⟩
theorem M9 (N : Nat) (p0 : List AE) (p1 : Int) (r : (List Af)) (h : Gz N p0 p1 = some r) : Au Tryz.prog 137 [pD (.sl (p0.map BI)), iD p1] [(3, r.map AD)] (oD (.own 0)) := by
 unfold Gz at h
 refine cw (n := 26) (rs := [.tmp 4]) Tryz.func137 fun w0 S0 => ?_
 refine wq rfl (qa rfl (Ac (wq rfl (qa rfl (Ac (AQ ?_))))))
 refine AH (L := D3 N p0) h (fun v1 => mk [(0, pD (.sl (p0.map BI))), (1, iD v1.1), (5, oD (.own 2001))] [(2001, .vec 3 (v1.2.map AD))]) (fun v2 => mk [(5, oD (.own 2002))] [(2002, .vec 3 (v2.map AD))]) (fun _ _ => rfl) ((AY 5 2003 3 rfl rfl rfl).trans (sm [(2001, 2003)] _ _ rfl rfl)) (fun j1 n1 v1 h => ?_) (fun v2 s h hs => ?_)
 ·unfold D3 at h
  refine wp rfl (qw 2 rfl ?_)
  refine BK h fun v3 a3 b3 h => qi HR ME a3 (Ai b3) rfl (qg S8 rfl (qk Cn rfl (FM rfl (Ac ?_))))
  refine Bc h (fun h => ?_) fun h => ?_
  ·refine Am (AM (wq rfl (qw 2 rfl ?_)))
   refine BK h fun v5 a5 b5 h => qi HR ME a5 (Ai b5) rfl (qg YC rfl (qK G4 C4 rfl (Eg E6 C4 H0 rfl (qm rfl ?_))))
   refine FO h fun c6 h => DI (f := AD) E6 E6 C4 Ol H0 c6 rfl (qa rfl (Ac (Aj Ay rfl (qw 2 rfl ?_))))
   refine BK h fun v7 a7 b7 h => qi HR ME a7 (Ai b7) rfl (qg S8 rfl (qk Cn rfl (qe rfl ?_)))
   exact sn [(2001, 19)] h
  ·refine AT ?_
   exact sn [(2002, 2001)] h
 ·refine Ah hs (wq rfl (qm rfl (qe rfl ?_)))
  obtain rfl := sj h
  refine Ah (sm [(1000, 2002)] [(4, oD (.own 1000))] [(1000, .vec 3 (v2.map AD))] rfl rfl) (Ar ?_)
  exact ⟨⟨[_], tm, rfl⟩, ⟨rfl, tv⟩⟩
theorem M1 (N : Nat) (p0 : Ab) (p1 : Ae) (r : (List Af) × Int) (h : EI N p0 p1 = some r) : Au Tryz.prog 108 [.e (.agg (Ag p0)), .e (.agg (AK p1))] [(3, r.1.map AD)] (.tup [.one (.own 0), .one (iC r.2)]) := by
 unfold EI at h
 refine cw (n := 44) (rs := [.tmp 4, .tmp 5]) Tryz.func108 fun w0 S0 => ?_
 refine wq rfl (qb rfl (qb rfl (qa rfl (qa rfl (Ac (wp rfl (qL Cu BF rfl (qL B4 A1 rfl ?_))))))))
 refine B7 h fun v1 a1 h => AA [] (Hs N p0 p1 v1 a1) X3 rfl (qa rfl (Ac (wq rfl (qm rfl (BS rfl (Ac ?_))))))
 refine Bc h (fun h => ?_) fun h => ?_
 ·refine wq rfl (qm rfl (qa rfl (qe rfl ?_)))
  obtain rfl := sj h
  refine Ah ((AY 4 2001 3 rfl rfl rfl).trans (sm [(1000, 2001)] [(4, oD (.own 1000)), (5, iD v1)] [(1000, .vec 3 ((([] : List Af)).map AD))] rfl rfl)) (Ar ?_)
  exact ⟨⟨[_, _], ⟨.tmp _ _ rfl, tm⟩, rfl⟩, ⟨rfl, tv⟩⟩
 ·refine Am (wp rfl (qL Cu BF rfl (qL B4 A1 rfl ?_)))
  refine B7 h fun v3 a3 h => AA [] (GA N p0 p1 v3 a3) bK rfl (CP rfl (Ac ?_))
  refine Bc h (fun h => ?_) fun h => ?_
  ·refine wq rfl (qa rfl (qe rfl ?_))
   obtain rfl := sj h
   refine Ah ((AY 4 2002 3 rfl rfl rfl).trans (sm [(1000, 2002)] [(4, oD (.own 1000)), (5, iD 13)] [(1000, .vec 3 ((([] : List Af)).map AD))] rfl rfl)) (Ar ?_)
   exact ⟨⟨[_, _], ⟨.tmp _ _ rfl, tm⟩, rfl⟩, ⟨rfl, tv⟩⟩
  ·refine Am (wq rfl (qL Cu BF rfl (qL B4 A1 rfl ?_)))
   refine B7 h fun v5 a5 h => AA [2003] (Jb N p0 p1 20000 v5 a5) cE rfl (qm rfl (qx rfl (qx rfl (qa rfl (qa rfl (Ac (wp rfl (qm rfl (CP rfl (Ac ?_))))))))))
   refine Bc h (fun h => ?_) fun h => ?_
   ·refine wq rfl (qa rfl (qe rfl ?_))
    obtain rfl := sj h
    refine Ah ((AY 4 2004 3 rfl rfl rfl).trans (sm [(1000, 2004)] [(4, oD (.own 1000)), (5, iD 3)] [(1000, .vec 3 ((([] : List Af)).map AD))] rfl rfl)) (Ar ?_)
    exact ⟨⟨[_, _], ⟨.tmp _ _ rfl, tm⟩, rfl⟩, ⟨rfl, tv⟩⟩
   ·refine Am (wp rfl (qe rfl ?_))
    refine AH (L := CF N p0 v5) h (fun v7 => mk [(2, oD (.ptr 2 0)), (7, oD (.own 2005)), (9, iD v7)] [(2, .box (Ag p0)), (2005, .vec 7 (v5.1.map BI))]) (fun v8 => mk [] []) (fun _ _ => rfl) (sm [(2005, 2003)] _ _ rfl rfl) (fun j7 n7 v7 h => ?_) (fun v8 s h hs => ?_)
    ·unfold CF at h
     refine wp rfl (qw 2 rfl (Dm HR rfl (AV rfl (Ac ?_))))
     refine Bc h (fun h => ?_) fun h => ?_
     ·refine Am (AQ (AM (wq rfl (qL Cu BF rfl (qw 2 rfl ?_)))))
      refine BK h fun v10 a10 b10 h => qI HR ME a10 (Ai b10) rfl (qh N1 rfl ?_)
      refine Qs (.p rfl) rfl B4 A1 rfl (Ai b10) rfl rfl (by decide) ?_
      refine B7 h fun v11 a11 h => AA [] (M3 N p0 ((Ae.mk v10.fZ.fH v10.fZ.fE v10.fZ.fI)) v11 a11) fc rfl (AP (by kernel_rfl) ?_)
      refine Bc h (fun h => ?_) fun h => ?_
      ·refine wq rfl (qw 2 rfl ?_)
       refine B7 h fun v13 a13 h => Dt [2006] [2005] (M9 N v5.1 v7 v13 a13) cI (Hd (fun _ => rfl) BP) rfl (qa rfl (qe rfl ?_))
       obtain rfl := sj h
       refine Ah (sm [(1000, 2006)] [(4, oD (.own 1000)), (5, iD 0)] [(1000, .vec 3 (v13.map AD))] rfl rfl) (Ar ?_)
       exact ⟨⟨[_, _], ⟨.tmp _ _ rfl, tm⟩, rfl⟩, ⟨rfl, tv⟩⟩
      ·refine Am (Aj Ay rfl (qm rfl (AZ rfl (qe rfl ?_))))
       exact sn [] h
     ·refine AT ?_
      exact sn [] h
    ·refine Ah hs (wq rfl (qa rfl (qe rfl ?_)))
     obtain rfl := sj h
     refine Ah ((AY 4 2007 3 rfl rfl rfl).trans (sm [(1000, 2007)] [(4, oD (.own 1000)), (5, iD 14)] [(1000, .vec 3 ((([] : List Af)).map AD))] rfl rfl)) (Ar ?_)
     exact ⟨⟨[_, _], ⟨.tmp _ _ rfl, tm⟩, rfl⟩, ⟨rfl, tv⟩⟩
theorem MK (N : Nat) (p0 : Ab) (r : (List Af) × Int) (h : Fw N p0 = some r) : Au Tryz.prog 74 [.e (.agg (Ag p0))] [(3, r.1.map AD)] (.tup [.one (.own 0), .one (iC r.2)]) := by
 unfold Fw at h
 refine cw (n := 19) (rs := [.tmp 2, .tmp 3]) Tryz.func74 fun w0 S0 => ?_
 refine wq rfl (qb rfl (qa rfl (qa rfl (Ac (wq rfl (qL Cu BF rfl ?_))))))
 refine B7 h fun v1 a1 h => AA [2001, 2002, 2003] (I6 N p0 v1 a1) dI rfl (qm rfl (qx rfl (qx rfl (qz E0 rfl (qs A1 rfl (qa rfl (Ac (wp rfl (qm rfl (BS rfl (Ac ?_)))))))))))
 refine Bc h (fun h => ?_) fun h => ?_
 ·refine wq rfl (qm rfl (qa rfl (qe rfl ?_)))
  obtain rfl := sj h
  refine Ah ((AY 2 2004 3 rfl rfl rfl).trans (sm [(1000, 2004)] [(2, oD (.own 1000)), (3, iD v1.2)] [(1000, .vec 3 ((([] : List Af)).map AD))] rfl rfl)) (Ar ?_)
  exact ⟨⟨[_, _], ⟨.tmp _ _ rfl, tm⟩, rfl⟩, ⟨rfl, tv⟩⟩
 ·refine Am (wq rfl (qL Cu BF rfl (qL B4 A1 rfl ?_)))
  refine B7 h fun v3 a3 h => Dt [2005] [2001, 2002, 2003] (M1 N p0 v1.1 v3 a3) cS (Hd (fun _ => rfl) BP) rfl (qx rfl (qx rfl (qa rfl (qe rfl ?_))))
  obtain rfl := sj h
  refine Ah (sm [(1000, 2005)] [(2, oD (.own 1000)), (3, iD v3.2)] [(1000, .vec 3 (v3.1.map AD))] rfl rfl) (Ar ?_)
  exact ⟨⟨[_, _], ⟨.tmp _ _ rfl, tm⟩, rfl⟩, ⟨rfl, tv⟩⟩
theorem Iu (N : Nat) (p0 : Ab) (p1 : List Aa) (r : Bool × Int) (h : Dd N p0 p1 = some r) : Au Tryz.prog 45 [.e (.agg (Ag p0)), pD (.sl (p1.map Ad))] [] (.tup [.one (.pure (.val (.bool r.1))), .one (iC r.2)]) := by
 unfold Dd at h
 refine cw (n := 20) (rs := [.tmp 4, .tmp 5]) Tryz.func45 fun w0 S0 => ?_
 refine wq rfl (qb rfl (qa rfl (qa rfl (Ac (wq rfl (qL Cu BF rfl (qm rfl ?_)))))))
 refine B7 h fun v1 a1 h => AA [2001, 2002, 2003] (HU N p0 p1 v1 a1) bh rfl ?_
 refine B7 h fun v2 a2 h => Dt [2004] [2001, 2002, 2003] (MK N v1 v2 a2) eQ (Hd (fun _ => rfl) BP) rfl (qm rfl (qx rfl (qx rfl (qa rfl (qa rfl (Ac (wp rfl (qm rfl (B6 rfl (Ac ?_))))))))))
 refine Bc h (fun h => ?_) fun h => ?_
 ·refine wq rfl (qm rfl (qa rfl (qe rfl ?_)))
  obtain rfl := sj h
  refine Ah (sm [] [(4, bD false), (5, iD v2.2)] [] rfl rfl) (Ar ?_)
  exact ⟨⟨[_, _], ⟨.tmp _ _ rfl, tm⟩, rfl⟩, tv⟩
 ·refine Am (wq rfl (qm rfl (B6 rfl (qa rfl (qe rfl ?_)))))
  obtain rfl := sj h
  refine Ah (sm [] [(4, bD ((v2.2 == 0))), (5, iD 0)] [] rfl rfl) (Ar ?_)
  exact ⟨⟨[_, _], ⟨.tmp _ _ rfl, tm⟩, rfl⟩, tv⟩
theorem Ll (N : Nat) (p0 : Ab) (p1 : List Aa) (r : Bool × Int) (h : EA N p0 p1 = some r) : Au Tryz.prog 16 [.e (.agg (Ag p0)), pD (.sl (p1.map Ad))] [] (.tup [.one (.pure (.val (.bool r.1))), .one (iC r.2)]) := by
 unfold EA at h
 refine cw (n := 94) (rs := [.tmp 4, .tmp 5]) Tryz.func16 fun w0 S0 => ?_
 refine wq rfl (qb rfl (qa rfl (qa rfl (Ac (wp rfl (qL Cu BF rfl (qm rfl ?_)))))))
 refine B7 h fun v1 a1 h => AA [2001, 2002, 2003] (ML N p0 p1 v1 a1) eZ rfl (qm rfl (qx rfl (qx rfl (qz J0 rfl (qs BF rfl (qa rfl (Ac (wq rfl (qm rfl (BS rfl (Ac ?_)))))))))))
 refine Bc h (fun h => ?_) fun h => ?_
 ·refine wq rfl (qm rfl (qa rfl (qe rfl ?_)))
  obtain rfl := sj h
  refine Ah (sm [] [(4, bD false), (5, iD v1.2)] [] rfl rfl) (Ar ?_)
  exact ⟨⟨[_, _], ⟨.tmp _ _ rfl, tm⟩, rfl⟩, tv⟩
 ·refine Am (wq rfl (qa rfl (Ac (wp rfl (qe rfl ?_)))))
  refine AH (L := B2 N p1) h (fun v3 => mk [(1, pD (.sl (p1.map Ad))), (2, oD (.ptr 2 0)), (8, oD (.own 2004)), (9, iD v3.2)] [(2, .box (Ag p0)), (2004, .vec 3 (v3.1.map Ad))]) (fun v4 => mk [(2, oD (.ptr 2 0)), (8, oD (.own 2005))] [(2, .box (Ag p0)), (2005, .vec 3 (v4.map Ad))]) (fun _ _ => rfl) ((AY 8 2007 3 rfl rfl rfl).trans (sm [(2004, 2007)] _ _ rfl rfl)) (fun j3 n3 v3 h => ?_) (fun v4 s h hs => ?_)
  ·unfold B2 at h
   refine wp rfl (qw 2 rfl (AO Bb rfl (AV rfl (Ac ?_))))
   refine Bc h (fun h => ?_) fun h => ?_
   ·refine Am ?_
    refine AS h (fun v6 => mk [(1, pD (.sl (p1.map Ad))), (2, oD (.ptr 2 0)), (8, oD (.own 2006)), (9, iD v3.2)] [(2, .box (Ag p0)), (2006, .vec 3 (v6.map Ad))]) (fun j6 h => ?_) (fun v6 h => ?_)
    ·refine AM (wq rfl (qw 3 rfl ?_))
     refine BK h fun v7 a7 b7 h => qi Bb CQ a7 (Ai b7) rfl (qK ID CQ rfl ?_)
     refine B7 h fun v8 a8 h => Dt [] [2004] (IE N v3.1 v7 v8 a8) ci BP rfl (CP rfl (Ac ?_))
     refine Bc h (fun h => ?_) fun h => ?_
     ·refine Aj Ay rfl (qw 3 rfl ?_)
      refine BK h fun v10 a10 b10 h => qi Bb CQ a10 (Ai b10) rfl (qK ID CQ rfl (Eg Bb CQ GH rfl ?_))
      refine FO h fun c11 h => DI (f := Ad) Bb Bb CQ Lp GH c11 rfl (qe rfl ?_)
      exact sn [(2006, 44)] h
     ·refine Am ?_
      exact sn [(2006, 2004)] h
    ·refine Aj Ay rfl (qm rfl (AZ rfl (qe rfl ?_)))
     exact sn [(2004, 2006)] h
   ·refine AT ?_
    exact sn [(2005, 2004)] h
  ·refine Ah hs (AQ ?_)
   refine AS h (fun v12 => mk [(2, oD (.ptr 2 0)), (8, oD (.own 2008)), (53, bD v12)] [(2, .box (Ag p0)), (2008, .vec 3 (v4.map Ad))]) (fun j12 h => ?_) (fun v12 h => ?_)
   ·refine Aj Ay rfl (qL Cu BF rfl ?_)
    refine B7 h fun v13 a13 h => AA [2009] (GR N p0 v13 a13) bo rfl (Dm Bb rfl (Gf rfl (qm rfl ?_)))
    refine EO 49 h rfl (fun h => ?_) fun h => ?_
    ·refine qw 3 rfl (qp rfl (Ac ?_))
     exact sn [(2008, 2005)] h
    ·refine qm rfl (Dm Bb rfl (Gf rfl (qp rfl (Ac ?_))))
     exact sn [(2008, 2005)] h
   ·refine Bc h (fun h => ?_) fun h => ?_
    ·refine wq rfl (qa rfl (qe rfl ?_))
     obtain rfl := sj h
     refine Ah (sm [] [(4, bD false), (5, iD 3)] [] rfl rfl) (Ar ?_)
     exact ⟨⟨[_, _], ⟨.tmp _ _ rfl, tm⟩, rfl⟩, tv⟩
    ·refine Am (wq rfl (qL Cu BF rfl (qm rfl ?_)))
     refine B7 h fun v16 a16 h => Dt [] [2008] (Iu N p0 v4 v16 a16) dt BP rfl (qm rfl (qx rfl (qx rfl (qa rfl (qa rfl (Ac (wp rfl (qm rfl (BS rfl (Ac ?_))))))))))
     refine Bc h (fun h => ?_) fun h => ?_
     ·refine wq rfl (qm rfl (qa rfl (qe rfl ?_)))
      obtain rfl := sj h
      refine Ah (sm [] [(4, bD false), (5, iD v16.2)] [] rfl rfl) (Ar ?_)
      exact ⟨⟨[_, _], ⟨.tmp _ _ rfl, tm⟩, rfl⟩, tv⟩
     ·refine Am (wp rfl (qe rfl ?_))
      refine AH (L := Ck N p0) h (fun v18 => mk [(2, oD (.ptr 2 0)), (8, pD (.sl (v18.1.map Ad))), (10, bD v18.2.1), (12, iD v18.2.2)] [(2, .box (Ag p0))]) (fun v19 => mk [(10, bD v19)] []) (fun _ _ => rfl) ((BC 2008 _ _ rfl rfl).trans (sm [] _ _ rfl rfl)) (fun j18 n18 v18 h => ?_) (fun v19 s h hs => ?_)
      ·unfold Ck at h
       refine wp rfl (qw 2 rfl (AO Bb rfl (AV rfl (Ac ?_))))
       refine Bc h (fun h => ?_) fun h => ?_
       ·refine Am ?_
        refine AS h (fun v21 => mk [(2, oD (.ptr 2 0)), (8, pD (.sl (v18.1.map Ad))), (10, bD v21), (12, iD v18.2.2)] [(2, .box (Ag p0))]) (fun j21 h => ?_) (fun v21 h => ?_)
        ·refine AM (wq rfl (Eg Bb CQ GH rfl (qw 2 rfl ?_)))
         refine FO h fun c22 h => RW (.p rfl) rfl Bb CQ (Ls (f := Ad) (n := 3) (fun _ => rfl) _) (.none _) (.some _ _ _ _ c22.1) tv ⟨rfl, tv⟩ (by have := c22.2.1; (try simp only [List.length_map]); omega) (by have := c22.2.2; (try simp only [List.length_map]); omega) (Qq Ad v18.1 _ _ ((v18.2.2).toNat - 0) rfl) ?_
         refine FO h fun c23 h => GE (f := Ad) Bb Bb CQ Lp GH (fun _ => rfl) c23 rfl (qw 2 rfl (AZ rfl ?_))
         refine FO h fun c24 h => RW (.p rfl) rfl Bb CQ (Ls (f := Ad) (n := 3) (fun _ => rfl) _) (.some _ _ _ _ c24.1) (.none _) ⟨rfl, tv⟩ tv (by have := c24.2.1; (try simp only [List.length_map]); omega) (by have := c24.2.2; (try simp only [List.length_map]); omega) (Qq Ad v18.1 _ _ (v18.1.length - ((wI .i64 (v18.2.2 + 1))).toNat) (by rw [List.length_map])) ?_
         refine FO h fun c25 h => GE (f := Ad) Bb Bb CQ Lp GH (fun _ => rfl) c25 rfl (qa rfl (AP (by kernel_rfl) (wq rfl (qL Cu BF rfl (qm rfl ?_)))))
         refine B7 h fun v26 a26 h => Dt [] [78] (Iu N p0 (((([] : List Aa)) ++ (((v18.1.drop 0).take ((v18.2.2).toNat - 0)))) ++ (((v18.1.drop ((wI .i64 (v18.2.2 + 1))).toNat).take (v18.1.length - ((wI .i64 (v18.2.2 + 1))).toNat)))) v26 a26) dt BP rfl (qm rfl (qx rfl (qx rfl (qa rfl (qa rfl (Ac (wp rfl (qm rfl (BS rfl (Ac ?_))))))))))
         refine Bc h (fun h => ?_) fun h => ?_
         ·refine wq rfl (qm rfl (qa rfl (qe rfl ?_)))
          obtain rfl := sj h
          refine Ah (sm [] [(4, bD false), (5, iD v26.2)] [] rfl rfl) (Ar ?_)
          exact ⟨⟨[_, _], ⟨.tmp _ _ rfl, tm⟩, rfl⟩, tv⟩
         ·refine Am (Aj Ay rfl (qw 2 rfl ?_))
          refine EO 89 h rfl (fun h => ?_) fun h => ?_
          ·refine qm rfl (CP rfl (qp rfl (qe rfl ?_)))
           exact sn [] h
          ·refine qw 2 rfl (qp rfl (qe rfl ?_))
           exact sn [] h
        ·refine Aj Ay rfl (qm rfl (AZ rfl (qe rfl ?_)))
         exact sn [] h
       ·refine AT ?_
        exact sn [] h
      ·refine Ah hs (wq rfl (qm rfl (qa rfl (qe rfl ?_))))
       obtain rfl := sj h
       refine Ah (sm [] [(4, bD v19), (5, iD 0)] [] rfl rfl) (Ar ?_)
       exact ⟨⟨[_, _], ⟨.tmp _ _ rfl, tm⟩, rfl⟩, tv⟩
theorem I1 (N : Nat) (p0 : BJ) (p1 : List Aa) (r : Bool) (h : C9 N p0 p1 = some r) : Au Tryz.prog 4 [.e (.agg (C3 p0)), pD (.sl (p1.map Ad))] [] (bD r) := by
 unfold C9 at h
 refine cw (n := 73) (rs := [.tmp 4]) Tryz.func4 fun w0 S0 => ?_
 refine wq rfl (qb rfl (qa rfl (Ac (wq rfl (qL cO dK rfl ?_)))))
 refine B7 h fun v1 a1 h => AA [2001, 2002, 2003, 2004] (Oi N p0 v1 a1) fw rfl (qm rfl (qx rfl (qx rfl (qz J0 rfl (qs BF rfl (qa rfl (Ac (AQ ?_))))))))
 refine AS h (fun v2 => mk [(1, pD (.sl (p1.map Ad))), (5, oD (.ptr 5 0)), (30, bD v2)] [(5, .box [.own 2005, .own 2006, .own 2007, .own 2008]), (2005, .vec 1 (v1.1.fF.map Aq)), (2006, .vec 1 (v1.1.fL.map Aq)), (2007, .vec 1 (v1.1.fQ.map Aq)), (2008, .vec 6 (v1.1.fG.map AG))]) (fun j2 h => ?_) (fun v2 h => ?_)
 ·refine Aj Ay rfl ?_
  refine B7 h fun v3 a3 h => AA [] (Jc N v3 a3) dH rfl (CP rfl (qm rfl ?_))
  refine EO 22 h rfl (fun h => ?_) fun h => ?_
  ·refine qw 2 rfl (qp rfl (qw 4 rfl (qp rfl (Ac ?_))))
   exact sn [(2005, 2001), (2006, 2002), (2007, 2003), (2008, 2004)] h
  ·refine qm rfl (CP rfl (qp rfl (qm rfl ?_)))
   refine EO 26 h rfl (fun h => ?_) fun h => ?_
   ·refine qw 3 rfl (qp rfl (Ac ?_))
    exact sn [(2005, 2001), (2006, 2002), (2007, 2003), (2008, 2004)] h
   ·refine qm rfl (AO Bb rfl (Gf rfl (qp rfl (Ac ?_))))
    exact sn [(2005, 2001), (2006, 2002), (2007, 2003), (2008, 2004)] h
 ·refine Bc h (fun h => ?_) fun h => ?_
  ·refine wq rfl ?_
   refine B7 h fun v7 a7 h => AA [] (Jc N v7 a7) dH rfl (qe rfl ?_)
   obtain rfl := sj h
   refine Ah (sm [] [(4, bD v7)] [] rfl rfl) (Ar ?_)
   exact ⟨⟨[_], tm, rfl⟩, tv⟩
  ·refine Am (wq rfl (qL Cu BF rfl (qm rfl ?_)))
   refine B7 h fun v8 a8 h => AA [2009] (Dk N p1 v8 a8) bC rfl ?_
   refine B7 h fun v9 a9 h => Dt [] [2005, 2006, 2007, 2008, 2009] (Is N v1.1 v8 v9 a9) cj BP rfl (qm rfl (qx rfl (qx rfl (qa rfl (qa rfl (AP (by kernel_rfl) (wq rfl (qL Cu BF rfl (qm rfl ?_)))))))))
   refine B7 h fun v10 a10 h => Dt [] [2005, 2006, 2007, 2008] (Ll N v1.1 p1 v10 a10) eR BP rfl (qm rfl (qx rfl (qx rfl (qa rfl (qa rfl (Ac (AQ ?_)))))))
   refine AS h (fun v11 => mk [(5, oD (.ptr 5 0)), (52, bD v11)] [(5, .box [.own 2010, .own 2011, .own 2012, .own 2013]), (2010, .vec 1 (v1.1.fF.map Aq)), (2011, .vec 1 (v1.1.fL.map Aq)), (2012, .vec 1 (v1.1.fQ.map Aq)), (2013, .vec 6 (v1.1.fG.map AG))]) (fun j11 h => ?_) (fun v11 h => ?_)
   ·refine Aj Ay rfl (qw 2 rfl ?_)
    refine I9 (.p rfl) rfl rfl (Yz _ _ _ _ fC) rfl ?_
    refine qm rfl ?_
    refine EO 48 h rfl (fun h => ?_) fun h => ?_
    ·refine qw 3 rfl (qp rfl (Ac ?_))
     exact sn [(2010, 2005), (2011, 2006), (2012, 2007), (2013, 2008)] h
    ·refine qw 2 rfl (BS rfl (qp rfl (Ac ?_)))
     exact sn [(2010, 2005), (2011, 2006), (2012, 2007), (2013, 2008)] h
   ·refine Bc h (fun h => ?_) fun h => ?_
    ·refine wq rfl (qe rfl ?_)
     obtain rfl := sj h
     refine Ah (sm [] [(4, bD false)] [] rfl rfl) (Ar ?_)
     exact ⟨⟨[_], tm, rfl⟩, tv⟩
    ·refine Am (wq rfl (qL Cu BF rfl (Ev (BC 2010 _ _ rfl rfl) (Ev (BC 2011 _ _ rfl rfl) (Ev (BC 2012 _ _ rfl rfl) (Ev (BC 2013 _ _ rfl rfl) ?_))))))
     refine B7 h fun v14 a14 h => AA [] (Lf N v1.1 v14 a14) dX rfl (qm rfl (qx rfl (qx rfl (qa rfl (qa rfl (Ac (wp rfl (qm rfl (BS rfl (Ac ?_))))))))))
     refine Bc h (fun h => ?_) fun h => ?_
     ·refine wq rfl (qm rfl (B6 rfl (qe rfl ?_)))
      obtain rfl := sj h
      refine Ah (sm [] [(4, bD ((v14.2 == 14)))] [] rfl rfl) (Ar ?_)
      exact ⟨⟨[_], tm, rfl⟩, tv⟩
     ·refine Am (wq rfl (qL Cu BF rfl (qm rfl ?_)))
      refine B7 h fun v16 a16 h => AA [] (Is N v1.1 v14.1 v16 a16) cj rfl (qm rfl (qx rfl (qx rfl (qa rfl (qe rfl ?_)))))
      refine AS h (fun v17 => mk [(4, bD v17)] []) (fun j17 h => ?_) (fun v17 h => ?_)
      ·refine Aj Ay rfl (qw 2 rfl ?_)
       refine EO 69 h rfl (fun h => ?_) fun h => ?_
       ·refine qm rfl (B6 rfl (qp rfl (qe rfl ?_)))
        exact sn [] h
       ·refine qw 2 rfl (qp rfl (qe rfl ?_))
        exact sn [] h
      ·obtain rfl := sj h
       refine Ah (sm [] [(4, bD v17)] [] rfl rfl) (Ar ?_)
       exact ⟨⟨[_], tm, rfl⟩, tv⟩
end Go.Lift
