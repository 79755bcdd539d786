/- Lemmas for UnblockPlansSaid, which YtjpgllmfenogoaaGreatFinU7 proves. -/
import Derived.Test.YtjpgllmfenogoaaGreatCode1
namespace Go.Lift
set_option maxRecDepth 10000
open Go.RowKit
open Go.Proofs
theorem Im (N : Nat) (p0 : Ac) (p1 : Af) (r : Int) (h : Em N p0 p1 = some r) : Au Tryz.prog 112 [.e (.agg (Aj p0)), .e (.agg (AL p1))] [] (iD r) := by
 unfold Em at h
 refine cw (n := 154) (rs := [.tmp 4]) Tryz.func112 fun w0 S0 => ?_
 refine wq rfl (qb rfl (qb rfl (qa rfl (Ad (wp rfl (qL Db Cb rfl ?_))))))
 refine BM h fun v1 a1 h => Az [] (H1 N p0 v1 a1) dN rfl (qa rfl (Ad (wq rfl (qm rfl (Cf rfl (Ad ?_))))))
 refine A9 h (fun h => ?_) fun h => ?_
 ·refine wq rfl (qm rfl (qe rfl ?_))
  obtain rfl := sj h
  refine Ah (sm [] [(4, iD v1)] [] rfl rfl) (Ar ?_)
  exact ⟨⟨[_], tm, rfl⟩, tv⟩
 ·refine Al (wq rfl (qf BH rfl (ql Bg rfl (AV AD rfl (qa rfl (Ad (AN ?_)))))))
  refine AP h (fun v3 => mk [(2, oD (.ptr 2 0)), (3, oD (.ptr 3 0)), (6, iD ((p0.fE.length : Int))), (39, bD v3)] [(2, .box (Aj p0)), (3, .box (AL p1))]) (fun j3 h => ?_) (fun v3 h => ?_)
  ·refine Ai As rfl (qf DR rfl (ql Bg rfl (AV AD rfl (qm rfl (Cf rfl (qm rfl ?_))))))
   refine E8 24 h rfl (fun h => ?_) fun h => ?_
   ·refine qw 5 rfl (qp rfl (qw 8 rfl (qp rfl (Ad ?_))))
    exact sn [] h
   ·refine qf B7 rfl (ql Bg rfl (AV AD rfl (qm rfl (Cf rfl (qp rfl (qm rfl ?_))))))
    refine E8 31 h rfl (fun h => ?_) fun h => ?_
    ·refine qw 7 rfl (qp rfl (Ad ?_))
     exact sn [] h
    ·refine qf DQ rfl (ql I0 rfl (AV E6 rfl (qf BK rfl (ql GZ rfl (AV Dc rfl (Cf rfl (qp rfl (Ad ?_))))))))
     exact sn [] h
  ·refine A9 h (fun h => ?_) fun h => ?_
   ·refine wq rfl (qe rfl ?_)
    obtain rfl := sj h
    refine Ah (sm [] [(4, iD 6)] [] rfl rfl) (Ar ?_)
    exact ⟨⟨[_], tm, rfl⟩, tv⟩
   ·refine Al (wp rfl (qe rfl ?_))
    refine Ax (L := CQ N p0 p1) h (fun v7 => mk [(2, oD (.ptr 2 0)), (3, oD (.ptr 3 0)), (6, iD ((p0.fE.length : Int))), (7, iD v7)] [(2, .box (Aj p0)), (3, .box (AL p1))]) (fun v8 => mk [(2, oD (.ptr 2 0)), (3, oD (.ptr 3 0))] [(2, .box (Aj p0)), (3, .box (AL p1))]) (fun _ _ => rfl) (sm [] _ _ rfl rfl) (fun j7 n7 v7 h => ?_) (fun v8 s h hs => ?_)
    ·unfold CQ at h
     refine wp rfl (qw 2 rfl (AX rfl (Ad ?_)))
     refine A9 h (fun h => ?_) fun h => ?_
     ·refine Al (AN (AG (AN ?_)))
      refine AP h (fun v10 => mk [(2, oD (.ptr 2 0)), (3, oD (.ptr 3 0)), (6, iD ((p0.fE.length : Int))), (7, iD v7), (84, bD v10)] [(2, .box (Aj p0)), (3, .box (AL p1))]) (fun j10 h => ?_) (fun v10 h => ?_)
      ·refine Ai As rfl (qf DR rfl (ql Bg rfl (qm rfl ?_)))
       refine Bc h fun v11 a11 b11 h => qi AD Ep a11 (Ae b11) rfl (qk CN rfl (AX rfl (qm rfl ?_)))
       refine E8 51 h rfl (fun h => ?_) fun h => ?_
       ·refine qw 11 rfl (qp rfl (qw 7 rfl (qp rfl (qw 12 rfl (qp rfl (AE (by kernel_rfl) ?_))))))
        exact sn [] h
       ·refine qf DR rfl (ql Bg rfl (qm rfl ?_))
        refine Bc h fun v13 a13 b13 h => qi AD Ep a13 (Ae b13) rfl (qk CN rfl (qf BH rfl (ql Bg rfl (qm rfl ?_))))
        refine Bc h fun v14 a14 b14 h => qi AD Ep a14 (Ae b14) rfl (qk CN rfl (D4 rfl (qp rfl (qm rfl ?_))))
        refine E8 64 h rfl (fun h => ?_) fun h => ?_
        ·refine qw 6 rfl (qp rfl (qw 12 rfl (qp rfl (AE (by kernel_rfl) ?_))))
         exact sn [] h
        ·refine qf B7 rfl (ql Bg rfl (qm rfl ?_))
         refine Bc h fun v16 a16 b16 h => qi AD Ep a16 (Ae b16) rfl (qk CN rfl (AX rfl (qp rfl (qm rfl ?_))))
         refine E8 72 h rfl (fun h => ?_) fun h => ?_
         ·refine qw 11 rfl (qp rfl (AE (by kernel_rfl) ?_))
          exact sn [] h
         ·refine qf B7 rfl (ql Bg rfl (qm rfl ?_))
          refine Bc h fun v18 a18 b18 h => qi AD Ep a18 (Ae b18) rfl (qk CN rfl (qf BH rfl (ql Bg rfl (qm rfl ?_))))
          refine Bc h fun v19 a19 b19 h => qi AD Ep a19 (Ae b19) rfl (qk CN rfl (D4 rfl (qp rfl (AE (by kernel_rfl) ?_))))
          exact sn [] h
      ·refine A9 h (fun h => ?_) fun h => ?_
       ·refine wq rfl (qe rfl ?_)
        obtain rfl := sj h
        refine Ah (sm [] [(4, iD 7)] [] rfl rfl) (Ar ?_)
        exact ⟨⟨[_], tm, rfl⟩, tv⟩
       ·refine Al (wq rfl (qf DR rfl (ql Bg rfl (qm rfl ?_))))
        refine Bc h fun v21 a21 b21 h => qi AD Ep a21 (Ae b21) rfl (qk CN rfl (qf B7 rfl (ql Bg rfl (qm rfl ?_))))
        refine Bc h fun v22 a22 b22 h => qi AD Ep a22 (Ae b22) rfl (qk CN rfl (BZ rfl (AE (by kernel_rfl) ?_)))
        refine A9 h (fun h => ?_) fun h => ?_
        ·refine wq rfl (qe rfl ?_)
         obtain rfl := sj h
         refine Ah (sm [] [(4, iD 1)] [] rfl rfl) (Ar ?_)
         exact ⟨⟨[_], tm, rfl⟩, tv⟩
        ·refine Al (Ai As rfl (qm rfl (AT rfl (qe rfl ?_))))
         exact sn [] h
     ·refine AS ?_
      exact sn [] h
    ·refine Ah hs (wp rfl (qe rfl ?_))
     refine Ax (L := CC N p0 p1) h (fun v24 => mk [(2, oD (.ptr 2 0)), (3, oD (.ptr 3 0)), (8, iD v24)] [(2, .box (Aj p0)), (3, .box (AL p1))]) (fun v25 => mk [] []) (fun _ _ => rfl) (sm [] _ _ rfl rfl) (fun j24 n24 v24 h => ?_) (fun v25 s h hs => ?_)
     ·unfold CC at h
      refine wp rfl (qm rfl (qf BK rfl (ql GZ rfl (AV Dc rfl (AX rfl (Ad ?_))))))
      refine A9 h (fun h => ?_) fun h => ?_
      ·refine Al (AN (AG (wq rfl (qf BK rfl (ql GZ rfl (qm rfl ?_))))))
       refine Bc h fun v27 a27 b27 h => qi Dc DB a27 (Ae b27) rfl (qK HZ DB rfl (qz Kc rfl (qs DB rfl (Ad (wq rfl (qf BH rfl (ql Bg rfl (qf Eu rfl (ql CN rfl ?_)))))))))
       refine Bc h fun v28 a28 b28 h => qi AD Ep a28 (Ae b28) rfl (qk CN rfl ?_)
       refine GK h fun c29 h => JR rfl c29 (DA rfl (qe rfl ?_))
       refine AP h (fun v30 => mk [(2, oD (.ptr 2 0)), (3, oD (.ptr 3 0)), (8, iD v24), (153, bD v30)] [(2, .box (Aj p0)), (3, .box (AL p1))]) (fun j30 h => ?_) (fun v30 h => ?_)
       ·refine Ai As rfl (qL HZ DB rfl ?_)
        refine BM h fun v31 a31 h => Az [] (C8 N v27 v31 a31) Tk rfl (CL rfl (qm rfl ?_))
        refine E8 119 h rfl (fun h => ?_) fun h => ?_
        ·refine qf DQ rfl (ql I0 rfl (qm rfl ?_))
         refine Bc h fun v33 a33 b33 h => qi E6 HQ a33 (Ae b33) rfl (qk MP rfl (Cf rfl (qp rfl (qm rfl ?_))))
         refine E8 127 h rfl (fun h => ?_) fun h => ?_
         ·refine qw 3 rfl (qu rfl (qu rfl (qu rfl (qu rfl (qu rfl (qu rfl (qu rfl (qu rfl (qu rfl (qu rfl (qu rfl (qu rfl (qu rfl (qu rfl (qu rfl (qu rfl (qu rfl (qu rfl (qu rfl (qu rfl (qu rfl (qn rfl (qp rfl (AE (by kernel_rfl) ?_))))))))))))))))))))))))
          exact sn [] h
         ·refine qL HZ DB rfl ?_
          refine BM h fun v35 a35 h => Az [] (C8 N v27 v35 a35) Tk rfl (qm rfl ?_)
          refine E8 130 h rfl (fun h => ?_) fun h => ?_
          ·refine qf DQ rfl (ql I0 rfl (qm rfl ?_))
           refine Bc h fun v37 a37 b37 h => qi E6 HQ a37 (Ae b37) rfl (qk MP rfl (qm rfl (Kx rfl (Cf rfl (qm rfl ?_)))))
           refine E8 139 h rfl (fun h => ?_) fun h => ?_
           ·refine qw 11 rfl (qp rfl (qp rfl (qp rfl (AE (by kernel_rfl) ?_))))
            exact sn [] h
           ·refine qL BT AY rfl (qf Eu rfl (ql CN rfl ?_))
            refine BM h fun v39 a39 h => Az [] (FK N p1 v27.fJ v39 a39) T2 rfl (qf DQ rfl (ql I0 rfl (qm rfl ?_)))
            refine Bc h fun v40 a40 b40 h => qi E6 HQ a40 (Ae b40) rfl (qk MP rfl (Kx rfl (Cf rfl (qp rfl (qp rfl (qp rfl (AE (by kernel_rfl) ?_)))))))
            exact sn [] h
          ·refine qw 9 rfl (qu rfl (qu rfl (qu rfl (qu rfl (qu rfl (qu rfl (qu rfl (qu rfl (qu rfl (qu rfl (qu rfl (qn rfl (qp rfl (qp rfl (AE (by kernel_rfl) ?_)))))))))))))))
           exact sn [] h
        ·refine qw 6 rfl (qp rfl (qm rfl (qL HZ DB rfl ?_)))
         refine BM h fun v41 a41 h => Az [] (C8 N v27 v41 a41) Tk rfl (qm rfl ?_)
         refine E8 130 h rfl (fun h => ?_) fun h => ?_
         ·refine qf DQ rfl (ql I0 rfl (qm rfl ?_))
          refine Bc h fun v43 a43 b43 h => qi E6 HQ a43 (Ae b43) rfl (qk MP rfl (qm rfl (Kx rfl (Cf rfl (qm rfl ?_)))))
          refine E8 139 h rfl (fun h => ?_) fun h => ?_
          ·refine qw 11 rfl (qp rfl (qp rfl (qp rfl (AE (by kernel_rfl) ?_))))
           exact sn [] h
          ·refine qL BT AY rfl (qf Eu rfl (ql CN rfl ?_))
           refine BM h fun v45 a45 h => Az [] (FK N p1 v27.fJ v45 a45) T2 rfl (qf DQ rfl (ql I0 rfl (qm rfl ?_)))
           refine Bc h fun v46 a46 b46 h => qi E6 HQ a46 (Ae b46) rfl (qk MP rfl (Kx rfl (Cf rfl (qp rfl (qp rfl (qp rfl (AE (by kernel_rfl) ?_)))))))
           exact sn [] h
         ·refine qw 9 rfl (qu rfl (qu rfl (qu rfl (qu rfl (qu rfl (qu rfl (qu rfl (qu rfl (qu rfl (qu rfl (qu rfl (qn rfl (qp rfl (qp rfl (AE (by kernel_rfl) ?_)))))))))))))))
          exact sn [] h
       ·refine A9 h (fun h => ?_) fun h => ?_
        ·refine wq rfl (qe rfl ?_)
         obtain rfl := sj h
         refine Ah (sm [] [(4, iD 1)] [] rfl rfl) (Ar ?_)
         exact ⟨⟨[_], tm, rfl⟩, tv⟩
        ·refine Al (Ai As rfl (qm rfl (AT rfl (qe rfl ?_))))
         exact sn [] h
      ·refine AS ?_
       exact sn [] h
     ·refine Ah hs (wq rfl (qe rfl ?_))
      obtain rfl := sj h
      refine Ah (sm [] [(4, iD 0)] [] rfl rfl) (Ar ?_)
      exact ⟨⟨[_], tm, rfl⟩, tv⟩
theorem Ng (N : Nat) (p0 : Ag) (r : Bool) (h : F2 N p0 = some r) : Au Tryz.prog 113 [.e (.agg (Ei p0))] [] (bD r) := by
 unfold F2 at h
 refine cw (n := 31) (rs := [.tmp 2]) Tryz.func113 fun w0 S0 => ?_
 refine wq rfl (qb rfl (qe rfl ?_))
 refine AP h (fun v1 => mk [(2, bD v1)] []) (fun j1 h => ?_) (fun v1 h => ?_)
 ·refine Ai As rfl (qf Ge rfl (ql CN rfl (D4 rfl (qm rfl ?_))))
  refine E8 6 h rfl (fun h => ?_) fun h => ?_
  ·refine qf Ge rfl (ql CN rfl (LE rfl (qp rfl (qm rfl ?_))))
   refine E8 11 h rfl (fun h => ?_) fun h => ?_
   ·refine qf FF rfl (ql CN rfl (D4 rfl (qp rfl (qm rfl ?_))))
    refine E8 16 h rfl (fun h => ?_) fun h => ?_
    ·refine qf HD rfl (ql CN rfl (D4 rfl (qp rfl (qm rfl ?_))))
     refine E8 21 h rfl (fun h => ?_) fun h => ?_
     ·refine qf Ge rfl (ql CN rfl (BZ rfl (qm rfl ?_)))
      refine E8 25 h rfl (fun h => ?_) fun h => ?_
      ·refine qw 3 rfl (qp rfl (qp rfl (qe rfl ?_)))
       exact sn [] h
      ·refine qf HD rfl (ql CN rfl (BZ rfl (qp rfl (qp rfl (qe rfl ?_)))))
       exact sn [] h
     ·refine qw 4 rfl (qu rfl (qu rfl (qu rfl (qn rfl (qp rfl (qe rfl ?_))))))
      exact sn [] h
    ·refine qw 3 rfl (qp rfl (qw 5 rfl (qu rfl (qu rfl (qu rfl (qn rfl (qp rfl (qe rfl ?_))))))))
     exact sn [] h
   ·refine qw 3 rfl (qp rfl (qw 4 rfl (qp rfl (qw 5 rfl (qu rfl (qu rfl (qu rfl (qn rfl (qp rfl (qe rfl ?_))))))))))
    exact sn [] h
  ·refine qw 3 rfl (qp rfl (qw 4 rfl (qp rfl (qw 4 rfl (qp rfl (qw 5 rfl (qu rfl (qu rfl (qu rfl (qn rfl (qp rfl (qe rfl ?_))))))))))))
   exact sn [] h
 ·obtain rfl := sj h
  refine Ah (sm [] [(2, bD v1)] [] rfl rfl) (Ar ?_)
  exact ⟨⟨[_], tm, rfl⟩, tv⟩
theorem J1 (N : Nat) (p0 : Ac) (p1 : Af) (p2 : Ag) (r : Af × Bool) (h : DI N p0 p1 p2 = some r) : Au Tryz.prog 114 [.e (.agg (Aj p0)), .e (.agg (AL p1)), .e (.agg (Ei p2))] [(1, r.1.fG.map Aq), (1, r.1.fD.map Aq), (1, r.1.fH.map Ex)] (.tup [.agg [.own 0, .own 1, .own 2], .one (.pure (.val (.bool r.2)))]) := by
 unfold DI at h
 refine cw (n := 201) (rs := [.cell 6 64, .tmp 7]) Tryz.func114 fun w0 S0 => ?_
 refine wq rfl (qb rfl (qb rfl (qb rfl (qz EJ rfl (qa rfl (Ad (wq rfl (Fg AD Ep LG rfl (qf DR rfl (ql Bg rfl ?_))))))))))
 refine GK h fun c1 h => HT (f := Aq) AD AD Ep MH LG (fun _ => rfl) c1 rfl (Fg AD Ep LG rfl (qf B7 rfl (ql Bg rfl ?_)))
 refine GK h fun c2 h => HT (f := Aq) AD AD Ep MH LG (fun _ => rfl) c2 rfl (Fg E6 HQ S5 rfl (qf DQ rfl (ql I0 rfl ?_)))
 refine GK h fun c3 h => HT (f := Ex) E6 E6 HQ TV S5 (fun _ => rfl) c3 rfl (A6 EJ IZ rfl (qz EJ rfl (qs AY rfl (AE (by kernel_rfl) (wq rfl (qf FF rfl (ql CN rfl (qe rfl ?_))))))))
 refine AP h (fun v4 => mk [(6, oD (.ptr 6 0)), (8, oD (.ptr 8 0))] [(6, .box [.pure (.nil0), .pure (.nil0), .pure (.nil0)]), (8, .box [.own 2001, .own 2002, .own 2003]), (2001, .vec 1 (v4.1.map Aq)), (2002, .vec 1 (v4.2.1.map Aq)), (2003, .vec 1 (v4.2.2.map Ex))]) (fun j4 h => ?_) (fun v4 h => ?_)
 ·refine wq rfl (qf Ge rfl (ql CN rfl (Ad (AG (wq rfl (BZ rfl (qe rfl ?_)))))))
  refine A9 h (fun h => ?_) fun h => ?_
  ·refine AN ?_
   refine AP h (fun v6 => mk [(3, oD (.ptr 3 0)), (5, oD (.ptr 5 0)), (6, oD (.ptr 6 0)), (8, oD (.ptr 8 0)), (9, iD p2.fL), (60, bD v6)] [(3, .box (Aj p0)), (5, .box (Ei p2)), (6, .box [.pure (.nil0), .pure (.nil0), .pure (.nil0)]), (8, .box [.own 2004, .own 2005, .own 2006]), (2004, .vec 1 (((([] : List Int)) ++ p1.fG).map Aq)), (2005, .vec 1 (((([] : List Int)) ++ p1.fD).map Aq)), (2006, .vec 1 (((([] : List Int)) ++ p1.fH).map Ex))]) (fun j6 h => ?_) (fun v6 h => ?_)
   ·refine Ai As rfl (qf B7 rfl (ql Bg rfl (qm rfl ?_)))
    refine Bc h fun v7 a7 b7 h => qi AD Ep a7 (Ae b7) rfl (qk CN rfl (D4 rfl (qm rfl ?_)))
    refine E8 51 h rfl (fun h => ?_) fun h => ?_
    ·refine qw 8 rfl (qp rfl (AE (by kernel_rfl) ?_))
     exact sn [(2004, 18), (2005, 22), (2006, 26)] h
    ·refine qf HD rfl (ql CN rfl (qf DR rfl (ql Bg rfl (qm rfl ?_))))
     refine Bc h fun v9 a9 b9 h => qi AD Ep a9 (Ae b9) rfl (qk CN rfl (BZ rfl (qp rfl (AE (by kernel_rfl) ?_))))
     exact sn [(2004, 18), (2005, 22), (2006, 26)] h
   ·refine A9 h (fun h => ?_) fun h => ?_
    ·refine wq rfl (A6 EJ IZ rfl (qs AY rfl (qe rfl ?_)))
     obtain rfl := sj h
     refine Ah ((Av 6 0 2007 1 _ rfl rfl rfl rfl).trans ((Av 6 1 2008 1 _ rfl rfl rfl rfl).trans ((Av 6 2 2009 1 _ rfl rfl rfl rfl).trans (sm [(1000, 2007), (1001, 2008), (1002, 2009)] [(6, oD (.ptr 6 0)), (7, bD false)] [(6, .box [.own 1000, .own 1001, .own 1002]), (1000, .vec 1 ((([] : List Int)).map Aq)), (1001, .vec 1 ((([] : List Int)).map Aq)), (1002, .vec 1 ((([] : List Int)).map Ex))] rfl rfl)))) (Ar ?_)
     exact ⟨⟨[_, _], ⟨.cellN _ _ _ _ _ _ _ rfl rfl BT AY rfl rfl (IL rfl), tm⟩, rfl⟩, ⟨rfl, rfl, rfl, tv⟩⟩
    ·refine Al (wq rfl (qf B7 rfl (ql Bg rfl (qm rfl (qf HD rfl (ql CN rfl ?_))))))
     refine Bc h fun v11 a11 b11 h => qI AD Ep a11 (Ae b11) rfl ?_
     refine Ba rfl rfl rfl rfl (Ae b11) rfl Ep rfl (DY rfl) (A2 Aq ((([] : List Int)) ++ p1.fD) _ p2.fT) ?_
     refine Ad (wq rfl (qe rfl ?_))
     refine Ax (L := Cy N p0 p2) h (fun v12 => mk [(3, oD (.ptr 3 0)), (5, oD (.ptr 5 0)), (6, oD (.ptr 6 0)), (8, oD (.ptr 8 0)), (9, iD p2.fL), (10, iD v12.2)] [(3, .box (Aj p0)), (5, .box (Ei p2)), (6, .box [.pure (.nil0), .pure (.nil0), .pure (.nil0)]), (8, .box [.own 2010, .own 2011, .own 2012]), (2010, .vec 1 (((([] : List Int)) ++ p1.fG).map Aq)), (2011, .vec 1 ((((([] : List Int)) ++ p1.fD).set ((p2.fL).toNat) p2.fT).map Aq)), (2012, .vec 1 (v12.1.map Ex))]) (fun v13 => mk [(6, oD (.ptr 6 0)), (8, oD (.ptr 8 0))] [(6, .box [.pure (.nil0), .pure (.nil0), .pure (.nil0)]), (8, .box [.own 2013, .own 2014, .own 2015]), (2013, .vec 1 (((([] : List Int)) ++ p1.fG).map Aq)), (2014, .vec 1 ((((([] : List Int)) ++ p1.fD).set ((p2.fL).toNat) p2.fT).map Aq)), (2015, .vec 1 (v13.map Ex))]) (fun _ _ => rfl) (sm [(2010, 2004), (2011, 2005), (2012, 2006)] _ _ rfl rfl) (fun j12 n12 v12 h => ?_) (fun v13 s h hs => ?_)
     ·unfold Cy at h
      refine wp rfl (qm rfl (qf BK rfl (ql GZ rfl (AV Dc rfl (AX rfl (Ad ?_))))))
      refine A9 h (fun h => ?_) fun h => ?_
      ·refine Al ?_
       refine AP h (fun v15 => mk [(3, oD (.ptr 3 0)), (5, oD (.ptr 5 0)), (6, oD (.ptr 6 0)), (8, oD (.ptr 8 0)), (9, iD p2.fL), (10, iD v12.2)] [(3, .box (Aj p0)), (5, .box (Ei p2)), (6, .box [.pure (.nil0), .pure (.nil0), .pure (.nil0)]), (8, .box [.own 2016, .own 2017, .own 2018]), (2016, .vec 1 (((([] : List Int)) ++ p1.fG).map Aq)), (2017, .vec 1 ((((([] : List Int)) ++ p1.fD).set ((p2.fL).toNat) p2.fT).map Aq)), (2018, .vec 1 (v15.map Ex))]) (fun j15 h => ?_) (fun v15 h => ?_)
       ·refine AG ?_
        refine AP h (fun v16 => mk [(3, oD (.ptr 3 0)), (5, oD (.ptr 5 0)), (6, oD (.ptr 6 0)), (8, oD (.ptr 8 0)), (9, iD p2.fL), (10, iD v12.2), (90, bD v16)] [(3, .box (Aj p0)), (5, .box (Ei p2)), (6, .box [.pure (.nil0), .pure (.nil0), .pure (.nil0)]), (8, .box [.own 2019, .own 2020, .own 2021]), (2019, .vec 1 (((([] : List Int)) ++ p1.fG).map Aq)), (2020, .vec 1 ((((([] : List Int)) ++ p1.fD).set ((p2.fL).toNat) p2.fT).map Aq)), (2021, .vec 1 (v12.1.map Ex))]) (fun j16 h => ?_) (fun v16 h => ?_)
        ·refine Ai As rfl (qf BK rfl (ql GZ rfl (qm rfl ?_)))
         refine Bc h fun v17 a17 b17 h => qi Dc DB a17 (Ae b17) rfl (qg Eu rfl (qk CN rfl (qm rfl (BZ rfl (qm rfl ?_)))))
         refine E8 83 h rfl (fun h => ?_) fun h => ?_
         ·refine qf BK rfl (ql GZ rfl (qm rfl ?_))
          refine Bc h fun v19 a19 b19 h => qi Dc DB a19 (Ae b19) rfl (qK HZ DB rfl ?_)
          refine BM h fun v20 a20 h => Az [] (C8 N v19 v20 a20) Tk rfl (qp rfl (Ad ?_))
          exact sn [(2019, 2010), (2020, 2011), (2021, 2012)] h
         ·refine qw 6 rfl (qp rfl (Ad ?_))
          exact sn [(2019, 2010), (2020, 2011), (2021, 2012)] h
        ·refine A9 h (fun h => ?_) fun h => ?_
         ·refine Ai As rfl (qf DQ rfl (ql I0 rfl (qm rfl (qf DQ rfl (ql I0 rfl (qm rfl ?_))))))
          refine Bc h fun v22 a22 b22 h => qI E6 HQ a22 (Ae b22) rfl (qj MP (Ae b22) rfl (qf HD rfl (ql CN rfl ?_)))
          refine GK h fun c23 h => JR rfl c23 (Yz rfl ?_)
          refine Bc h fun v24 a24 b24 h => qI E6 HQ a24 (Ae b24) rfl ?_
          refine Ba rfl rfl rfl rfl (Ae b24) rfl HQ rfl (DY rfl) (A2 Ex v12.1 _ ((Re .u8 v22 ((DC .u8 1 p2.fT))))) ?_
          refine AE (by kernel_rfl) ?_
          exact sn [(2016, 2019), (2017, 2020), (2018, 2021)] h
         ·refine Al ?_
          exact sn [(2016, 2019), (2017, 2020), (2018, 2021)] h
       ·refine Ai As rfl (qm rfl (AT rfl (qe rfl ?_)))
        exact sn [(2010, 2016), (2011, 2017), (2012, 2018)] h
      ·refine AS ?_
       exact sn [(2013, 2010), (2014, 2011), (2015, 2012)] h
     ·exact S8 _ h (hs.trans (sm [(2001, 2013), (2002, 2014), (2003, 2015)] _ _ rfl rfl))
  ·refine wq rfl (BZ rfl (qe rfl ?_))
   refine A9 h (fun h => ?_) fun h => ?_
   ·refine wp rfl (qf B7 rfl (ql Bg rfl (qm rfl ?_)))
    refine Bc h fun v26 a26 b26 h => qi AD Ep a26 (Ae b26) rfl (qk CN rfl (AX rfl (Ad ?_)))
    refine A9 h (fun h => ?_) fun h => ?_
    ·refine wq rfl (A6 EJ IZ rfl (qs AY rfl (qe rfl ?_)))
     obtain rfl := sj h
     refine Ah ((Av 6 0 2022 1 _ rfl rfl rfl rfl).trans ((Av 6 1 2023 1 _ rfl rfl rfl rfl).trans ((Av 6 2 2024 1 _ rfl rfl rfl rfl).trans (sm [(1000, 2022), (1001, 2023), (1002, 2024)] [(6, oD (.ptr 6 0)), (7, bD false)] [(6, .box [.own 1000, .own 1001, .own 1002]), (1000, .vec 1 ((([] : List Int)).map Aq)), (1001, .vec 1 ((([] : List Int)).map Aq)), (1002, .vec 1 ((([] : List Int)).map Ex))] rfl rfl)))) (Ar ?_)
     exact ⟨⟨[_, _], ⟨.cellN _ _ _ _ _ _ _ rfl rfl BT AY rfl rfl (IL rfl), tm⟩, rfl⟩, ⟨rfl, rfl, rfl, tv⟩⟩
    ·refine Al (Ai As rfl (qf DR rfl (ql Bg rfl (qm rfl (qf B7 rfl (ql Bg rfl (qm rfl (qf B7 rfl (ql Bg rfl (qm rfl ?_))))))))))
     refine Bc h fun v28 a28 b28 h => qi AD Ep a28 (Ae b28) rfl (qk CN rfl ?_)
     refine Bc h fun v29 a29 b29 h => qI AD Ep a29 (Ae b29) rfl ?_
     refine Ba rfl rfl rfl rfl (Ae b29) rfl Ep rfl (DY rfl) (A2 Aq ((([] : List Int)) ++ p1.fG) _ v28) ?_
     refine Bc h fun v30 a30 b30 h => qI AD Ep a30 (Ae b30) rfl ?_
     refine Ba rfl rfl rfl rfl (Ae b30) rfl Ep rfl (DY rfl) (A2 Aq ((([] : List Int)) ++ p1.fD) _ ((-1))) ?_
     refine AE (by kernel_rfl) ?_
     exact sn [(2001, 18), (2002, 22), (2003, 26)] h
   ·refine wq rfl (BZ rfl (qe rfl ?_))
    refine A9 h (fun h => ?_) fun h => ?_
    ·refine wq rfl (qf BK rfl (ql GZ rfl (qm rfl ?_)))
     refine Bc h fun v32 a32 b32 h => qi Dc DB a32 (Ae b32) rfl (qK HZ DB rfl (qz Kc rfl (qs DB rfl (Ad (wp rfl (qL HZ DB rfl ?_))))))
     refine BM h fun v33 a33 h => Az [] (C8 N v32 v33 a33) Tk rfl (CL rfl (Ad ?_))
     refine A9 h (fun h => ?_) fun h => ?_
     ·refine wq rfl (A6 EJ IZ rfl (qs AY rfl (qe rfl ?_)))
      obtain rfl := sj h
      refine Ah ((Av 6 0 2025 1 _ rfl rfl rfl rfl).trans ((Av 6 1 2026 1 _ rfl rfl rfl rfl).trans ((Av 6 2 2027 1 _ rfl rfl rfl rfl).trans (sm [(1000, 2025), (1001, 2026), (1002, 2027)] [(6, oD (.ptr 6 0)), (7, bD false)] [(6, .box [.own 1000, .own 1001, .own 1002]), (1000, .vec 1 ((([] : List Int)).map Aq)), (1001, .vec 1 ((([] : List Int)).map Aq)), (1002, .vec 1 ((([] : List Int)).map Ex))] rfl rfl)))) (Ar ?_)
      exact ⟨⟨[_, _], ⟨.cellN _ _ _ _ _ _ _ rfl rfl BT AY rfl rfl (IL rfl), tm⟩, rfl⟩, ⟨rfl, rfl, rfl, tv⟩⟩
     ·refine Al (wq rfl (qL BT AY rfl (qf Eu rfl (ql CN rfl ?_))))
      refine BM h fun v35 a35 h => Az [] (FK N p1 v32.fJ v35 a35) T2 rfl (qa rfl (Ad (wp rfl (qf DQ rfl (ql I0 rfl (qm rfl ?_))))))
      refine Bc h fun v36 a36 b36 h => qi E6 HQ a36 (Ae b36) rfl (qk MP rfl (qm rfl (BZ rfl (Ad ?_))))
      refine A9 h (fun h => ?_) fun h => ?_
      ·refine wq rfl (A6 EJ IZ rfl (qs AY rfl (qe rfl ?_)))
       obtain rfl := sj h
       refine Ah ((Av 6 0 2028 1 _ rfl rfl rfl rfl).trans ((Av 6 1 2029 1 _ rfl rfl rfl rfl).trans ((Av 6 2 2030 1 _ rfl rfl rfl rfl).trans (sm [(1000, 2028), (1001, 2029), (1002, 2030)] [(6, oD (.ptr 6 0)), (7, bD false)] [(6, .box [.own 1000, .own 1001, .own 1002]), (1000, .vec 1 ((([] : List Int)).map Aq)), (1001, .vec 1 ((([] : List Int)).map Aq)), (1002, .vec 1 ((([] : List Int)).map Ex))] rfl rfl)))) (Ar ?_)
       exact ⟨⟨[_, _], ⟨.cellN _ _ _ _ _ _ _ rfl rfl BT AY rfl rfl (IL rfl), tm⟩, rfl⟩, ⟨rfl, rfl, rfl, tv⟩⟩
      ·refine Al (wp rfl (qe rfl ?_))
       refine Ax (L := B8 N p0 p1 p2 v32 v35) h (fun v38 => mk [(3, oD (.ptr 3 0)), (4, oD (.ptr 4 0)), (6, oD (.ptr 6 0)), (8, oD (.ptr 8 0)), (9, iD p2.fL), (11, oD (.ptr 11 0)), (12, pD (.val (.int .u8 v35))), (13, iD v38)] [(3, .box (Aj p0)), (4, .box (AL p1)), (6, .box [.pure (.nil0), .pure (.nil0), .pure (.nil0)]), (8, .box [.own 2031, .own 2032, .own 2033]), (11, .box (Bv v32)), (2031, .vec 1 (((([] : List Int)) ++ p1.fG).map Aq)), (2032, .vec 1 (((([] : List Int)) ++ p1.fD).map Aq)), (2033, .vec 1 (((([] : List Int)) ++ p1.fH).map Ex))]) (fun v39 => mk [(6, oD (.ptr 6 0)), (8, oD (.ptr 8 0)), (9, iD p2.fL), (12, pD (.val (.int .u8 v35)))] [(6, .box [.pure (.nil0), .pure (.nil0), .pure (.nil0)]), (8, .box [.own 2034, .own 2035, .own 2036]), (2034, .vec 1 (((([] : List Int)) ++ p1.fG).map Aq)), (2035, .vec 1 (((([] : List Int)) ++ p1.fD).map Aq)), (2036, .vec 1 (((([] : List Int)) ++ p1.fH).map Ex))]) (fun _ _ => rfl) (sm [(2031, 18), (2032, 22), (2033, 26)] _ _ rfl rfl) (fun j38 n38 v38 h => ?_) (fun v39 s h hs => ?_)
       ·unfold B8 at h
        refine wp rfl (qm rfl (qf BH rfl (ql Bg rfl (qf Eu rfl (ql CN rfl ?_)))))
        refine Bc h fun v40 a40 b40 h => qi AD Ep a40 (Ae b40) rfl (qk CN rfl (AX rfl (Ad ?_)))
        refine A9 h (fun h => ?_) fun h => ?_
        ·refine Al (AN (AG ?_))
         refine AP h (fun v42 => mk [(3, oD (.ptr 3 0)), (4, oD (.ptr 4 0)), (6, oD (.ptr 6 0)), (8, oD (.ptr 8 0)), (9, iD p2.fL), (11, oD (.ptr 11 0)), (12, pD (.val (.int .u8 v35))), (13, iD v38), (14, bD v42)] [(3, .box (Aj p0)), (4, .box (AL p1)), (6, .box [.pure (.nil0), .pure (.nil0), .pure (.nil0)]), (8, .box [.own 2037, .own 2038, .own 2039]), (11, .box (Bv v32)), (2037, .vec 1 (((([] : List Int)) ++ p1.fG).map Aq)), (2038, .vec 1 (((([] : List Int)) ++ p1.fD).map Aq)), (2039, .vec 1 (((([] : List Int)) ++ p1.fH).map Ex))]) (fun j42 h => ?_) (fun v42 h => ?_)
         ·refine Ai As rfl (qf DQ rfl (ql I0 rfl (qm rfl ?_)))
          refine Bc h fun v43 a43 b43 h => qi E6 HQ a43 (Ae b43) rfl (qk MP rfl (qm rfl ?_))
          refine BM h fun v44 a44 h => Az [] (HN N v43 v38 v44 a44) Wl rfl (qm rfl ?_)
          refine E8 166 h rfl (fun h => ?_) fun h => ?_
          ·refine qw 2 rfl ?_
           refine BM h fun v46 a46 h => Az [] (HN N v35 v38 v46 a46) Wl rfl (CL rfl (qp rfl (qe rfl ?_)))
           exact sn [(2037, 2031), (2038, 2032), (2039, 2033)] h
          ·refine qw 4 rfl (qp rfl (qe rfl ?_))
           exact sn [(2037, 2031), (2038, 2032), (2039, 2033)] h
         ·refine AP h (fun v47 => mk [(3, oD (.ptr 3 0)), (4, oD (.ptr 4 0)), (6, oD (.ptr 6 0)), (8, oD (.ptr 8 0)), (9, iD p2.fL), (11, oD (.ptr 11 0)), (12, pD (.val (.int .u8 v35))), (13, iD v38), (193, bD v47)] [(3, .box (Aj p0)), (4, .box (AL p1)), (6, .box [.pure (.nil0), .pure (.nil0), .pure (.nil0)]), (8, .box [.own 2040, .own 2041, .own 2042]), (11, .box (Bv v32)), (2040, .vec 1 (((([] : List Int)) ++ p1.fG).map Aq)), (2041, .vec 1 (((([] : List Int)) ++ p1.fD).map Aq)), (2042, .vec 1 (((([] : List Int)) ++ p1.fH).map Ex))]) (fun j47 h => ?_) (fun v47 h => ?_)
          ·refine Ai As rfl (qw 2 rfl ?_)
           refine E8 173 h rfl (fun h => ?_) fun h => ?_
           ·refine qf HO rfl (ql CN rfl (BZ rfl (qp rfl (qm rfl ?_))))
            refine E8 178 h rfl (fun h => ?_) fun h => ?_
            ·refine qf FC rfl (ql HR rfl (qm rfl ?_))
             refine Bc h fun v50 a50 b50 h => qi Ed I2 a50 (Ae b50) rfl (qk ML rfl (qf DR rfl (ql Bg rfl (qf Eu rfl (ql CN rfl ?_)))))
             refine Bc h fun v51 a51 b51 h => qi AD Ep a51 (Ae b51) rfl (qk CN rfl ?_)
             refine Bc h fun v52 a52 b52 h => qi Ff Nv a52 (Ae b52) rfl (qk TD rfl (CL rfl (qp rfl (AE (by kernel_rfl) ?_))))
             exact sn [(2040, 2037), (2041, 2038), (2042, 2039)] h
            ·refine qw 14 rfl (qp rfl (AE (by kernel_rfl) ?_))
             exact sn [(2040, 2037), (2041, 2038), (2042, 2039)] h
           ·refine qw 3 rfl (qp rfl (qw 15 rfl (qp rfl (AE (by kernel_rfl) ?_))))
            exact sn [(2040, 2037), (2041, 2038), (2042, 2039)] h
          ·refine A9 h (fun h => ?_) fun h => ?_
           ·refine wq rfl (A6 EJ IZ rfl (qs AY rfl (qe rfl ?_)))
            obtain rfl := sj h
            refine Ah ((Av 6 0 2043 1 _ rfl rfl rfl rfl).trans ((Av 6 1 2044 1 _ rfl rfl rfl rfl).trans ((Av 6 2 2045 1 _ rfl rfl rfl rfl).trans (sm [(1000, 2043), (1001, 2044), (1002, 2045)] [(6, oD (.ptr 6 0)), (7, bD false)] [(6, .box [.own 1000, .own 1001, .own 1002]), (1000, .vec 1 ((([] : List Int)).map Aq)), (1001, .vec 1 ((([] : List Int)).map Aq)), (1002, .vec 1 ((([] : List Int)).map Ex))] rfl rfl)))) (Ar ?_)
            exact ⟨⟨[_, _], ⟨.cellN _ _ _ _ _ _ _ rfl rfl BT AY rfl rfl (IL rfl), tm⟩, rfl⟩, ⟨rfl, rfl, rfl, tv⟩⟩
           ·refine Al (Ai As rfl (qm rfl (AT rfl (qe rfl ?_))))
            exact sn [(2031, 2040), (2032, 2041), (2033, 2042)] h
        ·refine AS ?_
         exact sn [(2034, 2031), (2035, 2032), (2036, 2033)] h
       ·refine Ah hs (Ai As rfl (qf DQ rfl (ql I0 rfl (qw 2 rfl ?_))))
        refine Bc h fun v54 a54 b54 h => qI E6 HQ a54 (Ae b54) rfl ?_
        refine Ba rfl rfl rfl rfl (Ae b54) rfl HQ rfl (DY rfl) (A2 Ex ((([] : List Int)) ++ p1.fH) _ v35) ?_
        refine Ad ?_
        exact sn [(2001, 2034), (2002, 2035), (2003, 2036)] h
    ·refine wp rfl (qf B7 rfl (ql Bg rfl (qm rfl ?_)))
     refine Bc h fun v55 a55 b55 h => qi AD Ep a55 (Ae b55) rfl (qk CN rfl (AX rfl (Ad ?_)))
     refine A9 h (fun h => ?_) fun h => ?_
     ·refine wq rfl (A6 EJ IZ rfl (qs AY rfl (qe rfl ?_)))
      obtain rfl := sj h
      refine Ah ((Av 6 0 2046 1 _ rfl rfl rfl rfl).trans ((Av 6 1 2047 1 _ rfl rfl rfl rfl).trans ((Av 6 2 2048 1 _ rfl rfl rfl rfl).trans (sm [(1000, 2046), (1001, 2047), (1002, 2048)] [(6, oD (.ptr 6 0)), (7, bD false)] [(6, .box [.own 1000, .own 1001, .own 1002]), (1000, .vec 1 ((([] : List Int)).map Aq)), (1001, .vec 1 ((([] : List Int)).map Aq)), (1002, .vec 1 ((([] : List Int)).map Ex))] rfl rfl)))) (Ar ?_)
      exact ⟨⟨[_, _], ⟨.cellN _ _ _ _ _ _ _ rfl rfl BT AY rfl rfl (IL rfl), tm⟩, rfl⟩, ⟨rfl, rfl, rfl, tv⟩⟩
     ·refine Al (Ai As rfl (qf B7 rfl (ql Bg rfl (qm rfl ?_))))
      refine Bc h fun v57 a57 b57 h => qI AD Ep a57 (Ae b57) rfl ?_
      refine Ba rfl rfl rfl rfl (Ae b57) rfl Ep rfl (DY rfl) (A2 Aq ((([] : List Int)) ++ p1.fD) _ ((-1))) ?_
      refine Ad ?_
      exact sn [(2001, 18), (2002, 22), (2003, 26)] h
 ·refine wq rfl (qL BT AY rfl (qs AY rfl (qe rfl ?_)))
  obtain rfl := sj h
  refine Ah (sm [(1000, 2001), (1001, 2002), (1002, 2003)] [(6, oD (.ptr 6 0)), (7, bD true)] [(6, .box [.own 1000, .own 1001, .own 1002]), (1000, .vec 1 (v4.1.map Aq)), (1001, .vec 1 (v4.2.1.map Aq)), (1002, .vec 1 (v4.2.2.map Ex))] rfl rfl) (Ar ?_)
  exact ⟨⟨[_, _], ⟨.cellN _ _ _ _ _ _ _ rfl rfl BT AY rfl rfl (IL rfl), tm⟩, rfl⟩, ⟨rfl, rfl, rfl, tv⟩⟩
theorem J6 (N : Nat) (p0 : Ac) (p1 : Af) (p2 : Ag) (r : Af × Int) (h : E5 N p0 p1 p2 = some r) : Au Tryz.prog 79 [.e (.agg (Aj p0)), .e (.agg (AL p1)), .e (.agg (Ei p2))] [(1, r.1.fG.map Aq), (1, r.1.fD.map Aq), (1, r.1.fH.map Ex)] (.tup [.agg [.own 0, .own 1, .own 2], .one (iC r.2)]) := by
 unfold E5 at h
 refine cw (n := 73) (rs := [.cell 6 64, .tmp 7]) Tryz.func79 fun w0 S0 => ?_
 refine wq rfl (qb rfl (qb rfl (qb rfl (qz EJ rfl (qa rfl (Ad (wp rfl (qL Db Cb rfl (qL BT AY rfl ?_)))))))))
 refine BM h fun v1 a1 h => Az [] (Im N p0 p1 v1 a1) Xy rfl (qa rfl (Ad (wq rfl (qm rfl (Cf rfl (Ad ?_))))))
 refine A9 h (fun h => ?_) fun h => ?_
 ·refine wq rfl (A6 EJ IZ rfl (qm rfl (qs AY rfl (qe rfl ?_))))
  obtain rfl := sj h
  refine Ah ((Av 6 0 2001 1 _ rfl rfl rfl rfl).trans ((Av 6 1 2002 1 _ rfl rfl rfl rfl).trans ((Av 6 2 2003 1 _ rfl rfl rfl rfl).trans (sm [(1000, 2001), (1001, 2002), (1002, 2003)] [(6, oD (.ptr 6 0)), (7, iD v1)] [(6, .box [.own 1000, .own 1001, .own 1002]), (1000, .vec 1 ((([] : List Int)).map Aq)), (1001, .vec 1 ((([] : List Int)).map Aq)), (1002, .vec 1 ((([] : List Int)).map Ex))] rfl rfl)))) (Ar ?_)
  exact ⟨⟨[_, _], ⟨.cellN _ _ _ _ _ _ _ rfl rfl BT AY rfl rfl (IL rfl), tm⟩, rfl⟩, ⟨rfl, rfl, rfl, tv⟩⟩
 ·refine Al (wp rfl (qL HV DK rfl ?_))
  refine BM h fun v3 a3 h => Az [] (Ng N p2 v3 a3) dR rfl (CL rfl (Ad ?_))
  refine A9 h (fun h => ?_) fun h => ?_
  ·refine wq rfl (A6 EJ IZ rfl (qs AY rfl (qe rfl ?_)))
   obtain rfl := sj h
   refine Ah ((Av 6 0 2004 1 _ rfl rfl rfl rfl).trans ((Av 6 1 2005 1 _ rfl rfl rfl rfl).trans ((Av 6 2 2006 1 _ rfl rfl rfl rfl).trans (sm [(1000, 2004), (1001, 2005), (1002, 2006)] [(6, oD (.ptr 6 0)), (7, iD 1)] [(6, .box [.own 1000, .own 1001, .own 1002]), (1000, .vec 1 ((([] : List Int)).map Aq)), (1001, .vec 1 ((([] : List Int)).map Aq)), (1002, .vec 1 ((([] : List Int)).map Ex))] rfl rfl)))) (Ar ?_)
   exact ⟨⟨[_, _], ⟨.cellN _ _ _ _ _ _ _ rfl rfl BT AY rfl rfl (IL rfl), tm⟩, rfl⟩, ⟨rfl, rfl, rfl, tv⟩⟩
  ·refine Al (AN ?_)
   refine AP h (fun v5 => mk [(3, oD (.ptr 3 0)), (4, oD (.ptr 4 0)), (5, oD (.ptr 5 0)), (6, oD (.ptr 6 0)), (45, bD v5)] [(3, .box (Aj p0)), (4, .box (AL p1)), (5, .box (Ei p2)), (6, .box [.pure (.nil0), .pure (.nil0), .pure (.nil0)])]) (fun j5 h => ?_) (fun v5 h => ?_)
   ·refine Ai As rfl (qf Ge rfl (ql CN rfl (BZ rfl (qm rfl ?_))))
    refine E8 25 h rfl (fun h => ?_) fun h => ?_
    ·refine qf FF rfl (ql CN rfl (qf BK rfl (ql GZ rfl (AV Dc rfl (D4 rfl (qp rfl (qm rfl ?_)))))))
     refine E8 33 h rfl (fun h => ?_) fun h => ?_
     ·refine qw 4 rfl (qu rfl (qu rfl (qu rfl (qu rfl (qu rfl (qu rfl (qn rfl (qp rfl (Ad ?_)))))))))
      exact sn [] h
     ·refine qf Ge rfl (ql CN rfl (Cf rfl (qm rfl ?_)))
      refine E8 37 h rfl (fun h => ?_) fun h => ?_
      ·refine qf FF rfl (ql CN rfl (qf BH rfl (ql Bg rfl (AV AD rfl (D4 rfl (qp rfl (qp rfl (Ad ?_))))))))
       exact sn [] h
      ·refine qw 6 rfl (qp rfl (qp rfl (Ad ?_)))
       exact sn [] h
    ·refine qw 6 rfl (qp rfl (qm rfl (qf Ge rfl (ql CN rfl (Cf rfl (qm rfl ?_))))))
     refine E8 37 h rfl (fun h => ?_) fun h => ?_
     ·refine qf FF rfl (ql CN rfl (qf BH rfl (ql Bg rfl (AV AD rfl (D4 rfl (qp rfl (qp rfl (Ad ?_))))))))
      exact sn [] h
     ·refine qw 6 rfl (qp rfl (qp rfl (Ad ?_)))
      exact sn [] h
   ·refine A9 h (fun h => ?_) fun h => ?_
    ·refine wq rfl (A6 EJ IZ rfl (qs AY rfl (qe rfl ?_)))
     obtain rfl := sj h
     refine Ah ((Av 6 0 2007 1 _ rfl rfl rfl rfl).trans ((Av 6 1 2008 1 _ rfl rfl rfl rfl).trans ((Av 6 2 2009 1 _ rfl rfl rfl rfl).trans (sm [(1000, 2007), (1001, 2008), (1002, 2009)] [(6, oD (.ptr 6 0)), (7, iD 4)] [(6, .box [.own 1000, .own 1001, .own 1002]), (1000, .vec 1 ((([] : List Int)).map Aq)), (1001, .vec 1 ((([] : List Int)).map Aq)), (1002, .vec 1 ((([] : List Int)).map Ex))] rfl rfl)))) (Ar ?_)
     exact ⟨⟨[_, _], ⟨.cellN _ _ _ _ _ _ _ rfl rfl BT AY rfl rfl (IL rfl), tm⟩, rfl⟩, ⟨rfl, rfl, rfl, tv⟩⟩
    ·refine Al (AN ?_)
     refine AP h (fun v11 => mk [(3, oD (.ptr 3 0)), (4, oD (.ptr 4 0)), (5, oD (.ptr 5 0)), (6, oD (.ptr 6 0)), (60, bD v11)] [(3, .box (Aj p0)), (4, .box (AL p1)), (5, .box (Ei p2)), (6, .box [.pure (.nil0), .pure (.nil0), .pure (.nil0)])]) (fun j11 h => ?_) (fun v11 h => ?_)
     ·refine Ai As rfl (qf Ge rfl (ql CN rfl (BZ rfl (qm rfl ?_))))
      refine E8 50 h rfl (fun h => ?_) fun h => ?_
      ·refine qf HD rfl (ql CN rfl (qf BH rfl (ql Bg rfl (qf FF rfl (ql CN rfl ?_)))))
       refine Bc h fun v13 a13 b13 h => qi AD Ep a13 (Ae b13) rfl (qk CN rfl (D4 rfl (qp rfl (AE (by kernel_rfl) ?_))))
       exact sn [] h
      ·refine qw 9 rfl (qp rfl (AE (by kernel_rfl) ?_))
       exact sn [] h
     ·refine A9 h (fun h => ?_) fun h => ?_
      ·refine wq rfl (A6 EJ IZ rfl (qs AY rfl (qe rfl ?_)))
       obtain rfl := sj h
       refine Ah ((Av 6 0 2010 1 _ rfl rfl rfl rfl).trans ((Av 6 1 2011 1 _ rfl rfl rfl rfl).trans ((Av 6 2 2012 1 _ rfl rfl rfl rfl).trans (sm [(1000, 2010), (1001, 2011), (1002, 2012)] [(6, oD (.ptr 6 0)), (7, iD 4)] [(6, .box [.own 1000, .own 1001, .own 1002]), (1000, .vec 1 ((([] : List Int)).map Aq)), (1001, .vec 1 ((([] : List Int)).map Aq)), (1002, .vec 1 ((([] : List Int)).map Ex))] rfl rfl)))) (Ar ?_)
       exact ⟨⟨[_, _], ⟨.cellN _ _ _ _ _ _ _ rfl rfl BT AY rfl rfl (IL rfl), tm⟩, rfl⟩, ⟨rfl, rfl, rfl, tv⟩⟩
      ·refine Al (wq rfl (qL Db Cb rfl (qL BT AY rfl (qL HV DK rfl ?_))))
       refine BM h fun v15 a15 h => Az [2013, 2014, 2015] (J1 N p0 p1 p2 v15 a15) aJ rfl (qm rfl (qx rfl (qx rfl (qz EJ rfl (qs AY rfl (qa rfl (Ad (wp rfl (qm rfl (CL rfl (Ad ?_)))))))))))
       refine A9 h (fun h => ?_) fun h => ?_
       ·refine wq rfl (A6 EJ IZ rfl (qs AY rfl (qe rfl ?_)))
        obtain rfl := sj h
        refine Ah ((Av 6 0 2016 1 _ rfl rfl rfl rfl).trans ((Av 6 1 2017 1 _ rfl rfl rfl rfl).trans ((Av 6 2 2018 1 _ rfl rfl rfl rfl).trans (sm [(1000, 2016), (1001, 2017), (1002, 2018)] [(6, oD (.ptr 6 0)), (7, iD 11)] [(6, .box [.own 1000, .own 1001, .own 1002]), (1000, .vec 1 ((([] : List Int)).map Aq)), (1001, .vec 1 ((([] : List Int)).map Aq)), (1002, .vec 1 ((([] : List Int)).map Ex))] rfl rfl)))) (Ar ?_)
        exact ⟨⟨[_, _], ⟨.cellN _ _ _ _ _ _ _ rfl rfl BT AY rfl rfl (IL rfl), tm⟩, rfl⟩, ⟨rfl, rfl, rfl, tv⟩⟩
       ·refine Al (wq rfl (qL BT AY rfl (qs AY rfl (qe rfl ?_))))
        obtain rfl := sj h
        refine Ah (sm [(1000, 2013), (1001, 2014), (1002, 2015)] [(6, oD (.ptr 6 0)), (7, iD 0)] [(6, .box [.own 1000, .own 1001, .own 1002]), (1000, .vec 1 (v15.1.fG.map Aq)), (1001, .vec 1 (v15.1.fD.map Aq)), (1002, .vec 1 (v15.1.fH.map Ex))] rfl rfl) (Ar ?_)
        exact ⟨⟨[_, _], ⟨.cellN _ _ _ _ _ _ _ rfl rfl BT AY rfl rfl (IL rfl), tm⟩, rfl⟩, ⟨rfl, rfl, rfl, tv⟩⟩
theorem Ni (N : Nat) (p0 : Ac) (p1 : Af) (r : (List Ag)) (h : F1 N p0 p1 = some r) : Au Tryz.prog 119 [.e (.agg (Aj p0)), .e (.agg (AL p1))] [(3, r.map AJ)] (oD (.own 0)) := by
 unfold F1 at h
 refine cw (n := 49) (rs := [.tmp 4]) Tryz.func119 fun w0 S0 => ?_
 refine wq rfl (qb rfl (qb rfl (qa rfl (Ad (wq rfl (qa rfl (Ad (wp rfl (qe rfl ?_)))))))))
 refine Ax (L := BQ N p0 p1) h (fun v1 => mk [(2, oD (.ptr 2 0)), (3, oD (.ptr 3 0)), (5, oD (.own 2001)), (6, iD v1.2)] [(2, .box (Aj p0)), (3, .box (AL p1)), (2001, .vec 3 (v1.1.map AJ))]) (fun v2 => mk [(5, oD (.own 2002))] [(2002, .vec 3 (v2.map AJ))]) (fun _ _ => rfl) ((Bl 5 2011 3 rfl rfl rfl).trans (sm [(2001, 2011)] _ _ rfl rfl)) (fun j1 n1 v1 h => ?_) (fun v2 s h hs => ?_)
 ·unfold BQ at h
  refine wp rfl (qm rfl (LE rfl (Ad ?_)))
  refine A9 h (fun h => ?_) fun h => ?_
  ·refine Al (AN (AG (wq rfl (qe rfl ?_))))
   refine Ax (L := CT N p0 p1 v1) h (fun v4 => mk [(2, oD (.ptr 2 0)), (3, oD (.ptr 3 0)), (5, oD (.own 2003)), (6, iD v1.2), (7, iD v4.2)] [(2, .box (Aj p0)), (3, .box (AL p1)), (2003, .vec 3 (v4.1.map AJ))]) (fun v5 => mk [(2, oD (.ptr 2 0)), (3, oD (.ptr 3 0)), (5, oD (.own 2004)), (6, iD v1.2)] [(2, .box (Aj p0)), (3, .box (AL p1)), (2004, .vec 3 (v5.map AJ))]) (fun _ _ => rfl) (sm [(2003, 2001)] _ _ rfl rfl) (fun j4 n4 v4 h => ?_) (fun v5 s h hs => ?_)
   ·unfold CT at h
    refine wp rfl (qm rfl (qf BH rfl (ql Bg rfl (AV AD rfl (qf BK rfl (ql GZ rfl (AV Dc rfl ?_)))))))
    refine c4 (.p rfl) rfl rfl ?_
    refine AX rfl (Ad ?_)
    refine A9 h (fun h => ?_) fun h => ?_
    ·refine Al (AN (AG (wq rfl (qe rfl ?_))))
     refine Ax (L := CS N p0 p1 v1 v4) h (fun v7 => mk [(2, oD (.ptr 2 0)), (3, oD (.ptr 3 0)), (5, oD (.own 2005)), (6, iD v1.2), (7, iD v4.2), (8, iD v7.2)] [(2, .box (Aj p0)), (3, .box (AL p1)), (2005, .vec 3 (v7.1.map AJ))]) (fun v8 => mk [(2, oD (.ptr 2 0)), (3, oD (.ptr 3 0)), (5, oD (.own 2006)), (6, iD v1.2), (7, iD v4.2)] [(2, .box (Aj p0)), (3, .box (AL p1)), (2006, .vec 3 (v8.map AJ))]) (fun _ _ => rfl) (sm [(2005, 2003)] _ _ rfl rfl) (fun j7 n7 v7 h => ?_) (fun v8 s h hs => ?_)
     ·unfold CS at h
      refine wp rfl (qm rfl (AX rfl (Ad ?_)))
      refine A9 h (fun h => ?_) fun h => ?_
      ·refine Al ?_
       refine AP h (fun v10 => mk [(2, oD (.ptr 2 0)), (3, oD (.ptr 3 0)), (5, oD (.own 2007)), (6, iD v1.2), (7, iD v4.2), (8, iD v7.2)] [(2, .box (Aj p0)), (3, .box (AL p1)), (2007, .vec 3 (v10.map AJ))]) (fun j10 h => ?_) (fun v10 h => ?_)
       ·refine AG (wq rfl (qw 3 rfl (A6 Jr Wz rfl (qz Jr rfl (qs DK rfl (Ad (wq rfl (qL Db Cb rfl (qL BT AY rfl (qL HV DK rfl ?_))))))))))
        refine BM h fun v11 a11 h => Az [2008, 2009, 2010] (J6 N p0 p1 ((Ag.mk v1.2 v4.2 v7.2)) v11 a11) dz rfl (qm rfl (qx rfl (qx rfl (qz EJ rfl (qs AY rfl (qa rfl (Ad (wq rfl (qm rfl (BZ rfl (Ad ?_)))))))))))
        refine A9 h (fun h => ?_) fun h => ?_
        ·refine Ai As rfl (qm rfl (qL HV DK rfl (Fg FH DK Jr rfl ?_)))
         refine GK h fun c13 h => EM (f := AJ) FH FH DK Qj Jr c13 rfl (qe rfl ?_)
         exact sn [(2007, 47)] h
        ·refine Al ?_
         exact sn [(2007, 2005)] h
       ·refine Ai As rfl (qm rfl (AT rfl (qe rfl ?_)))
        exact sn [(2005, 2007)] h
      ·refine AS ?_
       exact sn [(2006, 2005)] h
     ·refine Ah hs (Ai As rfl (qm rfl (AT rfl (qe rfl ?_))))
      exact sn [(2003, 2006)] h
    ·refine AS ?_
     exact sn [(2004, 2003)] h
   ·refine Ah hs (Ai As rfl (qm rfl (AT rfl (qe rfl ?_))))
    exact sn [(2001, 2004)] h
  ·refine AS ?_
   exact sn [(2002, 2001)] h
 ·refine Ah hs (wq rfl (qm rfl (qe rfl ?_)))
  obtain rfl := sj h
  refine Ah (sm [(1000, 2002)] [(4, oD (.own 1000))] [(1000, .vec 3 (v2.map AJ))] rfl rfl) (Ar ?_)
  exact ⟨⟨[_], tm, rfl⟩, ⟨rfl, tv⟩⟩
theorem IK (N : Nat) (p0 : List Int) (p1 : List Int) (r : Int) (h : EC N p0 p1 = some r) : Au Tryz.prog 159 [pD (.sl (p0.map Aq)), pD (.sl (p1.map Aq))] [] (iD r) := by
 unfold EC at h
 refine cw (n := 46) (rs := [.tmp 4]) Tryz.func159 fun w0 S0 => ?_
 refine wq rfl (qa rfl (Ad (wp rfl (qe rfl ?_))))
 refine Ax (L := Ew N p0 p1) h (fun v1 => mk [(0, pD (.sl (p0.map Aq))), (1, pD (.sl (p1.map Aq))), (5, iD v1)] []) (fun v2 => mk [(0, pD (.sl (p0.map Aq))), (1, pD (.sl (p1.map Aq)))] []) (fun _ _ => rfl) (sm [] _ _ rfl rfl) (fun j1 n1 v1 h => ?_) (fun v2 s h hs => ?_)
 ·unfold Ew at h
  refine AN ?_
  refine AP h (fun v3 => mk [(0, pD (.sl (p0.map Aq))), (1, pD (.sl (p1.map Aq))), (5, iD v1), (15, bD v3)] []) (fun j3 h => ?_) (fun v3 h => ?_)
  ·refine Ai As rfl (qw 2 rfl (AV AD rfl (AX rfl (qm rfl ?_))))
   refine E8 10 h rfl (fun h => ?_) fun h => ?_
   ·refine qw 2 rfl (AV AD rfl (AX rfl (qp rfl (Ad ?_))))
    exact sn [] h
   ·refine qw 4 rfl (qp rfl (Ad ?_))
    exact sn [] h
  ·refine A9 h (fun h => ?_) fun h => ?_
   ·refine Al (AN (AG (wp rfl (qw 2 rfl ?_))))
    refine Bc h fun v6 a6 b6 h => qi AD Ep a6 (Ae b6) rfl (qk CN rfl (qw 2 rfl ?_))
    refine Bc h fun v7 a7 b7 h => qi AD Ep a7 (Ae b7) rfl (qk CN rfl (AX rfl (AE (by kernel_rfl) ?_)))
    refine A9 h (fun h => ?_) fun h => ?_
    ·refine wq rfl (qe rfl ?_)
     obtain rfl := sj h
     refine Ah (sm [] [(4, iD ((-1)))] [] rfl rfl) (Ar ?_)
     exact ⟨⟨[_], tm, rfl⟩, tv⟩
    ·refine Al (wq rfl (qw 2 rfl ?_))
     refine Bc h fun v9 a9 b9 h => qi AD Ep a9 (Ae b9) rfl (qk CN rfl (qw 2 rfl ?_))
     refine Bc h fun v10 a10 b10 h => qi AD Ep a10 (Ae b10) rfl (qk CN rfl (Gx rfl (AE (by kernel_rfl) ?_)))
     refine A9 h (fun h => ?_) fun h => ?_
     ·refine wq rfl (qe rfl ?_)
      obtain rfl := sj h
      refine Ah (sm [] [(4, iD 1)] [] rfl rfl) (Ar ?_)
      exact ⟨⟨[_], tm, rfl⟩, tv⟩
     ·refine Al (Ai As rfl (qm rfl (AT rfl (qe rfl ?_))))
      exact sn [] h
   ·refine AS ?_
    exact sn [] h
 ·refine Ah hs (wp rfl (qm rfl (AV AD rfl (qm rfl (AV AD rfl (AX rfl (Ad ?_)))))))
  refine A9 h (fun h => ?_) fun h => ?_
  ·refine wq rfl (qe rfl ?_)
   obtain rfl := sj h
   refine Ah (sm [] [(4, iD ((-1)))] [] rfl rfl) (Ar ?_)
   exact ⟨⟨[_], tm, rfl⟩, tv⟩
  ·refine Al (wp rfl (qm rfl (AV AD rfl (qm rfl (AV AD rfl (Gx rfl (Ad ?_)))))))
   refine A9 h (fun h => ?_) fun h => ?_
   ·refine wq rfl (qe rfl ?_)
    obtain rfl := sj h
    refine Ah (sm [] [(4, iD 1)] [] rfl rfl) (Ar ?_)
    exact ⟨⟨[_], tm, rfl⟩, tv⟩
   ·refine Al (wq rfl (qe rfl ?_))
    obtain rfl := sj h
    refine Ah (sm [] [(4, iD 0)] [] rfl rfl) (Ar ?_)
    exact ⟨⟨[_], tm, rfl⟩, tv⟩
theorem Js (N : Nat) (p0 : List Int) (r : (List Int)) (h : Et N p0 = some r) : Au Tryz.prog 160 [pD (.sl (p0.map Ex))] [(1, r.map Aq)] (oD (.own 0)) := by
 unfold Et at h
 refine cw (n := 20) (rs := [.tmp 2]) Tryz.func160 fun w0 S0 => ?_
 refine wq rfl (qa rfl (Ad (wq rfl (qa rfl (Ad (wp rfl (qe rfl ?_)))))))
 refine Ax (L := DN N p0) h (fun v1 => mk [(0, pD (.sl (p0.map Ex))), (3, oD (.own 2001)), (4, iD v1.2)] [(2001, .vec 1 (v1.1.map Aq))]) (fun v2 => mk [(3, oD (.own 2002))] [(2002, .vec 1 (v2.map Aq))]) (fun _ _ => rfl) ((Bl 3 2003 1 rfl rfl rfl).trans (sm [(2001, 2003)] _ _ rfl rfl)) (fun j1 n1 v1 h => ?_) (fun v2 s h hs => ?_)
 ·unfold DN at h
  refine wp rfl (qw 2 rfl (AV E6 rfl (AX rfl (Ad ?_))))
  refine A9 h (fun h => ?_) fun h => ?_
  ·refine Al (AN (AG (Ai As rfl (qw 3 rfl ?_))))
   refine Bc h fun v4 a4 b4 h => qi E6 HQ a4 (Ae b4) rfl (qk MP rfl (Je eV X9 rfl (Fg AD Ep LG rfl ?_)))
   refine GK h fun c5 h => EM (f := Aq) AD AD Ep MH LG c5 rfl (qa rfl (Ad (Ai As rfl (qm rfl (AT rfl (qe rfl ?_))))))
   exact sn [(2001, 18)] h
  ·refine AS ?_
   exact sn [(2002, 2001)] h
 ·refine Ah hs (wq rfl (qm rfl (qe rfl ?_)))
  obtain rfl := sj h
  refine Ah (sm [(1000, 2002)] [(2, oD (.own 1000))] [(1000, .vec 1 (v2.map Aq))] rfl rfl) (Ar ?_)
  exact ⟨⟨[_], tm, rfl⟩, ⟨rfl, tv⟩⟩
theorem Ma (N : Nat) (p0 : Af) (p1 : Af) (r : Int) (h : Fj N p0 p1 = some r) : Au Tryz.prog 155 [.e (.agg (AL p0)), .e (.agg (AL p1))] [] (iD r) := by
 unfold Fj at h
 refine cw (n := 30) (rs := [.tmp 4]) Tryz.func155 fun w0 S0 => ?_
 refine wq rfl (qb rfl (qb rfl (qa rfl (Ad (wp rfl (qf DR rfl (ql Bg rfl (qf DR rfl (ql Bg rfl ?_)))))))))
 refine BM h fun v1 a1 h => Az [] (IK N p0.fG p1.fG v1 a1) YO rfl (qa rfl (Ad (wq rfl (qm rfl (Cf rfl (Ad ?_))))))
 refine A9 h (fun h => ?_) fun h => ?_
 ·refine wq rfl (qm rfl (qe rfl ?_))
  obtain rfl := sj h
  refine Ah (sm [] [(4, iD v1)] [] rfl rfl) (Ar ?_)
  exact ⟨⟨[_], tm, rfl⟩, tv⟩
 ·refine Al (wp rfl (qf B7 rfl (ql Bg rfl (qf B7 rfl (ql Bg rfl ?_)))))
  refine BM h fun v3 a3 h => Az [] (IK N p0.fD p1.fD v3 a3) YO rfl (qa rfl (Ad (wq rfl (qm rfl (Cf rfl (Ad ?_))))))
  refine A9 h (fun h => ?_) fun h => ?_
  ·refine wq rfl (qm rfl (qe rfl ?_))
   obtain rfl := sj h
   refine Ah (sm [] [(4, iD v3)] [] rfl rfl) (Ar ?_)
   exact ⟨⟨[_], tm, rfl⟩, tv⟩
  ·refine Al (wq rfl (qf DQ rfl (ql I0 rfl ?_)))
   refine BM h fun v5 a5 h => Az [2001] (Js N p0.fH v5 a5) ak rfl (qf DQ rfl (ql I0 rfl ?_))
   refine BM h fun v6 a6 h => Az [2002] (Js N p1.fH v6 a6) ak rfl ?_
   refine BM h fun v7 a7 h => Fi [] [2001, 2002] (IK N v5 v6 v7 a7) YO Dh rfl (qa rfl (AE (by kernel_rfl) ?_))
   obtain rfl := sj h
   refine Ah (sm [] [(4, iD v7)] [] rfl rfl) (Ar ?_)
   exact ⟨⟨[_], tm, rfl⟩, tv⟩
theorem M9 (N : Nat) (p0 : Af) (p1 : Af) (r : Bool) (h : zFS N p0 p1 = some r) : Au Tryz.prog 145 [.e (.agg (AL p0)), .e (.agg (AL p1))] [] (bD r) := by
 unfold zFS at h
 refine cw (n := 9) (rs := [.tmp 4]) Tryz.func145 fun w0 S0 => ?_
 refine wq rfl (qb rfl (qb rfl (qa rfl (Ad (wq rfl (qL BT AY rfl (qL BT AY rfl ?_)))))))
 refine BM h fun v1 a1 h => Az [] (Ma N p0 p1 v1 a1) cO rfl (BZ rfl (qe rfl ?_))
 obtain rfl := sj h
 refine Ah (sm [] [(4, bD ((v1 == 0)))] [] rfl rfl) (Ar ?_)
 exact ⟨⟨[_], tm, rfl⟩, tv⟩
theorem NF (N : Nat) (p0 : List AK) (p1 : Af) (r : Int) (h : Fq N p0 p1 = some r) : Au Tryz.prog 120 [pD (.sl (p0.map C1)), .e (.agg (AL p1))] [] (iD r) := by
 unfold Fq at h
 refine cw (n := 20) (rs := [.tmp 4]) Tryz.func120 fun w0 S0 => ?_
 refine wq rfl (qb rfl (qa rfl (Ad (wp rfl (qe rfl ?_)))))
 refine Ax (L := C7 N p0 p1) h (fun v1 => mk [(0, pD (.sl (p0.map C1))), (3, oD (.ptr 3 0)), (5, iD v1)] [(3, .box (AL p1))]) (fun v2 => mk [] []) (fun _ _ => rfl) (sm [] _ _ rfl rfl) (fun j1 n1 v1 h => ?_) (fun v2 s h hs => ?_)
 ·unfold C7 at h
  refine wp rfl (qw 2 rfl (AV La rfl (AX rfl (Ad ?_))))
  refine A9 h (fun h => ?_) fun h => ?_
  ·refine Al (AN (AG (wq rfl (qw 2 rfl ?_))))
   refine Bc h fun v4 a4 b4 h => qi La So a4 (Ae b4) rfl (qg Qg rfl (qK BT AY rfl (qL BT AY rfl ?_)))
   refine BM h fun v5 a5 h => Az [] (M9 N ((Af.mk v4.fY.fG v4.fY.fD v4.fY.fH)) p1 v5 a5) dO rfl (AE (by kernel_rfl) ?_)
   refine A9 h (fun h => ?_) fun h => ?_
   ·refine wq rfl (qm rfl (qe rfl ?_))
    obtain rfl := sj h
    refine Ah (sm [] [(4, iD v1)] [] rfl rfl) (Ar ?_)
    exact ⟨⟨[_], tm, rfl⟩, tv⟩
   ·refine Al (Ai As rfl (qm rfl (AT rfl (qe rfl ?_))))
    exact sn [] h
  ·refine AS ?_
   exact sn [] h
 ·refine Ah hs (wq rfl (qe rfl ?_))
  obtain rfl := sj h
  refine Ah (sm [] [(4, iD ((-1)))] [] rfl rfl) (Ar ?_)
  exact ⟨⟨[_], tm, rfl⟩, tv⟩
theorem M3 (N : Nat) (p0 : Ac) (p1 : Af) (p2 : Int) (r : (List AK) × Bool) (h : E9 N p0 p1 p2 = some r) : Au Tryz.prog 85 [.e (.agg (Aj p0)), .e (.agg (AL p1)), iD p2] [(7, r.1.map C1)] (.tup [.one (.own 0), .one (.pure (.val (.bool r.2)))]) := by
 unfold E9 at h
 refine cw (n := 74) (rs := [.tmp 6, .tmp 7]) Tryz.func85 fun w0 S0 => ?_
 refine wq rfl (qb rfl (qb rfl (qa rfl (qa rfl (Ad (wq rfl (qL BT AY rfl (A6 TU aE rfl (Fg La So TU rfl (qa rfl (Ad (wp rfl (qe rfl ?_)))))))))))))
 refine Ax (L := Cg N p0 p2) h (fun v1 => mk [(2, iD p2), (3, oD (.ptr 3 0)), (8, oD (.own 2001)), (9, iD v1.2)] [(3, .box (Aj p0)), (2001, .vec 7 (v1.1.map C1))]) (fun v2 => mk [(8, oD (.own 2002))] [(2002, .vec 7 (v2.map C1))]) (fun _ _ => rfl) (sm [(2001, 16)] _ _ rfl rfl) (fun j1 n1 v1 h => ?_) (fun v2 s h hs => ?_)
 ·unfold Cg at h
  refine wp rfl (qw 2 rfl (DV La rfl (AX rfl (Ad ?_))))
  refine A9 h (fun h => ?_) fun h => ?_
  ·refine Al (AN (AG (wq rfl (qL Db Cb rfl (qw 2 rfl ?_)))))
   refine Bc h fun v4 a4 b4 h => qI La So a4 (Ae b4) rfl (qh Qg rfl ?_)
   refine T5 (.p rfl) rfl BT AY rfl (Ae b4) rfl rfl (by decide) ?_
   refine BM h fun v5 a5 h => Az [2003] (Ni N p0 ((Af.mk v4.fY.fG v4.fY.fD v4.fY.fH)) v5 a5) dS rfl (qa rfl (AE (by kernel_rfl) (wq rfl (qe rfl ?_))))
   refine Ax (L := Ce N p0 p2 v1 v5) h (fun v6 => mk [(2, iD p2), (3, oD (.ptr 3 0)), (8, oD (.own 2004)), (9, iD v1.2), (10, oD (.own 2005)), (11, iD v6.2)] [(3, .box (Aj p0)), (2004, .vec 7 (v6.1.map C1)), (2005, .vec 3 (v5.map AJ))]) (fun v7 => mk [(2, iD p2), (3, oD (.ptr 3 0)), (8, oD (.own 2006)), (9, iD v1.2)] [(3, .box (Aj p0)), (2006, .vec 7 (v7.map C1))]) (fun _ _ => rfl) (sm [(2004, 2001), (2005, 2003)] _ _ rfl rfl) (fun j6 n6 v6 h => ?_) (fun v7 s h hs => ?_)
   ·unfold Ce at h
    refine wp rfl (qw 2 rfl (DV FH rfl (AX rfl (Ad ?_))))
    refine A9 h (fun h => ?_) fun h => ?_
    ·refine Al (AN (AG (wq rfl (qL Db Cb rfl (qw 2 rfl ?_)))))
     refine Bc h fun v9 a9 b9 h => qI La So a9 (Ae b9) rfl (qh Qg rfl ?_)
     refine T5 (.p rfl) rfl BT AY rfl (Ae b9) rfl rfl (by decide) ?_
     refine qw 2 rfl ?_
     refine Bc h fun v10 a10 b10 h => qI FH DK a10 (Ae b10) rfl (qJ HV DK (Ae b10) rfl ?_)
     refine BM h fun v11 a11 h => Az [2007, 2008, 2009] (J1 N p0 ((Af.mk v9.fY.fG v9.fY.fD v9.fY.fH)) v10 v11 a11) aJ rfl (qm rfl (qx rfl (qx rfl (qz EJ rfl (qs AY rfl (qa rfl (AE (by kernel_rfl) ?_)))))))
     refine AP h (fun v12 => mk [(2, iD p2), (3, oD (.ptr 3 0)), (8, oD (.own 2010)), (9, iD v1.2), (10, oD (.own 2011)), (11, iD v6.2)] [(3, .box (Aj p0)), (2010, .vec 7 (v12.map C1)), (2011, .vec 3 (v5.map AJ))]) (fun j12 h => ?_) (fun v12 h => ?_)
     ·refine AP h (fun v13 => mk [(2, iD p2), (3, oD (.ptr 3 0)), (8, oD (.own 2015)), (9, iD v1.2), (10, oD (.own 2016)), (11, iD v6.2), (12, oD (.ptr 12 0)), (58, bD v13)] [(3, .box (Aj p0)), (12, .box [.own 2012, .own 2013, .own 2014]), (2012, .vec 1 (v11.1.fG.map Aq)), (2013, .vec 1 (v11.1.fD.map Aq)), (2014, .vec 1 (v11.1.fH.map Ex)), (2015, .vec 7 (v6.1.map C1)), (2016, .vec 3 (v5.map AJ))]) (fun j13 h => ?_) (fun v13 h => ?_)
      ·refine Ai As rfl (qL Db Cb rfl (qL BT AY rfl ?_))
       refine BM h fun v14 a14 h => Fi [] [2007, 2008, 2009] (Jl N p0 v11.1 v14 a14) dp Dh rfl (qm rfl ?_)
       refine E8 53 h rfl (fun h => ?_) fun h => ?_
       ·refine qm rfl (qL BT AY rfl ?_)
        refine BM h fun v16 a16 h => Fi [] [2004, 2007, 2008, 2009] (NF N v6.1 v11.1 v16 a16) dK Dh rfl (AX rfl (qp rfl (Ad ?_)))
        exact sn [(2012, 2007), (2013, 2008), (2014, 2009), (2015, 2004), (2016, 2005)] h
       ·refine qw 4 rfl (qp rfl (Ad ?_))
        exact sn [(2012, 2007), (2013, 2008), (2014, 2009), (2015, 2004), (2016, 2005)] h
      ·refine A9 h (fun h => ?_) fun h => ?_
       ·refine Ah (Br 2012 _ _ rfl rfl) (Ah (Br 2013 _ _ rfl rfl) (Ah (Br 2014 _ _ rfl rfl) (Ai As rfl (qm rfl (qL BT AY rfl (qw 3 rfl ?_))))))
        refine Bc h fun v18 a18 b18 h => qI FH DK a18 (Ae b18) rfl (qJ HV DK (Ae b18) rfl (A6 TU aE rfl (Fg La So TU rfl ?_)))
        refine GK h fun c19 h => EM (f := C1) La La So bb TU c19 rfl (qa rfl (AE (by kernel_rfl) ?_))
        exact sn [(2010, 68), (2011, 2016)] h
       ·refine Al ?_
        exact sn [(2010, 2015), (2011, 2016)] h
     ·refine wq rfl (qm rfl (DV La rfl (qm rfl (Gx rfl (Ad ?_)))))
      refine A9 h (fun h => ?_) fun h => ?_
      ·refine wq rfl (qa rfl (qe rfl ?_))
       obtain rfl := sj h
       refine Ah ((Bl 6 2017 7 rfl rfl rfl).trans (sm [(1000, 2017)] [(6, oD (.own 1000)), (7, bD false)] [(1000, .vec 7 ((([] : List AK)).map C1))] rfl rfl)) (Ar ?_)
       exact ⟨⟨[_, _], ⟨.tmp _ _ rfl, tm⟩, rfl⟩, ⟨rfl, tv⟩⟩
      ·refine Al (Ai As rfl (qm rfl (AT rfl (qe rfl ?_))))
       exact sn [(2004, 2010), (2005, 2011)] h
    ·refine AS ?_
     exact sn [(2006, 2004)] h
   ·refine Ah hs (Ai As rfl (qm rfl (AT rfl (qe rfl ?_))))
    exact sn [(2001, 2006)] h
  ·refine AS ?_
   exact sn [(2002, 2001)] h
 ·refine Ah hs (wq rfl (qm rfl (qa rfl (qe rfl ?_))))
  obtain rfl := sj h
  refine Ah (sm [(1000, 2002)] [(6, oD (.own 1000)), (7, bD true)] [(1000, .vec 7 (v2.map C1))] rfl rfl) (Ar ?_)
  exact ⟨⟨[_, _], ⟨.tmp _ _ rfl, tm⟩, rfl⟩, ⟨rfl, tv⟩⟩
theorem Nc (N : Nat) (p0 : Ac) (p1 : Int) (r : Bool) (h : F4 N p0 p1 = some r) : Au Tryz.prog 59 [.e (.agg (Aj p0)), iD p1] [] (bD r) := by
 unfold F4 at h
 refine cw (n := 30) (rs := [.tmp 4]) Tryz.func59 fun w0 S0 => ?_
 refine wq rfl (qb rfl (qa rfl (Ad (wq rfl (qL Db Cb rfl ?_)))))
 refine BM h fun v1 a1 h => Az [2001, 2002, 2003] (JZ N p0 v1 a1) cV rfl (qm rfl (qx rfl (qx rfl (qz EJ rfl (qs AY rfl (qa rfl (Ad (AN ?_))))))))
 refine AP h (fun v2 => mk [(1, iD p1), (2, oD (.ptr 2 0)), (5, oD (.ptr 5 0)), (21, bD v2)] [(2, .box (Aj p0)), (5, .box [.own 2004, .own 2005, .own 2006]), (2004, .vec 1 (v1.1.fG.map Aq)), (2005, .vec 1 (v1.1.fD.map Aq)), (2006, .vec 1 (v1.1.fH.map Ex))]) (fun j2 h => ?_) (fun v2 h => ?_)
 ·refine Ai As rfl (qm rfl (Cf rfl (qm rfl ?_)))
  refine E8 16 h rfl (fun h => ?_) fun h => ?_
  ·refine qw 4 rfl (qp rfl (Ad ?_))
   exact sn [(2004, 2001), (2005, 2002), (2006, 2003)] h
  ·refine qL Db Cb rfl (qL BT AY rfl ?_)
   refine BM h fun v4 a4 h => Fi [] [2001, 2002, 2003] (Jl N p0 v1.1 v4 a4) dp Dh rfl (CL rfl (qp rfl (Ad ?_)))
   exact sn [(2004, 2001), (2005, 2002), (2006, 2003)] h
 ·refine A9 h (fun h => ?_) fun h => ?_
  ·refine wq rfl (qe rfl ?_)
   obtain rfl := sj h
   refine Ah (sm [] [(4, bD true)] [] rfl rfl) (Ar ?_)
   exact ⟨⟨[_], tm, rfl⟩, tv⟩
  ·refine Al (wq rfl (qL Db Cb rfl (qL BT AY rfl (qm rfl (EQ (Br 2004 _ _ rfl rfl) (EQ (Br 2005 _ _ rfl rfl) (EQ (Br 2006 _ _ rfl rfl) ?_)))))))
   refine BM h fun v6 a6 h => Az [2007] (M3 N p0 v1.1 p1 v6 a6) eD rfl (qm rfl (qx rfl (qx rfl (qa rfl (qa rfl (Ad (wq rfl (qm rfl (qe rfl ?_)))))))))
   obtain rfl := sj h
   refine Ah (sm [] [(4, bD v6.2)] [] rfl rfl) (Ar ?_)
   exact ⟨⟨[_], tm, rfl⟩, tv⟩
theorem Nf (N : Nat) (p0 : Ac) (r : Bool) (h : GQ N p0 = some r) : Au Tryz.prog 33 [.e (.agg (Aj p0))] [] (bD r) := by
 unfold GQ at h
 refine cw (n := 15) (rs := [.tmp 2]) Tryz.func33 fun w0 S0 => ?_
 refine wq rfl (qb rfl (qa rfl (Ad (wq rfl (qL Db Cb rfl ?_)))))
 refine BM h fun v1 a1 h => Az [2001] (Mb N p0 v1 a1) fr rfl (qe rfl ?_)
 refine AP h (fun v2 => mk [(2, bD v2)] []) (fun j2 h => ?_) (fun v2 h => ?_)
 ·refine Ai As rfl (qm rfl (DV AQ rfl (LE rfl (qm rfl ?_))))
  refine E8 9 h rfl (fun h => ?_) fun h => ?_
  ·refine qL Db Cb rfl (qm rfl (EQ (Br 2001 _ _ rfl rfl) ?_))
   refine BM h fun v4 a4 h => Az [2002, 2003, 2004] (Ny N p0 v1 v4 a4) eS rfl ?_
   refine BM h fun v5 a5 h => Fi [] [2002, 2003, 2004] (Nc N v4 60 v5 a5) fh Dh rfl (qp rfl (qe rfl ?_))
   exact sn [] h
  ·refine qw 4 rfl (qp rfl (qe rfl ?_))
   exact sn [] h
 ·obtain rfl := sj h
  refine Ah (sm [] [(2, bD v2)] [] rfl rfl) (Ar ?_)
  exact ⟨⟨[_], tm, rfl⟩, tv⟩
theorem Pi (N : Nat) (p0 : B1) (r : Ac × Bool) (h : G1 N p0 = some r) : Au Tryz.prog 10 [.e (.agg (DD p0))] [(1, r.1.fE.map Aq), (1, r.1.fK.map Aq), (1, r.1.fP.map Aq), (6, r.1.fF.map AI)] (.tup [.agg [.own 0, .own 1, .own 2, .own 3], .one (.pure (.val (.bool r.2)))]) := by
 unfold G1 at h
 refine cw (n := 23) (rs := [.cell 2 29, .tmp 3]) Tryz.func10 fun w0 S0 => ?_
 refine wq rfl (qb rfl (qz K9 rfl (qa rfl (Ad (wq rfl (qL cv dM rfl ?_))))))
 refine BM h fun v1 a1 h => Az [2001, 2002, 2003, 2004] (O4 N p0 v1 a1) eJ rfl (qm rfl (qx rfl (qx rfl (qz K9 rfl (qs Cb rfl (qe rfl ?_))))))
 refine AP h (fun v2 => mk [(2, oD (.ptr 2 0)), (3, bD v2)] [(2, .box [.own 2005, .own 2006, .own 2007, .own 2008]), (2005, .vec 1 (v1.1.fE.map Aq)), (2006, .vec 1 (v1.1.fK.map Aq)), (2007, .vec 1 (v1.1.fP.map Aq)), (2008, .vec 6 (v1.1.fF.map AI))]) (fun j2 h => ?_) (fun v2 h => ?_)
 ·refine Ai As rfl (qL Db Cb rfl (qw 2 rfl ?_))
  refine E8 13 h rfl (fun h => ?_) fun h => ?_
  ·refine qf BH rfl (ql Bg rfl (DV AD rfl (LE rfl (qp rfl (qm rfl ?_)))))
   refine E8 19 h rfl (fun h => ?_) fun h => ?_
   ·refine qL Db Cb rfl ?_
    refine BM h fun v5 a5 h => Fi [] [2001, 2002, 2003, 2004] (Nf N v1.1 v5 a5) fc Dh rfl (qp rfl (qs Cb rfl (qa rfl (AE (by kernel_rfl) ?_))))
    exact sn [(2005, 2001), (2006, 2002), (2007, 2003), (2008, 2004)] h
   ·refine qw 2 rfl (qp rfl (qs Cb rfl (qa rfl (AE (by kernel_rfl) ?_))))
    exact sn [(2005, 2001), (2006, 2002), (2007, 2003), (2008, 2004)] h
  ·refine qw 4 rfl (qp rfl (qw 3 rfl (qp rfl (qs Cb rfl (qa rfl (AE (by kernel_rfl) ?_))))))
   exact sn [(2005, 2001), (2006, 2002), (2007, 2003), (2008, 2004)] h
 ·obtain rfl := sj h
  refine Ah (sm [(1000, 2005), (1001, 2006), (1002, 2007), (1003, 2008)] [(2, oD (.ptr 2 0)), (3, bD v2)] [(2, .box [.own 1000, .own 1001, .own 1002, .own 1003]), (1000, .vec 1 (v1.1.fE.map Aq)), (1001, .vec 1 (v1.1.fK.map Aq)), (1002, .vec 1 (v1.1.fP.map Aq)), (1003, .vec 6 (v1.1.fF.map AI))] rfl rfl) (Ar ?_)
  exact ⟨⟨[_, _], ⟨.cellN _ _ _ _ _ _ _ rfl rfl Db Cb rfl rfl (IL rfl), tm⟩, rfl⟩, ⟨rfl, rfl, rfl, rfl, tv⟩⟩
theorem GF (N : Nat) (r : Ac) (h : Es N = some r) : Au Tryz.prog 34 [] [(1, r.fE.map Aq), (1, r.fK.map Aq), (1, r.fP.map Aq), (6, r.fF.map AI)] (.e (.agg [.own 0, .own 1, .own 2, .own 3])) := by
 unfold Es at h
 refine cw (n := 12) (rs := [.cell 0 29]) Tryz.func34 fun w0 S0 => ?_
 refine wq rfl (qz K9 rfl (Ad (wq rfl (Fg Ff Nv Wm rfl (Fg Ff Nv Wm rfl (EQ (Br 2 _ _ rfl rfl) (EQ (Br 3 _ _ rfl rfl) (Fg Ed I2 SJ rfl (A6 Kc dw rfl (qz Kc rfl (qs DB rfl (Ad (wq rfl (Fg AD Ep LG rfl (Fg AD Ep LG rfl (Fg AD Ep LG rfl (qL HZ DB rfl (EQ (Br 4 _ _ rfl rfl) (Fg Dc DB Kc rfl (A6 K9 Vg rfl (qs Cb rfl (Ad ?_))))))))))))))))))))))
 obtain rfl := sj h
 refine Ah (sm [(1000, 6), (1001, 7), (1002, 8), (1003, 10)] [(0, oD (.ptr 0 0))] [(0, .box [.own 1000, .own 1001, .own 1002, .own 1003]), (1000, .vec 1 ((([2, 2] : List Int)).map Aq)), (1001, .vec 1 ((([0, 0] : List Int)).map Aq)), (1002, .vec 1 ((([1, 1] : List Int)).map Aq)), (1003, .vec 6 ((([(An.mk 1 0 1 false (([([true, false] : List Bool), ([false, true] : List Bool)] : List (List Bool))) (([] : List (List Bool))))] : List An)).map AI))] rfl rfl) (Ar ?_)
 exact ⟨⟨[_], ⟨.cellN _ _ _ _ _ _ _ rfl rfl Db Cb rfl rfl (IL rfl), tv⟩, rfl⟩, ⟨rfl, rfl, rfl, rfl, tv⟩⟩
theorem Jc (N : Nat) (p0 : Int) (p1 : Int) (r : Bool) (h : Fu N p0 p1 = some r) : Au Tryz.prog 76 [iD p0, iD p1] [] (bD r) := by
 unfold Fu at h
 refine cw (n := 12) (rs := [.tmp 4]) Tryz.func76 fun w0 S0 => ?_
 refine wq rfl (qe rfl ?_)
 refine AP h (fun v1 => mk [(4, bD v1)] []) (fun j1 h => ?_) (fun v1 h => ?_)
 ·refine Ai As rfl (qm rfl (D4 rfl (qm rfl ?_)))
  refine E8 7 h rfl (fun h => ?_) fun h => ?_
  ·refine qw 2 rfl (AX rfl (qp rfl (qe rfl ?_)))
   exact sn [] h
  ·refine qw 3 rfl (qp rfl (qe rfl ?_))
   exact sn [] h
 ·obtain rfl := sj h
  refine Ah (sm [] [(4, bD v1)] [] rfl rfl) (Ar ?_)
  exact ⟨⟨[_], tm, rfl⟩, tv⟩
theorem Tl (N : Nat) (p0 : Int) (p1 : Bool) (r : Bool) (h : Ix N p0 p1 = some r) : Au Tryz.prog 110 [iD p0, bD p1] [] (bD r) := by
 unfold Ix at h
 refine cw (n := 23) (rs := [.tmp 4]) Tryz.func110 fun w0 S0 => ?_
 refine wq rfl (qe rfl ?_)
 refine AP h (fun v1 => mk [(4, bD v1)] []) (fun j1 h => ?_) (fun v1 h => ?_)
 ·refine Ai As rfl (qm rfl (BZ rfl (qm rfl ?_)))
  refine E8 7 h rfl (fun h => ?_) fun h => ?_
  ·refine qw 2 rfl (qp rfl (qw 4 rfl (qu rfl (qu rfl (qw 2 rfl (qu rfl (qu rfl (qn rfl (qp rfl (qe rfl ?_))))))))))
   exact sn [] h
  ·refine qm rfl (BZ rfl (qp rfl (qm rfl ?_)))
   refine E8 11 h rfl (fun h => ?_) fun h => ?_
   ·refine qw 3 rfl (qu rfl (qu rfl (qw 2 rfl (qu rfl (qu rfl (qn rfl (qp rfl (qe rfl ?_))))))))
    exact sn [] h
   ·refine qm rfl (BZ rfl (qm rfl ?_))
    refine E8 14 h rfl (fun h => ?_) fun h => ?_
    ·refine qw 2 rfl (qp rfl (qw 2 rfl (CL rfl (qp rfl (qp rfl (qe rfl ?_))))))
     exact sn [] h
    ·refine qm rfl (BZ rfl (qp rfl (qm rfl ?_)))
     refine E8 18 h rfl (fun h => ?_) fun h => ?_
     ·refine qm rfl (CL rfl (qp rfl (qp rfl (qe rfl ?_))))
      exact sn [] h
     ·refine qw 2 rfl (qp rfl (qp rfl (qe rfl ?_)))
      exact sn [] h
 ·obtain rfl := sj h
  refine Ah (sm [] [(4, bD v1)] [] rfl rfl) (Ar ?_)
  exact ⟨⟨[_], tm, rfl⟩, tv⟩
theorem Pe (N : Nat) (p0 : List Bool) (p1 : Int) (r : Bool) (h : Fo N p0 p1 = some r) : Au Tryz.prog 141 [pD (.sl (p0.map eB)), oD (.rop [.val (.int .i64 p1)])] [] (bD r) := by
 unfold Fo at h
 refine cw (n := 8) (rs := [.tmp 3]) Tryz.func141 fun w0 S0 => ?_
 refine wq rfl (qa rfl (Ad (wq rfl (qm rfl (AV Ff rfl (qk CN rfl (Cf rfl (qe rfl ?_))))))))
 obtain rfl := sj h
 refine Ah (sm [] [(3, bD (((p0.length : Int) != p1)))] [] rfl rfl) (Ar ?_)
 exact ⟨⟨[_], tm, rfl⟩, tv⟩
theorem JW (N : Nat) (p0 : List (List Bool)) (p1 : (List Bool) → Option Bool) (r : Int) (h : EH N p0 p1 = some r) : Au Tryz.prog 154 [pD (.sl (p0.map (FN eB))), oD (.clo (CD (PR false (FN eB)) tB p1))] [] (iD r) := by
 unfold EH at h
 refine cw (n := 19) (rs := [.tmp 4]) Tryz.func154 fun w0 S0 => ?_
 refine wq rfl (qa rfl (Ad (wp rfl (qm rfl (AV Ed rfl (qm rfl (Ad ?_)))))))
 refine Ax (L := BJ N p0 p1) h (fun v1 => mk [(0, pD (.sl (p0.map (FN eB)))), (1, oD (.clo (CD (PR false (FN eB)) tB p1))), (7, iD ((p0.length : Int))), (8, iD v1)] []) (fun v2 => mk [] []) (fun _ _ => rfl) (sm [] _ _ rfl rfl) (fun j1 n1 v1 h => ?_) (fun v2 s h hs => ?_)
 ·unfold BJ at h
  refine wq rfl (AX rfl (Ad (AN ?_)))
  refine A9 h (fun h => ?_) fun h => ?_
  ·refine Al (AN (AG (wq rfl (qm rfl (qa rfl (Ad (wq rfl (qw 3 rfl ?_))))))))
   refine Bc h fun v4 a4 b4 h => qi Ed I2 a4 (Ae b4) rfl (qk ML rfl ?_)
   refine BM h fun v5 a5 h => Gk (ds0 := [_]) (ar := (PR false (FN eB)) v4) (.p rfl) rfl rfl ⟨rfl, tv⟩ rfl rfl rfl (Gg (Oi _ _ (ei fm)) a5) ?_
   refine Ad ?_
   refine A9 h (fun h => ?_) fun h => ?_
   ·refine wq rfl (qm rfl (qe rfl ?_))
    obtain rfl := sj h
    refine Ah (sm [] [(4, iD v1)] [] rfl rfl) (Ar ?_)
    exact ⟨⟨[_], tm, rfl⟩, tv⟩
   ·refine Al (Ai As rfl (AT rfl (qm rfl (Ad ?_))))
    exact sn [] h
  ·refine AS ?_
   exact sn [] h
 ·refine Ah hs (wq rfl (qe rfl ?_))
  obtain rfl := sj h
  refine Ah (sm [] [(4, iD ((-1)))] [] rfl rfl) (Ar ?_)
  exact ⟨⟨[_], tm, rfl⟩, tv⟩
theorem Jp (N : Nat) (p0 : List (List Bool)) (p1 : (List Bool) → Option Bool) (r : Bool) (h : D6 N p0 p1 = some r) : Au Tryz.prog 140 [pD (.sl (p0.map (FN eB))), oD (.clo (CD (PR false (FN eB)) tB p1))] [] (bD r) := by
 unfold D6 at h
 refine cw (n := 9) (rs := [.tmp 4]) Tryz.func140 fun w0 S0 => ?_
 refine wq rfl (qa rfl (Ad (wq rfl (qw 2 rfl ?_))))
 refine BM h fun v1 a1 h => Az [] (JW N p0 p1 v1 a1) eb rfl (D4 rfl (qe rfl ?_))
 obtain rfl := sj h
 refine Ah (sm [] [(4, bD ((decide (0 ≤ v1))))] [] rfl rfl) (Ar ?_)
 exact ⟨⟨[_], tm, rfl⟩, tv⟩
theorem Mt (N : Nat) (p0 : List (List Bool)) (p1 : Int) (p2 : Int) (r : Bool) (h : GN N p0 p1 p2 = some r) : Au Tryz.prog 111 [pD (.sl (p0.map (FN eB))), iD p1, iD p2] [] (bD r) := by
 unfold GN at h
 refine cw (n := 17) (rs := [.tmp 6]) Tryz.func111 fun w0 S0 => ?_
 refine wq rfl (qb rfl (qe rfl ?_))
 refine AP h (fun v1 => mk [(6, bD v1)] []) (fun j1 h => ?_) (fun v1 h => ?_)
 ·refine Ai As rfl (qm rfl (AV Ed rfl (qm rfl (BZ rfl (qm rfl ?_)))))
  refine E8 11 h rfl (fun h => ?_) fun h => ?_
  ·refine qm rfl (EQ (N9 5 [.val (.int .i64 p2)] rfl rfl) ?_)
   refine NH (capD := [_]) (CD (PR false (FN eB)) tB ((fun (x : List Bool) => Fo N x p2))) (.g rfl rfl) dY rfl ⟨rfl, tv⟩ rfl (fun ar t ht => by obtain ⟨x, r, rfl, hq, rfl⟩ := LF ht; exact Pe N x p2 r hq) ?_
   refine BM h fun v3 a3 h => Az [] (Jp N p0 ((fun (x : List Bool) => Fo N x p2)) v3 a3) cM rfl (CL rfl (qp rfl (qe rfl ?_)))
   exact sn [] h
  ·refine qw 4 rfl (qp rfl (qe rfl ?_))
   exact sn [] h
 ·obtain rfl := sj h
  refine Ah (sm [] [(6, bD v1)] [] rfl rfl) (Ar ?_)
  exact ⟨⟨[_], tm, rfl⟩, tv⟩
theorem RA (N : Nat) (p0 : Ac) (p1 : An) (r : Int) (h : H6 N p0 p1 = some r) : Au Tryz.prog 77 [.e (.agg (Aj p0)), .e (.agg (Bv p1))] [] (iD r) := by
 unfold H6 at h
 refine cw (n := 87) (rs := [.tmp 4]) Tryz.func77 fun w0 S0 => ?_
 refine wq rfl (qb rfl (qb rfl (qa rfl (Ad (wp rfl (qf HO rfl (ql CN rfl (qf K2 rfl (ql TD rfl ?_)))))))))
 refine BM h fun v1 a1 h => Az [] (Tl N p1.fI p1.fR v1 a1) du rfl (CL rfl (Ad ?_))
 refine A9 h (fun h => ?_) fun h => ?_
 ·refine wq rfl (qe rfl ?_)
  obtain rfl := sj h
  refine Ah (sm [] [(4, iD 1)] [] rfl rfl) (Ar ?_)
  exact ⟨⟨[_], tm, rfl⟩, tv⟩
 ·refine Al (AN ?_)
  refine AP h (fun v3 => mk [(2, oD (.ptr 2 0)), (3, oD (.ptr 3 0)), (29, bD v3)] [(2, .box (Aj p0)), (3, .box (Bv p1))]) (fun j3 h => ?_) (fun v3 h => ?_)
  ·refine Ai As rfl (qf Eu rfl (ql CN rfl (qf BH rfl (ql Bg rfl (AV AD rfl ?_)))))
   refine BM h fun v4 a4 h => Az [] (Jc N p1.fJ ((p0.fE.length : Int)) v4 a4) ah rfl (CL rfl (qm rfl ?_))
   refine E8 21 h rfl (fun h => ?_) fun h => ?_
   ·refine qw 7 rfl (qp rfl (Ad ?_))
    exact sn [] h
   ·refine qf Ke rfl (ql CN rfl (qf BH rfl (ql Bg rfl (AV AD rfl ?_))))
    refine BM h fun v6 a6 h => Az [] (Jc N p1.fO ((p0.fE.length : Int)) v6 a6) ah rfl (CL rfl (qp rfl (Ad ?_)))
    exact sn [] h
  ·refine A9 h (fun h => ?_) fun h => ?_
   ·refine wq rfl (qe rfl ?_)
    obtain rfl := sj h
    refine Ah (sm [] [(4, iD 4)] [] rfl rfl) (Ar ?_)
    exact ⟨⟨[_], tm, rfl⟩, tv⟩
   ·refine Al (wq rfl (qf BH rfl (ql Bg rfl (qf Eu rfl (ql CN rfl ?_)))))
    refine Bc h fun v8 a8 b8 h => qi AD Ep a8 (Ae b8) rfl (qk CN rfl (qa rfl (Ad (wq rfl (qf HO rfl (ql CN rfl (BZ rfl (qa rfl (Ad (AN ?_))))))))))
    refine AP h (fun v9 => mk [(3, oD (.ptr 3 0)), (70, bD v9)] [(3, .box (Bv p1))]) (fun j9 h => ?_) (fun v9 h => ?_)
    ·refine Ai As rfl (qf FB rfl (ql HR rfl (qm rfl (qf BH rfl (ql Bg rfl (qf Ke rfl (ql CN rfl ?_)))))))
     refine Bc h fun v10 a10 b10 h => qi AD Ep a10 (Ae b10) rfl (qk CN rfl ?_)
     refine BM h fun v11 a11 h => Az [] (Mt N p1.fN v8 v10 v11 a11) aH rfl (CL rfl (qm rfl ?_))
     refine E8 50 h rfl (fun h => ?_) fun h => ?_
     ·refine qw 2 rfl (qu rfl (qu rfl (qu rfl (qu rfl (qu rfl (qu rfl (qn rfl (qp rfl (qw 4 rfl (qu rfl (qu rfl (qu rfl (qu rfl (qn rfl (qp rfl (AE (by kernel_rfl) ?_))))))))))))))))
      exact sn [] h
     ·refine qw 2 rfl ?_
      refine E8 52 h rfl (fun h => ?_) fun h => ?_
      ·refine qf FC rfl (ql HR rfl (qw 2 rfl ?_))
       refine BM h fun v14 a14 h => Az [] (Mt N p1.fQ v8 v8 v14 a14) aH rfl (CL rfl (qp rfl (qp rfl (qm rfl ?_))))
       refine E8 61 h rfl (fun h => ?_) fun h => ?_
       ·refine qw 3 rfl (qu rfl (qu rfl (qu rfl (qu rfl (qn rfl (qp rfl (AE (by kernel_rfl) ?_)))))))
        exact sn [] h
       ·refine qm rfl (CL rfl (qm rfl ?_))
        refine E8 64 h rfl (fun h => ?_) fun h => ?_
        ·refine qf FC rfl (ql HR rfl (AV Ed rfl (Gx rfl (qp rfl (qp rfl (AE (by kernel_rfl) ?_))))))
         exact sn [] h
        ·refine qw 4 rfl (qp rfl (qp rfl (AE (by kernel_rfl) ?_)))
         exact sn [] h
      ·refine qw 6 rfl (qp rfl (qp rfl (qw 2 rfl (CL rfl (qm rfl ?_)))))
       refine E8 64 h rfl (fun h => ?_) fun h => ?_
       ·refine qf FC rfl (ql HR rfl (AV Ed rfl (Gx rfl (qp rfl (qp rfl (AE (by kernel_rfl) ?_))))))
        exact sn [] h
       ·refine qw 4 rfl (qp rfl (qp rfl (AE (by kernel_rfl) ?_)))
        exact sn [] h
    ·refine A9 h (fun h => ?_) fun h => ?_
     ·refine wq rfl (qe rfl ?_)
      obtain rfl := sj h
      refine Ah (sm [] [(4, iD 6)] [] rfl rfl) (Ar ?_)
      exact ⟨⟨[_], tm, rfl⟩, tv⟩
     ·refine Al (wp rfl (qf FC rfl (ql HR rfl (AV Ed rfl (qm rfl (Ad ?_))))))
      refine Ax (L := Ek N p1) h (fun v19 => mk [(3, oD (.ptr 3 0)), (73, iD ((p1.fQ.length : Int))), (74, iD v19)] [(3, .box (Bv p1))]) (fun v20 => mk [] []) (fun _ _ => rfl) (sm [] _ _ rfl rfl) (fun j19 n19 v19 h => ?_) (fun v20 s h hs => ?_)
      ·unfold Ek at h
       refine wq rfl (AX rfl (Ad (AN ?_)))
       refine A9 h (fun h => ?_) fun h => ?_
       ·refine Al (AN (AG (wq rfl (qm rfl (qa rfl (Ad (wq rfl (qf FC rfl (ql HR rfl (qm rfl ?_))))))))))
        refine Bc h fun v22 a22 b22 h => qi Ed I2 a22 (Ae b22) rfl (qk ML rfl (qm rfl ?_))
        refine Bc h fun v23 a23 b23 h => qi Ff Nv a23 (Ae b23) rfl (qk TD rfl (CL rfl (Ad ?_)))
        refine A9 h (fun h => ?_) fun h => ?_
        ·refine wq rfl (qe rfl ?_)
         obtain rfl := sj h
         refine Ah (sm [] [(4, iD 1)] [] rfl rfl) (Ar ?_)
         exact ⟨⟨[_], tm, rfl⟩, tv⟩
        ·refine Al (Ai As rfl (AT rfl (qm rfl (Ad ?_))))
         exact sn [] h
       ·refine AS ?_
        exact sn [] h
      ·refine Ah hs (wq rfl (qe rfl ?_))
       obtain rfl := sj h
       refine Ah (sm [] [(4, iD 0)] [] rfl rfl) (Ar ?_)
       exact ⟨⟨[_], tm, rfl⟩, tv⟩
theorem E1 (N : Nat) (p0 : Ac) (r : Int) (h : BU N p0 = some r) : Au Tryz.prog 48 [.e (.agg (Aj p0))] [] (iD r) := by
 unfold BU at h
 refine cw (n := 81) (rs := [.tmp 2]) Tryz.func48 fun w0 S0 => ?_
 refine wq rfl (qb rfl (qa rfl (Ad (wq rfl (qf BH rfl (ql Bg rfl (AV AD rfl (qa rfl (Ad (AN ?_))))))))))
 refine AP h (fun v1 => mk [(1, oD (.ptr 1 0)), (3, iD ((p0.fE.length : Int))), (19, bD v1)] [(1, .box (Aj p0))]) (fun j1 h => ?_) (fun v1 h => ?_)
 ·refine Ai As rfl (qm rfl (Gx rfl (qm rfl ?_)))
  refine E8 14 h rfl (fun h => ?_) fun h => ?_
  ·refine qw 4 rfl (qp rfl (Ad ?_))
   exact sn [] h
  ·refine qf BK rfl (ql GZ rfl (AV Dc rfl (Gx rfl (qp rfl (Ad ?_)))))
   exact sn [] h
 ·refine A9 h (fun h => ?_) fun h => ?_
  ·refine wq rfl (qe rfl ?_)
   obtain rfl := sj h
   refine Ah (sm [] [(2, iD 3)] [] rfl rfl) (Ar ?_)
   exact ⟨⟨[_], tm, rfl⟩, tv⟩
  ·refine Al (AN ?_)
   refine AP h (fun v4 => mk [(1, oD (.ptr 1 0)), (31, bD v4)] [(1, .box (Aj p0))]) (fun j4 h => ?_) (fun v4 h => ?_)
   ·refine Ai As rfl (qf HJ rfl (ql Bg rfl (AV AD rfl (qm rfl (Cf rfl (qm rfl ?_))))))
    refine E8 25 h rfl (fun h => ?_) fun h => ?_
    ·refine qw 5 rfl (qp rfl (Ad ?_))
     exact sn [] h
    ·refine qf I6 rfl (ql Bg rfl (AV AD rfl (qm rfl (Cf rfl (qp rfl (Ad ?_))))))
     exact sn [] h
   ·refine A9 h (fun h => ?_) fun h => ?_
    ·refine wq rfl (qe rfl ?_)
     obtain rfl := sj h
     refine Ah (sm [] [(2, iD 6)] [] rfl rfl) (Ar ?_)
     exact ⟨⟨[_], tm, rfl⟩, tv⟩
    ·refine Al (wp rfl (qf BH rfl (ql Bg rfl (AV AD rfl (qm rfl (Ad ?_))))))
     refine Ax (L := CB N p0) h (fun v7 => mk [(1, oD (.ptr 1 0)), (33, pD (.sl (p0.fE.map Aq))), (34, iD ((p0.fE.length : Int))), (35, iD v7)] [(1, .box (Aj p0))]) (fun v8 => mk [(1, oD (.ptr 1 0))] [(1, .box (Aj p0))]) (fun _ _ => rfl) (sm [] _ _ rfl rfl) (fun j7 n7 v7 h => ?_) (fun v8 s h hs => ?_)
     ·unfold CB at h
      refine wq rfl (AX rfl (Ad (AN ?_)))
      refine A9 h (fun h => ?_) fun h => ?_
      ·refine Al (AN (AG (wq rfl (qm rfl ?_))))
       refine Bc h fun v10 a10 b10 h => qi AD Ep a10 (Ae b10) rfl (qk CN rfl (qa rfl (qe rfl ?_)))
       refine AP h (fun v11 => mk [(1, oD (.ptr 1 0)), (33, pD (.sl (p0.fE.map Aq))), (34, iD ((p0.fE.length : Int))), (35, iD v7), (65, bD v11)] [(1, .box (Aj p0))]) (fun j11 h => ?_) (fun v11 h => ?_)
       ·refine Ai As rfl (qm rfl (AX rfl (qm rfl ?_)))
        refine E8 42 h rfl (fun h => ?_) fun h => ?_
        ·refine qw 2 rfl (qp rfl (qw 9 rfl (qp rfl (qw 9 rfl (qp rfl (Ad ?_))))))
         exact sn [] h
        ·refine qm rfl (Gx rfl (qp rfl (qm rfl ?_)))
         refine E8 46 h rfl (fun h => ?_) fun h => ?_
         ·refine qw 8 rfl (qp rfl (qw 9 rfl (qp rfl (Ad ?_))))
          exact sn [] h
         ·refine qf HJ rfl (ql Bg rfl (qm rfl ?_))
          refine Bc h fun v14 a14 b14 h => qi AD Ep a14 (Ae b14) rfl (qk CN rfl (qm rfl ?_))
          refine BM h fun v15 a15 h => Az [] (Jc N v14 v10 v15 a15) ah rfl (CL rfl (qp rfl (qm rfl ?_)))
          refine E8 56 h rfl (fun h => ?_) fun h => ?_
          ·refine qw 8 rfl (qp rfl (Ad ?_))
           exact sn [] h
          ·refine qf I6 rfl (ql Bg rfl (qm rfl ?_))
           refine Bc h fun v17 a17 b17 h => qi AD Ep a17 (Ae b17) rfl (qk CN rfl (qm rfl ?_))
           refine BM h fun v18 a18 h => Az [] (Jc N v17 v10 v18 a18) ah rfl (CL rfl (qp rfl (Ad ?_)))
           exact sn [] h
       ·refine A9 h (fun h => ?_) fun h => ?_
        ·refine wq rfl (qe rfl ?_)
         obtain rfl := sj h
         refine Ah (sm [] [(2, iD 7)] [] rfl rfl) (Ar ?_)
         exact ⟨⟨[_], tm, rfl⟩, tv⟩
        ·refine Al (Ai As rfl (AT rfl (qm rfl (Ad ?_))))
         exact sn [] h
      ·refine AS ?_
       exact sn [] h
     ·refine Ah hs (wp rfl (qf BK rfl (ql GZ rfl (AV Dc rfl (qm rfl (Ad ?_))))))
      refine Ax (L := Ck N p0) h (fun v20 => mk [(1, oD (.ptr 1 0)), (68, pD (.sl (p0.fF.map AI))), (69, iD ((p0.fF.length : Int))), (70, iD v20)] [(1, .box (Aj p0))]) (fun v21 => mk [] []) (fun _ _ => rfl) (sm [] _ _ rfl rfl) (fun j20 n20 v20 h => ?_) (fun v21 s h hs => ?_)
      ·unfold Ck at h
       refine wq rfl (AX rfl (Ad (AN ?_)))
       refine A9 h (fun h => ?_) fun h => ?_
       ·refine Al (AN (AG (wq rfl ?_)))
        refine Bc h fun v23 a23 b23 h => qi Dc DB a23 (Ae b23) rfl (qK HZ DB rfl (qz Kc rfl (qs DB rfl (Ad (wq rfl (qL Db Cb rfl (qL HZ DB rfl ?_)))))))
        refine BM h fun v24 a24 h => Az [] (RA N p0 v23 v24 a24) eT rfl (qa rfl (Ad (wq rfl (qm rfl (Cf rfl (Ad ?_))))))
        refine A9 h (fun h => ?_) fun h => ?_
        ·refine wq rfl (qm rfl (qe rfl ?_))
         obtain rfl := sj h
         refine Ah (sm [] [(2, iD v24)] [] rfl rfl) (Ar ?_)
         exact ⟨⟨[_], tm, rfl⟩, tv⟩
        ·refine Al (Ai As rfl (AT rfl (qm rfl (Ad ?_))))
         exact sn [] h
       ·refine AS ?_
        exact sn [] h
      ·refine Ah hs (wq rfl (qe rfl ?_))
       obtain rfl := sj h
       refine Ah (sm [] [(2, iD 0)] [] rfl rfl) (Ar ?_)
       exact ⟨⟨[_], tm, rfl⟩, tv⟩
theorem Jj (N : Nat) (p0 : Ac) (r : (List Aa)) (h : EV N p0 = some r) : Au Tryz.prog 41 [.e (.agg (Aj p0))] [(3, r.map Ab)] (oD (.own 0)) := by
 unfold EV at h
 refine cw (n := 46) (rs := [.tmp 2]) Tryz.func41 fun w0 S0 => ?_
 refine wq rfl (qb rfl (qa rfl (Ad (wq rfl (qa rfl (Ad (wp rfl (qf BK rfl (ql GZ rfl (AV Dc rfl (qm rfl (Ad ?_))))))))))))
 refine Ax (L := CO N p0) h (fun v1 => mk [(3, oD (.own 2001)), (11, pD (.sl (p0.fF.map AI))), (12, iD ((p0.fF.length : Int))), (13, iD v1.2)] [(2001, .vec 3 (v1.1.map Ab))]) (fun v2 => mk [(3, oD (.own 2002))] [(2002, .vec 3 (v2.map Ab))]) (fun _ _ => rfl) ((Bl 3 2008 3 rfl rfl rfl).trans (sm [(2001, 2008)] _ _ rfl rfl)) (fun j1 n1 v1 h => ?_) (fun v2 s h hs => ?_)
 ·unfold CO at h
  refine wq rfl (AX rfl (Ad (AN ?_)))
  refine A9 h (fun h => ?_) fun h => ?_
  ·refine Al (AN (AG (wq rfl (qm rfl ?_))))
   refine Bc h fun v4 a4 b4 h => qi Dc DB a4 (Ae b4) rfl (qK HZ DB rfl (qz Kc rfl (qa rfl (qs DB rfl (Ad (wq rfl (qf FB rfl (ql HR rfl (AV Ed rfl (qm rfl (Ad ?_)))))))))))
   refine Ax (L := Dl N v1 v4) h (fun v5 => mk [(3, oD (.own 2003)), (4, iD v1.2), (11, pD (.sl (p0.fF.map AI))), (12, iD ((p0.fF.length : Int))), (13, iD v1.2), (19, pD (.sl (v4.fN.map (FN eB)))), (20, iD ((v4.fN.length : Int))), (21, iD v5.2)] [(2003, .vec 3 (v5.1.map Ab))]) (fun v6 => mk [(3, oD (.own 2004)), (11, pD (.sl (p0.fF.map AI))), (12, iD ((p0.fF.length : Int))), (13, iD v1.2)] [(2004, .vec 3 (v6.map Ab))]) (fun _ _ => rfl) (sm [(2003, 2001)] _ _ rfl rfl) (fun j5 n5 v5 h => ?_) (fun v6 s h hs => ?_)
   ·unfold Dl at h
    refine wq rfl (AX rfl (Ad (AN ?_)))
    refine A9 h (fun h => ?_) fun h => ?_
    ·refine Al (AN (AG (wq rfl (qm rfl ?_))))
     refine Bc h fun v8 a8 b8 h => qi Ed I2 a8 (Ae b8) rfl (qk ML rfl (qa rfl (qa rfl (Ad (wq rfl (qm rfl (AV Ff rfl (qm rfl (Ad ?_)))))))))
     refine Ax (L := D0 N v1 v5 v8) h (fun v9 => mk [(3, oD (.own 2005)), (4, iD v1.2), (6, iD v5.2), (11, pD (.sl (p0.fF.map AI))), (12, iD ((p0.fF.length : Int))), (13, iD v1.2), (19, pD (.sl (v4.fN.map (FN eB)))), (20, iD ((v4.fN.length : Int))), (21, iD v5.2), (26, pD (.sl (v8.map eB))), (27, iD ((v8.length : Int))), (28, iD v9.2)] [(2005, .vec 3 (v9.1.map Ab))]) (fun v10 => mk [(3, oD (.own 2006)), (4, iD v1.2), (11, pD (.sl (p0.fF.map AI))), (12, iD ((p0.fF.length : Int))), (13, iD v1.2), (19, pD (.sl (v4.fN.map (FN eB)))), (20, iD ((v4.fN.length : Int))), (21, iD v5.2)] [(2006, .vec 3 (v10.map Ab))]) (fun _ _ => rfl) (sm [(2005, 2003)] _ _ rfl rfl) (fun j9 n9 v9 h => ?_) (fun v10 s h hs => ?_)
     ·unfold D0 at h
      refine wq rfl (AX rfl (Ad (AN ?_)))
      refine A9 h (fun h => ?_) fun h => ?_
      ·refine Al ?_
       refine AP h (fun v12 => mk [(3, oD (.own 2007)), (4, iD v1.2), (6, iD v5.2), (11, pD (.sl (p0.fF.map AI))), (12, iD ((p0.fF.length : Int))), (13, iD v1.2), (19, pD (.sl (v4.fN.map (FN eB)))), (20, iD ((v4.fN.length : Int))), (21, iD v5.2), (26, pD (.sl (v8.map eB))), (27, iD ((v8.length : Int))), (28, iD v9.2)] [(2007, .vec 3 (v12.map Ab))]) (fun j12 h => ?_) (fun v12 h => ?_)
       ·refine AG (wq rfl (qm rfl ?_))
        refine Bc h fun v13 a13 b13 h => qi Ff Nv a13 (Ae b13) rfl (qk TD rfl (qa rfl (qa rfl (Ad (wq rfl (qm rfl (CL rfl (Ad ?_))))))))
        refine A9 h (fun h => ?_) fun h => ?_
        ·refine Ai As rfl (qw 4 rfl (A6 GP M7 rfl (Fg AQ AM GP rfl ?_)))
         refine GK h fun c15 h => EM (f := Ab) AQ AQ AM Po GP c15 rfl (qe rfl ?_)
         exact sn [(2007, 41)] h
        ·refine Al ?_
         exact sn [(2007, 2005)] h
       ·refine Ai As rfl (AT rfl (qm rfl (Ad ?_)))
        exact sn [(2005, 2007)] h
      ·refine AS ?_
       exact sn [(2006, 2005)] h
     ·refine Ah hs (Ai As rfl (AT rfl (qm rfl (Ad ?_))))
      exact sn [(2003, 2006)] h
    ·refine AS ?_
     exact sn [(2004, 2003)] h
   ·refine Ah hs (Ai As rfl (AT rfl (qm rfl (Ad ?_))))
    exact sn [(2001, 2004)] h
  ·refine AS ?_
   exact sn [(2002, 2001)] h
 ·refine Ah hs (wq rfl (qm rfl (qe rfl ?_)))
  obtain rfl := sj h
  refine Ah (sm [(1000, 2002)] [(2, oD (.own 1000))] [(1000, .vec 3 (v2.map Ab))] rfl rfl) (Ar ?_)
  exact ⟨⟨[_], tm, rfl⟩, ⟨rfl, tv⟩⟩
theorem K0 (N : Nat) (p0 : Ac) (r : (List Aa) × Int) (h : FQ N p0 = some r) : Au Tryz.prog 21 [.e (.agg (Aj p0))] [(3, r.1.map Ab)] (.tup [.one (.own 0), .one (iC r.2)]) := by
 unfold FQ at h
 refine cw (n := 12) (rs := [.tmp 2, .tmp 3]) Tryz.func21 fun w0 S0 => ?_
 refine wq rfl (qb rfl (qa rfl (qa rfl (Ad (wp rfl (qL Db Cb rfl ?_))))))
 refine BM h fun v1 a1 h => Az [] (E1 N p0 v1 a1) Xn rfl (qa rfl (Ad (wq rfl (qm rfl (Cf rfl (Ad ?_))))))
 refine A9 h (fun h => ?_) fun h => ?_
 ·refine wq rfl (qm rfl (qa rfl (qe rfl ?_)))
  obtain rfl := sj h
  refine Ah ((Bl 2 2001 3 rfl rfl rfl).trans (sm [(1000, 2001)] [(2, oD (.own 1000)), (3, iD v1)] [(1000, .vec 3 ((([] : List Aa)).map Ab))] rfl rfl)) (Ar ?_)
  exact ⟨⟨[_, _], ⟨.tmp _ _ rfl, tm⟩, rfl⟩, ⟨rfl, tv⟩⟩
 ·refine Al (wq rfl (qL Db Cb rfl ?_))
  refine BM h fun v3 a3 h => Az [2002] (Jj N p0 v3 a3) bK rfl (qa rfl (qe rfl ?_))
  obtain rfl := sj h
  refine Ah (sm [(1000, 2002)] [(2, oD (.own 1000)), (3, iD 0)] [(1000, .vec 3 (v3.map Ab))] rfl rfl) (Ar ?_)
  exact ⟨⟨[_, _], ⟨.tmp _ _ rfl, tm⟩, rfl⟩, ⟨rfl, tv⟩⟩
open IntKind renaming wrap → wI
theorem Pc (N : Nat) (rc : (List Aa) → Int → Option ((List (List Aa)))) (hrc : ∀ (p0 : List Aa) (p1 : Int) (r : (List (List Aa))), rc p0 p1 = some r → Au Tryz.prog 51 [pD (.sl (p0.map Ab)), iD p1] [(1, r.map (FN Ab))] (oD (.own 0))) (p0 : List Aa) (p1 : Int) (r : (List (List Aa))) (h : HL N rc p0 p1 = some r) : Au Tryz.prog 51 [pD (.sl (p0.map Ab)), iD p1] [(1, r.map (FN Ab))] (oD (.own 0)) := by
 unfold HL at h
 refine cw (n := 42) (rs := [.tmp 4]) Tryz.func51 fun w0 S0 => ?_
 refine wq rfl (qa rfl (Ad (wp rfl (qm rfl (BZ rfl (Ad ?_))))))
 refine A9 h (fun h => ?_) fun h => ?_
 ·refine wq rfl (Fg J2 SV Ym rfl (qe rfl ?_))
  obtain rfl := sj h
  refine Ah (sm [(1000, 12)] [(4, oD (.own 1000))] [(1000, .vec 1 ((([([] : List Aa)] : List (List Aa))).map (FN Ab)))] rfl rfl) (Ar ?_)
  exact ⟨⟨[_], tm, rfl⟩, ⟨rfl, tv⟩⟩
 ·refine Al (wq rfl (qa rfl (Ad (wp rfl (qm rfl (AV AQ rfl (qm rfl (Ad ?_))))))))
  refine Ax (L := Ef N p0 p1 rc) h (fun v2 => mk [(0, pD (.sl (p0.map Ab))), (1, iD p1), (5, oD (.own 2001)), (13, pD (.sl (p0.map Ab))), (14, iD ((p0.length : Int))), (15, iD v2.2)] [(2001, .vec 1 (v2.1.map (FN Ab)))]) (fun v3 => mk [(5, oD (.own 2002))] [(2002, .vec 1 (v3.map (FN Ab)))]) (fun _ _ => rfl) ((Bl 5 2007 1 rfl rfl rfl).trans (sm [(2001, 2007)] _ _ rfl rfl)) (fun j2 n2 v2 h => ?_) (fun v3 s h hs => ?_)
  ·unfold Ef at h
   refine wq rfl (AX rfl (Ad (AN ?_)))
   refine A9 h (fun h => ?_) fun h => ?_
   ·refine Al (AN (AG (wq rfl (qm rfl ?_))))
    refine Bc h fun v5 a5 b5 h => qi AQ AM a5 (Ae b5) rfl (qK CY AM rfl (qz GP rfl (qa rfl (qs AM rfl (Ad (wq rfl (qw 2 rfl (AT rfl ?_))))))))
    refine GK h fun c6 h => ZM (.p rfl) rfl AQ AM (Qu (f := Ab) (n := 3) (fun _ => rfl) _) (.some _ _ _ _ c6.1) (.none _) ⟨rfl, tv⟩ tv (by have := c6.2.1; (try simp only [List.length_map]); omega) (by have := c6.2.2; (try simp only [List.length_map]); omega) (XT Ab p0 _ _ (p0.length - ((wI .i64 (v2.2 + 1))).toNat) (by rw [List.length_map])) ?_
    refine qm rfl (DA rfl ?_)
    refine BM h fun v7 a7 h => Az [2003] (hrc (((p0.drop ((wI .i64 (v2.2 + 1))).toNat).take (p0.length - ((wI .i64 (v2.2 + 1))).toNat))) ((wI .i64 (p1 - 1))) v7 a7) dA rfl (DV J2 rfl (qm rfl (Ad ?_)))
    refine Ax (L := EU N v5 v7) h (fun v8 => mk [(0, pD (.sl (p0.map Ab))), (1, iD p1), (5, oD (.own 2004)), (7, oD (.ptr 7 0)), (13, pD (.sl (p0.map Ab))), (14, iD ((p0.length : Int))), (15, iD v2.2), (26, oD (.own 2005)), (27, iD ((v7.length : Int))), (28, iD v8.2)] [(7, .box (D9 v5)), (2004, .vec 1 (v8.1.map (FN Ab))), (2005, .vec 1 (v7.map (FN Ab)))]) (fun v9 => mk [(0, pD (.sl (p0.map Ab))), (1, iD p1), (5, oD (.own 2006)), (13, pD (.sl (p0.map Ab))), (14, iD ((p0.length : Int))), (15, iD v2.2)] [(2006, .vec 1 (v9.map (FN Ab)))]) (fun _ _ => rfl) (sm [(2004, 2001), (2005, 2003)] _ _ rfl rfl) (fun j8 n8 v8 h => ?_) (fun v9 s h hs => ?_)
    ·unfold EU at h
     refine wq rfl (AX rfl (Ad (AN ?_)))
     refine A9 h (fun h => ?_) fun h => ?_
     ·refine Al (AN (AG (wq rfl ?_)))
      refine Bc h fun v11 a11 b11 h => qI J2 SV a11 (Ae b11) rfl (qj ZT (Ae b11) rfl (qa rfl (Ad (Ai As rfl (qm rfl (qL CY AM rfl (Fg AQ AM GP rfl (qm rfl ?_))))))))
      refine GK h fun c12 h => HT (f := Ab) AQ AQ AM Po GP (fun _ => rfl) c12 rfl (EQ (Br 36 _ _ rfl rfl) (Fg J2 SV Ym rfl ?_))
      refine GK h fun c13 h => EM (f := (FN Ab)) J2 J2 SV aF Ym c13 rfl (qa rfl (Ad (Ai As rfl (AT rfl (qm rfl (Ad ?_))))))
      exact sn [(2004, 38)] h
     ·refine AS ?_
      exact sn [(2006, 2004)] h
    ·refine Ah hs (Ai As rfl (AT rfl (qm rfl (Ad ?_))))
     exact sn [(2001, 2006)] h
   ·refine AS ?_
    exact sn [(2002, 2001)] h
  ·refine Ah hs (wq rfl (qm rfl (qe rfl ?_)))
   obtain rfl := sj h
   refine Ah (sm [(1000, 2002)] [(4, oD (.own 1000))] [(1000, .vec 1 (v3.map (FN Ab)))] rfl rfl) (Ar ?_)
   exact ⟨⟨[_], tm, rfl⟩, ⟨rfl, tv⟩⟩
theorem Lo (N : Nat) : ∀ (k : Nat) (p0 : List Aa) (p1 : Int) (r : (List (List Aa))), EG N k p0 p1 = some r → Au Tryz.prog 51 [pD (.sl (p0.map Ab)), iD p1] [(1, r.map (FN Ab))] (oD (.own 0))
 | 0, _, _, _, h => by cases h
 | k + 1, p0, p1, r, h => Pc N (EG N k) (Lo N k) p0 p1 r h
theorem Qa (N : Nat) (p0 : List Aa) (p1 : Int) (r : (List (List Aa))) (h : JY N p0 p1 = some r) : Au Tryz.prog 51 [pD (.sl (p0.map Ab)), iD p1] [(1, r.map (FN Ab))] (oD (.own 0)) := Lo N N p0 p1 r h
theorem C9 (N : Nat) (p0 : List Int) (r : (List Int)) (h : A8 N p0 = some r) : Au Tryz.prog 60 [pD (.sl (p0.map Aq))] [(1, r.map Aq)] (oD (.own 0)) := by
 unfold A8 at h
 refine cw (n := 8) (rs := [.tmp 2]) Tryz.func60 fun w0 S0 => ?_
 refine wq rfl (qa rfl (Ad (wp rfl (qm rfl ?_))))
 refine Oe (.p rfl) rfl AD ?_
 refine Ad ?_
 refine NZ rfl (fun c2 => ?_) ?_
 ·have c2 := List.map_eq_nil_iff.1 c2
  rw [c2] at h
  have h : (some (([] : List Int))) = some r := h
  refine wq rfl (qe rfl ?_)
  obtain rfl := sj h
  refine Ah ((Bl 2 2001 1 rfl rfl rfl).trans (sm [(1000, 2001)] [(2, oD (.own 1000))] [(1000, .vec 1 ((([] : List Int)).map Aq))] rfl rfl)) (Ar ?_)
  exact ⟨⟨[_], tm, rfl⟩, ⟨rfl, tv⟩⟩
 ·refine Al (wq rfl (Fg AD Ep LG rfl (qm rfl ?_)))
  refine GK h fun c1 h => HT (f := Aq) AD AD Ep MH LG (fun _ => rfl) c1 rfl (qe rfl ?_)
  obtain rfl := sj h
  refine Ah (sm [(1000, 7)] [(2, oD (.own 1000))] [(1000, .vec 1 (((([] : List Int)) ++ p0).map Aq))] rfl rfl) (Ar ?_)
  exact ⟨⟨[_], tm, rfl⟩, ⟨rfl, tv⟩⟩
theorem Iu (N : Nat) (p0 : List (List Bool)) (r : (List (List Bool))) (h : DL N p0 = some r) : Au Tryz.prog 138 [pD (.sl (p0.map (FN eB)))] [(1, r.map (FN eB))] (oD (.own 0)) := by
 unfold DL at h
 refine cw (n := 8) (rs := [.tmp 2]) Tryz.func138 fun w0 S0 => ?_
 refine wq rfl (qa rfl (Ad (wp rfl (qm rfl ?_))))
 refine Oe (.p rfl) rfl Ed ?_
 refine Ad ?_
 refine NZ rfl (fun c2 => ?_) ?_
 ·have c2 := List.map_eq_nil_iff.1 c2
  rw [c2] at h
  have h : (some (([] : List (List Bool)))) = some r := h
  refine wq rfl (qe rfl ?_)
  obtain rfl := sj h
  refine Ah ((Bl 2 2001 1 rfl rfl rfl).trans (sm [(1000, 2001)] [(2, oD (.own 1000))] [(1000, .vec 1 ((([] : List (List Bool))).map (FN eB)))] rfl rfl)) (Ar ?_)
  exact ⟨⟨[_], tm, rfl⟩, ⟨rfl, tv⟩⟩
 ·refine Al (wq rfl (Fg Ed I2 SJ rfl (qm rfl ?_)))
  refine GK h fun c1 h => HT (f := (FN eB)) Ed Ed I2 Ws SJ (fun _ => rfl) c1 rfl (qe rfl ?_)
  obtain rfl := sj h
  refine Ah (sm [(1000, 7)] [(2, oD (.own 1000))] [(1000, .vec 1 (((([] : List (List Bool))) ++ p0).map (FN eB)))] rfl rfl) (Ar ?_)
  exact ⟨⟨[_], tm, rfl⟩, ⟨rfl, tv⟩⟩
theorem HS (N : Nat) (p0 : List Bool) (r : (List Bool)) (h : Di N p0 = some r) : Au Tryz.prog 139 [pD (.sl (p0.map eB))] [(1, r.map eB)] (oD (.own 0)) := by
 unfold Di at h
 refine cw (n := 8) (rs := [.tmp 2]) Tryz.func139 fun w0 S0 => ?_
 refine wq rfl (qa rfl (Ad (wp rfl (qm rfl ?_))))
 refine Oe (.p rfl) rfl Ff ?_
 refine Ad ?_
 refine NZ rfl (fun c2 => ?_) ?_
 ·have c2 := List.map_eq_nil_iff.1 c2
  rw [c2] at h
  have h : (some (([] : List Bool))) = some r := h
  refine wq rfl (qe rfl ?_)
  obtain rfl := sj h
  refine Ah ((Bl 2 2001 1 rfl rfl rfl).trans (sm [(1000, 2001)] [(2, oD (.own 1000))] [(1000, .vec 1 ((([] : List Bool)).map eB))] rfl rfl)) (Ar ?_)
  exact ⟨⟨[_], tm, rfl⟩, ⟨rfl, tv⟩⟩
 ·refine Al (wq rfl (Fg Ff Nv Wm rfl (qm rfl ?_)))
  refine GK h fun c1 h => HT (f := eB) Ff Ff Nv Xi Wm (fun _ => rfl) c1 rfl (qe rfl ?_)
  obtain rfl := sj h
  refine Ah (sm [(1000, 7)] [(2, oD (.own 1000))] [(1000, .vec 1 (((([] : List Bool)) ++ p0).map eB))] rfl rfl) (Ar ?_)
  exact ⟨⟨[_], tm, rfl⟩, ⟨rfl, tv⟩⟩
theorem Pf (N : Nat) (p0 : An) (r : An) (h : G4 N p0 = some r) : B2 Tryz.prog 109 [.e (.agg (Bv p0))] [] [.dvec 1 [.x 1 []] (r.fN.map (FN eB)), .dvec 1 [.x 1 []] (r.fQ.map (FN eB))] (.e (.agg [iC r.fI, iC r.fJ, iC r.fO, .pure (.val (.bool r.fR)), .own 0, .own 1])) := by
 unfold G4 at h
 refine Bn (n := 48) (rs := [.cell 2 76]) Tryz.func109 rfl rfl rfl (DY rfl) (DY rfl) rfl rfl (DY rfl) rfl (DY rfl) fun w0 S0 GL => ?_
 refine Ah (sm [] [(0, .e (.agg (Bv p0)))] [] rfl rfl) (wq rfl (qb rfl (qz Kc rfl (Ad (wq rfl (qf FB rfl (ql HR rfl ?_)))))))
 refine BM h fun v1 a1 h => Az [2001] (Iu N p0.fN v1 a1) aW rfl (qf FC rfl (ql HR rfl ?_))
 refine BM h fun v2 a2 h => Az [2002] (Iu N p0.fQ v2 a2) aW rfl (qf FB rfl (qs U2 rfl (qf FC rfl (qs U2 rfl (AE (by kernel_rfl) (wp rfl (qf FB rfl (ql HR rfl (DV Ed rfl (qm rfl (Ad (Ah (TC 2001 1 [.x 1 []] _ rfl) ?_))))))))))))
 refine Ax (L := El N v1) h (fun v3 => mk [(1, oD (.ptr 1 0)), (2, oD (.ptr 2 0)), (15, iD ((v1.length : Int))), (16, iD v3.2)] [(1, .box [iC p0.fI, iC p0.fJ, iC p0.fO, .pure (.val (.bool p0.fR)), .own 2003, .own 2004]), (2, .box [iC 0, iC 0, iC 0, .pure (.val (.bool false)), .pure (.nil0), .pure (.nil0)]), (2003, .pvec ((v3.2).toNat) 1 [.x 1 []] (v3.1.map (FN eB))), (2004, .vec 1 (v2.map (FN eB)))]) (fun v4 => mk [(1, oD (.ptr 1 0)), (2, oD (.ptr 2 0))] [(1, .box [iC p0.fI, iC p0.fJ, iC p0.fO, .pure (.val (.bool p0.fR)), .own 2005, .own 2006]), (2, .box [iC 0, iC 0, iC 0, .pure (.val (.bool false)), .pure (.nil0), .pure (.nil0)]), (2005, .dvec 1 [.x 1 []] (v4.map (FN eB))), (2006, .vec 1 (v2.map (FN eB)))]) (fun _ _ => rfl) (sm [(2003, 2001), (2004, 2002)] _ _ rfl rfl) (fun j3 n3 v3 h => ?_) (fun v4 s h hs => ?_)
 ·unfold El at h
  refine wq rfl (AX rfl (Ad (AN ?_)))
  refine A9 h (fun h => ?_) fun h => ?_
  ·refine Al (AN (AG (wq rfl (qm rfl (qa rfl (Ad (Ai As rfl (qf FB rfl (ql HR rfl (qm rfl (qf FB rfl (ql HR rfl (qm rfl ?_)))))))))))))
   refine Bc h fun v6 a6 b6 h => IA (.p rfl) rfl rfl rfl (PZ (FN eB) v3.1 _ _ _) Ed I2 a6 (AA b6) ?_
   refine TA (.p rfl) rfl ML rfl (Ae b6) rfl (Nat.le_refl _) ?_
   refine BM h fun v7 a7 h => Az [2007] (HS N v6 v7 a7) az rfl ?_
   refine Bc h fun v8 a8 b8 h => IA (.p rfl) rfl rfl rfl (PZ (FN eB) v3.1 _ _ _) Ed I2 a8 (AA b8) ?_
   refine RH rfl rfl rfl rfl (rows2 := v7.map eB) (cols2 := []) rfl rfl (Ae b8) rfl I2 rfl rfl (A2 (FN eB) v3.1 _ v7) ?_
   refine AE (by kernel_rfl) (Ai As rfl (AT rfl (qm rfl (Ad ?_))))
   exact GK h fun c9 h => S8 _ h ((UH 2003 rfl c9).trans (sm [] _ _ rfl rfl))
  ·refine AS ?_
   exact GK h fun c10 h => S8 _ h ((T8 2003 rfl (by rw [List.length_map]; exact c10)).trans (sm [(2005, 2003), (2006, 2004)] _ _ rfl rfl))
 ·refine Ah hs (wp rfl (qf FC rfl (ql HR rfl (DV Ed rfl (qm rfl (Ad (Ah (TC 2006 1 [.x 1 []] _ rfl) ?_)))))))
  refine Ax (L := Ci N v2) h (fun v11 => mk [(1, oD (.ptr 1 0)), (2, oD (.ptr 2 0)), (32, iD ((v2.length : Int))), (33, iD v11.2)] [(1, .box [iC p0.fI, iC p0.fJ, iC p0.fO, .pure (.val (.bool p0.fR)), .own 2008, .own 2009]), (2, .box [iC 0, iC 0, iC 0, .pure (.val (.bool false)), .pure (.nil0), .pure (.nil0)]), (2008, .dvec 1 [.x 1 []] (v4.map (FN eB))), (2009, .pvec ((v11.2).toNat) 1 [.x 1 []] (v11.1.map (FN eB)))]) (fun v12 => mk [(1, oD (.ptr 1 0)), (2, oD (.ptr 2 0))] [(1, .box [iC p0.fI, iC p0.fJ, iC p0.fO, .pure (.val (.bool p0.fR)), .own 2010, .own 2011]), (2, .box [iC 0, iC 0, iC 0, .pure (.val (.bool false)), .pure (.nil0), .pure (.nil0)]), (2010, .dvec 1 [.x 1 []] (v4.map (FN eB))), (2011, .dvec 1 [.x 1 []] (v12.map (FN eB)))]) (fun _ _ => rfl) (sm [(2008, 2005), (2009, 2006)] _ _ rfl rfl) (fun j11 n11 v11 h => ?_) (fun v12 s h hs => ?_)
  ·unfold Ci at h
   refine wq rfl (AX rfl (Ad (AN ?_)))
   refine A9 h (fun h => ?_) fun h => ?_
   ·refine Al (AN (AG (wq rfl (qm rfl (qa rfl (Ad (Ai As rfl (qf FC rfl (ql HR rfl (qm rfl (qf FC rfl (ql HR rfl (qm rfl ?_)))))))))))))
    refine Bc h fun v14 a14 b14 h => IA (.p rfl) rfl rfl rfl (PZ (FN eB) v11.1 _ _ _) Ed I2 a14 (AA b14) ?_
    refine TA (.p rfl) rfl ML rfl (Ae b14) rfl (Nat.le_refl _) ?_
    refine BM h fun v15 a15 h => Az [2012] (HS N v14 v15 a15) az rfl ?_
    refine Bc h fun v16 a16 b16 h => IA (.p rfl) rfl rfl rfl (PZ (FN eB) v11.1 _ _ _) Ed I2 a16 (AA b16) ?_
    refine RH rfl rfl rfl rfl (rows2 := v15.map eB) (cols2 := []) rfl rfl (Ae b16) rfl I2 rfl rfl (A2 (FN eB) v11.1 _ v15) ?_
    refine AE (by kernel_rfl) (Ai As rfl (AT rfl (qm rfl (Ad ?_))))
    exact GK h fun c17 h => S8 _ h ((UH 2009 rfl c17).trans (sm [] _ _ rfl rfl))
   ·refine AS ?_
    exact GK h fun c18 h => S8 _ h ((T8 2009 rfl (by rw [List.length_map]; exact c18)).trans (sm [(2010, 2008), (2011, 2009)] _ _ rfl rfl))
  ·refine Ah hs (wq rfl (qL HZ DB rfl (qs DB rfl (Ad ?_))))
   obtain rfl := sj h
   refine Ah (sm [(1000, 2010), (1001, 2011)] [(2, oD (.ptr 2 0))] [(2, .box [iC p0.fI, iC p0.fJ, iC p0.fO, .pure (.val (.bool p0.fR)), .own 1000, .own 1001]), (1000, .dvec 1 [.x 1 []] (v4.map (FN eB))), (1001, .dvec 1 [.x 1 []] (v12.map (FN eB)))] rfl rfl) (Ar ?_)
   exact ⟨⟨[_], ⟨.cellN _ _ _ _ _ _ _ rfl rfl HZ DB rfl rfl (IL rfl), tv⟩, rfl⟩, tv, ⟨rfl, rfl, tv⟩⟩
theorem N5 (N : Nat) (p0 : Ac) (p1 : List Int) (p2 : List Int) (r : Ac × Int) (h : Gz N p0 p1 p2 = some r) : B2 Tryz.prog 75 [.e (.agg (Aj p0)), pD (.sl (p1.map Aq)), pD (.sl (p2.map Aq))] [] [.vec 1 (r.1.fE.map Aq), .vec 1 (r.1.fK.map Aq), .vec 1 (r.1.fP.map Aq), .dvec 6 [.s, .s, .s, .s, .x 1 [.x 1 []], .x 1 [.x 1 []]] (r.1.fF.map AI)] (.tup [.agg [.own 0, .own 1, .own 2, .own 3], .one (iC r.2)]) := by
 unfold Gz at h
 refine Bn (n := 49) (rs := [.cell 6 29, .tmp 7]) Tryz.func75 rfl rfl rfl (DY rfl) (DY rfl) rfl rfl (DY rfl) rfl (DY rfl) fun w0 S0 GL => ?_
 refine Ah (sm [] [(0, .e (.agg (Aj p0))), (1, pD (.sl (p1.map Aq))), (2, pD (.sl (p2.map Aq)))] [] rfl rfl) (wq rfl (qb rfl (qz K9 rfl (qa rfl (Ad (wp rfl (qL Db Cb rfl ?_)))))))
 refine BM h fun v1 a1 h => Az [] (E1 N p0 v1 a1) Xn rfl (qa rfl (Ad (wq rfl (qm rfl (Cf rfl (Ad ?_))))))
 refine A9 h (fun h => ?_) fun h => ?_
 ·refine wq rfl (A6 K9 Vg rfl (qm rfl (qs Cb rfl (qe rfl ?_))))
  obtain rfl := sj h
  refine Ah ((Av 6 0 2001 1 _ rfl rfl rfl rfl).trans ((Av 6 1 2002 1 _ rfl rfl rfl rfl).trans ((Av 6 2 2003 1 _ rfl rfl rfl rfl).trans ((Av 6 3 2004 6 _ rfl rfl rfl rfl).trans ((IX 2004 6 [.s, .s, .s, .s, .x 1 [.x 1 []], .x 1 [.x 1 []]] [] [] rfl rfl).trans (sm [(1000, 2001), (1001, 2002), (1002, 2003), (1003, 2004)] [(6, oD (.ptr 6 0)), (7, iD v1)] [(6, .box [.own 1000, .own 1001, .own 1002, .own 1003]), (1000, .vec 1 ((([] : List Int)).map Aq)), (1001, .vec 1 ((([] : List Int)).map Aq)), (1002, .vec 1 ((([] : List Int)).map Aq)), (1003, .dvec 6 [.s, .s, .s, .s, .x 1 [.x 1 []], .x 1 [.x 1 []]] ((([] : List An)).map AI))] rfl rfl)))))) (Ar ?_)
  exact ⟨⟨[_, _], ⟨.cellN _ _ _ _ _ _ _ rfl rfl Db Cb rfl rfl (IL rfl), tm⟩, rfl⟩, tv, ⟨rfl, rfl, rfl, rfl, tv⟩⟩
 ·refine Al (wq rfl (qf BH rfl (ql Bg rfl ?_)))
  refine BM h fun v3 a3 h => Az [2005] (C9 N p0.fE v3 a3) Ua rfl (qm rfl ?_)
  refine BM h fun v4 a4 h => Az [2006] (C9 N p1 v4 a4) Ua rfl (qm rfl ?_)
  refine BM h fun v5 a5 h => Az [2007] (C9 N p2 v5 a5) Ua rfl (A6 K9 Vg rfl (qz K9 rfl (qs Cb rfl (Ad (wp rfl (qf BK rfl (ql GZ rfl (AV Dc rfl (qm rfl (Ad ?_))))))))))
  refine Ax (L := D2 N p0) h (fun v6 => mk [(6, oD (.ptr 6 0)), (9, oD (.ptr 9 0)), (28, pD (.sl (p0.fF.map AI))), (29, iD ((p0.fF.length : Int))), (30, iD v6.2)] [(6, .box [.pure (.nil0), .pure (.nil0), .pure (.nil0), .pure (.nil0)]), (9, .box [.own 2008, .own 2009, .own 2010, .own 2011]), (2008, .vec 1 (v3.map Aq)), (2009, .vec 1 (v4.map Aq)), (2010, .vec 1 (v5.map Aq)), (2011, .dvec 6 [.s, .s, .s, .s, .x 1 [.x 1 []], .x 1 [.x 1 []]] (v6.1.map AI))]) (fun v7 => mk [(6, oD (.ptr 6 0)), (9, oD (.ptr 9 0))] [(6, .box [.pure (.nil0), .pure (.nil0), .pure (.nil0), .pure (.nil0)]), (9, .box [.own 2012, .own 2013, .own 2014, .own 2015]), (2012, .vec 1 (v3.map Aq)), (2013, .vec 1 (v4.map Aq)), (2014, .vec 1 (v5.map Aq)), (2015, .dvec 6 [.s, .s, .s, .s, .x 1 [.x 1 []], .x 1 [.x 1 []]] (v7.map AI))]) (fun _ _ => rfl) ((Av 9 3 2018 6 _ rfl rfl rfl rfl).trans ((IX 2018 6 [.s, .s, .s, .s, .x 1 [.x 1 []], .x 1 [.x 1 []]] [] [] rfl rfl).trans (sm [(2008, 2005), (2009, 2006), (2010, 2007), (2011, 2018)] _ _ rfl rfl))) (fun j6 n6 v6 h => ?_) (fun v7 s h hs => ?_)
  ·unfold D2 at h
   refine wq rfl (AX rfl (Ad (AN ?_)))
   refine A9 h (fun h => ?_) fun h => ?_
   ·refine Al (AN (AG (wq rfl ?_)))
    refine Bc h fun v9 a9 b9 h => qi Dc DB a9 (Ae b9) rfl (qK HZ DB rfl (qz Kc rfl (qs DB rfl (Ad (Ai As rfl (qf BK rfl (ql GZ rfl (qL HZ DB rfl ?_))))))))
    refine BM h fun v10 a10 h => DP (ds0 := [_]) [] [2016, 2017] [] (Pf N v9 v10 a10) (.p rfl) d5 rfl ⟨rfl, tv⟩ rfl rfl (by decide) tv rfl (Bf rfl) ⟨rfl, rfl, tv⟩ tv rfl rfl rfl ?_
    refine JI (x := .agg [iC v10.fI, iC v10.fJ, iC v10.fO, .pure (.val (.bool v10.fR)), .own 2016, .own 2017]) (cs := [iC v10.fI, iC v10.fJ, iC v10.fO, .pure (.val (.bool v10.fR)), .own 2016, .own 2017]) (ts := [.val (.int .i64 v10.fI), .val (.int .i64 v10.fJ), .val (.int .i64 v10.fO), .val (.bool v10.fR), .sl (v10.fN.map (FN eB)), .sl (v10.fQ.map (FN eB))]) [.s, .s, .s, .s, .x 1 [.x 1 []], .x 1 [.x 1 []]] [(2016, .dvec 1 [.x 1 []] (v10.fN.map (FN eB))), (2017, .dvec 1 [.x 1 []] (v10.fQ.map (FN eB)))] (.p rfl) rfl rfl rfl rfl rfl ⟨rfl, rfl, tv⟩ ⟨rfl, rfl, rfl, rfl, rfl, rfl, tv⟩ rfl rfl rfl Dc DB Kc (DY rfl) ?_
    refine GK h fun c11 h => Lq (.p rfl) rfl rfl rfl rfl rfl (by decide) Dc Dc DB Yh (DY rfl) Kc rfl (Oh (f := AI) (g := AI) (xs := v6.1) (ys := (([v10] : List An))) c11) (Od AI v6.1 (([v10] : List An))) rfl rfl ?_
    refine qf BK rfl (qs cf rfl (AE (by kernel_rfl) (Ai As rfl (AT rfl (qm rfl (Ad ?_))))))
    exact sn [(2011, 39)] h
   ·refine AS ?_
    exact sn [(2012, 2008), (2013, 2009), (2014, 2010), (2015, 2011)] h
  ·refine Ah hs (wp rfl (qL Db Cb rfl ?_))
   refine BM h fun v12 a12 h => Fi [] [2012, 2013, 2014, 2015] (E1 N ((Ac.mk v3 v4 v5 v7)) v12 a12) Xn Dh rfl (qa rfl (Ad (wq rfl (qm rfl (Cf rfl (Ad ?_))))))
   refine A9 h (fun h => ?_) fun h => ?_
   ·refine wq rfl (A6 K9 Vg rfl (qm rfl (qs Cb rfl (qe rfl ?_))))
    obtain rfl := sj h
    refine Ah ((Av 6 0 2019 1 _ rfl rfl rfl rfl).trans ((Av 6 1 2020 1 _ rfl rfl rfl rfl).trans ((Av 6 2 2021 1 _ rfl rfl rfl rfl).trans ((Av 6 3 2022 6 _ rfl rfl rfl rfl).trans ((IX 2022 6 [.s, .s, .s, .s, .x 1 [.x 1 []], .x 1 [.x 1 []]] [] [] rfl rfl).trans (sm [(1000, 2019), (1001, 2020), (1002, 2021), (1003, 2022)] [(6, oD (.ptr 6 0)), (7, iD v12)] [(6, .box [.own 1000, .own 1001, .own 1002, .own 1003]), (1000, .vec 1 ((([] : List Int)).map Aq)), (1001, .vec 1 ((([] : List Int)).map Aq)), (1002, .vec 1 ((([] : List Int)).map Aq)), (1003, .dvec 6 [.s, .s, .s, .s, .x 1 [.x 1 []], .x 1 [.x 1 []]] ((([] : List An)).map AI))] rfl rfl)))))) (Ar ?_)
    exact ⟨⟨[_, _], ⟨.cellN _ _ _ _ _ _ _ rfl rfl Db Cb rfl rfl (IL rfl), tm⟩, rfl⟩, tv, ⟨rfl, rfl, rfl, rfl, tv⟩⟩
   ·refine Al (wq rfl (qL Db Cb rfl (qs Cb rfl (qe rfl ?_))))
    obtain rfl := sj h
    refine Ah (sm [(1000, 2012), (1001, 2013), (1002, 2014), (1003, 2015)] [(6, oD (.ptr 6 0)), (7, iD 0)] [(6, .box [.own 1000, .own 1001, .own 1002, .own 1003]), (1000, .vec 1 (v3.map Aq)), (1001, .vec 1 (v4.map Aq)), (1002, .vec 1 (v5.map Aq)), (1003, .dvec 6 [.s, .s, .s, .s, .x 1 [.x 1 []], .x 1 [.x 1 []]] (v7.map AI))] rfl rfl) (Ar ?_)
    exact ⟨⟨[_, _], ⟨.cellN _ _ _ _ _ _ _ rfl rfl Db Cb rfl rfl (IL rfl), tm⟩, rfl⟩, tv, ⟨rfl, rfl, rfl, rfl, tv⟩⟩
theorem MJ (N : Nat) (p0 : Ac) (p1 : List Aa) (r : Ac) (h : GM N p0 p1 = some r) : Au Tryz.prog 47 [.e (.agg (Aj p0)), pD (.sl (p1.map Ab))] [(1, r.fE.map Aq), (1, r.fK.map Aq), (1, r.fP.map Aq)] (.e (.agg [.own 0, .own 1, .own 2, sC (r.fF.map AI)])) := by
 unfold GM at h
 refine cw (n := 40) (rs := [.cell 4 29]) Tryz.func47 fun w0 S0 => ?_
 refine wq rfl (qb rfl (qz K9 rfl (Ad (wq rfl (qL Db Cb rfl (qf HJ rfl (ql Bg rfl (qf I6 rfl (ql Bg rfl ?_)))))))))
 refine BM h fun v1 a1 h => DP (ds0 := [_, _, _]) [] [2001, 2002, 2003, 2004] [] (N5 N p0 p0.fK p0.fP v1 a1) (.p rfl) ew rfl ⟨rfl, rfl, rfl, tv⟩ rfl rfl (by decide) tv rfl (Bf rfl) ⟨rfl, rfl, rfl, rfl, tv⟩ tv rfl rfl rfl ?_
 refine qm rfl (qx rfl (qx rfl (qz K9 rfl (qs Cb rfl (qa rfl (Ad (wp rfl (qm rfl (AV AQ rfl (qm rfl (Ad ?_)))))))))))
 refine Ax (L := ET N p1) h (fun v2 => mk [(4, oD (.ptr 4 0)), (5, oD (.ptr 5 0)), (18, pD (.sl (p1.map Ab))), (19, iD ((p1.length : Int))), (20, iD v2.2)] [(4, .box [.pure (.nil0), .pure (.nil0), .pure (.nil0), .pure (.nil0)]), (5, .box [.own 2005, .own 2006, .own 2007, .own 2008]), (2005, .vec 1 (v1.1.fE.map Aq)), (2006, .vec 1 (v1.1.fK.map Aq)), (2007, .vec 1 (v1.1.fP.map Aq)), (2008, .dvec 6 [.s, .s, .s, .s, .x 1 [.x 1 []], .x 1 [.x 1 []]] (v2.1.map AI))]) (fun v3 => mk [(4, oD (.ptr 4 0)), (5, oD (.ptr 5 0))] [(4, .box [.pure (.nil0), .pure (.nil0), .pure (.nil0), .pure (.nil0)]), (5, .box [.own 2009, .own 2010, .own 2011, .own 2012]), (2009, .vec 1 (v1.1.fE.map Aq)), (2010, .vec 1 (v1.1.fK.map Aq)), (2011, .vec 1 (v1.1.fP.map Aq)), (2012, .dvec 6 [.s, .s, .s, .s, .x 1 [.x 1 []], .x 1 [.x 1 []]] (v3.map AI))]) (fun _ _ => rfl) (sm [(2005, 2001), (2006, 2002), (2007, 2003), (2008, 2004)] _ _ rfl rfl) (fun j2 n2 v2 h => ?_) (fun v3 s h hs => ?_)
 ·unfold ET at h
  refine wq rfl (AX rfl (Ad (AN ?_)))
  refine A9 h (fun h => ?_) fun h => ?_
  ·refine Al (AN (AG (wq rfl ?_)))
   refine Bc h fun v5 a5 b5 h => qi AQ AM a5 (Ae b5) rfl (qK CY AM rfl (qz GP rfl (qs AM rfl (Ad (Ai As rfl (qf BK rfl (ql GZ rfl (qf Td rfl (ql CN rfl ?_)))))))))
   refine Bc h fun v6 a6 b6 h => IA (.p rfl) rfl rfl rfl (KX AI v2.1 _ _) Dc DB a6 (AA b6) ?_
   refine qh FB rfl ?_
   refine U9 (.p rfl) rfl HR rfl (Ae b6) rfl rfl rfl rfl ?_
   refine qf SN rfl (ql CN rfl ?_)
   refine Bc h fun v7 a7 b7 h => IA (.p rfl) rfl rfl rfl (KX (FN eB) v6.fN _ _) Ed I2 a7 (AA b7) ?_
   refine U9 (.p rfl) rfl ML rfl (Ae b7) rfl rfl rfl rfl ?_
   refine qf S6 rfl (ql CN rfl ?_)
   refine Bc h fun v8 a8 b8 h => qI Ff Nv a8 (Ae b8) rfl ?_
   refine Ba rfl rfl rfl rfl (Ae b8) rfl Nv rfl (DY rfl) (A2 eB v7 _ true) ?_
   refine AE (by kernel_rfl) (Ah ((Si 30 34 (e2 := 1) (cols2 := []) (rows2 := (v7.set ((v5.fV).toNat) true).map eB) rfl rfl rfl (Ae b7) rfl rfl (A2 (FN eB) v6.fN _ (v7.set ((v5.fV).toNat) true))).trans (Si 2008 30 (e2 := 1) (cols2 := [.x 1 []]) (rows2 := (v6.fN.set ((v5.fW).toNat) (v7.set ((v5.fV).toNat) true)).map (FN eB)) rfl rfl rfl (Ae b6) rfl rfl (A2 AI v2.1 _ ((An.mk v6.fI v6.fJ v6.fO v6.fR (v6.fN.set ((v5.fW).toNat) (v7.set ((v5.fV).toNat) true)) v6.fQ))))) (Ai As rfl (AT rfl (qm rfl (Ad ?_)))))
   exact sn [] h
  ·refine AS ?_
   exact sn [(2009, 2005), (2010, 2006), (2011, 2007), (2012, 2008)] h
 ·refine Ah hs (wq rfl (qL Db Cb rfl (qs Cb rfl (Ad ?_))))
  obtain rfl := sj h
  refine Ah ((OZ 2012 _ _ _ rfl rfl).trans (sm [(1000, 2009), (1001, 2010), (1002, 2011)] [(4, oD (.ptr 4 0))] [(4, .box [.own 1000, .own 1001, .own 1002, sC (v3.map AI)]), (1000, .vec 1 (v1.1.fE.map Aq)), (1001, .vec 1 (v1.1.fK.map Aq)), (1002, .vec 1 (v1.1.fP.map Aq))] rfl rfl)) (Ar ?_)
  exact ⟨⟨[_], ⟨.cellN _ _ _ _ _ _ _ rfl rfl Db Cb rfl rfl (IL rfl), tv⟩, rfl⟩, ⟨rfl, rfl, rfl, tv⟩⟩
theorem Of (N : Nat) (p0 : Int) (p1 : Int) (r : Int × Int) (h : IP N p0 p1 = some r) : Au Tryz.prog 121 [pD (.val (.int .u32 p0)), pD (.val (.int .u32 p1))] [] (.tup [.one (.pure (.val (.int .u32 r.1))), .one (.pure (.val (.int .u32 r.2)))]) := by
 unfold IP at h
 refine cw (n := 17) (rs := [.tmp 4, .tmp 5]) Tryz.func121 fun w0 S0 => ?_
 refine wq rfl (qa rfl (qa rfl (Ad (wq rfl (qm rfl (Je UV aR rfl (qm rfl (Je UV aR rfl (KI rfl (qa rfl (Ad (wq rfl (qm rfl (Jf rfl (by decide) (Je Yk UA rfl (qm rfl (Je Yk UA rfl (qa rfl (qe rfl ?_)))))))))))))))))))
 obtain rfl := sj h
 refine Ah (sm [] [(4, pD (.val (.int .u32 ((wI .u32 ((FU .u64 ((wI .u64 ((wI .u64 p0) * (wI .u64 p1)))) 32))))))), (5, pD (.val (.int .u32 ((wI .u32 ((wI .u64 ((wI .u64 p0) * (wI .u64 p1)))))))))] [] rfl rfl) (Ar ?_)
 exact ⟨⟨[_, _], ⟨.tmp _ _ rfl, tm⟩, rfl⟩, tv⟩
theorem Ok (N : Nat) (p0 : Int) (p1 : Int) (r : Int × Int) (h : IN N p0 p1 = some r) : Au Tryz.prog 122 [pD (.val (.int .u64 p0)), pD (.val (.int .u64 p1))] [] (.tup [.one (.pure (.val (.int .u64 r.1))), .one (.pure (.val (.int .u64 r.2)))]) := by
 unfold IN at h
 refine cw (n := 51) (rs := [.tmp 4, .tmp 5]) Tryz.func122 fun w0 S0 => ?_
 refine wq rfl (qa rfl (qa rfl (Ad (wq rfl (qm rfl (OE rfl (qa rfl (Ad (wq rfl (qm rfl (Jf rfl (by decide) (qa rfl (Ad (wq rfl (qm rfl (OE rfl (qa rfl (Ad (wq rfl (qm rfl (Jf rfl (by decide) (qa rfl (Ad (wq rfl (qw 2 rfl (KI rfl (qa rfl (Ad (wq rfl (qw 2 rfl ?_))))))))))))))))))))))))))))))
 refine KI rfl (qm rfl (Jf rfl (by decide) (AT rfl (qa rfl (Ad (wq rfl (qm rfl (OE rfl (qa rfl (Ad (wq rfl (qm rfl (Jf rfl (by decide) (qa rfl (Ad (wq rfl (qw 3 rfl (KI rfl (AT rfl (qa rfl (Ad (wq rfl (qw 2 rfl (KI rfl (qm rfl (AT rfl (qm rfl (Jf rfl (by decide) (AT rfl (qa rfl (Ad (AN ?_))))))))))))))))))))))))))))))))
 refine Ai As rfl (qw 2 rfl (KI rfl (qe rfl ?_)))
 obtain rfl := sj h
 refine Ah (sm [] [(4, pD (.val (.int .u64 ((wI .u64 ((wI .u64 ((wI .u64 ((FU .u64 p0 32) * (FU .u64 p1 32))) + (FU .u64 ((wI .u64 ((wI .u64 ((FU .u64 p0 32) * (HI .u64 p1 4294967295))) + (FU .u64 ((wI .u64 ((HI .u64 p0 4294967295) * (HI .u64 p1 4294967295)))) 32)))) 32))) + (FU .u64 ((wI .u64 ((HI .u64 ((wI .u64 ((wI .u64 ((FU .u64 p0 32) * (HI .u64 p1 4294967295))) + (FU .u64 ((wI .u64 ((HI .u64 p0 4294967295) * (HI .u64 p1 4294967295)))) 32)))) 4294967295) + (wI .u64 ((HI .u64 p0 4294967295) * (FU .u64 p1 32)))))) 32))))))), (5, pD (.val (.int .u64 ((wI .u64 (p0 * p1))))))] [] rfl rfl) (Ar ?_)
 exact ⟨⟨[_, _], ⟨.tmp _ _ rfl, tm⟩, rfl⟩, tv⟩
theorem PO (N : Nat) (p0 : Int) (p1 : Int) (r : Int × Int) (h : JD N p0 p1 = some r) : Au Tryz.prog 86 [pD (.val (.int .u64 p0)), pD (.val (.int .u64 p1))] [] (.tup [.one (.pure (.val (.int .u64 r.1))), .one (.pure (.val (.int .u64 r.2)))]) := by
 unfold JD at h
 refine cw (n := 30) (rs := [.tmp 4, .tmp 5]) Tryz.func86 fun w0 S0 => ?_
 refine wq rfl (qa rfl (qa rfl (Ad (AN ?_))))
 refine A9 h (fun h => ?_) fun h => ?_
 ·refine wq rfl (qm rfl (Je UF UA rfl (qm rfl (Je UF UA rfl ?_))))
  refine BM h fun v2 a2 h => Az [] (Of N ((wI .u32 p0)) ((wI .u32 p1)) v2 a2) cT rfl (qm rfl (qx rfl (qx rfl (qa rfl (qa rfl (Ad (wq rfl (qm rfl (Je UV Sk rfl (qm rfl (Je UV Sk rfl (qa rfl (qe rfl ?_)))))))))))))
  obtain rfl := sj h
  refine Ah (sm [] [(4, pD (.val (.int .u64 ((wI .u64 v2.1))))), (5, pD (.val (.int .u64 ((wI .u64 v2.2)))))] [] rfl rfl) (Ar ?_)
  exact ⟨⟨[_, _], ⟨.tmp _ _ rfl, tm⟩, rfl⟩, tv⟩
 ·refine Al (wq rfl (qw 2 rfl ?_))
  refine BM h fun v3 a3 h => Az [] (Ok N p0 p1 v3 a3) ee rfl (qm rfl (qx rfl (qx rfl (qa rfl (qa rfl (Ad (wq rfl (qw 2 rfl (qa rfl (qe rfl ?_))))))))))
  obtain rfl := sj h
  refine Ah (sm [] [(4, pD (.val (.int .u64 v3.1))), (5, pD (.val (.int .u64 v3.2)))] [] rfl rfl) (Ar ?_)
  exact ⟨⟨[_, _], ⟨.tmp _ _ rfl, tm⟩, rfl⟩, tv⟩
theorem Lr (N : Nat) (p0 : List Int) (p1 : Int) (r : (List Int)) (h : FR N p0 p1 = some r) : Au Tryz.prog 61 [pD (.sl (p0.map Aq)), iD p1] [(1, r.map Aq)] (oD (.own 0)) := by
 unfold FR at h
 refine cw (n := 48) (rs := [.tmp 4]) Tryz.func61 fun w0 S0 => ?_
 refine wq rfl (qe rfl ?_)
 refine AP h (fun v1 => mk [(0, pD (.sl (p0.map Aq))), (1, iD p1)] []) (fun j1 h => ?_) (fun v1 h => ?_)
 ·refine wq rfl (qm rfl (AX rfl (Ad ?_)))
  refine A9 h (fun h => ?_) fun h => ?_
  ·refine Ai As rfl ?_
   cases h
  ·refine Al ?_
   exact sn [] h
 ·refine wq rfl (qm rfl (AV AD rfl (Je cd Sk rfl (qm rfl (Je cd Sk rfl ?_)))))
  refine BM h fun v3 a3 h => Az [] (PO N ((wI .u64 ((p0.length : Int)))) ((wI .u64 p1)) v3 a3) e8 rfl (qm rfl (qx rfl (qx rfl (qa rfl (qe rfl ?_)))))
  refine AP h (fun v4 => mk [(0, pD (.sl (p0.map Aq))), (6, pD (.val (.int .u64 v3.2)))] []) (fun j4 h => ?_) (fun v4 h => ?_)
  ·refine AP h (fun v5 => mk [(0, pD (.sl (p0.map Aq))), (6, pD (.val (.int .u64 v3.2))), (26, bD v5)] []) (fun j5 h => ?_) (fun v5 h => ?_)
   ·refine Ai As rfl (qm rfl (Gx rfl (qm rfl ?_)))
    refine E8 23 h rfl (fun h => ?_) fun h => ?_
    ·refine qw 2 rfl (qp rfl (Ad ?_))
     exact sn [] h
    ·refine qm rfl (Gx rfl (qp rfl (Ad ?_)))
     exact sn [] h
   ·refine A9 h (fun h => ?_) fun h => ?_
    ·refine Ai As rfl ?_
     cases h
    ·refine Al ?_
     exact sn [] h
  ·refine wq rfl (qm rfl (Je UF X9 rfl ?_))
   refine GK h fun c8 h => MG (.p rfl) rfl rfl rfl AD Ep MH (DY rfl) LG rfl rfl rfl c8.1 c8.2.1 c8.2.2 (ST Aq _ ((0 : Int))) ?_
   refine qa rfl (Ad (wq rfl (qw 2 rfl ?_)))
   refine Wq Aq (List.replicate ((wI .i64 v3.2)).toNat ((0 : Int))) p0 (.p rfl) rfl (It Aq _ _ (List.replicate ((wI .i64 v3.2)).toNat ((0 : Int)))) rfl rfl (Z6 Aq _ _ (fun _ => rfl)) tv AD Ep ?_
   refine qa rfl (Ad (AN ?_))
   refine Ax (L := Fe N) h (fun v9 => mk [(7, oD (.own 2001)), (8, iD v9.2)] [(2001, .vec 1 (v9.1.map Aq))]) (fun v10 => mk [(7, oD (.own 2002))] [(2002, .vec 1 (v10.map Aq))]) (fun _ _ => rfl) (sm [(2001, 30)] _ _ rfl rfl) (fun j9 n9 v9 h => ?_) (fun v10 s h hs => ?_)
   ·unfold Fe at h
    refine wp rfl (qw 2 rfl (DV AD rfl (AX rfl (Ad ?_))))
    refine A9 h (fun h => ?_) fun h => ?_
    ·refine Al (AG (Ai As rfl (qw 3 rfl ?_)))
     obtain ⟨c12, h⟩ := FT h
     have w13 : ((v9.2).toNat) + ((v9.1.length - (v9.2).toNat)) ≤ v9.1.length := by have := c12.2.1; have := c12.2.2; omega
     refine Iz Aq v9.1 (.p rfl) rfl (It Aq _ _ v9.1) rfl AD Ep (.some _ _ _ _ c12.1) (.none _) ⟨rfl, tv⟩ tv c12.2.1 (by rw [Nat.zero_add]; exact c12.2.2) (Nat.zero_add _) rfl ?_
     refine qw 2 rfl ?_
     obtain ⟨c14, h⟩ := FT h
     have w15 : 0 + ((v9.2).toNat) ≤ v9.1.length := by have := c14.2.1; have := c14.2.2; omega
     refine Iz Aq v9.1 (.p rfl) rfl (It Aq _ _ v9.1) rfl AD Ep (.none _) (.some _ _ _ _ c14.1) tv ⟨rfl, tv⟩ c14.2.1 (by rw [Nat.zero_add]; exact c14.2.2) (Nat.zero_add _) rfl ?_
     refine Wq Aq v9.1 (((v9.1.drop 0).take ((v9.2).toNat))) (.p rfl) rfl (Km Aq _ _ ((v9.2).toNat) ((v9.1.length - (v9.2).toNat)) v9.1 w13) rfl rfl (Sb Aq _ _ 0 ((v9.2).toNat) v9.1 w15) ⟨rfl, tv⟩ AD Ep ?_
     refine AT rfl (qa rfl (AE (by kernel_rfl) ?_))
     exact sn [] h
    ·refine AS ?_
     exact sn [(2002, 2001)] h
   ·refine Ah hs (wq rfl (qm rfl (qe rfl ?_)))
    obtain rfl := sj h
    refine Ah (sm [(1000, 2002)] [(4, oD (.own 1000))] [(1000, .vec 1 (v10.map Aq))] rfl rfl) (Ar ?_)
    exact ⟨⟨[_], tm, rfl⟩, ⟨rfl, tv⟩⟩
theorem LW (N : Nat) (p0 : An) (r : Bool) (h : Ha N p0 = some r) : Au Tryz.prog 62 [.e (.agg (Bv p0))] [] (bD r) := by
 unfold Ha at h
 refine cw (n := 11) (rs := [.tmp 2]) Tryz.func62 fun w0 S0 => ?_
 refine wq rfl (qb rfl (qe rfl ?_))
 refine AP h (fun v1 => mk [(2, bD v1)] []) (fun j1 h => ?_) (fun v1 h => ?_)
 ·refine Ai As rfl (qf HO rfl (ql CN rfl (BZ rfl (qm rfl ?_))))
  refine E8 6 h rfl (fun h => ?_) fun h => ?_
  ·refine qw 3 rfl (qp rfl (qe rfl ?_))
   exact sn [] h
  ·refine qf HO rfl (ql CN rfl (BZ rfl (qp rfl (qe rfl ?_))))
   exact sn [] h
 ·obtain rfl := sj h
  refine Ah (sm [] [(2, bD v1)] [] rfl rfl) (Ar ?_)
  exact ⟨⟨[_], tm, rfl⟩, tv⟩
theorem Uw (N : Nat) (p0 : Ac) (r : Af × Int) (h : Ja N p0 = some r) : Au Tryz.prog 35 [.e (.agg (Aj p0))] [(1, r.1.fG.map Aq), (1, r.1.fD.map Aq), (1, r.1.fH.map Ex)] (.tup [.agg [.own 0, .own 1, .own 2], .one (iC r.2)]) := by
 unfold Ja at h
 refine cw (n := 50) (rs := [.cell 2 64, .tmp 3]) Tryz.func35 fun w0 S0 => ?_
 refine wq rfl (qb rfl (qz EJ rfl (qa rfl (Ad (wp rfl (qL Db Cb rfl ?_))))))
 refine BM h fun v1 a1 h => Az [] (E1 N p0 v1 a1) Xn rfl (qa rfl (Ad (wq rfl (qm rfl (Cf rfl (Ad ?_))))))
 refine A9 h (fun h => ?_) fun h => ?_
 ·refine wq rfl (A6 EJ IZ rfl (qm rfl (qs AY rfl (qe rfl ?_))))
  obtain rfl := sj h
  refine Ah ((Av 2 0 2001 1 _ rfl rfl rfl rfl).trans ((Av 2 1 2002 1 _ rfl rfl rfl rfl).trans ((Av 2 2 2003 1 _ rfl rfl rfl rfl).trans (sm [(1000, 2001), (1001, 2002), (1002, 2003)] [(2, oD (.ptr 2 0)), (3, iD v1)] [(2, .box [.own 1000, .own 1001, .own 1002]), (1000, .vec 1 ((([] : List Int)).map Aq)), (1001, .vec 1 ((([] : List Int)).map Aq)), (1002, .vec 1 ((([] : List Int)).map Ex))] rfl rfl)))) (Ar ?_)
  exact ⟨⟨[_, _], ⟨.cellN _ _ _ _ _ _ _ rfl rfl BT AY rfl rfl (IL rfl), tm⟩, rfl⟩, ⟨rfl, rfl, rfl, tv⟩⟩
 ·refine Al (wq rfl (qf HJ rfl (ql Bg rfl ?_)))
  refine BM h fun v3 a3 h => Az [2004] (C9 N p0.fK v3 a3) Ua rfl (Fg AD Ep LG rfl (qf HJ rfl (ql Bg rfl (AV AD rfl ?_))))
  refine BM h fun v4 a4 h => Fi [2005] [17] (Lr N (([(-1)] : List Int)) ((p0.fK.length : Int)) v4 a4) fe (Jz (fun _ => rfl) Dh) rfl (qf BK rfl (ql GZ rfl (AV Dc rfl ?_)))
  refine GK h fun c5 h => MG (.p rfl) rfl rfl rfl E6 HQ TV (DY rfl) S5 rfl rfl rfl c5.1 c5.2.1 c5.2.2 (ST Ex _ ((0 : Int))) ?_
  refine A6 EJ IZ rfl (qz EJ rfl (qs AY rfl (AE (by kernel_rfl) (wp rfl (qf BK rfl (ql GZ rfl (AV Dc rfl (qm rfl (Ad ?_)))))))))
  refine Ax (L := Fy N p0) h (fun v6 => mk [(1, oD (.ptr 1 0)), (2, oD (.ptr 2 0)), (5, oD (.ptr 5 0)), (28, pD (.sl (p0.fF.map AI))), (29, iD ((p0.fF.length : Int))), (30, iD v6.2)] [(1, .box (Aj p0)), (2, .box [.pure (.nil0), .pure (.nil0), .pure (.nil0)]), (5, .box [.own 2006, .own 2007, .own 2008]), (2006, .vec 1 (v3.map Aq)), (2007, .vec 1 (v4.map Aq)), (2008, .vec 1 (v6.1.map Ex))]) (fun v7 => mk [(2, oD (.ptr 2 0)), (5, oD (.ptr 5 0))] [(2, .box [.pure (.nil0), .pure (.nil0), .pure (.nil0)]), (5, .box [.own 2009, .own 2010, .own 2011]), (2009, .vec 1 (v3.map Aq)), (2010, .vec 1 (v4.map Aq)), (2011, .vec 1 (v7.map Ex))]) (fun _ _ => rfl) (sm [(2006, 2004), (2007, 2005), (2008, 25)] _ _ rfl rfl) (fun j6 n6 v6 h => ?_) (fun v7 s h hs => ?_)
  ·unfold Fy at h
   refine wq rfl (AX rfl (Ad (AN ?_)))
   refine A9 h (fun h => ?_) fun h => ?_
   ·refine Al ?_
    refine AP h (fun v9 => mk [(1, oD (.ptr 1 0)), (2, oD (.ptr 2 0)), (5, oD (.ptr 5 0)), (28, pD (.sl (p0.fF.map AI))), (29, iD ((p0.fF.length : Int))), (30, iD v6.2)] [(1, .box (Aj p0)), (2, .box [.pure (.nil0), .pure (.nil0), .pure (.nil0)]), (5, .box [.own 2012, .own 2013, .own 2014]), (2012, .vec 1 (v3.map Aq)), (2013, .vec 1 (v4.map Aq)), (2014, .vec 1 (v9.map Ex))]) (fun j9 h => ?_) (fun v9 h => ?_)
    ·refine AG (wq rfl (qm rfl ?_))
     refine Bc h fun v10 a10 b10 h => qi Dc DB a10 (Ae b10) rfl (qK HZ DB rfl (qz Kc rfl (qa rfl (qs DB rfl (Ad (wq rfl (qL HZ DB rfl ?_)))))))
     refine BM h fun v11 a11 h => Az [] (LW N v10 v11 a11) cp rfl (Ad ?_)
     refine A9 h (fun h => ?_) fun h => ?_
     ·refine Ai As rfl (qf DQ rfl (ql I0 rfl (qm rfl (qf HJ rfl (ql Bg rfl (qf Eu rfl (ql CN rfl ?_)))))))
      refine Bc h fun v13 a13 b13 h => qi AD Ep a13 (Ae b13) rfl (qk CN rfl ?_)
      refine GK h fun c14 h => JR rfl c14 ?_
      refine Bc h fun v15 a15 b15 h => qI E6 HQ a15 (Ae b15) rfl ?_
      refine Ba rfl rfl rfl rfl (Ae b15) rfl HQ rfl (DY rfl) (A2 Ex v6.1 _ ((DC .u8 1 v13))) ?_
      refine AE (by kernel_rfl) ?_
      exact sn [(2012, 2006), (2013, 2007), (2014, 2008)] h
     ·refine Al ?_
      exact sn [(2012, 2006), (2013, 2007), (2014, 2008)] h
    ·refine Ai As rfl (AT rfl (qm rfl (Ad ?_)))
     exact sn [(2006, 2012), (2007, 2013), (2008, 2014)] h
   ·refine AS ?_
    exact sn [(2009, 2006), (2010, 2007), (2011, 2008)] h
  ·refine Ah hs (wq rfl (qL BT AY rfl (qs AY rfl (qe rfl ?_))))
   obtain rfl := sj h
   refine Ah (sm [(1000, 2009), (1001, 2010), (1002, 2011)] [(2, oD (.ptr 2 0)), (3, iD 0)] [(2, .box [.own 1000, .own 1001, .own 1002]), (1000, .vec 1 (v3.map Aq)), (1001, .vec 1 (v4.map Aq)), (1002, .vec 1 (v7.map Ex))] rfl rfl) (Ar ?_)
   exact ⟨⟨[_, _], ⟨.cellN _ _ _ _ _ _ _ rfl rfl BT AY rfl rfl (IL rfl), tm⟩, rfl⟩, ⟨rfl, rfl, rfl, tv⟩⟩
theorem Ld (N : Nat) (p0 : Af) (p1 : Int) (r : Int) (h : Gw N p0 p1 = some r) : Au Tryz.prog 130 [.e (.agg (AL p0)), iD p1] [] (pD (.val (.int .u8 r))) := by
 unfold Gw at h
 refine cw (n := 27) (rs := [.tmp 4]) Tryz.func130 fun w0 S0 => ?_
 refine wq rfl (qb rfl (qa rfl (Ad (wq rfl (qf DR rfl (ql Bg rfl (qm rfl ?_)))))))
 refine Bc h fun v1 a1 b1 h => qi AD Ep a1 (Ae b1) rfl (qk CN rfl ?_)
 refine GK h fun c2 h => JR rfl c2 (qe rfl ?_)
 refine AP h (fun v3 => mk [(5, pD (.val (.int .u8 v3)))] []) (fun j3 h => ?_) (fun v3 h => ?_)
 ·refine wq rfl (qf B7 rfl (ql Bg rfl (qm rfl ?_)))
  refine Bc h fun v4 a4 b4 h => qi AD Ep a4 (Ae b4) rfl (qk CN rfl (D4 rfl (Ad ?_)))
  refine A9 h (fun h => ?_) fun h => ?_
  ·refine Ai As rfl (qm rfl (qf B7 rfl (ql Bg rfl (qm rfl ?_))))
   refine Bc h fun v6 a6 b6 h => qi AD Ep a6 (Ae b6) rfl (qk CN rfl ?_)
   refine GK h fun c7 h => JR rfl c7 (Yz rfl (qe rfl ?_))
   exact sn [] h
  ·refine Al ?_
   exact sn [] h
 ·refine wq rfl (qm rfl (qe rfl ?_))
  obtain rfl := sj h
  refine Ah (sm [] [(4, pD (.val (.int .u8 v3)))] [] rfl rfl) (Ar ?_)
  exact ⟨⟨[_], tm, rfl⟩, tv⟩
theorem K6 (N : Nat) (p0 : Ac) (p1 : Af) (r : Int) (h : GY N p0 p1 = some r) : Au Tryz.prog 91 [.e (.agg (Aj p0)), .e (.agg (AL p1))] [] (iD r) := by
 unfold GY at h
 refine cw (n := 135) (rs := [.tmp 4]) Tryz.func91 fun w0 S0 => ?_
 refine wq rfl (qb rfl (qb rfl (qa rfl (Ad (wp rfl (qL Db Cb rfl ?_))))))
 refine BM h fun v1 a1 h => Az [] (E1 N p0 v1 a1) Xn rfl (qa rfl (Ad (wq rfl (qm rfl (Cf rfl (Ad ?_))))))
 refine A9 h (fun h => ?_) fun h => ?_
 ·refine wq rfl (qm rfl (qe rfl ?_))
  obtain rfl := sj h
  refine Ah (sm [] [(4, iD v1)] [] rfl rfl) (Ar ?_)
  exact ⟨⟨[_], tm, rfl⟩, tv⟩
 ·refine Al (AN ?_)
  refine AP h (fun v3 => mk [(2, oD (.ptr 2 0)), (3, oD (.ptr 3 0)), (41, bD v3)] [(2, .box (Aj p0)), (3, .box (AL p1))]) (fun j3 h => ?_) (fun v3 h => ?_)
  ·refine Ai As rfl (qf DR rfl (ql Bg rfl (AV AD rfl (qf BH rfl (ql Bg rfl (AV AD rfl (Cf rfl (qm rfl ?_))))))))
   refine E8 24 h rfl (fun h => ?_) fun h => ?_
   ·refine qw 7 rfl (qp rfl (qw 8 rfl (qp rfl (Ad ?_))))
    exact sn [] h
   ·refine qf B7 rfl (ql Bg rfl (AV AD rfl (qf BH rfl (ql Bg rfl (AV AD rfl (Cf rfl (qp rfl (qm rfl ?_))))))))
    refine E8 33 h rfl (fun h => ?_) fun h => ?_
    ·refine qw 7 rfl (qp rfl (Ad ?_))
     exact sn [] h
    ·refine qf DQ rfl (ql I0 rfl (AV E6 rfl (qf BK rfl (ql GZ rfl (AV Dc rfl (Cf rfl (qp rfl (Ad ?_))))))))
     exact sn [] h
  ·refine A9 h (fun h => ?_) fun h => ?_
   ·refine wq rfl (qe rfl ?_)
    obtain rfl := sj h
    refine Ah (sm [] [(4, iD 6)] [] rfl rfl) (Ar ?_)
    exact ⟨⟨[_], tm, rfl⟩, tv⟩
   ·refine Al (wp rfl (qf BH rfl (ql Bg rfl (AV AD rfl (qm rfl (Ad ?_))))))
    refine Ax (L := Fx N p0 p1) h (fun v7 => mk [(2, oD (.ptr 2 0)), (3, oD (.ptr 3 0)), (43, pD (.sl (p0.fE.map Aq))), (44, iD ((p0.fE.length : Int))), (45, iD v7)] [(2, .box (Aj p0)), (3, .box (AL p1))]) (fun v8 => mk [(2, oD (.ptr 2 0)), (3, oD (.ptr 3 0))] [(2, .box (Aj p0)), (3, .box (AL p1))]) (fun _ _ => rfl) (sm [] _ _ rfl rfl) (fun j7 n7 v7 h => ?_) (fun v8 s h hs => ?_)
    ·unfold Fx at h
     refine wq rfl (AX rfl (Ad (AN ?_)))
     refine A9 h (fun h => ?_) fun h => ?_
     ·refine Al (AN (AG (wq rfl (qm rfl ?_))))
      refine Bc h fun v10 a10 b10 h => qi AD Ep a10 (Ae b10) rfl (qk CN rfl (qa rfl (qa rfl (Ad (AN ?_)))))
      refine AP h (fun v11 => mk [(2, oD (.ptr 2 0)), (3, oD (.ptr 3 0)), (6, iD v7), (43, pD (.sl (p0.fE.map Aq))), (44, iD ((p0.fE.length : Int))), (45, iD v7), (81, bD v11)] [(2, .box (Aj p0)), (3, .box (AL p1))]) (fun j11 h => ?_) (fun v11 h => ?_)
      ·refine Ai As rfl (qf DR rfl (ql Bg rfl (qm rfl ?_)))
       refine Bc h fun v12 a12 b12 h => qi AD Ep a12 (Ae b12) rfl (qk CN rfl (AX rfl (qm rfl ?_)))
       refine E8 56 h rfl (fun h => ?_) fun h => ?_
       ·refine qw 7 rfl (qp rfl (qw 7 rfl (qp rfl (qw 8 rfl (qp rfl (Ad ?_))))))
        exact sn [] h
       ·refine qf DR rfl (ql Bg rfl (qm rfl ?_))
        refine Bc h fun v14 a14 b14 h => qi AD Ep a14 (Ae b14) rfl (qk CN rfl (qm rfl (D4 rfl (qp rfl (qm rfl ?_)))))
        refine E8 65 h rfl (fun h => ?_) fun h => ?_
        ·refine qw 6 rfl (qp rfl (qw 8 rfl (qp rfl (Ad ?_))))
         exact sn [] h
        ·refine qf B7 rfl (ql Bg rfl (qm rfl ?_))
         refine Bc h fun v16 a16 b16 h => qi AD Ep a16 (Ae b16) rfl (qk CN rfl (AX rfl (qp rfl (qm rfl ?_))))
         refine E8 73 h rfl (fun h => ?_) fun h => ?_
         ·refine qw 7 rfl (qp rfl (Ad ?_))
          exact sn [] h
         ·refine qf B7 rfl (ql Bg rfl (qm rfl ?_))
          refine Bc h fun v18 a18 b18 h => qi AD Ep a18 (Ae b18) rfl (qk CN rfl (qm rfl (D4 rfl (qp rfl (Ad ?_)))))
          exact sn [] h
      ·refine A9 h (fun h => ?_) fun h => ?_
       ·refine wq rfl (qe rfl ?_)
        obtain rfl := sj h
        refine Ah (sm [] [(4, iD 7)] [] rfl rfl) (Ar ?_)
        exact ⟨⟨[_], tm, rfl⟩, tv⟩
       ·refine Al (wq rfl (qf DR rfl (ql Bg rfl (qm rfl ?_))))
        refine Bc h fun v20 a20 b20 h => qi AD Ep a20 (Ae b20) rfl (qk CN rfl (qf B7 rfl (ql Bg rfl (qm rfl ?_))))
        refine Bc h fun v21 a21 b21 h => qi AD Ep a21 (Ae b21) rfl (qk CN rfl (BZ rfl (AE (by kernel_rfl) ?_)))
        refine A9 h (fun h => ?_) fun h => ?_
        ·refine wq rfl (qe rfl ?_)
         obtain rfl := sj h
         refine Ah (sm [] [(4, iD 1)] [] rfl rfl) (Ar ?_)
         exact ⟨⟨[_], tm, rfl⟩, tv⟩
        ·refine Al (Ai As rfl (AT rfl (qm rfl (Ad ?_))))
         exact sn [] h
     ·refine AS ?_
      exact sn [] h
    ·refine Ah hs (wp rfl (qf BK rfl (ql GZ rfl (AV Dc rfl (qm rfl (Ad ?_))))))
     refine Ax (L := EZ N p0 p1) h (fun v23 => mk [(2, oD (.ptr 2 0)), (3, oD (.ptr 3 0)), (95, pD (.sl (p0.fF.map AI))), (96, iD ((p0.fF.length : Int))), (97, iD v23)] [(2, .box (Aj p0)), (3, .box (AL p1))]) (fun v24 => mk [] []) (fun _ _ => rfl) (sm [] _ _ rfl rfl) (fun j23 n23 v23 h => ?_) (fun v24 s h hs => ?_)
     ·unfold EZ at h
      refine wq rfl (AX rfl (Ad (AN ?_)))
      refine A9 h (fun h => ?_) fun h => ?_
      ·refine Al (AN (AG (wq rfl (qm rfl ?_))))
       refine Bc h fun v26 a26 b26 h => qi Dc DB a26 (Ae b26) rfl (qK HZ DB rfl (qz Kc rfl (qa rfl (qs DB rfl (Ad (wq rfl (qa rfl (qe rfl ?_))))))))
       refine AP h (fun v27 => mk [(2, oD (.ptr 2 0)), (3, oD (.ptr 3 0)), (8, iD v23), (10, pD (.val (.int .u8 v27.1))), (11, pD (.val (.int .u8 v27.2))), (95, pD (.sl (p0.fF.map AI))), (96, iD ((p0.fF.length : Int))), (97, iD v23)] [(2, .box (Aj p0)), (3, .box (AL p1))]) (fun j27 h => ?_) (fun v27 h => ?_)
       ·refine wq rfl (qL HZ DB rfl ?_)
        refine BM h fun v28 a28 h => Az [] (LW N v26 v28 a28) cp rfl (Ad ?_)
        refine A9 h (fun h => ?_) fun h => ?_
        ·refine Ai As rfl (qL BT AY rfl (qf Eu rfl (ql CN rfl ?_)))
         refine BM h fun v30 a30 h => Az [] (Ld N p1 v26.fJ v30 a30) Yf rfl (qf BH rfl (ql Bg rfl (qf Eu rfl (ql CN rfl ?_))))
         refine Bc h fun v31 a31 b31 h => qi AD Ep a31 (Ae b31) rfl (qk CN rfl ?_)
         refine GK h fun c32 h => JR rfl c32 (DA rfl (qa rfl (qa rfl (AE (by kernel_rfl) ?_))))
         exact sn [] h
        ·refine Al ?_
         exact sn [] h
       ·refine AP h (fun v33 => mk [(2, oD (.ptr 2 0)), (3, oD (.ptr 3 0)), (95, pD (.sl (p0.fF.map AI))), (96, iD ((p0.fF.length : Int))), (97, iD v23), (133, bD v33)] [(2, .box (Aj p0)), (3, .box (AL p1))]) (fun j33 h => ?_) (fun v33 h => ?_)
        ·refine Ai As rfl (qm rfl (qf DQ rfl (ql I0 rfl (qm rfl ?_))))
         refine Bc h fun v34 a34 b34 h => qi E6 HQ a34 (Ae b34) rfl (qk MP rfl (Kx rfl (Cf rfl (qm rfl ?_))))
         refine E8 124 h rfl (fun h => ?_) fun h => ?_
         ·refine qw 8 rfl (qp rfl (Ad ?_))
          exact sn [] h
         ·refine qf DQ rfl (ql I0 rfl (qm rfl ?_))
          refine Bc h fun v36 a36 b36 h => qi E6 HQ a36 (Ae b36) rfl (qk MP rfl (qm rfl (Kx rfl (Cf rfl (qp rfl (Ad ?_))))))
          exact sn [] h
        ·refine A9 h (fun h => ?_) fun h => ?_
         ·refine wq rfl (qe rfl ?_)
          obtain rfl := sj h
          refine Ah (sm [] [(4, iD 1)] [] rfl rfl) (Ar ?_)
          exact ⟨⟨[_], tm, rfl⟩, tv⟩
         ·refine Al (Ai As rfl (AT rfl (qm rfl (Ad ?_))))
          exact sn [] h
      ·refine AS ?_
       exact sn [] h
     ·refine Ah hs (wq rfl (qe rfl ?_))
      obtain rfl := sj h
      refine Ah (sm [] [(4, iD 0)] [] rfl rfl) (Ar ?_)
      exact ⟨⟨[_], tm, rfl⟩, tv⟩
theorem Hl (N : Nat) (p0 : List Int) (r : (List Int)) (h : Cs N p0 = some r) : Au Tryz.prog 146 [pD (.sl (p0.map Ex))] [(1, r.map Ex)] (oD (.own 0)) := by
 unfold Cs at h
 refine cw (n := 8) (rs := [.tmp 2]) Tryz.func146 fun w0 S0 => ?_
 refine wq rfl (qa rfl (Ad (wp rfl (qm rfl ?_))))
 refine Oe (.p rfl) rfl E6 ?_
 refine Ad ?_
 refine NZ rfl (fun c2 => ?_) ?_
 ·have c2 := List.map_eq_nil_iff.1 c2
  rw [c2] at h
  have h : (some (([] : List Int))) = some r := h
  refine wq rfl (qe rfl ?_)
  obtain rfl := sj h
  refine Ah ((Bl 2 2001 1 rfl rfl rfl).trans (sm [(1000, 2001)] [(2, oD (.own 1000))] [(1000, .vec 1 ((([] : List Int)).map Ex))] rfl rfl)) (Ar ?_)
  exact ⟨⟨[_], tm, rfl⟩, ⟨rfl, tv⟩⟩
 ·refine Al (wq rfl (Fg E6 HQ S5 rfl (qm rfl ?_)))
  refine GK h fun c1 h => HT (f := Ex) E6 E6 HQ TV S5 (fun _ => rfl) c1 rfl (qe rfl ?_)
  obtain rfl := sj h
  refine Ah (sm [(1000, 7)] [(2, oD (.own 1000))] [(1000, .vec 1 (((([] : List Int)) ++ p0).map Ex))] rfl rfl) (Ar ?_)
  exact ⟨⟨[_], tm, rfl⟩, ⟨rfl, tv⟩⟩
theorem Tn (N : Nat) (p0 : Ac) (p1 : Af) (r : (List Af) × Int) (h : Iq N p0 p1 = some r) : Au Tryz.prog 123 [.e (.agg (Aj p0)), .e (.agg (AL p1))] [(3, r.1.map Fc)] (.tup [.one (.own 0), .one (iC r.2)]) := by
 unfold Iq at h
 refine cw (n := 75) (rs := [.tmp 4, .tmp 5]) Tryz.func123 fun w0 S0 => ?_
 refine wq rfl (qb rfl (qb rfl (qa rfl (qa rfl (Ad (wp rfl (qL Db Cb rfl (qL BT AY rfl ?_))))))))
 refine BM h fun v1 a1 h => Az [] (K6 N p0 p1 v1 a1) Zu rfl (qa rfl (Ad (wq rfl (qm rfl (Cf rfl (Ad ?_))))))
 refine A9 h (fun h => ?_) fun h => ?_
 ·refine wq rfl (qm rfl (qa rfl (qe rfl ?_)))
  obtain rfl := sj h
  refine Ah ((Bl 4 2001 3 rfl rfl rfl).trans (sm [(1000, 2001)] [(4, oD (.own 1000)), (5, iD v1)] [(1000, .vec 3 ((([] : List Af)).map Fc))] rfl rfl)) (Ar ?_)
  exact ⟨⟨[_, _], ⟨.tmp _ _ rfl, tm⟩, rfl⟩, ⟨rfl, tv⟩⟩
 ·refine Al (wq rfl (qa rfl (Ad (wp rfl (qf B7 rfl (ql Bg rfl (AV AD rfl (qm rfl (Ad ?_)))))))))
  refine Ax (L := E4 N p1) h (fun v3 => mk [(3, oD (.ptr 3 0)), (7, oD (.own 2002)), (22, pD (.sl (p1.fD.map Aq))), (23, iD ((p1.fD.length : Int))), (24, iD v3.2)] [(3, .box (AL p1)), (2002, .vec 1 (v3.1.map Aq))]) (fun v4 => mk [(3, oD (.ptr 3 0)), (7, oD (.own 2003))] [(3, .box (AL p1)), (2003, .vec 1 (v4.map Aq))]) (fun _ _ => rfl) ((Bl 7 2005 1 rfl rfl rfl).trans (sm [(2002, 2005)] _ _ rfl rfl)) (fun j3 n3 v3 h => ?_) (fun v4 s h hs => ?_)
  ·unfold E4 at h
   refine wq rfl (AX rfl (Ad (AN ?_)))
   refine A9 h (fun h => ?_) fun h => ?_
   ·refine Al ?_
    refine AP h (fun v6 => mk [(3, oD (.ptr 3 0)), (7, oD (.own 2004)), (22, pD (.sl (p1.fD.map Aq))), (23, iD ((p1.fD.length : Int))), (24, iD v3.2)] [(3, .box (AL p1)), (2004, .vec 1 (v6.map Aq))]) (fun j6 h => ?_) (fun v6 h => ?_)
    ·refine AG (wq rfl (qm rfl ?_))
     refine Bc h fun v7 a7 b7 h => qi AD Ep a7 (Ae b7) rfl (qk CN rfl (qa rfl (qa rfl (Ad (wq rfl (qm rfl (D4 rfl (Ad ?_))))))))
     refine A9 h (fun h => ?_) fun h => ?_
     ·refine Ai As rfl (qw 2 rfl (Fg AD Ep LG rfl ?_))
      refine GK h fun c9 h => EM (f := Aq) AD AD Ep MH LG c9 rfl (qe rfl ?_)
      exact sn [(2004, 34)] h
     ·refine Al ?_
      exact sn [(2004, 2002)] h
    ·refine Ai As rfl (AT rfl (qm rfl (Ad ?_)))
     exact sn [(2002, 2004)] h
   ·refine AS ?_
    exact sn [(2003, 2002)] h
  ·refine Ah hs (wq rfl (qa rfl (Ad (wp rfl (qm rfl (DV AD rfl ?_))))))
   refine GK h fun c10 h => JR rfl c10 (qm rfl (Ad ?_))
   refine Ax (L := D7 N p1 v4) h (fun v11 => mk [(3, oD (.ptr 3 0)), (7, oD (.own 2006)), (10, oD (.own 2007)), (38, iD ((DC .i64 1 ((v4.length : Int))))), (39, iD v11.2)] [(3, .box (AL p1)), (2006, .vec 1 (v4.map Aq)), (2007, .vec 3 (v11.1.map Fc))]) (fun v12 => mk [(10, oD (.own 2008))] [(2008, .vec 3 (v12.map Fc))]) (fun _ _ => rfl) ((Bl 10 2027 3 rfl rfl rfl).trans (sm [(2006, 2003), (2007, 2027)] _ _ rfl rfl)) (fun j11 n11 v11 h => ?_) (fun v12 s h hs => ?_)
   ·unfold D7 at h
    refine wq rfl (AX rfl (Ad (AN ?_)))
    refine A9 h (fun h => ?_) fun h => ?_
    ·refine Al (AN (AG (wq rfl (qm rfl (qa rfl (Ad (wq rfl (qf DR rfl (ql Bg rfl ?_)))))))))
     refine BM h fun v14 a14 h => Az [2009] (C9 N p1.fG v14 a14) Ua rfl (qf B7 rfl (ql Bg rfl ?_))
     refine BM h fun v15 a15 h => Az [2010] (C9 N p1.fD v15 a15) Ua rfl (qf DQ rfl (ql I0 rfl ?_))
     refine BM h fun v16 a16 h => Az [2011] (Hl N p1.fH v16 a16) aj rfl (A6 EJ IZ rfl (qz EJ rfl (qs AY rfl (AE (by kernel_rfl) (wp rfl (qm rfl (DV AD rfl (qm rfl (Ad ?_)))))))))
     refine Ax (L := D3 N v4 v11) h (fun v17 => mk [(3, oD (.ptr 3 0)), (7, oD (.own 2015)), (10, oD (.own 2016)), (11, iD v11.2), (12, oD (.ptr 12 0)), (38, iD ((DC .i64 1 ((v4.length : Int))))), (39, iD v11.2), (52, oD (.own 2015)), (53, iD ((v4.length : Int))), (54, iD v17.2)] [(3, .box (AL p1)), (12, .box [.own 2012, .own 2013, .own 2014]), (2012, .vec 1 (v14.map Aq)), (2013, .vec 1 (v17.1.map Aq)), (2014, .vec 1 (v16.map Ex)), (2015, .vec 1 (v4.map Aq)), (2016, .vec 3 (v11.1.map Fc))]) (fun v18 => mk [(3, oD (.ptr 3 0)), (7, oD (.own 2020)), (10, oD (.own 2021)), (12, oD (.ptr 12 0)), (38, iD ((DC .i64 1 ((v4.length : Int))))), (39, iD v11.2)] [(3, .box (AL p1)), (12, .box [.own 2017, .own 2018, .own 2019]), (2017, .vec 1 (v14.map Aq)), (2018, .vec 1 (v18.map Aq)), (2019, .vec 1 (v16.map Ex)), (2020, .vec 1 (v4.map Aq)), (2021, .vec 3 (v11.1.map Fc))]) (fun _ _ => rfl) (sm [(2012, 2009), (2013, 2010), (2014, 2011), (2015, 2006), (2016, 2007)] _ _ rfl rfl) (fun j17 n17 v17 h => ?_) (fun v18 s h hs => ?_)
     ·unfold D3 at h
      refine wq rfl (AX rfl (Ad (AN ?_)))
      refine A9 h (fun h => ?_) fun h => ?_
      ·refine Al ?_
       refine AP h (fun v20 => mk [(3, oD (.ptr 3 0)), (7, oD (.own 2025)), (10, oD (.own 2026)), (11, iD v11.2), (12, oD (.ptr 12 0)), (38, iD ((DC .i64 1 ((v4.length : Int))))), (39, iD v11.2), (52, oD (.own 2025)), (53, iD ((v4.length : Int))), (54, iD v17.2)] [(3, .box (AL p1)), (12, .box [.own 2022, .own 2023, .own 2024]), (2022, .vec 1 (v14.map Aq)), (2023, .vec 1 (v20.map Aq)), (2024, .vec 1 (v16.map Ex)), (2025, .vec 1 (v4.map Aq)), (2026, .vec 3 (v11.1.map Fc))]) (fun j20 h => ?_) (fun v20 h => ?_)
       ·refine AG (wq rfl (qm rfl ?_))
        refine Bc h fun v21 a21 b21 h => qI AD Ep a21 (Ae b21) rfl (qj CN (Ae b21) rfl (qa rfl (qa rfl (Ad (wq rfl (qw 2 rfl ?_))))))
        refine GK h fun c22 h => Jf rfl c22 (OE rfl (BZ rfl (Ad ?_)))
        refine A9 h (fun h => ?_) fun h => ?_
        ·refine Ai As rfl (qf B7 rfl (ql Bg rfl (qm rfl ?_)))
         refine Bc h fun v24 a24 b24 h => qI AD Ep a24 (Ae b24) rfl ?_
         refine Ba rfl rfl rfl rfl (Ae b24) rfl Ep rfl (DY rfl) (A2 Aq v17.1 _ ((-1))) ?_
         refine Ad ?_
         exact sn [(2022, 2012), (2023, 2013), (2024, 2014), (2025, 2015), (2026, 2016)] h
        ·refine Al ?_
         exact sn [(2022, 2012), (2023, 2013), (2024, 2014), (2025, 2015), (2026, 2016)] h
       ·refine Ai As rfl (AT rfl (qm rfl (Ad ?_)))
        exact sn [(2012, 2022), (2013, 2023), (2014, 2024), (2015, 2025), (2016, 2026)] h
      ·refine AS ?_
       exact sn [(2017, 2012), (2018, 2013), (2019, 2014), (2020, 2015), (2021, 2016)] h
     ·refine Ah hs (Ai As rfl (qm rfl (qL BT AY rfl (EQ (Br 2017 _ _ rfl rfl) (EQ (Br 2018 _ _ rfl rfl) (EQ (Br 2019 _ _ rfl rfl) (Fg Jx AY EJ rfl ?_)))))))
      refine GK h fun c25 h => EM (f := Fc) Jx Jx AY aV EJ c25 rfl (qa rfl (Ad (Ai As rfl (AT rfl (qm rfl (Ad ?_))))))
      exact sn [(2006, 2020), (2007, 72)] h
    ·refine AS ?_
     exact sn [(2008, 2007)] h
   ·refine Ah hs (wq rfl (qm rfl (qa rfl (qe rfl ?_))))
    obtain rfl := sj h
    refine Ah (sm [(1000, 2008)] [(4, oD (.own 1000)), (5, iD 0)] [(1000, .vec 3 (v12.map Fc))] rfl rfl) (Ar ?_)
    exact ⟨⟨[_, _], ⟨.tmp _ _ rfl, tm⟩, rfl⟩, ⟨rfl, tv⟩⟩
theorem PP (N : Nat) (p0 : Ac) (p1 : Af) (r : (List Aa)) (h : Hg N p0 p1 = some r) : Au Tryz.prog 124 [.e (.agg (Aj p0)), .e (.agg (AL p1))] [(3, r.map Ab)] (oD (.own 0)) := by
 unfold Hg at h
 refine cw (n := 98) (rs := [.tmp 4]) Tryz.func124 fun w0 S0 => ?_
 refine wq rfl (qb rfl (qb rfl (qa rfl (Ad (wq rfl (qa rfl (Ad (wp rfl (qf BK rfl (ql GZ rfl (AV Dc rfl (qm rfl (Ad ?_)))))))))))))
 refine Ax (L := Ez N p0 p1) h (fun v1 => mk [(3, oD (.ptr 3 0)), (5, oD (.own 2001)), (15, pD (.sl (p0.fF.map AI))), (16, iD ((p0.fF.length : Int))), (17, iD v1.2)] [(3, .box (AL p1)), (2001, .vec 3 (v1.1.map Ab))]) (fun v2 => mk [(5, oD (.own 2002))] [(2002, .vec 3 (v2.map Ab))]) (fun _ _ => rfl) ((Bl 5 2013 3 rfl rfl rfl).trans (sm [(2001, 2013)] _ _ rfl rfl)) (fun j1 n1 v1 h => ?_) (fun v2 s h hs => ?_)
 ·unfold Ez at h
  refine wq rfl (AX rfl (Ad (AN ?_)))
  refine A9 h (fun h => ?_) fun h => ?_
  ·refine Al (AN (AG (wq rfl (qm rfl ?_))))
   refine Bc h fun v4 a4 b4 h => qi Dc DB a4 (Ae b4) rfl (qK HZ DB rfl (qz Kc rfl (qa rfl (qs DB rfl (Ad (wq rfl (qL BT AY rfl (qf Eu rfl (ql CN rfl ?_)))))))))
   refine BM h fun v5 a5 h => Az [] (Ld N p1 v4.fJ v5 a5) Yf rfl (qL BT AY rfl (qf Ke rfl (ql CN rfl ?_)))
   refine BM h fun v6 a6 h => Az [] (Ld N p1 v4.fO v6 a6) Yf rfl (qa rfl (qa rfl (AE (by kernel_rfl) ?_)))
   refine AP h (fun v7 => mk [(3, oD (.ptr 3 0)), (5, oD (.own 2003)), (6, iD v1.2), (7, oD (.ptr 7 0)), (8, pD (.val (.int .u8 v7))), (9, pD (.val (.int .u8 v6))), (15, pD (.sl (p0.fF.map AI))), (16, iD ((p0.fF.length : Int))), (17, iD v1.2)] [(3, .box (AL p1)), (7, .box (Bv v4)), (2003, .vec 3 (v1.1.map Ab))]) (fun j7 h => ?_) (fun v7 h => ?_)
   ·refine wq rfl (qL HZ DB rfl ?_)
    refine BM h fun v8 a8 h => Az [] (LW N v4 v8 a8) cp rfl (Ad ?_)
    refine A9 h (fun h => ?_) fun h => ?_
    ·refine Ai As rfl (qf DQ rfl (ql I0 rfl (qm rfl ?_)))
     refine Bc h fun v10 a10 b10 h => qi E6 HQ a10 (Ae b10) rfl (qk MP rfl (qe rfl ?_))
     exact sn [(2003, 2001)] h
    ·refine Al ?_
     exact sn [(2003, 2001)] h
   ·refine wq rfl (qf FB rfl (ql HR rfl (AV Ed rfl (qm rfl (Ad ?_)))))
    refine Ax (L := Da N v1 v4 v6 v7) h (fun v11 => mk [(3, oD (.ptr 3 0)), (5, oD (.own 2004)), (6, iD v1.2), (7, oD (.ptr 7 0)), (8, pD (.val (.int .u8 v7))), (9, pD (.val (.int .u8 v6))), (15, pD (.sl (p0.fF.map AI))), (16, iD ((p0.fF.length : Int))), (17, iD v1.2), (39, iD ((v4.fN.length : Int))), (40, iD v11.2)] [(3, .box (AL p1)), (7, .box (Bv v4)), (2004, .vec 3 (v11.1.map Ab))]) (fun v12 => mk [(3, oD (.ptr 3 0)), (5, oD (.own 2005)), (15, pD (.sl (p0.fF.map AI))), (16, iD ((p0.fF.length : Int))), (17, iD v1.2)] [(3, .box (AL p1)), (2005, .vec 3 (v12.map Ab))]) (fun _ _ => rfl) (sm [(2004, 2003)] _ _ rfl rfl) (fun j11 n11 v11 h => ?_) (fun v12 s h hs => ?_)
    ·unfold Da at h
     refine wq rfl (AX rfl (Ad (AN ?_)))
     refine A9 h (fun h => ?_) fun h => ?_
     ·refine Al ?_
      refine AP h (fun v14 => mk [(3, oD (.ptr 3 0)), (5, oD (.own 2006)), (6, iD v1.2), (7, oD (.ptr 7 0)), (8, pD (.val (.int .u8 v7))), (9, pD (.val (.int .u8 v6))), (15, pD (.sl (p0.fF.map AI))), (16, iD ((p0.fF.length : Int))), (17, iD v1.2), (39, iD ((v4.fN.length : Int))), (40, iD v11.2)] [(3, .box (AL p1)), (7, .box (Bv v4)), (2006, .vec 3 (v14.map Ab))]) (fun j14 h => ?_) (fun v14 h => ?_)
      ·refine AG (wq rfl (qm rfl (qa rfl (Ad (wp rfl (qw 2 rfl ?_))))))
       refine GK h fun c15 h => Jf rfl c15 (OE rfl (BZ rfl (Ad ?_)))
       refine A9 h (fun h => ?_) fun h => ?_
       ·refine AS ?_
        exact sn [(2006, 2004)] h
       ·refine Al (wq rfl (qa rfl (Ad (wp rfl (qf FB rfl (ql HR rfl (qm rfl ?_)))))))
        refine Bc h fun v17 a17 b17 h => qi Ed I2 a17 (Ae b17) rfl (qk ML rfl (AV Ff rfl (qm rfl (Ad ?_))))
        refine Ax (L := Cz N v1 v4 v6 v11 v17) h (fun v18 => mk [(3, oD (.ptr 3 0)), (5, oD (.own 2007)), (6, iD v1.2), (7, oD (.ptr 7 0)), (8, pD (.val (.int .u8 v7))), (9, pD (.val (.int .u8 v6))), (10, iD v11.2), (11, bD v18.2.1), (15, pD (.sl (p0.fF.map AI))), (16, iD ((p0.fF.length : Int))), (17, iD v1.2), (39, iD ((v4.fN.length : Int))), (40, iD v11.2), (52, pD (.sl (v17.map eB))), (53, iD ((v17.length : Int))), (54, iD v18.2.2)] [(3, .box (AL p1)), (7, .box (Bv v4)), (2007, .vec 3 (v18.1.map Ab))]) (fun v19 => mk [(3, oD (.ptr 3 0)), (5, oD (.own 2008)), (6, iD v1.2), (7, oD (.ptr 7 0)), (8, pD (.val (.int .u8 v7))), (9, pD (.val (.int .u8 v6))), (10, iD v11.2), (11, bD v19.2), (15, pD (.sl (p0.fF.map AI))), (16, iD ((p0.fF.length : Int))), (17, iD v1.2), (39, iD ((v4.fN.length : Int))), (40, iD v11.2)] [(3, .box (AL p1)), (7, .box (Bv v4)), (2008, .vec 3 (v19.1.map Ab))]) (fun _ _ => rfl) (sm [(2007, 2004)] _ _ rfl rfl) (fun j18 n18 v18 h => ?_) (fun v19 s h hs => ?_)
        ·unfold Cz at h
         refine wq rfl (AX rfl (Ad (AN ?_)))
         refine A9 h (fun h => ?_) fun h => ?_
         ·refine Al ?_
          refine AP h (fun v21 => mk [(3, oD (.ptr 3 0)), (5, oD (.own 2009)), (6, iD v1.2), (7, oD (.ptr 7 0)), (8, pD (.val (.int .u8 v7))), (9, pD (.val (.int .u8 v6))), (10, iD v11.2), (11, bD v21.2), (15, pD (.sl (p0.fF.map AI))), (16, iD ((p0.fF.length : Int))), (17, iD v1.2), (39, iD ((v4.fN.length : Int))), (40, iD v11.2), (52, pD (.sl (v17.map eB))), (53, iD ((v17.length : Int))), (54, iD v18.2.2)] [(3, .box (AL p1)), (7, .box (Bv v4)), (2009, .vec 3 (v21.1.map Ab))]) (fun j21 h => ?_) (fun v21 h => ?_)
          ·refine AG (wq rfl (qm rfl ?_))
           refine Bc h fun v22 a22 b22 h => qi Ff Nv a22 (Ae b22) rfl (qk TD rfl (qa rfl (qa rfl (Ad (wp rfl (qw 2 rfl ?_))))))
           refine GK h fun c23 h => Jf rfl c23 (OE rfl (BZ rfl (Ad ?_)))
           refine A9 h (fun h => ?_) fun h => ?_
           ·refine AS ?_
            exact sn [(2009, 2007)] h
           ·refine Al ?_
            refine AP h (fun v25 => mk [(3, oD (.ptr 3 0)), (5, oD (.own 2010)), (6, iD v1.2), (7, oD (.ptr 7 0)), (8, pD (.val (.int .u8 v7))), (9, pD (.val (.int .u8 v6))), (10, iD v11.2), (11, bD v25), (12, iD v18.2.2), (13, bD v22), (15, pD (.sl (p0.fF.map AI))), (16, iD ((p0.fF.length : Int))), (17, iD v1.2), (39, iD ((v4.fN.length : Int))), (40, iD v11.2), (52, pD (.sl (v17.map eB))), (53, iD ((v17.length : Int))), (54, iD v18.2.2)] [(3, .box (AL p1)), (7, .box (Bv v4)), (2010, .vec 3 (v18.1.map Ab))]) (fun j25 h => ?_) (fun v25 h => ?_)
            ·refine Ai As rfl (qw 2 rfl ?_)
             refine E8 65 h rfl (fun h => ?_) fun h => ?_
             ·refine qn rfl (qp rfl (qe rfl ?_))
              exact sn [(2010, 2007)] h
             ·refine qm rfl (qp rfl (qe rfl ?_))
              exact sn [(2010, 2007)] h
            ·refine AP h (fun v27 => mk [(3, oD (.ptr 3 0)), (5, oD (.own 2011)), (6, iD v1.2), (7, oD (.ptr 7 0)), (8, pD (.val (.int .u8 v7))), (9, pD (.val (.int .u8 v6))), (10, iD v11.2), (11, bD v25), (12, iD v18.2.2), (15, pD (.sl (p0.fF.map AI))), (16, iD ((p0.fF.length : Int))), (17, iD v1.2), (39, iD ((v4.fN.length : Int))), (40, iD v11.2), (52, pD (.sl (v17.map eB))), (53, iD ((v17.length : Int))), (54, iD v18.2.2), (74, bD v27)] [(3, .box (AL p1)), (7, .box (Bv v4)), (2011, .vec 3 (v18.1.map Ab))]) (fun j27 h => ?_) (fun v27 h => ?_)
             ·refine Ai As rfl (qm rfl (CL rfl (qm rfl ?_)))
              refine E8 70 h rfl (fun h => ?_) fun h => ?_
              ·refine qf K2 rfl (ql TD rfl (CL rfl (qp rfl (Ad ?_))))
               exact sn [(2011, 2010)] h
              ·refine qw 3 rfl (qp rfl (Ad ?_))
               exact sn [(2011, 2010)] h
             ·refine A9 h (fun h => ?_) fun h => ?_
              ·refine Ai As rfl (qw 4 rfl (A6 GP M7 rfl (Fg AQ AM GP rfl ?_)))
               refine GK h fun c30 h => EM (f := Ab) AQ AQ AM Po GP c30 rfl (qe rfl ?_)
               exact sn [(2009, 81)] h
              ·refine Al ?_
               exact sn [(2009, 2011)] h
          ·refine Ai As rfl (AT rfl (qm rfl (Ad ?_)))
           exact sn [(2007, 2009)] h
         ·refine AS ?_
          exact sn [(2008, 2007)] h
        ·refine Ah hs ?_
         refine AP h (fun v31 => mk [(3, oD (.ptr 3 0)), (5, oD (.own 2012)), (6, iD v1.2), (7, oD (.ptr 7 0)), (8, pD (.val (.int .u8 v7))), (9, pD (.val (.int .u8 v6))), (10, iD v11.2), (15, pD (.sl (p0.fF.map AI))), (16, iD ((p0.fF.length : Int))), (17, iD v1.2), (39, iD ((v4.fN.length : Int))), (40, iD v11.2), (88, bD v31)] [(3, .box (AL p1)), (7, .box (Bv v4)), (2012, .vec 3 (v19.1.map Ab))]) (fun j31 h => ?_) (fun v31 h => ?_)
         ·refine Ai As rfl (qf K2 rfl (ql TD rfl (qm rfl ?_)))
          refine E8 85 h rfl (fun h => ?_) fun h => ?_
          ·refine qm rfl (CL rfl (qp rfl (Ad ?_)))
           exact sn [(2012, 2008)] h
          ·refine qw 2 rfl (qp rfl (Ad ?_))
           exact sn [(2012, 2008)] h
         ·refine A9 h (fun h => ?_) fun h => ?_
          ·refine Ai As rfl (qw 3 rfl (A6 GP M7 rfl (Fg AQ AM GP rfl ?_)))
           refine GK h fun c34 h => EM (f := Ab) AQ AQ AM Po GP c34 rfl (qe rfl ?_)
           exact sn [(2006, 94)] h
          ·refine Al ?_
           exact sn [(2006, 2012)] h
      ·refine Ai As rfl (AT rfl (qm rfl (Ad ?_)))
       exact sn [(2004, 2006)] h
     ·refine AS ?_
      exact sn [(2005, 2004)] h
    ·refine Ah hs (Ai As rfl (AT rfl (qm rfl (Ad ?_))))
     exact sn [(2001, 2005)] h
  ·refine AS ?_
   exact sn [(2002, 2001)] h
 ·refine Ah hs (wq rfl (qm rfl (qe rfl ?_)))
  obtain rfl := sj h
  refine Ah (sm [(1000, 2002)] [(4, oD (.own 1000))] [(1000, .vec 3 (v2.map Ab))] rfl rfl) (Ar ?_)
  exact ⟨⟨[_], tm, rfl⟩, ⟨rfl, tv⟩⟩
theorem T3 (N : Nat) (p0 : Ac) (p1 : Af) (r : Af × Aa × Int) (h : Jb N p0 p1 = some r) : Au Tryz.prog 87 [.e (.agg (Aj p0)), .e (.agg (AL p1))] [] (.tup [.agg (AL r.1), .agg (D9 r.2.1), .one (iC r.2.2)]) := by
 unfold Jb at h
 refine cw (n := 42) (rs := [.cell 4 64, .cell 5 45, .tmp 6]) Tryz.func87 fun w0 S0 => ?_
 refine wq rfl (qb rfl (qb rfl (qz EJ rfl (qz GP rfl (qa rfl (Ad (wq rfl (qL Db Cb rfl (qL BT AY rfl ?_)))))))))
 refine BM h fun v1 a1 h => Az [2001] (Tn N p0 p1 v1 a1) cK rfl (qm rfl (qx rfl (qx rfl (qa rfl (qa rfl (Ad (wp rfl (qm rfl (Cf rfl (Ad ?_))))))))))
 refine A9 h (fun h => ?_) fun h => ?_
 ·refine wq rfl (A6 EJ IZ rfl (A6 GP M7 rfl (qm rfl (qs AY rfl (qs AM rfl (qe rfl ?_))))))
  obtain rfl := sj h
  refine Ah ((Ii 4 _ rfl).trans (sm [] [(4, oD (.ptr 4 0)), (5, oD (.ptr 5 0)), (6, iD v1.2)] [(4, .box [sC ((([] : List Int)).map Aq), sC ((([] : List Int)).map Aq), sC ((([] : List Int)).map Ex)]), (5, .box [iC 0, iC 0, iC 0])] rfl rfl)) (Ar ?_)
  exact ⟨⟨[_, _, _], ⟨.cellN _ _ _ _ _ _ _ rfl rfl BT AY rfl rfl (IL rfl), ⟨.cellN _ _ _ _ _ _ _ rfl rfl CY AM rfl rfl (IL rfl), tm⟩⟩, rfl⟩, tv⟩
 ·refine Al (wp rfl (qm rfl (DV Jx rfl (qm rfl (Ad ?_)))))
  refine Ax (L := Gd N p0 v1) h (fun v3 => mk [(2, oD (.ptr 2 0)), (4, oD (.ptr 4 0)), (5, oD (.ptr 5 0)), (23, oD (.own 2002)), (24, iD ((v1.1.length : Int))), (25, iD v3)] [(2, .box (Aj p0)), (4, .box [.pure (.nil0), .pure (.nil0), .pure (.nil0)]), (5, .box [iC 0, iC 0, iC 0]), (2002, .vec 3 (v1.1.map Fc))]) (fun v4 => mk [(4, oD (.ptr 4 0)), (5, oD (.ptr 5 0))] [(4, .box [.pure (.nil0), .pure (.nil0), .pure (.nil0)]), (5, .box [iC 0, iC 0, iC 0])]) (fun _ _ => rfl) (sm [(2002, 2001)] _ _ rfl rfl) (fun j3 n3 v3 h => ?_) (fun v4 s h hs => ?_)
  ·unfold Gd at h
   refine wq rfl (AX rfl (Ad (AN ?_)))
   refine A9 h (fun h => ?_) fun h => ?_
   ·refine Al (AN (AG (wq rfl ?_)))
    refine Bc h fun v6 a6 b6 h => qI Jx AY a6 (Ae b6) rfl (qJ BT AY (Ae b6) rfl (qz EJ rfl (qs AY rfl (Ad (wq rfl (qL Db Cb rfl (qL BT AY rfl ?_)))))))
    refine BM h fun v7 a7 h => Az [2003] (PP N p0 v6 v7 a7) dI rfl (qa rfl (Ad (wq rfl (qm rfl (DV AQ rfl (Gx rfl (Ad ?_)))))))
    refine A9 h (fun h => ?_) fun h => ?_
    ·refine wq rfl (qL BT AY rfl (qm rfl ?_))
     refine Bc h fun v9 a9 b9 h => qI AQ AM a9 (Ae b9) rfl (qJ CY AM (Ae b9) rfl (qs AY rfl (qs AM rfl (qa rfl (AE (by kernel_rfl) ?_)))))
     obtain rfl := sj h
     refine Ah (sm [] [(4, oD (.ptr 4 0)), (5, oD (.ptr 5 0)), (6, iD 0)] [(4, .box (AL v6)), (5, .box (D9 v9))] rfl rfl) (Ar ?_)
     exact ⟨⟨[_, _, _], ⟨.cellN _ _ _ _ _ _ _ rfl rfl BT AY rfl rfl (IL rfl), ⟨.cellN _ _ _ _ _ _ _ rfl rfl CY AM rfl rfl (IL rfl), tm⟩⟩, rfl⟩, tv⟩
    ·refine Al (Ai As rfl (AT rfl (qm rfl (Ad ?_))))
     exact sn [] h
   ·refine AS ?_
    exact sn [] h
  ·refine Ah hs (wq rfl (A6 EJ IZ rfl (A6 GP M7 rfl (qs AY rfl (qs AM rfl (qe rfl ?_))))))
   obtain rfl := sj h
   refine Ah ((Ii 4 _ rfl).trans (sm [] [(4, oD (.ptr 4 0)), (5, oD (.ptr 5 0)), (6, iD 15)] [(4, .box [sC ((([] : List Int)).map Aq), sC ((([] : List Int)).map Aq), sC ((([] : List Int)).map Ex)]), (5, .box [iC 0, iC 0, iC 0])] rfl rfl)) (Ar ?_)
   exact ⟨⟨[_, _, _], ⟨.cellN _ _ _ _ _ _ _ rfl rfl BT AY rfl rfl (IL rfl), ⟨.cellN _ _ _ _ _ _ _ rfl rfl CY AM rfl rfl (IL rfl), tm⟩⟩, rfl⟩, tv⟩
theorem OH (N : Nat) (p0 : Ac) (p1 : Af) (r : Bool × Int) (h : HE N p0 p1 = some r) : Au Tryz.prog 63 [.e (.agg (Aj p0)), .e (.agg (AL p1))] [] (.tup [.one (.pure (.val (.bool r.1))), .one (iC r.2)]) := by
 unfold HE at h
 refine cw (n := 22) (rs := [.tmp 4, .tmp 5]) Tryz.func63 fun w0 S0 => ?_
 refine wq rfl (qb rfl (qb rfl (qa rfl (qa rfl (Ad (wq rfl (qL Db Cb rfl (qL BT AY rfl ?_))))))))
 refine BM h fun v1 a1 h => Az [] (T3 N p0 p1 v1 a1) eX rfl (qm rfl (qx rfl (qx rfl (qx rfl (qz EJ rfl (qz GP rfl (qs AY rfl (qs AM rfl (qa rfl (Ad (wq rfl (qm rfl (Ad (AG (wq rfl (BZ rfl (qe rfl ?_)))))))))))))))))
 refine A9 h (fun h => ?_) fun h => ?_
 ·refine wq rfl (qa rfl (qe rfl ?_))
  obtain rfl := sj h
  refine Ah (sm [] [(4, bD false), (5, iD 0)] [] rfl rfl) (Ar ?_)
  exact ⟨⟨[_, _], ⟨.tmp _ _ rfl, tm⟩, rfl⟩, tv⟩
 ·refine wq rfl (BZ rfl (qe rfl ?_))
  refine A9 h (fun h => ?_) fun h => ?_
  ·refine wq rfl (qa rfl (qe rfl ?_))
   obtain rfl := sj h
   refine Ah (sm [] [(4, bD true), (5, iD 0)] [] rfl rfl) (Ar ?_)
   exact ⟨⟨[_, _], ⟨.tmp _ _ rfl, tm⟩, rfl⟩, tv⟩
  ·refine wq rfl (qm rfl (qa rfl (qe rfl ?_)))
   obtain rfl := sj h
   refine Ah (sm [] [(4, bD false), (5, iD v1.2.2)] [] rfl rfl) (Ar ?_)
   exact ⟨⟨[_, _], ⟨.tmp _ _ rfl, tm⟩, rfl⟩, tv⟩
theorem Qw (N : Nat) (p0 : Af) (r : ByteArray) (h : IU N p0 = some r) : Au Tryz.prog 88 [.e (.agg (AL p0))] [] (pD (.val (.string r))) := by
 unfold IU at h
 refine cw (n := 53) (rs := [.tmp 2]) Tryz.func88 fun w0 S0 => ?_
 refine wq rfl (qb rfl (qa rfl (Ad (wq rfl (qf DR rfl (ql Bg rfl (AV AD rfl (KI rfl (qf DQ rfl (ql I0 rfl (AV E6 rfl (AT rfl ?_))))))))))))
 refine GK h fun c1 h => MG (.p rfl) rfl rfl rfl L9 bO bc (DY rfl) dC rfl rfl rfl c1.1 c1.2.1 c1.2.2 (ST Ex _ ((0 : Int))) ?_
 refine qa rfl (Ad (wp rfl (qf DR rfl (ql Bg rfl (AV AD rfl (qm rfl (Ad ?_)))))))
 refine Ax (L := F0 N p0) h (fun v2 => mk [(1, oD (.ptr 1 0)), (3, oD (.own 2001)), (18, iD ((p0.fG.length : Int))), (19, iD v2.2)] [(1, .box (AL p0)), (2001, .vec 1 (v2.1.map Ex))]) (fun v3 => mk [(1, oD (.ptr 1 0)), (3, oD (.own 2002))] [(1, .box (AL p0)), (2002, .vec 1 (v3.map Ex))]) (fun _ _ => rfl) (sm [(2001, 15)] _ _ rfl rfl) (fun j2 n2 v2 h => ?_) (fun v3 s h hs => ?_)
 ·unfold F0 at h
  refine wq rfl (AX rfl (Ad (AN ?_)))
  refine A9 h (fun h => ?_) fun h => ?_
  ·refine Al (AN (AG (wq rfl (qm rfl (qa rfl (Ad (Ai As rfl (qm rfl (qf DR rfl (ql Bg rfl (qm rfl ?_)))))))))))
   refine Bc h fun v5 a5 b5 h => qi AD Ep a5 (Ae b5) rfl (qk CN rfl (Je cd eq rfl (qf B7 rfl (ql Bg rfl (qm rfl ?_)))))
   refine Bc h fun v6 a6 b6 h => qi AD Ep a6 (Ae b6) rfl (qk CN rfl (AT rfl (Je cd eq rfl (Fg L9 bO dC rfl ?_))))
   refine GK h fun c7 h => EM (f := Ex) L9 L9 bO bc dC c7 rfl (qa rfl (AE (by kernel_rfl) (Ai As rfl (AT rfl (qm rfl (Ad ?_))))))
   exact sn [(2001, 37)] h
  ·refine AS ?_
   exact sn [(2002, 2001)] h
 ·refine Ah hs (wp rfl (qf DQ rfl (ql I0 rfl (AV E6 rfl (qm rfl (Ad ?_))))))
  refine Ax (L := EN N p0) h (fun v8 => mk [(3, oD (.own 2003)), (40, pD (.sl (p0.fH.map Ex))), (41, iD ((p0.fH.length : Int))), (42, iD v8.2)] [(2003, .vec 1 (v8.1.map Ex))]) (fun v9 => mk [(3, oD (.own 2004))] [(2004, .vec 1 (v9.map Ex))]) (fun _ _ => rfl) (sm [(2003, 2002)] _ _ rfl rfl) (fun j8 n8 v8 h => ?_) (fun v9 s h hs => ?_)
  ·unfold EN at h
   refine wq rfl (AX rfl (Ad (AN ?_)))
   refine A9 h (fun h => ?_) fun h => ?_
   ·refine Al (AN (AG (wq rfl ?_)))
    refine Bc h fun v11 a11 b11 h => qi E6 HQ a11 (Ae b11) rfl (qk MP rfl (qa rfl (Ad (Ai As rfl (qw 2 rfl (Fg L9 bO dC rfl ?_))))))
    refine GK h fun c12 h => EM (f := Ex) L9 L9 bO bc dC c12 rfl (qa rfl (Ad (Ai As rfl (AT rfl (qm rfl (Ad ?_))))))
    exact sn [(2003, 49)] h
   ·refine AS ?_
    exact sn [(2004, 2003)] h
  ·refine Ah hs (wq rfl (qm rfl ?_))
   refine YE v9 (.p rfl) rfl (Yy Ex _ _ _) ⟨rfl, tv⟩ rfl cC ZF ?_
   refine qa rfl (Ad ?_)
   obtain rfl := sj h
   refine Ah (sm [] [(2, pD (.val (.string ((Do v9)))))] [] rfl rfl) (Ar ?_)
   exact ⟨⟨[_], tm, rfl⟩, tv⟩
theorem VX (N : Nat) (p0 : Ac) (r : (List Ag)) (h : JN N p0 = some r) : Au Tryz.prog 126 [.e (.agg (Aj p0))] [(3, r.map AJ)] (oD (.own 0)) := by
 unfold JN at h
 refine cw (n := 54) (rs := [.tmp 2]) Tryz.func126 fun w0 S0 => ?_
 refine wq rfl (qb rfl (qa rfl (Ad (wq rfl (qa rfl (Ad (wp rfl (qf BH rfl (ql Bg rfl (AV AD rfl (qm rfl (Ad ?_))))))))))))
 refine Ax (L := Ej N p0) h (fun v1 => mk [(1, oD (.ptr 1 0)), (3, oD (.own 2001)), (10, pD (.sl (p0.fE.map Aq))), (11, iD ((p0.fE.length : Int))), (12, iD v1.2)] [(1, .box (Aj p0)), (2001, .vec 3 (v1.1.map AJ))]) (fun v2 => mk [(1, oD (.ptr 1 0)), (3, oD (.own 2002))] [(1, .box (Aj p0)), (2002, .vec 3 (v2.map AJ))]) (fun _ _ => rfl) ((Bl 3 2005 3 rfl rfl rfl).trans (sm [(2001, 2005)] _ _ rfl rfl)) (fun j1 n1 v1 h => ?_) (fun v2 s h hs => ?_)
 ·unfold Ej at h
  refine wq rfl (AX rfl (Ad (AN ?_)))
  refine A9 h (fun h => ?_) fun h => ?_
  ·refine Al (AN (AG (wq rfl (qm rfl ?_))))
   refine Bc h fun v4 a4 b4 h => qi AD Ep a4 (Ae b4) rfl (qk CN rfl (qa rfl (qa rfl (Ad (wq rfl (qw 2 rfl (Ad ?_)))))))
   refine Ax (L := FZ N v1 v4) h (fun v5 => mk [(1, oD (.ptr 1 0)), (3, oD (.own 2003)), (4, iD v1.2), (10, pD (.sl (p0.fE.map Aq))), (11, iD ((p0.fE.length : Int))), (12, iD v1.2), (17, iD v4), (18, iD v5.2)] [(1, .box (Aj p0)), (2003, .vec 3 (v5.1.map AJ))]) (fun v6 => mk [(1, oD (.ptr 1 0)), (3, oD (.own 2004)), (10, pD (.sl (p0.fE.map Aq))), (11, iD ((p0.fE.length : Int))), (12, iD v1.2)] [(1, .box (Aj p0)), (2004, .vec 3 (v6.map AJ))]) (fun _ _ => rfl) (sm [(2003, 2001)] _ _ rfl rfl) (fun j5 n5 v5 h => ?_) (fun v6 s h hs => ?_)
   ·unfold FZ at h
    refine wq rfl (AX rfl (Ad (AN ?_)))
    refine A9 h (fun h => ?_) fun h => ?_
    ·refine Al (AN (AG (wq rfl (qm rfl (qa rfl (Ad (Ai As rfl (qw 3 rfl (A6 Jr Wz rfl (Fg FH DK Jr rfl ?_))))))))))
     refine GK h fun c8 h => EM (f := AJ) FH FH DK Qj Jr c8 rfl (qa rfl (Ad (Ai As rfl (AT rfl (qm rfl (Ad ?_))))))
     exact sn [(2003, 26)] h
    ·refine AS ?_
     exact sn [(2004, 2003)] h
   ·refine Ah hs (Ai As rfl (AT rfl (qm rfl (Ad ?_))))
    exact sn [(2001, 2004)] h
  ·refine AS ?_
   exact sn [(2002, 2001)] h
 ·refine Ah hs (wp rfl (qf BH rfl (ql Bg rfl (AV AD rfl (qm rfl (Ad ?_))))))
  refine Ax (L := C4 N p0) h (fun v9 => mk [(1, oD (.ptr 1 0)), (3, oD (.own 2006)), (31, iD ((p0.fE.length : Int))), (32, iD v9.2)] [(1, .box (Aj p0)), (2006, .vec 3 (v9.1.map AJ))]) (fun v10 => mk [(1, oD (.ptr 1 0)), (3, oD (.own 2007))] [(1, .box (Aj p0)), (2007, .vec 3 (v10.map AJ))]) (fun _ _ => rfl) (sm [(2006, 2002)] _ _ rfl rfl) (fun j9 n9 v9 h => ?_) (fun v10 s h hs => ?_)
  ·unfold C4 at h
   refine wq rfl (AX rfl (Ad (AN ?_)))
   refine A9 h (fun h => ?_) fun h => ?_
   ·refine Al (AN (AG (wq rfl (qm rfl (qa rfl (Ad (Ai As rfl (qw 2 rfl (A6 Jr Wz rfl (Fg FH DK Jr rfl ?_))))))))))
    refine GK h fun c12 h => EM (f := AJ) FH FH DK Qj Jr c12 rfl (qa rfl (Ad (Ai As rfl (AT rfl (qm rfl (Ad ?_))))))
    exact sn [(2006, 39)] h
   ·refine AS ?_
    exact sn [(2007, 2006)] h
  ·refine Ah hs (wp rfl (qf BK rfl (ql GZ rfl (AV Dc rfl (qm rfl (Ad ?_))))))
   refine Ax (L := BO N p0) h (fun v13 => mk [(3, oD (.own 2008)), (43, iD ((p0.fF.length : Int))), (44, iD v13.2)] [(2008, .vec 3 (v13.1.map AJ))]) (fun v14 => mk [(3, oD (.own 2009))] [(2009, .vec 3 (v14.map AJ))]) (fun _ _ => rfl) (sm [(2008, 2007)] _ _ rfl rfl) (fun j13 n13 v13 h => ?_) (fun v14 s h hs => ?_)
   ·unfold BO at h
    refine wq rfl (AX rfl (Ad (AN ?_)))
    refine A9 h (fun h => ?_) fun h => ?_
    ·refine Al (AN (AG (wq rfl (qm rfl (qa rfl (Ad (Ai As rfl (qw 2 rfl (A6 Jr Wz rfl (Fg FH DK Jr rfl ?_))))))))))
     refine GK h fun c16 h => EM (f := AJ) FH FH DK Qj Jr c16 rfl (qa rfl (Ad (Ai As rfl (AT rfl (qm rfl (Ad ?_))))))
     exact sn [(2008, 51)] h
    ·refine AS ?_
     exact sn [(2009, 2008)] h
   ·refine Ah hs (wq rfl (qm rfl (qe rfl ?_)))
    obtain rfl := sj h
    refine Ah (sm [(1000, 2009)] [(2, oD (.own 1000))] [(1000, .vec 3 (v14.map AJ))] rfl rfl) (Ar ?_)
    exact ⟨⟨[_], tm, rfl⟩, ⟨rfl, tv⟩⟩
theorem Rg (N : Nat) (p0 : Af) (r : Af) (h : H7 N p0 = some r) : Au Tryz.prog 148 [.e (.agg (AL p0))] [(1, r.fG.map Aq), (1, r.fD.map Aq), (1, r.fH.map Ex)] (.e (.agg [.own 0, .own 1, .own 2])) := by
 unfold H7 at h
 refine cw (n := 13) (rs := [.cell 2 64]) Tryz.func148 fun w0 S0 => ?_
 refine wq rfl (qb rfl (qz EJ rfl (Ad (wq rfl (qf DR rfl (ql Bg rfl ?_))))))
 refine BM h fun v1 a1 h => Az [2001] (C9 N p0.fG v1 a1) Ua rfl (qf B7 rfl (ql Bg rfl ?_))
 refine BM h fun v2 a2 h => Az [2002] (C9 N p0.fD v2 a2) Ua rfl (qf DQ rfl (ql I0 rfl ?_))
 refine BM h fun v3 a3 h => Az [2003] (Hl N p0.fH v3 a3) aj rfl (A6 EJ IZ rfl (qs AY rfl (AE (by kernel_rfl) ?_)))
 obtain rfl := sj h
 refine Ah (sm [(1000, 2001), (1001, 2002), (1002, 2003)] [(2, oD (.ptr 2 0))] [(2, .box [.own 1000, .own 1001, .own 1002]), (1000, .vec 1 (v1.map Aq)), (1001, .vec 1 (v2.map Aq)), (1002, .vec 1 (v3.map Ex))] rfl rfl) (Ar ?_)
 exact ⟨⟨[_], ⟨.cellN _ _ _ _ _ _ _ rfl rfl BT AY rfl rfl (IL rfl), tv⟩, rfl⟩, ⟨rfl, rfl, rfl, tv⟩⟩
theorem Nm (N : Nat) (p0 : An) (r : Bool) (h : Hi N p0 = some r) : Au Tryz.prog 156 [.e (.agg (Bv p0))] [] (bD r) := by
 unfold Hi at h
 refine cw (n := 11) (rs := [.tmp 2]) Tryz.func156 fun w0 S0 => ?_
 refine wq rfl (qb rfl (qe rfl ?_))
 refine AP h (fun v1 => mk [(2, bD v1)] []) (fun j1 h => ?_) (fun v1 h => ?_)
 ·refine Ai As rfl (qf HO rfl (ql CN rfl (BZ rfl (qm rfl ?_))))
  refine E8 6 h rfl (fun h => ?_) fun h => ?_
  ·refine qw 3 rfl (qp rfl (qe rfl ?_))
   exact sn [] h
  ·refine qf HO rfl (ql CN rfl (BZ rfl (qp rfl (qe rfl ?_))))
   exact sn [] h
 ·obtain rfl := sj h
  refine Ah (sm [] [(2, bD v1)] [] rfl rfl) (Ar ?_)
  exact ⟨⟨[_], tm, rfl⟩, tv⟩
theorem Tj (N : Nat) (p0 : Ac) (p1 : Af) (p2 : Ag) (r : Bool × (List Int) × (List Int)) (h : JH N p0 p1 p2 = some r) : B2 Tryz.prog 149 [.e (.agg (Aj p0)), oD (.ptr 90000 0), .e (.agg (Ei p2))] [(.box [.own 90001, .own 90002, .own 90003], .box [.own 90001, .own 90002, .own 90003]), (.vec 1 (p1.fG.map Aq), .vec 1 (p1.fG.map Aq)), (.vec 1 (p1.fD.map Aq), .vec 1 (r.2.1.map Aq)), (.vec 1 (p1.fH.map Ex), .vec 1 (r.2.2.map Ex))] [] (bD r.1) := by
 unfold JH at h
 refine Bn (n := 70) (rs := [.tmp 6]) Tryz.func149 rfl rfl rfl (DY rfl) (DY rfl) rfl rfl (DY rfl) rfl (DY rfl) fun w0 S0 GL => ?_
 refine Ah (sm [] [(0, .e (.agg (Aj p0))), (1, oD (.ptr 90000 0)), (2, .e (.agg (Ei p2)))] [(90000, .box [.own 90001, .own 90002, .own 90003]), (90001, .vec 1 (p1.fG.map Aq)), (90002, .vec 1 (p1.fD.map Aq)), (90003, .vec 1 (p1.fH.map Ex))] rfl rfl) (wq rfl (qb rfl (qb rfl (qa rfl (Ad (AN ?_))))))
 refine AP h (fun v1 => mk [(1, oD (.ptr 90000 0)), (3, oD (.ptr 3 0)), (5, oD (.ptr 5 0)), (30, bD v1)] [(3, .box (Aj p0)), (5, .box (Ei p2)), (90000, .box [.own 90001, .own 90002, .own 90003]), (90001, .vec 1 (p1.fG.map Aq)), (90002, .vec 1 (p1.fD.map Aq)), (90003, .vec 1 (p1.fH.map Ex))]) (fun j1 h => ?_) (fun v1 h => ?_)
 ·refine Ai As rfl (qm rfl (Rx rfl (qf B7 rfl (ql Bg rfl (qf FF rfl (ql CN rfl ?_))))))
  refine Bc h fun v2 a2 b2 h => qI AD Ep a2 (Ae b2) rfl (qj CN (Ae b2) rfl (D4 rfl (qm rfl ?_)))
  refine E8 18 h rfl (fun h => ?_) fun h => ?_
  ·refine qw 11 rfl (qp rfl (AE (by kernel_rfl) ?_))
   exact sn [] h
  ·refine qm rfl (Rx rfl (qf DR rfl (ql Bg rfl (qf FF rfl (ql CN rfl ?_)))))
   refine Bc h fun v4 a4 b4 h => qI AD Ep a4 (Ae b4) rfl (qj CN (Ae b4) rfl (qf HD rfl (ql CN rfl (BZ rfl (qp rfl (AE (by kernel_rfl) ?_))))))
   exact sn [] h
 ·refine A9 h (fun h => ?_) fun h => ?_
  ·refine wq rfl (qe rfl ?_)
   obtain rfl := sj h
   refine Ah (sm [] [(6, bD false)] [(90000, .box [.own 90001, .own 90002, .own 90003]), (90001, .vec 1 (p1.fG.map Aq)), (90002, .vec 1 (p1.fD.map Aq)), (90003, .vec 1 (p1.fH.map Ex))] rfl rfl) (Ar ?_)
   exact ⟨⟨[_], tm, rfl⟩, ⟨rfl, rfl, rfl, rfl, tv⟩, tv⟩
  ·refine Al (wq rfl (qm rfl (Rx rfl (qf B7 rfl (ql Bg rfl (qf FF rfl (ql CN rfl (qf HD rfl (ql CN rfl ?_)))))))))
   refine Bc h fun v6 a6 b6 h => qI AD Ep a6 (Ae b6) rfl ?_
   refine Ba rfl rfl rfl rfl (Ae b6) rfl Ep rfl (DY rfl) (A2 Aq p1.fD _ p2.fT) ?_
   refine AE (by kernel_rfl) (wp rfl (qf BK rfl (ql GZ rfl (AV Dc rfl (qm rfl (Ad ?_))))))
   refine Ax (L := EX N p0 p2) h (fun v7 => mk [(1, oD (.ptr 90000 0)), (5, oD (.ptr 5 0)), (41, pD (.sl (p0.fF.map AI))), (42, iD ((p0.fF.length : Int))), (43, iD v7.2)] [(5, .box (Ei p2)), (90000, .box [.own 90001, .own 90002, .own 90003]), (90001, .vec 1 (p1.fG.map Aq)), (90002, .vec 1 ((p1.fD.set ((p2.fL).toNat) p2.fT).map Aq)), (90003, .vec 1 (v7.1.map Ex))]) (fun v8 => mk [] [(90000, .box [.own 90001, .own 90002, .own 90003]), (90001, .vec 1 (p1.fG.map Aq)), (90002, .vec 1 ((p1.fD.set ((p2.fL).toNat) p2.fT).map Aq)), (90003, .vec 1 (v8.map Ex))]) (fun _ _ => rfl) (sm [] _ _ rfl rfl) (fun j7 n7 v7 h => ?_) (fun v8 s h hs => ?_)
   ·unfold EX at h
    refine wq rfl (AX rfl (Ad (AN ?_)))
    refine A9 h (fun h => ?_) fun h => ?_
    ·refine Al ?_
     refine AP h (fun v10 => mk [(1, oD (.ptr 90000 0)), (5, oD (.ptr 5 0)), (41, pD (.sl (p0.fF.map AI))), (42, iD ((p0.fF.length : Int))), (43, iD v7.2)] [(5, .box (Ei p2)), (90000, .box [.own 90001, .own 90002, .own 90003]), (90001, .vec 1 (p1.fG.map Aq)), (90002, .vec 1 ((p1.fD.set ((p2.fL).toNat) p2.fT).map Aq)), (90003, .vec 1 (v10.map Ex))]) (fun j10 h => ?_) (fun v10 h => ?_)
     ·refine AG (wq rfl (qm rfl ?_))
      refine Bc h fun v11 a11 b11 h => qi Dc DB a11 (Ae b11) rfl (qK HZ DB rfl (qz Kc rfl (qa rfl (qs DB rfl (Ad ?_)))))
      refine AP h (fun v12 => mk [(1, oD (.ptr 90000 0)), (5, oD (.ptr 5 0)), (7, iD v7.2), (41, pD (.sl (p0.fF.map AI))), (42, iD ((p0.fF.length : Int))), (43, iD v7.2), (56, bD v12)] [(5, .box (Ei p2)), (90000, .box [.own 90001, .own 90002, .own 90003]), (90001, .vec 1 (p1.fG.map Aq)), (90002, .vec 1 ((p1.fD.set ((p2.fL).toNat) p2.fT).map Aq)), (90003, .vec 1 (v7.1.map Ex))]) (fun j12 h => ?_) (fun v12 h => ?_)
      ·refine Ai As rfl (qf Eu rfl (ql CN rfl (qf FF rfl (ql CN rfl (BZ rfl (qm rfl ?_))))))
       refine E8 53 h rfl (fun h => ?_) fun h => ?_
       ·refine qL HZ DB rfl ?_
        refine BM h fun v14 a14 h => Az [] (Nm N v11 v14 a14) aB rfl (qp rfl (Ad ?_))
        exact sn [] h
       ·refine qw 2 rfl (qp rfl (Ad ?_))
        exact sn [] h
      ·refine A9 h (fun h => ?_) fun h => ?_
       ·refine Ai As rfl (qm rfl (Rx rfl (qf DQ rfl (ql I0 rfl (qm rfl ?_)))))
        refine Bc h fun v16 a16 b16 h => qI E6 HQ a16 (Ae b16) rfl (qj MP (Ae b16) rfl (qf HD rfl (ql CN rfl ?_)))
        refine GK h fun c17 h => JR rfl c17 (Yz rfl ?_)
        refine Bc h fun v18 a18 b18 h => qI E6 HQ a18 (Ae b18) rfl ?_
        refine Ba rfl rfl rfl rfl (Ae b18) rfl HQ rfl (DY rfl) (A2 Ex v7.1 _ ((Re .u8 v16 ((DC .u8 1 p2.fT))))) ?_
        refine AE (by kernel_rfl) ?_
        exact sn [] h
       ·refine Al ?_
        exact sn [] h
     ·refine Ai As rfl (AT rfl (qm rfl (Ad ?_)))
      exact sn [] h
    ·refine AS ?_
     exact sn [] h
   ·refine Ah hs (wq rfl (qe rfl ?_))
    obtain rfl := sj h
    refine Ah (sm [] [(6, bD true)] [(90000, .box [.own 90001, .own 90002, .own 90003]), (90001, .vec 1 (p1.fG.map Aq)), (90002, .vec 1 ((p1.fD.set ((p2.fL).toNat) p2.fT).map Aq)), (90003, .vec 1 (v8.map Ex))] rfl rfl) (Ar ?_)
    exact ⟨⟨[_], tm, rfl⟩, ⟨rfl, rfl, rfl, rfl, tv⟩, tv⟩
theorem QC (N : Nat) (p0 : Af) (p1 : Int) (r : Int) (h : HC N p0 p1 = some r) : Au Tryz.prog 157 [.e (.agg (AL p0)), iD p1] [] (pD (.val (.int .u8 r))) := by
 unfold HC at h
 refine cw (n := 27) (rs := [.tmp 4]) Tryz.func157 fun w0 S0 => ?_
 refine wq rfl (qb rfl (qa rfl (Ad (wq rfl (qf DR rfl (ql Bg rfl (qm rfl ?_)))))))
 refine Bc h fun v1 a1 b1 h => qi AD Ep a1 (Ae b1) rfl (qk CN rfl ?_)
 refine GK h fun c2 h => JR rfl c2 (qe rfl ?_)
 refine AP h (fun v3 => mk [(5, pD (.val (.int .u8 v3)))] []) (fun j3 h => ?_) (fun v3 h => ?_)
 ·refine wq rfl (qf B7 rfl (ql Bg rfl (qm rfl ?_)))
  refine Bc h fun v4 a4 b4 h => qi AD Ep a4 (Ae b4) rfl (qk CN rfl (D4 rfl (Ad ?_)))
  refine A9 h (fun h => ?_) fun h => ?_
  ·refine Ai As rfl (qm rfl (qf B7 rfl (ql Bg rfl (qm rfl ?_))))
   refine Bc h fun v6 a6 b6 h => qi AD Ep a6 (Ae b6) rfl (qk CN rfl ?_)
   refine GK h fun c7 h => JR rfl c7 (Yz rfl (qe rfl ?_))
   exact sn [] h
  ·refine Al ?_
   exact sn [] h
 ·refine wq rfl (qm rfl (qe rfl ?_))
  obtain rfl := sj h
  refine Ah (sm [] [(4, pD (.val (.int .u8 v3)))] [] rfl rfl) (Ar ?_)
  exact ⟨⟨[_], tm, rfl⟩, tv⟩
theorem KA (N : Nat) (p0 : Int) (r : Int) (h : D8 N p0 = some r) : Au Tryz.prog 161 [pD (.val (.int .u8 p0))] [] (iD r) := by
 unfold D8 at h
 refine cw (n := 6) (rs := [.tmp 2]) Tryz.func161 fun w0 S0 => ?_
 refine wq rfl (qa rfl (Ad (wq rfl (qm rfl ?_))))
 refine BM h fun v1 a1 h => Ph (.p rfl) rfl rfl ZF a1 ?_
 refine Je aT X9 rfl (qe rfl ?_)
 obtain rfl := sj h
 refine Ah (sm [] [(2, iD ((wI .i64 v1)))] [] rfl rfl) (Ar ?_)
 exact ⟨⟨[_], tm, rfl⟩, tv⟩
theorem OC (N : Nat) (p0 : An) (p1 : Int) (p2 : Int) (r : Bool) (h : Hs N p0 p1 p2 = some r) : Au Tryz.prog 158 [.e (.agg (Bv p0)), pD (.val (.int .u8 p1)), iD p2] [] (bD r) := by
 unfold Hs at h
 refine cw (n := 25) (rs := [.tmp 6]) Tryz.func158 fun w0 S0 => ?_
 refine wq rfl (qb rfl (qa rfl (Ad (wp rfl (qm rfl (qe rfl ?_))))))
 refine Ax (L := EK N p0 p2) h (fun v1 => mk [(2, iD p2), (3, oD (.ptr 3 0)), (7, pD (.val (.int .u8 v1)))] [(3, .box (Bv p0))]) (fun v2 => mk [] []) (fun _ _ => rfl) (sm [] _ _ rfl rfl) (fun j1 n1 v1 h => ?_) (fun v2 s h hs => ?_)
 ·unfold EK at h
  refine wp rfl (qm rfl (Cf rfl (Ad ?_)))
  refine A9 h (fun h => ?_) fun h => ?_
  ·refine Al (AN (AG (wq rfl (qf FC rfl (ql HR rfl (qm rfl ?_))))))
   refine BM h fun v4 a4 h => Az [] (KA N v1 v4 a4) dk rfl ?_
   refine Bc h fun v5 a5 b5 h => qi Ed I2 a5 (Ae b5) rfl (qk ML rfl (qm rfl ?_))
   refine Bc h fun v6 a6 b6 h => qi Ff Nv a6 (Ae b6) rfl (qk TD rfl (CL rfl (AE (by kernel_rfl) ?_)))
   refine A9 h (fun h => ?_) fun h => ?_
   ·refine wq rfl (qe rfl ?_)
    obtain rfl := sj h
    refine Ah (sm [] [(6, bD false)] [] rfl rfl) (Ar ?_)
    exact ⟨⟨[_], tm, rfl⟩, tv⟩
   ·refine Al (Ai As rfl (qw 2 rfl (DA rfl (OE rfl (qe rfl ?_)))))
    exact sn [] h
  ·refine AS ?_
   exact sn [] h
 ·refine Ah hs (wq rfl (qe rfl ?_))
  obtain rfl := sj h
  refine Ah (sm [] [(6, bD true)] [] rfl rfl) (Ar ?_)
  exact ⟨⟨[_], tm, rfl⟩, tv⟩
theorem Sy (N : Nat) (p0 : Ac) (p1 : Af) (p2 : Int) (r : Bool × (List Int)) (h : Ir N p0 p1 p2 = some r) : B2 Tryz.prog 150 [.e (.agg (Aj p0)), oD (.ptr 90000 0), iD p2] [(.box [.own 90001, .own 90002, .own 90003], .box [.own 90001, .own 90002, .own 90003]), (.vec 1 (p1.fG.map Aq), .vec 1 (p1.fG.map Aq)), (.vec 1 (p1.fD.map Aq), .vec 1 (p1.fD.map Aq)), (.vec 1 (p1.fH.map Ex), .vec 1 (r.2.map Ex))] [] (bD r.1) := by
 unfold Ir at h
 refine Bn (n := 68) (rs := [.tmp 6]) Tryz.func150 rfl rfl rfl (DY rfl) (DY rfl) rfl rfl (DY rfl) rfl (DY rfl) fun w0 S0 GL => ?_
 refine Ah (sm [] [(0, .e (.agg (Aj p0))), (1, oD (.ptr 90000 0)), (2, iD p2)] [(90000, .box [.own 90001, .own 90002, .own 90003]), (90001, .vec 1 (p1.fG.map Aq)), (90002, .vec 1 (p1.fD.map Aq)), (90003, .vec 1 (p1.fH.map Ex))] rfl rfl) (wq rfl (qb rfl (qa rfl (Ad (wq rfl (qf BK rfl (ql GZ rfl (qm rfl ?_))))))))
 refine Bc h fun v1 a1 b1 h => qi Dc DB a1 (Ae b1) rfl (qK HZ DB rfl (qz Kc rfl (qs DB rfl (Ad (wp rfl (qL HZ DB rfl ?_))))))
 refine BM h fun v2 a2 h => Az [] (Nm N v1 v2 a2) aB rfl (CL rfl (Ad ?_))
 refine A9 h (fun h => ?_) fun h => ?_
 ·refine wq rfl (qe rfl ?_)
  obtain rfl := sj h
  refine Ah (sm [] [(6, bD false)] [(90000, .box [.own 90001, .own 90002, .own 90003]), (90001, .vec 1 (p1.fG.map Aq)), (90002, .vec 1 (p1.fD.map Aq)), (90003, .vec 1 (p1.fH.map Ex))] rfl rfl) (Ar ?_)
  exact ⟨⟨[_], tm, rfl⟩, ⟨rfl, rfl, rfl, rfl, tv⟩, tv⟩
 ·refine Al (wq rfl (qm rfl (Rx rfl (qL BT AY rfl (qf Eu rfl (ql CN rfl ?_))))))
  refine BM h fun v4 a4 h => Fi [] [90001, 90002, 90003] (QC N p1 v1.fJ v4 a4) d1 Dh rfl (qa rfl (AE (by kernel_rfl) (wq rfl (qm rfl (Rx rfl (qf DQ rfl (ql I0 rfl (qm rfl ?_))))))))
  refine Bc h fun v5 a5 b5 h => qI E6 HQ a5 (Ae b5) rfl (qj MP (Ae b5) rfl (qm rfl (Kx rfl (qa rfl (Ad (AN ?_))))))
  refine AP h (fun v6 => mk [(1, oD (.ptr 90000 0)), (2, iD p2), (8, pD (.val (.int .u8 v4))), (60, bD v6)] [(90000, .box [.own 90001, .own 90002, .own 90003]), (90001, .vec 1 (p1.fG.map Aq)), (90002, .vec 1 (p1.fD.map Aq)), (90003, .vec 1 (p1.fH.map Ex))]) (fun j6 h => ?_) (fun v6 h => ?_)
  ·refine Ai As rfl (qm rfl (Rx rfl (qf DQ rfl (ql I0 rfl (qm rfl ?_)))))
   refine Bc h fun v7 a7 b7 h => qI E6 HQ a7 (Ae b7) rfl (qj MP (Ae b7) rfl (qm rfl (BZ rfl (qm rfl ?_))))
   refine E8 42 h rfl (fun h => ?_) fun h => ?_
   ·refine qw 4 rfl (qu rfl (qu rfl (qu rfl (qu rfl (qu rfl (qu rfl (qu rfl (qu rfl (qu rfl (qu rfl (qu rfl (qu rfl (qn rfl (qp rfl (AE (by kernel_rfl) ?_)))))))))))))))
    exact sn [] h
   ·refine qf HO rfl (ql CN rfl (BZ rfl (qm rfl ?_)))
    refine E8 46 h rfl (fun h => ?_) fun h => ?_
    ·refine qL HZ DB rfl (qw 2 rfl (Rx rfl (qf DR rfl (ql Bg rfl (qf Eu rfl (ql CN rfl ?_))))))
     refine Bc h fun v10 a10 b10 h => qI AD Ep a10 (Ae b10) rfl (qj CN (Ae b10) rfl ?_)
     refine BM h fun v11 a11 h => Az [] (OC N v1 ((Er .u8 v5 v4)) v10 v11 a11) dB rfl (CL rfl (qp rfl (qp rfl (AE (by kernel_rfl) ?_))))
     exact sn [] h
    ·refine qw 12 rfl (qp rfl (qp rfl (AE (by kernel_rfl) ?_)))
     exact sn [] h
  ·refine A9 h (fun h => ?_) fun h => ?_
   ·refine wq rfl (qe rfl ?_)
    obtain rfl := sj h
    refine Ah (sm [] [(6, bD false)] [(90000, .box [.own 90001, .own 90002, .own 90003]), (90001, .vec 1 (p1.fG.map Aq)), (90002, .vec 1 (p1.fD.map Aq)), (90003, .vec 1 (p1.fH.map Ex))] rfl rfl) (Ar ?_)
    exact ⟨⟨[_], tm, rfl⟩, ⟨rfl, rfl, rfl, rfl, tv⟩, tv⟩
   ·refine Al (wq rfl (qm rfl (Rx rfl (qf DQ rfl (ql I0 rfl (qw 2 rfl ?_))))))
    refine Bc h fun v13 a13 b13 h => qI E6 HQ a13 (Ae b13) rfl ?_
    refine Ba rfl rfl rfl rfl (Ae b13) rfl HQ rfl (DY rfl) (A2 Ex p1.fH _ v4) ?_
    refine Ad (wq rfl (qe rfl ?_))
    obtain rfl := sj h
    refine Ah (sm [] [(6, bD true)] [(90000, .box [.own 90001, .own 90002, .own 90003]), (90001, .vec 1 (p1.fG.map Aq)), (90002, .vec 1 (p1.fD.map Aq)), (90003, .vec 1 ((p1.fH.set ((p2).toNat) v4).map Ex))] rfl rfl) (Ar ?_)
    exact ⟨⟨[_], tm, rfl⟩, ⟨rfl, rfl, rfl, rfl, tv⟩, tv⟩
theorem N3 (N : Nat) (p0 : Ac) (p1 : Af) (p2 : Ag) (r : Af × Bool) (h : Hd N p0 p1 p2 = some r) : Au Tryz.prog 128 [.e (.agg (Aj p0)), .e (.agg (AL p1)), .e (.agg (Ei p2))] [(1, r.1.fG.map Aq), (1, r.1.fD.map Aq), (1, r.1.fH.map Ex)] (.tup [.agg [.own 0, .own 1, .own 2], .one (.pure (.val (.bool r.2)))]) := by
 unfold Hd at h
 refine cw (n := 51) (rs := [.cell 6 64, .tmp 7]) Tryz.func128 fun w0 S0 => ?_
 refine wq rfl (qb rfl (qb rfl (qb rfl (qz EJ rfl (qa rfl (Ad (wq rfl (qL BT AY rfl ?_))))))))
 refine BM h fun v1 a1 h => Az [2001, 2002, 2003] (Rg N p1 v1 a1) ed rfl (qz EJ rfl (qs AY rfl (Ad (wp rfl (qf Ge rfl (ql CN rfl (Ad (AG (wq rfl (BZ rfl (qe rfl ?_)))))))))))
 refine A9 h (fun h => ?_) fun h => ?_
 ·refine wq rfl (qL BT AY rfl (qL Db Cb rfl (qL HV DK rfl ?_)))
  refine BM h fun v3 a3 h => DP (ds0 := [_, _, _]) [8, 2001, 2002, 2003] [] [false, false, true, true] (Tj N p0 v1 p2 v3 a3) (.p rfl) ec rfl ⟨rfl, rfl, rfl, tv⟩ rfl rfl (by decide) ⟨rfl, rfl, rfl, rfl, tv⟩ rfl (Bf rfl) tv ⟨(fun _ => rfl), (fun _ => rfl), (fun h => by cases h), (fun h => by cases h), tv⟩ rfl rfl rfl ?_
  refine qs AY rfl (qa rfl (AE (by kernel_rfl) ?_))
  obtain rfl := sj h
  refine Ah (sm [(1000, 2001), (1001, 2002), (1002, 2003)] [(6, oD (.ptr 6 0)), (7, bD v3.1)] [(6, .box [.own 1000, .own 1001, .own 1002]), (1000, .vec 1 (v1.fG.map Aq)), (1001, .vec 1 (v3.2.1.map Aq)), (1002, .vec 1 (v3.2.2.map Ex))] rfl rfl) (Ar ?_)
  exact ⟨⟨[_, _], ⟨.cellN _ _ _ _ _ _ _ rfl rfl BT AY rfl rfl (IL rfl), tm⟩, rfl⟩, ⟨rfl, rfl, rfl, tv⟩⟩
 ·refine wq rfl (BZ rfl (qe rfl ?_))
  refine A9 h (fun h => ?_) fun h => ?_
  ·refine wq rfl (qL BT AY rfl (qL Db Cb rfl (qf FF rfl (ql CN rfl ?_))))
   refine BM h fun v5 a5 h => DP (ds0 := [_, _, _]) [8, 2001, 2002, 2003] [] [false, false, false, true] (Sy N p0 v1 p2.fL v5 a5) (.p rfl) db rfl ⟨rfl, rfl, rfl, tv⟩ rfl rfl (by decide) ⟨rfl, rfl, rfl, rfl, tv⟩ rfl (Bf rfl) tv ⟨(fun _ => rfl), (fun _ => rfl), (fun _ => rfl), (fun h => by cases h), tv⟩ rfl rfl rfl ?_
   refine qs AY rfl (qa rfl (AE (by kernel_rfl) ?_))
   obtain rfl := sj h
   refine Ah (sm [(1000, 2001), (1001, 2002), (1002, 2003)] [(6, oD (.ptr 6 0)), (7, bD v5.1)] [(6, .box [.own 1000, .own 1001, .own 1002]), (1000, .vec 1 (v1.fG.map Aq)), (1001, .vec 1 (v1.fD.map Aq)), (1002, .vec 1 (v5.2.map Ex))] rfl rfl) (Ar ?_)
   exact ⟨⟨[_, _], ⟨.cellN _ _ _ _ _ _ _ rfl rfl BT AY rfl rfl (IL rfl), tm⟩, rfl⟩, ⟨rfl, rfl, rfl, tv⟩⟩
  ·refine Al (wq rfl (qf B7 rfl (ql Bg rfl (qf FF rfl (ql CN rfl ?_)))))
   refine Bc h fun v6 a6 b6 h => qI AD Ep a6 (Ae b6) rfl (qj CN (Ae b6) rfl (qa rfl (Ad (wp rfl (qm rfl (AX rfl (Ad ?_)))))))
   refine A9 h (fun h => ?_) fun h => ?_
   ·refine wq rfl (qL BT AY rfl (qs AY rfl (qe rfl ?_)))
    obtain rfl := sj h
    refine Ah (sm [(1000, 2001), (1001, 2002), (1002, 2003)] [(6, oD (.ptr 6 0)), (7, bD false)] [(6, .box [.own 1000, .own 1001, .own 1002]), (1000, .vec 1 (v1.fG.map Aq)), (1001, .vec 1 (v1.fD.map Aq)), (1002, .vec 1 (v1.fH.map Ex))] rfl rfl) (Ar ?_)
    exact ⟨⟨[_, _], ⟨.cellN _ _ _ _ _ _ _ rfl rfl BT AY rfl rfl (IL rfl), tm⟩, rfl⟩, ⟨rfl, rfl, rfl, tv⟩⟩
   ·refine Al (wq rfl (qf B7 rfl (ql Bg rfl (qf FF rfl (ql CN rfl ?_)))))
    refine Bc h fun v8 a8 b8 h => qI AD Ep a8 (Ae b8) rfl ?_
    refine Ba rfl rfl rfl rfl (Ae b8) rfl Ep rfl (DY rfl) (A2 Aq v1.fD _ ((-1))) ?_
    refine Ad ?_
    refine AP h (fun v9 => mk [(6, oD (.ptr 6 0)), (8, oD (.ptr 8 0))] [(6, .box [.pure (.nil0), .pure (.nil0), .pure (.nil0)]), (8, .box [.own 2004, .own 2005, .own 2006]), (2004, .vec 1 (v9.map Aq)), (2005, .vec 1 ((v1.fD.set ((p2.fL).toNat) ((-1))).map Aq)), (2006, .vec 1 (v1.fH.map Ex))]) (fun j9 h => ?_) (fun v9 h => ?_)
    ·refine wq rfl (qf Ge rfl (ql CN rfl (BZ rfl (Ad ?_))))
     refine A9 h (fun h => ?_) fun h => ?_
     ·refine Ai As rfl (qf DR rfl (ql Bg rfl (qf FF rfl (ql CN rfl (qm rfl ?_)))))
      refine Bc h fun v11 a11 b11 h => qI AD Ep a11 (Ae b11) rfl ?_
      refine Ba rfl rfl rfl rfl (Ae b11) rfl Ep rfl (DY rfl) (A2 Aq v1.fG _ v6) ?_
      refine Ad ?_
      exact sn [(2004, 2001), (2005, 2002), (2006, 2003)] h
     ·refine Al ?_
      exact sn [(2004, 2001), (2005, 2002), (2006, 2003)] h
    ·refine wq rfl (qL BT AY rfl (qs AY rfl (qe rfl ?_)))
     obtain rfl := sj h
     refine Ah (sm [(1000, 2004), (1001, 2005), (1002, 2006)] [(6, oD (.ptr 6 0)), (7, bD true)] [(6, .box [.own 1000, .own 1001, .own 1002]), (1000, .vec 1 (v9.map Aq)), (1001, .vec 1 ((v1.fD.set ((p2.fL).toNat) ((-1))).map Aq)), (1002, .vec 1 (v1.fH.map Ex))] rfl rfl) (Ar ?_)
     exact ⟨⟨[_, _], ⟨.cellN _ _ _ _ _ _ _ rfl rfl BT AY rfl rfl (IL rfl), tm⟩, rfl⟩, ⟨rfl, rfl, rfl, tv⟩⟩
theorem OX (N : Nat) (p0 : Ag) (p1 : List Int) (p2 : List Int) (p3 : List Int) (p4 : List An) (p5 : List Int) (p6 : List Int) (p7 : List Int) (r : Bool) (h : ED N p0 p1 p2 p3 p4 p5 p6 p7 = some r) : Au Tryz.prog 127 [.e (.agg (Ei p0)), oD (.rop [.sl (p1.map Aq), .sl (p2.map Aq), .sl (p3.map Aq), .sl (p4.map AI)]), oD (.rop [.sl (p5.map Aq), .sl (p6.map Aq), .sl (p7.map Ex)])] [] (bD r) := by
 unfold ED at h
 refine cw (n := 16) (rs := [.tmp 4]) Tryz.func127 fun w0 S0 => ?_
 refine wq rfl (qb rfl (qa rfl (Ad (wq rfl (qK Db Cb rfl (qK BT AY rfl (qL HV DK rfl ?_)))))))
 refine BM h fun v1 a1 h => Az [2001, 2002, 2003] (N3 N ((Ac.mk p1 p2 p3 p4)) ((Af.mk p5 p6 p7)) p0 v1 a1) ax rfl (qm rfl (qx rfl (qx rfl (qz EJ rfl (qs AY rfl (qa rfl (Ad (wq rfl (qm rfl (CL rfl (qe rfl ?_)))))))))))
 obtain rfl := sj h
 refine Ah (sm [] [(4, bD ((!v1.2)))] [] rfl rfl) (Ar ?_)
 exact ⟨⟨[_], tm, rfl⟩, tv⟩
theorem In (N : Nat) (p0 : List Ag) (p1 : Ag → Option Bool) (r : Int) (h : Ch N p0 p1 = some r) : Au Tryz.prog 147 [pD (.sl (p0.map AJ)), oD (.clo (CD (PR true AJ) tB p1))] [] (iD r) := by
 unfold Ch at h
 refine cw (n := 19) (rs := [.tmp 4]) Tryz.func147 fun w0 S0 => ?_
 refine wq rfl (qa rfl (Ad (wp rfl (qm rfl (AV FH rfl (qm rfl (Ad ?_)))))))
 refine Ax (L := Bd N p0 p1) h (fun v1 => mk [(0, pD (.sl (p0.map AJ))), (1, oD (.clo (CD (PR true AJ) tB p1))), (7, iD ((p0.length : Int))), (8, iD v1)] []) (fun v2 => mk [] []) (fun _ _ => rfl) (sm [] _ _ rfl rfl) (fun j1 n1 v1 h => ?_) (fun v2 s h hs => ?_)
 ·unfold Bd at h
  refine wq rfl (AX rfl (Ad (AN ?_)))
  refine A9 h (fun h => ?_) fun h => ?_
  ·refine Al (AN (AG (wq rfl (qm rfl (qa rfl (Ad (wq rfl (qw 3 rfl ?_))))))))
   refine Bc h fun v4 a4 b4 h => qi FH DK a4 (Ae b4) rfl (qK HV DK rfl ?_)
   refine BM h fun v5 a5 h => Gk (ds0 := [_]) (ar := (PR true AJ) v4) (.p rfl) rfl rfl ⟨rfl, tv⟩ rfl rfl rfl (Gg (Oi _ _ QE) a5) ?_
   refine Ad ?_
   refine A9 h (fun h => ?_) fun h => ?_
   ·refine wq rfl (qm rfl (qe rfl ?_))
    obtain rfl := sj h
    refine Ah (sm [] [(4, iD v1)] [] rfl rfl) (Ar ?_)
    exact ⟨⟨[_], tm, rfl⟩, tv⟩
   ·refine Al (Ai As rfl (AT rfl (qm rfl (Ad ?_))))
    exact sn [] h
  ·refine AS ?_
   exact sn [] h
 ·refine Ah hs (wq rfl (qe rfl ?_))
  obtain rfl := sj h
  refine Ah (sm [] [(4, iD ((-1)))] [] rfl rfl) (Ar ?_)
  exact ⟨⟨[_], tm, rfl⟩, tv⟩
theorem Id (N : Nat) (p0 : List Ag) (p1 : Ag → Option Bool) (r : Nat × (List Ag)) (h : Ca N p0 p1 = some r) : B2 Tryz.prog 125 [oD (.own 90000), oD (.clo (CD (PR true AJ) tB p1))] [(.vec 3 (p0.map AJ), .vec 3 (r.2.map AJ))] [] (oD (.view 90000 3 0 r.1)) := by
 unfold Ca at h
 refine Bn (n := 42) (rs := [.tmp 4]) Tryz.func125 rfl rfl rfl (DY rfl) (DY rfl) rfl rfl (DY rfl) rfl (DY rfl) fun w0 S0 GL => ?_
 refine Ah (sm [] [(0, oD (.own 90000)), (1, oD (.clo (CD (PR true AJ) tB p1)))] [(90000, .vec 3 (p0.map AJ))] rfl rfl) (wq rfl (qa rfl (Ad (wq rfl (qw 2 rfl ?_)))))
 refine BM h fun v1 a1 h => Fi [] [90000] (In N p0 p1 v1 a1) cE Dh rfl (qa rfl (Ad (wp rfl (qm rfl (BZ rfl (Ad ?_))))))
 refine A9 h (fun h => ?_) fun h => ?_
 ·refine wq rfl (qm rfl (qe rfl ?_))
  obtain rfl := sj h
  refine Ah ((PT AJ p0 4 90000 3 rfl rfl).trans (sm [] [(4, oD (.view 90000 3 0 p0.length))] [(90000, .vec 3 (p0.map AJ))] rfl rfl)) (Ar ?_)
  exact ⟨⟨[_], tm, rfl⟩, ⟨rfl, tv⟩, tv⟩
 ·refine Al (wp rfl (qm rfl (AT rfl (qe rfl ?_))))
  refine Ax (L := A0 N p1) h (fun v3 => mk [(0, oD (.own 90000)), (1, oD (.clo (CD (PR true AJ) tB p1))), (5, iD v3.2.1), (6, iD v3.2.2)] [(90000, .vec 3 (v3.1.map AJ))]) (fun v4 => mk [(0, oD (.own 90000)), (5, iD v4.2)] [(90000, .vec 3 (v4.1.map AJ))]) (fun _ _ => rfl) (sm [] _ _ rfl rfl) (fun j3 n3 v3 h => ?_) (fun v4 s h hs => ?_)
  ·unfold A0 at h
   refine wp rfl (qw 2 rfl (DV FH rfl (AX rfl (Ad ?_))))
   refine A9 h (fun h => ?_) fun h => ?_
   ·refine Al ?_
    refine AP h (fun v6 => mk [(0, oD (.own 90000)), (1, oD (.clo (CD (PR true AJ) tB p1))), (5, iD v6.2), (6, iD v3.2.2)] [(90000, .vec 3 (v6.1.map AJ))]) (fun j6 h => ?_) (fun v6 h => ?_)
    ·refine AG (wq rfl (qw 2 rfl ?_))
     refine Bc h fun v7 a7 b7 h => qI FH DK a7 (Ae b7) rfl (qJ HV DK (Ae b7) rfl (qz Jr rfl (qs DK rfl (Ad (wq rfl (qm rfl (qL HV DK rfl ?_)))))))
     refine BM h fun v8 a8 h => Gk (ds0 := [_]) (ar := (PR true AJ) v7) (.p rfl) rfl rfl ⟨rfl, tv⟩ rfl rfl rfl (Gg (Oi _ _ QE) a8) ?_
     refine CL rfl (Ad ?_)
     refine A9 h (fun h => ?_) fun h => ?_
     ·refine wq rfl (qw 2 rfl (qL HV DK rfl ?_))
      refine Bc h fun v10 a10 b10 h => qI FH DK a10 (Ae b10) rfl ?_
      refine Ba rfl rfl rfl rfl (Ae b10) rfl DK rfl (DY rfl) (A2 AJ v3.1 _ v7) ?_
      refine Ad (Ai As rfl (qm rfl (AT rfl (qe rfl ?_))))
      exact sn [] h
     ·refine Al ?_
      exact sn [] h
    ·refine Ai As rfl (qm rfl (AT rfl (qe rfl ?_)))
     exact sn [] h
   ·refine AS ?_
    exact sn [] h
  ·refine Ah hs (wq rfl (qw 2 rfl ?_))
   obtain ⟨c11, h⟩ := FT h
   have w12 : ((v4.2).toNat) + ((v4.1.length - (v4.2).toNat)) ≤ v4.1.length := by have := c11.2.1; have := c11.2.2; omega
   refine Iz AJ v4.1 (.p rfl) rfl (It AJ _ _ v4.1) rfl FH DK (.some _ _ _ _ c11.1) (.none _) ⟨rfl, tv⟩ tv c11.2.1 (by rw [Nat.zero_add]; exact c11.2.2) (Nat.zero_add _) rfl ?_
   have w13 : (HP v4.1 ((v4.2).toNat) (List.replicate ((v4.1.length - (v4.2).toNat)) ((Ag.mk 0 0 0)))).length = v4.1.length := Hw (by rw [List.length_replicate]; exact w12)
   refine Q2 AJ v4.1 ((Ag.mk 0 0 0)) rfl rfl (Km AJ _ _ ((v4.2).toNat) ((v4.1.length - (v4.2).toNat)) v4.1 w12) rfl FH Jr rfl rfl rfl rfl ?_
   refine Ad (wq rfl (qw 2 rfl ?_))
   obtain ⟨c14, h⟩ := FT h
   have w15 : 0 + ((v4.2).toNat) ≤ (HP v4.1 ((v4.2).toNat) (List.replicate ((v4.1.length - (v4.2).toNat)) ((Ag.mk 0 0 0)))).length := by have := c14.2.1; have := c14.2.2; omega
   refine Iz AJ (HP v4.1 ((v4.2).toNat) (List.replicate ((v4.1.length - (v4.2).toNat)) ((Ag.mk 0 0 0)))) (.p rfl) rfl (It AJ _ _ (HP v4.1 ((v4.2).toNat) (List.replicate ((v4.1.length - (v4.2).toNat)) ((Ag.mk 0 0 0))))) rfl FH DK (.none _) (.some _ _ _ _ c14.1) tv ⟨rfl, tv⟩ c14.2.1 (by rw [Nat.zero_add]; exact c14.2.2) (Nat.zero_add _) rfl ?_
   refine qa rfl (Ad ?_)
   obtain rfl := sj h
   refine Ah (sm [] [(4, oD (.view 90000 3 0 ((v4.2).toNat)))] [(90000, .vec 3 ((HP v4.1 ((v4.2).toNat) (List.replicate ((v4.1.length - (v4.2).toNat)) ((Ag.mk 0 0 0)))).map AJ))] rfl rfl) (Ar ?_)
   exact ⟨⟨[_], tm, rfl⟩, ⟨rfl, tv⟩, tv⟩
theorem Q9 (N : Nat) (p0 : Ac) (p1 : Af) (r : (List Ag) × Int) (h : Hz N p0 p1 = some r) : Au Tryz.prog 89 [.e (.agg (Aj p0)), .e (.agg (AL p1))] [(3, r.1.map AJ)] (.tup [.one (.own 0), .one (iC r.2)]) := by
 unfold Hz at h
 refine cw (n := 17) (rs := [.tmp 4, .tmp 5]) Tryz.func89 fun w0 S0 => ?_
 refine wq rfl (qb rfl (qb rfl (qa rfl (qa rfl (Ad (wp rfl (qL Db Cb rfl (qL BT AY rfl ?_))))))))
 refine BM h fun v1 a1 h => Az [] (K6 N p0 p1 v1 a1) Zu rfl (qa rfl (Ad (wq rfl (qm rfl (Cf rfl (Ad ?_))))))
 refine A9 h (fun h => ?_) fun h => ?_
 ·refine wq rfl (qm rfl (qa rfl (qe rfl ?_)))
  obtain rfl := sj h
  refine Ah ((Bl 4 2001 3 rfl rfl rfl).trans (sm [(1000, 2001)] [(4, oD (.own 1000)), (5, iD v1)] [(1000, .vec 3 ((([] : List Ag)).map AJ))] rfl rfl)) (Ar ?_)
  exact ⟨⟨[_, _], ⟨.tmp _ _ rfl, tm⟩, rfl⟩, ⟨rfl, tv⟩⟩
 ·refine Al (wq rfl (qL Db Cb rfl ?_))
  refine BM h fun v3 a3 h => Az [2002] (VX N p0 v3 a3) cz rfl (EQ (N9 2 [.sl (p0.fE.map Aq), .sl (p0.fK.map Aq), .sl (p0.fP.map Aq), .sl (p0.fF.map AI)] rfl rfl) (EQ (N9 3 [.sl (p1.fG.map Aq), .sl (p1.fD.map Aq), .sl (p1.fH.map Ex)] rfl rfl) ?_))
  refine NH (capD := [_, _]) (CD (PR true AJ) tB ((fun (x : Ag) => ED N x p0.fE p0.fK p0.fP p0.fF p1.fG p1.fD p1.fH))) (.p rfl) cS rfl ⟨rfl, rfl, tv⟩ rfl (fun ar t ht => by obtain ⟨x, r, rfl, hq, rfl⟩ := LF ht; exact OX N x p0.fE p0.fK p0.fP p0.fF p1.fG p1.fD p1.fH r hq) ?_
  obtain ⟨v4, a4, h⟩ := bind_some h
  obtain ⟨c5, h⟩ := FT h
  have w6 : 0 + v4.1 ≤ v4.2.length := by rw [Nat.zero_add]; exact c5
  refine DP (ds0 := [_, _]) [2002] [] [true] (Id N v3 ((fun (x : Ag) => ED N x p0.fE p0.fK p0.fP p0.fF p1.fG p1.fD p1.fH)) v4 a4) (.p rfl) dE rfl ⟨rfl, rfl, tv⟩ rfl rfl (by decide) ⟨rfl, tv⟩ rfl (Bf rfl) tv ⟨(fun h => by cases h), tv⟩ rfl rfl rfl ?_
  refine EQ (Vt AJ v4.2 16 2002 2003 3 v4.1 rfl rfl rfl rfl rfl c5) (qa rfl (qe rfl ?_))
  obtain rfl := sj h
  refine Ah (sm [(1000, 2003)] [(4, oD (.own 1000)), (5, iD 0)] [(1000, .vec 3 ((v4.2.take v4.1).map AJ))] rfl rfl) (Ar ?_)
  exact ⟨⟨[_, _], ⟨.tmp _ _ rfl, tm⟩, rfl⟩, ⟨rfl, tv⟩⟩
theorem Su (N : Nat) (p0 : Ag) (r : Bool) (h : IC N p0 = some r) : Au Tryz.prog 151 [.e (.agg (Ei p0))] [] (bD r) := by
 unfold IC at h
 refine cw (n := 27) (rs := [.tmp 2]) Tryz.func151 fun w0 S0 => ?_
 refine wq rfl (qb rfl (qa rfl (Ad (AN ?_))))
 refine AP h (fun v1 => mk [(1, oD (.ptr 1 0)), (18, bD v1)] [(1, .box (Ei p0))]) (fun j1 h => ?_) (fun v1 h => ?_)
 ·refine Ai As rfl (qf FF rfl (ql CN rfl (qf HD rfl (ql CN rfl ?_))))
  refine cX (.p rfl) rfl rfl ?_
  refine AX rfl (qm rfl ?_)
  refine E8 9 h rfl (fun h => ?_) fun h => ?_
  ·refine qw 3 rfl (qp rfl (qw 4 rfl (qp rfl (Ad ?_))))
   exact sn [] h
  ·refine qf Ge rfl (ql CN rfl (AX rfl (qp rfl (qm rfl ?_))))
   refine E8 14 h rfl (fun h => ?_) fun h => ?_
   ·refine qw 3 rfl (qp rfl (Ad ?_))
    exact sn [] h
   ·refine qf Ge rfl (ql CN rfl (Gx rfl (qp rfl (Ad ?_))))
    exact sn [] h
 ·refine A9 h (fun h => ?_) fun h => ?_
  ·refine wq rfl (qe rfl ?_)
   obtain rfl := sj h
   refine Ah (sm [] [(2, bD false)] [] rfl rfl) (Ar ?_)
   exact ⟨⟨[_], tm, rfl⟩, tv⟩
  ·refine Al ?_
   refine AP h (fun v5 => mk [(2, bD v5)] []) (fun j5 h => ?_) (fun v5 h => ?_)
   ·refine Ai As rfl (qf Ge rfl (ql CN rfl (BZ rfl (qm rfl ?_))))
    refine E8 22 h rfl (fun h => ?_) fun h => ?_
    ·refine qw 3 rfl (qp rfl (qe rfl ?_))
     exact sn [] h
    ·refine qf HD rfl (ql CN rfl (BZ rfl (qp rfl (qe rfl ?_))))
     exact sn [] h
   ·obtain rfl := sj h
    refine Ah (sm [] [(2, bD v5)] [] rfl rfl) (Ar ?_)
    exact ⟨⟨[_], tm, rfl⟩, tv⟩
theorem Rr (N : Nat) (p0 : Ac) (p1 : Ag) (r : Bool) (h : H2 N p0 p1 = some r) : Au Tryz.prog 152 [.e (.agg (Aj p0)), .e (.agg (Ei p1))] [] (bD r) := by
 unfold H2 at h
 refine cw (n := 36) (rs := [.tmp 4]) Tryz.func152 fun w0 S0 => ?_
 refine wq rfl (qb rfl (qb rfl (qa rfl (Ad (wp rfl (qf Ge rfl (ql CN rfl (BZ rfl (Ad ?_)))))))))
 refine A9 h (fun h => ?_) fun h => ?_
 ·refine wq rfl (qf FF rfl (ql CN rfl (qf BK rfl (ql GZ rfl (AV Dc rfl (AX rfl (qe rfl ?_)))))))
  obtain rfl := sj h
  refine Ah (sm [] [(4, bD ((decide (p1.fL < (p0.fF.length : Int)))))] [] rfl rfl) (Ar ?_)
  exact ⟨⟨[_], tm, rfl⟩, tv⟩
 ·refine Al ?_
  refine AP h (fun v2 => mk [(4, bD v2)] []) (fun j2 h => ?_) (fun v2 h => ?_)
  ·refine Ai As rfl (qf FF rfl (ql CN rfl (qf BH rfl (ql Bg rfl (AV AD rfl (AX rfl (qm rfl ?_)))))))
   refine E8 20 h rfl (fun h => ?_) fun h => ?_
   ·refine qf Ge rfl (ql CN rfl (Cf rfl (qm rfl ?_)))
    refine E8 24 h rfl (fun h => ?_) fun h => ?_
    ·refine qw 9 rfl (qp rfl (qp rfl (qa rfl (AE (by kernel_rfl) ?_))))
     exact sn [] h
    ·refine qf HD rfl (ql CN rfl (qf BH rfl (ql Bg rfl (qf FF rfl (ql CN rfl ?_)))))
     refine Bc h fun v5 a5 b5 h => qi AD Ep a5 (Ae b5) rfl (qk CN rfl (AX rfl (qp rfl (qp rfl (qa rfl (AE (by kernel_rfl) ?_))))))
     exact sn [] h
   ·refine qw 4 rfl (qu rfl (qu rfl (qu rfl (qu rfl (qu rfl (qu rfl (qu rfl (qu rfl (qu rfl (qn rfl (qp rfl (qa rfl (AE (by kernel_rfl) ?_)))))))))))))
    exact sn [] h
  ·obtain rfl := sj h
   refine Ah (sm [] [(4, bD v2)] [] rfl rfl) (Ar ?_)
   exact ⟨⟨[_], tm, rfl⟩, tv⟩
theorem SG (N : Nat) (p0 : Ac) (p1 : Af) (p2 : Ag) (r : Af × Int) (h : Iy N p0 p1 p2 = some r) : Au Tryz.prog 129 [.e (.agg (Aj p0)), .e (.agg (AL p1)), .e (.agg (Ei p2))] [(1, r.1.fG.map Aq), (1, r.1.fD.map Aq), (1, r.1.fH.map Ex)] (.tup [.agg [.own 0, .own 1, .own 2], .one (iC r.2)]) := by
 unfold Iy at h
 refine cw (n := 32) (rs := [.cell 6 64, .tmp 7]) Tryz.func129 fun w0 S0 => ?_
 refine wq rfl (qb rfl (qb rfl (qb rfl (qz EJ rfl (qa rfl (Ad (AN (AG (wq rfl (qL HV DK rfl ?_))))))))))
 refine BM h fun v1 a1 h => Az [] (Su N p2 v1 a1) dg rfl (CL rfl (qe rfl ?_))
 refine A9 h (fun h => ?_) fun h => ?_
 ·refine wq rfl (A6 EJ IZ rfl (qs AY rfl (qe rfl ?_)))
  obtain rfl := sj h
  refine Ah ((Av 6 0 2001 1 _ rfl rfl rfl rfl).trans ((Av 6 1 2002 1 _ rfl rfl rfl rfl).trans ((Av 6 2 2003 1 _ rfl rfl rfl rfl).trans (sm [(1000, 2001), (1001, 2002), (1002, 2003)] [(6, oD (.ptr 6 0)), (7, iD 1)] [(6, .box [.own 1000, .own 1001, .own 1002]), (1000, .vec 1 ((([] : List Int)).map Aq)), (1001, .vec 1 ((([] : List Int)).map Aq)), (1002, .vec 1 ((([] : List Int)).map Ex))] rfl rfl)))) (Ar ?_)
  exact ⟨⟨[_, _], ⟨.cellN _ _ _ _ _ _ _ rfl rfl BT AY rfl rfl (IL rfl), tm⟩, rfl⟩, ⟨rfl, rfl, rfl, tv⟩⟩
 ·refine wq rfl (qL Db Cb rfl (qL HV DK rfl ?_))
  refine BM h fun v3 a3 h => Az [] (Rr N p0 p2 v3 a3) eg rfl (CL rfl (qe rfl ?_))
  refine A9 h (fun h => ?_) fun h => ?_
  ·refine wq rfl (A6 EJ IZ rfl (qs AY rfl (qe rfl ?_)))
   obtain rfl := sj h
   refine Ah ((Av 6 0 2004 1 _ rfl rfl rfl rfl).trans ((Av 6 1 2005 1 _ rfl rfl rfl rfl).trans ((Av 6 2 2006 1 _ rfl rfl rfl rfl).trans (sm [(1000, 2004), (1001, 2005), (1002, 2006)] [(6, oD (.ptr 6 0)), (7, iD 4)] [(6, .box [.own 1000, .own 1001, .own 1002]), (1000, .vec 1 ((([] : List Int)).map Aq)), (1001, .vec 1 ((([] : List Int)).map Aq)), (1002, .vec 1 ((([] : List Int)).map Ex))] rfl rfl)))) (Ar ?_)
   exact ⟨⟨[_, _], ⟨.cellN _ _ _ _ _ _ _ rfl rfl BT AY rfl rfl (IL rfl), tm⟩, rfl⟩, ⟨rfl, rfl, rfl, tv⟩⟩
  ·refine Al (wq rfl (qL Db Cb rfl (qL BT AY rfl (qL HV DK rfl ?_))))
   refine BM h fun v5 a5 h => Az [2007, 2008, 2009] (N3 N p0 p1 p2 v5 a5) ax rfl (qm rfl (qx rfl (qx rfl (qz EJ rfl (qs AY rfl (qa rfl (Ad (wp rfl (qm rfl (CL rfl (Ad ?_)))))))))))
   refine A9 h (fun h => ?_) fun h => ?_
   ·refine wq rfl (A6 EJ IZ rfl (qs AY rfl (qe rfl ?_)))
    obtain rfl := sj h
    refine Ah ((Av 6 0 2010 1 _ rfl rfl rfl rfl).trans ((Av 6 1 2011 1 _ rfl rfl rfl rfl).trans ((Av 6 2 2012 1 _ rfl rfl rfl rfl).trans (sm [(1000, 2010), (1001, 2011), (1002, 2012)] [(6, oD (.ptr 6 0)), (7, iD 11)] [(6, .box [.own 1000, .own 1001, .own 1002]), (1000, .vec 1 ((([] : List Int)).map Aq)), (1001, .vec 1 ((([] : List Int)).map Aq)), (1002, .vec 1 ((([] : List Int)).map Ex))] rfl rfl)))) (Ar ?_)
    exact ⟨⟨[_, _], ⟨.cellN _ _ _ _ _ _ _ rfl rfl BT AY rfl rfl (IL rfl), tm⟩, rfl⟩, ⟨rfl, rfl, rfl, tv⟩⟩
   ·refine Al (wq rfl (qL BT AY rfl (qs AY rfl (qe rfl ?_))))
    obtain rfl := sj h
    refine Ah (sm [(1000, 2007), (1001, 2008), (1002, 2009)] [(6, oD (.ptr 6 0)), (7, iD 0)] [(6, .box [.own 1000, .own 1001, .own 1002]), (1000, .vec 1 (v5.1.fG.map Aq)), (1001, .vec 1 (v5.1.fD.map Aq)), (1002, .vec 1 (v5.1.fH.map Ex))] rfl rfl) (Ar ?_)
    exact ⟨⟨[_, _], ⟨.cellN _ _ _ _ _ _ _ rfl rfl BT AY rfl rfl (IL rfl), tm⟩, rfl⟩, ⟨rfl, rfl, rfl, tv⟩⟩
theorem SB (N : Nat) (p0 : Ac) (p1 : Af) (p2 : Ag) (r : Af × Int) (h : ID N p0 p1 p2 = some r) : Au Tryz.prog 90 [.e (.agg (Aj p0)), .e (.agg (AL p1)), .e (.agg (Ei p2))] [(1, r.1.fG.map Aq), (1, r.1.fD.map Aq), (1, r.1.fH.map Ex)] (.tup [.agg [.own 0, .own 1, .own 2], .one (iC r.2)]) := by
 unfold ID at h
 refine cw (n := 22) (rs := [.cell 6 64, .tmp 7]) Tryz.func90 fun w0 S0 => ?_
 refine wq rfl (qb rfl (qb rfl (qb rfl (qz EJ rfl (qa rfl (Ad (wp rfl (qL Db Cb rfl (qL BT AY rfl ?_)))))))))
 refine BM h fun v1 a1 h => Az [] (K6 N p0 p1 v1 a1) Zu rfl (qa rfl (Ad (wq rfl (qm rfl (Cf rfl (Ad ?_))))))
 refine A9 h (fun h => ?_) fun h => ?_
 ·refine wq rfl (A6 EJ IZ rfl (qm rfl (qs AY rfl (qe rfl ?_))))
  obtain rfl := sj h
  refine Ah ((Av 6 0 2001 1 _ rfl rfl rfl rfl).trans ((Av 6 1 2002 1 _ rfl rfl rfl rfl).trans ((Av 6 2 2003 1 _ rfl rfl rfl rfl).trans (sm [(1000, 2001), (1001, 2002), (1002, 2003)] [(6, oD (.ptr 6 0)), (7, iD v1)] [(6, .box [.own 1000, .own 1001, .own 1002]), (1000, .vec 1 ((([] : List Int)).map Aq)), (1001, .vec 1 ((([] : List Int)).map Aq)), (1002, .vec 1 ((([] : List Int)).map Ex))] rfl rfl)))) (Ar ?_)
  exact ⟨⟨[_, _], ⟨.cellN _ _ _ _ _ _ _ rfl rfl BT AY rfl rfl (IL rfl), tm⟩, rfl⟩, ⟨rfl, rfl, rfl, tv⟩⟩
 ·refine Al (wq rfl (qL Db Cb rfl (qL BT AY rfl (qL HV DK rfl ?_))))
  refine BM h fun v3 a3 h => Az [2004, 2005, 2006] (SG N p0 p1 p2 v3 a3) d3 rfl (qx rfl (qx rfl (qs AY rfl (qe rfl ?_))))
  obtain rfl := sj h
  refine Ah (sm [(1000, 2004), (1001, 2005), (1002, 2006)] [(6, oD (.ptr 6 0)), (7, iD v3.2)] [(6, .box [.own 1000, .own 1001, .own 1002]), (1000, .vec 1 (v3.1.fG.map Aq)), (1001, .vec 1 (v3.1.fD.map Aq)), (1002, .vec 1 (v3.1.fH.map Ex))] rfl rfl) (Ar ?_)
  exact ⟨⟨[_, _], ⟨.cellN _ _ _ _ _ _ _ rfl rfl BT AY rfl rfl (IL rfl), tm⟩, rfl⟩, ⟨rfl, rfl, rfl, tv⟩⟩
theorem Rn (N : Nat) (p0 : Ac) (p1 : Af) (r : (List AH) × Int) (h : HU N p0 p1 = some r) : Au Tryz.prog 64 [.e (.agg (Aj p0)), .e (.agg (AL p1))] [] (.tup [.one (sC (r.1.map Bw)), .one (iC r.2)]) := by
 unfold HU at h
 refine cw (n := 119) (rs := [.tmp 4, .tmp 5]) Tryz.func64 fun w0 S0 => ?_
 refine wq rfl (qb rfl (qb rfl (qa rfl (qa rfl (Ad (wq rfl (qL BT AY rfl (A6 UD aA rfl ?_))))))))
 refine Nw [(0, .tmp 21, _)] (.p rfl) rfl ⟨rfl, tv⟩ rfl J4 L4 UD rfl rfl (DY rfl) rfl rfl ?_
 refine EQ (IX 22 8 [.s, .s, .s, .s, .s, .s, .s, .x 1 []] _ ((([(AH.mk p1 ((-1)) ((Ag.mk 0 0 0)) (([] : List Int)))] : List AH)).map Bw) rfl rfl) (qa rfl (Ad (wq rfl ?_)))
 refine Xh (.p rfl) rfl ?_
 refine qL BT AY rfl ?_
 refine BM h fun v1 a1 h => Az [] (Qw N p1 v1 a1) dj rfl ?_
 refine T1 (kv := Value.string) (vt := Dg) (m := ([] : List (ByteArray × Int))) (k := v1) (v := 0) rfl (.inr rfl) rfl rfl rfl rfl (O2 S3 bf) rfl ?_
 refine qm rfl (qa rfl (Ad (wp rfl (qe rfl ?_))))
 refine Ax (L := EE N p0) h (fun v2 => mk [(2, oD (.ptr 2 0)), (6, oD (.own 2001)), (7, oD (.mref 2002)), (8, iD v2.2.2)] [(2, .box (Aj p0)), (2001, .dvec 8 [.s, .s, .s, .s, .s, .s, .s, .x 1 []] (v2.1.map Bw)), (2002, .mp (KB Value.string Dg v2.2.1))]) (fun v3 => mk [(6, oD (.own 2003))] [(2003, .dvec 8 [.s, .s, .s, .s, .s, .s, .s, .x 1 []] (v3.map Bw))]) (fun _ _ => rfl) (sm [(2001, 22), (2002, 23)] _ _ rfl rfl) (fun j2 n2 v2 h => ?_) (fun v3 s h hs => ?_)
 ·unfold EE at h
  refine wp rfl (qw 2 rfl ?_)
  refine U8 (.p rfl) rfl rfl (KX Bw v2.1 _ _) J4 ?_
  refine AX rfl (Ad ?_)
  refine A9 h (fun h => ?_) fun h => ?_
  ·refine Al (AN (AG (wq rfl (qL Db Cb rfl (qw 2 rfl ?_)))))
   refine Bc h fun v5 a5 b5 h => IA (.p rfl) rfl rfl rfl (KX Bw v2.1 _ _) J4 L4 a5 (AA b5) ?_
   refine qh P0 rfl ?_
   refine TK (.p rfl) rfl BT AY rfl (Ae b5) rfl rfl (by decide) rfl ?_
   refine BM h fun v6 a6 h => Az [2004] (Q9 N p0 ((Af.mk v5.fS.fG v5.fS.fD v5.fS.fH)) v6 a6) fk rfl (qm rfl (qx rfl (qx rfl (qa rfl (qa rfl (AE (by kernel_rfl) (wp rfl (qm rfl (Cf rfl (Ad ?_))))))))))
   refine A9 h (fun h => ?_) fun h => ?_
   ·refine wq rfl (qm rfl (qa rfl (qe rfl ?_)))
    obtain rfl := sj h
    refine Ah ((Ou 4 _ rfl).trans (sm [] [(4, pD (.sl ((([] : List AH)).map Bw))), (5, iD v6.2)] [] rfl rfl)) (Ar ?_)
    exact ⟨⟨[_, _], ⟨.tmp _ _ rfl, tm⟩, rfl⟩, tv⟩
   ·refine Al (wq rfl (qm rfl (DV FH rfl (qm rfl (Ad ?_)))))
    refine Ax (L := C2 N p0 v2 v6) h (fun v8 => mk [(2, oD (.ptr 2 0)), (6, oD (.own 2005)), (7, oD (.mref 2006)), (8, iD v2.2.2), (46, oD (.own 2007)), (47, iD ((v6.1.length : Int))), (48, iD v8.2.2)] [(2, .box (Aj p0)), (2005, .dvec 8 [.s, .s, .s, .s, .s, .s, .s, .x 1 []] (v8.1.map Bw)), (2006, .mp (KB Value.string Dg v8.2.1)), (2007, .vec 3 (v6.1.map AJ))]) (fun v9 => mk [(2, oD (.ptr 2 0)), (6, oD (.own 2008)), (7, oD (.mref 2009)), (8, iD v2.2.2)] [(2, .box (Aj p0)), (2008, .dvec 8 [.s, .s, .s, .s, .s, .s, .s, .x 1 []] (v9.1.map Bw)), (2009, .mp (KB Value.string Dg v9.2))]) (fun _ _ => rfl) (sm [(2005, 2001), (2006, 2002), (2007, 2004)] _ _ rfl rfl) (fun j8 n8 v8 h => ?_) (fun v9 s h hs => ?_)
    ·unfold C2 at h
     refine wq rfl (AX rfl (Ad (AN ?_)))
     refine A9 h (fun h => ?_) fun h => ?_
     ·refine Al (AN (AG (wq rfl ?_)))
      refine Bc h fun v11 a11 b11 h => qI FH DK a11 (Ae b11) rfl (qJ HV DK (Ae b11) rfl (qz Jr rfl (qs DK rfl (Ad (wq rfl (qL Db Cb rfl (qw 2 rfl ?_)))))))
      refine Bc h fun v12 a12 b12 h => IA (.p rfl) rfl rfl rfl (KX Bw v8.1 _ _) J4 L4 a12 (AA b12) ?_
      refine qh P0 rfl ?_
      refine TK (.p rfl) rfl BT AY rfl (Ae b12) rfl rfl (by decide) rfl ?_
      refine qL HV DK rfl ?_
      refine BM h fun v13 a13 h => Az [2010, 2011, 2012] (SB N p0 ((Af.mk v12.fS.fG v12.fS.fD v12.fS.fH)) v11 v13 a13) e9 rfl (qm rfl (qx rfl (qx rfl (qz EJ rfl (qs AY rfl (qa rfl (AE (by kernel_rfl) (wp rfl (qm rfl (Cf rfl (Ad ?_)))))))))))
      refine A9 h (fun h => ?_) fun h => ?_
      ·refine wq rfl (qm rfl (qa rfl (qe rfl ?_)))
       obtain rfl := sj h
       refine Ah ((Ou 4 _ rfl).trans (sm [] [(4, pD (.sl ((([] : List AH)).map Bw))), (5, iD v13.2)] [] rfl rfl)) (Ar ?_)
       exact ⟨⟨[_, _], ⟨.tmp _ _ rfl, tm⟩, rfl⟩, tv⟩
      ·refine Al (wq rfl (qL BT AY rfl ?_))
       refine BM h fun v15 a15 h => Fi [] [2010, 2011, 2012] (Qw N v13.1 v15 a15) dj Dh rfl (qa rfl (Ad (wq rfl (qw 2 rfl ?_))))
       refine Yg (kv := Value.string) (vt := Dg) (m := v8.2.1) (dv := 0) (.p rfl) rfl rfl rfl (O2 S3 bf) (by rw [S3]; rfl) LG rfl rfl rfl ?_
       refine qm rfl (qx rfl (qx rfl (qa rfl (qe rfl ?_))))
       refine AP h (fun v16 => mk [(2, oD (.ptr 2 0)), (6, oD (.own 2013)), (7, oD (.mref 2014)), (8, iD v2.2.2), (16, iD v16.2.2), (46, oD (.own 2015)), (47, iD ((v6.1.length : Int))), (48, iD v8.2.2)] [(2, .box (Aj p0)), (2013, .dvec 8 [.s, .s, .s, .s, .s, .s, .s, .x 1 []] (v16.1.map Bw)), (2014, .mp (KB Value.string Dg v16.2.1)), (2015, .vec 3 (v6.1.map AJ))]) (fun j16 h => ?_) (fun v16 h => ?_)
       ·refine wq rfl (qm rfl (CL rfl (Ad ?_)))
        refine A9 h (fun h => ?_) fun h => ?_
        ·refine AP h (fun v18 => mk [(2, oD (.ptr 2 0)), (6, oD (.own 2016)), (7, oD (.mref 2017)), (8, iD v2.2.2), (15, pD (.val (.string v15))), (16, iD v18.2), (46, oD (.own 2018)), (47, iD ((v6.1.length : Int))), (48, iD v8.2.2)] [(2, .box (Aj p0)), (2016, .dvec 8 [.s, .s, .s, .s, .s, .s, .s, .x 1 []] (v18.1.map Bw)), (2017, .mp (KB Value.string Dg v8.2.1)), (2018, .vec 3 (v6.1.map AJ))]) (fun j18 h => ?_) (fun v18 h => ?_)
         ·refine wq rfl (qL Db Cb rfl (qL BT AY rfl ?_))
          refine BM h fun v19 a19 h => Fi [] [2010, 2011, 2012] (OH N p0 v13.1 v19 a19) cx Dh rfl (qm rfl (qx rfl (qx rfl (qa rfl (qe rfl ?_)))))
          refine AP h (fun v20 => mk [(2, oD (.ptr 2 0)), (6, oD (.own 2022)), (7, oD (.mref 2023)), (8, iD v2.2.2), (12, oD (.ptr 12 0)), (13, oD (.ptr 13 0)), (15, pD (.val (.string v15))), (46, oD (.own 2024)), (47, iD ((v6.1.length : Int))), (48, iD v8.2.2), (87, bD v20)] [(2, .box (Aj p0)), (12, .box (Ei v11)), (13, .box [.own 2019, .own 2020, .own 2021]), (2019, .vec 1 (v13.1.fG.map Aq)), (2020, .vec 1 (v13.1.fD.map Aq)), (2021, .vec 1 (v13.1.fH.map Ex)), (2022, .dvec 8 [.s, .s, .s, .s, .s, .s, .s, .x 1 []] (v8.1.map Bw)), (2023, .mp (KB Value.string Dg v8.2.1)), (2024, .vec 3 (v6.1.map AJ))]) (fun j20 h => ?_) (fun v20 h => ?_)
          ·refine Ai As rfl (qm rfl (Cf rfl (qm rfl ?_)))
           refine E8 84 h rfl (fun h => ?_) fun h => ?_
           ·refine qw 2 rfl (qp rfl (Ad ?_))
            exact sn [(2019, 2010), (2020, 2011), (2021, 2012), (2022, 2005), (2023, 2006), (2024, 2007)] h
           ·refine qm rfl (CL rfl (qp rfl (Ad ?_)))
            exact sn [(2019, 2010), (2020, 2011), (2021, 2012), (2022, 2005), (2023, 2006), (2024, 2007)] h
          ·refine A9 h (fun h => ?_) fun h => ?_
           ·refine Ai As rfl (qe rfl ?_)
            exact sn [(2016, 2022), (2017, 2023), (2018, 2024)] h
           ·refine wq rfl (qm rfl ?_)
            refine U8 (.p rfl) rfl rfl (KX Bw v8.1 _ _) J4 ?_
            refine qa rfl (Ad (Ai As rfl (qm rfl (qL BT AY rfl (qm rfl (qL HV DK rfl (A6 UD aA rfl (EQ (Br 2019 _ _ rfl rfl) (EQ (Br 2020 _ _ rfl rfl) (EQ (Br 2021 _ _ rfl rfl) ?_))))))))))
            refine Nw [(0, .tmp 94, _)] (.p rfl) rfl ⟨rfl, tv⟩ rfl J4 L4 UD rfl rfl (DY rfl) rfl rfl ?_
            refine EQ (IX 95 8 [.s, .s, .s, .s, .s, .s, .s, .x 1 []] _ ((([(AH.mk v13.1 v2.2.2 v11 (([] : List Int)))] : List AH)).map Bw) rfl rfl) ?_
            refine GK h fun c23 h => Lq (.p rfl) rfl rfl rfl rfl rfl (by decide) J4 J4 L4 bm (DY rfl) UD rfl (Oh (f := Bw) (g := Bw) (xs := v8.1) (ys := (([(AH.mk v13.1 v2.2.2 v11 (([] : List Int)))] : List AH))) c23) (Od Bw v8.1 (([(AH.mk v13.1 v2.2.2 v11 (([] : List Int)))] : List AH))) rfl rfl ?_
            refine qa rfl (Ad ?_)
            exact sn [(2016, 96), (2017, 2023), (2018, 2024)] h
         ·refine Ai As rfl (qw 3 rfl ?_)
          refine T1 (kv := Value.string) (vt := Dg) (m := v8.2.1) (k := v15) (v := v18.2) rfl (.inl rfl) rfl rfl rfl rfl (O2 S3 bf) rfl ?_
          refine Ad ?_
          exact sn [(2013, 2016), (2014, 2017), (2015, 2018)] h
        ·refine Al ?_
         exact sn [(2013, 2005), (2014, 2006), (2015, 2007)] h
       ·refine AP h (fun v24 => mk [(2, oD (.ptr 2 0)), (6, oD (.own 2025)), (7, oD (.mref 2026)), (8, iD v2.2.2), (46, oD (.own 2027)), (47, iD ((v6.1.length : Int))), (48, iD v8.2.2)] [(2, .box (Aj p0)), (2025, .dvec 8 [.s, .s, .s, .s, .s, .s, .s, .x 1 []] (v24.map Bw)), (2026, .mp (KB Value.string Dg v16.2.1)), (2027, .vec 3 (v6.1.map AJ))]) (fun j24 h => ?_) (fun v24 h => ?_)
        ·refine wq rfl (qm rfl (D4 rfl (Ad ?_)))
         refine A9 h (fun h => ?_) fun h => ?_
         ·refine Ai As rfl (qw 4 rfl ?_)
          refine Bc h fun v26 a26 b26 h => IA (.p rfl) rfl rfl rfl (KX Bw v16.1 _ _) J4 L4 a26 (AA b26) ?_
          refine qh TZ rfl ?_
          refine U9 (.p rfl) rfl Bg rfl (Ae b26) rfl rfl rfl rfl ?_
          refine qm rfl (Fg AD Ep LG rfl ?_)
          refine GK h fun c27 h => EM (f := Aq) AD AD Ep MH LG c27 rfl ?_
          refine Bc h fun v28 a28 b28 h => IA (.p rfl) rfl rfl rfl (bY Bw v16.1 _ _ _ _ _) J4 L4 a28 (AA b28) ?_
          refine qh TZ rfl ?_
          refine X0 rfl rfl rfl rfl (rows2 := (v26.fD ++ (([v16.2.2] : List Int))).map Aq) (cols2 := []) rfl rfl (Ae b28) (by decide) WO rfl rfl (A2 Bw v16.1 _ ((AH.mk ((Af.mk v28.fS.fG v28.fS.fD v28.fS.fH)) v28.fJ ((Ag.mk v28.fU.fI v28.fU.fL v28.fU.fT)) (v26.fD ++ (([v16.2.2] : List Int)))))) ?_
          refine Ad ?_
          exact sn [(2025, 2013), (2026, 2014), (2027, 2015)] h
         ·refine Al ?_
          exact sn [(2025, 2013), (2026, 2014), (2027, 2015)] h
        ·refine wq rfl (qm rfl ?_)
         refine U8 (.p rfl) rfl rfl (KX Bw v24 _ _) J4 ?_
         refine Gx rfl (Ad ?_)
         refine A9 h (fun h => ?_) fun h => ?_
         ·refine wq rfl (qa rfl (qe rfl ?_))
          obtain rfl := sj h
          refine Ah ((Ou 4 _ rfl).trans (sm [] [(4, pD (.sl ((([] : List AH)).map Bw))), (5, iD 3)] [] rfl rfl)) (Ar ?_)
          exact ⟨⟨[_, _], ⟨.tmp _ _ rfl, tm⟩, rfl⟩, tv⟩
         ·refine Al (Ai As rfl (AT rfl (qm rfl (Ad ?_))))
          exact sn [(2005, 2025), (2006, 2026), (2007, 2027)] h
     ·refine AS ?_
      exact sn [(2008, 2005), (2009, 2006)] h
    ·refine Ah hs (Ai As rfl (qm rfl (AT rfl (qe rfl ?_))))
     exact sn [(2001, 2008), (2002, 2009)] h
  ·refine AS ?_
   exact sn [(2003, 2001)] h
 ·refine Ah hs (wq rfl (qm rfl (qa rfl (qe rfl ?_))))
  obtain rfl := sj h
  refine Ah ((OZ 2003 _ _ _ rfl rfl).trans (sm [] [(4, pD (.sl (v3.map Bw))), (5, iD 0)] [] rfl rfl)) (Ar ?_)
  exact ⟨⟨[_, _], ⟨.tmp _ _ rfl, tm⟩, rfl⟩, tv⟩
theorem L0 (N : Nat) (p0 : List Int) (p1 : List Int) (r : Bool) (h : Fb N p0 p1 = some r) : Au Tryz.prog 92 [pD (.sl (p0.map Aq)), pD (.sl (p1.map Aq))] [] (bD r) := by
 unfold Fb at h
 refine cw (n := 26) (rs := [.tmp 4]) Tryz.func92 fun w0 S0 => ?_
 refine wq rfl (qa rfl (Ad (wp rfl (qm rfl (AV AD rfl (qm rfl (AV AD rfl (Cf rfl (Ad ?_)))))))))
 refine A9 h (fun h => ?_) fun h => ?_
 ·refine wq rfl (qe rfl ?_)
  obtain rfl := sj h
  refine Ah (sm [] [(4, bD false)] [] rfl rfl) (Ar ?_)
  exact ⟨⟨[_], tm, rfl⟩, tv⟩
 ·refine Al (wp rfl (qm rfl (AV AD rfl (qm rfl (Ad ?_)))))
  refine Ax (L := CM N p0 p1) h (fun v2 => mk [(0, pD (.sl (p0.map Aq))), (1, pD (.sl (p1.map Aq))), (12, iD ((p0.length : Int))), (13, iD v2)] []) (fun v3 => mk [] []) (fun _ _ => rfl) (sm [] _ _ rfl rfl) (fun j2 n2 v2 h => ?_) (fun v3 s h hs => ?_)
  ·unfold CM at h
   refine wq rfl (AX rfl (Ad (AN ?_)))
   refine A9 h (fun h => ?_) fun h => ?_
   ·refine Al (AN (AG (wq rfl (qm rfl (qa rfl (Ad (wq rfl (qw 2 rfl ?_))))))))
    refine Bc h fun v5 a5 b5 h => qi AD Ep a5 (Ae b5) rfl (qk CN rfl (qw 2 rfl ?_))
    refine Bc h fun v6 a6 b6 h => qi AD Ep a6 (Ae b6) rfl (qk CN rfl (Cf rfl (AE (by kernel_rfl) ?_)))
    refine A9 h (fun h => ?_) fun h => ?_
    ·refine wq rfl (qe rfl ?_)
     obtain rfl := sj h
     refine Ah (sm [] [(4, bD false)] [] rfl rfl) (Ar ?_)
     exact ⟨⟨[_], tm, rfl⟩, tv⟩
    ·refine Al (Ai As rfl (AT rfl (qm rfl (Ad ?_))))
     exact sn [] h
   ·refine AS ?_
    exact sn [] h
  ·refine Ah hs (wq rfl (qe rfl ?_))
   obtain rfl := sj h
   refine Ah (sm [] [(4, bD true)] [] rfl rfl) (Ar ?_)
   exact ⟨⟨[_], tm, rfl⟩, tv⟩
theorem KD (N : Nat) (p0 : List Int) (p1 : Int → Option Bool) (r : Int) (h : Fd N p0 p1 = some r) : Au Tryz.prog 131 [pD (.sl (p0.map Aq)), oD (.clo (CD (PR false Aq) tB p1))] [] (iD r) := by
 unfold Fd at h
 refine cw (n := 19) (rs := [.tmp 4]) Tryz.func131 fun w0 S0 => ?_
 refine wq rfl (qa rfl (Ad (wp rfl (qm rfl (AV AD rfl (qm rfl (Ad ?_)))))))
 refine Ax (L := BE N p0 p1) h (fun v1 => mk [(0, pD (.sl (p0.map Aq))), (1, oD (.clo (CD (PR false Aq) tB p1))), (7, iD ((p0.length : Int))), (8, iD v1)] []) (fun v2 => mk [] []) (fun _ _ => rfl) (sm [] _ _ rfl rfl) (fun j1 n1 v1 h => ?_) (fun v2 s h hs => ?_)
 ·unfold BE at h
  refine wq rfl (AX rfl (Ad (AN ?_)))
  refine A9 h (fun h => ?_) fun h => ?_
  ·refine Al (AN (AG (wq rfl (qm rfl (qa rfl (Ad (wq rfl (qw 3 rfl ?_))))))))
   refine Bc h fun v4 a4 b4 h => qi AD Ep a4 (Ae b4) rfl (qk CN rfl ?_)
   refine BM h fun v5 a5 h => Gk (ds0 := [_]) (ar := (PR false Aq) v4) (.p rfl) rfl rfl ⟨rfl, tv⟩ rfl rfl rfl (Gg (Oi _ _ To) a5) ?_
   refine Ad ?_
   refine A9 h (fun h => ?_) fun h => ?_
   ·refine wq rfl (qm rfl (qe rfl ?_))
    obtain rfl := sj h
    refine Ah (sm [] [(4, iD v1)] [] rfl rfl) (Ar ?_)
    exact ⟨⟨[_], tm, rfl⟩, tv⟩
   ·refine Al (Ai As rfl (AT rfl (qm rfl (Ad ?_))))
    exact sn [] h
  ·refine AS ?_
   exact sn [] h
 ·refine Ah hs (wq rfl (qe rfl ?_))
  obtain rfl := sj h
  refine Ah (sm [] [(4, iD ((-1)))] [] rfl rfl) (Ar ?_)
  exact ⟨⟨[_], tm, rfl⟩, tv⟩
theorem JK (N : Nat) (p0 : List Int) (p1 : Int → Option Bool) (r : Bool) (h : Dq N p0 p1 = some r) : Au Tryz.prog 93 [pD (.sl (p0.map Aq)), oD (.clo (CD (PR false Aq) tB p1))] [] (bD r) := by
 unfold Dq at h
 refine cw (n := 9) (rs := [.tmp 4]) Tryz.func93 fun w0 S0 => ?_
 refine wq rfl (qa rfl (Ad (wq rfl (qw 2 rfl ?_))))
 refine BM h fun v1 a1 h => Az [] (KD N p0 p1 v1 a1) df rfl (D4 rfl (qe rfl ?_))
 obtain rfl := sj h
 refine Ah (sm [] [(4, bD ((decide (0 ≤ v1))))] [] rfl rfl) (Ar ?_)
 exact ⟨⟨[_], tm, rfl⟩, tv⟩
theorem SW (N : Nat) (p0 : Int) (r : Bool) (h : IB N p0 = some r) : Au Tryz.prog 94 [iD p0] [] (bD r) := by
 unfold IB at h
 refine cw (n := 5) (rs := [.tmp 2]) Tryz.func94 fun w0 S0 => ?_
 refine wq rfl (qa rfl (Ad (wq rfl (qm rfl (D4 rfl (qe rfl ?_))))))
 obtain rfl := sj h
 refine Ah (sm [] [(2, bD ((decide (0 ≤ p0))))] [] rfl rfl) (Ar ?_)
 exact ⟨⟨[_], tm, rfl⟩, tv⟩
theorem VI (N : Nat) (p0 : Ac) (p1 : Af) (r : Bool) (h : JO N p0 p1 = some r) : Au Tryz.prog 67 [.e (.agg (Aj p0)), .e (.agg (AL p1))] [] (bD r) := by
 unfold JO at h
 refine cw (n := 22) (rs := [.tmp 4]) Tryz.func67 fun w0 S0 => ?_
 refine wq rfl (qb rfl (qb rfl (qe rfl ?_)))
 refine AP h (fun v1 => mk [(4, bD v1)] []) (fun j1 h => ?_) (fun v1 h => ?_)
 ·refine Ai As rfl (qL Db Cb rfl (qL BT AY rfl ?_))
  refine BM h fun v2 a2 h => Az [] (K6 N p0 p1 v2 a2) Zu rfl (BZ rfl (qm rfl ?_))
  refine E8 9 h rfl (fun h => ?_) fun h => ?_
  ·refine qf DR rfl (ql Bg rfl (qf I6 rfl (ql Bg rfl ?_)))
   refine BM h fun v4 a4 h => Az [] (L0 N p1.fG p0.fP v4 a4) ey rfl (qp rfl (qm rfl ?_))
   refine E8 16 h rfl (fun h => ?_) fun h => ?_
   ·refine qf B7 rfl (ql Bg rfl ?_)
    refine BM h fun v6 a6 h => Az [] (Au.weak (ds' := [pD (.sl (p1.fD.map Aq)), oD (.fnc 94)]) (JK N p1.fD ((fun (x : Int) => IB N x)) v6 a6) ⟨(fun _ _ _ hh => hh), (fun _ _ _ hh => V9 eQ (fun ar t ht => by obtain ⟨x, r, rfl, hq, rfl⟩ := LF ht; exact SW N x r hq) hh), tv⟩) eZ rfl ?_
    refine CL rfl (qp rfl (qe rfl ?_))
    exact sn [] h
   ·refine qw 4 rfl (qp rfl (qe rfl ?_))
    exact sn [] h
  ·refine qw 5 rfl (qp rfl (qw 5 rfl (qp rfl (qe rfl ?_))))
   exact sn [] h
 ·obtain rfl := sj h
  refine Ah (sm [] [(4, bD v1)] [] rfl rfl) (Ar ?_)
  exact ⟨⟨[_], tm, rfl⟩, tv⟩
theorem Ry (N : Nat) (p0 : AH) (p1 : List Int) (p2 : List Int) (p3 : List Int) (p4 : List An) (r : Bool) (h : FX N p0 p1 p2 p3 p4 = some r) : Au Tryz.prog 66 [.e (.agg (W6 p0)), oD (.rop [.sl (p1.map Aq), .sl (p2.map Aq), .sl (p3.map Aq), .sl (p4.map AI)])] [] (bD r) := by
 unfold FX at h
 refine cw (n := 8) (rs := [.tmp 3]) Tryz.func66 fun w0 S0 => ?_
 refine wq rfl (qb rfl (qa rfl (Ad (wq rfl (qK Db Cb rfl (qf P0 rfl (qL BT AY rfl ?_)))))))
 refine BM h fun v1 a1 h => Az [] (VI N ((Ac.mk p1 p2 p3 p4)) ((Af.mk p0.fS.fG p0.fS.fD p0.fS.fH)) v1 a1) eY rfl (qe rfl ?_)
 obtain rfl := sj h
 refine Ah (sm [] [(3, bD v1)] [] rfl rfl) (Ar ?_)
 exact ⟨⟨[_], tm, rfl⟩, tv⟩
theorem H5 (N : Nat) (p0 : List AH) (p1 : AH → Option Bool) (r : Int) (h : CW N p0 p1 = some r) : Au Tryz.prog 65 [pD (.sl (p0.map Bw)), oD (.clo (CD (PR true Bw) tB p1))] [] (iD r) := by
 unfold CW at h
 refine cw (n := 19) (rs := [.tmp 4]) Tryz.func65 fun w0 S0 => ?_
 refine wq rfl (qa rfl (Ad (wp rfl (qm rfl (AV J4 rfl (qm rfl (Ad ?_)))))))
 refine Ax (L := AZ N p0 p1) h (fun v1 => mk [(0, pD (.sl (p0.map Bw))), (1, oD (.clo (CD (PR true Bw) tB p1))), (7, iD ((p0.length : Int))), (8, iD v1)] []) (fun v2 => mk [] []) (fun _ _ => rfl) (sm [] _ _ rfl rfl) (fun j1 n1 v1 h => ?_) (fun v2 s h hs => ?_)
 ·unfold AZ at h
  refine wq rfl (AX rfl (Ad (AN ?_)))
  refine A9 h (fun h => ?_) fun h => ?_
  ·refine Al (AN (AG (wq rfl (qm rfl (qa rfl (Ad (wq rfl (qw 3 rfl ?_))))))))
   refine Bc h fun v4 a4 b4 h => qi J4 L4 a4 (Ae b4) rfl (qK cy L4 rfl ?_)
   refine BM h fun v5 a5 h => Gk (ds0 := [_]) (ar := (PR true Bw) ((AH.mk ((Af.mk v4.fS.fG v4.fS.fD v4.fS.fH)) v4.fJ ((Ag.mk v4.fU.fI v4.fU.fL v4.fU.fT)) v4.fD))) (.p rfl) rfl rfl ⟨rfl, tv⟩ rfl rfl rfl (Gg (Oi _ _ TR) a5) ?_
   refine Ad ?_
   refine A9 h (fun h => ?_) fun h => ?_
   ·refine wq rfl (qm rfl (qe rfl ?_))
    obtain rfl := sj h
    refine Ah (sm [] [(4, iD v1)] [] rfl rfl) (Ar ?_)
    exact ⟨⟨[_], tm, rfl⟩, tv⟩
   ·refine Al (Ai As rfl (AT rfl (qm rfl (Ad ?_))))
    exact sn [] h
  ·refine AS ?_
   exact sn [] h
 ·refine Ah hs (wq rfl (qe rfl ?_))
  obtain rfl := sj h
  refine Ah (sm [] [(4, iD ((-1)))] [] rfl rfl) (Ar ?_)
  exact ⟨⟨[_], tm, rfl⟩, tv⟩
theorem IQ (N : Nat) (p0 : List Ag) (r : (List Ag)) (h : BP N p0 = some r) : B2 Tryz.prog 95 [oD (.own 90000)] [(.vec 3 (p0.map AJ), .vec 3 (r.map AJ))] [] (.tup []) := by
 unfold BP at h
 refine Bn (n := 28) (rs := []) Tryz.func95 rfl rfl rfl (DY rfl) (DY rfl) rfl rfl (DY rfl) rfl (DY rfl) fun w0 S0 GL => PI ?_
 refine Ah (sm [] [(0, oD (.own 90000))] [(90000, .vec 3 (p0.map AJ))] rfl rfl) (wq rfl (qm rfl (DV FH rfl (DA rfl (qa rfl (qe rfl ?_))))))
 refine Ax (L := BB N) h (fun v1 => mk [(0, oD (.own 90000)), (2, iD v1.2.1), (3, iD v1.2.2)] [(90000, .vec 3 (v1.1.map AJ))]) (fun v2 => mk [] [(90000, .vec 3 (v2.map AJ))]) (fun _ _ => rfl) (sm [] _ _ rfl rfl) (fun j1 n1 v1 h => ?_) (fun v2 s h hs => ?_)
 ·unfold BB at h
  refine wp rfl (qw 2 rfl (AX rfl (Ad ?_)))
  refine A9 h (fun h => ?_) fun h => ?_
  ·refine Al (AN (AG (Ai As rfl (qw 6 rfl ?_))))
   refine Bc h fun v4 a4 b4 h => qI FH DK a4 (Ae b4) rfl (qJ HV DK (Ae b4) rfl (qw 2 rfl ?_))
   refine Bc h fun v5 a5 b5 h => qI FH DK a5 (Ae b5) rfl (qJ HV DK (Ae b5) rfl ?_)
   refine Bc h fun v6 a6 b6 h => qI FH DK a6 (Ae b6) rfl ?_
   refine Ba rfl rfl rfl rfl (Ae b6) rfl DK rfl (DY rfl) (A2 AJ v1.1 _ v4) ?_
   refine Bc h fun v7 a7 b7 h => qI FH DK a7 (Ae b7) rfl ?_
   refine Ba rfl rfl rfl rfl (Ae b7) rfl DK rfl (DY rfl) (A2 AJ (v1.1.set ((v1.2.1).toNat) v4) _ v5) ?_
   refine AE (by kernel_rfl) (Ai As rfl (qm rfl (AT rfl (qm rfl (DA rfl (qa rfl (qe rfl ?_)))))))
   exact sn [] h
  ·refine AS ?_
   exact sn [] h
 ·obtain rfl := sj h
  refine ⟨_, hs.trans (sm [] [] [(90000, .vec 3 (v2.map AJ))] rfl rfl), ?_⟩
  exact ⟨⟨[], tv, rfl⟩, ⟨rfl, tv⟩, tv⟩
theorem Vo (N : Nat) (p0 : List AH) (p1 : Int) (r : (List Ag)) (h : KW N p0 p1 = some r) : Au Tryz.prog 68 [pD (.sl (p0.map Bw)), iD p1] [(3, r.map AJ)] (oD (.own 0)) := by
 unfold KW at h
 refine cw (n := 28) (rs := [.tmp 4]) Tryz.func68 fun w0 S0 => ?_
 refine wq rfl (qa rfl (Ad (wq rfl (qa rfl (Ad (AN ?_))))))
 refine Ax (L := Hk N p0) h (fun v1 => mk [(0, pD (.sl (p0.map Bw))), (1, iD v1.1), (5, oD (.own 2001))] [(2001, .vec 3 (v1.2.map AJ))]) (fun v2 => mk [(5, oD (.own 2002))] [(2002, .vec 3 (v2.map AJ))]) (fun _ _ => rfl) ((Bl 5 2003 3 rfl rfl rfl).trans (sm [(2001, 2003)] _ _ rfl rfl)) (fun j1 n1 v1 h => ?_) (fun v2 s h hs => ?_)
 ·unfold Hk at h
  refine wp rfl (qw 2 rfl ?_)
  refine Bc h fun v3 a3 b3 h => qi J4 L4 a3 (Ae b3) rfl (qg T9 rfl (qk CN rfl (D4 rfl (Ad ?_))))
  refine A9 h (fun h => ?_) fun h => ?_
  ·refine Al (AN (AG (Ai As rfl (qw 3 rfl ?_))))
   refine Bc h fun v5 a5 b5 h => qi J4 L4 a5 (Ae b5) rfl (qg XA rfl (qK HV DK rfl (Fg FH DK Jr rfl ?_)))
   refine GK h fun c6 h => EM (f := AJ) FH FH DK Qj Jr c6 rfl (qa rfl (Ad (Ai As rfl (qw 2 rfl ?_))))
   refine Bc h fun v7 a7 b7 h => qi J4 L4 a7 (Ae b7) rfl (qg T9 rfl (qk CN rfl (qe rfl ?_)))
   exact sn [(2001, 24)] h
  ·refine AS ?_
   exact sn [(2002, 2001)] h
 ·refine Ah hs (wq rfl (qm rfl ?_))
  refine BM h fun v8 a8 h => DP (ds0 := [_]) [2002] [] [true] (IQ N v2 v8 a8) (.p rfl) ez rfl ⟨rfl, tv⟩ rfl rfl (by decide) ⟨rfl, tv⟩ rfl (Bf rfl) tv ⟨(fun h => by cases h), tv⟩ rfl rfl rfl ?_
  refine Ad (wq rfl (qm rfl (qe rfl ?_)))
  obtain rfl := sj h
  refine Ah (sm [(1000, 2002)] [(4, oD (.own 1000))] [(1000, .vec 3 (v8.map AJ))] rfl rfl) (Ar ?_)
  exact ⟨⟨[_], tm, rfl⟩, ⟨rfl, tv⟩⟩
theorem UZ (N : Nat) (p0 : Ac) (p1 : Af) (r : (List Ag) × Int) (h : GR N p0 p1 = some r) : Au Tryz.prog 36 [.e (.agg (Aj p0)), .e (.agg (AL p1))] [(3, r.1.map AJ)] (.tup [.one (.own 0), .one (iC r.2)]) := by
 unfold GR at h
 refine cw (n := 38) (rs := [.tmp 4, .tmp 5]) Tryz.func36 fun w0 S0 => ?_
 refine wq rfl (qb rfl (qb rfl (qa rfl (qa rfl (Ad (wq rfl (qL Db Cb rfl (qL BT AY rfl ?_))))))))
 refine BM h fun v1 a1 h => Az [] (OH N p0 p1 v1 a1) cx rfl (qm rfl (qx rfl (qx rfl (qa rfl (qa rfl (Ad (wp rfl (qm rfl (Cf rfl (Ad ?_))))))))))
 refine A9 h (fun h => ?_) fun h => ?_
 ·refine wq rfl (qm rfl (qa rfl (qe rfl ?_)))
  obtain rfl := sj h
  refine Ah ((Bl 4 2001 3 rfl rfl rfl).trans (sm [(1000, 2001)] [(4, oD (.own 1000)), (5, iD v1.2)] [(1000, .vec 3 ((([] : List Ag)).map AJ))] rfl rfl)) (Ar ?_)
  exact ⟨⟨[_, _], ⟨.tmp _ _ rfl, tm⟩, rfl⟩, ⟨rfl, tv⟩⟩
 ·refine Al (wp rfl (qm rfl (CL rfl (Ad ?_))))
  refine A9 h (fun h => ?_) fun h => ?_
  ·refine wq rfl (qa rfl (qe rfl ?_))
   obtain rfl := sj h
   refine Ah ((Bl 4 2002 3 rfl rfl rfl).trans (sm [(1000, 2002)] [(4, oD (.own 1000)), (5, iD 13)] [(1000, .vec 3 ((([] : List Ag)).map AJ))] rfl rfl)) (Ar ?_)
   exact ⟨⟨[_, _], ⟨.tmp _ _ rfl, tm⟩, rfl⟩, ⟨rfl, tv⟩⟩
  ·refine Al (wq rfl (qL Db Cb rfl (qL BT AY rfl ?_)))
   refine BM h fun v4 a4 h => Az [] (Rn N p0 p1 v4 a4) ft rfl (qm rfl (qx rfl (qx rfl (qa rfl (qa rfl (Ad (wp rfl (qm rfl (Cf rfl (Ad ?_))))))))))
   refine A9 h (fun h => ?_) fun h => ?_
   ·refine wq rfl (qm rfl (qa rfl (qe rfl ?_)))
    obtain rfl := sj h
    refine Ah ((Bl 4 2003 3 rfl rfl rfl).trans (sm [(1000, 2003)] [(4, oD (.own 1000)), (5, iD v4.2)] [(1000, .vec 3 ((([] : List Ag)).map AJ))] rfl rfl)) (Ar ?_)
    exact ⟨⟨[_, _], ⟨.tmp _ _ rfl, tm⟩, rfl⟩, ⟨rfl, tv⟩⟩
   ·refine Al (wq rfl (qm rfl (EQ (N9 2 [.sl (p0.fE.map Aq), .sl (p0.fK.map Aq), .sl (p0.fP.map Aq), .sl (p0.fF.map AI)] rfl rfl) ?_)))
    refine NH (capD := [_]) (CD (PR true Bw) tB ((fun (x : AH) => FX N x p0.fE p0.fK p0.fP p0.fF))) (.p rfl) fo rfl ⟨rfl, tv⟩ rfl (fun ar t ht => by obtain ⟨x, r, rfl, hq, rfl⟩ := LF ht; exact Ry N x p0.fE p0.fK p0.fP p0.fF r hq) ?_
    refine BM h fun v6 a6 h => Az [] (H5 N v4.1 ((fun (x : AH) => FX N x p0.fE p0.fK p0.fP p0.fF)) v6 a6) eI rfl (qa rfl (Ad (wp rfl (qm rfl (AX rfl (Ad ?_))))))
    refine A9 h (fun h => ?_) fun h => ?_
    ·refine wq rfl (qa rfl (qe rfl ?_))
     obtain rfl := sj h
     refine Ah ((Bl 4 2004 3 rfl rfl rfl).trans (sm [(1000, 2004)] [(4, oD (.own 1000)), (5, iD 14)] [(1000, .vec 3 ((([] : List Ag)).map AJ))] rfl rfl)) (Ar ?_)
     exact ⟨⟨[_, _], ⟨.tmp _ _ rfl, tm⟩, rfl⟩, ⟨rfl, tv⟩⟩
    ·refine Al (wq rfl (qw 2 rfl ?_))
     refine BM h fun v8 a8 h => Az [2005] (Vo N v4.1 v6 v8 a8) ex rfl (qa rfl (qe rfl ?_))
     obtain rfl := sj h
     refine Ah (sm [(1000, 2005)] [(4, oD (.own 1000)), (5, iD 0)] [(1000, .vec 3 (v8.map AJ))] rfl rfl) (Ar ?_)
     exact ⟨⟨[_, _], ⟨.tmp _ _ rfl, tm⟩, rfl⟩, ⟨rfl, tv⟩⟩
theorem PH (N : Nat) (p0 : Ac) (r : (List Ag) × Int) (h : Gi N p0 = some r) : Au Tryz.prog 13 [.e (.agg (Aj p0))] [(3, r.1.map AJ)] (.tup [.one (.own 0), .one (iC r.2)]) := by
 unfold Gi at h
 refine cw (n := 19) (rs := [.tmp 2, .tmp 3]) Tryz.func13 fun w0 S0 => ?_
 refine wq rfl (qb rfl (qa rfl (qa rfl (Ad (wq rfl (qL Db Cb rfl ?_))))))
 refine BM h fun v1 a1 h => Az [2001, 2002, 2003] (Uw N p0 v1 a1) et rfl (qm rfl (qx rfl (qx rfl (qz EJ rfl (qs AY rfl (qa rfl (Ad (wp rfl (qm rfl (Cf rfl (Ad ?_)))))))))))
 refine A9 h (fun h => ?_) fun h => ?_
 ·refine wq rfl (qm rfl (qa rfl (qe rfl ?_)))
  obtain rfl := sj h
  refine Ah ((Bl 2 2004 3 rfl rfl rfl).trans (sm [(1000, 2004)] [(2, oD (.own 1000)), (3, iD v1.2)] [(1000, .vec 3 ((([] : List Ag)).map AJ))] rfl rfl)) (Ar ?_)
  exact ⟨⟨[_, _], ⟨.tmp _ _ rfl, tm⟩, rfl⟩, ⟨rfl, tv⟩⟩
 ·refine Al (wq rfl (qL Db Cb rfl (qL BT AY rfl ?_)))
  refine BM h fun v3 a3 h => Fi [2005] [2001, 2002, 2003] (UZ N p0 v1.1 v3 a3) eK (Jz (fun _ => rfl) Dh) rfl (qx rfl (qx rfl (qa rfl (qe rfl ?_))))
  obtain rfl := sj h
  refine Ah (sm [(1000, 2005)] [(2, oD (.own 1000)), (3, iD v3.2)] [(1000, .vec 3 (v3.1.map AJ))] rfl rfl) (Ar ?_)
  exact ⟨⟨[_, _], ⟨.tmp _ _ rfl, tm⟩, rfl⟩, ⟨rfl, tv⟩⟩
theorem Jo (N : Nat) (p0 : Ac) (p1 : List Aa) (r : Bool × Int) (h : ER N p0 p1 = some r) : Au Tryz.prog 42 [.e (.agg (Aj p0)), pD (.sl (p1.map Ab))] [] (.tup [.one (.pure (.val (.bool r.1))), .one (iC r.2)]) := by
 unfold ER at h
 refine cw (n := 20) (rs := [.tmp 4, .tmp 5]) Tryz.func42 fun w0 S0 => ?_
 refine wq rfl (qb rfl (qa rfl (qa rfl (Ad (wq rfl (qL Db Cb rfl (qm rfl ?_)))))))
 refine BM h fun v1 a1 h => Az [2001, 2002, 2003] (MJ N p0 p1 v1 a1) cH rfl ?_
 refine BM h fun v2 a2 h => Fi [2004] [2001, 2002, 2003] (PH N v1 v2 a2) cB (Jz (fun _ => rfl) Dh) rfl (qm rfl (qx rfl (qx rfl (qa rfl (qa rfl (Ad (wp rfl (qm rfl (BZ rfl (Ad ?_))))))))))
 refine A9 h (fun h => ?_) fun h => ?_
 ·refine wq rfl (qm rfl (qa rfl (qe rfl ?_)))
  obtain rfl := sj h
  refine Ah (sm [] [(4, bD false), (5, iD v2.2)] [] rfl rfl) (Ar ?_)
  exact ⟨⟨[_, _], ⟨.tmp _ _ rfl, tm⟩, rfl⟩, tv⟩
 ·refine Al (wq rfl (qm rfl (BZ rfl (qa rfl (qe rfl ?_)))))
  obtain rfl := sj h
  refine Ah (sm [] [(4, bD ((v2.2 == 0))), (5, iD 0)] [] rfl rfl) (Ar ?_)
  exact ⟨⟨[_, _], ⟨.tmp _ _ rfl, tm⟩, rfl⟩, tv⟩
theorem Le (N : Nat) (p0 : Ac) (r : (List (List Aa)) × Int) (h : GA N p0 = some r) : Au Tryz.prog 24 [.e (.agg (Aj p0))] [(1, r.1.map (FN Ab))] (.tup [.one (.own 0), .one (iC r.2)]) := by
 unfold GA at h
 refine cw (n := 54) (rs := [.tmp 2, .tmp 3]) Tryz.func24 fun w0 S0 => ?_
 refine wq rfl (qb rfl (qa rfl (qa rfl (Ad (wq rfl (qL Db Cb rfl ?_))))))
 refine BM h fun v1 a1 h => Az [2001] (K0 N p0 v1 a1) d8 rfl (qm rfl (qx rfl (qx rfl (qa rfl (qa rfl (Ad (wp rfl (qm rfl (Cf rfl (Ad ?_))))))))))
 refine A9 h (fun h => ?_) fun h => ?_
 ·refine wq rfl (qm rfl (qa rfl (qe rfl ?_)))
  obtain rfl := sj h
  refine Ah ((Bl 2 2002 1 rfl rfl rfl).trans (sm [(1000, 2002)] [(2, oD (.own 1000)), (3, iD v1.2)] [(1000, .vec 1 ((([] : List (List Aa))).map (FN Ab)))] rfl rfl)) (Ar ?_)
  exact ⟨⟨[_, _], ⟨.tmp _ _ rfl, tm⟩, rfl⟩, ⟨rfl, tv⟩⟩
 ·refine Al (wp rfl (qm rfl (DV AQ rfl (Gx rfl (Ad ?_)))))
  refine A9 h (fun h => ?_) fun h => ?_
  ·refine wq rfl (qa rfl (qe rfl ?_))
   obtain rfl := sj h
   refine Ah ((Bl 2 2003 1 rfl rfl rfl).trans (sm [(1000, 2003)] [(2, oD (.own 1000)), (3, iD 3)] [(1000, .vec 1 ((([] : List (List Aa))).map (FN Ab)))] rfl rfl)) (Ar ?_)
   exact ⟨⟨[_, _], ⟨.tmp _ _ rfl, tm⟩, rfl⟩, ⟨rfl, tv⟩⟩
  ·refine Al (wp rfl (qe rfl ?_))
   refine Ax (L := Fh N p0) h (fun v4 => mk [(1, oD (.ptr 1 0)), (4, pD (.sl (v4.1.map Ab))), (6, iD v4.2)] [(1, .box (Aj p0))]) (fun v5 => mk [] []) (fun _ _ => rfl) ((Br 2001 _ _ rfl rfl).trans (sm [] _ _ rfl rfl)) (fun j4 n4 v4 h => ?_) (fun v5 s h hs => ?_)
   ·unfold Fh at h
    refine wp rfl (qm rfl (LE rfl (Ad ?_)))
    refine A9 h (fun h => ?_) fun h => ?_
    ·refine Al (AN (AG (wq rfl (qa rfl (Ad (wp rfl (qw 2 rfl ?_)))))))
     refine BM h fun v7 a7 h => Az [2004] (Qa N v4.1 v4.2 v7 a7) dA rfl (DV J2 rfl (qm rfl (Ad ?_)))
     refine Ax (L := EI N p0 v7) h (fun v8 => mk [(1, oD (.ptr 1 0)), (4, pD (.sl (v4.1.map Ab))), (6, iD v4.2), (7, oD (.own 2005)), (29, oD (.own 2006)), (30, iD ((v7.length : Int))), (31, iD v8.2)] [(1, .box (Aj p0)), (2005, .vec 1 (v8.1.map (FN Ab))), (2006, .vec 1 (v7.map (FN Ab)))]) (fun v9 => mk [(1, oD (.ptr 1 0)), (4, pD (.sl (v4.1.map Ab))), (6, iD v4.2), (7, oD (.own 2007))] [(1, .box (Aj p0)), (2007, .vec 1 (v9.map (FN Ab)))]) (fun _ _ => rfl) ((Bl 7 2011 1 rfl rfl rfl).trans (sm [(2005, 2011), (2006, 2004)] _ _ rfl rfl)) (fun j8 n8 v8 h => ?_) (fun v9 s h hs => ?_)
     ·unfold EI at h
      refine wq rfl (AX rfl (Ad (AN ?_)))
      refine A9 h (fun h => ?_) fun h => ?_
      ·refine Al ?_
       refine AP h (fun v11 => mk [(1, oD (.ptr 1 0)), (4, pD (.sl (v4.1.map Ab))), (6, iD v4.2), (7, oD (.own 2008)), (29, oD (.own 2009)), (30, iD ((v7.length : Int))), (31, iD v8.2)] [(1, .box (Aj p0)), (2008, .vec 1 (v11.map (FN Ab))), (2009, .vec 1 (v7.map (FN Ab)))]) (fun j11 h => ?_) (fun v11 h => ?_)
       ·refine AG (wq rfl ?_)
        refine Bc h fun v12 a12 b12 h => qI J2 SV a12 (Ae b12) rfl (qj ZT (Ae b12) rfl (qa rfl (Ad (wq rfl (qL Db Cb rfl (qm rfl ?_))))))
        refine BM h fun v13 a13 h => Az [] (Jo N p0 v12 v13 a13) ce rfl (qm rfl (qx rfl (qx rfl (qa rfl (qa rfl (Ad (wp rfl (qm rfl (Cf rfl (Ad ?_))))))))))
        refine A9 h (fun h => ?_) fun h => ?_
        ·refine wq rfl (qm rfl (qa rfl (qe rfl ?_)))
         obtain rfl := sj h
         refine Ah ((Bl 2 2010 1 rfl rfl rfl).trans (sm [(1000, 2010)] [(2, oD (.own 1000)), (3, iD v13.2)] [(1000, .vec 1 ((([] : List (List Aa))).map (FN Ab)))] rfl rfl)) (Ar ?_)
         exact ⟨⟨[_, _], ⟨.tmp _ _ rfl, tm⟩, rfl⟩, ⟨rfl, tv⟩⟩
        ·refine Al (wq rfl (qm rfl (Ad ?_)))
         refine A9 h (fun h => ?_) fun h => ?_
         ·refine Ai As rfl (qw 2 rfl (Fg J2 SV Ym rfl ?_))
          refine GK h fun c16 h => EM (f := (FN Ab)) J2 J2 SV aF Ym c16 rfl (qe rfl ?_)
          exact sn [(2008, 48), (2009, 2006)] h
         ·refine Al ?_
          exact sn [(2008, 2005), (2009, 2006)] h
       ·refine Ai As rfl (AT rfl (qm rfl (Ad ?_)))
        exact sn [(2005, 2008), (2006, 2009)] h
      ·refine AS ?_
       exact sn [(2007, 2005)] h
     ·refine Ah hs (wq rfl (qm rfl (DV J2 rfl (Gx rfl (Ad ?_)))))
      refine A9 h (fun h => ?_) fun h => ?_
      ·refine wq rfl (qm rfl (qa rfl (qe rfl ?_)))
       obtain rfl := sj h
       refine Ah (sm [(1000, 2007)] [(2, oD (.own 1000)), (3, iD 0)] [(1000, .vec 1 (v9.map (FN Ab)))] rfl rfl) (Ar ?_)
       exact ⟨⟨[_, _], ⟨.tmp _ _ rfl, tm⟩, rfl⟩, ⟨rfl, tv⟩⟩
      ·refine Al (Ai As rfl (qm rfl (AT rfl (qe rfl ?_))))
       exact sn [] h
    ·refine AS ?_
     exact sn [] h
   ·refine Ah hs (wq rfl (qa rfl (qe rfl ?_)))
    obtain rfl := sj h
    refine Ah ((Bl 2 2012 1 rfl rfl rfl).trans (sm [(1000, 2012)] [(2, oD (.own 1000)), (3, iD 14)] [(1000, .vec 1 ((([] : List (List Aa))).map (FN Ab)))] rfl rfl)) (Ar ?_)
    exact ⟨⟨[_, _], ⟨.tmp _ _ rfl, tm⟩, rfl⟩, ⟨rfl, tv⟩⟩
theorem HH (N : Nat) (p0 : List Aa) (p1 : Aa) (r : Int) (h : CI N p0 p1 = some r) : Au Tryz.prog 96 [pD (.sl (p0.map Ab)), .e (.agg (D9 p1))] [] (iD r) := by
 unfold CI at h
 refine cw (n := 19) (rs := [.tmp 4]) Tryz.func96 fun w0 S0 => ?_
 refine wq rfl (qb rfl (qa rfl (Ad (wp rfl (qm rfl (AV AQ rfl (qm rfl (Ad ?_))))))))
 refine Ax (L := A3 N p0 p1) h (fun v1 => mk [(0, pD (.sl (p0.map Ab))), (3, oD (.ptr 3 0)), (7, iD ((p0.length : Int))), (8, iD v1)] [(3, .box (D9 p1))]) (fun v2 => mk [] []) (fun _ _ => rfl) (sm [] _ _ rfl rfl) (fun j1 n1 v1 h => ?_) (fun v2 s h hs => ?_)
 ·unfold A3 at h
  refine wq rfl (AX rfl (Ad (AN ?_)))
  refine A9 h (fun h => ?_) fun h => ?_
  ·refine Al (AN (AG (wq rfl (qm rfl (qa rfl (Ad (wq rfl (qL CY AM rfl (qw 2 rfl ?_)))))))))
   refine Bc h fun v4 a4 b4 h => qi AQ AM a4 (Ae b4) rfl (qK CY AM rfl ?_)
   refine TF [.int .i64 p1.fX, .int .i64 p1.fW, .int .i64 p1.fV] [.int .i64 v4.fX, .int .i64 v4.fW, .int .i64 v4.fV] (.p rfl) rfl rfl RQ rfl ?_
   refine AE (by kernel_rfl) ?_
   refine A9 h (fun h => ?_) fun h => ?_
   ·refine wq rfl (qm rfl (qe rfl ?_))
    obtain rfl := sj h
    refine Ah (sm [] [(4, iD v1)] [] rfl rfl) (Ar ?_)
    exact ⟨⟨[_], tm, rfl⟩, tv⟩
   ·refine Al (Ai As rfl (AT rfl (qm rfl (Ad ?_))))
    exact sn [] h
  ·refine AS ?_
   exact sn [] h
 ·refine Ah hs (wq rfl (qe rfl ?_))
  obtain rfl := sj h
  refine Ah (sm [] [(4, iD ((-1)))] [] rfl rfl) (Ar ?_)
  exact ⟨⟨[_], tm, rfl⟩, tv⟩
theorem Ho (N : Nat) (p0 : List Aa) (p1 : Aa) (r : Bool) (h : BG N p0 p1 = some r) : Au Tryz.prog 69 [pD (.sl (p0.map Ab)), .e (.agg (D9 p1))] [] (bD r) := by
 unfold BG at h
 refine cw (n := 9) (rs := [.tmp 4]) Tryz.func69 fun w0 S0 => ?_
 refine wq rfl (qb rfl (qa rfl (Ad (wq rfl (qm rfl (qL CY AM rfl ?_))))))
 refine BM h fun v1 a1 h => Az [] (HH N p0 p1 v1 a1) eG rfl (D4 rfl (qe rfl ?_))
 obtain rfl := sj h
 refine Ah (sm [] [(4, bD ((decide (0 ≤ v1))))] [] rfl rfl) (Ar ?_)
 exact ⟨⟨[_], tm, rfl⟩, tv⟩
theorem L6 (N : Nat) (p0 : Ac) (p1 : List Aa) (r : Int) (h : Gu N p0 p1 = some r) : Au Tryz.prog 37 [.e (.agg (Aj p0)), pD (.sl (p1.map Ab))] [] (iD r) := by
 unfold Gu at h
 refine cw (n := 27) (rs := [.tmp 4]) Tryz.func37 fun w0 S0 => ?_
 refine wq rfl (qb rfl (qa rfl (Ad (wp rfl (qL Db Cb rfl ?_)))))
 refine BM h fun v1 a1 h => Az [] (E1 N p0 v1 a1) Xn rfl (qa rfl (Ad (wq rfl (qm rfl (Cf rfl (Ad ?_))))))
 refine A9 h (fun h => ?_) fun h => ?_
 ·refine wq rfl (qm rfl (qe rfl ?_))
  obtain rfl := sj h
  refine Ah (sm [] [(4, iD v1)] [] rfl rfl) (Ar ?_)
  exact ⟨⟨[_], tm, rfl⟩, tv⟩
 ·refine Al (wq rfl (qL Db Cb rfl ?_))
  refine BM h fun v3 a3 h => Az [2001] (Jj N p0 v3 a3) bK rfl (qa rfl (Ad (wp rfl (qm rfl (AV AQ rfl (qm rfl (Ad ?_)))))))
  refine Ax (L := Fs N p1 v3) h (fun v4 => mk [(6, oD (.own 2002)), (16, pD (.sl (p1.map Ab))), (17, iD ((p1.length : Int))), (18, iD v4)] [(2002, .vec 3 (v3.map Ab))]) (fun v5 => mk [] []) (fun _ _ => rfl) (sm [(2002, 2001)] _ _ rfl rfl) (fun j4 n4 v4 h => ?_) (fun v5 s h hs => ?_)
  ·unfold Fs at h
   refine wq rfl (AX rfl (Ad (AN ?_)))
   refine A9 h (fun h => ?_) fun h => ?_
   ·refine Al (AN (AG (wq rfl ?_)))
    refine Bc h fun v7 a7 b7 h => qi AQ AM a7 (Ae b7) rfl (qK CY AM rfl (qz GP rfl (qs AM rfl (Ad (wq rfl (qm rfl (qL CY AM rfl ?_)))))))
    refine BM h fun v8 a8 h => Fi [] [2002] (Ho N v3 v7 v8 a8) fw Dh rfl (CL rfl (Ad ?_))
    refine A9 h (fun h => ?_) fun h => ?_
    ·refine wq rfl (qe rfl ?_)
     obtain rfl := sj h
     refine Ah (sm [] [(4, iD 4)] [] rfl rfl) (Ar ?_)
     exact ⟨⟨[_], tm, rfl⟩, tv⟩
    ·refine Al (Ai As rfl (AT rfl (qm rfl (Ad ?_))))
     exact sn [] h
   ·refine AS ?_
    exact sn [] h
  ·refine Ah hs (wq rfl (qe rfl ?_))
   obtain rfl := sj h
   refine Ah (sm [] [(4, iD 0)] [] rfl rfl) (Ar ?_)
   exact ⟨⟨[_], tm, rfl⟩, tv⟩
theorem DZ (N : Nat) (p0 : List Aa) (r : (List Aa)) (h : Bb N p0 = some r) : Au Tryz.prog 15 [pD (.sl (p0.map Ab))] [(3, r.map Ab)] (oD (.own 0)) := by
 unfold Bb at h
 refine cw (n := 8) (rs := [.tmp 2]) Tryz.func15 fun w0 S0 => ?_
 refine wq rfl (qa rfl (Ad (wp rfl (qm rfl ?_))))
 refine Oe (.p rfl) rfl AQ ?_
 refine Ad ?_
 refine NZ rfl (fun c2 => ?_) ?_
 ·have c2 := List.map_eq_nil_iff.1 c2
  rw [c2] at h
  have h : (some (([] : List Aa))) = some r := h
  refine wq rfl (qe rfl ?_)
  obtain rfl := sj h
  refine Ah ((Bl 2 2001 3 rfl rfl rfl).trans (sm [(1000, 2001)] [(2, oD (.own 1000))] [(1000, .vec 3 ((([] : List Aa)).map Ab))] rfl rfl)) (Ar ?_)
  exact ⟨⟨[_], tm, rfl⟩, ⟨rfl, tv⟩⟩
 ·refine Al (wq rfl (Fg AQ AM GP rfl (qm rfl ?_)))
  refine GK h fun c1 h => HT (f := Ab) AQ AQ AM Po GP (fun _ => rfl) c1 rfl (qe rfl ?_)
  obtain rfl := sj h
  refine Ah (sm [(1000, 7)] [(2, oD (.own 1000))] [(1000, .vec 3 (((([] : List Aa)) ++ p0).map Ab))] rfl rfl) (Ar ?_)
  exact ⟨⟨[_], tm, rfl⟩, ⟨rfl, tv⟩⟩
theorem Og (N : Nat) (p0 : Int) (r : Int) (h : II N p0 = some r) : Au Tryz.prog 105 [pD (.val (.int .u32 p0))] [] (iD r) := by
 unfold II at h
 refine cw (n := 19) (rs := [.tmp 2]) Tryz.func105 fun w0 S0 => ?_
 refine wq rfl (qe rfl ?_)
 refine AP h (fun v1 => mk [(0, pD (.val (.int .u32 v1.1))), (2, iD v1.2)] []) (fun j1 h => ?_) (fun v1 h => ?_)
 ·refine wq rfl (qm rfl (D4 rfl (Ad ?_)))
  refine A9 h (fun h => ?_) fun h => ?_
  ·refine wq rfl (qm rfl (Jf rfl (by decide) (qa rfl (Ad (Ai As rfl (qe rfl ?_))))))
   exact sn [] h
  ·refine Al ?_
   exact sn [] h
 ·refine AP h (fun v3 => mk [(0, pD (.val (.int .u32 v3.1))), (2, iD v3.2)] []) (fun j3 h => ?_) (fun v3 h => ?_)
  ·refine wq rfl (qm rfl (D4 rfl (Ad ?_)))
   refine A9 h (fun h => ?_) fun h => ?_
   ·refine wq rfl (qm rfl (Jf rfl (by decide) (qa rfl (Ad (Ai As rfl (qm rfl (AT rfl (qe rfl ?_))))))))
    exact sn [] h
   ·refine Al ?_
    exact sn [] h
  ·refine wq rfl (qw 2 rfl (Je UV eq rfl ?_))
   refine BM h fun v5 a5 h => Ph (.p rfl) rfl rfl ZF a5 ?_
   refine Je aT X9 rfl (AT rfl (qe rfl ?_))
   obtain rfl := sj h
   refine Ah (sm [] [(2, iD ((wI .i64 (v3.2 + (wI .i64 v5)))))] [] rfl rfl) (Ar ?_)
   exact ⟨⟨[_], tm, rfl⟩, tv⟩
theorem OQ (N : Nat) (p0 : Int) (r : Int) (h : IJ N p0 = some r) : Au Tryz.prog 106 [pD (.val (.int .u64 p0))] [] (iD r) := by
 unfold IJ at h
 refine cw (n := 25) (rs := [.tmp 2]) Tryz.func106 fun w0 S0 => ?_
 refine wq rfl (qe rfl ?_)
 refine AP h (fun v1 => mk [(0, pD (.val (.int .u64 v1.1))), (2, iD v1.2)] []) (fun j1 h => ?_) (fun v1 h => ?_)
 ·refine wq rfl (qm rfl (D4 rfl (Ad ?_)))
  refine A9 h (fun h => ?_) fun h => ?_
  ·refine wq rfl (qm rfl (Jf rfl (by decide) (qa rfl (Ad (Ai As rfl (qe rfl ?_))))))
   exact sn [] h
  ·refine Al ?_
   exact sn [] h
 ·refine AP h (fun v3 => mk [(0, pD (.val (.int .u64 v3.1))), (2, iD v3.2)] []) (fun j3 h => ?_) (fun v3 h => ?_)
  ·refine wq rfl (qm rfl (D4 rfl (Ad ?_)))
   refine A9 h (fun h => ?_) fun h => ?_
   ·refine wq rfl (qm rfl (Jf rfl (by decide) (qa rfl (Ad (Ai As rfl (qm rfl (AT rfl (qe rfl ?_))))))))
    exact sn [] h
   ·refine Al ?_
    exact sn [] h
  ·refine AP h (fun v5 => mk [(0, pD (.val (.int .u64 v5.1))), (2, iD v5.2)] []) (fun j5 h => ?_) (fun v5 h => ?_)
   ·refine wq rfl (qm rfl (D4 rfl (Ad ?_)))
    refine A9 h (fun h => ?_) fun h => ?_
    ·refine wq rfl (qm rfl (Jf rfl (by decide) (qa rfl (Ad (Ai As rfl (qm rfl (AT rfl (qe rfl ?_))))))))
     exact sn [] h
    ·refine Al ?_
     exact sn [] h
   ·refine wq rfl (qw 2 rfl (Je Yk eq rfl ?_))
    refine BM h fun v7 a7 h => Ph (.p rfl) rfl rfl ZF a7 ?_
    refine Je aT X9 rfl (AT rfl (qe rfl ?_))
    obtain rfl := sj h
    refine Ah (sm [] [(2, iD ((wI .i64 (v5.2 + (wI .i64 v7)))))] [] rfl rfl) (Ar ?_)
    exact ⟨⟨[_], tm, rfl⟩, tv⟩
theorem L2 (N : Nat) (p0 : Int) (r : Int) (h : H8 N p0 = some r) : Au Tryz.prog 71 [pD (.val (.int .u64 p0))] [] (iD r) := by
 unfold H8 at h
 refine cw (n := 8) (rs := [.tmp 2]) Tryz.func71 fun w0 S0 => ?_
 refine wq rfl (qa rfl (Ad (AN ?_)))
 refine A9 h (fun h => ?_) fun h => ?_
 ·refine wq rfl (qm rfl (Je UF UA rfl ?_))
  refine BM h fun v2 a2 h => Az [] (Og N ((wI .u32 p0)) v2 a2) cG rfl (qe rfl ?_)
  obtain rfl := sj h
  refine Ah (sm [] [(2, iD v2)] [] rfl rfl) (Ar ?_)
  exact ⟨⟨[_], tm, rfl⟩, tv⟩
 ·refine Al (wq rfl (qm rfl ?_))
  refine BM h fun v3 a3 h => Az [] (OQ N p0 v3 a3) dy rfl (qe rfl ?_)
  obtain rfl := sj h
  refine Ah (sm [] [(2, iD v3)] [] rfl rfl) (Ar ?_)
  exact ⟨⟨[_], tm, rfl⟩, tv⟩
theorem Hr (N : Nat) (p0 : List Aa) (p1 : Int) (p2 : Int) (p3 : (Aa × Aa) → Option Int) (r : (List Aa)) (h : DH N p0 p1 p2 p3 = some r) : B2 Tryz.prog 97 [oD (.own 90000), iD p1, iD p2, oD (.clo (CD (GE true Ab true Ab) Dg p3))] [(.vec 3 (p0.map Ab), .vec 3 (r.map Ab))] [] (.tup []) := by
 unfold DH at h
 refine Bn (n := 53) (rs := []) Tryz.func97 rfl rfl rfl (DY rfl) (DY rfl) rfl rfl (DY rfl) rfl (DY rfl) fun w0 S0 GL => PI ?_
 refine Ah (sm [] [(0, oD (.own 90000)), (1, iD p1), (2, iD p2), (3, oD (.clo (CD (GE true Ab true Ab) Dg p3)))] [(90000, .vec 3 (p0.map Ab))] rfl rfl) (wq rfl (qm rfl (AT rfl (qe rfl ?_))))
 refine Ax (L := B5 N p1 p2 p3) h (fun v1 => mk [(0, oD (.own 90000)), (1, iD p1), (2, iD p2), (3, oD (.clo (CD (GE true Ab true Ab) Dg p3))), (8, iD v1.2)] [(90000, .vec 3 (v1.1.map Ab))]) (fun v2 => mk [] [(90000, .vec 3 (v2.map Ab))]) (fun _ _ => rfl) (sm [] _ _ rfl rfl) (fun j1 n1 v1 h => ?_) (fun v2 s h hs => ?_)
 ·unfold B5 at h
  refine wp rfl (qw 2 rfl (AX rfl (Ad ?_)))
  refine A9 h (fun h => ?_) fun h => ?_
  ·refine Al (AN (AG (wq rfl (qm rfl (qe rfl ?_)))))
   refine Ax (L := B4 N p1 p3) h (fun v4 => mk [(0, oD (.own 90000)), (1, iD p1), (2, iD p2), (3, oD (.clo (CD (GE true Ab true Ab) Dg p3))), (8, iD v1.2), (9, iD v4.2)] [(90000, .vec 3 (v4.1.map Ab))]) (fun v5 => mk [(0, oD (.own 90000)), (1, iD p1), (2, iD p2), (3, oD (.clo (CD (GE true Ab true Ab) Dg p3))), (8, iD v1.2)] [(90000, .vec 3 (v5.map Ab))]) (fun _ _ => rfl) (sm [] _ _ rfl rfl) (fun j4 n4 v4 h => ?_) (fun v5 s h hs => ?_)
   ·unfold B4 at h
    refine AN ?_
    refine AP h (fun v6 => mk [(0, oD (.own 90000)), (1, iD p1), (2, iD p2), (3, oD (.clo (CD (GE true Ab true Ab) Dg p3))), (8, iD v1.2), (9, iD v4.2), (34, bD v6)] [(90000, .vec 3 (v4.1.map Ab))]) (fun j6 h => ?_) (fun v6 h => ?_)
    ·refine Ai As rfl (qw 2 rfl (Gx rfl (qm rfl ?_)))
     refine E8 21 h rfl (fun h => ?_) fun h => ?_
     ·refine qw 3 rfl ?_
      refine Bc h fun v8 a8 b8 h => qI AQ AM a8 (Ae b8) rfl (qJ CY AM (Ae b8) rfl (qw 2 rfl (DA rfl ?_)))
      refine Bc h fun v9 a9 b9 h => qI AQ AM a9 (Ae b9) rfl (qJ CY AM (Ae b9) rfl ?_)
      refine BM h fun v10 a10 h => Gk (ds0 := [_, _]) (ar := (GE true Ab true Ab) ((v8, v9))) (.g rfl rfl) rfl rfl ⟨rfl, rfl, tv⟩ rfl rfl rfl (Gg (HK _ _ _ _ A1 A1) a10) ?_
      refine AX rfl (qp rfl (AE (by kernel_rfl) ?_))
      exact sn [] h
     ·refine qw 12 rfl (qp rfl (AE (by kernel_rfl) ?_))
      exact sn [] h
    ·refine A9 h (fun h => ?_) fun h => ?_
     ·refine Al (AN (AG (Ai As rfl (qw 4 rfl (DA rfl (qw 2 rfl (DA rfl ?_)))))))
      refine Bc h fun v12 a12 b12 h => qI AQ AM a12 (Ae b12) rfl (qJ CY AM (Ae b12) rfl (qw 2 rfl ?_))
      refine Bc h fun v13 a13 b13 h => qI AQ AM a13 (Ae b13) rfl (qJ CY AM (Ae b13) rfl ?_)
      refine Bc h fun v14 a14 b14 h => qI AQ AM a14 (Ae b14) rfl ?_
      refine Ba rfl rfl rfl rfl (Ae b14) rfl AM rfl (DY rfl) (A2 Ab v4.1 _ v12) ?_
      refine Bc h fun v15 a15 b15 h => qI AQ AM a15 (Ae b15) rfl ?_
      refine Ba rfl rfl rfl rfl (Ae b15) rfl AM rfl (DY rfl) (A2 Ab (v4.1.set ((v4.2).toNat) v12) _ v13) ?_
      refine AE (by kernel_rfl) (Ai As rfl (qm rfl (DA rfl (qe rfl ?_))))
      exact sn [] h
     ·refine AS ?_
      exact sn [] h
   ·refine Ah hs (Ai As rfl (qm rfl (AT rfl (qe rfl ?_))))
    exact sn [] h
  ·refine AS ?_
   exact sn [] h
 ·obtain rfl := sj h
  refine ⟨_, hs.trans (sm [] [] [(90000, .vec 3 (v2.map Ab))] rfl rfl), ?_⟩
  exact ⟨⟨[], tv, rfl⟩, ⟨rfl, tv⟩, tv⟩
theorem F6 (N : Nat) (p0 : List Aa) (p1 : Int) (p2 : Int) (p3 : Int) (p4 : (Aa × Aa) → Option Int) (r : (List Aa)) (h : C3 N p0 p1 p2 p3 p4 = some r) : B2 Tryz.prog 132 [oD (.own 90000), iD p1, iD p2, iD p3, oD (.clo (CD (GE true Ab true Ab) Dg p4))] [(.vec 3 (p0.map Ab), .vec 3 (r.map Ab))] [] (.tup []) := by
 unfold C3 at h
 refine Bn (n := 82) (rs := []) Tryz.func132 rfl rfl rfl (DY rfl) (DY rfl) rfl rfl (DY rfl) rfl (DY rfl) fun w0 S0 GL => PI ?_
 refine Ah (sm [] [(0, oD (.own 90000)), (1, iD p1), (2, iD p2), (3, iD p3), (4, oD (.clo (CD (GE true Ab true Ab) Dg p4)))] [(90000, .vec 3 (p0.map Ab))] rfl rfl) (wq rfl (qm rfl (qe rfl ?_)))
 refine Ax (L := CH N p2 p3 p4) h (fun v1 => mk [(0, oD (.own 90000)), (2, iD p2), (3, iD p3), (4, oD (.clo (CD (GE true Ab true Ab) Dg p4))), (10, iD v1.2)] [(90000, .vec 3 (v1.1.map Ab))]) (fun v2 => mk [] [(90000, .vec 3 (v2.map Ab))]) (fun _ _ => rfl) (sm [] _ _ rfl rfl) (fun j1 n1 v1 h => ?_) (fun v2 s h hs => ?_)
 ·unfold CH at h
  refine AG (wq rfl (qm rfl (KI rfl (AT rfl (qa rfl (Ad (wp rfl (qw 2 rfl (D4 rfl (Ad ?_))))))))))
  refine A9 h (fun h => ?_) fun h => ?_
  ·refine AS ?_
   exact sn [] h
  ·refine Al ?_
   refine AP h (fun v4 => mk [(0, oD (.own 90000)), (2, iD p2), (3, iD p3), (4, oD (.clo (CD (GE true Ab true Ab) Dg p4))), (10, iD v1.2), (11, iD v4)] [(90000, .vec 3 (v1.1.map Ab))]) (fun j4 h => ?_) (fun v4 h => ?_)
   ·refine AP h (fun v5 => mk [(0, oD (.own 90000)), (2, iD p2), (3, iD p3), (4, oD (.clo (CD (GE true Ab true Ab) Dg p4))), (10, iD v1.2), (11, iD ((wI .i64 ((wI .i64 (2 * v1.2)) + 1)))), (40, bD v5)] [(90000, .vec 3 (v1.1.map Ab))]) (fun j5 h => ?_) (fun v5 h => ?_)
    ·refine Ai As rfl (qm rfl (AT rfl (qm rfl (AX rfl (qm rfl ?_)))))
     refine E8 23 h rfl (fun h => ?_) fun h => ?_
     ·refine qw 4 rfl (AT rfl ?_)
      refine Bc h fun v7 a7 b7 h => qI AQ AM a7 (Ae b7) rfl (qJ CY AM (Ae b7) rfl (qw 3 rfl (AT rfl (AT rfl ?_))))
      refine Bc h fun v8 a8 b8 h => qI AQ AM a8 (Ae b8) rfl (qJ CY AM (Ae b8) rfl ?_)
      refine BM h fun v9 a9 h => Gk (ds0 := [_, _]) (ar := (GE true Ab true Ab) ((v7, v8))) (.g rfl rfl) rfl rfl ⟨rfl, rfl, tv⟩ rfl rfl rfl (Gg (HK _ _ _ _ A1 A1) a9) ?_
      refine AX rfl (qp rfl (AE (by kernel_rfl) ?_))
      exact sn [] h
     ·refine qw 16 rfl (qp rfl (AE (by kernel_rfl) ?_))
      exact sn [] h
    ·refine A9 h (fun h => ?_) fun h => ?_
     ·refine Ai As rfl (qm rfl (AT rfl (qe rfl ?_)))
      exact sn [] h
     ·refine Al ?_
      exact sn [] h
   ·refine wp rfl (qw 4 rfl (AT rfl ?_))
    refine Bc h fun v11 a11 b11 h => qI AQ AM a11 (Ae b11) rfl (qJ CY AM (Ae b11) rfl (qw 3 rfl (AT rfl ?_)))
    refine Bc h fun v12 a12 b12 h => qI AQ AM a12 (Ae b12) rfl (qJ CY AM (Ae b12) rfl ?_)
    refine BM h fun v13 a13 h => Gk (ds0 := [_, _]) (ar := (GE true Ab true Ab) ((v11, v12))) (.p rfl) rfl rfl ⟨rfl, rfl, tv⟩ rfl rfl rfl (Gg (HK _ _ _ _ A1 A1) a13) ?_
    refine AX rfl (CL rfl (AE (by kernel_rfl) ?_))
    refine A9 h (fun h => ?_) fun h => ?_
    ·obtain rfl := sj h
     refine Ar ⟨_, (sm [] [] [(90000, .vec 3 (v1.1.map Ab))] rfl rfl), ?_⟩
     exact ⟨⟨[], tv, rfl⟩, ⟨rfl, tv⟩, tv⟩
    ·refine Al (wq rfl (qw 3 rfl (AT rfl (qw 3 rfl (AT rfl (qw 3 rfl (AT rfl ?_)))))))
     refine Bc h fun v15 a15 b15 h => qI AQ AM a15 (Ae b15) rfl (qJ CY AM (Ae b15) rfl (qw 3 rfl (AT rfl ?_)))
     refine Bc h fun v16 a16 b16 h => qI AQ AM a16 (Ae b16) rfl (qJ CY AM (Ae b16) rfl ?_)
     refine Bc h fun v17 a17 b17 h => qI AQ AM a17 (Ae b17) rfl ?_
     refine Ba rfl rfl rfl rfl (Ae b17) rfl AM rfl (DY rfl) (A2 Ab v1.1 _ v15) ?_
     refine Bc h fun v18 a18 b18 h => qI AQ AM a18 (Ae b18) rfl ?_
     refine Ba rfl rfl rfl rfl (Ae b18) rfl AM rfl (DY rfl) (A2 Ab (v1.1.set (((wI .i64 (p3 + v1.2))).toNat) v15) _ v16) ?_
     refine AE (by kernel_rfl) (Ai As rfl (qm rfl (qe rfl ?_)))
     exact sn [] h
 ·obtain rfl := sj h
  refine ⟨_, hs.trans (sm [] [] [(90000, .vec 3 (v2.map Ab))] rfl rfl), ?_⟩
  exact ⟨⟨[], tv, rfl⟩, ⟨rfl, tv⟩, tv⟩
theorem Ig (N : Nat) (p0 : List Aa) (p1 : Int) (p2 : Int) (p3 : (Aa × Aa) → Option Int) (r : (List Aa)) (h : Eg N p0 p1 p2 p3 = some r) : B2 Tryz.prog 98 [oD (.own 90000), iD p1, iD p2, oD (.clo (CD (GE true Ab true Ab) Dg p3))] [(.vec 3 (p0.map Ab), .vec 3 (r.map Ab))] [] (.tup []) := by
 unfold Eg at h
 refine Bn (n := 60) (rs := []) Tryz.func98 rfl rfl rfl (DY rfl) (DY rfl) rfl rfl (DY rfl) rfl (DY rfl) fun w0 S0 GL => PI ?_
 refine Ah (sm [] [(0, oD (.own 90000)), (1, iD p1), (2, iD p2), (3, oD (.clo (CD (GE true Ab true Ab) Dg p3)))] [(90000, .vec 3 (p0.map Ab))] rfl rfl) (wq rfl (qm rfl (qa rfl (Ad (wq rfl (qa rfl (Ad (wq rfl (qw 2 rfl (DA rfl (qa rfl (Ad (wp rfl (qm rfl (DA rfl (Qb rfl (by decide) (qe rfl ?_)))))))))))))))))
 refine Ax (L := CF N p1 p2 p3) h (fun v1 => mk [(0, oD (.own 90000)), (3, oD (.clo (CD (GE true Ab true Ab) Dg p3))), (8, iD p1), (9, iD 0), (10, iD ((wI .i64 (p2 - p1)))), (11, iD v1.2)] [(90000, .vec 3 (v1.1.map Ab))]) (fun v2 => mk [(0, oD (.own 90000)), (3, oD (.clo (CD (GE true Ab true Ab) Dg p3))), (8, iD p1), (9, iD 0), (10, iD ((wI .i64 (p2 - p1))))] [(90000, .vec 3 (v2.map Ab))]) (fun _ _ => rfl) (sm [] _ _ rfl rfl) (fun j1 n1 v1 h => ?_) (fun v2 s h hs => ?_)
 ·unfold CF at h
  refine wp rfl (qm rfl (D4 rfl (Ad ?_)))
  refine A9 h (fun h => ?_) fun h => ?_
  ·refine Al (AN (AG (Ai As rfl (qw 5 rfl ?_))))
   refine BM h fun v4 a4 h => DP (ds0 := [_, _, _, _, _]) [90000] [] [true] (F6 N v1.1 v1.2 ((wI .i64 (p2 - p1))) p1 p3 v4 a4) (.p rfl) aX rfl ⟨rfl, rfl, rfl, rfl, rfl, tv⟩ rfl rfl (by decide) ⟨rfl, tv⟩ rfl (Bf rfl) tv ⟨(fun h => by cases h), tv⟩ rfl rfl rfl ?_
   refine Ad (Ai As rfl (qm rfl (DA rfl (qe rfl ?_))))
   exact sn [] h
  ·refine AS ?_
   exact sn [] h
 ·refine Ah hs (wq rfl (qm rfl (DA rfl (qe rfl ?_))))
  refine Ax (L := CG N p1 p3) h (fun v5 => mk [(0, oD (.own 90000)), (3, oD (.clo (CD (GE true Ab true Ab) Dg p3))), (8, iD p1), (9, iD 0), (12, iD v5.2)] [(90000, .vec 3 (v5.1.map Ab))]) (fun v6 => mk [] [(90000, .vec 3 (v6.map Ab))]) (fun _ _ => rfl) (sm [] _ _ rfl rfl) (fun j5 n5 v5 h => ?_) (fun v6 s h hs => ?_)
  ·unfold CG at h
   refine wp rfl (qm rfl (D4 rfl (Ad ?_)))
   refine A9 h (fun h => ?_) fun h => ?_
   ·refine Al (AN (AG (wq rfl (qw 5 rfl (AT rfl (qw 3 rfl (AT rfl ?_)))))))
    refine Bc h fun v8 a8 b8 h => qI AQ AM a8 (Ae b8) rfl (qJ CY AM (Ae b8) rfl (qw 2 rfl ?_))
    refine Bc h fun v9 a9 b9 h => qI AQ AM a9 (Ae b9) rfl (qJ CY AM (Ae b9) rfl ?_)
    refine Bc h fun v10 a10 b10 h => qI AQ AM a10 (Ae b10) rfl ?_
    refine Ba rfl rfl rfl rfl (Ae b10) rfl AM rfl (DY rfl) (A2 Ab v5.1 _ v8) ?_
    refine Bc h fun v11 a11 b11 h => qI AQ AM a11 (Ae b11) rfl ?_
    refine Ba rfl rfl rfl rfl (Ae b11) rfl AM rfl (DY rfl) (A2 Ab (v5.1.set ((p1).toNat) v8) _ v9) ?_
    refine AE (by kernel_rfl) (Ai As rfl (qw 5 rfl ?_))
    refine BM h fun v12 a12 h => DP (ds0 := [_, _, _, _, _]) [90000] [] [true] (F6 N ((v5.1.set ((p1).toNat) v8).set (((wI .i64 (p1 + v5.2))).toNat) v9) 0 v5.2 p1 p3 v12 a12) (.p rfl) aX rfl ⟨rfl, rfl, rfl, rfl, rfl, tv⟩ rfl rfl (by decide) ⟨rfl, tv⟩ rfl (Bf rfl) tv ⟨(fun h => by cases h), tv⟩ rfl rfl rfl ?_
    refine Ad (Ai As rfl (qm rfl (DA rfl (qe rfl ?_))))
    exact sn [] h
   ·refine AS ?_
    exact sn [] h
  ·obtain rfl := sj h
   refine ⟨_, hs.trans (sm [] [] [(90000, .vec 3 (v6.map Ab))] rfl rfl), ?_⟩
   exact ⟨⟨[], tv, rfl⟩, ⟨rfl, tv⟩, tv⟩
theorem Ly (N : Nat) (p0 : Int) (r : Int) (h : G9 N p0 = some r) : Au Tryz.prog 133 [iD p0] [] (pD (.val (.int .u64 r))) := by
 unfold G9 at h
 refine cw (n := 7) (rs := [.tmp 2]) Tryz.func133 fun w0 S0 => ?_
 refine wq rfl (qa rfl (Ad (wq rfl (qm rfl (Je cd Sk rfl ?_)))))
 refine BM h fun v1 a1 h => Az [] (L2 N ((wI .u64 p0)) v1 a1) eo rfl ?_
 refine GK h fun c2 h => JR rfl c2 (qe rfl ?_)
 obtain rfl := sj h
 refine Ah (sm [] [(2, pD (.val (.int .u64 ((DC .u64 1 v1)))))] [] rfl rfl) (Ar ?_)
 exact ⟨⟨[_], tm, rfl⟩, tv⟩
theorem LX (N : Nat) (p0 : Int) (r : Int × Int) (h : Hh N p0 = some r) : B2 Tryz.prog 134 [oD (.ptr 90000 0)] [(.box [.pure (.val (.int .u64 p0))], .box [.pure (.val (.int .u64 r.2))])] [] (pD (.val (.int .u64 r.1))) := by
 unfold Hh at h
 refine Bn (n := 33) (rs := [.tmp 2]) Tryz.func134 rfl rfl rfl (DY rfl) (DY rfl) rfl rfl (DY rfl) rfl (DY rfl) fun w0 S0 GL => ?_
 refine Ah (sm [] [(0, oD (.ptr 90000 0))] [(90000, .box [.pure (.val (.int .u64 p0))])] rfl rfl) (wq rfl (qa rfl (Ad (wq rfl (qm rfl (Rx rfl (ql P5 rfl (qm rfl (Rx rfl (ql P5 rfl (JR rfl (by decide) (YI rfl (Rx rfl (qs Wn rfl (AE (by kernel_rfl) (wq rfl (qm rfl (Rx rfl (ql P5 rfl (qm rfl (Rx rfl (ql P5 rfl (Jf rfl (by decide) (YI rfl (Rx rfl (qs Wn rfl (AE (by kernel_rfl) (wq rfl (qm rfl (Rx rfl (ql P5 rfl (qm rfl (Rx rfl (ql P5 rfl (JR rfl (by decide) ?_)))))))))))))))))))))))))))))))))))
 refine YI rfl (Rx rfl (qs Wn rfl (AE (by kernel_rfl) (wq rfl (qm rfl (Rx rfl (ql P5 rfl (qe rfl ?_))))))))
 obtain rfl := sj h
 refine Ah (sm [] [(2, pD (.val (.int .u64 ((IR .u64 ((IR .u64 ((IR .u64 p0 ((DC .u64 p0 13)))) ((FU .u64 ((IR .u64 p0 ((DC .u64 p0 13)))) 7)))) ((DC .u64 ((IR .u64 ((IR .u64 p0 ((DC .u64 p0 13)))) ((FU .u64 ((IR .u64 p0 ((DC .u64 p0 13)))) 7)))) 17)))))))] [(90000, .box [.pure (.val (.int .u64 ((IR .u64 ((IR .u64 ((IR .u64 p0 ((DC .u64 p0 13)))) ((FU .u64 ((IR .u64 p0 ((DC .u64 p0 13)))) 7)))) ((DC .u64 ((IR .u64 ((IR .u64 p0 ((DC .u64 p0 13)))) ((FU .u64 ((IR .u64 p0 ((DC .u64 p0 13)))) 7)))) 17))))))])] rfl rfl) (Ar ?_)
 exact ⟨⟨[_], tm, rfl⟩, ⟨rfl, tv⟩, tv⟩
theorem Hu (N : Nat) (p0 : List Aa) (p1 : Int) (p2 : Int) (p3 : (Aa × Aa) → Option Int) (r : (List Aa)) (h : DE N p0 p1 p2 p3 = some r) : B2 Tryz.prog 99 [oD (.own 90000), iD p1, iD p2, oD (.clo (CD (GE true Ab true Ab) Dg p3))] [(.vec 3 (p0.map Ab), .vec 3 (r.map Ab))] [] (.tup []) := by
 unfold DE at h
 refine Bn (n := 67) (rs := []) Tryz.func99 rfl rfl rfl (DY rfl) (DY rfl) rfl rfl (DY rfl) rfl (DY rfl) fun w0 S0 GL => PI ?_
 refine Ah (sm [] [(0, oD (.own 90000)), (1, iD p1), (2, iD p2), (3, oD (.clo (CD (GE true Ab true Ab) Dg p3)))] [(90000, .vec 3 (p0.map Ab))] rfl rfl) (wq rfl (qw 2 rfl (DA rfl (qa rfl (Ad (wq rfl (qm rfl (D4 rfl (Ad ?_)))))))))
 refine A9 h (fun h => ?_) fun h => ?_
 ·refine wq rfl (qm rfl (Je cd cD rfl (qz dX rfl (qs Wn rfl (Ad (wq rfl (qm rfl ?_)))))))
  refine BM h fun v2 a2 h => Az [] (Ly N ((wI .i64 (p2 - p1))) v2 a2) cY rfl (qa rfl (Ad (wq rfl (qw 2 rfl (Qb rfl (by decide) (KI rfl (AT rfl (DA rfl (qe rfl ?_)))))))))
  refine Ax (L := B6 N p1 p2 v2) h (fun v3 => mk [(0, oD (.own 90000)), (1, iD p1), (8, iD ((wI .i64 (p2 - p1)))), (9, oD (.ptr 9 0)), (10, pD (.val (.int .u64 v2))), (11, iD v3.2.2)] [(9, .box [.pure (.val (.int .u64 v3.2.1))]), (90000, .vec 3 (v3.1.map Ab))]) (fun v4 => mk [] [(90000, .vec 3 (v4.map Ab))]) (fun _ _ => rfl) (sm [] _ _ rfl rfl) (fun j3 n3 v3 h => ?_) (fun v4 s h hs => ?_)
  ·unfold B6 at h
   refine wp rfl (qw 3 rfl (Qb rfl (by decide) (KI rfl (AT rfl (AT rfl (LE rfl (Ad ?_)))))))
   refine A9 h (fun h => ?_) fun h => ?_
   ·refine Al (AN (AG (wq rfl ?_)))
    refine BM h fun v6 a6 h => DP (ds0 := [_]) [9] [] [true] (LX N v3.2.1 v6 a6) (.p rfl) cF rfl ⟨rfl, tv⟩ rfl rfl (by decide) ⟨rfl, tv⟩ rfl (Bf rfl) tv ⟨(fun h => by cases h), tv⟩ rfl rfl rfl ?_
    refine qm rfl (DA rfl (OE rfl (Je UF X9 rfl (qe rfl ?_))))
    refine AP h (fun v7 => mk [(0, oD (.own 90000)), (1, iD p1), (8, iD ((wI .i64 (p2 - p1)))), (9, oD (.ptr 9 0)), (10, pD (.val (.int .u64 v2))), (11, iD v3.2.2), (12, iD v7)] [(9, .box [.pure (.val (.int .u64 v6.2))]), (90000, .vec 3 (v3.1.map Ab))]) (fun j7 h => ?_) (fun v7 h => ?_)
    ·refine wq rfl (qw 2 rfl (D4 rfl (Ad ?_)))
     refine A9 h (fun h => ?_) fun h => ?_
     ·refine Ai As rfl (qw 2 rfl (DA rfl (qe rfl ?_)))
      exact sn [] h
     ·refine Al ?_
      exact sn [] h
    ·refine Ai As rfl (qw 5 rfl (AT rfl (qw 3 rfl (AT rfl ?_))))
     refine Bc h fun v9 a9 b9 h => qI AQ AM a9 (Ae b9) rfl (qJ CY AM (Ae b9) rfl (qw 2 rfl ?_))
     refine Bc h fun v10 a10 b10 h => qI AQ AM a10 (Ae b10) rfl (qJ CY AM (Ae b10) rfl ?_)
     refine Bc h fun v11 a11 b11 h => qI AQ AM a11 (Ae b11) rfl ?_
     refine Ba rfl rfl rfl rfl (Ae b11) rfl AM rfl (DY rfl) (A2 Ab v3.1 _ v9) ?_
     refine Bc h fun v12 a12 b12 h => qI AQ AM a12 (Ae b12) rfl ?_
     refine Ba rfl rfl rfl rfl (Ae b12) rfl AM rfl (DY rfl) (A2 Ab (v3.1.set ((v3.2.2).toNat) v9) _ v10) ?_
     refine AE (by kernel_rfl) (Ai As rfl (qm rfl (AT rfl (qe rfl ?_))))
     exact sn [] h
   ·refine AS ?_
    exact sn [] h
  ·obtain rfl := sj h
   refine ⟨_, hs.trans (sm [] [] [(90000, .vec 3 (v4.map Ab))] rfl rfl), ?_⟩
   exact ⟨⟨[], tv, rfl⟩, ⟨rfl, tv⟩, tv⟩
 ·refine Al ?_
  obtain rfl := sj h
  refine ⟨_, (sm [] [] [(90000, .vec 3 (p0.map Ab))] rfl rfl), ?_⟩
  exact ⟨⟨[], tv, rfl⟩, ⟨rfl, tv⟩, tv⟩
theorem EO (N : Nat) (p0 : List Aa) (p1 : Int) (p2 : Int) (p3 : Int) (p4 : (Aa × Aa) → Option Int) (r : Int × Int × Int) (h : Cr N p0 p1 p2 p3 p4 = some r) : B2 Tryz.prog 153 [pD (.sl (p0.map Ab)), iD p1, iD p2, oD (.ptr 90000 0), oD (.clo (CD (GE true Ab true Ab) Dg p4))] [(.box [iC p3], .box [iC r.2.2])] [] (.tup [.one (iC r.1), .one (iC r.2.1)]) := by
 unfold Cr at h
 refine Bn (n := 32) (rs := [.tmp 10, .tmp 11]) Tryz.func153 rfl rfl rfl (DY rfl) (DY rfl) rfl rfl (DY rfl) rfl (DY rfl) fun w0 S0 GL => ?_
 refine Ah (sm [] [(0, pD (.sl (p0.map Ab))), (1, iD p1), (2, iD p2), (3, oD (.ptr 90000 0)), (4, oD (.clo (CD (GE true Ab true Ab) Dg p4)))] [(90000, .box [iC p3])] rfl rfl) (wq rfl (qa rfl (qa rfl (Ad (wp rfl (qw 3 rfl ?_))))))
 refine Bc h fun v1 a1 b1 h => qi AQ AM a1 (Ae b1) rfl (qK CY AM rfl (qw 2 rfl ?_))
 refine Bc h fun v2 a2 b2 h => qi AQ AM a2 (Ae b2) rfl (qK CY AM rfl ?_)
 refine BM h fun v3 a3 h => Gk (ds0 := [_, _]) (ar := (GE true Ab true Ab) ((v1, v2))) (.p rfl) rfl rfl ⟨rfl, rfl, tv⟩ rfl rfl rfl (Gg (HK _ _ _ _ A1 A1) a3) ?_
 refine AX rfl (AE (by kernel_rfl) ?_)
 refine A9 h (fun h => ?_) fun h => ?_
 ·refine wq rfl (qm rfl (Rx rfl (ql CN rfl (AT rfl (Rx rfl (qs Ep rfl (Ad (wq rfl (qw 2 rfl (qa rfl (qe rfl ?_)))))))))))
  obtain rfl := sj h
  refine Ah (sm [] [(10, iD p2), (11, iD p1)] [(90000, .box [iC ((wI .i64 (p3 + 1)))])] rfl rfl) (Ar ?_)
  exact ⟨⟨[_, _], ⟨.tmp _ _ rfl, tm⟩, rfl⟩, ⟨rfl, tv⟩, tv⟩
 ·refine Al (wq rfl (qw 2 rfl (qa rfl (qe rfl ?_))))
  obtain rfl := sj h
  refine Ah (sm [] [(10, iD p1), (11, iD p2)] [(90000, .box [iC p3])] rfl rfl) (Ar ?_)
  exact ⟨⟨[_, _], ⟨.tmp _ _ rfl, tm⟩, rfl⟩, ⟨rfl, tv⟩, tv⟩
theorem Gn (N : Nat) (p0 : List Aa) (p1 : Int) (p2 : Int) (p3 : Int) (p4 : Int) (p5 : (Aa × Aa) → Option Int) (r : Int × Int) (h : Dn N p0 p1 p2 p3 p4 p5 = some r) : B2 Tryz.prog 136 [pD (.sl (p0.map Ab)), iD p1, iD p2, iD p3, oD (.ptr 90000 0), oD (.clo (CD (GE true Ab true Ab) Dg p5))] [(.box [iC p4], .box [iC r.2])] [] (iD r.1) := by
 unfold Dn at h
 refine Bn (n := 41) (rs := [.tmp 12]) Tryz.func136 rfl rfl rfl (DY rfl) (DY rfl) rfl rfl (DY rfl) rfl (DY rfl) fun w0 S0 GL => ?_
 refine Ah (sm [] [(0, pD (.sl (p0.map Ab))), (1, iD p1), (2, iD p2), (3, iD p3), (4, oD (.ptr 90000 0)), (5, oD (.clo (CD (GE true Ab true Ab) Dg p5)))] [(90000, .box [iC p4])] rfl rfl) (wq rfl (qa rfl (Ad (wq rfl (qw 5 rfl ?_)))))
 refine BM h fun v1 a1 h => DP (ds0 := [_, _, _, _, _]) [90000] [] [true] (EO N p0 p1 p2 p4 p5 v1 a1) (.p rfl) Yu rfl ⟨rfl, rfl, rfl, rfl, rfl, tv⟩ rfl rfl (by decide) ⟨rfl, tv⟩ rfl (Bf rfl) tv ⟨(fun h => by cases h), tv⟩ rfl rfl rfl ?_
 refine qm rfl (qx rfl (qx rfl (qa rfl (qa rfl (Ad (wq rfl (qw 5 rfl ?_)))))))
 refine BM h fun v2 a2 h => DP (ds0 := [_, _, _, _, _]) [90000] [] [true] (EO N p0 v1.2.1 p3 v1.2.2 p5 v2 a2) (.p rfl) Yu rfl ⟨rfl, rfl, rfl, rfl, rfl, tv⟩ rfl rfl (by decide) ⟨rfl, tv⟩ rfl (Bf rfl) tv ⟨(fun h => by cases h), tv⟩ rfl rfl rfl ?_
 refine qm rfl (qx rfl (qx rfl (qa rfl (qa rfl (Ad (wq rfl (qw 5 rfl ?_)))))))
 refine BM h fun v3 a3 h => DP (ds0 := [_, _, _, _, _]) [90000] [] [true] (EO N p0 v1.1 v2.1 v2.2.2 p5 v3 a3) (.p rfl) Yu rfl ⟨rfl, rfl, rfl, rfl, rfl, tv⟩ rfl rfl (by decide) ⟨rfl, tv⟩ rfl (Bf rfl) tv ⟨(fun h => by cases h), tv⟩ rfl rfl rfl ?_
 refine qm rfl (qx rfl (qx rfl (qa rfl (qa rfl (Ad (wq rfl (qm rfl (qe rfl ?_))))))))
 obtain rfl := sj h
 refine Ah (sm [] [(12, iD v3.2.1)] [(90000, .box [iC v3.2.2])] rfl rfl) (Ar ?_)
 exact ⟨⟨[_], tm, rfl⟩, ⟨rfl, tv⟩, tv⟩
theorem DF (N : Nat) (p0 : List Aa) (p1 : Int) (p2 : Int) (p3 : (Aa × Aa) → Option Int) (r : Int × Int) (h : BC N p0 p1 p2 p3 = some r) : B2 Tryz.prog 135 [pD (.sl (p0.map Ab)), iD p1, oD (.ptr 90000 0), oD (.clo (CD (GE true Ab true Ab) Dg p3))] [(.box [iC p2], .box [iC r.2])] [] (iD r.1) := by
 unfold BC at h
 refine Bn (n := 18) (rs := [.tmp 8]) Tryz.func135 rfl rfl rfl (DY rfl) (DY rfl) rfl rfl (DY rfl) rfl (DY rfl) fun w0 S0 GL => ?_
 refine Ah (sm [] [(0, pD (.sl (p0.map Ab))), (1, iD p1), (2, oD (.ptr 90000 0)), (3, oD (.clo (CD (GE true Ab true Ab) Dg p3)))] [(90000, .box [iC p2])] rfl rfl) (wq rfl (qa rfl (Ad (wq rfl (qw 2 rfl (DA rfl (qw 2 rfl (AT rfl (qw 2 rfl ?_)))))))))
 refine BM h fun v1 a1 h => DP (ds0 := [_, _, _, _, _, _]) [90000] [] [true] (Gn N p0 ((wI .i64 (p1 - 1))) p1 ((wI .i64 (p1 + 1))) p2 p3 v1 a1) (.p rfl) aM rfl ⟨rfl, rfl, rfl, rfl, rfl, rfl, tv⟩ rfl rfl (by decide) ⟨rfl, tv⟩ rfl (Bf rfl) tv ⟨(fun h => by cases h), tv⟩ rfl rfl rfl ?_
 refine qa rfl (Ad ?_)
 obtain rfl := sj h
 refine Ah (sm [] [(8, iD v1.1)] [(90000, .box [iC v1.2])] rfl rfl) (Ar ?_)
 exact ⟨⟨[_], tm, rfl⟩, ⟨rfl, tv⟩, tv⟩
theorem HF (N : Nat) (p0 : List Aa) (p1 : Int) (p2 : Int) (p3 : (Aa × Aa) → Option Int) (r : Int × Int) (h : DW N p0 p1 p2 p3 = some r) : Au Tryz.prog 100 [pD (.sl (p0.map Ab)), iD p1, iD p2, oD (.clo (CD (GE true Ab true Ab) Dg p3))] [] (.tup [.one (iC r.1), .one (iC r.2)]) := by
 unfold DW at h
 refine cw (n := 63) (rs := [.tmp 8, .tmp 9]) Tryz.func100 fun w0 S0 => ?_
 refine wq rfl (qa rfl (qa rfl (Ad (wq rfl (qw 2 rfl (DA rfl (qa rfl (Ad (wq rfl (qz LG rfl (Ad (wq rfl (qw 2 rfl (Qb rfl (by decide) (KI rfl (AT rfl (qa rfl (Ad (wq rfl (qw 2 rfl (Qb rfl (by decide) (KI rfl (AT rfl (qa rfl (Ad (wq rfl (qw 2 rfl (Qb rfl (by decide) (KI rfl ?_)))))))))))))))))))))))))))))
 refine AT rfl (qe rfl ?_)
 refine AP h (fun v1 => mk [(11, oD (.ptr 11 0)), (13, iD v1.2)] [(11, .box [iC v1.1])]) (fun j1 h => ?_) (fun v1 h => ?_)
 ·refine wq rfl (qm rfl (D4 rfl (Ad ?_)))
  refine A9 h (fun h => ?_) fun h => ?_
  ·refine AP h (fun v3 => mk [(0, pD (.sl (p0.map Ab))), (3, oD (.clo (CD (GE true Ab true Ab) Dg p3))), (11, oD (.ptr 11 0)), (12, iD v3.2.1), (13, iD v3.2.2.1), (14, iD v3.2.2.2)] [(11, .box [iC v3.1])]) (fun j3 h => ?_) (fun v3 h => ?_)
   ·refine wq rfl (qm rfl (D4 rfl (Ad ?_)))
    refine A9 h (fun h => ?_) fun h => ?_
    ·refine wq rfl (qw 3 rfl ?_)
     refine BM h fun v5 a5 h => DP (ds0 := [_, _, _, _]) [11] [] [true] (DF N p0 ((wI .i64 (p1 + (wI .i64 ((wI .i64 (Int.tdiv ((wI .i64 (p2 - p1))) 4)) * 1))))) 0 p3 v5 a5) (.p rfl) YV rfl ⟨rfl, rfl, rfl, rfl, tv⟩ rfl rfl (by decide) ⟨rfl, tv⟩ rfl (Bf rfl) tv ⟨(fun h => by cases h), tv⟩ rfl rfl rfl ?_
     refine qa rfl (Ad (wq rfl (qw 3 rfl ?_)))
     refine BM h fun v6 a6 h => DP (ds0 := [_, _, _, _]) [11] [] [true] (DF N p0 ((wI .i64 (p1 + (wI .i64 ((wI .i64 (Int.tdiv ((wI .i64 (p2 - p1))) 4)) * 2))))) v5.2 p3 v6 a6) (.p rfl) YV rfl ⟨rfl, rfl, rfl, rfl, tv⟩ rfl rfl (by decide) ⟨rfl, tv⟩ rfl (Bf rfl) tv ⟨(fun h => by cases h), tv⟩ rfl rfl rfl ?_
     refine qa rfl (Ad (Ai As rfl (qw 3 rfl ?_)))
     refine BM h fun v7 a7 h => DP (ds0 := [_, _, _, _]) [11] [] [true] (DF N p0 ((wI .i64 (p1 + (wI .i64 ((wI .i64 (Int.tdiv ((wI .i64 (p2 - p1))) 4)) * 3))))) v6.2 p3 v7 a7) (.p rfl) YV rfl ⟨rfl, rfl, rfl, rfl, tv⟩ rfl rfl (by decide) ⟨rfl, tv⟩ rfl (Bf rfl) tv ⟨(fun h => by cases h), tv⟩ rfl rfl rfl ?_
     refine qa rfl (Ad ?_)
     exact sn [] h
    ·refine Al ?_
     exact sn [] h
   ·refine Ai As rfl (qw 5 rfl ?_)
    refine BM h fun v8 a8 h => DP (ds0 := [_, _, _, _, _, _]) [11] [] [true] (Gn N p0 v3.2.1 v3.2.2.1 v3.2.2.2 v3.1 p3 v8 a8) (.p rfl) aM rfl ⟨rfl, rfl, rfl, rfl, rfl, rfl, tv⟩ rfl rfl (by decide) ⟨rfl, tv⟩ rfl (Bf rfl) tv ⟨(fun h => by cases h), tv⟩ rfl rfl rfl ?_
    refine qa rfl (Ad ?_)
    exact sn [] h
  ·refine Al ?_
   exact sn [] h
 ·refine wq rfl (ql CN rfl (Ad (AG (wq rfl (BZ rfl (qe rfl ?_))))))
  refine A9 h (fun h => ?_) fun h => ?_
  ·refine wq rfl (qm rfl (qa rfl (qe rfl ?_)))
   obtain rfl := sj h
   refine Ah (sm [] [(8, iD v1.2), (9, iD 1)] [] rfl rfl) (Ar ?_)
   exact ⟨⟨[_, _], ⟨.tmp _ _ rfl, tm⟩, rfl⟩, tv⟩
  ·refine wq rfl (BZ rfl (qe rfl ?_))
   refine A9 h (fun h => ?_) fun h => ?_
   ·refine wq rfl (qm rfl (qa rfl (qe rfl ?_)))
    obtain rfl := sj h
    refine Ah (sm [] [(8, iD v1.2), (9, iD 2)] [] rfl rfl) (Ar ?_)
    exact ⟨⟨[_, _], ⟨.tmp _ _ rfl, tm⟩, rfl⟩, tv⟩
   ·refine wq rfl (qm rfl (qa rfl (qe rfl ?_)))
    obtain rfl := sj h
    refine Ah (sm [] [(8, iD v1.2), (9, iD 0)] [] rfl rfl) (Ar ?_)
    exact ⟨⟨[_, _], ⟨.tmp _ _ rfl, tm⟩, rfl⟩, tv⟩
theorem HA (N : Nat) (p0 : List Aa) (p1 : Int) (p2 : Int) (p3 : (Aa × Aa) → Option Int) (r : (List Aa)) (h : DS N p0 p1 p2 p3 = some r) : B2 Tryz.prog 101 [oD (.own 90000), iD p1, iD p2, oD (.clo (CD (GE true Ab true Ab) Dg p3))] [(.vec 3 (p0.map Ab), .vec 3 (r.map Ab))] [] (.tup []) := by
 unfold DS at h
 refine Bn (n := 34) (rs := []) Tryz.func101 rfl rfl rfl (DY rfl) (DY rfl) rfl rfl (DY rfl) rfl (DY rfl) fun w0 S0 GL => PI ?_
 refine Ah (sm [] [(0, oD (.own 90000)), (1, iD p1), (2, iD p2), (3, oD (.clo (CD (GE true Ab true Ab) Dg p3)))] [(90000, .vec 3 (p0.map Ab))] rfl rfl) (wq rfl (qm rfl (qa rfl (Ad (wq rfl (qm rfl (DA rfl (qe rfl ?_))))))))
 refine Ax (L := Cc N) h (fun v1 => mk [(0, oD (.own 90000)), (8, iD v1.2.1), (9, iD v1.2.2)] [(90000, .vec 3 (v1.1.map Ab))]) (fun v2 => mk [] [(90000, .vec 3 (v2.map Ab))]) (fun _ _ => rfl) (sm [] _ _ rfl rfl) (fun j1 n1 v1 h => ?_) (fun v2 s h hs => ?_)
 ·unfold Cc at h
  refine wp rfl (qw 2 rfl (AX rfl (Ad ?_)))
  refine A9 h (fun h => ?_) fun h => ?_
  ·refine Al (AG (wq rfl (qw 6 rfl ?_)))
   refine Bc h fun v4 a4 b4 h => qI AQ AM a4 (Ae b4) rfl (qJ CY AM (Ae b4) rfl (qw 2 rfl ?_))
   refine Bc h fun v5 a5 b5 h => qI AQ AM a5 (Ae b5) rfl (qJ CY AM (Ae b5) rfl ?_)
   refine Bc h fun v6 a6 b6 h => qI AQ AM a6 (Ae b6) rfl ?_
   refine Ba rfl rfl rfl rfl (Ae b6) rfl AM rfl (DY rfl) (A2 Ab v1.1 _ v4) ?_
   refine Bc h fun v7 a7 b7 h => qI AQ AM a7 (Ae b7) rfl ?_
   refine Ba rfl rfl rfl rfl (Ae b7) rfl AM rfl (DY rfl) (A2 Ab (v1.1.set ((v1.2.1).toNat) v4) _ v5) ?_
   refine AE (by kernel_rfl) (wq rfl (qm rfl (AT rfl (qa rfl (Ad (Ai As rfl (qm rfl (DA rfl (qe rfl ?_)))))))))
   exact sn [] h
  ·refine AS ?_
   exact sn [] h
 ·obtain rfl := sj h
  refine ⟨_, hs.trans (sm [] [] [(90000, .vec 3 (v2.map Ab))] rfl rfl), ?_⟩
  exact ⟨⟨[], tv, rfl⟩, ⟨rfl, tv⟩, tv⟩
end Go.Lift
