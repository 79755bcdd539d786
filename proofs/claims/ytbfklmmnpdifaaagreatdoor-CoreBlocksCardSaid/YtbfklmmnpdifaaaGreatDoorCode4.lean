/- Lemmas for CoreBlocksCardSaid, which YtbfklmmnpdifaaaGreatDoorFinC3 proves. -/
import Derived.Test.YtbfklmmnpdifaaaGreatDoorCode1
open Int renaming tdiv → x8
open List renaming map_eq_nil_iff → uQ, replicate → zG
open Nat renaming zero_add → zC
open Go.Proofs.Tryz renaming prog → zA
namespace Go.Lift
open IntKind renaming wrap → wI
set_option maxRecDepth 10000
open Go.RowKit
open Go.Proofs
theorem H2 (N : Nat) (p0 : Aa) (p1 : Ad) (r : Int) (h : DW N p0 p1 = some r) : An zA 90 [.e (.agg (Ah p0)), .e (.agg (AL p1))] [] (iD r) := by
 unfold DW at h
 refine cw (n := 154) (rs := [.tmp 4]) Tryz.func90 fun w0 S0 => ?_
 refine wq rfl (qb rfl (qb rfl (qa rfl (Ab (wp rfl (qL Dk Cg rfl ?_))))))
 refine Bq h fun v1 a1 h => Ax [] (ET N p0 v1 a1) Zc rfl (qa rfl (Ab (wq rfl (qm rfl (BB rfl (Ab ?_))))))
 refine A7 h (fun h => ?_) fun h => ?_
 ·refine wq rfl (qm rfl (qe rfl ?_))
  obtain rfl := sj h
  refine Af (sm [] [(4, iD v1)] [] rfl rfl) (Aq ?_)
  exact ⟨⟨[_], tm, rfl⟩, tv⟩
 ·refine Ai (wq rfl (qf Bf rfl (ql A6 rfl (AO Au rfl (qa rfl (Ab (AK ?_)))))))
  refine AN h (fun v3 => mk [(2, oD (.ptr 2 0)), (3, oD (.ptr 3 0)), (6, iD ((p0.fb.length : Int))), (39, bD v3)] [(2, .box (Ah p0)), (3, .box (AL p1))]) (fun j3 h => ?_) (fun v3 h => ?_)
  ·refine Ag As rfl (qf Dn rfl (ql A6 rfl (AO Au rfl (qm rfl (BB rfl (qm rfl ?_))))))
   refine EM 24 h rfl (fun h => ?_) fun h => ?_
   ·refine qw 5 rfl (qp rfl (qw 8 rfl (qp rfl (Ab ?_))))
    exact sn [] h
   ·refine qf BO rfl (ql A6 rfl (AO Au rfl (qm rfl (BB rfl (qp rfl (qm rfl ?_))))))
    refine EM 31 h rfl (fun h => ?_) fun h => ?_
    ·refine qw 7 rfl (qp rfl (Ab ?_))
     exact sn [] h
    ·refine qf Do rfl (ql IN rfl (AO EF rfl (qf Cs rfl (ql HN rfl (AO DT rfl (BB rfl (qp rfl (Ab ?_))))))))
     exact sn [] h
  ·refine A7 h (fun h => ?_) fun h => ?_
   ·refine wq rfl (qe rfl ?_)
    obtain rfl := sj h
    refine Af (sm [] [(4, iD 6)] [] rfl rfl) (Aq ?_)
    exact ⟨⟨[_], tm, rfl⟩, tv⟩
   ·refine Ai (wp rfl (qe rfl ?_))
    refine Ay (L := Cw N p0 p1) h (fun v7 => mk [(2, oD (.ptr 2 0)), (3, oD (.ptr 3 0)), (6, iD ((p0.fb.length : Int))), (7, iD v7)] [(2, .box (Ah p0)), (3, .box (AL p1))]) (fun v8 => mk [(2, oD (.ptr 2 0)), (3, oD (.ptr 3 0))] [(2, .box (Ah p0)), (3, .box (AL p1))]) (fun _ _ => rfl) (sm [] _ _ rfl rfl) (fun j7 n7 v7 h => ?_) (fun v8 s h hs => ?_)
    ·unfold Cw at h
     refine wp rfl (qw 2 rfl (AV rfl (Ab ?_)))
     refine A7 h (fun h => ?_) fun h => ?_
     ·refine Ai (AK (AF (AK ?_)))
      refine AN h (fun v10 => mk [(2, oD (.ptr 2 0)), (3, oD (.ptr 3 0)), (6, iD ((p0.fb.length : Int))), (7, iD v7), (84, bD v10)] [(2, .box (Ah p0)), (3, .box (AL p1))]) (fun j10 h => ?_) (fun v10 h => ?_)
      ·refine Ag As rfl (qf Dn rfl (ql A6 rfl (qm rfl ?_)))
       refine Bb h fun v11 a11 b11 h => qi Au CP a11 (Ac b11) rfl (qk B4 rfl (AV rfl (qm rfl ?_)))
       refine EM 51 h rfl (fun h => ?_) fun h => ?_
       ·refine qw 11 rfl (qp rfl (qw 7 rfl (qp rfl (qw 12 rfl (qp rfl (AD (by kernel_rfl) ?_))))))
        exact sn [] h
       ·refine qf Dn rfl (ql A6 rfl (qm rfl ?_))
        refine Bb h fun v13 a13 b13 h => qi Au CP a13 (Ac b13) rfl (qk B4 rfl (qf Bf rfl (ql A6 rfl (qm rfl ?_))))
        refine Bb h fun v14 a14 b14 h => qi Au CP a14 (Ac b14) rfl (qk B4 rfl (Df rfl (qp rfl (qm rfl ?_))))
        refine EM 64 h rfl (fun h => ?_) fun h => ?_
        ·refine qw 6 rfl (qp rfl (qw 12 rfl (qp rfl (AD (by kernel_rfl) ?_))))
         exact sn [] h
        ·refine qf BO rfl (ql A6 rfl (qm rfl ?_))
         refine Bb h fun v16 a16 b16 h => qi Au CP a16 (Ac b16) rfl (qk B4 rfl (AV rfl (qp rfl (qm rfl ?_))))
         refine EM 72 h rfl (fun h => ?_) fun h => ?_
         ·refine qw 11 rfl (qp rfl (AD (by kernel_rfl) ?_))
          exact sn [] h
         ·refine qf BO rfl (ql A6 rfl (qm rfl ?_))
          refine Bb h fun v18 a18 b18 h => qi Au CP a18 (Ac b18) rfl (qk B4 rfl (qf Bf rfl (ql A6 rfl (qm rfl ?_))))
          refine Bb h fun v19 a19 b19 h => qi Au CP a19 (Ac b19) rfl (qk B4 rfl (Df rfl (qp rfl (AD (by kernel_rfl) ?_))))
          exact sn [] h
      ·refine A7 h (fun h => ?_) fun h => ?_
       ·refine wq rfl (qe rfl ?_)
        obtain rfl := sj h
        refine Af (sm [] [(4, iD 7)] [] rfl rfl) (Aq ?_)
        exact ⟨⟨[_], tm, rfl⟩, tv⟩
       ·refine Ai (wq rfl (qf Dn rfl (ql A6 rfl (qm rfl ?_))))
        refine Bb h fun v21 a21 b21 h => qi Au CP a21 (Ac b21) rfl (qk B4 rfl (qf BO rfl (ql A6 rfl (qm rfl ?_))))
        refine Bb h fun v22 a22 b22 h => qi Au CP a22 (Ac b22) rfl (qk B4 rfl (B9 rfl (AD (by kernel_rfl) ?_)))
        refine A7 h (fun h => ?_) fun h => ?_
        ·refine wq rfl (qe rfl ?_)
         obtain rfl := sj h
         refine Af (sm [] [(4, iD 1)] [] rfl rfl) (Aq ?_)
         exact ⟨⟨[_], tm, rfl⟩, tv⟩
        ·refine Ai (Ag As rfl (qm rfl (AP rfl (qe rfl ?_))))
         exact sn [] h
     ·refine AQ ?_
      exact sn [] h
    ·refine Af hs (wp rfl (qe rfl ?_))
     refine Ay (L := Cl N p0 p1) h (fun v24 => mk [(2, oD (.ptr 2 0)), (3, oD (.ptr 3 0)), (8, iD v24)] [(2, .box (Ah p0)), (3, .box (AL p1))]) (fun v25 => mk [] []) (fun _ _ => rfl) (sm [] _ _ rfl rfl) (fun j24 n24 v24 h => ?_) (fun v25 s h hs => ?_)
     ·unfold Cl at h
      refine wp rfl (qm rfl (qf Cs rfl (ql HN rfl (AO DT rfl (AV rfl (Ab ?_))))))
      refine A7 h (fun h => ?_) fun h => ?_
      ·refine Ai (AK (AF (wq rfl (qf Cs rfl (ql HN rfl (qm rfl ?_))))))
       refine Bb h fun v27 a27 b27 h => qi DT DM a27 (Ac b27) rfl (qK Hy DM rfl (qz JS rfl (qs DM rfl (Ab (wq rfl (qf Bf rfl (ql A6 rfl (qf DA rfl (ql B4 rfl ?_)))))))))
       refine Bb h fun v28 a28 b28 h => qi Au CP a28 (Ac b28) rfl (qk B4 rfl ?_)
       refine Gg h fun c29 h => I5 rfl c29 (Cy rfl (qe rfl ?_))
       refine AN h (fun v30 => mk [(2, oD (.ptr 2 0)), (3, oD (.ptr 3 0)), (8, iD v24), (153, bD v30)] [(2, .box (Ah p0)), (3, .box (AL p1))]) (fun j30 h => ?_) (fun v30 h => ?_)
       ·refine Ag As rfl (qL Hy DM rfl ?_)
        refine Bq h fun v31 a31 h => Ax [] (CD N v27 v31 a31) Sy rfl (Cc rfl (qm rfl ?_))
        refine EM 119 h rfl (fun h => ?_) fun h => ?_
        ·refine qf Do rfl (ql IN rfl (qm rfl ?_))
         refine Bb h fun v33 a33 b33 h => qi EF Fh a33 (Ac b33) rfl (qk JE rfl (BB rfl (qp rfl (qm rfl ?_))))
         refine EM 127 h rfl (fun h => ?_) fun h => ?_
         ·refine qw 3 rfl (qu rfl (qu rfl (qu rfl (qu rfl (qu rfl (qu rfl (qu rfl (qu rfl (qu rfl (qu rfl (qu rfl (qu rfl (qu rfl (qu rfl (qu rfl (qu rfl (qu rfl (qu rfl (qu rfl (qu rfl (qu rfl (qn rfl (qp rfl (AD (by kernel_rfl) ?_))))))))))))))))))))))))
          exact sn [] h
         ·refine qL Hy DM rfl ?_
          refine Bq h fun v35 a35 h => Ax [] (CD N v27 v35 a35) Sy rfl (qm rfl ?_)
          refine EM 130 h rfl (fun h => ?_) fun h => ?_
          ·refine qf Do rfl (ql IN rfl (qm rfl ?_))
           refine Bb h fun v37 a37 b37 h => qi EF Fh a37 (Ac b37) rfl (qk JE rfl (qm rfl (I3 rfl (BB rfl (qm rfl ?_)))))
           refine EM 139 h rfl (fun h => ?_) fun h => ?_
           ·refine qw 11 rfl (qp rfl (qp rfl (qp rfl (AD (by kernel_rfl) ?_))))
            exact sn [] h
           ·refine qL Ca A9 rfl (qf DA rfl (ql B4 rfl ?_))
            refine Bq h fun v39 a39 h => Ax [] (E7 N p1 v27.fg v39 a39) Xp rfl (qf Do rfl (ql IN rfl (qm rfl ?_)))
            refine Bb h fun v40 a40 b40 h => qi EF Fh a40 (Ac b40) rfl (qk JE rfl (I3 rfl (BB rfl (qp rfl (qp rfl (qp rfl (AD (by kernel_rfl) ?_)))))))
            exact sn [] h
          ·refine qw 9 rfl (qu rfl (qu rfl (qu rfl (qu rfl (qu rfl (qu rfl (qu rfl (qu rfl (qu rfl (qu rfl (qu rfl (qn rfl (qp rfl (qp rfl (AD (by kernel_rfl) ?_)))))))))))))))
           exact sn [] h
        ·refine qw 6 rfl (qp rfl (qm rfl (qL Hy DM rfl ?_)))
         refine Bq h fun v41 a41 h => Ax [] (CD N v27 v41 a41) Sy rfl (qm rfl ?_)
         refine EM 130 h rfl (fun h => ?_) fun h => ?_
         ·refine qf Do rfl (ql IN rfl (qm rfl ?_))
          refine Bb h fun v43 a43 b43 h => qi EF Fh a43 (Ac b43) rfl (qk JE rfl (qm rfl (I3 rfl (BB rfl (qm rfl ?_)))))
          refine EM 139 h rfl (fun h => ?_) fun h => ?_
          ·refine qw 11 rfl (qp rfl (qp rfl (qp rfl (AD (by kernel_rfl) ?_))))
           exact sn [] h
          ·refine qL Ca A9 rfl (qf DA rfl (ql B4 rfl ?_))
           refine Bq h fun v45 a45 h => Ax [] (E7 N p1 v27.fg v45 a45) Xp rfl (qf Do rfl (ql IN rfl (qm rfl ?_)))
           refine Bb h fun v46 a46 b46 h => qi EF Fh a46 (Ac b46) rfl (qk JE rfl (I3 rfl (BB rfl (qp rfl (qp rfl (qp rfl (AD (by kernel_rfl) ?_)))))))
           exact sn [] h
         ·refine qw 9 rfl (qu rfl (qu rfl (qu rfl (qu rfl (qu rfl (qu rfl (qu rfl (qu rfl (qu rfl (qu rfl (qu rfl (qn rfl (qp rfl (qp rfl (AD (by kernel_rfl) ?_)))))))))))))))
          exact sn [] h
       ·refine A7 h (fun h => ?_) fun h => ?_
        ·refine wq rfl (qe rfl ?_)
         obtain rfl := sj h
         refine Af (sm [] [(4, iD 1)] [] rfl rfl) (Aq ?_)
         exact ⟨⟨[_], tm, rfl⟩, tv⟩
        ·refine Ai (Ag As rfl (qm rfl (AP rfl (qe rfl ?_))))
         exact sn [] h
      ·refine AQ ?_
       exact sn [] h
     ·refine Af hs (wq rfl (qe rfl ?_))
      obtain rfl := sj h
      refine Af (sm [] [(4, iD 0)] [] rfl rfl) (Aq ?_)
      exact ⟨⟨[_], tm, rfl⟩, tv⟩
theorem MZ (N : Nat) (p0 : Ae) (r : Bool) (h : Fr N p0 = some r) : An zA 133 [.e (.agg (DX p0))] [] (bD r) := by
 unfold Fr at h
 refine cw (n := 31) (rs := [.tmp 2]) Tryz.func133 fun w0 S0 => ?_
 refine wq rfl (qb rfl (qe rfl ?_))
 refine AN h (fun v1 => mk [(2, bD v1)] []) (fun j1 h => ?_) (fun v1 h => ?_)
 ·refine Ag As rfl (qf G7 rfl (ql B4 rfl (Df rfl (qm rfl ?_))))
  refine EM 6 h rfl (fun h => ?_) fun h => ?_
  ·refine qf G7 rfl (ql B4 rfl (L2 rfl (qp rfl (qm rfl ?_))))
   refine EM 11 h rfl (fun h => ?_) fun h => ?_
   ·refine qf F8 rfl (ql B4 rfl (Df rfl (qp rfl (qm rfl ?_))))
    refine EM 16 h rfl (fun h => ?_) fun h => ?_
    ·refine qf Ij rfl (ql B4 rfl (Df rfl (qp rfl (qm rfl ?_))))
     refine EM 21 h rfl (fun h => ?_) fun h => ?_
     ·refine qf G7 rfl (ql B4 rfl (B9 rfl (qm rfl ?_)))
      refine EM 25 h rfl (fun h => ?_) fun h => ?_
      ·refine qw 3 rfl (qp rfl (qp rfl (qe rfl ?_)))
       exact sn [] h
      ·refine qf Ij rfl (ql B4 rfl (B9 rfl (qp rfl (qp rfl (qe rfl ?_)))))
       exact sn [] h
     ·refine qw 4 rfl (qu rfl (qu rfl (qu rfl (qn rfl (qp rfl (qe rfl ?_))))))
      exact sn [] h
    ·refine qw 3 rfl (qp rfl (qw 5 rfl (qu rfl (qu rfl (qu rfl (qn rfl (qp rfl (qe rfl ?_))))))))
     exact sn [] h
   ·refine qw 3 rfl (qp rfl (qw 4 rfl (qp rfl (qw 5 rfl (qu rfl (qu rfl (qu rfl (qn rfl (qp rfl (qe rfl ?_))))))))))
    exact sn [] h
  ·refine qw 3 rfl (qp rfl (qw 4 rfl (qp rfl (qw 4 rfl (qp rfl (qw 5 rfl (qu rfl (qu rfl (qu rfl (qn rfl (qp rfl (qe rfl ?_))))))))))))
   exact sn [] h
 ·obtain rfl := sj h
  refine Af (sm [] [(2, bD v1)] [] rfl rfl) (Aq ?_)
  exact ⟨⟨[_], tm, rfl⟩, tv⟩
theorem J2 (N : Nat) (p0 : Aa) (p1 : Ad) (p2 : Ae) (r : Ad × Bool) (h : Dj N p0 p1 p2 = some r) : An zA 62 [.e (.agg (Ah p0)), .e (.agg (AL p1)), .e (.agg (DX p2))] [(1, r.1.fd.map Ak), (1, r.1.fa.map Ak), (1, r.1.fe.map Ex)] (.tup [.agg [.own 0, .own 1, .own 2], .one (.pure (.val (.bool r.2)))]) := by
 unfold Dj at h
 refine cw (n := 201) (rs := [.cell 6 49, .tmp 7]) Tryz.func62 fun w0 S0 => ?_
 refine wq rfl (qb rfl (qb rfl (qb rfl (qz Fc rfl (qa rfl (Ab (wq rfl (DQ Au CP JH rfl (qf Dn rfl (ql A6 rfl ?_))))))))))
 refine Gg h fun c1 h => JV (f := Ak) Au Au CP KS JH (fun _ => rfl) c1 rfl (DQ Au CP JH rfl (qf BO rfl (ql A6 rfl ?_)))
 refine Gg h fun c2 h => JV (f := Ak) Au Au CP KS JH (fun _ => rfl) c2 rfl (DQ EF Fh NH rfl (qf Do rfl (ql IN rfl ?_)))
 refine Gg h fun c3 h => JV (f := Ex) EF EF Fh PN NH (fun _ => rfl) c3 rfl (Bp Fc Ke rfl (qz Fc rfl (qs A9 rfl (AD (by kernel_rfl) (wq rfl (qf F8 rfl (ql B4 rfl (qe rfl ?_))))))))
 refine AN h (fun v4 => mk [(6, oD (.ptr 6 0)), (8, oD (.ptr 8 0))] [(6, .box [.pure (.nil0), .pure (.nil0), .pure (.nil0)]), (8, .box [.own 2001, .own 2002, .own 2003]), (2001, .vec 1 (v4.1.map Ak)), (2002, .vec 1 (v4.2.1.map Ak)), (2003, .vec 1 (v4.2.2.map Ex))]) (fun j4 h => ?_) (fun v4 h => ?_)
 ·refine wq rfl (qf G7 rfl (ql B4 rfl (Ab (AF (wq rfl (B9 rfl (qe rfl ?_)))))))
  refine A7 h (fun h => ?_) fun h => ?_
  ·refine AK ?_
   refine AN h (fun v6 => mk [(3, oD (.ptr 3 0)), (5, oD (.ptr 5 0)), (6, oD (.ptr 6 0)), (8, oD (.ptr 8 0)), (9, iD p2.fh), (60, bD v6)] [(3, .box (Ah p0)), (5, .box (DX p2)), (6, .box [.pure (.nil0), .pure (.nil0), .pure (.nil0)]), (8, .box [.own 2004, .own 2005, .own 2006]), (2004, .vec 1 (((([] : List Int)) ++ p1.fd).map Ak)), (2005, .vec 1 (((([] : List Int)) ++ p1.fa).map Ak)), (2006, .vec 1 (((([] : List Int)) ++ p1.fe).map Ex))]) (fun j6 h => ?_) (fun v6 h => ?_)
   ·refine Ag As rfl (qf BO rfl (ql A6 rfl (qm rfl ?_)))
    refine Bb h fun v7 a7 b7 h => qi Au CP a7 (Ac b7) rfl (qk B4 rfl (Df rfl (qm rfl ?_)))
    refine EM 51 h rfl (fun h => ?_) fun h => ?_
    ·refine qw 8 rfl (qp rfl (AD (by kernel_rfl) ?_))
     exact sn [(2004, 18), (2005, 22), (2006, 26)] h
    ·refine qf Ij rfl (ql B4 rfl (qf Dn rfl (ql A6 rfl (qm rfl ?_))))
     refine Bb h fun v9 a9 b9 h => qi Au CP a9 (Ac b9) rfl (qk B4 rfl (B9 rfl (qp rfl (AD (by kernel_rfl) ?_))))
     exact sn [(2004, 18), (2005, 22), (2006, 26)] h
   ·refine A7 h (fun h => ?_) fun h => ?_
    ·refine wq rfl (Bp Fc Ke rfl (qs A9 rfl (qe rfl ?_)))
     obtain rfl := sj h
     refine Af ((Ar 6 0 2007 1 _ rfl rfl rfl rfl).trans ((Ar 6 1 2008 1 _ rfl rfl rfl rfl).trans ((Ar 6 2 2009 1 _ rfl rfl rfl rfl).trans (sm [(1000, 2007), (1001, 2008), (1002, 2009)] [(6, oD (.ptr 6 0)), (7, bD false)] [(6, .box [.own 1000, .own 1001, .own 1002]), (1000, .vec 1 ((([] : List Int)).map Ak)), (1001, .vec 1 ((([] : List Int)).map Ak)), (1002, .vec 1 ((([] : List Int)).map Ex))] rfl rfl)))) (Aq ?_)
     exact ⟨⟨[_, _], ⟨.cellN _ _ _ _ _ _ _ rfl rfl Ca A9 rfl rfl (Kn rfl), tm⟩, rfl⟩, ⟨rfl, rfl, rfl, tv⟩⟩
    ·refine Ai (wq rfl (qf BO rfl (ql A6 rfl (qm rfl (qf Ij rfl (ql B4 rfl ?_))))))
     refine Bb h fun v11 a11 b11 h => qI Au CP a11 (Ac b11) rfl ?_
     refine A8 rfl rfl rfl rfl (Ac b11) rfl CP rfl (D8 rfl) (A5 Ak ((([] : List Int)) ++ p1.fa) _ p2.fo) ?_
     refine Ab (wq rfl (qe rfl ?_))
     refine Ay (L := Cj N p0 p2) h (fun v12 => mk [(3, oD (.ptr 3 0)), (5, oD (.ptr 5 0)), (6, oD (.ptr 6 0)), (8, oD (.ptr 8 0)), (9, iD p2.fh), (10, iD v12.2)] [(3, .box (Ah p0)), (5, .box (DX p2)), (6, .box [.pure (.nil0), .pure (.nil0), .pure (.nil0)]), (8, .box [.own 2010, .own 2011, .own 2012]), (2010, .vec 1 (((([] : List Int)) ++ p1.fd).map Ak)), (2011, .vec 1 ((((([] : List Int)) ++ p1.fa).set ((p2.fh).toNat) p2.fo).map Ak)), (2012, .vec 1 (v12.1.map Ex))]) (fun v13 => mk [(6, oD (.ptr 6 0)), (8, oD (.ptr 8 0))] [(6, .box [.pure (.nil0), .pure (.nil0), .pure (.nil0)]), (8, .box [.own 2013, .own 2014, .own 2015]), (2013, .vec 1 (((([] : List Int)) ++ p1.fd).map Ak)), (2014, .vec 1 ((((([] : List Int)) ++ p1.fa).set ((p2.fh).toNat) p2.fo).map Ak)), (2015, .vec 1 (v13.map Ex))]) (fun _ _ => rfl) (sm [(2010, 2004), (2011, 2005), (2012, 2006)] _ _ rfl rfl) (fun j12 n12 v12 h => ?_) (fun v13 s h hs => ?_)
     ·unfold Cj at h
      refine wp rfl (qm rfl (qf Cs rfl (ql HN rfl (AO DT rfl (AV rfl (Ab ?_))))))
      refine A7 h (fun h => ?_) fun h => ?_
      ·refine Ai ?_
       refine AN h (fun v15 => mk [(3, oD (.ptr 3 0)), (5, oD (.ptr 5 0)), (6, oD (.ptr 6 0)), (8, oD (.ptr 8 0)), (9, iD p2.fh), (10, iD v12.2)] [(3, .box (Ah p0)), (5, .box (DX p2)), (6, .box [.pure (.nil0), .pure (.nil0), .pure (.nil0)]), (8, .box [.own 2016, .own 2017, .own 2018]), (2016, .vec 1 (((([] : List Int)) ++ p1.fd).map Ak)), (2017, .vec 1 ((((([] : List Int)) ++ p1.fa).set ((p2.fh).toNat) p2.fo).map Ak)), (2018, .vec 1 (v15.map Ex))]) (fun j15 h => ?_) (fun v15 h => ?_)
       ·refine AF ?_
        refine AN h (fun v16 => mk [(3, oD (.ptr 3 0)), (5, oD (.ptr 5 0)), (6, oD (.ptr 6 0)), (8, oD (.ptr 8 0)), (9, iD p2.fh), (10, iD v12.2), (90, bD v16)] [(3, .box (Ah p0)), (5, .box (DX p2)), (6, .box [.pure (.nil0), .pure (.nil0), .pure (.nil0)]), (8, .box [.own 2019, .own 2020, .own 2021]), (2019, .vec 1 (((([] : List Int)) ++ p1.fd).map Ak)), (2020, .vec 1 ((((([] : List Int)) ++ p1.fa).set ((p2.fh).toNat) p2.fo).map Ak)), (2021, .vec 1 (v12.1.map Ex))]) (fun j16 h => ?_) (fun v16 h => ?_)
        ·refine Ag As rfl (qf Cs rfl (ql HN rfl (qm rfl ?_)))
         refine Bb h fun v17 a17 b17 h => qi DT DM a17 (Ac b17) rfl (qg DA rfl (qk B4 rfl (qm rfl (B9 rfl (qm rfl ?_)))))
         refine EM 83 h rfl (fun h => ?_) fun h => ?_
         ·refine qf Cs rfl (ql HN rfl (qm rfl ?_))
          refine Bb h fun v19 a19 b19 h => qi DT DM a19 (Ac b19) rfl (qK Hy DM rfl ?_)
          refine Bq h fun v20 a20 h => Ax [] (CD N v19 v20 a20) Sy rfl (qp rfl (Ab ?_))
          exact sn [(2019, 2010), (2020, 2011), (2021, 2012)] h
         ·refine qw 6 rfl (qp rfl (Ab ?_))
          exact sn [(2019, 2010), (2020, 2011), (2021, 2012)] h
        ·refine A7 h (fun h => ?_) fun h => ?_
         ·refine Ag As rfl (qf Do rfl (ql IN rfl (qm rfl (qf Do rfl (ql IN rfl (qm rfl ?_))))))
          refine Bb h fun v22 a22 b22 h => qI EF Fh a22 (Ac b22) rfl (qj JE (Ac b22) rfl (qf Ij rfl (ql B4 rfl ?_)))
          refine Gg h fun c23 h => I5 rfl c23 (X0 rfl ?_)
          refine Bb h fun v24 a24 b24 h => qI EF Fh a24 (Ac b24) rfl ?_
          refine A8 rfl rfl rfl rfl (Ac b24) rfl Fh rfl (D8 rfl) (A5 Ex v12.1 _ ((QE .u8 v22 ((CX .u8 1 p2.fo))))) ?_
          refine AD (by kernel_rfl) ?_
          exact sn [(2016, 2019), (2017, 2020), (2018, 2021)] h
         ·refine Ai ?_
          exact sn [(2016, 2019), (2017, 2020), (2018, 2021)] h
       ·refine Ag As rfl (qm rfl (AP rfl (qe rfl ?_)))
        exact sn [(2010, 2016), (2011, 2017), (2012, 2018)] h
      ·refine AQ ?_
       exact sn [(2013, 2010), (2014, 2011), (2015, 2012)] h
     ·exact WK _ h (hs.trans (sm [(2001, 2013), (2002, 2014), (2003, 2015)] _ _ rfl rfl))
  ·refine wq rfl (B9 rfl (qe rfl ?_))
   refine A7 h (fun h => ?_) fun h => ?_
   ·refine wp rfl (qf BO rfl (ql A6 rfl (qm rfl ?_)))
    refine Bb h fun v26 a26 b26 h => qi Au CP a26 (Ac b26) rfl (qk B4 rfl (AV rfl (Ab ?_)))
    refine A7 h (fun h => ?_) fun h => ?_
    ·refine wq rfl (Bp Fc Ke rfl (qs A9 rfl (qe rfl ?_)))
     obtain rfl := sj h
     refine Af ((Ar 6 0 2022 1 _ rfl rfl rfl rfl).trans ((Ar 6 1 2023 1 _ rfl rfl rfl rfl).trans ((Ar 6 2 2024 1 _ rfl rfl rfl rfl).trans (sm [(1000, 2022), (1001, 2023), (1002, 2024)] [(6, oD (.ptr 6 0)), (7, bD false)] [(6, .box [.own 1000, .own 1001, .own 1002]), (1000, .vec 1 ((([] : List Int)).map Ak)), (1001, .vec 1 ((([] : List Int)).map Ak)), (1002, .vec 1 ((([] : List Int)).map Ex))] rfl rfl)))) (Aq ?_)
     exact ⟨⟨[_, _], ⟨.cellN _ _ _ _ _ _ _ rfl rfl Ca A9 rfl rfl (Kn rfl), tm⟩, rfl⟩, ⟨rfl, rfl, rfl, tv⟩⟩
    ·refine Ai (Ag As rfl (qf Dn rfl (ql A6 rfl (qm rfl (qf BO rfl (ql A6 rfl (qm rfl (qf BO rfl (ql A6 rfl (qm rfl ?_))))))))))
     refine Bb h fun v28 a28 b28 h => qi Au CP a28 (Ac b28) rfl (qk B4 rfl ?_)
     refine Bb h fun v29 a29 b29 h => qI Au CP a29 (Ac b29) rfl ?_
     refine A8 rfl rfl rfl rfl (Ac b29) rfl CP rfl (D8 rfl) (A5 Ak ((([] : List Int)) ++ p1.fd) _ v28) ?_
     refine Bb h fun v30 a30 b30 h => qI Au CP a30 (Ac b30) rfl ?_
     refine A8 rfl rfl rfl rfl (Ac b30) rfl CP rfl (D8 rfl) (A5 Ak ((([] : List Int)) ++ p1.fa) _ ((-1))) ?_
     refine AD (by kernel_rfl) ?_
     exact sn [(2001, 18), (2002, 22), (2003, 26)] h
   ·refine wq rfl (B9 rfl (qe rfl ?_))
    refine A7 h (fun h => ?_) fun h => ?_
    ·refine wq rfl (qf Cs rfl (ql HN rfl (qm rfl ?_)))
     refine Bb h fun v32 a32 b32 h => qi DT DM a32 (Ac b32) rfl (qK Hy DM rfl (qz JS rfl (qs DM rfl (Ab (wp rfl (qL Hy DM rfl ?_))))))
     refine Bq h fun v33 a33 h => Ax [] (CD N v32 v33 a33) Sy rfl (Cc rfl (Ab ?_))
     refine A7 h (fun h => ?_) fun h => ?_
     ·refine wq rfl (Bp Fc Ke rfl (qs A9 rfl (qe rfl ?_)))
      obtain rfl := sj h
      refine Af ((Ar 6 0 2025 1 _ rfl rfl rfl rfl).trans ((Ar 6 1 2026 1 _ rfl rfl rfl rfl).trans ((Ar 6 2 2027 1 _ rfl rfl rfl rfl).trans (sm [(1000, 2025), (1001, 2026), (1002, 2027)] [(6, oD (.ptr 6 0)), (7, bD false)] [(6, .box [.own 1000, .own 1001, .own 1002]), (1000, .vec 1 ((([] : List Int)).map Ak)), (1001, .vec 1 ((([] : List Int)).map Ak)), (1002, .vec 1 ((([] : List Int)).map Ex))] rfl rfl)))) (Aq ?_)
      exact ⟨⟨[_, _], ⟨.cellN _ _ _ _ _ _ _ rfl rfl Ca A9 rfl rfl (Kn rfl), tm⟩, rfl⟩, ⟨rfl, rfl, rfl, tv⟩⟩
     ·refine Ai (wq rfl (qL Ca A9 rfl (qf DA rfl (ql B4 rfl ?_))))
      refine Bq h fun v35 a35 h => Ax [] (E7 N p1 v32.fg v35 a35) Xp rfl (qa rfl (Ab (wp rfl (qf Do rfl (ql IN rfl (qm rfl ?_))))))
      refine Bb h fun v36 a36 b36 h => qi EF Fh a36 (Ac b36) rfl (qk JE rfl (qm rfl (B9 rfl (Ab ?_))))
      refine A7 h (fun h => ?_) fun h => ?_
      ·refine wq rfl (Bp Fc Ke rfl (qs A9 rfl (qe rfl ?_)))
       obtain rfl := sj h
       refine Af ((Ar 6 0 2028 1 _ rfl rfl rfl rfl).trans ((Ar 6 1 2029 1 _ rfl rfl rfl rfl).trans ((Ar 6 2 2030 1 _ rfl rfl rfl rfl).trans (sm [(1000, 2028), (1001, 2029), (1002, 2030)] [(6, oD (.ptr 6 0)), (7, bD false)] [(6, .box [.own 1000, .own 1001, .own 1002]), (1000, .vec 1 ((([] : List Int)).map Ak)), (1001, .vec 1 ((([] : List Int)).map Ak)), (1002, .vec 1 ((([] : List Int)).map Ex))] rfl rfl)))) (Aq ?_)
       exact ⟨⟨[_, _], ⟨.cellN _ _ _ _ _ _ _ rfl rfl Ca A9 rfl rfl (Kn rfl), tm⟩, rfl⟩, ⟨rfl, rfl, rfl, tv⟩⟩
      ·refine Ai (wp rfl (qe rfl ?_))
       refine Ay (L := BQ N p0 p1 p2 v32 v35) h (fun v38 => mk [(3, oD (.ptr 3 0)), (4, oD (.ptr 4 0)), (6, oD (.ptr 6 0)), (8, oD (.ptr 8 0)), (9, iD p2.fh), (11, oD (.ptr 11 0)), (12, pD (.val (.int .u8 v35))), (13, iD v38)] [(3, .box (Ah p0)), (4, .box (AL p1)), (6, .box [.pure (.nil0), .pure (.nil0), .pure (.nil0)]), (8, .box [.own 2031, .own 2032, .own 2033]), (11, .box (Bg v32)), (2031, .vec 1 (((([] : List Int)) ++ p1.fd).map Ak)), (2032, .vec 1 (((([] : List Int)) ++ p1.fa).map Ak)), (2033, .vec 1 (((([] : List Int)) ++ p1.fe).map Ex))]) (fun v39 => mk [(6, oD (.ptr 6 0)), (8, oD (.ptr 8 0)), (9, iD p2.fh), (12, pD (.val (.int .u8 v35)))] [(6, .box [.pure (.nil0), .pure (.nil0), .pure (.nil0)]), (8, .box [.own 2034, .own 2035, .own 2036]), (2034, .vec 1 (((([] : List Int)) ++ p1.fd).map Ak)), (2035, .vec 1 (((([] : List Int)) ++ p1.fa).map Ak)), (2036, .vec 1 (((([] : List Int)) ++ p1.fe).map Ex))]) (fun _ _ => rfl) (sm [(2031, 18), (2032, 22), (2033, 26)] _ _ rfl rfl) (fun j38 n38 v38 h => ?_) (fun v39 s h hs => ?_)
       ·unfold BQ at h
        refine wp rfl (qm rfl (qf Bf rfl (ql A6 rfl (qf DA rfl (ql B4 rfl ?_)))))
        refine Bb h fun v40 a40 b40 h => qi Au CP a40 (Ac b40) rfl (qk B4 rfl (AV rfl (Ab ?_)))
        refine A7 h (fun h => ?_) fun h => ?_
        ·refine Ai (AK (AF ?_))
         refine AN h (fun v42 => mk [(3, oD (.ptr 3 0)), (4, oD (.ptr 4 0)), (6, oD (.ptr 6 0)), (8, oD (.ptr 8 0)), (9, iD p2.fh), (11, oD (.ptr 11 0)), (12, pD (.val (.int .u8 v35))), (13, iD v38), (14, bD v42)] [(3, .box (Ah p0)), (4, .box (AL p1)), (6, .box [.pure (.nil0), .pure (.nil0), .pure (.nil0)]), (8, .box [.own 2037, .own 2038, .own 2039]), (11, .box (Bg v32)), (2037, .vec 1 (((([] : List Int)) ++ p1.fd).map Ak)), (2038, .vec 1 (((([] : List Int)) ++ p1.fa).map Ak)), (2039, .vec 1 (((([] : List Int)) ++ p1.fe).map Ex))]) (fun j42 h => ?_) (fun v42 h => ?_)
         ·refine Ag As rfl (qf Do rfl (ql IN rfl (qm rfl ?_)))
          refine Bb h fun v43 a43 b43 h => qi EF Fh a43 (Ac b43) rfl (qk JE rfl (qm rfl ?_))
          refine Bq h fun v44 a44 h => Ax [] (Hv N v43 v38 v44 a44) YD rfl (qm rfl ?_)
          refine EM 166 h rfl (fun h => ?_) fun h => ?_
          ·refine qw 2 rfl ?_
           refine Bq h fun v46 a46 h => Ax [] (Hv N v35 v38 v46 a46) YD rfl (Cc rfl (qp rfl (qe rfl ?_)))
           exact sn [(2037, 2031), (2038, 2032), (2039, 2033)] h
          ·refine qw 4 rfl (qp rfl (qe rfl ?_))
           exact sn [(2037, 2031), (2038, 2032), (2039, 2033)] h
         ·refine AN h (fun v47 => mk [(3, oD (.ptr 3 0)), (4, oD (.ptr 4 0)), (6, oD (.ptr 6 0)), (8, oD (.ptr 8 0)), (9, iD p2.fh), (11, oD (.ptr 11 0)), (12, pD (.val (.int .u8 v35))), (13, iD v38), (193, bD v47)] [(3, .box (Ah p0)), (4, .box (AL p1)), (6, .box [.pure (.nil0), .pure (.nil0), .pure (.nil0)]), (8, .box [.own 2040, .own 2041, .own 2042]), (11, .box (Bg v32)), (2040, .vec 1 (((([] : List Int)) ++ p1.fd).map Ak)), (2041, .vec 1 (((([] : List Int)) ++ p1.fa).map Ak)), (2042, .vec 1 (((([] : List Int)) ++ p1.fe).map Ex))]) (fun j47 h => ?_) (fun v47 h => ?_)
          ·refine Ag As rfl (qw 2 rfl ?_)
           refine EM 173 h rfl (fun h => ?_) fun h => ?_
           ·refine qf G5 rfl (ql B4 rfl (B9 rfl (qp rfl (qm rfl ?_))))
            refine EM 178 h rfl (fun h => ?_) fun h => ?_
            ·refine qf F5 rfl (ql Jf rfl (qm rfl ?_))
             refine Bb h fun v50 a50 b50 h => qi E5 KF a50 (Ac b50) rfl (qk Pp rfl (qf Dn rfl (ql A6 rfl (qf DA rfl (ql B4 rfl ?_)))))
             refine Bb h fun v51 a51 b51 h => qi Au CP a51 (Ac b51) rfl (qk B4 rfl ?_)
             refine Bb h fun v52 a52 b52 h => qi F1 Qs a52 (Ac b52) rfl (qk Ue rfl (Cc rfl (qp rfl (AD (by kernel_rfl) ?_))))
             exact sn [(2040, 2037), (2041, 2038), (2042, 2039)] h
            ·refine qw 14 rfl (qp rfl (AD (by kernel_rfl) ?_))
             exact sn [(2040, 2037), (2041, 2038), (2042, 2039)] h
           ·refine qw 3 rfl (qp rfl (qw 15 rfl (qp rfl (AD (by kernel_rfl) ?_))))
            exact sn [(2040, 2037), (2041, 2038), (2042, 2039)] h
          ·refine A7 h (fun h => ?_) fun h => ?_
           ·refine wq rfl (Bp Fc Ke rfl (qs A9 rfl (qe rfl ?_)))
            obtain rfl := sj h
            refine Af ((Ar 6 0 2043 1 _ rfl rfl rfl rfl).trans ((Ar 6 1 2044 1 _ rfl rfl rfl rfl).trans ((Ar 6 2 2045 1 _ rfl rfl rfl rfl).trans (sm [(1000, 2043), (1001, 2044), (1002, 2045)] [(6, oD (.ptr 6 0)), (7, bD false)] [(6, .box [.own 1000, .own 1001, .own 1002]), (1000, .vec 1 ((([] : List Int)).map Ak)), (1001, .vec 1 ((([] : List Int)).map Ak)), (1002, .vec 1 ((([] : List Int)).map Ex))] rfl rfl)))) (Aq ?_)
            exact ⟨⟨[_, _], ⟨.cellN _ _ _ _ _ _ _ rfl rfl Ca A9 rfl rfl (Kn rfl), tm⟩, rfl⟩, ⟨rfl, rfl, rfl, tv⟩⟩
           ·refine Ai (Ag As rfl (qm rfl (AP rfl (qe rfl ?_))))
            exact sn [(2031, 2040), (2032, 2041), (2033, 2042)] h
        ·refine AQ ?_
         exact sn [(2034, 2031), (2035, 2032), (2036, 2033)] h
       ·refine Af hs (Ag As rfl (qf Do rfl (ql IN rfl (qw 2 rfl ?_))))
        refine Bb h fun v54 a54 b54 h => qI EF Fh a54 (Ac b54) rfl ?_
        refine A8 rfl rfl rfl rfl (Ac b54) rfl Fh rfl (D8 rfl) (A5 Ex ((([] : List Int)) ++ p1.fe) _ v35) ?_
        refine Ab ?_
        exact sn [(2001, 2034), (2002, 2035), (2003, 2036)] h
    ·refine wp rfl (qf BO rfl (ql A6 rfl (qm rfl ?_)))
     refine Bb h fun v55 a55 b55 h => qi Au CP a55 (Ac b55) rfl (qk B4 rfl (AV rfl (Ab ?_)))
     refine A7 h (fun h => ?_) fun h => ?_
     ·refine wq rfl (Bp Fc Ke rfl (qs A9 rfl (qe rfl ?_)))
      obtain rfl := sj h
      refine Af ((Ar 6 0 2046 1 _ rfl rfl rfl rfl).trans ((Ar 6 1 2047 1 _ rfl rfl rfl rfl).trans ((Ar 6 2 2048 1 _ rfl rfl rfl rfl).trans (sm [(1000, 2046), (1001, 2047), (1002, 2048)] [(6, oD (.ptr 6 0)), (7, bD false)] [(6, .box [.own 1000, .own 1001, .own 1002]), (1000, .vec 1 ((([] : List Int)).map Ak)), (1001, .vec 1 ((([] : List Int)).map Ak)), (1002, .vec 1 ((([] : List Int)).map Ex))] rfl rfl)))) (Aq ?_)
      exact ⟨⟨[_, _], ⟨.cellN _ _ _ _ _ _ _ rfl rfl Ca A9 rfl rfl (Kn rfl), tm⟩, rfl⟩, ⟨rfl, rfl, rfl, tv⟩⟩
     ·refine Ai (Ag As rfl (qf BO rfl (ql A6 rfl (qm rfl ?_))))
      refine Bb h fun v57 a57 b57 h => qI Au CP a57 (Ac b57) rfl ?_
      refine A8 rfl rfl rfl rfl (Ac b57) rfl CP rfl (D8 rfl) (A5 Ak ((([] : List Int)) ++ p1.fa) _ ((-1))) ?_
      refine Ab ?_
      exact sn [(2001, 18), (2002, 22), (2003, 26)] h
 ·refine wq rfl (qL Ca A9 rfl (qs A9 rfl (qe rfl ?_)))
  obtain rfl := sj h
  refine Af (sm [(1000, 2001), (1001, 2002), (1002, 2003)] [(6, oD (.ptr 6 0)), (7, bD true)] [(6, .box [.own 1000, .own 1001, .own 1002]), (1000, .vec 1 (v4.1.map Ak)), (1001, .vec 1 (v4.2.1.map Ak)), (1002, .vec 1 (v4.2.2.map Ex))] rfl rfl) (Aq ?_)
  exact ⟨⟨[_, _], ⟨.cellN _ _ _ _ _ _ _ rfl rfl Ca A9 rfl rfl (Kn rfl), tm⟩, rfl⟩, ⟨rfl, rfl, rfl, tv⟩⟩
theorem M0 (N : Nat) (p0 : Aa) (p1 : Ad) (p2 : Ae) (r : Ad × Int) (h : Fn N p0 p1 p2 = some r) : An zA 95 [.e (.agg (Ah p0)), .e (.agg (AL p1)), .e (.agg (DX p2))] [(1, r.1.fd.map Ak), (1, r.1.fa.map Ak), (1, r.1.fe.map Ex)] (.tup [.agg [.own 0, .own 1, .own 2], .one (iC r.2)]) := by
 unfold Fn at h
 refine cw (n := 73) (rs := [.cell 6 49, .tmp 7]) Tryz.func95 fun w0 S0 => ?_
 refine wq rfl (qb rfl (qb rfl (qb rfl (qz Fc rfl (qa rfl (Ab (wp rfl (qL Dk Cg rfl (qL Ca A9 rfl ?_)))))))))
 refine Bq h fun v1 a1 h => Ax [] (H2 N p0 p1 v1 a1) az rfl (qa rfl (Ab (wq rfl (qm rfl (BB rfl (Ab ?_))))))
 refine A7 h (fun h => ?_) fun h => ?_
 ·refine wq rfl (Bp Fc Ke rfl (qm rfl (qs A9 rfl (qe rfl ?_))))
  obtain rfl := sj h
  refine Af ((Ar 6 0 2001 1 _ rfl rfl rfl rfl).trans ((Ar 6 1 2002 1 _ rfl rfl rfl rfl).trans ((Ar 6 2 2003 1 _ rfl rfl rfl rfl).trans (sm [(1000, 2001), (1001, 2002), (1002, 2003)] [(6, oD (.ptr 6 0)), (7, iD v1)] [(6, .box [.own 1000, .own 1001, .own 1002]), (1000, .vec 1 ((([] : List Int)).map Ak)), (1001, .vec 1 ((([] : List Int)).map Ak)), (1002, .vec 1 ((([] : List Int)).map Ex))] rfl rfl)))) (Aq ?_)
  exact ⟨⟨[_, _], ⟨.cellN _ _ _ _ _ _ _ rfl rfl Ca A9 rfl rfl (Kn rfl), tm⟩, rfl⟩, ⟨rfl, rfl, rfl, tv⟩⟩
 ·refine Ai (wp rfl (qL Kz Fq rfl ?_))
  refine Bq h fun v3 a3 h => Ax [] (MZ N p2 v3 a3) dk rfl (Cc rfl (Ab ?_))
  refine A7 h (fun h => ?_) fun h => ?_
  ·refine wq rfl (Bp Fc Ke rfl (qs A9 rfl (qe rfl ?_)))
   obtain rfl := sj h
   refine Af ((Ar 6 0 2004 1 _ rfl rfl rfl rfl).trans ((Ar 6 1 2005 1 _ rfl rfl rfl rfl).trans ((Ar 6 2 2006 1 _ rfl rfl rfl rfl).trans (sm [(1000, 2004), (1001, 2005), (1002, 2006)] [(6, oD (.ptr 6 0)), (7, iD 1)] [(6, .box [.own 1000, .own 1001, .own 1002]), (1000, .vec 1 ((([] : List Int)).map Ak)), (1001, .vec 1 ((([] : List Int)).map Ak)), (1002, .vec 1 ((([] : List Int)).map Ex))] rfl rfl)))) (Aq ?_)
   exact ⟨⟨[_, _], ⟨.cellN _ _ _ _ _ _ _ rfl rfl Ca A9 rfl rfl (Kn rfl), tm⟩, rfl⟩, ⟨rfl, rfl, rfl, tv⟩⟩
  ·refine Ai (AK ?_)
   refine AN h (fun v5 => mk [(3, oD (.ptr 3 0)), (4, oD (.ptr 4 0)), (5, oD (.ptr 5 0)), (6, oD (.ptr 6 0)), (45, bD v5)] [(3, .box (Ah p0)), (4, .box (AL p1)), (5, .box (DX p2)), (6, .box [.pure (.nil0), .pure (.nil0), .pure (.nil0)])]) (fun j5 h => ?_) (fun v5 h => ?_)
   ·refine Ag As rfl (qf G7 rfl (ql B4 rfl (B9 rfl (qm rfl ?_))))
    refine EM 25 h rfl (fun h => ?_) fun h => ?_
    ·refine qf F8 rfl (ql B4 rfl (qf Cs rfl (ql HN rfl (AO DT rfl (Df rfl (qp rfl (qm rfl ?_)))))))
     refine EM 33 h rfl (fun h => ?_) fun h => ?_
     ·refine qw 4 rfl (qu rfl (qu rfl (qu rfl (qu rfl (qu rfl (qu rfl (qn rfl (qp rfl (Ab ?_)))))))))
      exact sn [] h
     ·refine qf G7 rfl (ql B4 rfl (BB rfl (qm rfl ?_)))
      refine EM 37 h rfl (fun h => ?_) fun h => ?_
      ·refine qf F8 rfl (ql B4 rfl (qf Bf rfl (ql A6 rfl (AO Au rfl (Df rfl (qp rfl (qp rfl (Ab ?_))))))))
       exact sn [] h
      ·refine qw 6 rfl (qp rfl (qp rfl (Ab ?_)))
       exact sn [] h
    ·refine qw 6 rfl (qp rfl (qm rfl (qf G7 rfl (ql B4 rfl (BB rfl (qm rfl ?_))))))
     refine EM 37 h rfl (fun h => ?_) fun h => ?_
     ·refine qf F8 rfl (ql B4 rfl (qf Bf rfl (ql A6 rfl (AO Au rfl (Df rfl (qp rfl (qp rfl (Ab ?_))))))))
      exact sn [] h
     ·refine qw 6 rfl (qp rfl (qp rfl (Ab ?_)))
      exact sn [] h
   ·refine A7 h (fun h => ?_) fun h => ?_
    ·refine wq rfl (Bp Fc Ke rfl (qs A9 rfl (qe rfl ?_)))
     obtain rfl := sj h
     refine Af ((Ar 6 0 2007 1 _ rfl rfl rfl rfl).trans ((Ar 6 1 2008 1 _ rfl rfl rfl rfl).trans ((Ar 6 2 2009 1 _ rfl rfl rfl rfl).trans (sm [(1000, 2007), (1001, 2008), (1002, 2009)] [(6, oD (.ptr 6 0)), (7, iD 4)] [(6, .box [.own 1000, .own 1001, .own 1002]), (1000, .vec 1 ((([] : List Int)).map Ak)), (1001, .vec 1 ((([] : List Int)).map Ak)), (1002, .vec 1 ((([] : List Int)).map Ex))] rfl rfl)))) (Aq ?_)
     exact ⟨⟨[_, _], ⟨.cellN _ _ _ _ _ _ _ rfl rfl Ca A9 rfl rfl (Kn rfl), tm⟩, rfl⟩, ⟨rfl, rfl, rfl, tv⟩⟩
    ·refine Ai (AK ?_)
     refine AN h (fun v11 => mk [(3, oD (.ptr 3 0)), (4, oD (.ptr 4 0)), (5, oD (.ptr 5 0)), (6, oD (.ptr 6 0)), (60, bD v11)] [(3, .box (Ah p0)), (4, .box (AL p1)), (5, .box (DX p2)), (6, .box [.pure (.nil0), .pure (.nil0), .pure (.nil0)])]) (fun j11 h => ?_) (fun v11 h => ?_)
     ·refine Ag As rfl (qf G7 rfl (ql B4 rfl (B9 rfl (qm rfl ?_))))
      refine EM 50 h rfl (fun h => ?_) fun h => ?_
      ·refine qf Ij rfl (ql B4 rfl (qf Bf rfl (ql A6 rfl (qf F8 rfl (ql B4 rfl ?_)))))
       refine Bb h fun v13 a13 b13 h => qi Au CP a13 (Ac b13) rfl (qk B4 rfl (Df rfl (qp rfl (AD (by kernel_rfl) ?_))))
       exact sn [] h
      ·refine qw 9 rfl (qp rfl (AD (by kernel_rfl) ?_))
       exact sn [] h
     ·refine A7 h (fun h => ?_) fun h => ?_
      ·refine wq rfl (Bp Fc Ke rfl (qs A9 rfl (qe rfl ?_)))
       obtain rfl := sj h
       refine Af ((Ar 6 0 2010 1 _ rfl rfl rfl rfl).trans ((Ar 6 1 2011 1 _ rfl rfl rfl rfl).trans ((Ar 6 2 2012 1 _ rfl rfl rfl rfl).trans (sm [(1000, 2010), (1001, 2011), (1002, 2012)] [(6, oD (.ptr 6 0)), (7, iD 4)] [(6, .box [.own 1000, .own 1001, .own 1002]), (1000, .vec 1 ((([] : List Int)).map Ak)), (1001, .vec 1 ((([] : List Int)).map Ak)), (1002, .vec 1 ((([] : List Int)).map Ex))] rfl rfl)))) (Aq ?_)
       exact ⟨⟨[_, _], ⟨.cellN _ _ _ _ _ _ _ rfl rfl Ca A9 rfl rfl (Kn rfl), tm⟩, rfl⟩, ⟨rfl, rfl, rfl, tv⟩⟩
      ·refine Ai (wq rfl (qL Dk Cg rfl (qL Ca A9 rfl (qL Kz Fq rfl ?_))))
       refine Bq h fun v15 a15 h => Ax [2013, 2014, 2015] (J2 N p0 p1 p2 v15 a15) bz rfl (qm rfl (qx rfl (qx rfl (qz Fc rfl (qs A9 rfl (qa rfl (Ab (wp rfl (qm rfl (Cc rfl (Ab ?_)))))))))))
       refine A7 h (fun h => ?_) fun h => ?_
       ·refine wq rfl (Bp Fc Ke rfl (qs A9 rfl (qe rfl ?_)))
        obtain rfl := sj h
        refine Af ((Ar 6 0 2016 1 _ rfl rfl rfl rfl).trans ((Ar 6 1 2017 1 _ rfl rfl rfl rfl).trans ((Ar 6 2 2018 1 _ rfl rfl rfl rfl).trans (sm [(1000, 2016), (1001, 2017), (1002, 2018)] [(6, oD (.ptr 6 0)), (7, iD 11)] [(6, .box [.own 1000, .own 1001, .own 1002]), (1000, .vec 1 ((([] : List Int)).map Ak)), (1001, .vec 1 ((([] : List Int)).map Ak)), (1002, .vec 1 ((([] : List Int)).map Ex))] rfl rfl)))) (Aq ?_)
        exact ⟨⟨[_, _], ⟨.cellN _ _ _ _ _ _ _ rfl rfl Ca A9 rfl rfl (Kn rfl), tm⟩, rfl⟩, ⟨rfl, rfl, rfl, tv⟩⟩
       ·refine Ai (wq rfl (qL Ca A9 rfl (qs A9 rfl (qe rfl ?_))))
        obtain rfl := sj h
        refine Af (sm [(1000, 2013), (1001, 2014), (1002, 2015)] [(6, oD (.ptr 6 0)), (7, iD 0)] [(6, .box [.own 1000, .own 1001, .own 1002]), (1000, .vec 1 (v15.1.fd.map Ak)), (1001, .vec 1 (v15.1.fa.map Ak)), (1002, .vec 1 (v15.1.fe.map Ex))] rfl rfl) (Aq ?_)
        exact ⟨⟨[_, _], ⟨.cellN _ _ _ _ _ _ _ rfl rfl Ca A9 rfl rfl (Kn rfl), tm⟩, rfl⟩, ⟨rfl, rfl, rfl, tv⟩⟩
theorem MR (N : Nat) (p0 : Aa) (p1 : Ad) (r : (List Ae)) (h : Fz N p0 p1 = some r) : An zA 61 [.e (.agg (Ah p0)), .e (.agg (AL p1))] [(3, r.map AC)] (oD (.own 0)) := by
 unfold Fz at h
 refine cw (n := 49) (rs := [.tmp 4]) Tryz.func61 fun w0 S0 => ?_
 refine wq rfl (qb rfl (qb rfl (qa rfl (Ab (wq rfl (qa rfl (Ab (wp rfl (qe rfl ?_)))))))))
 refine Ay (L := BF N p0 p1) h (fun v1 => mk [(2, oD (.ptr 2 0)), (3, oD (.ptr 3 0)), (5, oD (.own 2001)), (6, iD v1.2)] [(2, .box (Ah p0)), (3, .box (AL p1)), (2001, .vec 3 (v1.1.map AC))]) (fun v2 => mk [(5, oD (.own 2002))] [(2002, .vec 3 (v2.map AC))]) (fun _ _ => rfl) ((A2 5 2011 3 rfl rfl rfl).trans (sm [(2001, 2011)] _ _ rfl rfl)) (fun j1 n1 v1 h => ?_) (fun v2 s h hs => ?_)
 ·unfold BF at h
  refine wp rfl (qm rfl (L2 rfl (Ab ?_)))
  refine A7 h (fun h => ?_) fun h => ?_
  ·refine Ai (AK (AF (wq rfl (qe rfl ?_))))
   refine Ay (L := Cv N p0 p1 v1) h (fun v4 => mk [(2, oD (.ptr 2 0)), (3, oD (.ptr 3 0)), (5, oD (.own 2003)), (6, iD v1.2), (7, iD v4.2)] [(2, .box (Ah p0)), (3, .box (AL p1)), (2003, .vec 3 (v4.1.map AC))]) (fun v5 => mk [(2, oD (.ptr 2 0)), (3, oD (.ptr 3 0)), (5, oD (.own 2004)), (6, iD v1.2)] [(2, .box (Ah p0)), (3, .box (AL p1)), (2004, .vec 3 (v5.map AC))]) (fun _ _ => rfl) (sm [(2003, 2001)] _ _ rfl rfl) (fun j4 n4 v4 h => ?_) (fun v5 s h hs => ?_)
   ·unfold Cv at h
    refine wp rfl (qm rfl (qf Bf rfl (ql A6 rfl (AO Au rfl (qf Cs rfl (ql HN rfl (AO DT rfl ?_)))))))
    refine dz (.p rfl) rfl rfl ?_
    refine AV rfl (Ab ?_)
    refine A7 h (fun h => ?_) fun h => ?_
    ·refine Ai (AK (AF (wq rfl (qe rfl ?_))))
     refine Ay (L := Cu N p0 p1 v1 v4) h (fun v7 => mk [(2, oD (.ptr 2 0)), (3, oD (.ptr 3 0)), (5, oD (.own 2005)), (6, iD v1.2), (7, iD v4.2), (8, iD v7.2)] [(2, .box (Ah p0)), (3, .box (AL p1)), (2005, .vec 3 (v7.1.map AC))]) (fun v8 => mk [(2, oD (.ptr 2 0)), (3, oD (.ptr 3 0)), (5, oD (.own 2006)), (6, iD v1.2), (7, iD v4.2)] [(2, .box (Ah p0)), (3, .box (AL p1)), (2006, .vec 3 (v8.map AC))]) (fun _ _ => rfl) (sm [(2005, 2003)] _ _ rfl rfl) (fun j7 n7 v7 h => ?_) (fun v8 s h hs => ?_)
     ·unfold Cu at h
      refine wp rfl (qm rfl (AV rfl (Ab ?_)))
      refine A7 h (fun h => ?_) fun h => ?_
      ·refine Ai ?_
       refine AN h (fun v10 => mk [(2, oD (.ptr 2 0)), (3, oD (.ptr 3 0)), (5, oD (.own 2007)), (6, iD v1.2), (7, iD v4.2), (8, iD v7.2)] [(2, .box (Ah p0)), (3, .box (AL p1)), (2007, .vec 3 (v10.map AC))]) (fun j10 h => ?_) (fun v10 h => ?_)
       ·refine AF (wq rfl (qw 3 rfl (Bp Ls Y9 rfl (qz Ls rfl (qs Fq rfl (Ab (wq rfl (qL Dk Cg rfl (qL Ca A9 rfl (qL Kz Fq rfl ?_))))))))))
        refine Bq h fun v11 a11 h => Ax [2008, 2009, 2010] (M0 N p0 p1 ((Ae.mk v1.2 v4.2 v7.2)) v11 a11) eq rfl (qm rfl (qx rfl (qx rfl (qz Fc rfl (qs A9 rfl (qa rfl (Ab (wq rfl (qm rfl (B9 rfl (Ab ?_)))))))))))
        refine A7 h (fun h => ?_) fun h => ?_
        ·refine Ag As rfl (qm rfl (qL Kz Fq rfl (DQ Fg Fq Ls rfl ?_)))
         refine Gg h fun c13 h => CJ (f := AC) Fg Fg Fq Rh Ls c13 rfl (qe rfl ?_)
         exact sn [(2007, 47)] h
        ·refine Ai ?_
         exact sn [(2007, 2005)] h
       ·refine Ag As rfl (qm rfl (AP rfl (qe rfl ?_)))
        exact sn [(2005, 2007)] h
      ·refine AQ ?_
       exact sn [(2006, 2005)] h
     ·refine Af hs (Ag As rfl (qm rfl (AP rfl (qe rfl ?_))))
      exact sn [(2003, 2006)] h
    ·refine AQ ?_
     exact sn [(2004, 2003)] h
   ·refine Af hs (Ag As rfl (qm rfl (AP rfl (qe rfl ?_))))
    exact sn [(2001, 2004)] h
  ·refine AQ ?_
   exact sn [(2002, 2001)] h
 ·refine Af hs (wq rfl (qm rfl (qe rfl ?_)))
  obtain rfl := sj h
  refine Af (sm [(1000, 2002)] [(4, oD (.own 1000))] [(1000, .vec 3 (v2.map AC))] rfl rfl) (Aq ?_)
  exact ⟨⟨[_], tm, rfl⟩, ⟨rfl, tv⟩⟩
theorem Ir (N : Nat) (p0 : List Int) (p1 : List Int) (r : Int) (h : D9 N p0 p1 = some r) : An zA 129 [pD (.sl (p0.map Ak)), pD (.sl (p1.map Ak))] [] (iD r) := by
 unfold D9 at h
 refine cw (n := 46) (rs := [.tmp 4]) Tryz.func129 fun w0 S0 => ?_
 refine wq rfl (qa rfl (Ab (wp rfl (qe rfl ?_))))
 refine Ay (L := D3 N p0 p1) h (fun v1 => mk [(0, pD (.sl (p0.map Ak))), (1, pD (.sl (p1.map Ak))), (5, iD v1)] []) (fun v2 => mk [(0, pD (.sl (p0.map Ak))), (1, pD (.sl (p1.map Ak)))] []) (fun _ _ => rfl) (sm [] _ _ rfl rfl) (fun j1 n1 v1 h => ?_) (fun v2 s h hs => ?_)
 ·unfold D3 at h
  refine AK ?_
  refine AN h (fun v3 => mk [(0, pD (.sl (p0.map Ak))), (1, pD (.sl (p1.map Ak))), (5, iD v1), (15, bD v3)] []) (fun j3 h => ?_) (fun v3 h => ?_)
  ·refine Ag As rfl (qw 2 rfl (AO Au rfl (AV rfl (qm rfl ?_))))
   refine EM 10 h rfl (fun h => ?_) fun h => ?_
   ·refine qw 2 rfl (AO Au rfl (AV rfl (qp rfl (Ab ?_))))
    exact sn [] h
   ·refine qw 4 rfl (qp rfl (Ab ?_))
    exact sn [] h
  ·refine A7 h (fun h => ?_) fun h => ?_
   ·refine Ai (AK (AF (wp rfl (qw 2 rfl ?_))))
    refine Bb h fun v6 a6 b6 h => qi Au CP a6 (Ac b6) rfl (qk B4 rfl (qw 2 rfl ?_))
    refine Bb h fun v7 a7 b7 h => qi Au CP a7 (Ac b7) rfl (qk B4 rfl (AV rfl (AD (by kernel_rfl) ?_)))
    refine A7 h (fun h => ?_) fun h => ?_
    ·refine wq rfl (qe rfl ?_)
     obtain rfl := sj h
     refine Af (sm [] [(4, iD ((-1)))] [] rfl rfl) (Aq ?_)
     exact ⟨⟨[_], tm, rfl⟩, tv⟩
    ·refine Ai (wq rfl (qw 2 rfl ?_))
     refine Bb h fun v9 a9 b9 h => qi Au CP a9 (Ac b9) rfl (qk B4 rfl (qw 2 rfl ?_))
     refine Bb h fun v10 a10 b10 h => qi Au CP a10 (Ac b10) rfl (qk B4 rfl (FW rfl (AD (by kernel_rfl) ?_)))
     refine A7 h (fun h => ?_) fun h => ?_
     ·refine wq rfl (qe rfl ?_)
      obtain rfl := sj h
      refine Af (sm [] [(4, iD 1)] [] rfl rfl) (Aq ?_)
      exact ⟨⟨[_], tm, rfl⟩, tv⟩
     ·refine Ai (Ag As rfl (qm rfl (AP rfl (qe rfl ?_))))
      exact sn [] h
   ·refine AQ ?_
    exact sn [] h
 ·refine Af hs (wp rfl (qm rfl (AO Au rfl (qm rfl (AO Au rfl (AV rfl (Ab ?_)))))))
  refine A7 h (fun h => ?_) fun h => ?_
  ·refine wq rfl (qe rfl ?_)
   obtain rfl := sj h
   refine Af (sm [] [(4, iD ((-1)))] [] rfl rfl) (Aq ?_)
   exact ⟨⟨[_], tm, rfl⟩, tv⟩
  ·refine Ai (wp rfl (qm rfl (AO Au rfl (qm rfl (AO Au rfl (FW rfl (Ab ?_)))))))
   refine A7 h (fun h => ?_) fun h => ?_
   ·refine wq rfl (qe rfl ?_)
    obtain rfl := sj h
    refine Af (sm [] [(4, iD 1)] [] rfl rfl) (Aq ?_)
    exact ⟨⟨[_], tm, rfl⟩, tv⟩
   ·refine Ai (wq rfl (qe rfl ?_))
    obtain rfl := sj h
    refine Af (sm [] [(4, iD 0)] [] rfl rfl) (Aq ?_)
    exact ⟨⟨[_], tm, rfl⟩, tv⟩
theorem Je (N : Nat) (p0 : List Int) (r : (List Int)) (h : D2 N p0 = some r) : An zA 130 [pD (.sl (p0.map Ex))] [(1, r.map Ak)] (oD (.own 0)) := by
 unfold D2 at h
 refine cw (n := 20) (rs := [.tmp 2]) Tryz.func130 fun w0 S0 => ?_
 refine wq rfl (qa rfl (Ab (wq rfl (qa rfl (Ab (wp rfl (qe rfl ?_)))))))
 refine Ay (L := Dm N p0) h (fun v1 => mk [(0, pD (.sl (p0.map Ex))), (3, oD (.own 2001)), (4, iD v1.2)] [(2001, .vec 1 (v1.1.map Ak))]) (fun v2 => mk [(3, oD (.own 2002))] [(2002, .vec 1 (v2.map Ak))]) (fun _ _ => rfl) ((A2 3 2003 1 rfl rfl rfl).trans (sm [(2001, 2003)] _ _ rfl rfl)) (fun j1 n1 v1 h => ?_) (fun v2 s h hs => ?_)
 ·unfold Dm at h
  refine wp rfl (qw 2 rfl (AO EF rfl (AV rfl (Ab ?_))))
  refine A7 h (fun h => ?_) fun h => ?_
  ·refine Ai (AK (AF (Ag As rfl (qw 3 rfl ?_))))
   refine Bb h fun v4 a4 b4 h => qi EF Fh a4 (Ac b4) rfl (qk JE rfl (Id dm VV rfl (DQ Au CP JH rfl ?_)))
   refine Gg h fun c5 h => CJ (f := Ak) Au Au CP KS JH c5 rfl (qa rfl (Ab (Ag As rfl (qm rfl (AP rfl (qe rfl ?_))))))
   exact sn [(2001, 18)] h
  ·refine AQ ?_
   exact sn [(2002, 2001)] h
 ·refine Af hs (wq rfl (qm rfl (qe rfl ?_)))
  obtain rfl := sj h
  refine Af (sm [(1000, 2002)] [(2, oD (.own 1000))] [(1000, .vec 1 (v2.map Ak))] rfl rfl) (Aq ?_)
  exact ⟨⟨[_], tm, rfl⟩, ⟨rfl, tv⟩⟩
theorem L4 (N : Nat) (p0 : Ad) (p1 : Ad) (r : Int) (h : ER N p0 p1 = some r) : An zA 89 [.e (.agg (AL p0)), .e (.agg (AL p1))] [] (iD r) := by
 unfold ER at h
 refine cw (n := 30) (rs := [.tmp 4]) Tryz.func89 fun w0 S0 => ?_
 refine wq rfl (qb rfl (qb rfl (qa rfl (Ab (wp rfl (qf Dn rfl (ql A6 rfl (qf Dn rfl (ql A6 rfl ?_)))))))))
 refine Bq h fun v1 a1 h => Ax [] (Ir N p0.fd p1.fd v1 a1) XK rfl (qa rfl (Ab (wq rfl (qm rfl (BB rfl (Ab ?_))))))
 refine A7 h (fun h => ?_) fun h => ?_
 ·refine wq rfl (qm rfl (qe rfl ?_))
  obtain rfl := sj h
  refine Af (sm [] [(4, iD v1)] [] rfl rfl) (Aq ?_)
  exact ⟨⟨[_], tm, rfl⟩, tv⟩
 ·refine Ai (wp rfl (qf BO rfl (ql A6 rfl (qf BO rfl (ql A6 rfl ?_)))))
  refine Bq h fun v3 a3 h => Ax [] (Ir N p0.fa p1.fa v3 a3) XK rfl (qa rfl (Ab (wq rfl (qm rfl (BB rfl (Ab ?_))))))
  refine A7 h (fun h => ?_) fun h => ?_
  ·refine wq rfl (qm rfl (qe rfl ?_))
   obtain rfl := sj h
   refine Af (sm [] [(4, iD v3)] [] rfl rfl) (Aq ?_)
   exact ⟨⟨[_], tm, rfl⟩, tv⟩
  ·refine Ai (wq rfl (qf Do rfl (ql IN rfl ?_)))
   refine Bq h fun v5 a5 h => Ax [2001] (Je N p0.fe v5 a5) Zw rfl (qf Do rfl (ql IN rfl ?_))
   refine Bq h fun v6 a6 h => Ax [2002] (Je N p1.fe v6 a6) Zw rfl ?_
   refine Bq h fun v7 a7 h => D4 [] [2001, 2002] (Ir N v5 v6 v7 a7) XK Cm rfl (qa rfl (AD (by kernel_rfl) ?_))
   obtain rfl := sj h
   refine Af (sm [] [(4, iD v7)] [] rfl rfl) (Aq ?_)
   exact ⟨⟨[_], tm, rfl⟩, tv⟩
theorem MY (N : Nat) (p0 : Ad) (p1 : Ad) (r : Bool) (h : Fx N p0 p1 = some r) : An zA 164 [.e (.agg (AL p0)), .e (.agg (AL p1))] [] (bD r) := by
 unfold Fx at h
 refine cw (n := 9) (rs := [.tmp 4]) Tryz.func164 fun w0 S0 => ?_
 refine wq rfl (qb rfl (qb rfl (qa rfl (Ab (wq rfl (qL Ca A9 rfl (qL Ca A9 rfl ?_)))))))
 refine Bq h fun v1 a1 h => Ax [] (L4 N p0 p1 v1 a1) ec rfl (B9 rfl (qe rfl ?_))
 obtain rfl := sj h
 refine Af (sm [] [(4, bD ((v1 == 0)))] [] rfl rfl) (Aq ?_)
 exact ⟨⟨[_], tm, rfl⟩, tv⟩
theorem Nk (N : Nat) (p0 : List AE) (p1 : Ad) (r : Int) (h : EV N p0 p1 = some r) : An zA 134 [pD (.sl (p0.map BM)), .e (.agg (AL p1))] [] (iD r) := by
 unfold EV at h
 refine cw (n := 20) (rs := [.tmp 4]) Tryz.func134 fun w0 S0 => ?_
 refine wq rfl (qb rfl (qa rfl (Ab (wp rfl (qe rfl ?_)))))
 refine Ay (L := CC N p0 p1) h (fun v1 => mk [(0, pD (.sl (p0.map BM))), (3, oD (.ptr 3 0)), (5, iD v1)] [(3, .box (AL p1))]) (fun v2 => mk [] []) (fun _ _ => rfl) (sm [] _ _ rfl rfl) (fun j1 n1 v1 h => ?_) (fun v2 s h hs => ?_)
 ·unfold CC at h
  refine wp rfl (qw 2 rfl (AO Iu rfl (AV rfl (Ab ?_))))
  refine A7 h (fun h => ?_) fun h => ?_
  ·refine Ai (AK (AF (wq rfl (qw 2 rfl ?_))))
   refine Bb h fun v4 a4 b4 h => qi Iu M7 a4 (Ac b4) rfl (qg Oa rfl (qK Ca A9 rfl (qL Ca A9 rfl ?_)))
   refine Bq h fun v5 a5 h => Ax [] (MY N ((Ad.mk v4.fu.fd v4.fu.fa v4.fu.fe)) p1 v5 a5) cI rfl (AD (by kernel_rfl) ?_)
   refine A7 h (fun h => ?_) fun h => ?_
   ·refine wq rfl (qm rfl (qe rfl ?_))
    obtain rfl := sj h
    refine Af (sm [] [(4, iD v1)] [] rfl rfl) (Aq ?_)
    exact ⟨⟨[_], tm, rfl⟩, tv⟩
   ·refine Ai (Ag As rfl (qm rfl (AP rfl (qe rfl ?_))))
    exact sn [] h
  ·refine AQ ?_
   exact sn [] h
 ·refine Af hs (wq rfl (qe rfl ?_))
  obtain rfl := sj h
  refine Af (sm [] [(4, iD ((-1)))] [] rfl rfl) (Aq ?_)
  exact ⟨⟨[_], tm, rfl⟩, tv⟩
theorem J6 (N : Nat) (p0 : Aa) (p1 : Ad) (p2 : Int) (r : (List AE) × Bool) (h : Di N p0 p1 p2 = some r) : An zA 99 [.e (.agg (Ah p0)), .e (.agg (AL p1)), iD p2] [(7, r.1.map BM)] (.tup [.one (.own 0), .one (.pure (.val (.bool r.2)))]) := by
 unfold Di at h
 refine cw (n := 74) (rs := [.tmp 6, .tmp 7]) Tryz.func99 fun w0 S0 => ?_
 refine wq rfl (qb rfl (qb rfl (qa rfl (qa rfl (Ab (wq rfl (qL Ca A9 rfl (Bp Ts ZQ rfl (DQ Iu M7 Ts rfl (qa rfl (Ab (wp rfl (qe rfl ?_)))))))))))))
 refine Ay (L := BZ N p0 p2) h (fun v1 => mk [(2, iD p2), (3, oD (.ptr 3 0)), (8, oD (.own 2001)), (9, iD v1.2)] [(3, .box (Ah p0)), (2001, .vec 7 (v1.1.map BM))]) (fun v2 => mk [(8, oD (.own 2002))] [(2002, .vec 7 (v2.map BM))]) (fun _ _ => rfl) (sm [(2001, 16)] _ _ rfl rfl) (fun j1 n1 v1 h => ?_) (fun v2 s h hs => ?_)
 ·unfold BZ at h
  refine wp rfl (qw 2 rfl (FG Iu rfl (AV rfl (Ab ?_))))
  refine A7 h (fun h => ?_) fun h => ?_
  ·refine Ai (AK (AF (wq rfl (qL Dk Cg rfl (qw 2 rfl ?_)))))
   refine Bb h fun v4 a4 b4 h => qI Iu M7 a4 (Ac b4) rfl (qh Oa rfl ?_)
   refine PS (.p rfl) rfl Ca A9 rfl (Ac b4) rfl rfl (by decide) ?_
   refine Bq h fun v5 a5 h => Ax [2003] (MR N p0 ((Ad.mk v4.fu.fd v4.fu.fa v4.fu.fe)) v5 a5) dN rfl (qa rfl (AD (by kernel_rfl) (wq rfl (qe rfl ?_))))
   refine Ay (L := B1 N p0 p2 v1 v5) h (fun v6 => mk [(2, iD p2), (3, oD (.ptr 3 0)), (8, oD (.own 2004)), (9, iD v1.2), (10, oD (.own 2005)), (11, iD v6.2)] [(3, .box (Ah p0)), (2004, .vec 7 (v6.1.map BM)), (2005, .vec 3 (v5.map AC))]) (fun v7 => mk [(2, iD p2), (3, oD (.ptr 3 0)), (8, oD (.own 2006)), (9, iD v1.2)] [(3, .box (Ah p0)), (2006, .vec 7 (v7.map BM))]) (fun _ _ => rfl) (sm [(2004, 2001), (2005, 2003)] _ _ rfl rfl) (fun j6 n6 v6 h => ?_) (fun v7 s h hs => ?_)
   ·unfold B1 at h
    refine wp rfl (qw 2 rfl (FG Fg rfl (AV rfl (Ab ?_))))
    refine A7 h (fun h => ?_) fun h => ?_
    ·refine Ai (AK (AF (wq rfl (qL Dk Cg rfl (qw 2 rfl ?_)))))
     refine Bb h fun v9 a9 b9 h => qI Iu M7 a9 (Ac b9) rfl (qh Oa rfl ?_)
     refine PS (.p rfl) rfl Ca A9 rfl (Ac b9) rfl rfl (by decide) ?_
     refine qw 2 rfl ?_
     refine Bb h fun v10 a10 b10 h => qI Fg Fq a10 (Ac b10) rfl (qJ Kz Fq (Ac b10) rfl ?_)
     refine Bq h fun v11 a11 h => Ax [2007, 2008, 2009] (J2 N p0 ((Ad.mk v9.fu.fd v9.fu.fa v9.fu.fe)) v10 v11 a11) bz rfl (qm rfl (qx rfl (qx rfl (qz Fc rfl (qs A9 rfl (qa rfl (AD (by kernel_rfl) ?_)))))))
     refine AN h (fun v12 => mk [(2, iD p2), (3, oD (.ptr 3 0)), (8, oD (.own 2010)), (9, iD v1.2), (10, oD (.own 2011)), (11, iD v6.2)] [(3, .box (Ah p0)), (2010, .vec 7 (v12.map BM)), (2011, .vec 3 (v5.map AC))]) (fun j12 h => ?_) (fun v12 h => ?_)
     ·refine AN h (fun v13 => mk [(2, iD p2), (3, oD (.ptr 3 0)), (8, oD (.own 2015)), (9, iD v1.2), (10, oD (.own 2016)), (11, iD v6.2), (12, oD (.ptr 12 0)), (58, bD v13)] [(3, .box (Ah p0)), (12, .box [.own 2012, .own 2013, .own 2014]), (2012, .vec 1 (v11.1.fd.map Ak)), (2013, .vec 1 (v11.1.fa.map Ak)), (2014, .vec 1 (v11.1.fe.map Ex)), (2015, .vec 7 (v6.1.map BM)), (2016, .vec 3 (v5.map AC))]) (fun j13 h => ?_) (fun v13 h => ?_)
      ·refine Ag As rfl (qL Dk Cg rfl (qL Ca A9 rfl ?_))
       refine Bq h fun v14 a14 h => D4 [] [2007, 2008, 2009] (G9 N p0 v11.1 v14 a14) Z8 Cm rfl (qm rfl ?_)
       refine EM 53 h rfl (fun h => ?_) fun h => ?_
       ·refine qm rfl (qL Ca A9 rfl ?_)
        refine Bq h fun v16 a16 h => D4 [] [2004, 2007, 2008, 2009] (Nk N v6.1 v11.1 v16 a16) cG Cm rfl (AV rfl (qp rfl (Ab ?_)))
        exact sn [(2012, 2007), (2013, 2008), (2014, 2009), (2015, 2004), (2016, 2005)] h
       ·refine qw 4 rfl (qp rfl (Ab ?_))
        exact sn [(2012, 2007), (2013, 2008), (2014, 2009), (2015, 2004), (2016, 2005)] h
      ·refine A7 h (fun h => ?_) fun h => ?_
       ·refine Af (Bt 2012 _ _ rfl rfl) (Af (Bt 2013 _ _ rfl rfl) (Af (Bt 2014 _ _ rfl rfl) (Ag As rfl (qm rfl (qL Ca A9 rfl (qw 3 rfl ?_))))))
        refine Bb h fun v18 a18 b18 h => qI Fg Fq a18 (Ac b18) rfl (qJ Kz Fq (Ac b18) rfl (Bp Ts ZQ rfl (DQ Iu M7 Ts rfl ?_)))
        refine Gg h fun c19 h => CJ (f := BM) Iu Iu M7 aV Ts c19 rfl (qa rfl (AD (by kernel_rfl) ?_))
        exact sn [(2010, 68), (2011, 2016)] h
       ·refine Ai ?_
        exact sn [(2010, 2015), (2011, 2016)] h
     ·refine wq rfl (qm rfl (FG Iu rfl (qm rfl (FW rfl (Ab ?_)))))
      refine A7 h (fun h => ?_) fun h => ?_
      ·refine wq rfl (qa rfl (qe rfl ?_))
       obtain rfl := sj h
       refine Af ((A2 6 2017 7 rfl rfl rfl).trans (sm [(1000, 2017)] [(6, oD (.own 1000)), (7, bD false)] [(1000, .vec 7 ((([] : List AE)).map BM))] rfl rfl)) (Aq ?_)
       exact ⟨⟨[_, _], ⟨.tmp _ _ rfl, tm⟩, rfl⟩, ⟨rfl, tv⟩⟩
      ·refine Ai (Ag As rfl (qm rfl (AP rfl (qe rfl ?_))))
       exact sn [(2004, 2010), (2005, 2011)] h
    ·refine AQ ?_
     exact sn [(2006, 2004)] h
   ·refine Af hs (Ag As rfl (qm rfl (AP rfl (qe rfl ?_))))
    exact sn [(2001, 2006)] h
  ·refine AQ ?_
   exact sn [(2002, 2001)] h
 ·refine Af hs (wq rfl (qm rfl (qa rfl (qe rfl ?_))))
  obtain rfl := sj h
  refine Af (sm [(1000, 2002)] [(6, oD (.own 1000)), (7, bD true)] [(1000, .vec 7 (v2.map BM))] rfl rfl) (Aq ?_)
  exact ⟨⟨[_, _], ⟨.tmp _ _ rfl, tm⟩, rfl⟩, ⟨rfl, tv⟩⟩
theorem M3 (N : Nat) (p0 : Aa) (p1 : Int) (r : Bool) (h : Fo N p0 p1 = some r) : An zA 68 [.e (.agg (Ah p0)), iD p1] [] (bD r) := by
 unfold Fo at h
 refine cw (n := 30) (rs := [.tmp 4]) Tryz.func68 fun w0 S0 => ?_
 refine wq rfl (qb rfl (qa rfl (Ab (wq rfl (qL Dk Cg rfl ?_)))))
 refine Bq h fun v1 a1 h => Ax [2001, 2002, 2003] (J3 N p0 v1 a1) cF rfl (qm rfl (qx rfl (qx rfl (qz Fc rfl (qs A9 rfl (qa rfl (Ab (AK ?_))))))))
 refine AN h (fun v2 => mk [(1, iD p1), (2, oD (.ptr 2 0)), (5, oD (.ptr 5 0)), (21, bD v2)] [(2, .box (Ah p0)), (5, .box [.own 2004, .own 2005, .own 2006]), (2004, .vec 1 (v1.1.fd.map Ak)), (2005, .vec 1 (v1.1.fa.map Ak)), (2006, .vec 1 (v1.1.fe.map Ex))]) (fun j2 h => ?_) (fun v2 h => ?_)
 ·refine Ag As rfl (qm rfl (BB rfl (qm rfl ?_)))
  refine EM 16 h rfl (fun h => ?_) fun h => ?_
  ·refine qw 4 rfl (qp rfl (Ab ?_))
   exact sn [(2004, 2001), (2005, 2002), (2006, 2003)] h
  ·refine qL Dk Cg rfl (qL Ca A9 rfl ?_)
   refine Bq h fun v4 a4 h => D4 [] [2001, 2002, 2003] (G9 N p0 v1.1 v4 a4) Z8 Cm rfl (Cc rfl (qp rfl (Ab ?_)))
   exact sn [(2004, 2001), (2005, 2002), (2006, 2003)] h
 ·refine A7 h (fun h => ?_) fun h => ?_
  ·refine wq rfl (qe rfl ?_)
   obtain rfl := sj h
   refine Af (sm [] [(4, bD true)] [] rfl rfl) (Aq ?_)
   exact ⟨⟨[_], tm, rfl⟩, tv⟩
  ·refine Ai (wq rfl (qL Dk Cg rfl (qL Ca A9 rfl (qm rfl (DG (Bt 2004 _ _ rfl rfl) (DG (Bt 2005 _ _ rfl rfl) (DG (Bt 2006 _ _ rfl rfl) ?_)))))))
   refine Bq h fun v6 a6 h => Ax [2007] (J6 N p0 v1.1 p1 v6 a6) cL rfl (qm rfl (qx rfl (qx rfl (qa rfl (qa rfl (Ab (wq rfl (qm rfl (qe rfl ?_)))))))))
   obtain rfl := sj h
   refine Af (sm [] [(4, bD v6.2)] [] rfl rfl) (Aq ?_)
   exact ⟨⟨[_], tm, rfl⟩, tv⟩
theorem MV (N : Nat) (p0 : Aa) (r : Bool) (h : Gu N p0 = some r) : An zA 36 [.e (.agg (Ah p0))] [] (bD r) := by
 unfold Gu at h
 refine cw (n := 40) (rs := [.tmp 2]) Tryz.func36 fun w0 S0 => ?_
 refine wq rfl (qb rfl (qa rfl (Ab (wp rfl (qL Dk Cg rfl ?_)))))
 refine Bq h fun v1 a1 h => Ax [] (ET N p0 v1 a1) Zc rfl (BB rfl (Ab ?_))
 refine A7 h (fun h => ?_) fun h => ?_
 ·refine wq rfl (qe rfl ?_)
  obtain rfl := sj h
  refine Af (sm [] [(2, bD true)] [] rfl rfl) (Aq ?_)
  exact ⟨⟨[_], tm, rfl⟩, tv⟩
 ·refine Ai (wp rfl (qf Bf rfl (ql A6 rfl (AO Au rfl (FW rfl (Ab ?_))))))
  refine A7 h (fun h => ?_) fun h => ?_
  ·refine wq rfl (qe rfl ?_)
   obtain rfl := sj h
   refine Af (sm [] [(2, bD false)] [] rfl rfl) (Aq ?_)
   exact ⟨⟨[_], tm, rfl⟩, tv⟩
  ·refine Ai (wq rfl (qf Bf rfl (ql A6 rfl (AO Au rfl ?_))))
   refine Bq h fun v4 a4 h => Ax [2001] (NF N ((p0.fb.length : Int)) v4 a4) dY rfl (qa rfl (Ab (wp rfl (qe rfl ?_))))
   refine Ay (L := C4 N p0 v4) h (fun v5 => mk [(1, oD (.ptr 1 0)), (3, oD (.own 2002)), (4, iD v5)] [(1, .box (Ah p0)), (2002, .vec 1 (v4.map (Gq Ak)))]) (fun v6 => mk [] []) (fun _ _ => rfl) (sm [(2002, 2001)] _ _ rfl rfl) (fun j5 n5 v5 h => ?_) (fun v6 s h hs => ?_)
   ·unfold C4 at h
    refine wp rfl (qw 2 rfl (FG HW rfl (AV rfl (Ab ?_))))
    refine A7 h (fun h => ?_) fun h => ?_
    ·refine Ai (AK (AF (wq rfl (qL Dk Cg rfl (qw 2 rfl ?_)))))
     refine Bb h fun v8 a8 b8 h => qI HW I6 a8 (Ac b8) rfl (qj A6 (Ac b8) rfl ?_)
     refine Bq h fun v9 a9 h => Ax [2003, 2004, 2005, 2006] (IQ N p0 v8 v9 a9) cZ rfl (qm rfl (qx rfl (qx rfl (qz K8 rfl (qs Cg rfl (qa rfl (AD (by kernel_rfl) ?_)))))))
     refine AN h (fun v10 => mk [(1, oD (.ptr 1 0)), (3, oD (.own 2007)), (4, iD v5), (39, bD v10)] [(1, .box (Ah p0)), (2007, .vec 1 (v4.map (Gq Ak)))]) (fun j10 h => ?_) (fun v10 h => ?_)
     ·refine Ag As rfl (qm rfl (BB rfl (qm rfl ?_)))
      refine EM 35 h rfl (fun h => ?_) fun h => ?_
      ·refine qw 3 rfl (qp rfl (Ab ?_))
       exact sn [(2007, 2002)] h
      ·refine qL Dk Cg rfl ?_
       refine Bq h fun v12 a12 h => D4 [] [2003, 2004, 2005, 2006] (M3 N v9.1 120 v12 a12) d8 Cm rfl (Cc rfl (qp rfl (Ab ?_)))
       exact sn [(2007, 2002)] h
     ·refine A7 h (fun h => ?_) fun h => ?_
      ·refine wq rfl (qe rfl ?_)
       obtain rfl := sj h
       refine Af (sm [] [(2, bD false)] [] rfl rfl) (Aq ?_)
       exact ⟨⟨[_], tm, rfl⟩, tv⟩
      ·refine Ai (Ag As rfl (qm rfl (AP rfl (qe rfl ?_))))
       exact sn [(2002, 2007)] h
    ·refine AQ ?_
     exact sn [] h
   ·refine Af hs (wq rfl (qe rfl ?_))
    obtain rfl := sj h
    refine Af (sm [] [(2, bD true)] [] rfl rfl) (Aq ?_)
    exact ⟨⟨[_], tm, rfl⟩, tv⟩
theorem OV (N : Nat) (p0 : BL) (r : Aa × Bool) (h : Gv N p0 = some r) : An zA 10 [.e (.agg (Dc p0))] [(1, r.1.fb.map Ak), (1, r.1.fi.map Ak), (1, r.1.fm.map Ak), (6, r.1.fc.map AT)] (.tup [.agg [.own 0, .own 1, .own 2, .own 3], .one (.pure (.val (.bool r.2)))]) := by
 unfold Gv at h
 refine cw (n := 17) (rs := [.cell 2 29, .tmp 3]) Tryz.func10 fun w0 S0 => ?_
 refine wq rfl (qb rfl (qz K8 rfl (qa rfl (Ab (wq rfl (qL bd cq rfl ?_))))))
 refine Bq h fun v1 a1 h => Ax [2001, 2002, 2003, 2004] (OL N p0 v1 a1) ep rfl (qm rfl (qx rfl (qx rfl (qz K8 rfl (qs Cg rfl (qe rfl ?_))))))
 refine AN h (fun v2 => mk [(2, oD (.ptr 2 0)), (3, bD v2)] [(2, .box [.own 2005, .own 2006, .own 2007, .own 2008]), (2005, .vec 1 (v1.1.fb.map Ak)), (2006, .vec 1 (v1.1.fi.map Ak)), (2007, .vec 1 (v1.1.fm.map Ak)), (2008, .vec 6 (v1.1.fc.map AT))]) (fun j2 h => ?_) (fun v2 h => ?_)
 ·refine Ag As rfl (qL Dk Cg rfl (qw 2 rfl ?_))
  refine EM 13 h rfl (fun h => ?_) fun h => ?_
  ·refine qL Dk Cg rfl ?_
   refine Bq h fun v4 a4 h => D4 [] [2001, 2002, 2003, 2004] (MV N v1.1 v4 a4) dP Cm rfl (qp rfl (qs Cg rfl (qa rfl (AD (by kernel_rfl) ?_))))
   exact sn [(2005, 2001), (2006, 2002), (2007, 2003), (2008, 2004)] h
  ·refine qw 2 rfl (qp rfl (qs Cg rfl (qa rfl (AD (by kernel_rfl) ?_))))
   exact sn [(2005, 2001), (2006, 2002), (2007, 2003), (2008, 2004)] h
 ·obtain rfl := sj h
  refine Af (sm [(1000, 2005), (1001, 2006), (1002, 2007), (1003, 2008)] [(2, oD (.ptr 2 0)), (3, bD v2)] [(2, .box [.own 1000, .own 1001, .own 1002, .own 1003]), (1000, .vec 1 (v1.1.fb.map Ak)), (1001, .vec 1 (v1.1.fi.map Ak)), (1002, .vec 1 (v1.1.fm.map Ak)), (1003, .vec 6 (v1.1.fc.map AT))] rfl rfl) (Aq ?_)
  exact ⟨⟨[_, _], ⟨.cellN _ _ _ _ _ _ _ rfl rfl Dk Cg rfl rfl (Kn rfl), tm⟩, rfl⟩, ⟨rfl, rfl, rfl, rfl, tv⟩⟩
theorem IF (N : Nat) (r : (List (List Bool))) (h : Fl N = some r) : An zA 69 [] [(1, r.map (Gq eB))] (oD (.own 0)) := by
 unfold Fl at h
 refine cw (n := 4) (rs := [.tmp 0]) Tryz.func69 fun w0 S0 => ?_
 refine wq rfl (qa rfl (Ab (wq rfl (DQ F1 Qs Uf rfl (DQ F1 Qs Uf rfl (DG (Bt 1 _ _ rfl rfl) (DG (Bt 2 _ _ rfl rfl) (DQ E5 KF UR rfl (qe rfl ?_)))))))))
 obtain rfl := sj h
 refine Af (sm [(1000, 3)] [(0, oD (.own 1000))] [(1000, .vec 1 ((([([true, false] : List Bool), ([false, true] : List Bool)] : List (List Bool))).map (Gq eB)))] rfl rfl) (Aq ?_)
 exact ⟨⟨[_], tm, rfl⟩, ⟨rfl, tv⟩⟩
theorem Hr (N : Nat) (p0 : Bool) (r : Aa) (h : ES N p0 = some r) : An zA 37 [bD p0] [(1, r.fb.map Ak), (1, r.fi.map Ak), (1, r.fm.map Ak), (6, r.fc.map AT)] (.e (.agg [.own 0, .own 1, .own 2, .own 3])) := by
 unfold ES at h
 refine cw (n := 17) (rs := [.cell 2 29]) Tryz.func37 fun w0 S0 => ?_
 refine wq rfl (qz K8 rfl (Ab (wq rfl (qa rfl (Ab (wq rfl (DQ Au CP JH rfl (DQ Au CP JH rfl (DQ Au CP JH rfl (qw 2 rfl ?_))))))))))
 refine Bq h fun v1 a1 h => Vv (ds0 := []) [2001] (IF N v1 a1) (.p rfl) rfl cP rfl tv rfl rfl rfl (Bi rfl) ⟨rfl, tv⟩ rfl ?_
 refine Bp JS Yw rfl (qw 2 rfl ?_)
 refine Bq h fun v2 a2 h => Vv (ds0 := []) [2002] (IF N v2 a2) (.p rfl) rfl cP rfl tv rfl rfl rfl (Bi rfl) ⟨rfl, tv⟩ rfl ?_
 refine Bp JS Yw rfl (DG (Bt 2001 _ _ rfl rfl) (DG (Bt 2002 _ _ rfl rfl) (DQ DT DM JS rfl (Bp K8 SU rfl (qs Cg rfl (Ab ?_))))))
 obtain rfl := sj h
 refine Af (sm [(1000, 4), (1001, 5), (1002, 6), (1003, 15)] [(2, oD (.ptr 2 0))] [(2, .box [.own 1000, .own 1001, .own 1002, .own 1003]), (1000, .vec 1 ((([2, 2, 2] : List Int)).map Ak)), (1001, .vec 1 ((([0, 0, 0] : List Int)).map Ak)), (1002, .vec 1 ((([1, 1, 1] : List Int)).map Ak)), (1003, .vec 6 ((([(Am.mk 1 0 1 p0 v1 (([] : List (List Bool)))), (Am.mk 1 1 0 p0 v2 (([] : List (List Bool))))] : List Am)).map AT))] rfl rfl) (Aq ?_)
 exact ⟨⟨[_], ⟨.cellN _ _ _ _ _ _ _ rfl rfl Dk Cg rfl rfl (Kn rfl), tv⟩, rfl⟩, ⟨rfl, rfl, rfl, rfl, tv⟩⟩
theorem HB (N : Nat) (p0 : Int) (p1 : Int) (r : Bool) (h : DY N p0 p1 = some r) : An zA 70 [iD p0, iD p1] [] (bD r) := by
 unfold DY at h
 refine cw (n := 12) (rs := [.tmp 4]) Tryz.func70 fun w0 S0 => ?_
 refine wq rfl (qe rfl ?_)
 refine AN h (fun v1 => mk [(4, bD v1)] []) (fun j1 h => ?_) (fun v1 h => ?_)
 ·refine Ag As rfl (qm rfl (Df rfl (qm rfl ?_)))
  refine EM 7 h rfl (fun h => ?_) fun h => ?_
  ·refine qw 2 rfl (AV rfl (qp rfl (qe rfl ?_)))
   exact sn [] h
  ·refine qw 3 rfl (qp rfl (qe rfl ?_))
   exact sn [] h
 ·obtain rfl := sj h
  refine Af (sm [] [(4, bD v1)] [] rfl rfl) (Aq ?_)
  exact ⟨⟨[_], tm, rfl⟩, tv⟩
theorem RX (N : Nat) (p0 : Int) (p1 : Bool) (r : Bool) (h : H8 N p0 p1 = some r) : An zA 100 [iD p0, bD p1] [] (bD r) := by
 unfold H8 at h
 refine cw (n := 23) (rs := [.tmp 4]) Tryz.func100 fun w0 S0 => ?_
 refine wq rfl (qe rfl ?_)
 refine AN h (fun v1 => mk [(4, bD v1)] []) (fun j1 h => ?_) (fun v1 h => ?_)
 ·refine Ag As rfl (qm rfl (B9 rfl (qm rfl ?_)))
  refine EM 7 h rfl (fun h => ?_) fun h => ?_
  ·refine qw 2 rfl (qp rfl (qw 4 rfl (qu rfl (qu rfl (qw 2 rfl (qu rfl (qu rfl (qn rfl (qp rfl (qe rfl ?_))))))))))
   exact sn [] h
  ·refine qm rfl (B9 rfl (qp rfl (qm rfl ?_)))
   refine EM 11 h rfl (fun h => ?_) fun h => ?_
   ·refine qw 3 rfl (qu rfl (qu rfl (qw 2 rfl (qu rfl (qu rfl (qn rfl (qp rfl (qe rfl ?_))))))))
    exact sn [] h
   ·refine qm rfl (B9 rfl (qm rfl ?_))
    refine EM 14 h rfl (fun h => ?_) fun h => ?_
    ·refine qw 2 rfl (qp rfl (qw 2 rfl (Cc rfl (qp rfl (qp rfl (qe rfl ?_))))))
     exact sn [] h
    ·refine qm rfl (B9 rfl (qp rfl (qm rfl ?_)))
     refine EM 18 h rfl (fun h => ?_) fun h => ?_
     ·refine qm rfl (Cc rfl (qp rfl (qp rfl (qe rfl ?_))))
      exact sn [] h
     ·refine qw 2 rfl (qp rfl (qp rfl (qe rfl ?_)))
      exact sn [] h
 ·obtain rfl := sj h
  refine Af (sm [] [(4, bD v1)] [] rfl rfl) (Aq ?_)
  exact ⟨⟨[_], tm, rfl⟩, tv⟩
theorem OW (N : Nat) (p0 : List Bool) (p1 : Int) (r : Bool) (h : EU N p0 p1 = some r) : An zA 136 [pD (.sl (p0.map eB)), oD (.rop [.val (.int .i64 p1)])] [] (bD r) := by
 unfold EU at h
 refine cw (n := 8) (rs := [.tmp 3]) Tryz.func136 fun w0 S0 => ?_
 refine wq rfl (qa rfl (Ab (wq rfl (qm rfl (AO F1 rfl (qk B4 rfl (BB rfl (qe rfl ?_))))))))
 obtain rfl := sj h
 refine Af (sm [] [(3, bD (((p0.length : Int) != p1)))] [] rfl rfl) (Aq ?_)
 exact ⟨⟨[_], tm, rfl⟩, tv⟩
theorem JX (N : Nat) (p0 : List (List Bool)) (p1 : (List Bool) → Option Bool) (r : Int) (h : Ef N p0 p1 = some r) : An zA 165 [pD (.sl (p0.map (Gq eB))), oD (.clo (BS (L7 false (Gq eB)) tB p1))] [] (iD r) := by
 unfold Ef at h
 refine cw (n := 19) (rs := [.tmp 4]) Tryz.func165 fun w0 S0 => ?_
 refine wq rfl (qa rfl (Ab (wp rfl (qm rfl (AO E5 rfl (qm rfl (Ab ?_)))))))
 refine Ay (L := By N p0 p1) h (fun v1 => mk [(0, pD (.sl (p0.map (Gq eB)))), (1, oD (.clo (BS (L7 false (Gq eB)) tB p1))), (7, iD ((p0.length : Int))), (8, iD v1)] []) (fun v2 => mk [] []) (fun _ _ => rfl) (sm [] _ _ rfl rfl) (fun j1 n1 v1 h => ?_) (fun v2 s h hs => ?_)
 ·unfold By at h
  refine wq rfl (AV rfl (Ab (AK ?_)))
  refine A7 h (fun h => ?_) fun h => ?_
  ·refine Ai (AK (AF (wq rfl (qm rfl (qa rfl (Ab (wq rfl (qw 3 rfl ?_))))))))
   refine Bb h fun v4 a4 b4 h => qi E5 KF a4 (Ac b4) rfl (qk Pp rfl ?_)
   refine Bq h fun v5 a5 h => Fk (ds0 := [_]) (ar := (L7 false (Gq eB)) v4) (.p rfl) rfl rfl ⟨rfl, tv⟩ rfl rfl rfl (Fi (Lw _ _ (bY dR)) a5) ?_
   refine Ab ?_
   refine A7 h (fun h => ?_) fun h => ?_
   ·refine wq rfl (qm rfl (qe rfl ?_))
    obtain rfl := sj h
    refine Af (sm [] [(4, iD v1)] [] rfl rfl) (Aq ?_)
    exact ⟨⟨[_], tm, rfl⟩, tv⟩
   ·refine Ai (Ag As rfl (AP rfl (qm rfl (Ab ?_))))
    exact sn [] h
  ·refine AQ ?_
   exact sn [] h
 ·refine Af hs (wq rfl (qe rfl ?_))
  obtain rfl := sj h
  refine Af (sm [] [(4, iD ((-1)))] [] rfl rfl) (Aq ?_)
  exact ⟨⟨[_], tm, rfl⟩, tv⟩
theorem Jb (N : Nat) (p0 : List (List Bool)) (p1 : (List Bool) → Option Bool) (r : Bool) (h : DL N p0 p1 = some r) : An zA 135 [pD (.sl (p0.map (Gq eB))), oD (.clo (BS (L7 false (Gq eB)) tB p1))] [] (bD r) := by
 unfold DL at h
 refine cw (n := 9) (rs := [.tmp 4]) Tryz.func135 fun w0 S0 => ?_
 refine wq rfl (qa rfl (Ab (wq rfl (qw 2 rfl ?_))))
 refine Bq h fun v1 a1 h => Ax [] (JX N p0 p1 v1 a1) cJ rfl (Df rfl (qe rfl ?_))
 obtain rfl := sj h
 refine Af (sm [] [(4, bD ((decide (0 ≤ v1))))] [] rfl rfl) (Aq ?_)
 exact ⟨⟨[_], tm, rfl⟩, tv⟩
theorem Mg (N : Nat) (p0 : List (List Bool)) (p1 : Int) (p2 : Int) (r : Bool) (h : Gk N p0 p1 p2 = some r) : An zA 101 [pD (.sl (p0.map (Gq eB))), iD p1, iD p2] [] (bD r) := by
 unfold Gk at h
 refine cw (n := 17) (rs := [.tmp 6]) Tryz.func101 fun w0 S0 => ?_
 refine wq rfl (qb rfl (qe rfl ?_))
 refine AN h (fun v1 => mk [(6, bD v1)] []) (fun j1 h => ?_) (fun v1 h => ?_)
 ·refine Ag As rfl (qm rfl (AO E5 rfl (qm rfl (B9 rfl (qm rfl ?_)))))
  refine EM 11 h rfl (fun h => ?_) fun h => ?_
  ·refine qm rfl (DG (I4 5 [.val (.int .i64 p2)] rfl rfl) ?_)
   refine Jo (capD := [_]) (BS (L7 false (Gq eB)) tB ((fun (x : List Bool) => EU N x p2))) (.g rfl rfl) cS rfl ⟨rfl, tv⟩ rfl (fun ar t ht => by obtain ⟨x, r, rfl, hq, rfl⟩ := IG ht; exact OW N x p2 r hq) ?_
   refine Bq h fun v3 a3 h => Ax [] (Jb N p0 ((fun (x : List Bool) => EU N x p2)) v3 a3) cb rfl (Cc rfl (qp rfl (qe rfl ?_)))
   exact sn [] h
  ·refine qw 4 rfl (qp rfl (qe rfl ?_))
   exact sn [] h
 ·obtain rfl := sj h
  refine Af (sm [] [(6, bD v1)] [] rfl rfl) (Aq ?_)
  exact ⟨⟨[_], tm, rfl⟩, tv⟩
theorem QZ (N : Nat) (p0 : Aa) (p1 : Am) (r : Int) (h : HI N p0 p1 = some r) : An zA 71 [.e (.agg (Ah p0)), .e (.agg (Bg p1))] [] (iD r) := by
 unfold HI at h
 refine cw (n := 87) (rs := [.tmp 4]) Tryz.func71 fun w0 S0 => ?_
 refine wq rfl (qb rfl (qb rfl (qa rfl (Ab (wp rfl (qf G5 rfl (ql B4 rfl (qf Kg rfl (ql Ue rfl ?_)))))))))
 refine Bq h fun v1 a1 h => Ax [] (RX N p1.ff p1.fr v1 a1) cX rfl (Cc rfl (Ab ?_))
 refine A7 h (fun h => ?_) fun h => ?_
 ·refine wq rfl (qe rfl ?_)
  obtain rfl := sj h
  refine Af (sm [] [(4, iD 1)] [] rfl rfl) (Aq ?_)
  exact ⟨⟨[_], tm, rfl⟩, tv⟩
 ·refine Ai (AK ?_)
  refine AN h (fun v3 => mk [(2, oD (.ptr 2 0)), (3, oD (.ptr 3 0)), (29, bD v3)] [(2, .box (Ah p0)), (3, .box (Bg p1))]) (fun j3 h => ?_) (fun v3 h => ?_)
  ·refine Ag As rfl (qf DA rfl (ql B4 rfl (qf Bf rfl (ql A6 rfl (AO Au rfl ?_)))))
   refine Bq h fun v4 a4 h => Ax [] (HB N p1.fg ((p0.fb.length : Int)) v4 a4) Xz rfl (Cc rfl (qm rfl ?_))
   refine EM 21 h rfl (fun h => ?_) fun h => ?_
   ·refine qw 7 rfl (qp rfl (Ab ?_))
    exact sn [] h
   ·refine qf Ik rfl (ql B4 rfl (qf Bf rfl (ql A6 rfl (AO Au rfl ?_))))
    refine Bq h fun v6 a6 h => Ax [] (HB N p1.fj ((p0.fb.length : Int)) v6 a6) Xz rfl (Cc rfl (qp rfl (Ab ?_)))
    exact sn [] h
  ·refine A7 h (fun h => ?_) fun h => ?_
   ·refine wq rfl (qe rfl ?_)
    obtain rfl := sj h
    refine Af (sm [] [(4, iD 4)] [] rfl rfl) (Aq ?_)
    exact ⟨⟨[_], tm, rfl⟩, tv⟩
   ·refine Ai (wq rfl (qf Bf rfl (ql A6 rfl (qf DA rfl (ql B4 rfl ?_)))))
    refine Bb h fun v8 a8 b8 h => qi Au CP a8 (Ac b8) rfl (qk B4 rfl (qa rfl (Ab (wq rfl (qf G5 rfl (ql B4 rfl (B9 rfl (qa rfl (Ab (AK ?_))))))))))
    refine AN h (fun v9 => mk [(3, oD (.ptr 3 0)), (70, bD v9)] [(3, .box (Bg p1))]) (fun j9 h => ?_) (fun v9 h => ?_)
    ·refine Ag As rfl (qf HJ rfl (ql Jf rfl (qm rfl (qf Bf rfl (ql A6 rfl (qf Ik rfl (ql B4 rfl ?_)))))))
     refine Bb h fun v10 a10 b10 h => qi Au CP a10 (Ac b10) rfl (qk B4 rfl ?_)
     refine Bq h fun v11 a11 h => Ax [] (Mg N p1.fq v8 v10 v11 a11) ZG rfl (Cc rfl (qm rfl ?_))
     refine EM 50 h rfl (fun h => ?_) fun h => ?_
     ·refine qw 2 rfl (qu rfl (qu rfl (qu rfl (qu rfl (qu rfl (qu rfl (qn rfl (qp rfl (qw 4 rfl (qu rfl (qu rfl (qu rfl (qu rfl (qn rfl (qp rfl (AD (by kernel_rfl) ?_))))))))))))))))
      exact sn [] h
     ·refine qw 2 rfl ?_
      refine EM 52 h rfl (fun h => ?_) fun h => ?_
      ·refine qf F5 rfl (ql Jf rfl (qw 2 rfl ?_))
       refine Bq h fun v14 a14 h => Ax [] (Mg N p1.fk v8 v8 v14 a14) ZG rfl (Cc rfl (qp rfl (qp rfl (qm rfl ?_))))
       refine EM 61 h rfl (fun h => ?_) fun h => ?_
       ·refine qw 3 rfl (qu rfl (qu rfl (qu rfl (qu rfl (qn rfl (qp rfl (AD (by kernel_rfl) ?_)))))))
        exact sn [] h
       ·refine qm rfl (Cc rfl (qm rfl ?_))
        refine EM 64 h rfl (fun h => ?_) fun h => ?_
        ·refine qf F5 rfl (ql Jf rfl (AO E5 rfl (FW rfl (qp rfl (qp rfl (AD (by kernel_rfl) ?_))))))
         exact sn [] h
        ·refine qw 4 rfl (qp rfl (qp rfl (AD (by kernel_rfl) ?_)))
         exact sn [] h
      ·refine qw 6 rfl (qp rfl (qp rfl (qw 2 rfl (Cc rfl (qm rfl ?_)))))
       refine EM 64 h rfl (fun h => ?_) fun h => ?_
       ·refine qf F5 rfl (ql Jf rfl (AO E5 rfl (FW rfl (qp rfl (qp rfl (AD (by kernel_rfl) ?_))))))
        exact sn [] h
       ·refine qw 4 rfl (qp rfl (qp rfl (AD (by kernel_rfl) ?_)))
        exact sn [] h
    ·refine A7 h (fun h => ?_) fun h => ?_
     ·refine wq rfl (qe rfl ?_)
      obtain rfl := sj h
      refine Af (sm [] [(4, iD 6)] [] rfl rfl) (Aq ?_)
      exact ⟨⟨[_], tm, rfl⟩, tv⟩
     ·refine Ai (wp rfl (qf F5 rfl (ql Jf rfl (AO E5 rfl (qm rfl (Ab ?_))))))
      refine Ay (L := DV N p1) h (fun v19 => mk [(3, oD (.ptr 3 0)), (73, iD ((p1.fk.length : Int))), (74, iD v19)] [(3, .box (Bg p1))]) (fun v20 => mk [] []) (fun _ _ => rfl) (sm [] _ _ rfl rfl) (fun j19 n19 v19 h => ?_) (fun v20 s h hs => ?_)
      ·unfold DV at h
       refine wq rfl (AV rfl (Ab (AK ?_)))
       refine A7 h (fun h => ?_) fun h => ?_
       ·refine Ai (AK (AF (wq rfl (qm rfl (qa rfl (Ab (wq rfl (qf F5 rfl (ql Jf rfl (qm rfl ?_))))))))))
        refine Bb h fun v22 a22 b22 h => qi E5 KF a22 (Ac b22) rfl (qk Pp rfl (qm rfl ?_))
        refine Bb h fun v23 a23 b23 h => qi F1 Qs a23 (Ac b23) rfl (qk Ue rfl (Cc rfl (Ab ?_)))
        refine A7 h (fun h => ?_) fun h => ?_
        ·refine wq rfl (qe rfl ?_)
         obtain rfl := sj h
         refine Af (sm [] [(4, iD 1)] [] rfl rfl) (Aq ?_)
         exact ⟨⟨[_], tm, rfl⟩, tv⟩
        ·refine Ai (Ag As rfl (AP rfl (qm rfl (Ab ?_))))
         exact sn [] h
       ·refine AQ ?_
        exact sn [] h
      ·refine Af hs (wq rfl (qe rfl ?_))
       obtain rfl := sj h
       refine Af (sm [] [(4, iD 0)] [] rfl rfl) (Aq ?_)
       exact ⟨⟨[_], tm, rfl⟩, tv⟩
theorem Fv (N : Nat) (p0 : Aa) (r : Int) (h : Cq N p0 = some r) : An zA 38 [.e (.agg (Ah p0))] [] (iD r) := by
 unfold Cq at h
 refine cw (n := 81) (rs := [.tmp 2]) Tryz.func38 fun w0 S0 => ?_
 refine wq rfl (qb rfl (qa rfl (Ab (wq rfl (qf Bf rfl (ql A6 rfl (AO Au rfl (qa rfl (Ab (AK ?_))))))))))
 refine AN h (fun v1 => mk [(1, oD (.ptr 1 0)), (3, iD ((p0.fb.length : Int))), (19, bD v1)] [(1, .box (Ah p0))]) (fun j1 h => ?_) (fun v1 h => ?_)
 ·refine Ag As rfl (qm rfl (FW rfl (qm rfl ?_)))
  refine EM 14 h rfl (fun h => ?_) fun h => ?_
  ·refine qw 4 rfl (qp rfl (Ab ?_))
   exact sn [] h
  ·refine qf Cs rfl (ql HN rfl (AO DT rfl (FW rfl (qp rfl (Ab ?_)))))
   exact sn [] h
 ·refine A7 h (fun h => ?_) fun h => ?_
  ·refine wq rfl (qe rfl ?_)
   obtain rfl := sj h
   refine Af (sm [] [(2, iD 3)] [] rfl rfl) (Aq ?_)
   exact ⟨⟨[_], tm, rfl⟩, tv⟩
  ·refine Ai (AK ?_)
   refine AN h (fun v4 => mk [(1, oD (.ptr 1 0)), (31, bD v4)] [(1, .box (Ah p0))]) (fun j4 h => ?_) (fun v4 h => ?_)
   ·refine Ag As rfl (qf F7 rfl (ql A6 rfl (AO Au rfl (qm rfl (BB rfl (qm rfl ?_))))))
    refine EM 25 h rfl (fun h => ?_) fun h => ?_
    ·refine qw 5 rfl (qp rfl (Ab ?_))
     exact sn [] h
    ·refine qf Hg rfl (ql A6 rfl (AO Au rfl (qm rfl (BB rfl (qp rfl (Ab ?_))))))
     exact sn [] h
   ·refine A7 h (fun h => ?_) fun h => ?_
    ·refine wq rfl (qe rfl ?_)
     obtain rfl := sj h
     refine Af (sm [] [(2, iD 6)] [] rfl rfl) (Aq ?_)
     exact ⟨⟨[_], tm, rfl⟩, tv⟩
    ·refine Ai (wp rfl (qf Bf rfl (ql A6 rfl (AO Au rfl (qm rfl (Ab ?_))))))
     refine Ay (L := Ch N p0) h (fun v7 => mk [(1, oD (.ptr 1 0)), (33, pD (.sl (p0.fb.map Ak))), (34, iD ((p0.fb.length : Int))), (35, iD v7)] [(1, .box (Ah p0))]) (fun v8 => mk [(1, oD (.ptr 1 0))] [(1, .box (Ah p0))]) (fun _ _ => rfl) (sm [] _ _ rfl rfl) (fun j7 n7 v7 h => ?_) (fun v8 s h hs => ?_)
     ·unfold Ch at h
      refine wq rfl (AV rfl (Ab (AK ?_)))
      refine A7 h (fun h => ?_) fun h => ?_
      ·refine Ai (AK (AF (wq rfl (qm rfl ?_))))
       refine Bb h fun v10 a10 b10 h => qi Au CP a10 (Ac b10) rfl (qk B4 rfl (qa rfl (qe rfl ?_)))
       refine AN h (fun v11 => mk [(1, oD (.ptr 1 0)), (33, pD (.sl (p0.fb.map Ak))), (34, iD ((p0.fb.length : Int))), (35, iD v7), (65, bD v11)] [(1, .box (Ah p0))]) (fun j11 h => ?_) (fun v11 h => ?_)
       ·refine Ag As rfl (qm rfl (AV rfl (qm rfl ?_)))
        refine EM 42 h rfl (fun h => ?_) fun h => ?_
        ·refine qw 2 rfl (qp rfl (qw 9 rfl (qp rfl (qw 9 rfl (qp rfl (Ab ?_))))))
         exact sn [] h
        ·refine qm rfl (FW rfl (qp rfl (qm rfl ?_)))
         refine EM 46 h rfl (fun h => ?_) fun h => ?_
         ·refine qw 8 rfl (qp rfl (qw 9 rfl (qp rfl (Ab ?_))))
          exact sn [] h
         ·refine qf F7 rfl (ql A6 rfl (qm rfl ?_))
          refine Bb h fun v14 a14 b14 h => qi Au CP a14 (Ac b14) rfl (qk B4 rfl (qm rfl ?_))
          refine Bq h fun v15 a15 h => Ax [] (HB N v14 v10 v15 a15) Xz rfl (Cc rfl (qp rfl (qm rfl ?_)))
          refine EM 56 h rfl (fun h => ?_) fun h => ?_
          ·refine qw 8 rfl (qp rfl (Ab ?_))
           exact sn [] h
          ·refine qf Hg rfl (ql A6 rfl (qm rfl ?_))
           refine Bb h fun v17 a17 b17 h => qi Au CP a17 (Ac b17) rfl (qk B4 rfl (qm rfl ?_))
           refine Bq h fun v18 a18 h => Ax [] (HB N v17 v10 v18 a18) Xz rfl (Cc rfl (qp rfl (Ab ?_)))
           exact sn [] h
       ·refine A7 h (fun h => ?_) fun h => ?_
        ·refine wq rfl (qe rfl ?_)
         obtain rfl := sj h
         refine Af (sm [] [(2, iD 7)] [] rfl rfl) (Aq ?_)
         exact ⟨⟨[_], tm, rfl⟩, tv⟩
        ·refine Ai (Ag As rfl (AP rfl (qm rfl (Ab ?_))))
         exact sn [] h
      ·refine AQ ?_
       exact sn [] h
     ·refine Af hs (wp rfl (qf Cs rfl (ql HN rfl (AO DT rfl (qm rfl (Ab ?_))))))
      refine Ay (L := B7 N p0) h (fun v20 => mk [(1, oD (.ptr 1 0)), (68, pD (.sl (p0.fc.map AT))), (69, iD ((p0.fc.length : Int))), (70, iD v20)] [(1, .box (Ah p0))]) (fun v21 => mk [] []) (fun _ _ => rfl) (sm [] _ _ rfl rfl) (fun j20 n20 v20 h => ?_) (fun v21 s h hs => ?_)
      ·unfold B7 at h
       refine wq rfl (AV rfl (Ab (AK ?_)))
       refine A7 h (fun h => ?_) fun h => ?_
       ·refine Ai (AK (AF (wq rfl ?_)))
        refine Bb h fun v23 a23 b23 h => qi DT DM a23 (Ac b23) rfl (qK Hy DM rfl (qz JS rfl (qs DM rfl (Ab (wq rfl (qL Dk Cg rfl (qL Hy DM rfl ?_)))))))
        refine Bq h fun v24 a24 h => Ax [] (QZ N p0 v23 v24 a24) eJ rfl (qa rfl (Ab (wq rfl (qm rfl (BB rfl (Ab ?_))))))
        refine A7 h (fun h => ?_) fun h => ?_
        ·refine wq rfl (qm rfl (qe rfl ?_))
         obtain rfl := sj h
         refine Af (sm [] [(2, iD v24)] [] rfl rfl) (Aq ?_)
         exact ⟨⟨[_], tm, rfl⟩, tv⟩
        ·refine Ai (Ag As rfl (AP rfl (qm rfl (Ab ?_))))
         exact sn [] h
       ·refine AQ ?_
        exact sn [] h
      ·refine Af hs (wq rfl (qe rfl ?_))
       obtain rfl := sj h
       refine Af (sm [] [(2, iD 0)] [] rfl rfl) (Aq ?_)
       exact ⟨⟨[_], tm, rfl⟩, tv⟩
theorem NN (N : Nat) (p0 : Int) (r : Int) (h : IA N p0 = some r) : An zA 148 [pD (.val (.int .u32 p0))] [] (iD r) := by
 unfold IA at h
 refine cw (n := 19) (rs := [.tmp 2]) Tryz.func148 fun w0 S0 => ?_
 refine wq rfl (qe rfl ?_)
 refine AN h (fun v1 => mk [(0, pD (.val (.int .u32 v1.1))), (2, iD v1.2)] []) (fun j1 h => ?_) (fun v1 h => ?_)
 ·refine wq rfl (qm rfl (Df rfl (Ab ?_)))
  refine A7 h (fun h => ?_) fun h => ?_
  ·refine wq rfl (qm rfl (Ga rfl (by decide) (qa rfl (Ab (Ag As rfl (qe rfl ?_))))))
   exact sn [] h
  ·refine Ai ?_
   exact sn [] h
 ·refine AN h (fun v3 => mk [(0, pD (.val (.int .u32 v3.1))), (2, iD v3.2)] []) (fun j3 h => ?_) (fun v3 h => ?_)
  ·refine wq rfl (qm rfl (Df rfl (Ab ?_)))
   refine A7 h (fun h => ?_) fun h => ?_
   ·refine wq rfl (qm rfl (Ga rfl (by decide) (qa rfl (Ab (Ag As rfl (qm rfl (AP rfl (qe rfl ?_))))))))
    exact sn [] h
   ·refine Ai ?_
    exact sn [] h
  ·refine wq rfl (qw 2 rfl (Id Tt dG rfl ?_))
   refine Bq h fun v5 a5 h => Jl (.p rfl) rfl rfl S8 a5 ?_
   refine Id Yv VV rfl (AP rfl (qe rfl ?_))
   obtain rfl := sj h
   refine Af (sm [] [(2, iD ((wI .i64 (v3.2 + (wI .i64 v5)))))] [] rfl rfl) (Aq ?_)
   exact ⟨⟨[_], tm, rfl⟩, tv⟩
theorem NO (N : Nat) (p0 : Int) (r : Int) (h : Ix N p0 = some r) : An zA 149 [pD (.val (.int .u64 p0))] [] (iD r) := by
 unfold Ix at h
 refine cw (n := 25) (rs := [.tmp 2]) Tryz.func149 fun w0 S0 => ?_
 refine wq rfl (qe rfl ?_)
 refine AN h (fun v1 => mk [(0, pD (.val (.int .u64 v1.1))), (2, iD v1.2)] []) (fun j1 h => ?_) (fun v1 h => ?_)
 ·refine wq rfl (qm rfl (Df rfl (Ab ?_)))
  refine A7 h (fun h => ?_) fun h => ?_
  ·refine wq rfl (qm rfl (Ga rfl (by decide) (qa rfl (Ab (Ag As rfl (qe rfl ?_))))))
   exact sn [] h
  ·refine Ai ?_
   exact sn [] h
 ·refine AN h (fun v3 => mk [(0, pD (.val (.int .u64 v3.1))), (2, iD v3.2)] []) (fun j3 h => ?_) (fun v3 h => ?_)
  ·refine wq rfl (qm rfl (Df rfl (Ab ?_)))
   refine A7 h (fun h => ?_) fun h => ?_
   ·refine wq rfl (qm rfl (Ga rfl (by decide) (qa rfl (Ab (Ag As rfl (qm rfl (AP rfl (qe rfl ?_))))))))
    exact sn [] h
   ·refine Ai ?_
    exact sn [] h
  ·refine AN h (fun v5 => mk [(0, pD (.val (.int .u64 v5.1))), (2, iD v5.2)] []) (fun j5 h => ?_) (fun v5 h => ?_)
   ·refine wq rfl (qm rfl (Df rfl (Ab ?_)))
    refine A7 h (fun h => ?_) fun h => ?_
    ·refine wq rfl (qm rfl (Ga rfl (by decide) (qa rfl (Ab (Ag As rfl (qm rfl (AP rfl (qe rfl ?_))))))))
     exact sn [] h
    ·refine Ai ?_
     exact sn [] h
   ·refine wq rfl (qw 2 rfl (Id U3 dG rfl ?_))
    refine Bq h fun v7 a7 h => Jl (.p rfl) rfl rfl S8 a7 ?_
    refine Id Yv VV rfl (AP rfl (qe rfl ?_))
    obtain rfl := sj h
    refine Af (sm [] [(2, iD ((wI .i64 (v5.2 + (wI .i64 v7)))))] [] rfl rfl) (Aq ?_)
    exact ⟨⟨[_], tm, rfl⟩, tv⟩
theorem LZ (N : Nat) (p0 : Int) (r : Int) (h : HR N p0 = some r) : An zA 112 [pD (.val (.int .u64 p0))] [] (iD r) := by
 unfold HR at h
 refine cw (n := 8) (rs := [.tmp 2]) Tryz.func112 fun w0 S0 => ?_
 refine wq rfl (qa rfl (Ab (AK ?_)))
 refine A7 h (fun h => ?_) fun h => ?_
 ·refine wq rfl (qm rfl (Id Wb Rd rfl ?_))
  refine Bq h fun v2 a2 h => Ax [] (NN N ((wI .u32 p0)) v2 a2) cg rfl (qe rfl ?_)
  obtain rfl := sj h
  refine Af (sm [] [(2, iD v2)] [] rfl rfl) (Aq ?_)
  exact ⟨⟨[_], tm, rfl⟩, tv⟩
 ·refine Ai (wq rfl (qm rfl ?_))
  refine Bq h fun v3 a3 h => Ax [] (NO N p0 v3 a3) dD rfl (qe rfl ?_)
  obtain rfl := sj h
  refine Af (sm [] [(2, iD v3)] [] rfl rfl) (Aq ?_)
  exact ⟨⟨[_], tm, rfl⟩, tv⟩
theorem Im (N : Nat) (p0 : List Int) (p1 : Int) (p2 : Int) (p3 : (Int × Int) → Option Int) (r : (List Int)) (h : Eu N p0 p1 p2 p3 = some r) : B2 zA 140 [oD (.own 90000), iD p1, iD p2, oD (.clo (BS (F2 false Av false Av) CT p3))] [(.vec 1 (p0.map Av), .vec 1 (r.map Av))] [] (.tup []) := by
 unfold Eu at h
 refine Bz (n := 53) (rs := []) Tryz.func140 rfl rfl rfl (D8 rfl) (D8 rfl) rfl rfl (D8 rfl) rfl (D8 rfl) fun w0 S0 GL => Ph ?_
 refine Af (sm [] [(0, oD (.own 90000)), (1, iD p1), (2, iD p2), (3, oD (.clo (BS (F2 false Av false Av) CT p3)))] [(90000, .vec 1 (p0.map Av))] rfl rfl) (wq rfl (qm rfl (AP rfl (qe rfl ?_))))
 refine Ay (L := CF N p1 p2 p3) h (fun v1 => mk [(0, oD (.own 90000)), (1, iD p1), (2, iD p2), (3, oD (.clo (BS (F2 false Av false Av) CT p3))), (8, iD v1.2)] [(90000, .vec 1 (v1.1.map Av))]) (fun v2 => mk [] [(90000, .vec 1 (v2.map Av))]) (fun _ _ => rfl) (sm [] _ _ rfl rfl) (fun j1 n1 v1 h => ?_) (fun v2 s h hs => ?_)
 ·unfold CF at h
  refine wp rfl (qw 2 rfl (AV rfl (Ab ?_)))
  refine A7 h (fun h => ?_) fun h => ?_
  ·refine Ai (AK (AF (wq rfl (qm rfl (qe rfl ?_)))))
   refine Ay (L := CL N p1 p3) h (fun v4 => mk [(0, oD (.own 90000)), (1, iD p1), (2, iD p2), (3, oD (.clo (BS (F2 false Av false Av) CT p3))), (8, iD v1.2), (9, iD v4.2)] [(90000, .vec 1 (v4.1.map Av))]) (fun v5 => mk [(0, oD (.own 90000)), (1, iD p1), (2, iD p2), (3, oD (.clo (BS (F2 false Av false Av) CT p3))), (8, iD v1.2)] [(90000, .vec 1 (v5.map Av))]) (fun _ _ => rfl) (sm [] _ _ rfl rfl) (fun j4 n4 v4 h => ?_) (fun v5 s h hs => ?_)
   ·unfold CL at h
    refine AK ?_
    refine AN h (fun v6 => mk [(0, oD (.own 90000)), (1, iD p1), (2, iD p2), (3, oD (.clo (BS (F2 false Av false Av) CT p3))), (8, iD v1.2), (9, iD v4.2), (34, bD v6)] [(90000, .vec 1 (v4.1.map Av))]) (fun j6 h => ?_) (fun v6 h => ?_)
    ·refine Ag As rfl (qw 2 rfl (FW rfl (qm rfl ?_)))
     refine EM 21 h rfl (fun h => ?_) fun h => ?_
     ·refine qw 3 rfl ?_
      refine Bb h fun v8 a8 b8 h => qI A0 Bj a8 (Ac b8) rfl (qj D1 (Ac b8) rfl (qw 2 rfl (Cy rfl ?_)))
      refine Bb h fun v9 a9 b9 h => qI A0 Bj a9 (Ac b9) rfl (qj D1 (Ac b9) rfl ?_)
      refine Bq h fun v10 a10 h => Fk (ds0 := [_, _]) (ar := (F2 false Av false Av) ((v8, v9))) (.g rfl rfl) rfl rfl ⟨rfl, rfl, tv⟩ rfl rfl rfl (Fi (Hu _ _ _ _ EP EP) a10) ?_
      refine AV rfl (qp rfl (AD (by kernel_rfl) ?_))
      exact sn [] h
     ·refine qw 12 rfl (qp rfl (AD (by kernel_rfl) ?_))
      exact sn [] h
    ·refine A7 h (fun h => ?_) fun h => ?_
     ·refine Ai (AK (AF (Ag As rfl (qw 4 rfl (Cy rfl (qw 2 rfl (Cy rfl ?_)))))))
      refine Bb h fun v12 a12 b12 h => qI A0 Bj a12 (Ac b12) rfl (qj D1 (Ac b12) rfl (qw 2 rfl ?_))
      refine Bb h fun v13 a13 b13 h => qI A0 Bj a13 (Ac b13) rfl (qj D1 (Ac b13) rfl ?_)
      refine Bb h fun v14 a14 b14 h => qI A0 Bj a14 (Ac b14) rfl ?_
      refine A8 rfl rfl rfl rfl (Ac b14) rfl Bj rfl (D8 rfl) (A5 Av v4.1 _ v12) ?_
      refine Bb h fun v15 a15 b15 h => qI A0 Bj a15 (Ac b15) rfl ?_
      refine A8 rfl rfl rfl rfl (Ac b15) rfl Bj rfl (D8 rfl) (A5 Av (v4.1.set ((v4.2).toNat) v12) _ v13) ?_
      refine AD (by kernel_rfl) (Ag As rfl (qm rfl (Cy rfl (qe rfl ?_))))
      exact sn [] h
     ·refine AQ ?_
      exact sn [] h
   ·refine Af hs (Ag As rfl (qm rfl (AP rfl (qe rfl ?_))))
    exact sn [] h
  ·refine AQ ?_
   exact sn [] h
 ·obtain rfl := sj h
  refine ⟨_, hs.trans (sm [] [] [(90000, .vec 1 (v2.map Av))] rfl rfl), ?_⟩
  exact ⟨⟨[], tv, rfl⟩, ⟨rfl, tv⟩, tv⟩
theorem G1 (N : Nat) (p0 : List Int) (p1 : Int) (p2 : Int) (p3 : Int) (p4 : (Int × Int) → Option Int) (r : (List Int)) (h : D5 N p0 p1 p2 p3 p4 = some r) : B2 zA 168 [oD (.own 90000), iD p1, iD p2, iD p3, oD (.clo (BS (F2 false Av false Av) CT p4))] [(.vec 1 (p0.map Av), .vec 1 (r.map Av))] [] (.tup []) := by
 unfold D5 at h
 refine Bz (n := 82) (rs := []) Tryz.func168 rfl rfl rfl (D8 rfl) (D8 rfl) rfl rfl (D8 rfl) rfl (D8 rfl) fun w0 S0 GL => Ph ?_
 refine Af (sm [] [(0, oD (.own 90000)), (1, iD p1), (2, iD p2), (3, iD p3), (4, oD (.clo (BS (F2 false Av false Av) CT p4)))] [(90000, .vec 1 (p0.map Av))] rfl rfl) (wq rfl (qm rfl (qe rfl ?_)))
 refine Ay (L := DB N p2 p3 p4) h (fun v1 => mk [(0, oD (.own 90000)), (2, iD p2), (3, iD p3), (4, oD (.clo (BS (F2 false Av false Av) CT p4))), (10, iD v1.2)] [(90000, .vec 1 (v1.1.map Av))]) (fun v2 => mk [] [(90000, .vec 1 (v2.map Av))]) (fun _ _ => rfl) (sm [] _ _ rfl rfl) (fun j1 n1 v1 h => ?_) (fun v2 s h hs => ?_)
 ·unfold DB at h
  refine AF (wq rfl (qm rfl (KI rfl (AP rfl (qa rfl (Ab (wp rfl (qw 2 rfl (Df rfl (Ab ?_))))))))))
  refine A7 h (fun h => ?_) fun h => ?_
  ·refine AQ ?_
   exact sn [] h
  ·refine Ai ?_
   refine AN h (fun v4 => mk [(0, oD (.own 90000)), (2, iD p2), (3, iD p3), (4, oD (.clo (BS (F2 false Av false Av) CT p4))), (10, iD v1.2), (11, iD v4)] [(90000, .vec 1 (v1.1.map Av))]) (fun j4 h => ?_) (fun v4 h => ?_)
   ·refine AN h (fun v5 => mk [(0, oD (.own 90000)), (2, iD p2), (3, iD p3), (4, oD (.clo (BS (F2 false Av false Av) CT p4))), (10, iD v1.2), (11, iD ((wI .i64 ((wI .i64 (2 * v1.2)) + 1)))), (40, bD v5)] [(90000, .vec 1 (v1.1.map Av))]) (fun j5 h => ?_) (fun v5 h => ?_)
    ·refine Ag As rfl (qm rfl (AP rfl (qm rfl (AV rfl (qm rfl ?_)))))
     refine EM 23 h rfl (fun h => ?_) fun h => ?_
     ·refine qw 4 rfl (AP rfl ?_)
      refine Bb h fun v7 a7 b7 h => qI A0 Bj a7 (Ac b7) rfl (qj D1 (Ac b7) rfl (qw 3 rfl (AP rfl (AP rfl ?_))))
      refine Bb h fun v8 a8 b8 h => qI A0 Bj a8 (Ac b8) rfl (qj D1 (Ac b8) rfl ?_)
      refine Bq h fun v9 a9 h => Fk (ds0 := [_, _]) (ar := (F2 false Av false Av) ((v7, v8))) (.g rfl rfl) rfl rfl ⟨rfl, rfl, tv⟩ rfl rfl rfl (Fi (Hu _ _ _ _ EP EP) a9) ?_
      refine AV rfl (qp rfl (AD (by kernel_rfl) ?_))
      exact sn [] h
     ·refine qw 16 rfl (qp rfl (AD (by kernel_rfl) ?_))
      exact sn [] h
    ·refine A7 h (fun h => ?_) fun h => ?_
     ·refine Ag As rfl (qm rfl (AP rfl (qe rfl ?_)))
      exact sn [] h
     ·refine Ai ?_
      exact sn [] h
   ·refine wp rfl (qw 4 rfl (AP rfl ?_))
    refine Bb h fun v11 a11 b11 h => qI A0 Bj a11 (Ac b11) rfl (qj D1 (Ac b11) rfl (qw 3 rfl (AP rfl ?_)))
    refine Bb h fun v12 a12 b12 h => qI A0 Bj a12 (Ac b12) rfl (qj D1 (Ac b12) rfl ?_)
    refine Bq h fun v13 a13 h => Fk (ds0 := [_, _]) (ar := (F2 false Av false Av) ((v11, v12))) (.p rfl) rfl rfl ⟨rfl, rfl, tv⟩ rfl rfl rfl (Fi (Hu _ _ _ _ EP EP) a13) ?_
    refine AV rfl (Cc rfl (AD (by kernel_rfl) ?_))
    refine A7 h (fun h => ?_) fun h => ?_
    ·obtain rfl := sj h
     refine Aq ⟨_, (sm [] [] [(90000, .vec 1 (v1.1.map Av))] rfl rfl), ?_⟩
     exact ⟨⟨[], tv, rfl⟩, ⟨rfl, tv⟩, tv⟩
    ·refine Ai (wq rfl (qw 3 rfl (AP rfl (qw 3 rfl (AP rfl (qw 3 rfl (AP rfl ?_)))))))
     refine Bb h fun v15 a15 b15 h => qI A0 Bj a15 (Ac b15) rfl (qj D1 (Ac b15) rfl (qw 3 rfl (AP rfl ?_)))
     refine Bb h fun v16 a16 b16 h => qI A0 Bj a16 (Ac b16) rfl (qj D1 (Ac b16) rfl ?_)
     refine Bb h fun v17 a17 b17 h => qI A0 Bj a17 (Ac b17) rfl ?_
     refine A8 rfl rfl rfl rfl (Ac b17) rfl Bj rfl (D8 rfl) (A5 Av v1.1 _ v15) ?_
     refine Bb h fun v18 a18 b18 h => qI A0 Bj a18 (Ac b18) rfl ?_
     refine A8 rfl rfl rfl rfl (Ac b18) rfl Bj rfl (D8 rfl) (A5 Av (v1.1.set (((wI .i64 (p3 + v1.2))).toNat) v15) _ v16) ?_
     refine AD (by kernel_rfl) (Ag As rfl (qm rfl (qe rfl ?_)))
     exact sn [] h
 ·obtain rfl := sj h
  refine ⟨_, hs.trans (sm [] [] [(90000, .vec 1 (v2.map Av))] rfl rfl), ?_⟩
  exact ⟨⟨[], tv, rfl⟩, ⟨rfl, tv⟩, tv⟩
theorem JG (N : Nat) (p0 : List Int) (p1 : Int) (p2 : Int) (p3 : (Int × Int) → Option Int) (r : (List Int)) (h : Ff N p0 p1 p2 p3 = some r) : B2 zA 141 [oD (.own 90000), iD p1, iD p2, oD (.clo (BS (F2 false Av false Av) CT p3))] [(.vec 1 (p0.map Av), .vec 1 (r.map Av))] [] (.tup []) := by
 unfold Ff at h
 refine Bz (n := 60) (rs := []) Tryz.func141 rfl rfl rfl (D8 rfl) (D8 rfl) rfl rfl (D8 rfl) rfl (D8 rfl) fun w0 S0 GL => Ph ?_
 refine Af (sm [] [(0, oD (.own 90000)), (1, iD p1), (2, iD p2), (3, oD (.clo (BS (F2 false Av false Av) CT p3)))] [(90000, .vec 1 (p0.map Av))] rfl rfl) (wq rfl (qm rfl (qa rfl (Ab (wq rfl (qa rfl (Ab (wq rfl (qw 2 rfl (Cy rfl (qa rfl (Ab (wp rfl (qm rfl (Cy rfl (Qp rfl (by decide) (qe rfl ?_)))))))))))))))))
 refine Ay (L := DC N p1 p2 p3) h (fun v1 => mk [(0, oD (.own 90000)), (3, oD (.clo (BS (F2 false Av false Av) CT p3))), (8, iD p1), (9, iD 0), (10, iD ((wI .i64 (p2 - p1)))), (11, iD v1.2)] [(90000, .vec 1 (v1.1.map Av))]) (fun v2 => mk [(0, oD (.own 90000)), (3, oD (.clo (BS (F2 false Av false Av) CT p3))), (8, iD p1), (9, iD 0), (10, iD ((wI .i64 (p2 - p1))))] [(90000, .vec 1 (v2.map Av))]) (fun _ _ => rfl) (sm [] _ _ rfl rfl) (fun j1 n1 v1 h => ?_) (fun v2 s h hs => ?_)
 ·unfold DC at h
  refine wp rfl (qm rfl (Df rfl (Ab ?_)))
  refine A7 h (fun h => ?_) fun h => ?_
  ·refine Ai (AK (AF (Ag As rfl (qw 5 rfl ?_))))
   refine Bq h fun v4 a4 h => D0 (ds0 := [_, _, _, _, _]) [90000] [] [true] (G1 N v1.1 v1.2 ((wI .i64 (p2 - p1))) p1 p3 v4 a4) (.p rfl) ZD rfl ⟨rfl, rfl, rfl, rfl, rfl, tv⟩ rfl rfl (by decide) ⟨rfl, tv⟩ rfl (Bi rfl) tv ⟨(fun h => by cases h), tv⟩ rfl rfl rfl ?_
   refine Ab (Ag As rfl (qm rfl (Cy rfl (qe rfl ?_))))
   exact sn [] h
  ·refine AQ ?_
   exact sn [] h
 ·refine Af hs (wq rfl (qm rfl (Cy rfl (qe rfl ?_))))
  refine Ay (L := DD N p1 p3) h (fun v5 => mk [(0, oD (.own 90000)), (3, oD (.clo (BS (F2 false Av false Av) CT p3))), (8, iD p1), (9, iD 0), (12, iD v5.2)] [(90000, .vec 1 (v5.1.map Av))]) (fun v6 => mk [] [(90000, .vec 1 (v6.map Av))]) (fun _ _ => rfl) (sm [] _ _ rfl rfl) (fun j5 n5 v5 h => ?_) (fun v6 s h hs => ?_)
  ·unfold DD at h
   refine wp rfl (qm rfl (Df rfl (Ab ?_)))
   refine A7 h (fun h => ?_) fun h => ?_
   ·refine Ai (AK (AF (wq rfl (qw 5 rfl (AP rfl (qw 3 rfl (AP rfl ?_)))))))
    refine Bb h fun v8 a8 b8 h => qI A0 Bj a8 (Ac b8) rfl (qj D1 (Ac b8) rfl (qw 2 rfl ?_))
    refine Bb h fun v9 a9 b9 h => qI A0 Bj a9 (Ac b9) rfl (qj D1 (Ac b9) rfl ?_)
    refine Bb h fun v10 a10 b10 h => qI A0 Bj a10 (Ac b10) rfl ?_
    refine A8 rfl rfl rfl rfl (Ac b10) rfl Bj rfl (D8 rfl) (A5 Av v5.1 _ v8) ?_
    refine Bb h fun v11 a11 b11 h => qI A0 Bj a11 (Ac b11) rfl ?_
    refine A8 rfl rfl rfl rfl (Ac b11) rfl Bj rfl (D8 rfl) (A5 Av (v5.1.set ((p1).toNat) v8) _ v9) ?_
    refine AD (by kernel_rfl) (Ag As rfl (qw 5 rfl ?_))
    refine Bq h fun v12 a12 h => D0 (ds0 := [_, _, _, _, _]) [90000] [] [true] (G1 N ((v5.1.set ((p1).toNat) v8).set (((wI .i64 (p1 + v5.2))).toNat) v9) 0 v5.2 p1 p3 v12 a12) (.p rfl) ZD rfl ⟨rfl, rfl, rfl, rfl, rfl, tv⟩ rfl rfl (by decide) ⟨rfl, tv⟩ rfl (Bi rfl) tv ⟨(fun h => by cases h), tv⟩ rfl rfl rfl ?_
    refine Ab (Ag As rfl (qm rfl (Cy rfl (qe rfl ?_))))
    exact sn [] h
   ·refine AQ ?_
    exact sn [] h
  ·obtain rfl := sj h
   refine ⟨_, hs.trans (sm [] [] [(90000, .vec 1 (v6.map Av))] rfl rfl), ?_⟩
   exact ⟨⟨[], tv, rfl⟩, ⟨rfl, tv⟩, tv⟩
theorem Lt (N : Nat) (p0 : Int) (r : Int) (h : Gz N p0 = some r) : An zA 169 [iD p0] [] (pD (.val (.int .u64 r))) := by
 unfold Gz at h
 refine cw (n := 7) (rs := [.tmp 2]) Tryz.func169 fun w0 S0 => ?_
 refine wq rfl (qa rfl (Ab (wq rfl (qm rfl (Id Z6 Wi rfl ?_)))))
 refine Bq h fun v1 a1 h => Ax [] (LZ N ((wI .u64 p0)) v1 a1) Zz rfl ?_
 refine Gg h fun c2 h => I5 rfl c2 (qe rfl ?_)
 obtain rfl := sj h
 refine Af (sm [] [(2, pD (.val (.int .u64 ((CX .u64 1 v1)))))] [] rfl rfl) (Aq ?_)
 exact ⟨⟨[_], tm, rfl⟩, tv⟩
theorem LA (N : Nat) (p0 : Int) (r : Int × Int) (h : GN N p0 = some r) : B2 zA 170 [oD (.ptr 90000 0)] [(.box [.pure (.val (.int .u64 p0))], .box [.pure (.val (.int .u64 r.2))])] [] (pD (.val (.int .u64 r.1))) := by
 unfold GN at h
 refine Bz (n := 33) (rs := [.tmp 2]) Tryz.func170 rfl rfl rfl (D8 rfl) (D8 rfl) rfl rfl (D8 rfl) rfl (D8 rfl) fun w0 S0 GL => ?_
 refine Af (sm [] [(0, oD (.ptr 90000 0))] [(90000, .box [.pure (.val (.int .u64 p0))])] rfl rfl) (wq rfl (qa rfl (Ab (wq rfl (qm rfl (QN rfl (ql Qr rfl (qm rfl (QN rfl (ql Qr rfl (I5 rfl (by decide) (Xl rfl (QN rfl (qs Vf rfl (AD (by kernel_rfl) (wq rfl (qm rfl (QN rfl (ql Qr rfl (qm rfl (QN rfl (ql Qr rfl (Ga rfl (by decide) (Xl rfl (QN rfl (qs Vf rfl (AD (by kernel_rfl) (wq rfl (qm rfl (QN rfl (ql Qr rfl (qm rfl (QN rfl (ql Qr rfl (I5 rfl (by decide) ?_)))))))))))))))))))))))))))))))))))
 refine Xl rfl (QN rfl (qs Vf rfl (AD (by kernel_rfl) (wq rfl (qm rfl (QN rfl (ql Qr rfl (qe rfl ?_))))))))
 obtain rfl := sj h
 refine Af (sm [] [(2, pD (.val (.int .u64 ((Is .u64 ((Is .u64 ((Is .u64 p0 ((CX .u64 p0 13)))) ((AW .u64 ((Is .u64 p0 ((CX .u64 p0 13)))) 7)))) ((CX .u64 ((Is .u64 ((Is .u64 p0 ((CX .u64 p0 13)))) ((AW .u64 ((Is .u64 p0 ((CX .u64 p0 13)))) 7)))) 17)))))))] [(90000, .box [.pure (.val (.int .u64 ((Is .u64 ((Is .u64 ((Is .u64 p0 ((CX .u64 p0 13)))) ((AW .u64 ((Is .u64 p0 ((CX .u64 p0 13)))) 7)))) ((CX .u64 ((Is .u64 ((Is .u64 p0 ((CX .u64 p0 13)))) ((AW .u64 ((Is .u64 p0 ((CX .u64 p0 13)))) 7)))) 17))))))])] rfl rfl) (Aq ?_)
 exact ⟨⟨[_], tm, rfl⟩, ⟨rfl, tv⟩, tv⟩
theorem Iz (N : Nat) (p0 : List Int) (p1 : Int) (p2 : Int) (p3 : (Int × Int) → Option Int) (r : (List Int)) (h : Er N p0 p1 p2 p3 = some r) : B2 zA 142 [oD (.own 90000), iD p1, iD p2, oD (.clo (BS (F2 false Av false Av) CT p3))] [(.vec 1 (p0.map Av), .vec 1 (r.map Av))] [] (.tup []) := by
 unfold Er at h
 refine Bz (n := 67) (rs := []) Tryz.func142 rfl rfl rfl (D8 rfl) (D8 rfl) rfl rfl (D8 rfl) rfl (D8 rfl) fun w0 S0 GL => Ph ?_
 refine Af (sm [] [(0, oD (.own 90000)), (1, iD p1), (2, iD p2), (3, oD (.clo (BS (F2 false Av false Av) CT p3)))] [(90000, .vec 1 (p0.map Av))] rfl rfl) (wq rfl (qw 2 rfl (Cy rfl (qa rfl (Ab (wq rfl (qm rfl (Df rfl (Ab ?_)))))))))
 refine A7 h (fun h => ?_) fun h => ?_
 ·refine wq rfl (qm rfl (Id Z6 bL rfl (qz ci rfl (qs Vf rfl (Ab (wq rfl (qm rfl ?_)))))))
  refine Bq h fun v2 a2 h => Ax [] (Lt N ((wI .i64 (p2 - p1))) v2 a2) bX rfl (qa rfl (Ab (wq rfl (qw 2 rfl (Qp rfl (by decide) (KI rfl (AP rfl (Cy rfl (qe rfl ?_)))))))))
  refine Ay (L := CK N p1 p2 v2) h (fun v3 => mk [(0, oD (.own 90000)), (1, iD p1), (8, iD ((wI .i64 (p2 - p1)))), (9, oD (.ptr 9 0)), (10, pD (.val (.int .u64 v2))), (11, iD v3.2.2)] [(9, .box [.pure (.val (.int .u64 v3.2.1))]), (90000, .vec 1 (v3.1.map Av))]) (fun v4 => mk [] [(90000, .vec 1 (v4.map Av))]) (fun _ _ => rfl) (sm [] _ _ rfl rfl) (fun j3 n3 v3 h => ?_) (fun v4 s h hs => ?_)
  ·unfold CK at h
   refine wp rfl (qw 3 rfl (Qp rfl (by decide) (KI rfl (AP rfl (AP rfl (L2 rfl (Ab ?_)))))))
   refine A7 h (fun h => ?_) fun h => ?_
   ·refine Ai (AK (AF (wq rfl ?_)))
    refine Bq h fun v6 a6 h => D0 (ds0 := [_]) [9] [] [true] (LA N v3.2.1 v6 a6) (.p rfl) cW rfl ⟨rfl, tv⟩ rfl rfl (by decide) ⟨rfl, tv⟩ rfl (Bi rfl) tv ⟨(fun h => by cases h), tv⟩ rfl rfl rfl ?_
    refine qm rfl (Cy rfl (IT rfl (Id Wb VV rfl (qe rfl ?_))))
    refine AN h (fun v7 => mk [(0, oD (.own 90000)), (1, iD p1), (8, iD ((wI .i64 (p2 - p1)))), (9, oD (.ptr 9 0)), (10, pD (.val (.int .u64 v2))), (11, iD v3.2.2), (12, iD v7)] [(9, .box [.pure (.val (.int .u64 v6.2))]), (90000, .vec 1 (v3.1.map Av))]) (fun j7 h => ?_) (fun v7 h => ?_)
    ·refine wq rfl (qw 2 rfl (Df rfl (Ab ?_)))
     refine A7 h (fun h => ?_) fun h => ?_
     ·refine Ag As rfl (qw 2 rfl (Cy rfl (qe rfl ?_)))
      exact sn [] h
     ·refine Ai ?_
      exact sn [] h
    ·refine Ag As rfl (qw 5 rfl (AP rfl (qw 3 rfl (AP rfl ?_))))
     refine Bb h fun v9 a9 b9 h => qI A0 Bj a9 (Ac b9) rfl (qj D1 (Ac b9) rfl (qw 2 rfl ?_))
     refine Bb h fun v10 a10 b10 h => qI A0 Bj a10 (Ac b10) rfl (qj D1 (Ac b10) rfl ?_)
     refine Bb h fun v11 a11 b11 h => qI A0 Bj a11 (Ac b11) rfl ?_
     refine A8 rfl rfl rfl rfl (Ac b11) rfl Bj rfl (D8 rfl) (A5 Av v3.1 _ v9) ?_
     refine Bb h fun v12 a12 b12 h => qI A0 Bj a12 (Ac b12) rfl ?_
     refine A8 rfl rfl rfl rfl (Ac b12) rfl Bj rfl (D8 rfl) (A5 Av (v3.1.set ((v3.2.2).toNat) v9) _ v10) ?_
     refine AD (by kernel_rfl) (Ag As rfl (qm rfl (AP rfl (qe rfl ?_))))
     exact sn [] h
   ·refine AQ ?_
    exact sn [] h
  ·obtain rfl := sj h
   refine ⟨_, hs.trans (sm [] [] [(90000, .vec 1 (v4.map Av))] rfl rfl), ?_⟩
   exact ⟨⟨[], tv, rfl⟩, ⟨rfl, tv⟩, tv⟩
 ·refine Ai ?_
  obtain rfl := sj h
  refine ⟨_, (sm [] [] [(90000, .vec 1 (p0.map Av))] rfl rfl), ?_⟩
  exact ⟨⟨[], tv, rfl⟩, ⟨rfl, tv⟩, tv⟩
theorem FP (N : Nat) (p0 : List Int) (p1 : Int) (p2 : Int) (p3 : Int) (p4 : (Int × Int) → Option Int) (r : Int × Int × Int) (h : Dv N p0 p1 p2 p3 p4 = some r) : B2 zA 179 [pD (.sl (p0.map Av)), iD p1, iD p2, oD (.ptr 90000 0), oD (.clo (BS (F2 false Av false Av) CT p4))] [(.box [iC p3], .box [iC r.2.2])] [] (.tup [.one (iC r.1), .one (iC r.2.1)]) := by
 unfold Dv at h
 refine Bz (n := 32) (rs := [.tmp 10, .tmp 11]) Tryz.func179 rfl rfl rfl (D8 rfl) (D8 rfl) rfl rfl (D8 rfl) rfl (D8 rfl) fun w0 S0 GL => ?_
 refine Af (sm [] [(0, pD (.sl (p0.map Av))), (1, iD p1), (2, iD p2), (3, oD (.ptr 90000 0)), (4, oD (.clo (BS (F2 false Av false Av) CT p4)))] [(90000, .box [iC p3])] rfl rfl) (wq rfl (qa rfl (qa rfl (Ab (wp rfl (qw 3 rfl ?_))))))
 refine Bb h fun v1 a1 b1 h => qi A0 Bj a1 (Ac b1) rfl (qk D1 rfl (qw 2 rfl ?_))
 refine Bb h fun v2 a2 b2 h => qi A0 Bj a2 (Ac b2) rfl (qk D1 rfl ?_)
 refine Bq h fun v3 a3 h => Fk (ds0 := [_, _]) (ar := (F2 false Av false Av) ((v1, v2))) (.p rfl) rfl rfl ⟨rfl, rfl, tv⟩ rfl rfl rfl (Fi (Hu _ _ _ _ EP EP) a3) ?_
 refine AV rfl (AD (by kernel_rfl) ?_)
 refine A7 h (fun h => ?_) fun h => ?_
 ·refine wq rfl (qm rfl (QN rfl (ql B4 rfl (AP rfl (QN rfl (qs CP rfl (Ab (wq rfl (qw 2 rfl (qa rfl (qe rfl ?_)))))))))))
  obtain rfl := sj h
  refine Af (sm [] [(10, iD p2), (11, iD p1)] [(90000, .box [iC ((wI .i64 (p3 + 1)))])] rfl rfl) (Aq ?_)
  exact ⟨⟨[_, _], ⟨.tmp _ _ rfl, tm⟩, rfl⟩, ⟨rfl, tv⟩, tv⟩
 ·refine Ai (wq rfl (qw 2 rfl (qa rfl (qe rfl ?_))))
  obtain rfl := sj h
  refine Af (sm [] [(10, iD p1), (11, iD p2)] [(90000, .box [iC p3])] rfl rfl) (Aq ?_)
  exact ⟨⟨[_, _], ⟨.tmp _ _ rfl, tm⟩, rfl⟩, ⟨rfl, tv⟩, tv⟩
theorem Ht (N : Nat) (p0 : List Int) (p1 : Int) (p2 : Int) (p3 : Int) (p4 : Int) (p5 : (Int × Int) → Option Int) (r : Int × Int) (h : Ev N p0 p1 p2 p3 p4 p5 = some r) : B2 zA 172 [pD (.sl (p0.map Av)), iD p1, iD p2, iD p3, oD (.ptr 90000 0), oD (.clo (BS (F2 false Av false Av) CT p5))] [(.box [iC p4], .box [iC r.2])] [] (iD r.1) := by
 unfold Ev at h
 refine Bz (n := 41) (rs := [.tmp 12]) Tryz.func172 rfl rfl rfl (D8 rfl) (D8 rfl) rfl rfl (D8 rfl) rfl (D8 rfl) fun w0 S0 GL => ?_
 refine Af (sm [] [(0, pD (.sl (p0.map Av))), (1, iD p1), (2, iD p2), (3, iD p3), (4, oD (.ptr 90000 0)), (5, oD (.clo (BS (F2 false Av false Av) CT p5)))] [(90000, .box [iC p4])] rfl rfl) (wq rfl (qa rfl (Ab (wq rfl (qw 5 rfl ?_)))))
 refine Bq h fun v1 a1 h => D0 (ds0 := [_, _, _, _, _]) [90000] [] [true] (FP N p0 p1 p2 p4 p5 v1 a1) (.p rfl) WN rfl ⟨rfl, rfl, rfl, rfl, rfl, tv⟩ rfl rfl (by decide) ⟨rfl, tv⟩ rfl (Bi rfl) tv ⟨(fun h => by cases h), tv⟩ rfl rfl rfl ?_
 refine qm rfl (qx rfl (qx rfl (qa rfl (qa rfl (Ab (wq rfl (qw 5 rfl ?_)))))))
 refine Bq h fun v2 a2 h => D0 (ds0 := [_, _, _, _, _]) [90000] [] [true] (FP N p0 v1.2.1 p3 v1.2.2 p5 v2 a2) (.p rfl) WN rfl ⟨rfl, rfl, rfl, rfl, rfl, tv⟩ rfl rfl (by decide) ⟨rfl, tv⟩ rfl (Bi rfl) tv ⟨(fun h => by cases h), tv⟩ rfl rfl rfl ?_
 refine qm rfl (qx rfl (qx rfl (qa rfl (qa rfl (Ab (wq rfl (qw 5 rfl ?_)))))))
 refine Bq h fun v3 a3 h => D0 (ds0 := [_, _, _, _, _]) [90000] [] [true] (FP N p0 v1.1 v2.1 v2.2.2 p5 v3 a3) (.p rfl) WN rfl ⟨rfl, rfl, rfl, rfl, rfl, tv⟩ rfl rfl (by decide) ⟨rfl, tv⟩ rfl (Bi rfl) tv ⟨(fun h => by cases h), tv⟩ rfl rfl rfl ?_
 refine qm rfl (qx rfl (qx rfl (qa rfl (qa rfl (Ab (wq rfl (qm rfl (qe rfl ?_))))))))
 obtain rfl := sj h
 refine Af (sm [] [(12, iD v3.2.1)] [(90000, .box [iC v3.2.2])] rfl rfl) (Aq ?_)
 exact ⟨⟨[_], tm, rfl⟩, ⟨rfl, tv⟩, tv⟩
theorem Ep (N : Nat) (p0 : List Int) (p1 : Int) (p2 : Int) (p3 : (Int × Int) → Option Int) (r : Int × Int) (h : B8 N p0 p1 p2 p3 = some r) : B2 zA 171 [pD (.sl (p0.map Av)), iD p1, oD (.ptr 90000 0), oD (.clo (BS (F2 false Av false Av) CT p3))] [(.box [iC p2], .box [iC r.2])] [] (iD r.1) := by
 unfold B8 at h
 refine Bz (n := 18) (rs := [.tmp 8]) Tryz.func171 rfl rfl rfl (D8 rfl) (D8 rfl) rfl rfl (D8 rfl) rfl (D8 rfl) fun w0 S0 GL => ?_
 refine Af (sm [] [(0, pD (.sl (p0.map Av))), (1, iD p1), (2, oD (.ptr 90000 0)), (3, oD (.clo (BS (F2 false Av false Av) CT p3)))] [(90000, .box [iC p2])] rfl rfl) (wq rfl (qa rfl (Ab (wq rfl (qw 2 rfl (Cy rfl (qw 2 rfl (AP rfl (qw 2 rfl ?_)))))))))
 refine Bq h fun v1 a1 h => D0 (ds0 := [_, _, _, _, _, _]) [90000] [] [true] (Ht N p0 ((wI .i64 (p1 - 1))) p1 ((wI .i64 (p1 + 1))) p2 p3 v1 a1) (.p rfl) ZO rfl ⟨rfl, rfl, rfl, rfl, rfl, rfl, tv⟩ rfl rfl (by decide) ⟨rfl, tv⟩ rfl (Bi rfl) tv ⟨(fun h => by cases h), tv⟩ rfl rfl rfl ?_
 refine qa rfl (Ab ?_)
 obtain rfl := sj h
 refine Af (sm [] [(8, iD v1.1)] [(90000, .box [iC v1.2])] rfl rfl) (Aq ?_)
 exact ⟨⟨[_], tm, rfl⟩, ⟨rfl, tv⟩, tv⟩
theorem I0 (N : Nat) (p0 : List Int) (p1 : Int) (p2 : Int) (p3 : (Int × Int) → Option Int) (r : Int × Int) (h : EO N p0 p1 p2 p3 = some r) : An zA 143 [pD (.sl (p0.map Av)), iD p1, iD p2, oD (.clo (BS (F2 false Av false Av) CT p3))] [] (.tup [.one (iC r.1), .one (iC r.2)]) := by
 unfold EO at h
 refine cw (n := 63) (rs := [.tmp 8, .tmp 9]) Tryz.func143 fun w0 S0 => ?_
 refine wq rfl (qa rfl (qa rfl (Ab (wq rfl (qw 2 rfl (Cy rfl (qa rfl (Ab (wq rfl (qz JH rfl (Ab (wq rfl (qw 2 rfl (Qp rfl (by decide) (KI rfl (AP rfl (qa rfl (Ab (wq rfl (qw 2 rfl (Qp rfl (by decide) (KI rfl (AP rfl (qa rfl (Ab (wq rfl (qw 2 rfl (Qp rfl (by decide) (KI rfl ?_)))))))))))))))))))))))))))))
 refine AP rfl (qe rfl ?_)
 refine AN h (fun v1 => mk [(11, oD (.ptr 11 0)), (13, iD v1.2)] [(11, .box [iC v1.1])]) (fun j1 h => ?_) (fun v1 h => ?_)
 ·refine wq rfl (qm rfl (Df rfl (Ab ?_)))
  refine A7 h (fun h => ?_) fun h => ?_
  ·refine AN h (fun v3 => mk [(0, pD (.sl (p0.map Av))), (3, oD (.clo (BS (F2 false Av false Av) CT p3))), (11, oD (.ptr 11 0)), (12, iD v3.2.1), (13, iD v3.2.2.1), (14, iD v3.2.2.2)] [(11, .box [iC v3.1])]) (fun j3 h => ?_) (fun v3 h => ?_)
   ·refine wq rfl (qm rfl (Df rfl (Ab ?_)))
    refine A7 h (fun h => ?_) fun h => ?_
    ·refine wq rfl (qw 3 rfl ?_)
     refine Bq h fun v5 a5 h => D0 (ds0 := [_, _, _, _]) [11] [] [true] (Ep N p0 ((wI .i64 (p1 + (wI .i64 ((wI .i64 (x8 ((wI .i64 (p2 - p1))) 4)) * 1))))) 0 p3 v5 a5) (.p rfl) Wx rfl ⟨rfl, rfl, rfl, rfl, tv⟩ rfl rfl (by decide) ⟨rfl, tv⟩ rfl (Bi rfl) tv ⟨(fun h => by cases h), tv⟩ rfl rfl rfl ?_
     refine qa rfl (Ab (wq rfl (qw 3 rfl ?_)))
     refine Bq h fun v6 a6 h => D0 (ds0 := [_, _, _, _]) [11] [] [true] (Ep N p0 ((wI .i64 (p1 + (wI .i64 ((wI .i64 (x8 ((wI .i64 (p2 - p1))) 4)) * 2))))) v5.2 p3 v6 a6) (.p rfl) Wx rfl ⟨rfl, rfl, rfl, rfl, tv⟩ rfl rfl (by decide) ⟨rfl, tv⟩ rfl (Bi rfl) tv ⟨(fun h => by cases h), tv⟩ rfl rfl rfl ?_
     refine qa rfl (Ab (Ag As rfl (qw 3 rfl ?_)))
     refine Bq h fun v7 a7 h => D0 (ds0 := [_, _, _, _]) [11] [] [true] (Ep N p0 ((wI .i64 (p1 + (wI .i64 ((wI .i64 (x8 ((wI .i64 (p2 - p1))) 4)) * 3))))) v6.2 p3 v7 a7) (.p rfl) Wx rfl ⟨rfl, rfl, rfl, rfl, tv⟩ rfl rfl (by decide) ⟨rfl, tv⟩ rfl (Bi rfl) tv ⟨(fun h => by cases h), tv⟩ rfl rfl rfl ?_
     refine qa rfl (Ab ?_)
     exact sn [] h
    ·refine Ai ?_
     exact sn [] h
   ·refine Ag As rfl (qw 5 rfl ?_)
    refine Bq h fun v8 a8 h => D0 (ds0 := [_, _, _, _, _, _]) [11] [] [true] (Ht N p0 v3.2.1 v3.2.2.1 v3.2.2.2 v3.1 p3 v8 a8) (.p rfl) ZO rfl ⟨rfl, rfl, rfl, rfl, rfl, rfl, tv⟩ rfl rfl (by decide) ⟨rfl, tv⟩ rfl (Bi rfl) tv ⟨(fun h => by cases h), tv⟩ rfl rfl rfl ?_
    refine qa rfl (Ab ?_)
    exact sn [] h
  ·refine Ai ?_
   exact sn [] h
 ·refine wq rfl (ql B4 rfl (Ab (AF (wq rfl (B9 rfl (qe rfl ?_))))))
  refine A7 h (fun h => ?_) fun h => ?_
  ·refine wq rfl (qm rfl (qa rfl (qe rfl ?_)))
   obtain rfl := sj h
   refine Af (sm [] [(8, iD v1.2), (9, iD 1)] [] rfl rfl) (Aq ?_)
   exact ⟨⟨[_, _], ⟨.tmp _ _ rfl, tm⟩, rfl⟩, tv⟩
  ·refine wq rfl (B9 rfl (qe rfl ?_))
   refine A7 h (fun h => ?_) fun h => ?_
   ·refine wq rfl (qm rfl (qa rfl (qe rfl ?_)))
    obtain rfl := sj h
    refine Af (sm [] [(8, iD v1.2), (9, iD 2)] [] rfl rfl) (Aq ?_)
    exact ⟨⟨[_, _], ⟨.tmp _ _ rfl, tm⟩, rfl⟩, tv⟩
   ·refine wq rfl (qm rfl (qa rfl (qe rfl ?_)))
    obtain rfl := sj h
    refine Af (sm [] [(8, iD v1.2), (9, iD 0)] [] rfl rfl) (Aq ?_)
    exact ⟨⟨[_, _], ⟨.tmp _ _ rfl, tm⟩, rfl⟩, tv⟩
theorem IL (N : Nat) (p0 : List Int) (p1 : Int) (p2 : Int) (p3 : (Int × Int) → Option Int) (r : (List Int)) (h : Ey N p0 p1 p2 p3 = some r) : B2 zA 144 [oD (.own 90000), iD p1, iD p2, oD (.clo (BS (F2 false Av false Av) CT p3))] [(.vec 1 (p0.map Av), .vec 1 (r.map Av))] [] (.tup []) := by
 unfold Ey at h
 refine Bz (n := 34) (rs := []) Tryz.func144 rfl rfl rfl (D8 rfl) (D8 rfl) rfl rfl (D8 rfl) rfl (D8 rfl) fun w0 S0 GL => Ph ?_
 refine Af (sm [] [(0, oD (.own 90000)), (1, iD p1), (2, iD p2), (3, oD (.clo (BS (F2 false Av false Av) CT p3)))] [(90000, .vec 1 (p0.map Av))] rfl rfl) (wq rfl (qm rfl (qa rfl (Ab (wq rfl (qm rfl (Cy rfl (qe rfl ?_))))))))
 refine Ay (L := CW N) h (fun v1 => mk [(0, oD (.own 90000)), (8, iD v1.2.1), (9, iD v1.2.2)] [(90000, .vec 1 (v1.1.map Av))]) (fun v2 => mk [] [(90000, .vec 1 (v2.map Av))]) (fun _ _ => rfl) (sm [] _ _ rfl rfl) (fun j1 n1 v1 h => ?_) (fun v2 s h hs => ?_)
 ·unfold CW at h
  refine wp rfl (qw 2 rfl (AV rfl (Ab ?_)))
  refine A7 h (fun h => ?_) fun h => ?_
  ·refine Ai (AF (wq rfl (qw 6 rfl ?_)))
   refine Bb h fun v4 a4 b4 h => qI A0 Bj a4 (Ac b4) rfl (qj D1 (Ac b4) rfl (qw 2 rfl ?_))
   refine Bb h fun v5 a5 b5 h => qI A0 Bj a5 (Ac b5) rfl (qj D1 (Ac b5) rfl ?_)
   refine Bb h fun v6 a6 b6 h => qI A0 Bj a6 (Ac b6) rfl ?_
   refine A8 rfl rfl rfl rfl (Ac b6) rfl Bj rfl (D8 rfl) (A5 Av v1.1 _ v4) ?_
   refine Bb h fun v7 a7 b7 h => qI A0 Bj a7 (Ac b7) rfl ?_
   refine A8 rfl rfl rfl rfl (Ac b7) rfl Bj rfl (D8 rfl) (A5 Av (v1.1.set ((v1.2.1).toNat) v4) _ v5) ?_
   refine AD (by kernel_rfl) (wq rfl (qm rfl (AP rfl (qa rfl (Ab (Ag As rfl (qm rfl (Cy rfl (qe rfl ?_)))))))))
   exact sn [] h
  ·refine AQ ?_
   exact sn [] h
 ·obtain rfl := sj h
  refine ⟨_, hs.trans (sm [] [] [(90000, .vec 1 (v2.map Av))] rfl rfl), ?_⟩
  exact ⟨⟨[], tv, rfl⟩, ⟨rfl, tv⟩, tv⟩
theorem Hi (N : Nat) (p0 : List Int) (p1 : Int) (p2 : Int) (p3 : (Int × Int) → Option Int) (r : Bool × (List Int)) (h : Dr N p0 p1 p2 p3 = some r) : B2 zA 145 [oD (.own 90000), iD p1, iD p2, oD (.clo (BS (F2 false Av false Av) CT p3))] [(.vec 1 (p0.map Av), .vec 1 (r.2.map Av))] [] (bD r.1) := by
 unfold Dr at h
 refine Bz (n := 141) (rs := [.tmp 8]) Tryz.func145 rfl rfl rfl (D8 rfl) (D8 rfl) rfl rfl (D8 rfl) rfl (D8 rfl) fun w0 S0 GL => ?_
 refine Af (sm [] [(0, oD (.own 90000)), (1, iD p1), (2, iD p2), (3, oD (.clo (BS (F2 false Av false Av) CT p3)))] [(90000, .vec 1 (p0.map Av))] rfl rfl) (wq rfl (qa rfl (Ab (wq rfl (qm rfl (AP rfl (qa rfl (Ab (wp rfl (qe rfl ?_))))))))))
 refine Ay (L := BX N p1 p2 p3) h (fun v1 => mk [(0, oD (.own 90000)), (1, iD p1), (2, iD p2), (3, oD (.clo (BS (F2 false Av false Av) CT p3))), (9, iD v1.2.1), (10, iD v1.2.2)] [(90000, .vec 1 (v1.1.map Av))]) (fun v2 => mk [] [(90000, .vec 1 (v2.map Av))]) (fun _ _ => rfl) (sm [] _ _ rfl rfl) (fun j1 n1 v1 h => ?_) (fun v2 s h hs => ?_)
 ·unfold BX at h
  refine wp rfl (qm rfl (AV rfl (Ab ?_)))
  refine A7 h (fun h => ?_) fun h => ?_
  ·refine Ai ?_
   refine AN h (fun v4 => mk [(0, oD (.own 90000)), (1, iD p1), (2, iD p2), (3, oD (.clo (BS (F2 false Av false Av) CT p3))), (9, iD v4.2), (10, iD v1.2.2)] [(90000, .vec 1 (v4.1.map Av))]) (fun j4 h => ?_) (fun v4 h => ?_)
   ·refine AF (AK ?_)
    refine Ay (L := BY N p2 p3 v1) h (fun v5 => mk [(0, oD (.own 90000)), (1, iD p1), (2, iD p2), (3, oD (.clo (BS (F2 false Av false Av) CT p3))), (9, iD v5), (10, iD v1.2.2)] [(90000, .vec 1 (v1.1.map Av))]) (fun v6 => mk [(0, oD (.own 90000)), (1, iD p1), (2, iD p2), (3, oD (.clo (BS (F2 false Av false Av) CT p3))), (9, iD v6), (10, iD v1.2.2)] [(90000, .vec 1 (v1.1.map Av))]) (fun _ _ => rfl) (sm [] _ _ rfl rfl) (fun j5 n5 v5 h => ?_) (fun v6 s h hs => ?_)
    ·unfold BY at h
     refine AK ?_
     refine AN h (fun v7 => mk [(0, oD (.own 90000)), (1, iD p1), (2, iD p2), (3, oD (.clo (BS (F2 false Av false Av) CT p3))), (9, iD v5), (10, iD v1.2.2), (36, bD v7)] [(90000, .vec 1 (v1.1.map Av))]) (fun j7 h => ?_) (fun v7 h => ?_)
     ·refine Ag As rfl (qw 2 rfl (AV rfl (qm rfl ?_)))
      refine EM 22 h rfl (fun h => ?_) fun h => ?_
      ·refine qw 3 rfl ?_
       refine Bb h fun v9 a9 b9 h => qI A0 Bj a9 (Ac b9) rfl (qj D1 (Ac b9) rfl (qw 2 rfl (Cy rfl ?_)))
       refine Bb h fun v10 a10 b10 h => qI A0 Bj a10 (Ac b10) rfl (qj D1 (Ac b10) rfl ?_)
       refine Bq h fun v11 a11 h => Fk (ds0 := [_, _]) (ar := (F2 false Av false Av) ((v9, v10))) (.g rfl rfl) rfl rfl ⟨rfl, rfl, tv⟩ rfl rfl rfl (Fi (Hu _ _ _ _ EP EP) a11) ?_
       refine AV rfl (Cc rfl (qp rfl (AD (by kernel_rfl) ?_)))
       exact sn [] h
      ·refine qw 13 rfl (qp rfl (AD (by kernel_rfl) ?_))
       exact sn [] h
     ·refine A7 h (fun h => ?_) fun h => ?_
      ·refine Ai (AF (Ag As rfl (qm rfl (AP rfl (qe rfl ?_)))))
       exact sn [] h
      ·refine AQ ?_
       exact sn [] h
    ·refine Af hs (wp rfl (qw 2 rfl (B9 rfl (Ab ?_))))
     refine A7 h (fun h => ?_) fun h => ?_
     ·refine wq rfl (qe rfl ?_)
      obtain rfl := sj h
      refine Af (sm [] [(8, bD true)] [(90000, .vec 1 (v1.1.map Av))] rfl rfl) (Aq ?_)
      exact ⟨⟨[_], tm, rfl⟩, ⟨rfl, tv⟩, tv⟩
     ·refine Ai (wp rfl (qw 2 rfl (Cy rfl (AV rfl (Ab ?_)))))
      refine A7 h (fun h => ?_) fun h => ?_
      ·refine wq rfl (qe rfl ?_)
       obtain rfl := sj h
       refine Af (sm [] [(8, bD false)] [(90000, .vec 1 (v1.1.map Av))] rfl rfl) (Aq ?_)
       exact ⟨⟨[_], tm, rfl⟩, ⟨rfl, tv⟩, tv⟩
      ·refine Ai (wq rfl (qw 4 rfl (Cy rfl (qw 2 rfl (Cy rfl ?_)))))
       refine Bb h fun v15 a15 b15 h => qI A0 Bj a15 (Ac b15) rfl (qj D1 (Ac b15) rfl (qw 2 rfl ?_))
       refine Bb h fun v16 a16 b16 h => qI A0 Bj a16 (Ac b16) rfl (qj D1 (Ac b16) rfl ?_)
       refine Bb h fun v17 a17 b17 h => qI A0 Bj a17 (Ac b17) rfl ?_
       refine A8 rfl rfl rfl rfl (Ac b17) rfl Bj rfl (D8 rfl) (A5 Av v1.1 _ v15) ?_
       refine Bb h fun v18 a18 b18 h => qI A0 Bj a18 (Ac b18) rfl ?_
       refine A8 rfl rfl rfl rfl (Ac b18) rfl Bj rfl (D8 rfl) (A5 Av (v1.1.set ((v6).toNat) v15) _ v16) ?_
       refine AD (by kernel_rfl) ?_
       refine AN h (fun v19 => mk [(0, oD (.own 90000)), (1, iD p1), (2, iD p2), (3, oD (.clo (BS (F2 false Av false Av) CT p3))), (9, iD v6), (10, iD v1.2.2)] [(90000, .vec 1 (v19.map Av))]) (fun j19 h => ?_) (fun v19 h => ?_)
       ·refine wq rfl (qw 2 rfl (Cy rfl (Df rfl (Ab ?_))))
        refine A7 h (fun h => ?_) fun h => ?_
        ·refine wq rfl (qm rfl (Cy rfl (qe rfl ?_)))
         refine Ay (L := BR N p3) h (fun v21 => mk [(0, oD (.own 90000)), (1, iD p1), (2, iD p2), (3, oD (.clo (BS (F2 false Av false Av) CT p3))), (9, iD v6), (10, iD v1.2.2), (11, iD v21.2)] [(90000, .vec 1 (v21.1.map Av))]) (fun v22 => mk [(0, oD (.own 90000)), (1, iD p1), (2, iD p2), (3, oD (.clo (BS (F2 false Av false Av) CT p3))), (9, iD v6), (10, iD v1.2.2)] [(90000, .vec 1 (v22.map Av))]) (fun _ _ => rfl) (sm [] _ _ rfl rfl) (fun j21 n21 v21 h => ?_) (fun v22 s h hs => ?_)
         ·unfold BR at h
          refine wp rfl (qm rfl (Df rfl (Ab ?_)))
          refine A7 h (fun h => ?_) fun h => ?_
          ·refine Ai (AK (AF (wp rfl (qw 3 rfl ?_))))
           refine Bb h fun v24 a24 b24 h => qI A0 Bj a24 (Ac b24) rfl (qj D1 (Ac b24) rfl (qw 2 rfl (Cy rfl ?_)))
           refine Bb h fun v25 a25 b25 h => qI A0 Bj a25 (Ac b25) rfl (qj D1 (Ac b25) rfl ?_)
           refine Bq h fun v26 a26 h => Fk (ds0 := [_, _]) (ar := (F2 false Av false Av) ((v24, v25))) (.p rfl) rfl rfl ⟨rfl, rfl, tv⟩ rfl rfl rfl (Fi (Hu _ _ _ _ EP EP) a26) ?_
           refine AV rfl (Cc rfl (AD (by kernel_rfl) ?_))
           refine A7 h (fun h => ?_) fun h => ?_
           ·refine AQ ?_
            exact sn [] h
           ·refine Ai (Ag As rfl (qw 4 rfl (Cy rfl (qw 2 rfl (Cy rfl ?_)))))
            refine Bb h fun v28 a28 b28 h => qI A0 Bj a28 (Ac b28) rfl (qj D1 (Ac b28) rfl (qw 2 rfl ?_))
            refine Bb h fun v29 a29 b29 h => qI A0 Bj a29 (Ac b29) rfl (qj D1 (Ac b29) rfl ?_)
            refine Bb h fun v30 a30 b30 h => qI A0 Bj a30 (Ac b30) rfl ?_
            refine A8 rfl rfl rfl rfl (Ac b30) rfl Bj rfl (D8 rfl) (A5 Av v21.1 _ v28) ?_
            refine Bb h fun v31 a31 b31 h => qI A0 Bj a31 (Ac b31) rfl ?_
            refine A8 rfl rfl rfl rfl (Ac b31) rfl Bj rfl (D8 rfl) (A5 Av (v21.1.set ((v21.2).toNat) v28) _ v29) ?_
            refine AD (by kernel_rfl) (Ag As rfl (qm rfl (Cy rfl (qe rfl ?_))))
            exact sn [] h
          ·refine AQ ?_
           exact sn [] h
         ·exact WK _ h (hs.trans (sm [] _ _ rfl rfl))
        ·refine Ai ?_
         exact sn [] h
       ·refine wq rfl (qw 2 rfl (Cy rfl (Df rfl (Ab ?_))))
        refine A7 h (fun h => ?_) fun h => ?_
        ·refine wq rfl (qm rfl (AP rfl (qe rfl ?_)))
         refine Ay (L := BP N p2 p3) h (fun v33 => mk [(0, oD (.own 90000)), (1, iD p1), (2, iD p2), (3, oD (.clo (BS (F2 false Av false Av) CT p3))), (9, iD v6), (10, iD v1.2.2), (12, iD v33.2)] [(90000, .vec 1 (v33.1.map Av))]) (fun v34 => mk [(0, oD (.own 90000)), (1, iD p1), (2, iD p2), (3, oD (.clo (BS (F2 false Av false Av) CT p3))), (9, iD v6), (10, iD v1.2.2)] [(90000, .vec 1 (v34.map Av))]) (fun _ _ => rfl) (sm [] _ _ rfl rfl) (fun j33 n33 v33 h => ?_) (fun v34 s h hs => ?_)
         ·unfold BP at h
          refine wp rfl (qw 2 rfl (AV rfl (Ab ?_)))
          refine A7 h (fun h => ?_) fun h => ?_
          ·refine Ai (AK (AF (wp rfl (qw 3 rfl ?_))))
           refine Bb h fun v36 a36 b36 h => qI A0 Bj a36 (Ac b36) rfl (qj D1 (Ac b36) rfl (qw 2 rfl (Cy rfl ?_)))
           refine Bb h fun v37 a37 b37 h => qI A0 Bj a37 (Ac b37) rfl (qj D1 (Ac b37) rfl ?_)
           refine Bq h fun v38 a38 h => Fk (ds0 := [_, _]) (ar := (F2 false Av false Av) ((v36, v37))) (.p rfl) rfl rfl ⟨rfl, rfl, tv⟩ rfl rfl rfl (Fi (Hu _ _ _ _ EP EP) a38) ?_
           refine AV rfl (Cc rfl (AD (by kernel_rfl) ?_))
           refine A7 h (fun h => ?_) fun h => ?_
           ·refine AQ ?_
            exact sn [] h
           ·refine Ai (Ag As rfl (qw 4 rfl (Cy rfl (qw 2 rfl (Cy rfl ?_)))))
            refine Bb h fun v40 a40 b40 h => qI A0 Bj a40 (Ac b40) rfl (qj D1 (Ac b40) rfl (qw 2 rfl ?_))
            refine Bb h fun v41 a41 b41 h => qI A0 Bj a41 (Ac b41) rfl (qj D1 (Ac b41) rfl ?_)
            refine Bb h fun v42 a42 b42 h => qI A0 Bj a42 (Ac b42) rfl ?_
            refine A8 rfl rfl rfl rfl (Ac b42) rfl Bj rfl (D8 rfl) (A5 Av v33.1 _ v40) ?_
            refine Bb h fun v43 a43 b43 h => qI A0 Bj a43 (Ac b43) rfl ?_
            refine A8 rfl rfl rfl rfl (Ac b43) rfl Bj rfl (D8 rfl) (A5 Av (v33.1.set ((v33.2).toNat) v40) _ v41) ?_
            refine AD (by kernel_rfl) (Ag As rfl (qm rfl (AP rfl (qe rfl ?_))))
            exact sn [] h
          ·refine AQ ?_
           exact sn [] h
         ·exact WK _ h (hs.trans (sm [] _ _ rfl rfl))
        ·refine Ai ?_
         exact sn [] h
   ·refine Ag As rfl (qm rfl (AP rfl (qe rfl ?_)))
    exact sn [] h
  ·refine AQ ?_
   exact sn [] h
 ·refine Af hs (wq rfl (qe rfl ?_))
  obtain rfl := sj h
  refine Af (sm [] [(8, bD false)] [(90000, .vec 1 (v2.map Av))] rfl rfl) (Aq ?_)
  exact ⟨⟨[_], tm, rfl⟩, ⟨rfl, tv⟩, tv⟩
theorem Ib (N : Nat) (p0 : List Int) (p1 : Int) (p2 : Int) (p3 : Int) (p4 : (Int × Int) → Option Int) (r : Int × (List Int)) (h : Eb N p0 p1 p2 p3 p4 = some r) : B2 zA 146 [oD (.own 90000), iD p1, iD p2, iD p3, oD (.clo (BS (F2 false Av false Av) CT p4))] [(.vec 1 (p0.map Av), .vec 1 (r.2.map Av))] [] (iD r.1) := by
 unfold Eb at h
 refine Bz (n := 90) (rs := [.tmp 10]) Tryz.func146 rfl rfl rfl (D8 rfl) (D8 rfl) rfl rfl (D8 rfl) rfl (D8 rfl) fun w0 S0 GL => ?_
 refine Af (sm [] [(0, oD (.own 90000)), (1, iD p1), (2, iD p2), (3, iD p3), (4, oD (.clo (BS (F2 false Av false Av) CT p4)))] [(90000, .vec 1 (p0.map Av))] rfl rfl) (wq rfl (qa rfl (Ab (wq rfl (qw 6 rfl ?_)))))
 refine Bb h fun v1 a1 b1 h => qI A0 Bj a1 (Ac b1) rfl (qj D1 (Ac b1) rfl (qw 2 rfl ?_))
 refine Bb h fun v2 a2 b2 h => qI A0 Bj a2 (Ac b2) rfl (qj D1 (Ac b2) rfl ?_)
 refine Bb h fun v3 a3 b3 h => qI A0 Bj a3 (Ac b3) rfl ?_
 refine A8 rfl rfl rfl rfl (Ac b3) rfl Bj rfl (D8 rfl) (A5 Av p0 _ v1) ?_
 refine Bb h fun v4 a4 b4 h => qI A0 Bj a4 (Ac b4) rfl ?_
 refine A8 rfl rfl rfl rfl (Ac b4) rfl Bj rfl (D8 rfl) (A5 Av (p0.set ((p1).toNat) v1) _ v2) ?_
 refine AD (by kernel_rfl) (wq rfl (qm rfl (AP rfl (qm rfl (Cy rfl (qa rfl (qa rfl (Ab (AK ?_)))))))))
 refine Ay (L := Cz N p1 p4) h (fun v5 => mk [(0, oD (.own 90000)), (1, iD p1), (4, oD (.clo (BS (F2 false Av false Av) CT p4))), (11, iD v5.2.1), (12, iD v5.2.2)] [(90000, .vec 1 (v5.1.map Av))]) (fun v6 => mk [(11, iD v6.2)] [(90000, .vec 1 (v6.1.map Av))]) (fun _ _ => rfl) (sm [] _ _ rfl rfl) (fun j5 n5 v5 h => ?_) (fun v6 s h hs => ?_)
 ·unfold Cz at h
  refine AF (AK ?_)
  refine Ay (L := CB N p1 p4 v5) h (fun v7 => mk [(0, oD (.own 90000)), (1, iD p1), (4, oD (.clo (BS (F2 false Av false Av) CT p4))), (11, iD v7), (12, iD v5.2.2)] [(90000, .vec 1 (v5.1.map Av))]) (fun v8 => mk [(0, oD (.own 90000)), (1, iD p1), (4, oD (.clo (BS (F2 false Av false Av) CT p4))), (11, iD v8), (12, iD v5.2.2)] [(90000, .vec 1 (v5.1.map Av))]) (fun _ _ => rfl) (sm [] _ _ rfl rfl) (fun j7 n7 v7 h => ?_) (fun v8 s h hs => ?_)
  ·unfold CB at h
   refine AK ?_
   refine AN h (fun v9 => mk [(0, oD (.own 90000)), (1, iD p1), (4, oD (.clo (BS (F2 false Av false Av) CT p4))), (11, iD v7), (12, iD v5.2.2), (47, bD v9)] [(90000, .vec 1 (v5.1.map Av))]) (fun j9 h => ?_) (fun v9 h => ?_)
   ·refine Ag As rfl (qw 2 rfl (L2 rfl (qm rfl ?_)))
    refine EM 34 h rfl (fun h => ?_) fun h => ?_
    ·refine qw 3 rfl ?_
     refine Bb h fun v11 a11 b11 h => qI A0 Bj a11 (Ac b11) rfl (qj D1 (Ac b11) rfl (qw 2 rfl ?_))
     refine Bb h fun v12 a12 b12 h => qI A0 Bj a12 (Ac b12) rfl (qj D1 (Ac b12) rfl ?_)
     refine Bq h fun v13 a13 h => Fk (ds0 := [_, _]) (ar := (F2 false Av false Av) ((v11, v12))) (.g rfl rfl) rfl rfl ⟨rfl, rfl, tv⟩ rfl rfl rfl (Fi (Hu _ _ _ _ EP EP) a13) ?_
     refine AV rfl (Cc rfl (qp rfl (AD (by kernel_rfl) ?_)))
     exact sn [] h
    ·refine qw 12 rfl (qp rfl (AD (by kernel_rfl) ?_))
     exact sn [] h
   ·refine A7 h (fun h => ?_) fun h => ?_
    ·refine Ai (AF (Ag As rfl (qm rfl (AP rfl (qe rfl ?_)))))
     exact sn [] h
    ·refine AQ ?_
     exact sn [] h
  ·refine Af hs (AK ?_)
   refine Ay (L := Cr N p1 p4 v5 v8) h (fun v15 => mk [(0, oD (.own 90000)), (1, iD p1), (4, oD (.clo (BS (F2 false Av false Av) CT p4))), (11, iD v8), (12, iD v15)] [(90000, .vec 1 (v5.1.map Av))]) (fun v16 => mk [(0, oD (.own 90000)), (1, iD p1), (4, oD (.clo (BS (F2 false Av false Av) CT p4))), (11, iD v8), (12, iD v16)] [(90000, .vec 1 (v5.1.map Av))]) (fun _ _ => rfl) (sm [] _ _ rfl rfl) (fun j15 n15 v15 h => ?_) (fun v16 s h hs => ?_)
   ·unfold Cr at h
    refine AK ?_
    refine AN h (fun v17 => mk [(0, oD (.own 90000)), (1, iD p1), (4, oD (.clo (BS (F2 false Av false Av) CT p4))), (11, iD v8), (12, iD v15), (65, bD v17)] [(90000, .vec 1 (v5.1.map Av))]) (fun j17 h => ?_) (fun v17 h => ?_)
    ·refine Ag As rfl (qw 2 rfl (L2 rfl (qm rfl ?_)))
     refine EM 53 h rfl (fun h => ?_) fun h => ?_
     ·refine qw 3 rfl ?_
      refine Bb h fun v19 a19 b19 h => qI A0 Bj a19 (Ac b19) rfl (qj D1 (Ac b19) rfl (qw 2 rfl ?_))
      refine Bb h fun v20 a20 b20 h => qI A0 Bj a20 (Ac b20) rfl (qj D1 (Ac b20) rfl ?_)
      refine Bq h fun v21 a21 h => Fk (ds0 := [_, _]) (ar := (F2 false Av false Av) ((v19, v20))) (.g rfl rfl) rfl rfl ⟨rfl, rfl, tv⟩ rfl rfl rfl (Fi (Hu _ _ _ _ EP EP) a21) ?_
      refine AV rfl (qp rfl (AD (by kernel_rfl) ?_))
      exact sn [] h
     ·refine qw 11 rfl (qp rfl (AD (by kernel_rfl) ?_))
      exact sn [] h
    ·refine A7 h (fun h => ?_) fun h => ?_
     ·refine Ai (AF (Ag As rfl (qm rfl (Cy rfl (qe rfl ?_)))))
      exact sn [] h
     ·refine AQ ?_
      exact sn [] h
   ·refine Af hs (wp rfl (qw 2 rfl (FW rfl (Ab ?_))))
    refine A7 h (fun h => ?_) fun h => ?_
    ·refine AQ ?_
     exact sn [] h
    ·refine Ai (wq rfl (qw 6 rfl ?_))
     refine Bb h fun v24 a24 b24 h => qI A0 Bj a24 (Ac b24) rfl (qj D1 (Ac b24) rfl (qw 2 rfl ?_))
     refine Bb h fun v25 a25 b25 h => qI A0 Bj a25 (Ac b25) rfl (qj D1 (Ac b25) rfl ?_)
     refine Bb h fun v26 a26 b26 h => qI A0 Bj a26 (Ac b26) rfl ?_
     refine A8 rfl rfl rfl rfl (Ac b26) rfl Bj rfl (D8 rfl) (A5 Av v5.1 _ v24) ?_
     refine Bb h fun v27 a27 b27 h => qI A0 Bj a27 (Ac b27) rfl ?_
     refine A8 rfl rfl rfl rfl (Ac b27) rfl Bj rfl (D8 rfl) (A5 Av (v5.1.set ((v8).toNat) v24) _ v25) ?_
     refine AD (by kernel_rfl) (wq rfl (qm rfl (AP rfl (qa rfl (Ab (Ag As rfl (qm rfl (Cy rfl (qe rfl ?_)))))))))
     exact sn [] h
 ·refine Af hs (wq rfl (qm rfl (qe rfl ?_)))
  obtain rfl := sj h
  refine Af (sm [] [(10, iD v6.2)] [(90000, .vec 1 (v6.1.map Av))] rfl rfl) (Aq ?_)
  exact ⟨⟨[_], tm, rfl⟩, ⟨rfl, tv⟩, tv⟩
theorem Jq (N : Nat) (p0 : List Int) (p1 : Int) (p2 : Int) (p3 : Int) (p4 : (Int × Int) → Option Int) (r : Int × Bool × (List Int)) (h : E2 N p0 p1 p2 p3 p4 = some r) : B2 zA 147 [oD (.own 90000), iD p1, iD p2, iD p3, oD (.clo (BS (F2 false Av false Av) CT p4))] [(.vec 1 (p0.map Av), .vec 1 (r.2.2.map Av))] [] (.tup [.one (iC r.1), .one (.pure (.val (.bool r.2.1)))]) := by
 unfold E2 at h
 refine Bz (n := 178) (rs := [.tmp 10, .tmp 11]) Tryz.func147 rfl rfl rfl (D8 rfl) (D8 rfl) rfl rfl (D8 rfl) rfl (D8 rfl) fun w0 S0 GL => ?_
 refine Af (sm [] [(0, oD (.own 90000)), (1, iD p1), (2, iD p2), (3, iD p3), (4, oD (.clo (BS (F2 false Av false Av) CT p4)))] [(90000, .vec 1 (p0.map Av))] rfl rfl) (wq rfl (qa rfl (qa rfl (Ab (wq rfl (qw 6 rfl ?_))))))
 refine Bb h fun v1 a1 b1 h => qI A0 Bj a1 (Ac b1) rfl (qj D1 (Ac b1) rfl (qw 2 rfl ?_))
 refine Bb h fun v2 a2 b2 h => qI A0 Bj a2 (Ac b2) rfl (qj D1 (Ac b2) rfl ?_)
 refine Bb h fun v3 a3 b3 h => qI A0 Bj a3 (Ac b3) rfl ?_
 refine A8 rfl rfl rfl rfl (Ac b3) rfl Bj rfl (D8 rfl) (A5 Av p0 _ v1) ?_
 refine Bb h fun v4 a4 b4 h => qI A0 Bj a4 (Ac b4) rfl ?_
 refine A8 rfl rfl rfl rfl (Ac b4) rfl Bj rfl (D8 rfl) (A5 Av (p0.set ((p1).toNat) v1) _ v2) ?_
 refine AD (by kernel_rfl) (wq rfl (qm rfl (AP rfl (qm rfl (Cy rfl (qa rfl (qa rfl (Ab (AK ?_)))))))))
 refine Ay (L := Dt N p0 p1 p2 p3 p4 v1 v2) h (fun v5 => mk [(0, oD (.own 90000)), (1, iD p1), (4, oD (.clo (BS (F2 false Av false Av) CT p4))), (12, iD v5), (13, iD ((wI .i64 (p2 - 1))))] [(90000, .vec 1 (((p0.set ((p1).toNat) v1).set ((p3).toNat) v2).map Av))]) (fun v6 => mk [(0, oD (.own 90000)), (1, iD p1), (4, oD (.clo (BS (F2 false Av false Av) CT p4))), (12, iD v6), (13, iD ((wI .i64 (p2 - 1))))] [(90000, .vec 1 (((p0.set ((p1).toNat) v1).set ((p3).toNat) v2).map Av))]) (fun _ _ => rfl) (sm [] _ _ rfl rfl) (fun j5 n5 v5 h => ?_) (fun v6 s h hs => ?_)
 ·unfold Dt at h
  refine AK ?_
  refine AN h (fun v7 => mk [(0, oD (.own 90000)), (1, iD p1), (4, oD (.clo (BS (F2 false Av false Av) CT p4))), (12, iD v5), (13, iD ((wI .i64 (p2 - 1)))), (47, bD v7)] [(90000, .vec 1 (((p0.set ((p1).toNat) v1).set ((p3).toNat) v2).map Av))]) (fun j7 h => ?_) (fun v7 h => ?_)
  ·refine Ag As rfl (qw 2 rfl (L2 rfl (qm rfl ?_)))
   refine EM 35 h rfl (fun h => ?_) fun h => ?_
   ·refine qw 3 rfl ?_
    refine Bb h fun v9 a9 b9 h => qI A0 Bj a9 (Ac b9) rfl (qj D1 (Ac b9) rfl (qw 2 rfl ?_))
    refine Bb h fun v10 a10 b10 h => qI A0 Bj a10 (Ac b10) rfl (qj D1 (Ac b10) rfl ?_)
    refine Bq h fun v11 a11 h => Fk (ds0 := [_, _]) (ar := (F2 false Av false Av) ((v9, v10))) (.g rfl rfl) rfl rfl ⟨rfl, rfl, tv⟩ rfl rfl rfl (Fi (Hu _ _ _ _ EP EP) a11) ?_
    refine AV rfl (qp rfl (AD (by kernel_rfl) ?_))
    exact sn [] h
   ·refine qw 11 rfl (qp rfl (AD (by kernel_rfl) ?_))
    exact sn [] h
  ·refine A7 h (fun h => ?_) fun h => ?_
   ·refine Ai (AF (Ag As rfl (qm rfl (AP rfl (qe rfl ?_)))))
    exact sn [] h
   ·refine AQ ?_
    exact sn [] h
 ·refine Af hs (AK ?_)
  refine Ay (L := De N p0 p1 p3 p4 v1 v2 v6) h (fun v13 => mk [(0, oD (.own 90000)), (1, iD p1), (4, oD (.clo (BS (F2 false Av false Av) CT p4))), (12, iD v6), (13, iD v13)] [(90000, .vec 1 (((p0.set ((p1).toNat) v1).set ((p3).toNat) v2).map Av))]) (fun v14 => mk [(0, oD (.own 90000)), (1, iD p1), (4, oD (.clo (BS (F2 false Av false Av) CT p4))), (12, iD v6), (13, iD v14)] [(90000, .vec 1 (((p0.set ((p1).toNat) v1).set ((p3).toNat) v2).map Av))]) (fun _ _ => rfl) (sm [] _ _ rfl rfl) (fun j13 n13 v13 h => ?_) (fun v14 s h hs => ?_)
  ·unfold De at h
   refine AK ?_
   refine AN h (fun v15 => mk [(0, oD (.own 90000)), (1, iD p1), (4, oD (.clo (BS (F2 false Av false Av) CT p4))), (12, iD v6), (13, iD v13), (66, bD v15)] [(90000, .vec 1 (((p0.set ((p1).toNat) v1).set ((p3).toNat) v2).map Av))]) (fun j15 h => ?_) (fun v15 h => ?_)
   ·refine Ag As rfl (qw 2 rfl (L2 rfl (qm rfl ?_)))
    refine EM 53 h rfl (fun h => ?_) fun h => ?_
    ·refine qw 3 rfl ?_
     refine Bb h fun v17 a17 b17 h => qI A0 Bj a17 (Ac b17) rfl (qj D1 (Ac b17) rfl (qw 2 rfl ?_))
     refine Bb h fun v18 a18 b18 h => qI A0 Bj a18 (Ac b18) rfl (qj D1 (Ac b18) rfl ?_)
     refine Bq h fun v19 a19 h => Fk (ds0 := [_, _]) (ar := (F2 false Av false Av) ((v17, v18))) (.g rfl rfl) rfl rfl ⟨rfl, rfl, tv⟩ rfl rfl rfl (Fi (Hu _ _ _ _ EP EP) a19) ?_
     refine AV rfl (Cc rfl (qp rfl (AD (by kernel_rfl) ?_)))
     exact sn [] h
    ·refine qw 12 rfl (qp rfl (AD (by kernel_rfl) ?_))
     exact sn [] h
   ·refine A7 h (fun h => ?_) fun h => ?_
    ·refine Ai (AF (Ag As rfl (qm rfl (Cy rfl (qe rfl ?_)))))
     exact sn [] h
    ·refine AQ ?_
     exact sn [] h
  ·refine Af hs (wp rfl (qw 2 rfl (FW rfl (Ab ?_))))
   refine A7 h (fun h => ?_) fun h => ?_
   ·refine wq rfl (qw 6 rfl ?_)
    refine Bb h fun v22 a22 b22 h => qI A0 Bj a22 (Ac b22) rfl (qj D1 (Ac b22) rfl (qw 2 rfl ?_))
    refine Bb h fun v23 a23 b23 h => qI A0 Bj a23 (Ac b23) rfl (qj D1 (Ac b23) rfl ?_)
    refine Bb h fun v24 a24 b24 h => qI A0 Bj a24 (Ac b24) rfl ?_
    refine A8 rfl rfl rfl rfl (Ac b24) rfl Bj rfl (D8 rfl) (A5 Av ((p0.set ((p1).toNat) v1).set ((p3).toNat) v2) _ v22) ?_
    refine Bb h fun v25 a25 b25 h => qI A0 Bj a25 (Ac b25) rfl ?_
    refine A8 rfl rfl rfl rfl (Ac b25) rfl Bj rfl (D8 rfl) (A5 Av (((p0.set ((p1).toNat) v1).set ((p3).toNat) v2).set ((v14).toNat) v22) _ v23) ?_
    refine AD (by kernel_rfl) (wq rfl (qm rfl (qa rfl (qe rfl ?_))))
    obtain rfl := sj h
    refine Af (sm [] [(10, iD v14), (11, bD true)] [(90000, .vec 1 (((((p0.set ((p1).toNat) v1).set ((p3).toNat) v2).set ((v14).toNat) v22).set ((p1).toNat) v23).map Av))] rfl rfl) (Aq ?_)
    exact ⟨⟨[_, _], ⟨.tmp _ _ rfl, tm⟩, rfl⟩, ⟨rfl, tv⟩, tv⟩
   ·refine Ai (wq rfl (qw 6 rfl ?_))
    refine Bb h fun v26 a26 b26 h => qI A0 Bj a26 (Ac b26) rfl (qj D1 (Ac b26) rfl (qw 2 rfl ?_))
    refine Bb h fun v27 a27 b27 h => qI A0 Bj a27 (Ac b27) rfl (qj D1 (Ac b27) rfl ?_)
    refine Bb h fun v28 a28 b28 h => qI A0 Bj a28 (Ac b28) rfl ?_
    refine A8 rfl rfl rfl rfl (Ac b28) rfl Bj rfl (D8 rfl) (A5 Av ((p0.set ((p1).toNat) v1).set ((p3).toNat) v2) _ v26) ?_
    refine Bb h fun v29 a29 b29 h => qI A0 Bj a29 (Ac b29) rfl ?_
    refine A8 rfl rfl rfl rfl (Ac b29) rfl Bj rfl (D8 rfl) (A5 Av (((p0.set ((p1).toNat) v1).set ((p3).toNat) v2).set ((v6).toNat) v26) _ v27) ?_
    refine AD (by kernel_rfl) (wq rfl (qm rfl (AP rfl (qa rfl (Ab (wq rfl (qm rfl (Cy rfl (qa rfl (Ab (AK ?_)))))))))))
    refine Ay (L := Da N p1 p4) h (fun v30 => mk [(0, oD (.own 90000)), (1, iD p1), (4, oD (.clo (BS (F2 false Av false Av) CT p4))), (12, iD v30.2.1), (13, iD v30.2.2)] [(90000, .vec 1 (v30.1.map Av))]) (fun v31 => mk [(0, oD (.own 90000)), (1, iD p1), (13, iD v31.2)] [(90000, .vec 1 (v31.1.map Av))]) (fun _ _ => rfl) (sm [] _ _ rfl rfl) (fun j30 n30 v30 h => ?_) (fun v31 s h hs => ?_)
    ·unfold Da at h
     refine AF (AK ?_)
     refine Ay (L := Db N p1 p4 v30) h (fun v32 => mk [(0, oD (.own 90000)), (1, iD p1), (4, oD (.clo (BS (F2 false Av false Av) CT p4))), (12, iD v32), (13, iD v30.2.2)] [(90000, .vec 1 (v30.1.map Av))]) (fun v33 => mk [(0, oD (.own 90000)), (1, iD p1), (4, oD (.clo (BS (F2 false Av false Av) CT p4))), (12, iD v33), (13, iD v30.2.2)] [(90000, .vec 1 (v30.1.map Av))]) (fun _ _ => rfl) (sm [] _ _ rfl rfl) (fun j32 n32 v32 h => ?_) (fun v33 s h hs => ?_)
     ·unfold Db at h
      refine AK ?_
      refine AN h (fun v34 => mk [(0, oD (.own 90000)), (1, iD p1), (4, oD (.clo (BS (F2 false Av false Av) CT p4))), (12, iD v32), (13, iD v30.2.2), (120, bD v34)] [(90000, .vec 1 (v30.1.map Av))]) (fun j34 h => ?_) (fun v34 h => ?_)
      ·refine Ag As rfl (qw 2 rfl (L2 rfl (qm rfl ?_)))
       refine EM 108 h rfl (fun h => ?_) fun h => ?_
       ·refine qw 3 rfl ?_
        refine Bb h fun v36 a36 b36 h => qI A0 Bj a36 (Ac b36) rfl (qj D1 (Ac b36) rfl (qw 2 rfl ?_))
        refine Bb h fun v37 a37 b37 h => qI A0 Bj a37 (Ac b37) rfl (qj D1 (Ac b37) rfl ?_)
        refine Bq h fun v38 a38 h => Fk (ds0 := [_, _]) (ar := (F2 false Av false Av) ((v36, v37))) (.g rfl rfl) rfl rfl ⟨rfl, rfl, tv⟩ rfl rfl rfl (Fi (Hu _ _ _ _ EP EP) a38) ?_
        refine AV rfl (qp rfl (AD (by kernel_rfl) ?_))
        exact sn [] h
       ·refine qw 11 rfl (qp rfl (AD (by kernel_rfl) ?_))
        exact sn [] h
      ·refine A7 h (fun h => ?_) fun h => ?_
       ·refine Ai (AF (Ag As rfl (qm rfl (AP rfl (qe rfl ?_)))))
        exact sn [] h
       ·refine AQ ?_
        exact sn [] h
     ·refine Af hs (AK ?_)
      refine Ay (L := Dd N p1 p4 v30 v33) h (fun v40 => mk [(0, oD (.own 90000)), (1, iD p1), (4, oD (.clo (BS (F2 false Av false Av) CT p4))), (12, iD v33), (13, iD v40)] [(90000, .vec 1 (v30.1.map Av))]) (fun v41 => mk [(0, oD (.own 90000)), (1, iD p1), (4, oD (.clo (BS (F2 false Av false Av) CT p4))), (12, iD v33), (13, iD v41)] [(90000, .vec 1 (v30.1.map Av))]) (fun _ _ => rfl) (sm [] _ _ rfl rfl) (fun j40 n40 v40 h => ?_) (fun v41 s h hs => ?_)
      ·unfold Dd at h
       refine AK ?_
       refine AN h (fun v42 => mk [(0, oD (.own 90000)), (1, iD p1), (4, oD (.clo (BS (F2 false Av false Av) CT p4))), (12, iD v33), (13, iD v40), (139, bD v42)] [(90000, .vec 1 (v30.1.map Av))]) (fun j42 h => ?_) (fun v42 h => ?_)
       ·refine Ag As rfl (qw 2 rfl (L2 rfl (qm rfl ?_)))
        refine EM 126 h rfl (fun h => ?_) fun h => ?_
        ·refine qw 3 rfl ?_
         refine Bb h fun v44 a44 b44 h => qI A0 Bj a44 (Ac b44) rfl (qj D1 (Ac b44) rfl (qw 2 rfl ?_))
         refine Bb h fun v45 a45 b45 h => qI A0 Bj a45 (Ac b45) rfl (qj D1 (Ac b45) rfl ?_)
         refine Bq h fun v46 a46 h => Fk (ds0 := [_, _]) (ar := (F2 false Av false Av) ((v44, v45))) (.g rfl rfl) rfl rfl ⟨rfl, rfl, tv⟩ rfl rfl rfl (Fi (Hu _ _ _ _ EP EP) a46) ?_
         refine AV rfl (Cc rfl (qp rfl (AD (by kernel_rfl) ?_)))
         exact sn [] h
        ·refine qw 12 rfl (qp rfl (AD (by kernel_rfl) ?_))
         exact sn [] h
       ·refine A7 h (fun h => ?_) fun h => ?_
        ·refine Ai (AF (Ag As rfl (qm rfl (Cy rfl (qe rfl ?_)))))
         exact sn [] h
        ·refine AQ ?_
         exact sn [] h
      ·refine Af hs (wp rfl (qw 2 rfl (FW rfl (Ab ?_))))
       refine A7 h (fun h => ?_) fun h => ?_
       ·refine AQ ?_
        exact sn [] h
       ·refine Ai (wq rfl (qw 6 rfl ?_))
        refine Bb h fun v49 a49 b49 h => qI A0 Bj a49 (Ac b49) rfl (qj D1 (Ac b49) rfl (qw 2 rfl ?_))
        refine Bb h fun v50 a50 b50 h => qI A0 Bj a50 (Ac b50) rfl (qj D1 (Ac b50) rfl ?_)
        refine Bb h fun v51 a51 b51 h => qI A0 Bj a51 (Ac b51) rfl ?_
        refine A8 rfl rfl rfl rfl (Ac b51) rfl Bj rfl (D8 rfl) (A5 Av v30.1 _ v49) ?_
        refine Bb h fun v52 a52 b52 h => qI A0 Bj a52 (Ac b52) rfl ?_
        refine A8 rfl rfl rfl rfl (Ac b52) rfl Bj rfl (D8 rfl) (A5 Av (v30.1.set ((v33).toNat) v49) _ v50) ?_
        refine AD (by kernel_rfl) (wq rfl (qm rfl (AP rfl (qa rfl (Ab (Ag As rfl (qm rfl (Cy rfl (qe rfl ?_)))))))))
        exact sn [] h
    ·refine Af hs (wq rfl (qw 6 rfl ?_))
     refine Bb h fun v53 a53 b53 h => qI A0 Bj a53 (Ac b53) rfl (qj D1 (Ac b53) rfl (qw 2 rfl ?_))
     refine Bb h fun v54 a54 b54 h => qI A0 Bj a54 (Ac b54) rfl (qj D1 (Ac b54) rfl ?_)
     refine Bb h fun v55 a55 b55 h => qI A0 Bj a55 (Ac b55) rfl ?_
     refine A8 rfl rfl rfl rfl (Ac b55) rfl Bj rfl (D8 rfl) (A5 Av v31.1 _ v53) ?_
     refine Bb h fun v56 a56 b56 h => qI A0 Bj a56 (Ac b56) rfl ?_
     refine A8 rfl rfl rfl rfl (Ac b56) rfl Bj rfl (D8 rfl) (A5 Av (v31.1.set ((v31.2).toNat) v53) _ v54) ?_
     refine AD (by kernel_rfl) (wq rfl (qm rfl (qa rfl (qe rfl ?_))))
     obtain rfl := sj h
     refine Af (sm [] [(10, iD v31.2), (11, bD false)] [(90000, .vec 1 (((v31.1.set ((v31.2).toNat) v53).set ((p1).toNat) v54).map Av))] rfl rfl) (Aq ?_)
     exact ⟨⟨[_, _], ⟨.tmp _ _ rfl, tm⟩, rfl⟩, ⟨rfl, tv⟩, tv⟩
theorem Jm (N : Nat) (rc : (List Int) → Int → Int → Int → ((Int × Int) → Option Int) → Option ((List Int))) (hrc : ∀ (p0 : List Int) (p1 : Int) (p2 : Int) (p3 : Int) (p4 : (Int × Int) → Option Int) (r : (List Int)), rc p0 p1 p2 p3 p4 = some r → B2 zA 111 [oD (.own 90000), iD p1, iD p2, iD p3, oD (.clo (BS (F2 false Av false Av) CT p4))] [(.vec 1 (p0.map Av), .vec 1 (r.map Av))] [] (.tup [])) (p0 : List Int) (p1 : Int) (p2 : Int) (p3 : Int) (p4 : (Int × Int) → Option Int) (r : (List Int)) (h : E3 N rc p0 p1 p2 p3 p4 = some r) : B2 zA 111 [oD (.own 90000), iD p1, iD p2, iD p3, oD (.clo (BS (F2 false Av false Av) CT p4))] [(.vec 1 (p0.map Av), .vec 1 (r.map Av))] [] (.tup []) := by
 unfold E3 at h
 refine Bz (n := 148) (rs := []) Tryz.func111 rfl rfl rfl (D8 rfl) (D8 rfl) rfl rfl (D8 rfl) rfl (D8 rfl) fun w0 S0 GL => Ph ?_
 refine Af (sm [] [(0, oD (.own 90000)), (1, iD p1), (2, iD p2), (3, iD p3), (4, oD (.clo (BS (F2 false Av false Av) CT p4)))] [(90000, .vec 1 (p0.map Av))] rfl rfl) (wq rfl (qa rfl (Ab (wq rfl (qe rfl ?_)))))
 refine Ay (L := B3 N p4 rc) h (fun v1 => mk [(0, oD (.own 90000)), (1, iD v1.2.1), (2, iD v1.2.2.1), (3, iD v1.2.2.2.1), (4, oD (.clo (BS (F2 false Av false Av) CT p4))), (10, bD v1.2.2.2.2.1), (11, bD v1.2.2.2.2.2)] [(90000, .vec 1 (v1.1.map Av))]) (fun v2 => mk [] []) (fun _ _ => rfl) (sm [] _ _ rfl rfl) (fun j1 n1 v1 h => ?_) (fun v2 s h hs => ?_)
 ·unfold B3 at h
  refine AF (wq rfl (qw 2 rfl (Cy rfl (qa rfl (Ab (wp rfl (qm rfl (L2 rfl (Ab ?_)))))))))
  refine A7 h (fun h => ?_) fun h => ?_
  ·refine wq rfl (qw 4 rfl ?_)
   refine Bq h fun v4 a4 h => D0 (ds0 := [_, _, _, _]) [90000] [] [true] (Im N v1.1 v1.2.1 v1.2.2.1 p4 v4 a4) (.p rfl) bo rfl ⟨rfl, rfl, rfl, rfl, tv⟩ rfl rfl (by decide) ⟨rfl, tv⟩ rfl (Bi rfl) tv ⟨(fun h => by cases h), tv⟩ rfl rfl rfl ?_
   refine Ab ?_
   obtain rfl := sj h
   refine Aq ⟨_, (sm [] [] [(90000, .vec 1 (v4.map Av))] rfl rfl), ?_⟩
   exact ⟨⟨[], tv, rfl⟩, ⟨rfl, tv⟩, tv⟩
  ·refine Ai (wp rfl (qm rfl (B9 rfl (Ab ?_))))
   refine A7 h (fun h => ?_) fun h => ?_
   ·refine wq rfl (qw 4 rfl ?_)
    refine Bq h fun v6 a6 h => D0 (ds0 := [_, _, _, _]) [90000] [] [true] (JG N v1.1 v1.2.1 v1.2.2.1 p4 v6 a6) (.p rfl) da rfl ⟨rfl, rfl, rfl, rfl, tv⟩ rfl rfl (by decide) ⟨rfl, tv⟩ rfl (Bi rfl) tv ⟨(fun h => by cases h), tv⟩ rfl rfl rfl ?_
    refine Ab ?_
    obtain rfl := sj h
    refine Aq ⟨_, (sm [] [] [(90000, .vec 1 (v6.map Av))] rfl rfl), ?_⟩
    exact ⟨⟨[], tv, rfl⟩, ⟨rfl, tv⟩, tv⟩
   ·refine Ai ?_
    refine AN h (fun v7 => mk [(0, oD (.own 90000)), (1, iD v1.2.1), (2, iD v1.2.2.1), (3, iD v7.2), (4, oD (.clo (BS (F2 false Av false Av) CT p4))), (10, bD v1.2.2.2.2.1), (11, bD v1.2.2.2.2.2), (12, iD ((wI .i64 (v1.2.2.1 - v1.2.1))))] [(90000, .vec 1 (v7.1.map Av))]) (fun j7 h => ?_) (fun v7 h => ?_)
    ·refine wq rfl (qm rfl (Cc rfl (Ab ?_)))
     refine A7 h (fun h => ?_) fun h => ?_
     ·refine wq rfl (qw 4 rfl ?_)
      refine Bq h fun v9 a9 h => D0 (ds0 := [_, _, _, _]) [90000] [] [true] (Iz N v1.1 v1.2.1 v1.2.2.1 p4 v9 a9) (.p rfl) bG rfl ⟨rfl, rfl, rfl, rfl, tv⟩ rfl rfl (by decide) ⟨rfl, tv⟩ rfl (Bi rfl) tv ⟨(fun h => by cases h), tv⟩ rfl rfl rfl ?_
      refine Ab (Ag As rfl (qm rfl (Cy rfl (qe rfl ?_))))
      exact sn [] h
     ·refine Ai ?_
      exact sn [] h
    ·refine wq rfl (qw 4 rfl ?_)
     refine Bq h fun v10 a10 h => D4 [] [90000] (I0 N v7.1 v1.2.1 v1.2.2.1 p4 v10 a10) cu Cm rfl (qm rfl (qx rfl (qx rfl (qa rfl (qe rfl ?_)))))
     refine AN h (fun v11 => mk [(0, oD (.own 90000)), (1, iD v1.2.1), (2, iD v1.2.2.1), (3, iD v7.2), (4, oD (.clo (BS (F2 false Av false Av) CT p4))), (10, bD v1.2.2.2.2.1), (11, bD v1.2.2.2.2.2), (12, iD ((wI .i64 (v1.2.2.1 - v1.2.1)))), (13, iD v11.2.1), (14, iD v11.2.2)] [(90000, .vec 1 (v11.1.map Av))]) (fun j11 h => ?_) (fun v11 h => ?_)
     ·refine wq rfl (qm rfl (B9 rfl (Ab ?_)))
      refine A7 h (fun h => ?_) fun h => ?_
      ·refine wq rfl (qw 4 rfl ?_)
       refine Bq h fun v13 a13 h => D0 (ds0 := [_, _, _, _]) [90000] [] [true] (IL N v7.1 v1.2.1 v1.2.2.1 p4 v13 a13) (.p rfl) bP rfl ⟨rfl, rfl, rfl, rfl, tv⟩ rfl rfl (by decide) ⟨rfl, tv⟩ rfl (Bi rfl) tv ⟨(fun h => by cases h), tv⟩ rfl rfl rfl ?_
       refine Ab (wq rfl (qm rfl (Cy rfl (qw 2 rfl (Cy rfl (Cy rfl (qa rfl (Ab (Ag As rfl (qe rfl ?_))))))))))
       exact sn [] h
      ·refine Ai ?_
       exact sn [] h
     ·refine AN h (fun v14 => mk [(0, oD (.own 90000)), (1, iD v1.2.1), (2, iD v1.2.2.1), (3, iD v7.2), (4, oD (.clo (BS (F2 false Av false Av) CT p4))), (10, bD v1.2.2.2.2.1), (11, bD v1.2.2.2.2.2), (12, iD ((wI .i64 (v1.2.2.1 - v1.2.1)))), (13, iD v11.2.1)] [(90000, .vec 1 (v14.map Av))]) (fun j14 h => ?_) (fun v14 h => ?_)
      ·refine AN h (fun v15 => mk [(0, oD (.own 90000)), (1, iD v1.2.1), (2, iD v1.2.2.1), (3, iD v7.2), (4, oD (.clo (BS (F2 false Av false Av) CT p4))), (10, bD v1.2.2.2.2.1), (11, bD v1.2.2.2.2.2), (12, iD ((wI .i64 (v1.2.2.1 - v1.2.1)))), (13, iD v11.2.1), (75, bD v15)] [(90000, .vec 1 (v11.1.map Av))]) (fun j15 h => ?_) (fun v15 h => ?_)
       ·refine Ag As rfl (qw 2 rfl ?_)
        refine EM 69 h rfl (fun h => ?_) fun h => ?_
        ·refine qm rfl (qp rfl (qm rfl ?_))
         refine EM 72 h rfl (fun h => ?_) fun h => ?_
         ·refine qm rfl (B9 rfl (qp rfl (Ab ?_)))
          exact sn [] h
         ·refine qw 2 rfl (qp rfl (Ab ?_))
          exact sn [] h
        ·refine qn rfl (qp rfl (qw 3 rfl (qp rfl (Ab ?_))))
         exact sn [] h
       ·refine A7 h (fun h => ?_) fun h => ?_
        ·refine wq rfl (qw 4 rfl ?_)
         refine Bq h fun v19 a19 h => D0 (ds0 := [_, _, _, _]) [90000] [] [true] (Hi N v11.1 v1.2.1 v1.2.2.1 p4 v19 a19) (.p rfl) c4 rfl ⟨rfl, rfl, rfl, rfl, tv⟩ rfl rfl (by decide) ⟨rfl, tv⟩ rfl (Bi rfl) tv ⟨(fun h => by cases h), tv⟩ rfl rfl rfl ?_
         refine Ab ?_
         refine A7 h (fun h => ?_) fun h => ?_
         ·obtain rfl := sj h
          refine Aq ⟨_, (sm [] [] [(90000, .vec 1 (v19.2.map Av))] rfl rfl), ?_⟩
          exact ⟨⟨[], tv, rfl⟩, ⟨rfl, tv⟩, tv⟩
         ·refine Ai ?_
          exact sn [] h
        ·refine Ai ?_
         exact sn [] h
      ·refine AK ?_
       refine AN h (fun v21 => mk [(0, oD (.own 90000)), (1, iD v1.2.1), (2, iD v1.2.2.1), (3, iD v7.2), (4, oD (.clo (BS (F2 false Av false Av) CT p4))), (10, bD v1.2.2.2.2.1), (11, bD v1.2.2.2.2.2), (12, iD ((wI .i64 (v1.2.2.1 - v1.2.1)))), (13, iD v11.2.1), (97, bD v21)] [(90000, .vec 1 (v14.map Av))]) (fun j21 h => ?_) (fun v21 h => ?_)
       ·refine Ag As rfl (qm rfl (FW rfl (qm rfl ?_)))
        refine EM 83 h rfl (fun h => ?_) fun h => ?_
        ·refine qw 3 rfl (Cy rfl ?_)
         refine Bb h fun v23 a23 b23 h => qI A0 Bj a23 (Ac b23) rfl (qj D1 (Ac b23) rfl (qw 2 rfl ?_))
         refine Bb h fun v24 a24 b24 h => qI A0 Bj a24 (Ac b24) rfl (qj D1 (Ac b24) rfl ?_)
         refine Bq h fun v25 a25 h => Fk (ds0 := [_, _]) (ar := (F2 false Av false Av) ((v23, v24))) (.g rfl rfl) rfl rfl ⟨rfl, rfl, tv⟩ rfl rfl rfl (Fi (Hu _ _ _ _ EP EP) a25) ?_
         refine AV rfl (Cc rfl (qp rfl (AD (by kernel_rfl) ?_)))
         exact sn [] h
        ·refine qw 13 rfl (qp rfl (AD (by kernel_rfl) ?_))
         exact sn [] h
       ·refine A7 h (fun h => ?_) fun h => ?_
        ·refine wq rfl (qw 5 rfl ?_)
         refine Bq h fun v27 a27 h => D0 (ds0 := [_, _, _, _, _]) [90000] [] [true] (Ib N v14 v1.2.1 v1.2.2.1 v11.2.1 p4 v27 a27) (.p rfl) bV rfl ⟨rfl, rfl, rfl, rfl, rfl, tv⟩ rfl rfl (by decide) ⟨rfl, tv⟩ rfl (Bi rfl) tv ⟨(fun h => by cases h), tv⟩ rfl rfl rfl ?_
         refine qa rfl (Ab (wq rfl (qm rfl (qa rfl (Ab (AQ ?_))))))
         exact sn [] h
        ·refine Ai (wq rfl (qw 5 rfl ?_))
         refine Bq h fun v28 a28 h => D0 (ds0 := [_, _, _, _, _]) [90000] [] [true] (Jq N v14 v1.2.1 v1.2.2.1 v11.2.1 p4 v28 a28) (.p rfl) cf rfl ⟨rfl, rfl, rfl, rfl, rfl, tv⟩ rfl rfl (by decide) ⟨rfl, tv⟩ rfl (Bi rfl) tv ⟨(fun h => by cases h), tv⟩ rfl rfl rfl ?_
         refine qm rfl (qx rfl (qx rfl (qa rfl (qa rfl (Ab (wq rfl (qm rfl (qa rfl (Ab (wq rfl (qw 2 rfl (Cy rfl (qw 2 rfl (Cy rfl (qa rfl (qa rfl (Ab (wq rfl (qm rfl (Qp rfl (by decide) (qa rfl (Ab (wq rfl (qw 2 rfl (AV rfl (Ab ?_))))))))))))))))))))))))))
         refine A7 h (fun h => ?_) fun h => ?_
         ·refine wq rfl (qw 2 rfl (Df rfl (qa rfl (Ab (wq rfl (qw 5 rfl ?_))))))
          refine Bq h fun v30 a30 h => D0 (ds0 := [_, _, _, _, _]) [90000] [] [true] (hrc v28.2.2 v1.2.1 v28.1 v7.2 p4 v30 a30) (.p rfl) Xm rfl ⟨rfl, rfl, rfl, rfl, rfl, tv⟩ rfl rfl (by decide) ⟨rfl, tv⟩ rfl (Bi rfl) tv ⟨(fun h => by cases h), tv⟩ rfl rfl rfl ?_
          refine Ab (Ag As rfl (qm rfl (AP rfl (qe rfl ?_))))
          exact sn [] h
         ·refine wq rfl (qw 2 rfl (Df rfl (qa rfl (Ab (wq rfl (qw 2 rfl (AP rfl (qw 3 rfl ?_))))))))
          refine Bq h fun v31 a31 h => D0 (ds0 := [_, _, _, _, _]) [90000] [] [true] (hrc v28.2.2 ((wI .i64 (v28.1 + 1))) v1.2.2.1 v7.2 p4 v31 a31) (.p rfl) Xm rfl ⟨rfl, rfl, rfl, rfl, rfl, tv⟩ rfl rfl (by decide) ⟨rfl, tv⟩ rfl (Bi rfl) tv ⟨(fun h => by cases h), tv⟩ rfl rfl rfl ?_
          refine Ab (Ag As rfl (qm rfl (qe rfl ?_)))
          exact sn [] h
 ·cases h
theorem GW (N : Nat) : ∀ (k : Nat) (p0 : List Int) (p1 : Int) (p2 : Int) (p3 : Int) (p4 : (Int × Int) → Option Int) (r : (List Int)), DR N k p0 p1 p2 p3 p4 = some r → B2 zA 111 [oD (.own 90000), iD p1, iD p2, iD p3, oD (.clo (BS (F2 false Av false Av) CT p4))] [(.vec 1 (p0.map Av), .vec 1 (r.map Av))] [] (.tup [])
 | 0, _, _, _, _, _, _, h => by cases h
 | k + 1, p0, p1, p2, p3, p4, r, h => Jm N (DR N k) (GW N k) p0 p1 p2 p3 p4 r h
theorem JU (N : Nat) (p0 : List Int) (p1 : Int) (p2 : Int) (p3 : Int) (p4 : (Int × Int) → Option Int) (r : (List Int)) (h : GY N p0 p1 p2 p3 p4 = some r) : B2 zA 111 [oD (.own 90000), iD p1, iD p2, iD p3, oD (.clo (BS (F2 false Av false Av) CT p4))] [(.vec 1 (p0.map Av), .vec 1 (r.map Av))] [] (.tup []) := GW N N p0 p1 p2 p3 p4 r h
theorem Kh (N : Nat) (p0 : List Int) (p1 : (Int × Int) → Option Int) (r : (List Int)) (h : FI N p0 p1 = some r) : B2 zA 77 [oD (.own 90000), oD (.clo (BS (F2 false Av false Av) CT p1))] [(.vec 1 (p0.map Av), .vec 1 (r.map Av))] [] (.tup []) := by
 unfold FI at h
 refine Bz (n := 14) (rs := []) Tryz.func77 rfl rfl rfl (D8 rfl) (D8 rfl) rfl rfl (D8 rfl) rfl (D8 rfl) fun w0 S0 GL => Ph ?_
 refine Af (sm [] [(0, oD (.own 90000)), (1, oD (.clo (BS (F2 false Av false Av) CT p1)))] [(90000, .vec 1 (p0.map Av))] rfl rfl) (wq rfl (qm rfl (FG A0 rfl (qa rfl (Ab (Ag As rfl (qw 3 rfl (Id Z6 Wi rfl ?_))))))))
 refine Bq h fun v1 a1 h => Ax [] (LZ N ((wI .u64 ((p0.length : Int)))) v1 a1) Zz rfl (qm rfl ?_)
 refine Bq h fun v2 a2 h => D0 (ds0 := [_, _, _, _, _]) [90000] [] [true] (JU N p0 0 ((p0.length : Int)) v1 p1 v2 a2) (.p rfl) Xm rfl ⟨rfl, rfl, rfl, rfl, rfl, tv⟩ rfl rfl (by decide) ⟨rfl, tv⟩ rfl (Bi rfl) tv ⟨(fun h => by cases h), tv⟩ rfl rfl rfl ?_
 refine Ab ?_
 obtain rfl := sj h
 refine ⟨_, (sm [] [] [(90000, .vec 1 (v2.map Av))] rfl rfl), ?_⟩
 exact ⟨⟨[], tv, rfl⟩, ⟨rfl, tv⟩, tv⟩
theorem Lo (N : Nat) (p0 : Int) (r : Int) (h : GD N p0 = some r) : An zA 150 [pD (.val (.int .u32 p0))] [] (iD r) := by
 unfold GD at h
 refine cw (n := 21) (rs := [.tmp 2]) Tryz.func150 fun w0 S0 => ?_
 refine wq rfl (qa rfl (Ab (wq rfl (qm rfl (Ga rfl (by decide) ?_)))))
 refine Bq h fun v1 a1 h => Jl (.p rfl) rfl rfl S8 a1 ?_
 refine qm rfl (Ga rfl (by decide) (IT rfl ?_))
 refine Bq h fun v2 a2 h => Jl (.p rfl) rfl rfl S8 a2 ?_
 refine AP rfl (qm rfl (Ga rfl (by decide) (IT rfl ?_)))
 refine Bq h fun v3 a3 h => Jl (.p rfl) rfl rfl S8 a3 ?_
 refine AP rfl (qm rfl (IT rfl ?_))
 refine Bq h fun v4 a4 h => Jl (.p rfl) rfl rfl S8 a4 ?_
 refine AP rfl (Id Yv VV rfl (qa rfl (AD (by kernel_rfl) ?_)))
 obtain rfl := sj h
 refine Af (sm [] [(2, iD ((wI .i64 ((wI .u8 ((wI .u8 ((wI .u8 (v1 + v2)) + v3)) + v4))))))] [] rfl rfl) (Aq ?_)
 exact ⟨⟨[_], tm, rfl⟩, tv⟩
theorem Lk (N : Nat) (p0 : Int) (r : Int) (h : GG N p0 = some r) : An zA 151 [pD (.val (.int .u64 p0))] [] (iD r) := by
 unfold GG at h
 refine cw (n := 35) (rs := [.tmp 2]) Tryz.func151 fun w0 S0 => ?_
 refine wq rfl (qa rfl (Ab (wq rfl (qm rfl (Ga rfl (by decide) (IT rfl (qm rfl (IT rfl (AP rfl (qa rfl (Ab (wq rfl (qm rfl (Ga rfl (by decide) (IT rfl (qm rfl (IT rfl (AP rfl (qa rfl (Ab (wq rfl (qm rfl (Ga rfl (by decide) (qm rfl (AP rfl (IT rfl (qa rfl (Ab (wq rfl (qw 2 rfl (Ga rfl (by decide) (AP rfl (qa rfl ?_)))))))))))))))))))))))))))))))))
 refine Ab (wq rfl (qw 2 rfl (Ga rfl (by decide) (AP rfl (qa rfl (Ab (wq rfl (qw 2 rfl (Ga rfl (by decide) (AP rfl (qa rfl (Ab (wq rfl (qm rfl (Id U3 VV rfl (IT rfl (qe rfl ?_)))))))))))))))))
 obtain rfl := sj h
 refine Af (sm [] [(2, iD ((AM .i64 ((wI .i64 ((wI .u64 ((wI .u64 ((wI .u64 ((AM .u64 ((wI .u64 ((AW .u64 ((wI .u64 ((AM .u64 ((AW .u64 ((wI .u64 ((AM .u64 ((AW .u64 p0 1)) 6148914691236517205) + (AM .u64 p0 6148914691236517205)))) 2)) 3689348814741910323) + (AM .u64 ((wI .u64 ((AM .u64 ((AW .u64 p0 1)) 6148914691236517205) + (AM .u64 p0 6148914691236517205)))) 3689348814741910323)))) 4) + (wI .u64 ((AM .u64 ((AW .u64 ((wI .u64 ((AM .u64 ((AW .u64 p0 1)) 6148914691236517205) + (AM .u64 p0 6148914691236517205)))) 2)) 3689348814741910323) + (AM .u64 ((wI .u64 ((AM .u64 ((AW .u64 p0 1)) 6148914691236517205) + (AM .u64 p0 6148914691236517205)))) 3689348814741910323)))))) 1085102592571150095) + (AW .u64 ((AM .u64 ((wI .u64 ((AW .u64 ((wI .u64 ((AM .u64 ((AW .u64 ((wI .u64 ((AM .u64 ((AW .u64 p0 1)) 6148914691236517205) + (AM .u64 p0 6148914691236517205)))) 2)) 3689348814741910323) + (AM .u64 ((wI .u64 ((AM .u64 ((AW .u64 p0 1)) 6148914691236517205) + (AM .u64 p0 6148914691236517205)))) 3689348814741910323)))) 4) + (wI .u64 ((AM .u64 ((AW .u64 ((wI .u64 ((AM .u64 ((AW .u64 p0 1)) 6148914691236517205) + (AM .u64 p0 6148914691236517205)))) 2)) 3689348814741910323) + (AM .u64 ((wI .u64 ((AM .u64 ((AW .u64 p0 1)) 6148914691236517205) + (AM .u64 p0 6148914691236517205)))) 3689348814741910323)))))) 1085102592571150095)) 8))) + (AW .u64 ((wI .u64 ((AM .u64 ((wI .u64 ((AW .u64 ((wI .u64 ((AM .u64 ((AW .u64 ((wI .u64 ((AM .u64 ((AW .u64 p0 1)) 6148914691236517205) + (AM .u64 p0 6148914691236517205)))) 2)) 3689348814741910323) + (AM .u64 ((wI .u64 ((AM .u64 ((AW .u64 p0 1)) 6148914691236517205) + (AM .u64 p0 6148914691236517205)))) 3689348814741910323)))) 4) + (wI .u64 ((AM .u64 ((AW .u64 ((wI .u64 ((AM .u64 ((AW .u64 p0 1)) 6148914691236517205) + (AM .u64 p0 6148914691236517205)))) 2)) 3689348814741910323) + (AM .u64 ((wI .u64 ((AM .u64 ((AW .u64 p0 1)) 6148914691236517205) + (AM .u64 p0 6148914691236517205)))) 3689348814741910323)))))) 1085102592571150095) + (AW .u64 ((AM .u64 ((wI .u64 ((AW .u64 ((wI .u64 ((AM .u64 ((AW .u64 ((wI .u64 ((AM .u64 ((AW .u64 p0 1)) 6148914691236517205) + (AM .u64 p0 6148914691236517205)))) 2)) 3689348814741910323) + (AM .u64 ((wI .u64 ((AM .u64 ((AW .u64 p0 1)) 6148914691236517205) + (AM .u64 p0 6148914691236517205)))) 3689348814741910323)))) 4) + (wI .u64 ((AM .u64 ((AW .u64 ((wI .u64 ((AM .u64 ((AW .u64 p0 1)) 6148914691236517205) + (AM .u64 p0 6148914691236517205)))) 2)) 3689348814741910323) + (AM .u64 ((wI .u64 ((AM .u64 ((AW .u64 p0 1)) 6148914691236517205) + (AM .u64 p0 6148914691236517205)))) 3689348814741910323)))))) 1085102592571150095)) 8)))) 16))) + (AW .u64 ((wI .u64 ((wI .u64 ((AM .u64 ((wI .u64 ((AW .u64 ((wI .u64 ((AM .u64 ((AW .u64 ((wI .u64 ((AM .u64 ((AW .u64 p0 1)) 6148914691236517205) + (AM .u64 p0 6148914691236517205)))) 2)) 3689348814741910323) + (AM .u64 ((wI .u64 ((AM .u64 ((AW .u64 p0 1)) 6148914691236517205) + (AM .u64 p0 6148914691236517205)))) 3689348814741910323)))) 4) + (wI .u64 ((AM .u64 ((AW .u64 ((wI .u64 ((AM .u64 ((AW .u64 p0 1)) 6148914691236517205) + (AM .u64 p0 6148914691236517205)))) 2)) 3689348814741910323) + (AM .u64 ((wI .u64 ((AM .u64 ((AW .u64 p0 1)) 6148914691236517205) + (AM .u64 p0 6148914691236517205)))) 3689348814741910323)))))) 1085102592571150095) + (AW .u64 ((AM .u64 ((wI .u64 ((AW .u64 ((wI .u64 ((AM .u64 ((AW .u64 ((wI .u64 ((AM .u64 ((AW .u64 p0 1)) 6148914691236517205) + (AM .u64 p0 6148914691236517205)))) 2)) 3689348814741910323) + (AM .u64 ((wI .u64 ((AM .u64 ((AW .u64 p0 1)) 6148914691236517205) + (AM .u64 p0 6148914691236517205)))) 3689348814741910323)))) 4) + (wI .u64 ((AM .u64 ((AW .u64 ((wI .u64 ((AM .u64 ((AW .u64 p0 1)) 6148914691236517205) + (AM .u64 p0 6148914691236517205)))) 2)) 3689348814741910323) + (AM .u64 ((wI .u64 ((AM .u64 ((AW .u64 p0 1)) 6148914691236517205) + (AM .u64 p0 6148914691236517205)))) 3689348814741910323)))))) 1085102592571150095)) 8))) + (AW .u64 ((wI .u64 ((AM .u64 ((wI .u64 ((AW .u64 ((wI .u64 ((AM .u64 ((AW .u64 ((wI .u64 ((AM .u64 ((AW .u64 p0 1)) 6148914691236517205) + (AM .u64 p0 6148914691236517205)))) 2)) 3689348814741910323) + (AM .u64 ((wI .u64 ((AM .u64 ((AW .u64 p0 1)) 6148914691236517205) + (AM .u64 p0 6148914691236517205)))) 3689348814741910323)))) 4) + (wI .u64 ((AM .u64 ((AW .u64 ((wI .u64 ((AM .u64 ((AW .u64 p0 1)) 6148914691236517205) + (AM .u64 p0 6148914691236517205)))) 2)) 3689348814741910323) + (AM .u64 ((wI .u64 ((AM .u64 ((AW .u64 p0 1)) 6148914691236517205) + (AM .u64 p0 6148914691236517205)))) 3689348814741910323)))))) 1085102592571150095) + (AW .u64 ((AM .u64 ((wI .u64 ((AW .u64 ((wI .u64 ((AM .u64 ((AW .u64 ((wI .u64 ((AM .u64 ((AW .u64 p0 1)) 6148914691236517205) + (AM .u64 p0 6148914691236517205)))) 2)) 3689348814741910323) + (AM .u64 ((wI .u64 ((AM .u64 ((AW .u64 p0 1)) 6148914691236517205) + (AM .u64 p0 6148914691236517205)))) 3689348814741910323)))) 4) + (wI .u64 ((AM .u64 ((AW .u64 ((wI .u64 ((AM .u64 ((AW .u64 p0 1)) 6148914691236517205) + (AM .u64 p0 6148914691236517205)))) 2)) 3689348814741910323) + (AM .u64 ((wI .u64 ((AM .u64 ((AW .u64 p0 1)) 6148914691236517205) + (AM .u64 p0 6148914691236517205)))) 3689348814741910323)))))) 1085102592571150095)) 8)))) 16)))) 32)))))) 127)))] [] rfl rfl) (Aq ?_)
 exact ⟨⟨[_], tm, rfl⟩, tv⟩
theorem Jc (N : Nat) (p0 : Int) (r : Int) (h : FN N p0 = some r) : An zA 113 [pD (.val (.int .u64 p0))] [] (iD r) := by
 unfold FN at h
 refine cw (n := 8) (rs := [.tmp 2]) Tryz.func113 fun w0 S0 => ?_
 refine wq rfl (qa rfl (Ab (AK ?_)))
 refine A7 h (fun h => ?_) fun h => ?_
 ·refine wq rfl (qm rfl (Id Wb Rd rfl ?_))
  refine Bq h fun v2 a2 h => Ax [] (Lo N ((wI .u32 p0)) v2 a2) dh rfl (qe rfl ?_)
  obtain rfl := sj h
  refine Af (sm [] [(2, iD v2)] [] rfl rfl) (Aq ?_)
  exact ⟨⟨[_], tm, rfl⟩, tv⟩
 ·refine Ai (wq rfl (qm rfl ?_))
  refine Bq h fun v3 a3 h => Ax [] (Lk N p0 v3 a3) ct rfl (qe rfl ?_)
  obtain rfl := sj h
  refine Af (sm [] [(2, iD v3)] [] rfl rfl) (Aq ?_)
  exact ⟨⟨[_], tm, rfl⟩, tv⟩
def aq : Go.Shelf.Ren := ⟨fun | 27 => 82 | 28 => 115 | 29 => 116 | n => n, fun | 0 => 0 | 3 => 3 | 4 => 4 | 5 => 5 | 22 => 147 | 25 => 71 | 27 => 145 | 53 => 180 | 54 => 181 | n => n, fun | 0 => 0 | 1 => 1 | n => n⟩
theorem ah : Lays7.n27 zA aq := { mixed := As, f27 := Tryz.func82.trans (congrArg some (by kernel_rfl)), f28 := Tryz.func115.trans (congrArg some (by kernel_rfl)), f29 := Tryz.func116.trans (congrArg some (by kernel_rfl)), t0 := Tryz.underlying0, a0 := Tryz.isAgg0, z0 := Tryz.sizeOf0, v0 := Tryz.zeroValue0, i0 := by kernel_rfl, t3 := Tryz.underlying3, a3 := Tryz.isAgg3, z3 := Tryz.sizeOf3, v3 := Tryz.zeroValue3, i3 := by kernel_rfl, t4 := Tryz.underlying4, a4 := Tryz.isAgg4, z4 := Tryz.sizeOf4, v4 := Tryz.zeroValue4, i4 := by kernel_rfl, t5 := Tryz.underlying5, a5 := Tryz.isAgg5, z5 := Tryz.sizeOf5, v5 := Tryz.zeroValue5, i5 := by kernel_rfl, t22 := Tryz.underlying147, a22 := Tryz.isAgg147, z22 := Tryz.sizeOf147, v22 := Tryz.zeroValue147, i22 := by kernel_rfl, t25 := Tryz.underlying71, a25 := Tryz.isAgg71, z25 := Tryz.sizeOf71, v25 := Tryz.zeroValue71, i25 := by kernel_rfl, t27 := Tryz.underlying145, a27 := Tryz.isAgg145, z27 := Tryz.sizeOf145, v27 := Tryz.zeroValue145, i27 := by kernel_rfl, t53 := Tryz.underlying180, a53 := Tryz.isAgg180, z53 := Tryz.sizeOf180, v53 := Tryz.zeroValue180, i53 := by kernel_rfl, t54 := Tryz.underlying181, a54 := Tryz.isAgg181, z54 := Tryz.sizeOf181, g0 := by kernel_rfl, g1 := by kernel_rfl }
theorem KQ (N : Nat) (p0 : Int) (r : Int) (h : HC N p0 = some r) : An zA 82 [pD (.val (.int .u64 p0))] [] (iD r) := ej ah (by kernel_rfl) h
theorem IU (N : Nat) (p0 : Int) (r : (List Int)) (h : Gj N p0 = some r) : An zA 52 [pD (.val (.int .u64 p0))] [(1, r.map Ak)] (oD (.own 0)) := by
 unfold Gj at h
 refine cw (n := 18) (rs := [.tmp 2]) Tryz.func52 fun w0 S0 => ?_
 refine wq rfl (qa rfl (Ab (wq rfl (qa rfl (Ab (wp rfl (qm rfl (qe rfl ?_))))))))
 refine Ay (L := Hb N) h (fun v1 => mk [(3, oD (.own 2001)), (4, pD (.val (.int .u64 v1.2)))] [(2001, .vec 1 (v1.1.map Ak))]) (fun v2 => mk [(3, oD (.own 2002))] [(2002, .vec 1 (v2.map Ak))]) (fun _ _ => rfl) ((A2 3 2003 1 rfl rfl rfl).trans (sm [(2001, 2003)] _ _ rfl rfl)) (fun j1 n1 v1 h => ?_) (fun v2 s h hs => ?_)
 ·unfold Hb at h
  refine wp rfl (qm rfl (BB rfl (Ab ?_)))
  refine A7 h (fun h => ?_) fun h => ?_
  ·refine Ai (AK (AF (Ag As rfl (qw 2 rfl ?_))))
   refine Bq h fun v4 a4 h => Ax [] (KQ N v1.2 v4 a4) ef rfl (DQ Au CP JH rfl ?_)
   refine Gg h fun c5 h => CJ (f := Ak) Au Au CP KS JH c5 rfl (qa rfl (Ab (Ag As rfl (qw 2 rfl (Cy rfl (IT rfl (qe rfl ?_)))))))
   exact sn [(2001, 16)] h
  ·refine AQ ?_
   exact sn [(2002, 2001)] h
 ·refine Af hs (wq rfl (qm rfl (qe rfl ?_)))
  obtain rfl := sj h
  refine Af (sm [(1000, 2002)] [(2, oD (.own 1000))] [(1000, .vec 1 (v2.map Ak))] rfl rfl) (Aq ?_)
  exact ⟨⟨[_], tm, rfl⟩, ⟨rfl, tv⟩⟩
theorem LX (N : Nat) (p0 : Int) (r : Bool) (h : HT N p0 = some r) : An zA 173 [iD p0] [] (bD r) := by
 unfold HT at h
 refine cw (n := 6) (rs := [.tmp 2]) Tryz.func173 fun w0 S0 => ?_
 refine wq rfl (qa rfl (Ab (wq rfl (qw 2 rfl (BB rfl (qe rfl ?_))))))
 obtain rfl := sj h
 refine Af (sm [] [(2, bD ((p0 != p0)))] [] rfl rfl) (Aq ?_)
 exact ⟨⟨[_], tm, rfl⟩, tv⟩
theorem Ot (N : Nat) (p0 : Int) (p1 : Int) (r : Int) (h : In N p0 p1 = some r) : An zA 152 [iD p0, iD p1] [] (iD r) := by
 unfold In at h
 refine cw (n := 20) (rs := [.tmp 4]) Tryz.func152 fun w0 S0 => ?_
 refine wq rfl (qa rfl (Ab (wq rfl (qm rfl ?_))))
 refine Bq h fun v1 a1 h => Ax [] (LX N p0 v1 a1) ZK rfl (qa rfl (Ab (wq rfl (qm rfl ?_))))
 refine Bq h fun v2 a2 h => Ax [] (LX N p1 v2 a2) ZK rfl (qa rfl (Ab (wp rfl (qm rfl (Ab ?_)))))
 refine A7 h (fun h => ?_) fun h => ?_
 ·refine wp rfl (qm rfl (Ab ?_))
  refine A7 h (fun h => ?_) fun h => ?_
  ·refine wq rfl (qe rfl ?_)
   obtain rfl := sj h
   refine Af (sm [] [(4, iD 0)] [] rfl rfl) (Aq ?_)
   exact ⟨⟨[_], tm, rfl⟩, tv⟩
  ·refine Ai (wq rfl (qe rfl ?_))
   obtain rfl := sj h
   refine Af (sm [] [(4, iD ((-1)))] [] rfl rfl) (Aq ?_)
   exact ⟨⟨[_], tm, rfl⟩, tv⟩
 ·refine Ai (wp rfl (qm rfl (Ab ?_)))
  refine A7 h (fun h => ?_) fun h => ?_
  ·refine wq rfl (qe rfl ?_)
   obtain rfl := sj h
   refine Af (sm [] [(4, iD 1)] [] rfl rfl) (Aq ?_)
   exact ⟨⟨[_], tm, rfl⟩, tv⟩
  ·refine Ai (wp rfl (qw 2 rfl (AV rfl (Ab ?_))))
   refine A7 h (fun h => ?_) fun h => ?_
   ·refine wq rfl (qe rfl ?_)
    obtain rfl := sj h
    refine Af (sm [] [(4, iD ((-1)))] [] rfl rfl) (Aq ?_)
    exact ⟨⟨[_], tm, rfl⟩, tv⟩
   ·refine Ai (wp rfl (qw 2 rfl (FW rfl (Ab ?_))))
    refine A7 h (fun h => ?_) fun h => ?_
    ·refine wq rfl (qe rfl ?_)
     obtain rfl := sj h
     refine Af (sm [] [(4, iD 1)] [] rfl rfl) (Aq ?_)
     exact ⟨⟨[_], tm, rfl⟩, tv⟩
    ·refine Ai (wq rfl (qe rfl ?_))
     obtain rfl := sj h
     refine Af (sm [] [(4, iD 0)] [] rfl rfl) (Aq ?_)
     exact ⟨⟨[_], tm, rfl⟩, tv⟩
theorem K5 (N : Nat) (p0 : List Int) (p1 : List Int) (r : Int) (h : Ge N p0 p1 = some r) : An zA 114 [pD (.sl (p0.map Ak)), pD (.sl (p1.map Ak))] [] (iD r) := by
 unfold Ge at h
 refine cw (n := 36) (rs := [.tmp 4]) Tryz.func114 fun w0 S0 => ?_
 refine wq rfl (qa rfl (Ab (wp rfl (qm rfl (AO Au rfl (qm rfl (Ab ?_)))))))
 refine Ay (L := Ew N p0 p1) h (fun v1 => mk [(0, pD (.sl (p0.map Ak))), (1, pD (.sl (p1.map Ak))), (9, pD (.sl (p0.map Ak))), (10, iD ((p0.length : Int))), (11, iD v1)] []) (fun v2 => mk [(0, pD (.sl (p0.map Ak))), (1, pD (.sl (p1.map Ak)))] []) (fun _ _ => rfl) (sm [] _ _ rfl rfl) (fun j1 n1 v1 h => ?_) (fun v2 s h hs => ?_)
 ·unfold Ew at h
  refine wq rfl (AV rfl (Ab (AK ?_)))
  refine A7 h (fun h => ?_) fun h => ?_
  ·refine Ai (AK (AF (wq rfl (qm rfl ?_))))
   refine Bb h fun v4 a4 b4 h => qi Au CP a4 (Ac b4) rfl (qk B4 rfl (qa rfl (qa rfl (Ab (wp rfl (qw 2 rfl (AO Au rfl (Df rfl (Ab ?_)))))))))
   refine A7 h (fun h => ?_) fun h => ?_
   ·refine wq rfl (qe rfl ?_)
    obtain rfl := sj h
    refine Af (sm [] [(4, iD 1)] [] rfl rfl) (Aq ?_)
    exact ⟨⟨[_], tm, rfl⟩, tv⟩
   ·refine Ai (wq rfl (qw 2 rfl ?_))
    refine Bb h fun v6 a6 b6 h => qi Au CP a6 (Ac b6) rfl (qk B4 rfl (qa rfl (Ab (wq rfl (qw 2 rfl ?_)))))
    refine Bq h fun v7 a7 h => Ax [] (Ot N v4 v6 v7 a7) bk rfl (qa rfl (Ab (wq rfl (qm rfl (BB rfl (Ab ?_))))))
    refine A7 h (fun h => ?_) fun h => ?_
    ·refine wq rfl (qm rfl (qe rfl ?_))
     obtain rfl := sj h
     refine Af (sm [] [(4, iD v7)] [] rfl rfl) (Aq ?_)
     exact ⟨⟨[_], tm, rfl⟩, tv⟩
    ·refine Ai (Ag As rfl (AP rfl (qm rfl (Ab ?_))))
     exact sn [] h
  ·refine AQ ?_
   exact sn [] h
 ·refine Af hs (wp rfl (qm rfl (AO Au rfl (qm rfl (AO Au rfl (AV rfl (Ab ?_)))))))
  refine A7 h (fun h => ?_) fun h => ?_
  ·refine wq rfl (qe rfl ?_)
   obtain rfl := sj h
   refine Af (sm [] [(4, iD ((-1)))] [] rfl rfl) (Aq ?_)
   exact ⟨⟨[_], tm, rfl⟩, tv⟩
  ·refine Ai (wq rfl (qe rfl ?_))
   obtain rfl := sj h
   refine Af (sm [] [(4, iD 0)] [] rfl rfl) (Aq ?_)
   exact ⟨⟨[_], tm, rfl⟩, tv⟩
theorem PM (N : Nat) (p0 : Int) (p1 : Int) (r : Int) (h : Ii N p0 p1 = some r) : An zA 78 [pD (.val (.int .u64 p0)), pD (.val (.int .u64 p1))] [] (iD r) := by
 unfold Ii at h
 refine cw (n := 19) (rs := [.tmp 4]) Tryz.func78 fun w0 S0 => ?_
 refine wq rfl (qa rfl (Ab (wp rfl (qm rfl ?_))))
 refine Bq h fun v1 a1 h => Ax [] (Jc N p0 v1 a1) Zp rfl (qm rfl ?_)
 refine Bq h fun v2 a2 h => Ax [] (Jc N p1 v2 a2) Zp rfl (Cy rfl (qa rfl (Ab (wq rfl (qm rfl (BB rfl (Ab ?_)))))))
 refine A7 h (fun h => ?_) fun h => ?_
 ·refine wq rfl (qm rfl (qe rfl ?_))
  obtain rfl := sj h
  refine Af (sm [] [(4, iD ((wI .i64 (v1 - v2))))] [] rfl rfl) (Aq ?_)
  exact ⟨⟨[_], tm, rfl⟩, tv⟩
 ·refine Ai (wq rfl (qm rfl ?_))
  refine Bq h fun v4 a4 h => Ax [2001] (IU N p0 v4 a4) Ze rfl (qm rfl ?_)
  refine Bq h fun v5 a5 h => Ax [2002] (IU N p1 v5 a5) Ze rfl ?_
  refine Bq h fun v6 a6 h => D4 [] [2001, 2002] (K5 N v4 v5 v6 a6) bJ Cm rfl (qe rfl ?_)
  obtain rfl := sj h
  refine Af (sm [] [(4, iD v6)] [] rfl rfl) (Aq ?_)
  exact ⟨⟨[_], tm, rfl⟩, tv⟩
theorem I8 (N : Nat) (p0 : List Int) (p1 : Int) (r : Int) (h : DP N p0 p1 = some r) : An zA 72 [pD (.sl (p0.map Ak)), iD p1] [] (iD r) := by
 unfold DP at h
 refine cw (n := 19) (rs := [.tmp 4]) Tryz.func72 fun w0 S0 => ?_
 refine wq rfl (qa rfl (Ab (wp rfl (qm rfl (AO Au rfl (qm rfl (Ab ?_)))))))
 refine Ay (L := BU N p0 p1) h (fun v1 => mk [(0, pD (.sl (p0.map Ak))), (1, iD p1), (7, iD ((p0.length : Int))), (8, iD v1)] []) (fun v2 => mk [] []) (fun _ _ => rfl) (sm [] _ _ rfl rfl) (fun j1 n1 v1 h => ?_) (fun v2 s h hs => ?_)
 ·unfold BU at h
  refine wq rfl (AV rfl (Ab (AK ?_)))
  refine A7 h (fun h => ?_) fun h => ?_
  ·refine Ai (AK (AF (wq rfl (qm rfl (qa rfl (Ab (wq rfl (qw 3 rfl ?_))))))))
   refine Bb h fun v4 a4 b4 h => qi Au CP a4 (Ac b4) rfl (qk B4 rfl (B9 rfl (Ab ?_)))
   refine A7 h (fun h => ?_) fun h => ?_
   ·refine wq rfl (qm rfl (qe rfl ?_))
    obtain rfl := sj h
    refine Af (sm [] [(4, iD v1)] [] rfl rfl) (Aq ?_)
    exact ⟨⟨[_], tm, rfl⟩, tv⟩
   ·refine Ai (Ag As rfl (AP rfl (qm rfl (Ab ?_))))
    exact sn [] h
  ·refine AQ ?_
   exact sn [] h
 ·refine Af hs (wq rfl (qe rfl ?_))
  obtain rfl := sj h
  refine Af (sm [] [(4, iD ((-1)))] [] rfl rfl) (Aq ?_)
  exact ⟨⟨[_], tm, rfl⟩, tv⟩
theorem H4 (N : Nat) (p0 : List (List Bool)) (r : (List (List Bool))) (h : Dl N p0 = some r) : An zA 102 [pD (.sl (p0.map (Gq eB)))] [(1, r.map (Gq eB))] (oD (.own 0)) := by
 unfold Dl at h
 refine cw (n := 8) (rs := [.tmp 2]) Tryz.func102 fun w0 S0 => ?_
 refine wq rfl (qa rfl (Ab (wp rfl (qm rfl ?_))))
 refine NR (.p rfl) rfl E5 ?_
 refine Ab ?_
 refine NK rfl (fun c2 => ?_) ?_
 ·have c2 := uQ.1 c2
  rw [c2] at h
  have h : (some (([] : List (List Bool)))) = some r := h
  refine wq rfl (qe rfl ?_)
  obtain rfl := sj h
  refine Af ((A2 2 2001 1 rfl rfl rfl).trans (sm [(1000, 2001)] [(2, oD (.own 1000))] [(1000, .vec 1 ((([] : List (List Bool))).map (Gq eB)))] rfl rfl)) (Aq ?_)
  exact ⟨⟨[_], tm, rfl⟩, ⟨rfl, tv⟩⟩
 ·refine Ai (wq rfl (DQ E5 KF UR rfl (qm rfl ?_)))
  refine Gg h fun c1 h => JV (f := (Gq eB)) E5 E5 KF WQ UR (fun _ => rfl) c1 rfl (qe rfl ?_)
  obtain rfl := sj h
  refine Af (sm [(1000, 7)] [(2, oD (.own 1000))] [(1000, .vec 1 (((([] : List (List Bool))) ++ p0).map (Gq eB)))] rfl rfl) (Aq ?_)
  exact ⟨⟨[_], tm, rfl⟩, ⟨rfl, tv⟩⟩
theorem HD (N : Nat) (p0 : List Bool) (r : (List Bool)) (h : CV N p0 = some r) : An zA 103 [pD (.sl (p0.map eB))] [(1, r.map eB)] (oD (.own 0)) := by
 unfold CV at h
 refine cw (n := 8) (rs := [.tmp 2]) Tryz.func103 fun w0 S0 => ?_
 refine wq rfl (qa rfl (Ab (wp rfl (qm rfl ?_))))
 refine NR (.p rfl) rfl F1 ?_
 refine Ab ?_
 refine NK rfl (fun c2 => ?_) ?_
 ·have c2 := uQ.1 c2
  rw [c2] at h
  have h : (some (([] : List Bool))) = some r := h
  refine wq rfl (qe rfl ?_)
  obtain rfl := sj h
  refine Af ((A2 2 2001 1 rfl rfl rfl).trans (sm [(1000, 2001)] [(2, oD (.own 1000))] [(1000, .vec 1 ((([] : List Bool)).map eB))] rfl rfl)) (Aq ?_)
  exact ⟨⟨[_], tm, rfl⟩, ⟨rfl, tv⟩⟩
 ·refine Ai (wq rfl (DQ F1 Qs Uf rfl (qm rfl ?_)))
  refine Gg h fun c1 h => JV (f := eB) F1 F1 Qs W5 Uf (fun _ => rfl) c1 rfl (qe rfl ?_)
  obtain rfl := sj h
  refine Af (sm [(1000, 7)] [(2, oD (.own 1000))] [(1000, .vec 1 (((([] : List Bool)) ++ p0).map eB))] rfl rfl) (Aq ?_)
  exact ⟨⟨[_], tm, rfl⟩, ⟨rfl, tv⟩⟩
theorem Qz (N : Nat) (p0 : Am) (r : Am) (h : Hm N p0 = some r) : An zA 73 [.e (.agg (Bg p0))] [(1, r.fq.map (Gq eB)), (1, r.fk.map (Gq eB))] (.e (.agg [iC r.ff, iC r.fg, iC r.fj, .pure (.val (.bool r.fr)), .own 0, .own 1])) := by
 unfold Hm at h
 refine cw (n := 48) (rs := [.cell 2 84]) Tryz.func73 fun w0 S0 => ?_
 refine wq rfl (qb rfl (qz JS rfl (Ab (wq rfl (qf HJ rfl (ql Jf rfl ?_))))))
 refine Bq h fun v1 a1 h => Ax [2001] (H4 N p0.fq v1 a1) ZU rfl (qf F5 rfl (ql Jf rfl ?_))
 refine Bq h fun v2 a2 h => Ax [2002] (H4 N p0.fk v2 a2) ZU rfl (qf HJ rfl (qs YP rfl (qf F5 rfl (qs YP rfl (AD (by kernel_rfl) (wp rfl (qf HJ rfl (ql Jf rfl (FG E5 rfl (qm rfl (Ab ?_)))))))))))
 refine Ay (L := EA N v1) h (fun v3 => mk [(1, oD (.ptr 1 0)), (2, oD (.ptr 2 0)), (15, iD ((v1.length : Int))), (16, iD v3.2)] [(1, .box [iC p0.ff, iC p0.fg, iC p0.fj, .pure (.val (.bool p0.fr)), .own 2003, .own 2004]), (2, .box [iC 0, iC 0, iC 0, .pure (.val (.bool false)), .pure (.nil0), .pure (.nil0)]), (2003, .vec 1 (v3.1.map (Gq eB))), (2004, .vec 1 (v2.map (Gq eB)))]) (fun v4 => mk [(1, oD (.ptr 1 0)), (2, oD (.ptr 2 0))] [(1, .box [iC p0.ff, iC p0.fg, iC p0.fj, .pure (.val (.bool p0.fr)), .own 2005, .own 2006]), (2, .box [iC 0, iC 0, iC 0, .pure (.val (.bool false)), .pure (.nil0), .pure (.nil0)]), (2005, .vec 1 (v4.map (Gq eB))), (2006, .vec 1 (v2.map (Gq eB)))]) (fun _ _ => rfl) (sm [(2003, 2001), (2004, 2002)] _ _ rfl rfl) (fun j3 n3 v3 h => ?_) (fun v4 s h hs => ?_)
 ·unfold EA at h
  refine wq rfl (AV rfl (Ab (AK ?_)))
  refine A7 h (fun h => ?_) fun h => ?_
  ·refine Ai (AK (AF (wq rfl (qm rfl (qa rfl (Ab (Ag As rfl (qf HJ rfl (ql Jf rfl (qm rfl (qf HJ rfl (ql Jf rfl (qm rfl ?_)))))))))))))
   refine Bb h fun v6 a6 b6 h => qI E5 KF a6 (Ac b6) rfl (qj Pp (Ac b6) rfl ?_)
   refine Bq h fun v7 a7 h => Ax [] ((HD N v6 v7 a7).share rfl) ZW rfl ?_
   refine Bb h fun v8 a8 b8 h => qI E5 KF a8 (Ac b8) rfl ?_
   refine A8 rfl rfl rfl rfl (Ac b8) rfl KF rfl (D8 rfl) (A5 (Gq eB) v3.1 _ v7) ?_
   refine AD (by kernel_rfl) (Ag As rfl (AP rfl (qm rfl (Ab ?_))))
   exact sn [] h
  ·refine AQ ?_
   exact sn [(2005, 2003), (2006, 2004)] h
 ·refine Af hs (wp rfl (qf F5 rfl (ql Jf rfl (FG E5 rfl (qm rfl (Ab ?_))))))
  refine Ay (L := Dq N v2) h (fun v9 => mk [(1, oD (.ptr 1 0)), (2, oD (.ptr 2 0)), (32, iD ((v2.length : Int))), (33, iD v9.2)] [(1, .box [iC p0.ff, iC p0.fg, iC p0.fj, .pure (.val (.bool p0.fr)), .own 2007, .own 2008]), (2, .box [iC 0, iC 0, iC 0, .pure (.val (.bool false)), .pure (.nil0), .pure (.nil0)]), (2007, .vec 1 (v4.map (Gq eB))), (2008, .vec 1 (v9.1.map (Gq eB)))]) (fun v10 => mk [(1, oD (.ptr 1 0)), (2, oD (.ptr 2 0))] [(1, .box [iC p0.ff, iC p0.fg, iC p0.fj, .pure (.val (.bool p0.fr)), .own 2009, .own 2010]), (2, .box [iC 0, iC 0, iC 0, .pure (.val (.bool false)), .pure (.nil0), .pure (.nil0)]), (2009, .vec 1 (v4.map (Gq eB))), (2010, .vec 1 (v10.map (Gq eB)))]) (fun _ _ => rfl) (sm [(2007, 2005), (2008, 2006)] _ _ rfl rfl) (fun j9 n9 v9 h => ?_) (fun v10 s h hs => ?_)
  ·unfold Dq at h
   refine wq rfl (AV rfl (Ab (AK ?_)))
   refine A7 h (fun h => ?_) fun h => ?_
   ·refine Ai (AK (AF (wq rfl (qm rfl (qa rfl (Ab (Ag As rfl (qf F5 rfl (ql Jf rfl (qm rfl (qf F5 rfl (ql Jf rfl (qm rfl ?_)))))))))))))
    refine Bb h fun v12 a12 b12 h => qI E5 KF a12 (Ac b12) rfl (qj Pp (Ac b12) rfl ?_)
    refine Bq h fun v13 a13 h => Ax [] ((HD N v12 v13 a13).share rfl) ZW rfl ?_
    refine Bb h fun v14 a14 b14 h => qI E5 KF a14 (Ac b14) rfl ?_
    refine A8 rfl rfl rfl rfl (Ac b14) rfl KF rfl (D8 rfl) (A5 (Gq eB) v9.1 _ v13) ?_
    refine AD (by kernel_rfl) (Ag As rfl (AP rfl (qm rfl (Ab ?_))))
    exact sn [] h
   ·refine AQ ?_
    exact sn [(2009, 2007), (2010, 2008)] h
  ·refine Af hs (wq rfl (qL Hy DM rfl (qs DM rfl (Ab ?_))))
   obtain rfl := sj h
   refine Af (sm [(1000, 2009), (1001, 2010)] [(2, oD (.ptr 2 0))] [(2, .box [iC p0.ff, iC p0.fg, iC p0.fj, .pure (.val (.bool p0.fr)), .own 1000, .own 1001]), (1000, .vec 1 (v4.map (Gq eB))), (1001, .vec 1 (v10.map (Gq eB)))] rfl rfl) (Aq ?_)
   exact ⟨⟨[_], ⟨.cellN _ _ _ _ _ _ _ rfl rfl Hy DM rfl rfl (Kn rfl), tv⟩, rfl⟩, ⟨rfl, rfl, tv⟩⟩
theorem OX (N : Nat) (p0 : Aa) (p1 : List Int) (r : Aa × Int) (h : Gp N p0 p1 = some r) : An zA 39 [.e (.agg (Ah p0)), pD (.sl (p1.map Ak))] [(1, r.1.fb.map Ak), (1, r.1.fi.map Ak), (1, r.1.fm.map Ak), (6, r.1.fc.map AT)] (.tup [.agg [.own 0, .own 1, .own 2, .own 3], .one (iC r.2)]) := by
 unfold Gp at h
 refine cw (n := 121) (rs := [.cell 4 29, .tmp 5]) Tryz.func39 fun w0 S0 => ?_
 refine wq rfl (qb rfl (qz K8 rfl (qa rfl (Ab (wp rfl (qL Dk Cg rfl ?_))))))
 refine Bq h fun v1 a1 h => Ax [] (Fv N p0 v1 a1) Wr rfl (qa rfl (Ab (wq rfl (qm rfl (BB rfl (Ab ?_))))))
 refine A7 h (fun h => ?_) fun h => ?_
 ·refine wq rfl (Bp K8 SU rfl (qm rfl (qs Cg rfl (qe rfl ?_))))
  obtain rfl := sj h
  refine Af ((Ar 4 0 2001 1 _ rfl rfl rfl rfl).trans ((Ar 4 1 2002 1 _ rfl rfl rfl rfl).trans ((Ar 4 2 2003 1 _ rfl rfl rfl rfl).trans ((Ar 4 3 2004 6 _ rfl rfl rfl rfl).trans (sm [(1000, 2001), (1001, 2002), (1002, 2003), (1003, 2004)] [(4, oD (.ptr 4 0)), (5, iD v1)] [(4, .box [.own 1000, .own 1001, .own 1002, .own 1003]), (1000, .vec 1 ((([] : List Int)).map Ak)), (1001, .vec 1 ((([] : List Int)).map Ak)), (1002, .vec 1 ((([] : List Int)).map Ak)), (1003, .vec 6 ((([] : List Am)).map AT))] rfl rfl))))) (Aq ?_)
  exact ⟨⟨[_, _], ⟨.cellN _ _ _ _ _ _ _ rfl rfl Dk Cg rfl rfl (Kn rfl), tm⟩, rfl⟩, ⟨rfl, rfl, rfl, rfl, tv⟩⟩
 ·refine Ai (wp rfl (qm rfl (AO Au rfl (qm rfl (Ab ?_)))))
  refine Ay (L := CM N p1) h (fun v3 => mk [(1, pD (.sl (p1.map Ak))), (2, oD (.ptr 2 0)), (4, oD (.ptr 4 0)), (22, iD ((p1.length : Int))), (23, iD v3)] [(2, .box (Ah p0)), (4, .box [.pure (.nil0), .pure (.nil0), .pure (.nil0), .pure (.nil0)])]) (fun v4 => mk [(1, pD (.sl (p1.map Ak))), (2, oD (.ptr 2 0)), (4, oD (.ptr 4 0))] [(2, .box (Ah p0)), (4, .box [.pure (.nil0), .pure (.nil0), .pure (.nil0), .pure (.nil0)])]) (fun _ _ => rfl) (sm [] _ _ rfl rfl) (fun j3 n3 v3 h => ?_) (fun v4 s h hs => ?_)
  ·unfold CM at h
   refine wq rfl (AV rfl (Ab (AK ?_)))
   refine A7 h (fun h => ?_) fun h => ?_
   ·refine Ai (AK (AF (wq rfl (qm rfl (qe rfl ?_)))))
    refine AN h (fun v6 => mk [(1, pD (.sl (p1.map Ak))), (2, oD (.ptr 2 0)), (4, oD (.ptr 4 0)), (22, iD ((p1.length : Int))), (23, iD v3), (39, bD v6)] [(2, .box (Ah p0)), (4, .box [.pure (.nil0), .pure (.nil0), .pure (.nil0), .pure (.nil0)])]) (fun j6 h => ?_) (fun v6 h => ?_)
    ·refine Ag As rfl (qm rfl (FW rfl (qm rfl ?_)))
     refine EM 28 h rfl (fun h => ?_) fun h => ?_
     ·refine qw 2 rfl ?_
      refine Bb h fun v8 a8 b8 h => qi Au CP a8 (Ac b8) rfl (qk B4 rfl (qw 2 rfl (Cy rfl ?_)))
      refine Bb h fun v9 a9 b9 h => qi Au CP a9 (Ac b9) rfl (qk B4 rfl (L2 rfl (qp rfl (AD (by kernel_rfl) ?_))))
      exact sn [] h
     ·refine qw 10 rfl (qp rfl (AD (by kernel_rfl) ?_))
      exact sn [] h
    ·refine A7 h (fun h => ?_) fun h => ?_
     ·refine wq rfl (Bp K8 SU rfl (qs Cg rfl (qe rfl ?_)))
      obtain rfl := sj h
      refine Af ((Ar 4 0 2005 1 _ rfl rfl rfl rfl).trans ((Ar 4 1 2006 1 _ rfl rfl rfl rfl).trans ((Ar 4 2 2007 1 _ rfl rfl rfl rfl).trans ((Ar 4 3 2008 6 _ rfl rfl rfl rfl).trans (sm [(1000, 2005), (1001, 2006), (1002, 2007), (1003, 2008)] [(4, oD (.ptr 4 0)), (5, iD 1)] [(4, .box [.own 1000, .own 1001, .own 1002, .own 1003]), (1000, .vec 1 ((([] : List Int)).map Ak)), (1001, .vec 1 ((([] : List Int)).map Ak)), (1002, .vec 1 ((([] : List Int)).map Ak)), (1003, .vec 6 ((([] : List Am)).map AT))] rfl rfl))))) (Aq ?_)
      exact ⟨⟨[_, _], ⟨.cellN _ _ _ _ _ _ _ rfl rfl Dk Cg rfl rfl (Kn rfl), tm⟩, rfl⟩, ⟨rfl, rfl, rfl, rfl, tv⟩⟩
     ·refine Ai (Ag As rfl (AP rfl (qm rfl (Ab ?_))))
      exact sn [] h
   ·refine AQ ?_
    exact sn [] h
  ·refine Af hs (wq rfl (qz K8 rfl (Ab (wp rfl (qm rfl (AO Au rfl (qm rfl (Ab ?_))))))))
   refine Ay (L := Eh N p0 p1) h (fun v11 => mk [(1, pD (.sl (p1.map Ak))), (2, oD (.ptr 2 0)), (4, oD (.ptr 4 0)), (8, oD (.ptr 8 0)), (42, pD (.sl (p1.map Ak))), (43, iD ((p1.length : Int))), (44, iD v11.2.2.2)] [(2, .box (Ah p0)), (4, .box [.pure (.nil0), .pure (.nil0), .pure (.nil0), .pure (.nil0)]), (8, .box [.own 2009, .own 2010, .own 2011, .pure (.nil0)]), (2009, .vec 1 (v11.1.map Ak)), (2010, .vec 1 (v11.2.1.map Ak)), (2011, .vec 1 (v11.2.2.1.map Ak))]) (fun v12 => mk [(1, pD (.sl (p1.map Ak))), (2, oD (.ptr 2 0)), (4, oD (.ptr 4 0)), (8, oD (.ptr 8 0))] [(2, .box (Ah p0)), (4, .box [.pure (.nil0), .pure (.nil0), .pure (.nil0), .pure (.nil0)]), (8, .box [.own 2012, .own 2013, .own 2014, .pure (.nil0)]), (2012, .vec 1 (v12.1.map Ak)), (2013, .vec 1 (v12.2.1.map Ak)), (2014, .vec 1 (v12.2.2.map Ak))]) (fun _ _ => rfl) ((Ar 8 0 2019 1 _ rfl rfl rfl rfl).trans ((Ar 8 1 2020 1 _ rfl rfl rfl rfl).trans ((Ar 8 2 2021 1 _ rfl rfl rfl rfl).trans (sm [(2009, 2019), (2010, 2020), (2011, 2021)] _ _ rfl rfl)))) (fun j11 n11 v11 h => ?_) (fun v12 s h hs => ?_)
   ·unfold Eh at h
    refine wq rfl (AV rfl (Ab (AK ?_)))
    refine A7 h (fun h => ?_) fun h => ?_
    ·refine Ai (AK (AF (wq rfl ?_)))
     refine Bb h fun v14 a14 b14 h => qi Au CP a14 (Ac b14) rfl (qk B4 rfl (qa rfl (Ab (wp rfl (qm rfl (qf Bf rfl (ql A6 rfl (AO Au rfl ?_))))))))
     refine Bq h fun v15 a15 h => Ax [] (HB N v14 ((p0.fb.length : Int)) v15 a15) Xz rfl (Cc rfl (Ab ?_))
     refine A7 h (fun h => ?_) fun h => ?_
     ·refine wq rfl (Bp K8 SU rfl (qs Cg rfl (qe rfl ?_)))
      obtain rfl := sj h
      refine Af ((Ar 4 0 2015 1 _ rfl rfl rfl rfl).trans ((Ar 4 1 2016 1 _ rfl rfl rfl rfl).trans ((Ar 4 2 2017 1 _ rfl rfl rfl rfl).trans ((Ar 4 3 2018 6 _ rfl rfl rfl rfl).trans (sm [(1000, 2015), (1001, 2016), (1002, 2017), (1003, 2018)] [(4, oD (.ptr 4 0)), (5, iD 4)] [(4, .box [.own 1000, .own 1001, .own 1002, .own 1003]), (1000, .vec 1 ((([] : List Int)).map Ak)), (1001, .vec 1 ((([] : List Int)).map Ak)), (1002, .vec 1 ((([] : List Int)).map Ak)), (1003, .vec 6 ((([] : List Am)).map AT))] rfl rfl))))) (Aq ?_)
      exact ⟨⟨[_, _], ⟨.cellN _ _ _ _ _ _ _ rfl rfl Dk Cg rfl rfl (Kn rfl), tm⟩, rfl⟩, ⟨rfl, rfl, rfl, rfl, tv⟩⟩
     ·refine Ai (wq rfl (qf Bf rfl (ql A6 rfl (qf Bf rfl (ql A6 rfl (qm rfl ?_))))))
      refine Bb h fun v17 a17 b17 h => qi Au CP a17 (Ac b17) rfl (qk B4 rfl (DQ Au CP JH rfl ?_))
      refine Gg h fun c18 h => CJ (f := Ak) Au Au CP KS JH c18 rfl (qf Bf rfl (qs I6 rfl (AD (by kernel_rfl) (wq rfl (qf F7 rfl (ql A6 rfl (qf F7 rfl (ql A6 rfl (qm rfl ?_)))))))))
      refine Bb h fun v19 a19 b19 h => qi Au CP a19 (Ac b19) rfl (qk B4 rfl (DQ Au CP JH rfl ?_))
      refine Gg h fun c20 h => CJ (f := Ak) Au Au CP KS JH c20 rfl (qf F7 rfl (qs I6 rfl (AD (by kernel_rfl) (Ag As rfl (qf Hg rfl (ql A6 rfl (qf Hg rfl (ql A6 rfl (qm rfl ?_)))))))))
      refine Bb h fun v21 a21 b21 h => qi Au CP a21 (Ac b21) rfl (qk B4 rfl (DQ Au CP JH rfl ?_))
      refine Gg h fun c22 h => CJ (f := Ak) Au Au CP KS JH c22 rfl (qf Hg rfl (qs I6 rfl (AD (by kernel_rfl) (Ag As rfl (AP rfl (qm rfl (Ab ?_)))))))
      exact sn [(2009, 63), (2010, 73), (2011, 83)] h
    ·refine AQ ?_
     exact sn [(2012, 2009), (2013, 2010), (2014, 2011)] h
   ·refine Af hs (wp rfl (qf Cs rfl (ql HN rfl (AO DT rfl (qm rfl (Ab ?_))))))
    refine Ay (L := CZ N p0 p1) h (fun v23 => mk [(1, pD (.sl (p1.map Ak))), (4, oD (.ptr 4 0)), (8, oD (.ptr 8 0)), (87, pD (.sl (p0.fc.map AT))), (88, iD ((p0.fc.length : Int))), (89, iD v23.2)] [(4, .box [.pure (.nil0), .pure (.nil0), .pure (.nil0), .pure (.nil0)]), (8, .box [.own 2022, .own 2023, .own 2024, .own 2025]), (2022, .vec 1 (v12.1.map Ak)), (2023, .vec 1 (v12.2.1.map Ak)), (2024, .vec 1 (v12.2.2.map Ak)), (2025, .vec 6 (v23.1.map AT))]) (fun v24 => mk [(4, oD (.ptr 4 0)), (8, oD (.ptr 8 0))] [(4, .box [.pure (.nil0), .pure (.nil0), .pure (.nil0), .pure (.nil0)]), (8, .box [.own 2026, .own 2027, .own 2028, .own 2029]), (2026, .vec 1 (v12.1.map Ak)), (2027, .vec 1 (v12.2.1.map Ak)), (2028, .vec 1 (v12.2.2.map Ak)), (2029, .vec 6 (v24.map AT))]) (fun _ _ => rfl) ((Ar 8 3 2040 6 _ rfl rfl rfl rfl).trans (sm [(2022, 2012), (2023, 2013), (2024, 2014), (2025, 2040)] _ _ rfl rfl)) (fun j23 n23 v23 h => ?_) (fun v24 s h hs => ?_)
    ·unfold CZ at h
     refine wq rfl (AV rfl (Ab (AK ?_)))
     refine A7 h (fun h => ?_) fun h => ?_
     ·refine Ai ?_
      refine AN h (fun v26 => mk [(1, pD (.sl (p1.map Ak))), (4, oD (.ptr 4 0)), (8, oD (.ptr 8 0)), (87, pD (.sl (p0.fc.map AT))), (88, iD ((p0.fc.length : Int))), (89, iD v23.2)] [(4, .box [.pure (.nil0), .pure (.nil0), .pure (.nil0), .pure (.nil0)]), (8, .box [.own 2030, .own 2031, .own 2032, .own 2033]), (2030, .vec 1 (v12.1.map Ak)), (2031, .vec 1 (v12.2.1.map Ak)), (2032, .vec 1 (v12.2.2.map Ak)), (2033, .vec 6 (v26.map AT))]) (fun j26 h => ?_) (fun v26 h => ?_)
      ·refine AF (wq rfl ?_)
       refine Bb h fun v27 a27 b27 h => qi DT DM a27 (Ac b27) rfl (qK Hy DM rfl (qz JS rfl (qs DM rfl (Ab (wq rfl (qm rfl (qf DA rfl (ql B4 rfl ?_))))))))
       refine Bq h fun v28 a28 h => Ax [] (I8 N p1 v27.fg v28 a28) ca rfl (qm rfl (qf Ik rfl (ql B4 rfl ?_)))
       refine Bq h fun v29 a29 h => Ax [] (I8 N p1 v27.fj v29 a29) ca rfl (qa rfl (qa rfl (AD (by kernel_rfl) ?_)))
       refine AN h (fun v30 => mk [(1, pD (.sl (p1.map Ak))), (4, oD (.ptr 4 0)), (8, oD (.ptr 8 0)), (12, oD (.ptr 12 0)), (13, iD v28), (14, iD v29), (87, pD (.sl (p0.fc.map AT))), (88, iD ((p0.fc.length : Int))), (89, iD v23.2), (106, bD v30)] [(4, .box [.pure (.nil0), .pure (.nil0), .pure (.nil0), .pure (.nil0)]), (8, .box [.own 2034, .own 2035, .own 2036, .own 2037]), (12, .box (Bg v27)), (2034, .vec 1 (v12.1.map Ak)), (2035, .vec 1 (v12.2.1.map Ak)), (2036, .vec 1 (v12.2.2.map Ak)), (2037, .vec 6 (v23.1.map AT))]) (fun j30 h => ?_) (fun v30 h => ?_)
       ·refine Ag As rfl (qm rfl (Df rfl (qm rfl ?_)))
        refine EM 103 h rfl (fun h => ?_) fun h => ?_
        ·refine qm rfl (Df rfl (qp rfl (Ab ?_)))
         exact sn [(2034, 2022), (2035, 2023), (2036, 2024), (2037, 2025)] h
        ·refine qw 2 rfl (qp rfl (Ab ?_))
         exact sn [(2034, 2022), (2035, 2023), (2036, 2024), (2037, 2025)] h
       ·refine A7 h (fun h => ?_) fun h => ?_
        ·refine wq rfl (qL Hy DM rfl ?_)
         refine Bq h fun v33 a33 h => Ax [2038, 2039] (Qz N v27 v33 a33) dK rfl (qs DM rfl (Ab (wq rfl (qw 2 rfl (qf DA rfl (qs CP rfl (qf Ik rfl (qs CP rfl (Ab (Ag As rfl (qf Cs rfl (ql HN rfl (qL Hy DM rfl (DG (Bt 2038 _ _ rfl rfl) (DG (Bt 2039 _ _ rfl rfl) (DQ DT DM JS rfl ?_))))))))))))))))
         refine Gg h fun c34 h => CJ (f := AT) DT DT DM Ww JS c34 rfl (qf Cs rfl (qs Z3 rfl (Ab ?_)))
         exact sn [(2030, 2034), (2031, 2035), (2032, 2036), (2033, 117)] h
        ·refine Ai ?_
         exact sn [(2030, 2034), (2031, 2035), (2032, 2036), (2033, 2037)] h
      ·refine Ag As rfl (AP rfl (qm rfl (Ab ?_)))
       exact sn [(2022, 2030), (2023, 2031), (2024, 2032), (2025, 2033)] h
     ·refine AQ ?_
      exact sn [(2026, 2022), (2027, 2023), (2028, 2024), (2029, 2025)] h
    ·refine Af hs (wq rfl (qL Dk Cg rfl (qs Cg rfl (qe rfl ?_))))
     obtain rfl := sj h
     refine Af (sm [(1000, 2026), (1001, 2027), (1002, 2028), (1003, 2029)] [(4, oD (.ptr 4 0)), (5, iD 0)] [(4, .box [.own 1000, .own 1001, .own 1002, .own 1003]), (1000, .vec 1 (v12.1.map Ak)), (1001, .vec 1 (v12.2.1.map Ak)), (1002, .vec 1 (v12.2.2.map Ak)), (1003, .vec 6 (v24.map AT))] rfl rfl) (Aq ?_)
     exact ⟨⟨[_, _], ⟨.cellN _ _ _ _ _ _ _ rfl rfl Dk Cg rfl rfl (Kn rfl), tm⟩, rfl⟩, ⟨rfl, rfl, rfl, rfl, tv⟩⟩
theorem DZ (N : Nat) (p0 : List Int) (r : (List Int)) (h : Bh N p0 = some r) : An zA 13 [pD (.sl (p0.map Ak))] [(1, r.map Ak)] (oD (.own 0)) := by
 unfold Bh at h
 refine cw (n := 8) (rs := [.tmp 2]) Tryz.func13 fun w0 S0 => ?_
 refine wq rfl (qa rfl (Ab (wp rfl (qm rfl ?_))))
 refine NR (.p rfl) rfl Au ?_
 refine Ab ?_
 refine NK rfl (fun c2 => ?_) ?_
 ·have c2 := uQ.1 c2
  rw [c2] at h
  have h : (some (([] : List Int))) = some r := h
  refine wq rfl (qe rfl ?_)
  obtain rfl := sj h
  refine Af ((A2 2 2001 1 rfl rfl rfl).trans (sm [(1000, 2001)] [(2, oD (.own 1000))] [(1000, .vec 1 ((([] : List Int)).map Ak))] rfl rfl)) (Aq ?_)
  exact ⟨⟨[_], tm, rfl⟩, ⟨rfl, tv⟩⟩
 ·refine Ai (wq rfl (DQ Au CP JH rfl (qm rfl ?_)))
  refine Gg h fun c1 h => JV (f := Ak) Au Au CP KS JH (fun _ => rfl) c1 rfl (qe rfl ?_)
  obtain rfl := sj h
  refine Af (sm [(1000, 7)] [(2, oD (.own 1000))] [(1000, .vec 1 (((([] : List Int)) ++ p0).map Ak))] rfl rfl) (Aq ?_)
  exact ⟨⟨[_], tm, rfl⟩, ⟨rfl, tv⟩⟩
theorem Oe (N : Nat) (p0 : Int) (p1 : Int) (r : Int × Int) (h : Iw N p0 p1 = some r) : An zA 166 [pD (.val (.int .u32 p0)), pD (.val (.int .u32 p1))] [] (.tup [.one (.pure (.val (.int .u32 r.1))), .one (.pure (.val (.int .u32 r.2)))]) := by
 unfold Iw at h
 refine cw (n := 17) (rs := [.tmp 4, .tmp 5]) Tryz.func166 fun w0 S0 => ?_
 refine wq rfl (qa rfl (qa rfl (Ab (wq rfl (qm rfl (Id Tt Zr rfl (qm rfl (Id Tt Zr rfl (KI rfl (qa rfl (Ab (wq rfl (qm rfl (Ga rfl (by decide) (Id U3 Rd rfl (qm rfl (Id U3 Rd rfl (qa rfl (qe rfl ?_)))))))))))))))))))
 obtain rfl := sj h
 refine Af (sm [] [(4, pD (.val (.int .u32 ((wI .u32 ((AW .u64 ((wI .u64 ((wI .u64 p0) * (wI .u64 p1)))) 32))))))), (5, pD (.val (.int .u32 ((wI .u32 ((wI .u64 ((wI .u64 p0) * (wI .u64 p1)))))))))] [] rfl rfl) (Aq ?_)
 exact ⟨⟨[_, _], ⟨.tmp _ _ rfl, tm⟩, rfl⟩, tv⟩
theorem Og (N : Nat) (p0 : Int) (p1 : Int) (r : Int × Int) (h : IB N p0 p1 = some r) : An zA 167 [pD (.val (.int .u64 p0)), pD (.val (.int .u64 p1))] [] (.tup [.one (.pure (.val (.int .u64 r.1))), .one (.pure (.val (.int .u64 r.2)))]) := by
 unfold IB at h
 refine cw (n := 51) (rs := [.tmp 4, .tmp 5]) Tryz.func167 fun w0 S0 => ?_
 refine wq rfl (qa rfl (qa rfl (Ab (wq rfl (qm rfl (IT rfl (qa rfl (Ab (wq rfl (qm rfl (Ga rfl (by decide) (qa rfl (Ab (wq rfl (qm rfl (IT rfl (qa rfl (Ab (wq rfl (qm rfl (Ga rfl (by decide) (qa rfl (Ab (wq rfl (qw 2 rfl (KI rfl (qa rfl (Ab (wq rfl (qw 2 rfl ?_))))))))))))))))))))))))))))))
 refine KI rfl (qm rfl (Ga rfl (by decide) (AP rfl (qa rfl (Ab (wq rfl (qm rfl (IT rfl (qa rfl (Ab (wq rfl (qm rfl (Ga rfl (by decide) (qa rfl (Ab (wq rfl (qw 3 rfl (KI rfl (AP rfl (qa rfl (Ab (wq rfl (qw 2 rfl (KI rfl (qm rfl (AP rfl (qm rfl (Ga rfl (by decide) (AP rfl (qa rfl (Ab (AK ?_))))))))))))))))))))))))))))))))
 refine Ag As rfl (qw 2 rfl (KI rfl (qe rfl ?_)))
 obtain rfl := sj h
 refine Af (sm [] [(4, pD (.val (.int .u64 ((wI .u64 ((wI .u64 ((wI .u64 ((AW .u64 p0 32) * (AW .u64 p1 32))) + (AW .u64 ((wI .u64 ((wI .u64 ((AW .u64 p0 32) * (AM .u64 p1 4294967295))) + (AW .u64 ((wI .u64 ((AM .u64 p0 4294967295) * (AM .u64 p1 4294967295)))) 32)))) 32))) + (AW .u64 ((wI .u64 ((AM .u64 ((wI .u64 ((wI .u64 ((AW .u64 p0 32) * (AM .u64 p1 4294967295))) + (AW .u64 ((wI .u64 ((AM .u64 p0 4294967295) * (AM .u64 p1 4294967295)))) 32)))) 4294967295) + (wI .u64 ((AM .u64 p0 4294967295) * (AW .u64 p1 32)))))) 32))))))), (5, pD (.val (.int .u64 ((wI .u64 (p0 * p1))))))] [] rfl rfl) (Aq ?_)
 exact ⟨⟨[_, _], ⟨.tmp _ _ rfl, tm⟩, rfl⟩, tv⟩
theorem Pn (N : Nat) (p0 : Int) (p1 : Int) (r : Int × Int) (h : Jp N p0 p1 = some r) : An zA 137 [pD (.val (.int .u64 p0)), pD (.val (.int .u64 p1))] [] (.tup [.one (.pure (.val (.int .u64 r.1))), .one (.pure (.val (.int .u64 r.2)))]) := by
 unfold Jp at h
 refine cw (n := 30) (rs := [.tmp 4, .tmp 5]) Tryz.func137 fun w0 S0 => ?_
 refine wq rfl (qa rfl (qa rfl (Ab (AK ?_))))
 refine A7 h (fun h => ?_) fun h => ?_
 ·refine wq rfl (qm rfl (Id Wb Rd rfl (qm rfl (Id Wb Rd rfl ?_))))
  refine Bq h fun v2 a2 h => Ax [] (Oe N ((wI .u32 p0)) ((wI .u32 p1)) v2 a2) di rfl (qm rfl (qx rfl (qx rfl (qa rfl (qa rfl (Ab (wq rfl (qm rfl (Id Tt Wi rfl (qm rfl (Id Tt Wi rfl (qa rfl (qe rfl ?_)))))))))))))
  obtain rfl := sj h
  refine Af (sm [] [(4, pD (.val (.int .u64 ((wI .u64 v2.1))))), (5, pD (.val (.int .u64 ((wI .u64 v2.2)))))] [] rfl rfl) (Aq ?_)
  exact ⟨⟨[_, _], ⟨.tmp _ _ rfl, tm⟩, rfl⟩, tv⟩
 ·refine Ai (wq rfl (qw 2 rfl ?_))
  refine Bq h fun v3 a3 h => Ax [] (Og N p0 p1 v3 a3) dA rfl (qm rfl (qx rfl (qx rfl (qa rfl (qa rfl (Ab (wq rfl (qw 2 rfl (qa rfl (qe rfl ?_))))))))))
  obtain rfl := sj h
  refine Af (sm [] [(4, pD (.val (.int .u64 v3.1))), (5, pD (.val (.int .u64 v3.2)))] [] rfl rfl) (Aq ?_)
  exact ⟨⟨[_, _], ⟨.tmp _ _ rfl, tm⟩, rfl⟩, tv⟩
theorem Lm (N : Nat) (p0 : List Int) (p1 : Int) (r : (List Int)) (h : Fj N p0 p1 = some r) : An zA 104 [pD (.sl (p0.map Ak)), iD p1] [(1, r.map Ak)] (oD (.own 0)) := by
 unfold Fj at h
 refine cw (n := 48) (rs := [.tmp 4]) Tryz.func104 fun w0 S0 => ?_
 refine wq rfl (qe rfl ?_)
 refine AN h (fun v1 => mk [(0, pD (.sl (p0.map Ak))), (1, iD p1)] []) (fun j1 h => ?_) (fun v1 h => ?_)
 ·refine wq rfl (qm rfl (AV rfl (Ab ?_)))
  refine A7 h (fun h => ?_) fun h => ?_
  ·refine Ag As rfl ?_
   cases h
  ·refine Ai ?_
   exact sn [] h
 ·refine wq rfl (qm rfl (AO Au rfl (Id Z6 Wi rfl (qm rfl (Id Z6 Wi rfl ?_)))))
  refine Bq h fun v3 a3 h => Ax [] (Pn N ((wI .u64 ((p0.length : Int)))) ((wI .u64 p1)) v3 a3) bK rfl (qm rfl (qx rfl (qx rfl (qa rfl (qe rfl ?_)))))
  refine AN h (fun v4 => mk [(0, pD (.sl (p0.map Ak))), (6, pD (.val (.int .u64 v3.2)))] []) (fun j4 h => ?_) (fun v4 h => ?_)
  ·refine AN h (fun v5 => mk [(0, pD (.sl (p0.map Ak))), (6, pD (.val (.int .u64 v3.2))), (26, bD v5)] []) (fun j5 h => ?_) (fun v5 h => ?_)
   ·refine Ag As rfl (qm rfl (FW rfl (qm rfl ?_)))
    refine EM 23 h rfl (fun h => ?_) fun h => ?_
    ·refine qw 2 rfl (qp rfl (Ab ?_))
     exact sn [] h
    ·refine qm rfl (FW rfl (qp rfl (Ab ?_)))
     exact sn [] h
   ·refine A7 h (fun h => ?_) fun h => ?_
    ·refine Ag As rfl ?_
     cases h
    ·refine Ai ?_
     exact sn [] h
  ·refine wq rfl (qm rfl (Id Wb VV rfl ?_))
   refine Gg h fun c8 h => My (.p rfl) rfl rfl rfl Au CP KS (D8 rfl) JH rfl rfl rfl c8.1 c8.2.1 c8.2.2 (SP Ak _ ((0 : Int))) ?_
   refine qa rfl (Ab (wq rfl (qw 2 rfl ?_)))
   refine VA Ak (zG ((wI .i64 v3.2)).toNat ((0 : Int))) p0 (.p rfl) rfl (KN Ak _ _ (zG ((wI .i64 v3.2)).toNat ((0 : Int)))) rfl rfl (Yy Ak _ _ (fun _ => rfl)) tv Au CP ?_
   refine qa rfl (Ab (AK ?_))
   refine Ay (L := EL N) h (fun v9 => mk [(7, oD (.own 2001)), (8, iD v9.2)] [(2001, .vec 1 (v9.1.map Ak))]) (fun v10 => mk [(7, oD (.own 2002))] [(2002, .vec 1 (v10.map Ak))]) (fun _ _ => rfl) (sm [(2001, 30)] _ _ rfl rfl) (fun j9 n9 v9 h => ?_) (fun v10 s h hs => ?_)
   ·unfold EL at h
    refine wp rfl (qw 2 rfl (FG Au rfl (AV rfl (Ab ?_))))
    refine A7 h (fun h => ?_) fun h => ?_
    ·refine Ai (AF (Ag As rfl (qw 3 rfl ?_)))
     obtain ⟨c12, h⟩ := If h
     have w13 : ((v9.2).toNat) + ((v9.1.length - (v9.2).toNat)) ≤ v9.1.length := by have := c12.2.1; have := c12.2.2; omega
     refine Lh Ak v9.1 (.p rfl) rfl (KN Ak _ _ v9.1) rfl Au CP (.some _ _ _ _ c12.1) (.none _) ⟨rfl, tv⟩ tv c12.2.1 (by rw [zC]; exact c12.2.2) (zC _) rfl ?_
     refine qw 2 rfl ?_
     obtain ⟨c14, h⟩ := If h
     have w15 : 0 + ((v9.2).toNat) ≤ v9.1.length := by have := c14.2.1; have := c14.2.2; omega
     refine Lh Ak v9.1 (.p rfl) rfl (KN Ak _ _ v9.1) rfl Au CP (.none _) (.some _ _ _ _ c14.1) tv ⟨rfl, tv⟩ c14.2.1 (by rw [zC]; exact c14.2.2) (zC _) rfl ?_
     refine VA Ak v9.1 (((v9.1.drop 0).take ((v9.2).toNat))) (.p rfl) rfl (ON Ak _ _ ((v9.2).toNat) ((v9.1.length - (v9.2).toNat)) v9.1 w13) rfl rfl (VU Ak _ _ 0 ((v9.2).toNat) v9.1 w15) ⟨rfl, tv⟩ Au CP ?_
     refine AP rfl (qa rfl (AD (by kernel_rfl) ?_))
     exact sn [] h
    ·refine AQ ?_
     exact sn [(2002, 2001)] h
   ·refine Af hs (wq rfl (qm rfl (qe rfl ?_)))
    obtain rfl := sj h
    refine Af (sm [(1000, 2002)] [(4, oD (.own 1000))] [(1000, .vec 1 (v10.map Ak))] rfl rfl) (Aq ?_)
    exact ⟨⟨[_], tm, rfl⟩, ⟨rfl, tv⟩⟩
theorem LB (N : Nat) (p0 : Am) (r : Bool) (h : GC N p0 = some r) : An zA 105 [.e (.agg (Bg p0))] [] (bD r) := by
 unfold GC at h
 refine cw (n := 11) (rs := [.tmp 2]) Tryz.func105 fun w0 S0 => ?_
 refine wq rfl (qb rfl (qe rfl ?_))
 refine AN h (fun v1 => mk [(2, bD v1)] []) (fun j1 h => ?_) (fun v1 h => ?_)
 ·refine Ag As rfl (qf G5 rfl (ql B4 rfl (B9 rfl (qm rfl ?_))))
  refine EM 6 h rfl (fun h => ?_) fun h => ?_
  ·refine qw 3 rfl (qp rfl (qe rfl ?_))
   exact sn [] h
  ·refine qf G5 rfl (ql B4 rfl (B9 rfl (qp rfl (qe rfl ?_))))
   exact sn [] h
 ·obtain rfl := sj h
  refine Af (sm [] [(2, bD v1)] [] rfl rfl) (Aq ?_)
  exact ⟨⟨[_], tm, rfl⟩, tv⟩
theorem TG (N : Nat) (p0 : Aa) (r : Ad × Int) (h : I1 N p0 = some r) : An zA 74 [.e (.agg (Ah p0))] [(1, r.1.fd.map Ak), (1, r.1.fa.map Ak), (1, r.1.fe.map Ex)] (.tup [.agg [.own 0, .own 1, .own 2], .one (iC r.2)]) := by
 unfold I1 at h
 refine cw (n := 50) (rs := [.cell 2 49, .tmp 3]) Tryz.func74 fun w0 S0 => ?_
 refine wq rfl (qb rfl (qz Fc rfl (qa rfl (Ab (wp rfl (qL Dk Cg rfl ?_))))))
 refine Bq h fun v1 a1 h => Ax [] (Fv N p0 v1 a1) Wr rfl (qa rfl (Ab (wq rfl (qm rfl (BB rfl (Ab ?_))))))
 refine A7 h (fun h => ?_) fun h => ?_
 ·refine wq rfl (Bp Fc Ke rfl (qm rfl (qs A9 rfl (qe rfl ?_))))
  obtain rfl := sj h
  refine Af ((Ar 2 0 2001 1 _ rfl rfl rfl rfl).trans ((Ar 2 1 2002 1 _ rfl rfl rfl rfl).trans ((Ar 2 2 2003 1 _ rfl rfl rfl rfl).trans (sm [(1000, 2001), (1001, 2002), (1002, 2003)] [(2, oD (.ptr 2 0)), (3, iD v1)] [(2, .box [.own 1000, .own 1001, .own 1002]), (1000, .vec 1 ((([] : List Int)).map Ak)), (1001, .vec 1 ((([] : List Int)).map Ak)), (1002, .vec 1 ((([] : List Int)).map Ex))] rfl rfl)))) (Aq ?_)
  exact ⟨⟨[_, _], ⟨.cellN _ _ _ _ _ _ _ rfl rfl Ca A9 rfl rfl (Kn rfl), tm⟩, rfl⟩, ⟨rfl, rfl, rfl, tv⟩⟩
 ·refine Ai (wq rfl (qf F7 rfl (ql A6 rfl ?_)))
  refine Bq h fun v3 a3 h => Ax [2004] (DZ N p0.fi v3 a3) Wf rfl (DQ Au CP JH rfl (qf F7 rfl (ql A6 rfl (AO Au rfl ?_))))
  refine Bq h fun v4 a4 h => D4 [2005] [17] (Lm N (([(-1)] : List Int)) ((p0.fi.length : Int)) v4 a4) bt (It (fun _ => rfl) Cm) rfl (qf Cs rfl (ql HN rfl (AO DT rfl ?_)))
  refine Gg h fun c5 h => My (.p rfl) rfl rfl rfl EF Fh PN (D8 rfl) NH rfl rfl rfl c5.1 c5.2.1 c5.2.2 (SP Ex _ ((0 : Int))) ?_
  refine Bp Fc Ke rfl (qz Fc rfl (qs A9 rfl (AD (by kernel_rfl) (wp rfl (qf Cs rfl (ql HN rfl (AO DT rfl (qm rfl (Ab ?_)))))))))
  refine Ay (L := E0 N p0) h (fun v6 => mk [(1, oD (.ptr 1 0)), (2, oD (.ptr 2 0)), (5, oD (.ptr 5 0)), (28, pD (.sl (p0.fc.map AT))), (29, iD ((p0.fc.length : Int))), (30, iD v6.2)] [(1, .box (Ah p0)), (2, .box [.pure (.nil0), .pure (.nil0), .pure (.nil0)]), (5, .box [.own 2006, .own 2007, .own 2008]), (2006, .vec 1 (v3.map Ak)), (2007, .vec 1 (v4.map Ak)), (2008, .vec 1 (v6.1.map Ex))]) (fun v7 => mk [(2, oD (.ptr 2 0)), (5, oD (.ptr 5 0))] [(2, .box [.pure (.nil0), .pure (.nil0), .pure (.nil0)]), (5, .box [.own 2009, .own 2010, .own 2011]), (2009, .vec 1 (v3.map Ak)), (2010, .vec 1 (v4.map Ak)), (2011, .vec 1 (v7.map Ex))]) (fun _ _ => rfl) (sm [(2006, 2004), (2007, 2005), (2008, 25)] _ _ rfl rfl) (fun j6 n6 v6 h => ?_) (fun v7 s h hs => ?_)
  ·unfold E0 at h
   refine wq rfl (AV rfl (Ab (AK ?_)))
   refine A7 h (fun h => ?_) fun h => ?_
   ·refine Ai ?_
    refine AN h (fun v9 => mk [(1, oD (.ptr 1 0)), (2, oD (.ptr 2 0)), (5, oD (.ptr 5 0)), (28, pD (.sl (p0.fc.map AT))), (29, iD ((p0.fc.length : Int))), (30, iD v6.2)] [(1, .box (Ah p0)), (2, .box [.pure (.nil0), .pure (.nil0), .pure (.nil0)]), (5, .box [.own 2012, .own 2013, .own 2014]), (2012, .vec 1 (v3.map Ak)), (2013, .vec 1 (v4.map Ak)), (2014, .vec 1 (v9.map Ex))]) (fun j9 h => ?_) (fun v9 h => ?_)
    ·refine AF (wq rfl (qm rfl ?_))
     refine Bb h fun v10 a10 b10 h => qi DT DM a10 (Ac b10) rfl (qK Hy DM rfl (qz JS rfl (qa rfl (qs DM rfl (Ab (wq rfl (qL Hy DM rfl ?_)))))))
     refine Bq h fun v11 a11 h => Ax [] (LB N v10 v11 a11) Xh rfl (Ab ?_)
     refine A7 h (fun h => ?_) fun h => ?_
     ·refine Ag As rfl (qf Do rfl (ql IN rfl (qm rfl (qf F7 rfl (ql A6 rfl (qf DA rfl (ql B4 rfl ?_)))))))
      refine Bb h fun v13 a13 b13 h => qi Au CP a13 (Ac b13) rfl (qk B4 rfl ?_)
      refine Gg h fun c14 h => I5 rfl c14 ?_
      refine Bb h fun v15 a15 b15 h => qI EF Fh a15 (Ac b15) rfl ?_
      refine A8 rfl rfl rfl rfl (Ac b15) rfl Fh rfl (D8 rfl) (A5 Ex v6.1 _ ((CX .u8 1 v13))) ?_
      refine AD (by kernel_rfl) ?_
      exact sn [(2012, 2006), (2013, 2007), (2014, 2008)] h
     ·refine Ai ?_
      exact sn [(2012, 2006), (2013, 2007), (2014, 2008)] h
    ·refine Ag As rfl (AP rfl (qm rfl (Ab ?_)))
     exact sn [(2006, 2012), (2007, 2013), (2008, 2014)] h
   ·refine AQ ?_
    exact sn [(2009, 2006), (2010, 2007), (2011, 2008)] h
  ·refine Af hs (wq rfl (qL Ca A9 rfl (qs A9 rfl (qe rfl ?_))))
   obtain rfl := sj h
   refine Af (sm [(1000, 2009), (1001, 2010), (1002, 2011)] [(2, oD (.ptr 2 0)), (3, iD 0)] [(2, .box [.own 1000, .own 1001, .own 1002]), (1000, .vec 1 (v3.map Ak)), (1001, .vec 1 (v4.map Ak)), (1002, .vec 1 (v7.map Ex))] rfl rfl) (Aq ?_)
   exact ⟨⟨[_, _], ⟨.cellN _ _ _ _ _ _ _ rfl rfl Ca A9 rfl rfl (Kn rfl), tm⟩, rfl⟩, ⟨rfl, rfl, rfl, tv⟩⟩
theorem K4 (N : Nat) (p0 : Ad) (p1 : Int) (r : Int) (h : FY N p0 p1 = some r) : An zA 156 [.e (.agg (AL p0)), iD p1] [] (pD (.val (.int .u8 r))) := by
 unfold FY at h
 refine cw (n := 27) (rs := [.tmp 4]) Tryz.func156 fun w0 S0 => ?_
 refine wq rfl (qb rfl (qa rfl (Ab (wq rfl (qf Dn rfl (ql A6 rfl (qm rfl ?_)))))))
 refine Bb h fun v1 a1 b1 h => qi Au CP a1 (Ac b1) rfl (qk B4 rfl ?_)
 refine Gg h fun c2 h => I5 rfl c2 (qe rfl ?_)
 refine AN h (fun v3 => mk [(5, pD (.val (.int .u8 v3)))] []) (fun j3 h => ?_) (fun v3 h => ?_)
 ·refine wq rfl (qf BO rfl (ql A6 rfl (qm rfl ?_)))
  refine Bb h fun v4 a4 b4 h => qi Au CP a4 (Ac b4) rfl (qk B4 rfl (Df rfl (Ab ?_)))
  refine A7 h (fun h => ?_) fun h => ?_
  ·refine Ag As rfl (qm rfl (qf BO rfl (ql A6 rfl (qm rfl ?_))))
   refine Bb h fun v6 a6 b6 h => qi Au CP a6 (Ac b6) rfl (qk B4 rfl ?_)
   refine Gg h fun c7 h => I5 rfl c7 (X0 rfl (qe rfl ?_))
   exact sn [] h
  ·refine Ai ?_
   exact sn [] h
 ·refine wq rfl (qm rfl (qe rfl ?_))
  obtain rfl := sj h
  refine Af (sm [] [(4, pD (.val (.int .u8 v3)))] [] rfl rfl) (Aq ?_)
  exact ⟨⟨[_], tm, rfl⟩, tv⟩
theorem K2 (N : Nat) (p0 : Aa) (p1 : Ad) (r : Int) (h : Gt N p0 p1 = some r) : An zA 120 [.e (.agg (Ah p0)), .e (.agg (AL p1))] [] (iD r) := by
 unfold Gt at h
 refine cw (n := 135) (rs := [.tmp 4]) Tryz.func120 fun w0 S0 => ?_
 refine wq rfl (qb rfl (qb rfl (qa rfl (Ab (wp rfl (qL Dk Cg rfl ?_))))))
 refine Bq h fun v1 a1 h => Ax [] (Fv N p0 v1 a1) Wr rfl (qa rfl (Ab (wq rfl (qm rfl (BB rfl (Ab ?_))))))
 refine A7 h (fun h => ?_) fun h => ?_
 ·refine wq rfl (qm rfl (qe rfl ?_))
  obtain rfl := sj h
  refine Af (sm [] [(4, iD v1)] [] rfl rfl) (Aq ?_)
  exact ⟨⟨[_], tm, rfl⟩, tv⟩
 ·refine Ai (AK ?_)
  refine AN h (fun v3 => mk [(2, oD (.ptr 2 0)), (3, oD (.ptr 3 0)), (41, bD v3)] [(2, .box (Ah p0)), (3, .box (AL p1))]) (fun j3 h => ?_) (fun v3 h => ?_)
  ·refine Ag As rfl (qf Dn rfl (ql A6 rfl (AO Au rfl (qf Bf rfl (ql A6 rfl (AO Au rfl (BB rfl (qm rfl ?_))))))))
   refine EM 24 h rfl (fun h => ?_) fun h => ?_
   ·refine qw 7 rfl (qp rfl (qw 8 rfl (qp rfl (Ab ?_))))
    exact sn [] h
   ·refine qf BO rfl (ql A6 rfl (AO Au rfl (qf Bf rfl (ql A6 rfl (AO Au rfl (BB rfl (qp rfl (qm rfl ?_))))))))
    refine EM 33 h rfl (fun h => ?_) fun h => ?_
    ·refine qw 7 rfl (qp rfl (Ab ?_))
     exact sn [] h
    ·refine qf Do rfl (ql IN rfl (AO EF rfl (qf Cs rfl (ql HN rfl (AO DT rfl (BB rfl (qp rfl (Ab ?_))))))))
     exact sn [] h
  ·refine A7 h (fun h => ?_) fun h => ?_
   ·refine wq rfl (qe rfl ?_)
    obtain rfl := sj h
    refine Af (sm [] [(4, iD 6)] [] rfl rfl) (Aq ?_)
    exact ⟨⟨[_], tm, rfl⟩, tv⟩
   ·refine Ai (wp rfl (qf Bf rfl (ql A6 rfl (AO Au rfl (qm rfl (Ab ?_))))))
    refine Ay (L := E1 N p0 p1) h (fun v7 => mk [(2, oD (.ptr 2 0)), (3, oD (.ptr 3 0)), (43, pD (.sl (p0.fb.map Ak))), (44, iD ((p0.fb.length : Int))), (45, iD v7)] [(2, .box (Ah p0)), (3, .box (AL p1))]) (fun v8 => mk [(2, oD (.ptr 2 0)), (3, oD (.ptr 3 0))] [(2, .box (Ah p0)), (3, .box (AL p1))]) (fun _ _ => rfl) (sm [] _ _ rfl rfl) (fun j7 n7 v7 h => ?_) (fun v8 s h hs => ?_)
    ·unfold E1 at h
     refine wq rfl (AV rfl (Ab (AK ?_)))
     refine A7 h (fun h => ?_) fun h => ?_
     ·refine Ai (AK (AF (wq rfl (qm rfl ?_))))
      refine Bb h fun v10 a10 b10 h => qi Au CP a10 (Ac b10) rfl (qk B4 rfl (qa rfl (qa rfl (Ab (AK ?_)))))
      refine AN h (fun v11 => mk [(2, oD (.ptr 2 0)), (3, oD (.ptr 3 0)), (6, iD v7), (43, pD (.sl (p0.fb.map Ak))), (44, iD ((p0.fb.length : Int))), (45, iD v7), (81, bD v11)] [(2, .box (Ah p0)), (3, .box (AL p1))]) (fun j11 h => ?_) (fun v11 h => ?_)
      ·refine Ag As rfl (qf Dn rfl (ql A6 rfl (qm rfl ?_)))
       refine Bb h fun v12 a12 b12 h => qi Au CP a12 (Ac b12) rfl (qk B4 rfl (AV rfl (qm rfl ?_)))
       refine EM 56 h rfl (fun h => ?_) fun h => ?_
       ·refine qw 7 rfl (qp rfl (qw 7 rfl (qp rfl (qw 8 rfl (qp rfl (Ab ?_))))))
        exact sn [] h
       ·refine qf Dn rfl (ql A6 rfl (qm rfl ?_))
        refine Bb h fun v14 a14 b14 h => qi Au CP a14 (Ac b14) rfl (qk B4 rfl (qm rfl (Df rfl (qp rfl (qm rfl ?_)))))
        refine EM 65 h rfl (fun h => ?_) fun h => ?_
        ·refine qw 6 rfl (qp rfl (qw 8 rfl (qp rfl (Ab ?_))))
         exact sn [] h
        ·refine qf BO rfl (ql A6 rfl (qm rfl ?_))
         refine Bb h fun v16 a16 b16 h => qi Au CP a16 (Ac b16) rfl (qk B4 rfl (AV rfl (qp rfl (qm rfl ?_))))
         refine EM 73 h rfl (fun h => ?_) fun h => ?_
         ·refine qw 7 rfl (qp rfl (Ab ?_))
          exact sn [] h
         ·refine qf BO rfl (ql A6 rfl (qm rfl ?_))
          refine Bb h fun v18 a18 b18 h => qi Au CP a18 (Ac b18) rfl (qk B4 rfl (qm rfl (Df rfl (qp rfl (Ab ?_)))))
          exact sn [] h
      ·refine A7 h (fun h => ?_) fun h => ?_
       ·refine wq rfl (qe rfl ?_)
        obtain rfl := sj h
        refine Af (sm [] [(4, iD 7)] [] rfl rfl) (Aq ?_)
        exact ⟨⟨[_], tm, rfl⟩, tv⟩
       ·refine Ai (wq rfl (qf Dn rfl (ql A6 rfl (qm rfl ?_))))
        refine Bb h fun v20 a20 b20 h => qi Au CP a20 (Ac b20) rfl (qk B4 rfl (qf BO rfl (ql A6 rfl (qm rfl ?_))))
        refine Bb h fun v21 a21 b21 h => qi Au CP a21 (Ac b21) rfl (qk B4 rfl (B9 rfl (AD (by kernel_rfl) ?_)))
        refine A7 h (fun h => ?_) fun h => ?_
        ·refine wq rfl (qe rfl ?_)
         obtain rfl := sj h
         refine Af (sm [] [(4, iD 1)] [] rfl rfl) (Aq ?_)
         exact ⟨⟨[_], tm, rfl⟩, tv⟩
        ·refine Ai (Ag As rfl (AP rfl (qm rfl (Ab ?_))))
         exact sn [] h
     ·refine AQ ?_
      exact sn [] h
    ·refine Af hs (wp rfl (qf Cs rfl (ql HN rfl (AO DT rfl (qm rfl (Ab ?_))))))
     refine Ay (L := EH N p0 p1) h (fun v23 => mk [(2, oD (.ptr 2 0)), (3, oD (.ptr 3 0)), (95, pD (.sl (p0.fc.map AT))), (96, iD ((p0.fc.length : Int))), (97, iD v23)] [(2, .box (Ah p0)), (3, .box (AL p1))]) (fun v24 => mk [] []) (fun _ _ => rfl) (sm [] _ _ rfl rfl) (fun j23 n23 v23 h => ?_) (fun v24 s h hs => ?_)
     ·unfold EH at h
      refine wq rfl (AV rfl (Ab (AK ?_)))
      refine A7 h (fun h => ?_) fun h => ?_
      ·refine Ai (AK (AF (wq rfl (qm rfl ?_))))
       refine Bb h fun v26 a26 b26 h => qi DT DM a26 (Ac b26) rfl (qK Hy DM rfl (qz JS rfl (qa rfl (qs DM rfl (Ab (wq rfl (qa rfl (qe rfl ?_))))))))
       refine AN h (fun v27 => mk [(2, oD (.ptr 2 0)), (3, oD (.ptr 3 0)), (8, iD v23), (10, pD (.val (.int .u8 v27.1))), (11, pD (.val (.int .u8 v27.2))), (95, pD (.sl (p0.fc.map AT))), (96, iD ((p0.fc.length : Int))), (97, iD v23)] [(2, .box (Ah p0)), (3, .box (AL p1))]) (fun j27 h => ?_) (fun v27 h => ?_)
       ·refine wq rfl (qL Hy DM rfl ?_)
        refine Bq h fun v28 a28 h => Ax [] (LB N v26 v28 a28) Xh rfl (Ab ?_)
        refine A7 h (fun h => ?_) fun h => ?_
        ·refine Ag As rfl (qL Ca A9 rfl (qf DA rfl (ql B4 rfl ?_)))
         refine Bq h fun v30 a30 h => Ax [] (K4 N p1 v26.fg v30 a30) XE rfl (qf Bf rfl (ql A6 rfl (qf DA rfl (ql B4 rfl ?_))))
         refine Bb h fun v31 a31 b31 h => qi Au CP a31 (Ac b31) rfl (qk B4 rfl ?_)
         refine Gg h fun c32 h => I5 rfl c32 (Cy rfl (qa rfl (qa rfl (AD (by kernel_rfl) ?_))))
         exact sn [] h
        ·refine Ai ?_
         exact sn [] h
       ·refine AN h (fun v33 => mk [(2, oD (.ptr 2 0)), (3, oD (.ptr 3 0)), (95, pD (.sl (p0.fc.map AT))), (96, iD ((p0.fc.length : Int))), (97, iD v23), (133, bD v33)] [(2, .box (Ah p0)), (3, .box (AL p1))]) (fun j33 h => ?_) (fun v33 h => ?_)
        ·refine Ag As rfl (qm rfl (qf Do rfl (ql IN rfl (qm rfl ?_))))
         refine Bb h fun v34 a34 b34 h => qi EF Fh a34 (Ac b34) rfl (qk JE rfl (I3 rfl (BB rfl (qm rfl ?_))))
         refine EM 124 h rfl (fun h => ?_) fun h => ?_
         ·refine qw 8 rfl (qp rfl (Ab ?_))
          exact sn [] h
         ·refine qf Do rfl (ql IN rfl (qm rfl ?_))
          refine Bb h fun v36 a36 b36 h => qi EF Fh a36 (Ac b36) rfl (qk JE rfl (qm rfl (I3 rfl (BB rfl (qp rfl (Ab ?_))))))
          exact sn [] h
        ·refine A7 h (fun h => ?_) fun h => ?_
         ·refine wq rfl (qe rfl ?_)
          obtain rfl := sj h
          refine Af (sm [] [(4, iD 1)] [] rfl rfl) (Aq ?_)
          exact ⟨⟨[_], tm, rfl⟩, tv⟩
         ·refine Ai (Ag As rfl (AP rfl (qm rfl (Ab ?_))))
          exact sn [] h
      ·refine AQ ?_
       exact sn [] h
     ·refine Af hs (wq rfl (qe rfl ?_))
      obtain rfl := sj h
      refine Af (sm [] [(4, iD 0)] [] rfl rfl) (Aq ?_)
      exact ⟨⟨[_], tm, rfl⟩, tv⟩
theorem GJ (N : Nat) (p0 : List Int) (r : (List Int)) (h : Cb N p0 = some r) : An zA 174 [pD (.sl (p0.map Ex))] [(1, r.map Ex)] (oD (.own 0)) := by
 unfold Cb at h
 refine cw (n := 8) (rs := [.tmp 2]) Tryz.func174 fun w0 S0 => ?_
 refine wq rfl (qa rfl (Ab (wp rfl (qm rfl ?_))))
 refine NR (.p rfl) rfl EF ?_
 refine Ab ?_
 refine NK rfl (fun c2 => ?_) ?_
 ·have c2 := uQ.1 c2
  rw [c2] at h
  have h : (some (([] : List Int))) = some r := h
  refine wq rfl (qe rfl ?_)
  obtain rfl := sj h
  refine Af ((A2 2 2001 1 rfl rfl rfl).trans (sm [(1000, 2001)] [(2, oD (.own 1000))] [(1000, .vec 1 ((([] : List Int)).map Ex))] rfl rfl)) (Aq ?_)
  exact ⟨⟨[_], tm, rfl⟩, ⟨rfl, tv⟩⟩
 ·refine Ai (wq rfl (DQ EF Fh NH rfl (qm rfl ?_)))
  refine Gg h fun c1 h => JV (f := Ex) EF EF Fh PN NH (fun _ => rfl) c1 rfl (qe rfl ?_)
  obtain rfl := sj h
  refine Af (sm [(1000, 7)] [(2, oD (.own 1000))] [(1000, .vec 1 (((([] : List Int)) ++ p0).map Ex))] rfl rfl) (Aq ?_)
  exact ⟨⟨[_], tm, rfl⟩, ⟨rfl, tv⟩⟩
theorem Sr (N : Nat) (p0 : Aa) (p1 : Ad) (r : (List Ad) × Int) (h : Ig N p0 p1 = some r) : An zA 153 [.e (.agg (Ah p0)), .e (.agg (AL p1))] [(3, r.1.map FF)] (.tup [.one (.own 0), .one (iC r.2)]) := by
 unfold Ig at h
 refine cw (n := 75) (rs := [.tmp 4, .tmp 5]) Tryz.func153 fun w0 S0 => ?_
 refine wq rfl (qb rfl (qb rfl (qa rfl (qa rfl (Ab (wp rfl (qL Dk Cg rfl (qL Ca A9 rfl ?_))))))))
 refine Bq h fun v1 a1 h => Ax [] (K2 N p0 p1 v1 a1) Vk rfl (qa rfl (Ab (wq rfl (qm rfl (BB rfl (Ab ?_))))))
 refine A7 h (fun h => ?_) fun h => ?_
 ·refine wq rfl (qm rfl (qa rfl (qe rfl ?_)))
  obtain rfl := sj h
  refine Af ((A2 4 2001 3 rfl rfl rfl).trans (sm [(1000, 2001)] [(4, oD (.own 1000)), (5, iD v1)] [(1000, .vec 3 ((([] : List Ad)).map FF))] rfl rfl)) (Aq ?_)
  exact ⟨⟨[_, _], ⟨.tmp _ _ rfl, tm⟩, rfl⟩, ⟨rfl, tv⟩⟩
 ·refine Ai (wq rfl (qa rfl (Ab (wp rfl (qf BO rfl (ql A6 rfl (AO Au rfl (qm rfl (Ab ?_)))))))))
  refine Ay (L := EI N p1) h (fun v3 => mk [(3, oD (.ptr 3 0)), (7, oD (.own 2002)), (22, pD (.sl (p1.fa.map Ak))), (23, iD ((p1.fa.length : Int))), (24, iD v3.2)] [(3, .box (AL p1)), (2002, .vec 1 (v3.1.map Ak))]) (fun v4 => mk [(3, oD (.ptr 3 0)), (7, oD (.own 2003))] [(3, .box (AL p1)), (2003, .vec 1 (v4.map Ak))]) (fun _ _ => rfl) ((A2 7 2005 1 rfl rfl rfl).trans (sm [(2002, 2005)] _ _ rfl rfl)) (fun j3 n3 v3 h => ?_) (fun v4 s h hs => ?_)
  ·unfold EI at h
   refine wq rfl (AV rfl (Ab (AK ?_)))
   refine A7 h (fun h => ?_) fun h => ?_
   ·refine Ai ?_
    refine AN h (fun v6 => mk [(3, oD (.ptr 3 0)), (7, oD (.own 2004)), (22, pD (.sl (p1.fa.map Ak))), (23, iD ((p1.fa.length : Int))), (24, iD v3.2)] [(3, .box (AL p1)), (2004, .vec 1 (v6.map Ak))]) (fun j6 h => ?_) (fun v6 h => ?_)
    ·refine AF (wq rfl (qm rfl ?_))
     refine Bb h fun v7 a7 b7 h => qi Au CP a7 (Ac b7) rfl (qk B4 rfl (qa rfl (qa rfl (Ab (wq rfl (qm rfl (Df rfl (Ab ?_))))))))
     refine A7 h (fun h => ?_) fun h => ?_
     ·refine Ag As rfl (qw 2 rfl (DQ Au CP JH rfl ?_))
      refine Gg h fun c9 h => CJ (f := Ak) Au Au CP KS JH c9 rfl (qe rfl ?_)
      exact sn [(2004, 34)] h
     ·refine Ai ?_
      exact sn [(2004, 2002)] h
    ·refine Ag As rfl (AP rfl (qm rfl (Ab ?_)))
     exact sn [(2002, 2004)] h
   ·refine AQ ?_
    exact sn [(2003, 2002)] h
  ·refine Af hs (wq rfl (qa rfl (Ab (wp rfl (qm rfl (FG Au rfl ?_))))))
   refine Gg h fun c10 h => I5 rfl c10 (qm rfl (Ab ?_))
   refine Ay (L := DH N p1 v4) h (fun v11 => mk [(3, oD (.ptr 3 0)), (7, oD (.own 2006)), (10, oD (.own 2007)), (38, iD ((CX .i64 1 ((v4.length : Int))))), (39, iD v11.2)] [(3, .box (AL p1)), (2006, .vec 1 (v4.map Ak)), (2007, .vec 3 (v11.1.map FF))]) (fun v12 => mk [(10, oD (.own 2008))] [(2008, .vec 3 (v12.map FF))]) (fun _ _ => rfl) ((A2 10 2027 3 rfl rfl rfl).trans (sm [(2006, 2003), (2007, 2027)] _ _ rfl rfl)) (fun j11 n11 v11 h => ?_) (fun v12 s h hs => ?_)
   ·unfold DH at h
    refine wq rfl (AV rfl (Ab (AK ?_)))
    refine A7 h (fun h => ?_) fun h => ?_
    ·refine Ai (AK (AF (wq rfl (qm rfl (qa rfl (Ab (wq rfl (qf Dn rfl (ql A6 rfl ?_)))))))))
     refine Bq h fun v14 a14 h => Ax [2009] (DZ N p1.fd v14 a14) Wf rfl (qf BO rfl (ql A6 rfl ?_))
     refine Bq h fun v15 a15 h => Ax [2010] (DZ N p1.fa v15 a15) Wf rfl (qf Do rfl (ql IN rfl ?_))
     refine Bq h fun v16 a16 h => Ax [2011] (GJ N p1.fe v16 a16) ZR rfl (Bp Fc Ke rfl (qz Fc rfl (qs A9 rfl (AD (by kernel_rfl) (wp rfl (qm rfl (FG Au rfl (qm rfl (Ab ?_)))))))))
     refine Ay (L := DI N v4 v11) h (fun v17 => mk [(3, oD (.ptr 3 0)), (7, oD (.own 2015)), (10, oD (.own 2016)), (11, iD v11.2), (12, oD (.ptr 12 0)), (38, iD ((CX .i64 1 ((v4.length : Int))))), (39, iD v11.2), (52, oD (.own 2015)), (53, iD ((v4.length : Int))), (54, iD v17.2)] [(3, .box (AL p1)), (12, .box [.own 2012, .own 2013, .own 2014]), (2012, .vec 1 (v14.map Ak)), (2013, .vec 1 (v17.1.map Ak)), (2014, .vec 1 (v16.map Ex)), (2015, .vec 1 (v4.map Ak)), (2016, .vec 3 (v11.1.map FF))]) (fun v18 => mk [(3, oD (.ptr 3 0)), (7, oD (.own 2020)), (10, oD (.own 2021)), (12, oD (.ptr 12 0)), (38, iD ((CX .i64 1 ((v4.length : Int))))), (39, iD v11.2)] [(3, .box (AL p1)), (12, .box [.own 2017, .own 2018, .own 2019]), (2017, .vec 1 (v14.map Ak)), (2018, .vec 1 (v18.map Ak)), (2019, .vec 1 (v16.map Ex)), (2020, .vec 1 (v4.map Ak)), (2021, .vec 3 (v11.1.map FF))]) (fun _ _ => rfl) (sm [(2012, 2009), (2013, 2010), (2014, 2011), (2015, 2006), (2016, 2007)] _ _ rfl rfl) (fun j17 n17 v17 h => ?_) (fun v18 s h hs => ?_)
     ·unfold DI at h
      refine wq rfl (AV rfl (Ab (AK ?_)))
      refine A7 h (fun h => ?_) fun h => ?_
      ·refine Ai ?_
       refine AN h (fun v20 => mk [(3, oD (.ptr 3 0)), (7, oD (.own 2025)), (10, oD (.own 2026)), (11, iD v11.2), (12, oD (.ptr 12 0)), (38, iD ((CX .i64 1 ((v4.length : Int))))), (39, iD v11.2), (52, oD (.own 2025)), (53, iD ((v4.length : Int))), (54, iD v17.2)] [(3, .box (AL p1)), (12, .box [.own 2022, .own 2023, .own 2024]), (2022, .vec 1 (v14.map Ak)), (2023, .vec 1 (v20.map Ak)), (2024, .vec 1 (v16.map Ex)), (2025, .vec 1 (v4.map Ak)), (2026, .vec 3 (v11.1.map FF))]) (fun j20 h => ?_) (fun v20 h => ?_)
       ·refine AF (wq rfl (qm rfl ?_))
        refine Bb h fun v21 a21 b21 h => qI Au CP a21 (Ac b21) rfl (qj B4 (Ac b21) rfl (qa rfl (qa rfl (Ab (wq rfl (qw 2 rfl ?_))))))
        refine Gg h fun c22 h => Ga rfl c22 (IT rfl (B9 rfl (Ab ?_)))
        refine A7 h (fun h => ?_) fun h => ?_
        ·refine Ag As rfl (qf BO rfl (ql A6 rfl (qm rfl ?_)))
         refine Bb h fun v24 a24 b24 h => qI Au CP a24 (Ac b24) rfl ?_
         refine A8 rfl rfl rfl rfl (Ac b24) rfl CP rfl (D8 rfl) (A5 Ak v17.1 _ ((-1))) ?_
         refine Ab ?_
         exact sn [(2022, 2012), (2023, 2013), (2024, 2014), (2025, 2015), (2026, 2016)] h
        ·refine Ai ?_
         exact sn [(2022, 2012), (2023, 2013), (2024, 2014), (2025, 2015), (2026, 2016)] h
       ·refine Ag As rfl (AP rfl (qm rfl (Ab ?_)))
        exact sn [(2012, 2022), (2013, 2023), (2014, 2024), (2015, 2025), (2016, 2026)] h
      ·refine AQ ?_
       exact sn [(2017, 2012), (2018, 2013), (2019, 2014), (2020, 2015), (2021, 2016)] h
     ·refine Af hs (Ag As rfl (qm rfl (qL Ca A9 rfl (DG (Bt 2017 _ _ rfl rfl) (DG (Bt 2018 _ _ rfl rfl) (DG (Bt 2019 _ _ rfl rfl) (DQ M9 A9 Fc rfl ?_)))))))
      refine Gg h fun c25 h => CJ (f := FF) M9 M9 A9 ZT Fc c25 rfl (qa rfl (Ab (Ag As rfl (AP rfl (qm rfl (Ab ?_))))))
      exact sn [(2006, 2020), (2007, 72)] h
    ·refine AQ ?_
     exact sn [(2008, 2007)] h
   ·refine Af hs (wq rfl (qm rfl (qa rfl (qe rfl ?_))))
    obtain rfl := sj h
    refine Af (sm [(1000, 2008)] [(4, oD (.own 1000)), (5, iD 0)] [(1000, .vec 3 (v12.map FF))] rfl rfl) (Aq ?_)
    exact ⟨⟨[_, _], ⟨.tmp _ _ rfl, tm⟩, rfl⟩, ⟨rfl, tv⟩⟩
theorem Pl (N : Nat) (p0 : Aa) (p1 : Ad) (r : (List Ap)) (h : GK N p0 p1 = some r) : An zA 154 [.e (.agg (Ah p0)), .e (.agg (AL p1))] [(3, r.map A3)] (oD (.own 0)) := by
 unfold GK at h
 refine cw (n := 98) (rs := [.tmp 4]) Tryz.func154 fun w0 S0 => ?_
 refine wq rfl (qb rfl (qb rfl (qa rfl (Ab (wq rfl (qa rfl (Ab (wp rfl (qf Cs rfl (ql HN rfl (AO DT rfl (qm rfl (Ab ?_)))))))))))))
 refine Ay (L := Ec N p0 p1) h (fun v1 => mk [(3, oD (.ptr 3 0)), (5, oD (.own 2001)), (15, pD (.sl (p0.fc.map AT))), (16, iD ((p0.fc.length : Int))), (17, iD v1.2)] [(3, .box (AL p1)), (2001, .vec 3 (v1.1.map A3))]) (fun v2 => mk [(5, oD (.own 2002))] [(2002, .vec 3 (v2.map A3))]) (fun _ _ => rfl) ((A2 5 2013 3 rfl rfl rfl).trans (sm [(2001, 2013)] _ _ rfl rfl)) (fun j1 n1 v1 h => ?_) (fun v2 s h hs => ?_)
 ·unfold Ec at h
  refine wq rfl (AV rfl (Ab (AK ?_)))
  refine A7 h (fun h => ?_) fun h => ?_
  ·refine Ai (AK (AF (wq rfl (qm rfl ?_))))
   refine Bb h fun v4 a4 b4 h => qi DT DM a4 (Ac b4) rfl (qK Hy DM rfl (qz JS rfl (qa rfl (qs DM rfl (Ab (wq rfl (qL Ca A9 rfl (qf DA rfl (ql B4 rfl ?_)))))))))
   refine Bq h fun v5 a5 h => Ax [] (K4 N p1 v4.fg v5 a5) XE rfl (qL Ca A9 rfl (qf Ik rfl (ql B4 rfl ?_)))
   refine Bq h fun v6 a6 h => Ax [] (K4 N p1 v4.fj v6 a6) XE rfl (qa rfl (qa rfl (AD (by kernel_rfl) ?_)))
   refine AN h (fun v7 => mk [(3, oD (.ptr 3 0)), (5, oD (.own 2003)), (6, iD v1.2), (7, oD (.ptr 7 0)), (8, pD (.val (.int .u8 v7))), (9, pD (.val (.int .u8 v6))), (15, pD (.sl (p0.fc.map AT))), (16, iD ((p0.fc.length : Int))), (17, iD v1.2)] [(3, .box (AL p1)), (7, .box (Bg v4)), (2003, .vec 3 (v1.1.map A3))]) (fun j7 h => ?_) (fun v7 h => ?_)
   ·refine wq rfl (qL Hy DM rfl ?_)
    refine Bq h fun v8 a8 h => Ax [] (LB N v4 v8 a8) Xh rfl (Ab ?_)
    refine A7 h (fun h => ?_) fun h => ?_
    ·refine Ag As rfl (qf Do rfl (ql IN rfl (qm rfl ?_)))
     refine Bb h fun v10 a10 b10 h => qi EF Fh a10 (Ac b10) rfl (qk JE rfl (qe rfl ?_))
     exact sn [(2003, 2001)] h
    ·refine Ai ?_
     exact sn [(2003, 2001)] h
   ·refine wq rfl (qf HJ rfl (ql Jf rfl (AO E5 rfl (qm rfl (Ab ?_)))))
    refine Ay (L := CH N v1 v4 v6 v7) h (fun v11 => mk [(3, oD (.ptr 3 0)), (5, oD (.own 2004)), (6, iD v1.2), (7, oD (.ptr 7 0)), (8, pD (.val (.int .u8 v7))), (9, pD (.val (.int .u8 v6))), (15, pD (.sl (p0.fc.map AT))), (16, iD ((p0.fc.length : Int))), (17, iD v1.2), (39, iD ((v4.fq.length : Int))), (40, iD v11.2)] [(3, .box (AL p1)), (7, .box (Bg v4)), (2004, .vec 3 (v11.1.map A3))]) (fun v12 => mk [(3, oD (.ptr 3 0)), (5, oD (.own 2005)), (15, pD (.sl (p0.fc.map AT))), (16, iD ((p0.fc.length : Int))), (17, iD v1.2)] [(3, .box (AL p1)), (2005, .vec 3 (v12.map A3))]) (fun _ _ => rfl) (sm [(2004, 2003)] _ _ rfl rfl) (fun j11 n11 v11 h => ?_) (fun v12 s h hs => ?_)
    ·unfold CH at h
     refine wq rfl (AV rfl (Ab (AK ?_)))
     refine A7 h (fun h => ?_) fun h => ?_
     ·refine Ai ?_
      refine AN h (fun v14 => mk [(3, oD (.ptr 3 0)), (5, oD (.own 2006)), (6, iD v1.2), (7, oD (.ptr 7 0)), (8, pD (.val (.int .u8 v7))), (9, pD (.val (.int .u8 v6))), (15, pD (.sl (p0.fc.map AT))), (16, iD ((p0.fc.length : Int))), (17, iD v1.2), (39, iD ((v4.fq.length : Int))), (40, iD v11.2)] [(3, .box (AL p1)), (7, .box (Bg v4)), (2006, .vec 3 (v14.map A3))]) (fun j14 h => ?_) (fun v14 h => ?_)
      ·refine AF (wq rfl (qm rfl (qa rfl (Ab (wp rfl (qw 2 rfl ?_))))))
       refine Gg h fun c15 h => Ga rfl c15 (IT rfl (B9 rfl (Ab ?_)))
       refine A7 h (fun h => ?_) fun h => ?_
       ·refine AQ ?_
        exact sn [(2006, 2004)] h
       ·refine Ai (wq rfl (qa rfl (Ab (wp rfl (qf HJ rfl (ql Jf rfl (qm rfl ?_)))))))
        refine Bb h fun v17 a17 b17 h => qi E5 KF a17 (Ac b17) rfl (qk Pp rfl (AO F1 rfl (qm rfl (Ab ?_))))
        refine Ay (L := Ck N v1 v4 v6 v11 v17) h (fun v18 => mk [(3, oD (.ptr 3 0)), (5, oD (.own 2007)), (6, iD v1.2), (7, oD (.ptr 7 0)), (8, pD (.val (.int .u8 v7))), (9, pD (.val (.int .u8 v6))), (10, iD v11.2), (11, bD v18.2.1), (15, pD (.sl (p0.fc.map AT))), (16, iD ((p0.fc.length : Int))), (17, iD v1.2), (39, iD ((v4.fq.length : Int))), (40, iD v11.2), (52, pD (.sl (v17.map eB))), (53, iD ((v17.length : Int))), (54, iD v18.2.2)] [(3, .box (AL p1)), (7, .box (Bg v4)), (2007, .vec 3 (v18.1.map A3))]) (fun v19 => mk [(3, oD (.ptr 3 0)), (5, oD (.own 2008)), (6, iD v1.2), (7, oD (.ptr 7 0)), (8, pD (.val (.int .u8 v7))), (9, pD (.val (.int .u8 v6))), (10, iD v11.2), (11, bD v19.2), (15, pD (.sl (p0.fc.map AT))), (16, iD ((p0.fc.length : Int))), (17, iD v1.2), (39, iD ((v4.fq.length : Int))), (40, iD v11.2)] [(3, .box (AL p1)), (7, .box (Bg v4)), (2008, .vec 3 (v19.1.map A3))]) (fun _ _ => rfl) (sm [(2007, 2004)] _ _ rfl rfl) (fun j18 n18 v18 h => ?_) (fun v19 s h hs => ?_)
        ·unfold Ck at h
         refine wq rfl (AV rfl (Ab (AK ?_)))
         refine A7 h (fun h => ?_) fun h => ?_
         ·refine Ai ?_
          refine AN h (fun v21 => mk [(3, oD (.ptr 3 0)), (5, oD (.own 2009)), (6, iD v1.2), (7, oD (.ptr 7 0)), (8, pD (.val (.int .u8 v7))), (9, pD (.val (.int .u8 v6))), (10, iD v11.2), (11, bD v21.2), (15, pD (.sl (p0.fc.map AT))), (16, iD ((p0.fc.length : Int))), (17, iD v1.2), (39, iD ((v4.fq.length : Int))), (40, iD v11.2), (52, pD (.sl (v17.map eB))), (53, iD ((v17.length : Int))), (54, iD v18.2.2)] [(3, .box (AL p1)), (7, .box (Bg v4)), (2009, .vec 3 (v21.1.map A3))]) (fun j21 h => ?_) (fun v21 h => ?_)
          ·refine AF (wq rfl (qm rfl ?_))
           refine Bb h fun v22 a22 b22 h => qi F1 Qs a22 (Ac b22) rfl (qk Ue rfl (qa rfl (qa rfl (Ab (wp rfl (qw 2 rfl ?_))))))
           refine Gg h fun c23 h => Ga rfl c23 (IT rfl (B9 rfl (Ab ?_)))
           refine A7 h (fun h => ?_) fun h => ?_
           ·refine AQ ?_
            exact sn [(2009, 2007)] h
           ·refine Ai ?_
            refine AN h (fun v25 => mk [(3, oD (.ptr 3 0)), (5, oD (.own 2010)), (6, iD v1.2), (7, oD (.ptr 7 0)), (8, pD (.val (.int .u8 v7))), (9, pD (.val (.int .u8 v6))), (10, iD v11.2), (11, bD v25), (12, iD v18.2.2), (13, bD v22), (15, pD (.sl (p0.fc.map AT))), (16, iD ((p0.fc.length : Int))), (17, iD v1.2), (39, iD ((v4.fq.length : Int))), (40, iD v11.2), (52, pD (.sl (v17.map eB))), (53, iD ((v17.length : Int))), (54, iD v18.2.2)] [(3, .box (AL p1)), (7, .box (Bg v4)), (2010, .vec 3 (v18.1.map A3))]) (fun j25 h => ?_) (fun v25 h => ?_)
            ·refine Ag As rfl (qw 2 rfl ?_)
             refine EM 65 h rfl (fun h => ?_) fun h => ?_
             ·refine qn rfl (qp rfl (qe rfl ?_))
              exact sn [(2010, 2007)] h
             ·refine qm rfl (qp rfl (qe rfl ?_))
              exact sn [(2010, 2007)] h
            ·refine AN h (fun v27 => mk [(3, oD (.ptr 3 0)), (5, oD (.own 2011)), (6, iD v1.2), (7, oD (.ptr 7 0)), (8, pD (.val (.int .u8 v7))), (9, pD (.val (.int .u8 v6))), (10, iD v11.2), (11, bD v25), (12, iD v18.2.2), (15, pD (.sl (p0.fc.map AT))), (16, iD ((p0.fc.length : Int))), (17, iD v1.2), (39, iD ((v4.fq.length : Int))), (40, iD v11.2), (52, pD (.sl (v17.map eB))), (53, iD ((v17.length : Int))), (54, iD v18.2.2), (74, bD v27)] [(3, .box (AL p1)), (7, .box (Bg v4)), (2011, .vec 3 (v18.1.map A3))]) (fun j27 h => ?_) (fun v27 h => ?_)
             ·refine Ag As rfl (qm rfl (Cc rfl (qm rfl ?_)))
              refine EM 70 h rfl (fun h => ?_) fun h => ?_
              ·refine qf Kg rfl (ql Ue rfl (Cc rfl (qp rfl (Ab ?_))))
               exact sn [(2011, 2010)] h
              ·refine qw 3 rfl (qp rfl (Ab ?_))
               exact sn [(2011, 2010)] h
             ·refine A7 h (fun h => ?_) fun h => ?_
              ·refine Ag As rfl (qw 4 rfl (Bp J5 Rw rfl (DQ Io JI J5 rfl ?_)))
               refine Gg h fun c30 h => CJ (f := A3) Io Io JI R2 J5 c30 rfl (qe rfl ?_)
               exact sn [(2009, 81)] h
              ·refine Ai ?_
               exact sn [(2009, 2011)] h
          ·refine Ag As rfl (AP rfl (qm rfl (Ab ?_)))
           exact sn [(2007, 2009)] h
         ·refine AQ ?_
          exact sn [(2008, 2007)] h
        ·refine Af hs ?_
         refine AN h (fun v31 => mk [(3, oD (.ptr 3 0)), (5, oD (.own 2012)), (6, iD v1.2), (7, oD (.ptr 7 0)), (8, pD (.val (.int .u8 v7))), (9, pD (.val (.int .u8 v6))), (10, iD v11.2), (15, pD (.sl (p0.fc.map AT))), (16, iD ((p0.fc.length : Int))), (17, iD v1.2), (39, iD ((v4.fq.length : Int))), (40, iD v11.2), (88, bD v31)] [(3, .box (AL p1)), (7, .box (Bg v4)), (2012, .vec 3 (v19.1.map A3))]) (fun j31 h => ?_) (fun v31 h => ?_)
         ·refine Ag As rfl (qf Kg rfl (ql Ue rfl (qm rfl ?_)))
          refine EM 85 h rfl (fun h => ?_) fun h => ?_
          ·refine qm rfl (Cc rfl (qp rfl (Ab ?_)))
           exact sn [(2012, 2008)] h
          ·refine qw 2 rfl (qp rfl (Ab ?_))
           exact sn [(2012, 2008)] h
         ·refine A7 h (fun h => ?_) fun h => ?_
          ·refine Ag As rfl (qw 3 rfl (Bp J5 Rw rfl (DQ Io JI J5 rfl ?_)))
           refine Gg h fun c34 h => CJ (f := A3) Io Io JI R2 J5 c34 rfl (qe rfl ?_)
           exact sn [(2006, 94)] h
          ·refine Ai ?_
           exact sn [(2006, 2012)] h
      ·refine Ag As rfl (AP rfl (qm rfl (Ab ?_)))
       exact sn [(2004, 2006)] h
     ·refine AQ ?_
      exact sn [(2005, 2004)] h
    ·refine Af hs (Ag As rfl (AP rfl (qm rfl (Ab ?_))))
     exact sn [(2001, 2005)] h
  ·refine AQ ?_
   exact sn [(2002, 2001)] h
 ·refine Af hs (wq rfl (qm rfl (qe rfl ?_)))
  obtain rfl := sj h
  refine Af (sm [(1000, 2002)] [(4, oD (.own 1000))] [(1000, .vec 3 (v2.map A3))] rfl rfl) (Aq ?_)
  exact ⟨⟨[_], tm, rfl⟩, ⟨rfl, tv⟩⟩
theorem TF (N : Nat) (p0 : Aa) (p1 : Ad) (r : Ad × Ap × Int) (h : I2 N p0 p1 = some r) : An zA 117 [.e (.agg (Ah p0)), .e (.agg (AL p1))] [] (.tup [.agg (AL r.1), .agg (Ok r.2.1), .one (iC r.2.2)]) := by
 unfold I2 at h
 refine cw (n := 42) (rs := [.cell 4 49, .cell 5 149, .tmp 6]) Tryz.func117 fun w0 S0 => ?_
 refine wq rfl (qb rfl (qb rfl (qz Fc rfl (qz J5 rfl (qa rfl (Ab (wq rfl (qL Dk Cg rfl (qL Ca A9 rfl ?_)))))))))
 refine Bq h fun v1 a1 h => Ax [2001] (Sr N p0 p1 v1 a1) cR rfl (qm rfl (qx rfl (qx rfl (qa rfl (qa rfl (Ab (wp rfl (qm rfl (BB rfl (Ab ?_))))))))))
 refine A7 h (fun h => ?_) fun h => ?_
 ·refine wq rfl (Bp Fc Ke rfl (Bp J5 Rw rfl (qm rfl (qs A9 rfl (qs JI rfl (qe rfl ?_))))))
  obtain rfl := sj h
  refine Af ((RE 4 _ rfl).trans (sm [] [(4, oD (.ptr 4 0)), (5, oD (.ptr 5 0)), (6, iD v1.2)] [(4, .box [sC ((([] : List Int)).map Ak), sC ((([] : List Int)).map Ak), sC ((([] : List Int)).map Ex)]), (5, .box [iC 0, iC 0, iC 0])] rfl rfl)) (Aq ?_)
  exact ⟨⟨[_, _, _], ⟨.cellN _ _ _ _ _ _ _ rfl rfl Ca A9 rfl rfl (Kn rfl), ⟨.cellN _ _ _ _ _ _ _ rfl rfl VJ JI rfl rfl (Kn rfl), tm⟩⟩, rfl⟩, tv⟩
 ·refine Ai (wp rfl (qm rfl (FG M9 rfl (qm rfl (Ab ?_)))))
  refine Ay (L := FJ N p0 v1) h (fun v3 => mk [(2, oD (.ptr 2 0)), (4, oD (.ptr 4 0)), (5, oD (.ptr 5 0)), (23, oD (.own 2002)), (24, iD ((v1.1.length : Int))), (25, iD v3)] [(2, .box (Ah p0)), (4, .box [.pure (.nil0), .pure (.nil0), .pure (.nil0)]), (5, .box [iC 0, iC 0, iC 0]), (2002, .vec 3 (v1.1.map FF))]) (fun v4 => mk [(4, oD (.ptr 4 0)), (5, oD (.ptr 5 0))] [(4, .box [.pure (.nil0), .pure (.nil0), .pure (.nil0)]), (5, .box [iC 0, iC 0, iC 0])]) (fun _ _ => rfl) (sm [(2002, 2001)] _ _ rfl rfl) (fun j3 n3 v3 h => ?_) (fun v4 s h hs => ?_)
  ·unfold FJ at h
   refine wq rfl (AV rfl (Ab (AK ?_)))
   refine A7 h (fun h => ?_) fun h => ?_
   ·refine Ai (AK (AF (wq rfl ?_)))
    refine Bb h fun v6 a6 b6 h => qI M9 A9 a6 (Ac b6) rfl (qJ Ca A9 (Ac b6) rfl (qz Fc rfl (qs A9 rfl (Ab (wq rfl (qL Dk Cg rfl (qL Ca A9 rfl ?_)))))))
    refine Bq h fun v7 a7 h => Ax [2003] (Pl N p0 v6 v7 a7) cT rfl (qa rfl (Ab (wq rfl (qm rfl (FG Io rfl (FW rfl (Ab ?_)))))))
    refine A7 h (fun h => ?_) fun h => ?_
    ·refine wq rfl (qL Ca A9 rfl (qm rfl ?_))
     refine Bb h fun v9 a9 b9 h => qI Io JI a9 (Ac b9) rfl (qJ VJ JI (Ac b9) rfl (qs A9 rfl (qs JI rfl (qa rfl (AD (by kernel_rfl) ?_)))))
     obtain rfl := sj h
     refine Af (sm [] [(4, oD (.ptr 4 0)), (5, oD (.ptr 5 0)), (6, iD 0)] [(4, .box (AL v6)), (5, .box (Ok v9))] rfl rfl) (Aq ?_)
     exact ⟨⟨[_, _, _], ⟨.cellN _ _ _ _ _ _ _ rfl rfl Ca A9 rfl rfl (Kn rfl), ⟨.cellN _ _ _ _ _ _ _ rfl rfl VJ JI rfl rfl (Kn rfl), tm⟩⟩, rfl⟩, tv⟩
    ·refine Ai (Ag As rfl (AP rfl (qm rfl (Ab ?_))))
     exact sn [] h
   ·refine AQ ?_
    exact sn [] h
  ·refine Af hs (wq rfl (Bp Fc Ke rfl (Bp J5 Rw rfl (qs A9 rfl (qs JI rfl (qe rfl ?_))))))
   obtain rfl := sj h
   refine Af ((RE 4 _ rfl).trans (sm [] [(4, oD (.ptr 4 0)), (5, oD (.ptr 5 0)), (6, iD 15)] [(4, .box [sC ((([] : List Int)).map Ak), sC ((([] : List Int)).map Ak), sC ((([] : List Int)).map Ex)]), (5, .box [iC 0, iC 0, iC 0])] rfl rfl)) (Aq ?_)
   exact ⟨⟨[_, _, _], ⟨.cellN _ _ _ _ _ _ _ rfl rfl Ca A9 rfl rfl (Kn rfl), ⟨.cellN _ _ _ _ _ _ _ rfl rfl VJ JI rfl rfl (Kn rfl), tm⟩⟩, rfl⟩, tv⟩
theorem Od (N : Nat) (p0 : Aa) (p1 : Ad) (r : Bool × Int) (h : Hp N p0 p1 = some r) : An zA 83 [.e (.agg (Ah p0)), .e (.agg (AL p1))] [] (.tup [.one (.pure (.val (.bool r.1))), .one (iC r.2)]) := by
 unfold Hp at h
 refine cw (n := 22) (rs := [.tmp 4, .tmp 5]) Tryz.func83 fun w0 S0 => ?_
 refine wq rfl (qb rfl (qb rfl (qa rfl (qa rfl (Ab (wq rfl (qL Dk Cg rfl (qL Ca A9 rfl ?_))))))))
 refine Bq h fun v1 a1 h => Ax [] (TF N p0 p1 v1 a1) bj rfl (qm rfl (qx rfl (qx rfl (qx rfl (qz Fc rfl (qz J5 rfl (qs A9 rfl (qs JI rfl (qa rfl (Ab (wq rfl (qm rfl (Ab (AF (wq rfl (B9 rfl (qe rfl ?_)))))))))))))))))
 refine A7 h (fun h => ?_) fun h => ?_
 ·refine wq rfl (qa rfl (qe rfl ?_))
  obtain rfl := sj h
  refine Af (sm [] [(4, bD false), (5, iD 0)] [] rfl rfl) (Aq ?_)
  exact ⟨⟨[_, _], ⟨.tmp _ _ rfl, tm⟩, rfl⟩, tv⟩
 ·refine wq rfl (B9 rfl (qe rfl ?_))
  refine A7 h (fun h => ?_) fun h => ?_
  ·refine wq rfl (qa rfl (qe rfl ?_))
   obtain rfl := sj h
   refine Af (sm [] [(4, bD true), (5, iD 0)] [] rfl rfl) (Aq ?_)
   exact ⟨⟨[_, _], ⟨.tmp _ _ rfl, tm⟩, rfl⟩, tv⟩
  ·refine wq rfl (qm rfl (qa rfl (qe rfl ?_)))
   obtain rfl := sj h
   refine Af (sm [] [(4, bD false), (5, iD v1.2.2)] [] rfl rfl) (Aq ?_)
   exact ⟨⟨[_, _], ⟨.tmp _ _ rfl, tm⟩, rfl⟩, tv⟩
theorem P8 (N : Nat) (p0 : Ad) (r : ByteArray) (h : IE N p0 = some r) : An zA 138 [.e (.agg (AL p0))] [] (pD (.val (.string r))) := by
 unfold IE at h
 refine cw (n := 53) (rs := [.tmp 2]) Tryz.func138 fun w0 S0 => ?_
 refine wq rfl (qb rfl (qa rfl (Ab (wq rfl (qf Dn rfl (ql A6 rfl (AO Au rfl (KI rfl (qf Do rfl (ql IN rfl (AO EF rfl (AP rfl ?_))))))))))))
 refine Gg h fun c1 h => My (.p rfl) rfl rfl rfl L1 aa Z5 (D8 rfl) cr rfl rfl rfl c1.1 c1.2.1 c1.2.2 (SP Ex _ ((0 : Int))) ?_
 refine qa rfl (Ab (wp rfl (qf Dn rfl (ql A6 rfl (AO Au rfl (qm rfl (Ab ?_)))))))
 refine Ay (L := Fs N p0) h (fun v2 => mk [(1, oD (.ptr 1 0)), (3, oD (.own 2001)), (18, iD ((p0.fd.length : Int))), (19, iD v2.2)] [(1, .box (AL p0)), (2001, .vec 1 (v2.1.map Ex))]) (fun v3 => mk [(1, oD (.ptr 1 0)), (3, oD (.own 2002))] [(1, .box (AL p0)), (2002, .vec 1 (v3.map Ex))]) (fun _ _ => rfl) (sm [(2001, 15)] _ _ rfl rfl) (fun j2 n2 v2 h => ?_) (fun v3 s h hs => ?_)
 ·unfold Fs at h
  refine wq rfl (AV rfl (Ab (AK ?_)))
  refine A7 h (fun h => ?_) fun h => ?_
  ·refine Ai (AK (AF (wq rfl (qm rfl (qa rfl (Ab (Ag As rfl (qm rfl (qf Dn rfl (ql A6 rfl (qm rfl ?_)))))))))))
   refine Bb h fun v5 a5 b5 h => qi Au CP a5 (Ac b5) rfl (qk B4 rfl (Id Z6 dG rfl (qf BO rfl (ql A6 rfl (qm rfl ?_)))))
   refine Bb h fun v6 a6 b6 h => qi Au CP a6 (Ac b6) rfl (qk B4 rfl (AP rfl (Id Z6 dG rfl (DQ L1 aa cr rfl ?_))))
   refine Gg h fun c7 h => CJ (f := Ex) L1 L1 aa Z5 cr c7 rfl (qa rfl (AD (by kernel_rfl) (Ag As rfl (AP rfl (qm rfl (Ab ?_))))))
   exact sn [(2001, 37)] h
  ·refine AQ ?_
   exact sn [(2002, 2001)] h
 ·refine Af hs (wp rfl (qf Do rfl (ql IN rfl (AO EF rfl (qm rfl (Ab ?_))))))
  refine Ay (L := Es N p0) h (fun v8 => mk [(3, oD (.own 2003)), (40, pD (.sl (p0.fe.map Ex))), (41, iD ((p0.fe.length : Int))), (42, iD v8.2)] [(2003, .vec 1 (v8.1.map Ex))]) (fun v9 => mk [(3, oD (.own 2004))] [(2004, .vec 1 (v9.map Ex))]) (fun _ _ => rfl) (sm [(2003, 2002)] _ _ rfl rfl) (fun j8 n8 v8 h => ?_) (fun v9 s h hs => ?_)
  ·unfold Es at h
   refine wq rfl (AV rfl (Ab (AK ?_)))
   refine A7 h (fun h => ?_) fun h => ?_
   ·refine Ai (AK (AF (wq rfl ?_)))
    refine Bb h fun v11 a11 b11 h => qi EF Fh a11 (Ac b11) rfl (qk JE rfl (qa rfl (Ab (Ag As rfl (qw 2 rfl (DQ L1 aa cr rfl ?_))))))
    refine Gg h fun c12 h => CJ (f := Ex) L1 L1 aa Z5 cr c12 rfl (qa rfl (Ab (Ag As rfl (AP rfl (qm rfl (Ab ?_))))))
    exact sn [(2003, 49)] h
   ·refine AQ ?_
    exact sn [(2004, 2003)] h
  ·refine Af hs (wq rfl (qm rfl ?_))
   refine Wv v9 (.p rfl) rfl (Xo Ex _ _ _) ⟨rfl, tv⟩ rfl bu S8 ?_
   refine qa rfl (Ab ?_)
   obtain rfl := sj h
   refine Af (sm [] [(2, pD (.val (.string ((C2 v9)))))] [] rfl rfl) (Aq ?_)
   exact ⟨⟨[_], tm, rfl⟩, tv⟩
theorem UJ (N : Nat) (p0 : Aa) (r : (List Ae)) (h : JD N p0 = some r) : An zA 125 [.e (.agg (Ah p0))] [(3, r.map AC)] (oD (.own 0)) := by
 unfold JD at h
 refine cw (n := 54) (rs := [.tmp 2]) Tryz.func125 fun w0 S0 => ?_
 refine wq rfl (qb rfl (qa rfl (Ab (wq rfl (qa rfl (Ab (wp rfl (qf Bf rfl (ql A6 rfl (AO Au rfl (qm rfl (Ab ?_))))))))))))
 refine Ay (L := DS N p0) h (fun v1 => mk [(1, oD (.ptr 1 0)), (3, oD (.own 2001)), (10, pD (.sl (p0.fb.map Ak))), (11, iD ((p0.fb.length : Int))), (12, iD v1.2)] [(1, .box (Ah p0)), (2001, .vec 3 (v1.1.map AC))]) (fun v2 => mk [(1, oD (.ptr 1 0)), (3, oD (.own 2002))] [(1, .box (Ah p0)), (2002, .vec 3 (v2.map AC))]) (fun _ _ => rfl) ((A2 3 2005 3 rfl rfl rfl).trans (sm [(2001, 2005)] _ _ rfl rfl)) (fun j1 n1 v1 h => ?_) (fun v2 s h hs => ?_)
 ·unfold DS at h
  refine wq rfl (AV rfl (Ab (AK ?_)))
  refine A7 h (fun h => ?_) fun h => ?_
  ·refine Ai (AK (AF (wq rfl (qm rfl ?_))))
   refine Bb h fun v4 a4 b4 h => qi Au CP a4 (Ac b4) rfl (qk B4 rfl (qa rfl (qa rfl (Ab (wq rfl (qw 2 rfl (Ab ?_)))))))
   refine Ay (L := FA N v1 v4) h (fun v5 => mk [(1, oD (.ptr 1 0)), (3, oD (.own 2003)), (4, iD v1.2), (10, pD (.sl (p0.fb.map Ak))), (11, iD ((p0.fb.length : Int))), (12, iD v1.2), (17, iD v4), (18, iD v5.2)] [(1, .box (Ah p0)), (2003, .vec 3 (v5.1.map AC))]) (fun v6 => mk [(1, oD (.ptr 1 0)), (3, oD (.own 2004)), (10, pD (.sl (p0.fb.map Ak))), (11, iD ((p0.fb.length : Int))), (12, iD v1.2)] [(1, .box (Ah p0)), (2004, .vec 3 (v6.map AC))]) (fun _ _ => rfl) (sm [(2003, 2001)] _ _ rfl rfl) (fun j5 n5 v5 h => ?_) (fun v6 s h hs => ?_)
   ·unfold FA at h
    refine wq rfl (AV rfl (Ab (AK ?_)))
    refine A7 h (fun h => ?_) fun h => ?_
    ·refine Ai (AK (AF (wq rfl (qm rfl (qa rfl (Ab (Ag As rfl (qw 3 rfl (Bp Ls Y9 rfl (DQ Fg Fq Ls rfl ?_))))))))))
     refine Gg h fun c8 h => CJ (f := AC) Fg Fg Fq Rh Ls c8 rfl (qa rfl (Ab (Ag As rfl (AP rfl (qm rfl (Ab ?_))))))
     exact sn [(2003, 26)] h
    ·refine AQ ?_
     exact sn [(2004, 2003)] h
   ·refine Af hs (Ag As rfl (AP rfl (qm rfl (Ab ?_))))
    exact sn [(2001, 2004)] h
  ·refine AQ ?_
   exact sn [(2002, 2001)] h
 ·refine Af hs (wp rfl (qf Bf rfl (ql A6 rfl (AO Au rfl (qm rfl (Ab ?_))))))
  refine Ay (L := CE N p0) h (fun v9 => mk [(1, oD (.ptr 1 0)), (3, oD (.own 2006)), (31, iD ((p0.fb.length : Int))), (32, iD v9.2)] [(1, .box (Ah p0)), (2006, .vec 3 (v9.1.map AC))]) (fun v10 => mk [(1, oD (.ptr 1 0)), (3, oD (.own 2007))] [(1, .box (Ah p0)), (2007, .vec 3 (v10.map AC))]) (fun _ _ => rfl) (sm [(2006, 2002)] _ _ rfl rfl) (fun j9 n9 v9 h => ?_) (fun v10 s h hs => ?_)
  ·unfold CE at h
   refine wq rfl (AV rfl (Ab (AK ?_)))
   refine A7 h (fun h => ?_) fun h => ?_
   ·refine Ai (AK (AF (wq rfl (qm rfl (qa rfl (Ab (Ag As rfl (qw 2 rfl (Bp Ls Y9 rfl (DQ Fg Fq Ls rfl ?_))))))))))
    refine Gg h fun c12 h => CJ (f := AC) Fg Fg Fq Rh Ls c12 rfl (qa rfl (Ab (Ag As rfl (AP rfl (qm rfl (Ab ?_))))))
    exact sn [(2006, 39)] h
   ·refine AQ ?_
    exact sn [(2007, 2006)] h
  ·refine Af hs (wp rfl (qf Cs rfl (ql HN rfl (AO DT rfl (qm rfl (Ab ?_))))))
   refine Ay (L := BC N p0) h (fun v13 => mk [(3, oD (.own 2008)), (43, iD ((p0.fc.length : Int))), (44, iD v13.2)] [(2008, .vec 3 (v13.1.map AC))]) (fun v14 => mk [(3, oD (.own 2009))] [(2009, .vec 3 (v14.map AC))]) (fun _ _ => rfl) (sm [(2008, 2007)] _ _ rfl rfl) (fun j13 n13 v13 h => ?_) (fun v14 s h hs => ?_)
   ·unfold BC at h
    refine wq rfl (AV rfl (Ab (AK ?_)))
    refine A7 h (fun h => ?_) fun h => ?_
    ·refine Ai (AK (AF (wq rfl (qm rfl (qa rfl (Ab (Ag As rfl (qw 2 rfl (Bp Ls Y9 rfl (DQ Fg Fq Ls rfl ?_))))))))))
     refine Gg h fun c16 h => CJ (f := AC) Fg Fg Fq Rh Ls c16 rfl (qa rfl (Ab (Ag As rfl (AP rfl (qm rfl (Ab ?_))))))
     exact sn [(2008, 51)] h
    ·refine AQ ?_
     exact sn [(2009, 2008)] h
   ·refine Af hs (wq rfl (qm rfl (qe rfl ?_)))
    obtain rfl := sj h
    refine Af (sm [(1000, 2009)] [(2, oD (.own 1000))] [(1000, .vec 3 (v14.map AC))] rfl rfl) (Aq ?_)
    exact ⟨⟨[_], tm, rfl⟩, ⟨rfl, tv⟩⟩
theorem QK (N : Nat) (p0 : Ad) (r : Ad) (h : Hz N p0 = some r) : An zA 159 [.e (.agg (AL p0))] [(1, r.fd.map Ak), (1, r.fa.map Ak), (1, r.fe.map Ex)] (.e (.agg [.own 0, .own 1, .own 2])) := by
 unfold Hz at h
 refine cw (n := 13) (rs := [.cell 2 49]) Tryz.func159 fun w0 S0 => ?_
 refine wq rfl (qb rfl (qz Fc rfl (Ab (wq rfl (qf Dn rfl (ql A6 rfl ?_))))))
 refine Bq h fun v1 a1 h => Ax [2001] (DZ N p0.fd v1 a1) Wf rfl (qf BO rfl (ql A6 rfl ?_))
 refine Bq h fun v2 a2 h => Ax [2002] (DZ N p0.fa v2 a2) Wf rfl (qf Do rfl (ql IN rfl ?_))
 refine Bq h fun v3 a3 h => Ax [2003] (GJ N p0.fe v3 a3) ZR rfl (Bp Fc Ke rfl (qs A9 rfl (AD (by kernel_rfl) ?_)))
 obtain rfl := sj h
 refine Af (sm [(1000, 2001), (1001, 2002), (1002, 2003)] [(2, oD (.ptr 2 0))] [(2, .box [.own 1000, .own 1001, .own 1002]), (1000, .vec 1 (v1.map Ak)), (1001, .vec 1 (v2.map Ak)), (1002, .vec 1 (v3.map Ex))] rfl rfl) (Aq ?_)
 exact ⟨⟨[_], ⟨.cellN _ _ _ _ _ _ _ rfl rfl Ca A9 rfl rfl (Kn rfl), tv⟩, rfl⟩, ⟨rfl, rfl, rfl, tv⟩⟩
theorem Nh (N : Nat) (p0 : Am) (r : Bool) (h : GS N p0 = some r) : An zA 176 [.e (.agg (Bg p0))] [] (bD r) := by
 unfold GS at h
 refine cw (n := 11) (rs := [.tmp 2]) Tryz.func176 fun w0 S0 => ?_
 refine wq rfl (qb rfl (qe rfl ?_))
 refine AN h (fun v1 => mk [(2, bD v1)] []) (fun j1 h => ?_) (fun v1 h => ?_)
 ·refine Ag As rfl (qf G5 rfl (ql B4 rfl (B9 rfl (qm rfl ?_))))
  refine EM 6 h rfl (fun h => ?_) fun h => ?_
  ·refine qw 3 rfl (qp rfl (qe rfl ?_))
   exact sn [] h
  ·refine qf G5 rfl (ql B4 rfl (B9 rfl (qp rfl (qe rfl ?_))))
   exact sn [] h
 ·obtain rfl := sj h
  refine Af (sm [] [(2, bD v1)] [] rfl rfl) (Aq ?_)
  exact ⟨⟨[_], tm, rfl⟩, tv⟩
theorem RW (N : Nat) (p0 : Aa) (p1 : Ad) (p2 : Ae) (r : Bool × (List Int) × (List Int)) (h : Jv N p0 p1 p2 = some r) : B2 zA 160 [.e (.agg (Ah p0)), oD (.ptr 90000 0), .e (.agg (DX p2))] [(.box [.own 90001, .own 90002, .own 90003], .box [.own 90001, .own 90002, .own 90003]), (.vec 1 (p1.fd.map Ak), .vec 1 (p1.fd.map Ak)), (.vec 1 (p1.fa.map Ak), .vec 1 (r.2.1.map Ak)), (.vec 1 (p1.fe.map Ex), .vec 1 (r.2.2.map Ex))] [] (bD r.1) := by
 unfold Jv at h
 refine Bz (n := 70) (rs := [.tmp 6]) Tryz.func160 rfl rfl rfl (D8 rfl) (D8 rfl) rfl rfl (D8 rfl) rfl (D8 rfl) fun w0 S0 GL => ?_
 refine Af (sm [] [(0, .e (.agg (Ah p0))), (1, oD (.ptr 90000 0)), (2, .e (.agg (DX p2)))] [(90000, .box [.own 90001, .own 90002, .own 90003]), (90001, .vec 1 (p1.fd.map Ak)), (90002, .vec 1 (p1.fa.map Ak)), (90003, .vec 1 (p1.fe.map Ex))] rfl rfl) (wq rfl (qb rfl (qb rfl (qa rfl (Ab (AK ?_))))))
 refine AN h (fun v1 => mk [(1, oD (.ptr 90000 0)), (3, oD (.ptr 3 0)), (5, oD (.ptr 5 0)), (30, bD v1)] [(3, .box (Ah p0)), (5, .box (DX p2)), (90000, .box [.own 90001, .own 90002, .own 90003]), (90001, .vec 1 (p1.fd.map Ak)), (90002, .vec 1 (p1.fa.map Ak)), (90003, .vec 1 (p1.fe.map Ex))]) (fun j1 h => ?_) (fun v1 h => ?_)
 ·refine Ag As rfl (qm rfl (QN rfl (qf BO rfl (ql A6 rfl (qf F8 rfl (ql B4 rfl ?_))))))
  refine Bb h fun v2 a2 b2 h => qI Au CP a2 (Ac b2) rfl (qj B4 (Ac b2) rfl (Df rfl (qm rfl ?_)))
  refine EM 18 h rfl (fun h => ?_) fun h => ?_
  ·refine qw 11 rfl (qp rfl (AD (by kernel_rfl) ?_))
   exact sn [] h
  ·refine qm rfl (QN rfl (qf Dn rfl (ql A6 rfl (qf F8 rfl (ql B4 rfl ?_)))))
   refine Bb h fun v4 a4 b4 h => qI Au CP a4 (Ac b4) rfl (qj B4 (Ac b4) rfl (qf Ij rfl (ql B4 rfl (B9 rfl (qp rfl (AD (by kernel_rfl) ?_))))))
   exact sn [] h
 ·refine A7 h (fun h => ?_) fun h => ?_
  ·refine wq rfl (qe rfl ?_)
   obtain rfl := sj h
   refine Af (sm [] [(6, bD false)] [(90000, .box [.own 90001, .own 90002, .own 90003]), (90001, .vec 1 (p1.fd.map Ak)), (90002, .vec 1 (p1.fa.map Ak)), (90003, .vec 1 (p1.fe.map Ex))] rfl rfl) (Aq ?_)
   exact ⟨⟨[_], tm, rfl⟩, ⟨rfl, rfl, rfl, rfl, tv⟩, tv⟩
  ·refine Ai (wq rfl (qm rfl (QN rfl (qf BO rfl (ql A6 rfl (qf F8 rfl (ql B4 rfl (qf Ij rfl (ql B4 rfl ?_)))))))))
   refine Bb h fun v6 a6 b6 h => qI Au CP a6 (Ac b6) rfl ?_
   refine A8 rfl rfl rfl rfl (Ac b6) rfl CP rfl (D8 rfl) (A5 Ak p1.fa _ p2.fo) ?_
   refine AD (by kernel_rfl) (wp rfl (qf Cs rfl (ql HN rfl (AO DT rfl (qm rfl (Ab ?_))))))
   refine Ay (L := EK N p0 p2) h (fun v7 => mk [(1, oD (.ptr 90000 0)), (5, oD (.ptr 5 0)), (41, pD (.sl (p0.fc.map AT))), (42, iD ((p0.fc.length : Int))), (43, iD v7.2)] [(5, .box (DX p2)), (90000, .box [.own 90001, .own 90002, .own 90003]), (90001, .vec 1 (p1.fd.map Ak)), (90002, .vec 1 ((p1.fa.set ((p2.fh).toNat) p2.fo).map Ak)), (90003, .vec 1 (v7.1.map Ex))]) (fun v8 => mk [] [(90000, .box [.own 90001, .own 90002, .own 90003]), (90001, .vec 1 (p1.fd.map Ak)), (90002, .vec 1 ((p1.fa.set ((p2.fh).toNat) p2.fo).map Ak)), (90003, .vec 1 (v8.map Ex))]) (fun _ _ => rfl) (sm [] _ _ rfl rfl) (fun j7 n7 v7 h => ?_) (fun v8 s h hs => ?_)
   ·unfold EK at h
    refine wq rfl (AV rfl (Ab (AK ?_)))
    refine A7 h (fun h => ?_) fun h => ?_
    ·refine Ai ?_
     refine AN h (fun v10 => mk [(1, oD (.ptr 90000 0)), (5, oD (.ptr 5 0)), (41, pD (.sl (p0.fc.map AT))), (42, iD ((p0.fc.length : Int))), (43, iD v7.2)] [(5, .box (DX p2)), (90000, .box [.own 90001, .own 90002, .own 90003]), (90001, .vec 1 (p1.fd.map Ak)), (90002, .vec 1 ((p1.fa.set ((p2.fh).toNat) p2.fo).map Ak)), (90003, .vec 1 (v10.map Ex))]) (fun j10 h => ?_) (fun v10 h => ?_)
     ·refine AF (wq rfl (qm rfl ?_))
      refine Bb h fun v11 a11 b11 h => qi DT DM a11 (Ac b11) rfl (qK Hy DM rfl (qz JS rfl (qa rfl (qs DM rfl (Ab ?_)))))
      refine AN h (fun v12 => mk [(1, oD (.ptr 90000 0)), (5, oD (.ptr 5 0)), (7, iD v7.2), (41, pD (.sl (p0.fc.map AT))), (42, iD ((p0.fc.length : Int))), (43, iD v7.2), (56, bD v12)] [(5, .box (DX p2)), (90000, .box [.own 90001, .own 90002, .own 90003]), (90001, .vec 1 (p1.fd.map Ak)), (90002, .vec 1 ((p1.fa.set ((p2.fh).toNat) p2.fo).map Ak)), (90003, .vec 1 (v7.1.map Ex))]) (fun j12 h => ?_) (fun v12 h => ?_)
      ·refine Ag As rfl (qf DA rfl (ql B4 rfl (qf F8 rfl (ql B4 rfl (B9 rfl (qm rfl ?_))))))
       refine EM 53 h rfl (fun h => ?_) fun h => ?_
       ·refine qL Hy DM rfl ?_
        refine Bq h fun v14 a14 h => Ax [] (Nh N v11 v14 a14) ZJ rfl (qp rfl (Ab ?_))
        exact sn [] h
       ·refine qw 2 rfl (qp rfl (Ab ?_))
        exact sn [] h
      ·refine A7 h (fun h => ?_) fun h => ?_
       ·refine Ag As rfl (qm rfl (QN rfl (qf Do rfl (ql IN rfl (qm rfl ?_)))))
        refine Bb h fun v16 a16 b16 h => qI EF Fh a16 (Ac b16) rfl (qj JE (Ac b16) rfl (qf Ij rfl (ql B4 rfl ?_)))
        refine Gg h fun c17 h => I5 rfl c17 (X0 rfl ?_)
        refine Bb h fun v18 a18 b18 h => qI EF Fh a18 (Ac b18) rfl ?_
        refine A8 rfl rfl rfl rfl (Ac b18) rfl Fh rfl (D8 rfl) (A5 Ex v7.1 _ ((QE .u8 v16 ((CX .u8 1 p2.fo))))) ?_
        refine AD (by kernel_rfl) ?_
        exact sn [] h
       ·refine Ai ?_
        exact sn [] h
     ·refine Ag As rfl (AP rfl (qm rfl (Ab ?_)))
      exact sn [] h
    ·refine AQ ?_
     exact sn [] h
   ·refine Af hs (wq rfl (qe rfl ?_))
    obtain rfl := sj h
    refine Af (sm [] [(6, bD true)] [(90000, .box [.own 90001, .own 90002, .own 90003]), (90001, .vec 1 (p1.fd.map Ak)), (90002, .vec 1 ((p1.fa.set ((p2.fh).toNat) p2.fo).map Ak)), (90003, .vec 1 (v8.map Ex))] rfl rfl) (Aq ?_)
    exact ⟨⟨[_], tm, rfl⟩, ⟨rfl, rfl, rfl, rfl, tv⟩, tv⟩
theorem PC (N : Nat) (p0 : Ad) (p1 : Int) (r : Int) (h : Hl N p0 p1 = some r) : An zA 177 [.e (.agg (AL p0)), iD p1] [] (pD (.val (.int .u8 r))) := by
 unfold Hl at h
 refine cw (n := 27) (rs := [.tmp 4]) Tryz.func177 fun w0 S0 => ?_
 refine wq rfl (qb rfl (qa rfl (Ab (wq rfl (qf Dn rfl (ql A6 rfl (qm rfl ?_)))))))
 refine Bb h fun v1 a1 b1 h => qi Au CP a1 (Ac b1) rfl (qk B4 rfl ?_)
 refine Gg h fun c2 h => I5 rfl c2 (qe rfl ?_)
 refine AN h (fun v3 => mk [(5, pD (.val (.int .u8 v3)))] []) (fun j3 h => ?_) (fun v3 h => ?_)
 ·refine wq rfl (qf BO rfl (ql A6 rfl (qm rfl ?_)))
  refine Bb h fun v4 a4 b4 h => qi Au CP a4 (Ac b4) rfl (qk B4 rfl (Df rfl (Ab ?_)))
  refine A7 h (fun h => ?_) fun h => ?_
  ·refine Ag As rfl (qm rfl (qf BO rfl (ql A6 rfl (qm rfl ?_))))
   refine Bb h fun v6 a6 b6 h => qi Au CP a6 (Ac b6) rfl (qk B4 rfl ?_)
   refine Gg h fun c7 h => I5 rfl c7 (X0 rfl (qe rfl ?_))
   exact sn [] h
  ·refine Ai ?_
   exact sn [] h
 ·refine wq rfl (qm rfl (qe rfl ?_))
  obtain rfl := sj h
  refine Af (sm [] [(4, pD (.val (.int .u8 v3)))] [] rfl rfl) (Aq ?_)
  exact ⟨⟨[_], tm, rfl⟩, tv⟩
theorem KE (N : Nat) (p0 : Int) (r : Int) (h : DJ N p0 = some r) : An zA 180 [pD (.val (.int .u8 p0))] [] (iD r) := by
 unfold DJ at h
 refine cw (n := 6) (rs := [.tmp 2]) Tryz.func180 fun w0 S0 => ?_
 refine wq rfl (qa rfl (Ab (wq rfl (qm rfl ?_))))
 refine Bq h fun v1 a1 h => Jl (.p rfl) rfl rfl S8 a1 ?_
 refine Id Yv VV rfl (qe rfl ?_)
 obtain rfl := sj h
 refine Af (sm [] [(2, iD ((wI .i64 v1)))] [] rfl rfl) (Aq ?_)
 exact ⟨⟨[_], tm, rfl⟩, tv⟩
theorem Oo (N : Nat) (p0 : Am) (p1 : Int) (p2 : Int) (r : Bool) (h : Hc N p0 p1 p2 = some r) : An zA 178 [.e (.agg (Bg p0)), pD (.val (.int .u8 p1)), iD p2] [] (bD r) := by
 unfold Hc at h
 refine cw (n := 25) (rs := [.tmp 6]) Tryz.func178 fun w0 S0 => ?_
 refine wq rfl (qb rfl (qa rfl (Ab (wp rfl (qm rfl (qe rfl ?_))))))
 refine Ay (L := Ei N p0 p2) h (fun v1 => mk [(2, iD p2), (3, oD (.ptr 3 0)), (7, pD (.val (.int .u8 v1)))] [(3, .box (Bg p0))]) (fun v2 => mk [] []) (fun _ _ => rfl) (sm [] _ _ rfl rfl) (fun j1 n1 v1 h => ?_) (fun v2 s h hs => ?_)
 ·unfold Ei at h
  refine wp rfl (qm rfl (BB rfl (Ab ?_)))
  refine A7 h (fun h => ?_) fun h => ?_
  ·refine Ai (AK (AF (wq rfl (qf F5 rfl (ql Jf rfl (qm rfl ?_))))))
   refine Bq h fun v4 a4 h => Ax [] (KE N v1 v4 a4) bQ rfl ?_
   refine Bb h fun v5 a5 b5 h => qi E5 KF a5 (Ac b5) rfl (qk Pp rfl (qm rfl ?_))
   refine Bb h fun v6 a6 b6 h => qi F1 Qs a6 (Ac b6) rfl (qk Ue rfl (Cc rfl (AD (by kernel_rfl) ?_)))
   refine A7 h (fun h => ?_) fun h => ?_
   ·refine wq rfl (qe rfl ?_)
    obtain rfl := sj h
    refine Af (sm [] [(6, bD false)] [] rfl rfl) (Aq ?_)
    exact ⟨⟨[_], tm, rfl⟩, tv⟩
   ·refine Ai (Ag As rfl (qw 2 rfl (Cy rfl (IT rfl (qe rfl ?_)))))
    exact sn [] h
  ·refine AQ ?_
   exact sn [] h
 ·refine Af hs (wq rfl (qe rfl ?_))
  obtain rfl := sj h
  refine Af (sm [] [(6, bD true)] [] rfl rfl) (Aq ?_)
  exact ⟨⟨[_], tm, rfl⟩, tv⟩
theorem R4 (N : Nat) (p0 : Aa) (p1 : Ad) (p2 : Int) (r : Bool × (List Int)) (h : H3 N p0 p1 p2 = some r) : B2 zA 161 [.e (.agg (Ah p0)), oD (.ptr 90000 0), iD p2] [(.box [.own 90001, .own 90002, .own 90003], .box [.own 90001, .own 90002, .own 90003]), (.vec 1 (p1.fd.map Ak), .vec 1 (p1.fd.map Ak)), (.vec 1 (p1.fa.map Ak), .vec 1 (p1.fa.map Ak)), (.vec 1 (p1.fe.map Ex), .vec 1 (r.2.map Ex))] [] (bD r.1) := by
 unfold H3 at h
 refine Bz (n := 68) (rs := [.tmp 6]) Tryz.func161 rfl rfl rfl (D8 rfl) (D8 rfl) rfl rfl (D8 rfl) rfl (D8 rfl) fun w0 S0 GL => ?_
 refine Af (sm [] [(0, .e (.agg (Ah p0))), (1, oD (.ptr 90000 0)), (2, iD p2)] [(90000, .box [.own 90001, .own 90002, .own 90003]), (90001, .vec 1 (p1.fd.map Ak)), (90002, .vec 1 (p1.fa.map Ak)), (90003, .vec 1 (p1.fe.map Ex))] rfl rfl) (wq rfl (qb rfl (qa rfl (Ab (wq rfl (qf Cs rfl (ql HN rfl (qm rfl ?_))))))))
 refine Bb h fun v1 a1 b1 h => qi DT DM a1 (Ac b1) rfl (qK Hy DM rfl (qz JS rfl (qs DM rfl (Ab (wp rfl (qL Hy DM rfl ?_))))))
 refine Bq h fun v2 a2 h => Ax [] (Nh N v1 v2 a2) ZJ rfl (Cc rfl (Ab ?_))
 refine A7 h (fun h => ?_) fun h => ?_
 ·refine wq rfl (qe rfl ?_)
  obtain rfl := sj h
  refine Af (sm [] [(6, bD false)] [(90000, .box [.own 90001, .own 90002, .own 90003]), (90001, .vec 1 (p1.fd.map Ak)), (90002, .vec 1 (p1.fa.map Ak)), (90003, .vec 1 (p1.fe.map Ex))] rfl rfl) (Aq ?_)
  exact ⟨⟨[_], tm, rfl⟩, ⟨rfl, rfl, rfl, rfl, tv⟩, tv⟩
 ·refine Ai (wq rfl (qm rfl (QN rfl (qL Ca A9 rfl (qf DA rfl (ql B4 rfl ?_))))))
  refine Bq h fun v4 a4 h => D4 [] [90001, 90002, 90003] (PC N p1 v1.fg v4 a4) bU Cm rfl (qa rfl (AD (by kernel_rfl) (wq rfl (qm rfl (QN rfl (qf Do rfl (ql IN rfl (qm rfl ?_))))))))
  refine Bb h fun v5 a5 b5 h => qI EF Fh a5 (Ac b5) rfl (qj JE (Ac b5) rfl (qm rfl (I3 rfl (qa rfl (Ab (AK ?_))))))
  refine AN h (fun v6 => mk [(1, oD (.ptr 90000 0)), (2, iD p2), (8, pD (.val (.int .u8 v4))), (60, bD v6)] [(90000, .box [.own 90001, .own 90002, .own 90003]), (90001, .vec 1 (p1.fd.map Ak)), (90002, .vec 1 (p1.fa.map Ak)), (90003, .vec 1 (p1.fe.map Ex))]) (fun j6 h => ?_) (fun v6 h => ?_)
  ·refine Ag As rfl (qm rfl (QN rfl (qf Do rfl (ql IN rfl (qm rfl ?_)))))
   refine Bb h fun v7 a7 b7 h => qI EF Fh a7 (Ac b7) rfl (qj JE (Ac b7) rfl (qm rfl (B9 rfl (qm rfl ?_))))
   refine EM 42 h rfl (fun h => ?_) fun h => ?_
   ·refine qw 4 rfl (qu rfl (qu rfl (qu rfl (qu rfl (qu rfl (qu rfl (qu rfl (qu rfl (qu rfl (qu rfl (qu rfl (qu rfl (qn rfl (qp rfl (AD (by kernel_rfl) ?_)))))))))))))))
    exact sn [] h
   ·refine qf G5 rfl (ql B4 rfl (B9 rfl (qm rfl ?_)))
    refine EM 46 h rfl (fun h => ?_) fun h => ?_
    ·refine qL Hy DM rfl (qw 2 rfl (QN rfl (qf Dn rfl (ql A6 rfl (qf DA rfl (ql B4 rfl ?_))))))
     refine Bb h fun v10 a10 b10 h => qI Au CP a10 (Ac b10) rfl (qj B4 (Ac b10) rfl ?_)
     refine Bq h fun v11 a11 h => Ax [] (Oo N v1 ((Dy .u8 v5 v4)) v10 v11 a11) cM rfl (Cc rfl (qp rfl (qp rfl (AD (by kernel_rfl) ?_))))
     exact sn [] h
    ·refine qw 12 rfl (qp rfl (qp rfl (AD (by kernel_rfl) ?_)))
     exact sn [] h
  ·refine A7 h (fun h => ?_) fun h => ?_
   ·refine wq rfl (qe rfl ?_)
    obtain rfl := sj h
    refine Af (sm [] [(6, bD false)] [(90000, .box [.own 90001, .own 90002, .own 90003]), (90001, .vec 1 (p1.fd.map Ak)), (90002, .vec 1 (p1.fa.map Ak)), (90003, .vec 1 (p1.fe.map Ex))] rfl rfl) (Aq ?_)
    exact ⟨⟨[_], tm, rfl⟩, ⟨rfl, rfl, rfl, rfl, tv⟩, tv⟩
   ·refine Ai (wq rfl (qm rfl (QN rfl (qf Do rfl (ql IN rfl (qw 2 rfl ?_))))))
    refine Bb h fun v13 a13 b13 h => qI EF Fh a13 (Ac b13) rfl ?_
    refine A8 rfl rfl rfl rfl (Ac b13) rfl Fh rfl (D8 rfl) (A5 Ex p1.fe _ v4) ?_
    refine Ab (wq rfl (qe rfl ?_))
    obtain rfl := sj h
    refine Af (sm [] [(6, bD true)] [(90000, .box [.own 90001, .own 90002, .own 90003]), (90001, .vec 1 (p1.fd.map Ak)), (90002, .vec 1 (p1.fa.map Ak)), (90003, .vec 1 ((p1.fe.set ((p2).toNat) v4).map Ex))] rfl rfl) (Aq ?_)
    exact ⟨⟨[_], tm, rfl⟩, ⟨rfl, rfl, rfl, rfl, tv⟩, tv⟩
theorem Ob (N : Nat) (p0 : Aa) (p1 : Ad) (p2 : Ae) (r : Ad × Bool) (h : GF N p0 p1 p2 = some r) : An zA 127 [.e (.agg (Ah p0)), .e (.agg (AL p1)), .e (.agg (DX p2))] [(1, r.1.fd.map Ak), (1, r.1.fa.map Ak), (1, r.1.fe.map Ex)] (.tup [.agg [.own 0, .own 1, .own 2], .one (.pure (.val (.bool r.2)))]) := by
 unfold GF at h
 refine cw (n := 51) (rs := [.cell 6 49, .tmp 7]) Tryz.func127 fun w0 S0 => ?_
 refine wq rfl (qb rfl (qb rfl (qb rfl (qz Fc rfl (qa rfl (Ab (wq rfl (qL Ca A9 rfl ?_))))))))
 refine Bq h fun v1 a1 h => Ax [2001, 2002, 2003] (QK N p1 v1 a1) bh rfl (qz Fc rfl (qs A9 rfl (Ab (wp rfl (qf G7 rfl (ql B4 rfl (Ab (AF (wq rfl (B9 rfl (qe rfl ?_)))))))))))
 refine A7 h (fun h => ?_) fun h => ?_
 ·refine wq rfl (qL Ca A9 rfl (qL Dk Cg rfl (qL Kz Fq rfl ?_)))
  refine Bq h fun v3 a3 h => D0 (ds0 := [_, _, _]) [8, 2001, 2002, 2003] [] [false, false, true, true] (RW N p0 v1 p2 v3 a3) (.p rfl) cy rfl ⟨rfl, rfl, rfl, tv⟩ rfl rfl (by decide) ⟨rfl, rfl, rfl, rfl, tv⟩ rfl (Bi rfl) tv ⟨(fun _ => rfl), (fun _ => rfl), (fun h => by cases h), (fun h => by cases h), tv⟩ rfl rfl rfl ?_
  refine qs A9 rfl (qa rfl (AD (by kernel_rfl) ?_))
  obtain rfl := sj h
  refine Af (sm [(1000, 2001), (1001, 2002), (1002, 2003)] [(6, oD (.ptr 6 0)), (7, bD v3.1)] [(6, .box [.own 1000, .own 1001, .own 1002]), (1000, .vec 1 (v1.fd.map Ak)), (1001, .vec 1 (v3.2.1.map Ak)), (1002, .vec 1 (v3.2.2.map Ex))] rfl rfl) (Aq ?_)
  exact ⟨⟨[_, _], ⟨.cellN _ _ _ _ _ _ _ rfl rfl Ca A9 rfl rfl (Kn rfl), tm⟩, rfl⟩, ⟨rfl, rfl, rfl, tv⟩⟩
 ·refine wq rfl (B9 rfl (qe rfl ?_))
  refine A7 h (fun h => ?_) fun h => ?_
  ·refine wq rfl (qL Ca A9 rfl (qL Dk Cg rfl (qf F8 rfl (ql B4 rfl ?_))))
   refine Bq h fun v5 a5 h => D0 (ds0 := [_, _, _]) [8, 2001, 2002, 2003] [] [false, false, false, true] (R4 N p0 v1 p2.fh v5 a5) (.p rfl) bq rfl ⟨rfl, rfl, rfl, tv⟩ rfl rfl (by decide) ⟨rfl, rfl, rfl, rfl, tv⟩ rfl (Bi rfl) tv ⟨(fun _ => rfl), (fun _ => rfl), (fun _ => rfl), (fun h => by cases h), tv⟩ rfl rfl rfl ?_
   refine qs A9 rfl (qa rfl (AD (by kernel_rfl) ?_))
   obtain rfl := sj h
   refine Af (sm [(1000, 2001), (1001, 2002), (1002, 2003)] [(6, oD (.ptr 6 0)), (7, bD v5.1)] [(6, .box [.own 1000, .own 1001, .own 1002]), (1000, .vec 1 (v1.fd.map Ak)), (1001, .vec 1 (v1.fa.map Ak)), (1002, .vec 1 (v5.2.map Ex))] rfl rfl) (Aq ?_)
   exact ⟨⟨[_, _], ⟨.cellN _ _ _ _ _ _ _ rfl rfl Ca A9 rfl rfl (Kn rfl), tm⟩, rfl⟩, ⟨rfl, rfl, rfl, tv⟩⟩
  ·refine Ai (wq rfl (qf BO rfl (ql A6 rfl (qf F8 rfl (ql B4 rfl ?_)))))
   refine Bb h fun v6 a6 b6 h => qI Au CP a6 (Ac b6) rfl (qj B4 (Ac b6) rfl (qa rfl (Ab (wp rfl (qm rfl (AV rfl (Ab ?_)))))))
   refine A7 h (fun h => ?_) fun h => ?_
   ·refine wq rfl (qL Ca A9 rfl (qs A9 rfl (qe rfl ?_)))
    obtain rfl := sj h
    refine Af (sm [(1000, 2001), (1001, 2002), (1002, 2003)] [(6, oD (.ptr 6 0)), (7, bD false)] [(6, .box [.own 1000, .own 1001, .own 1002]), (1000, .vec 1 (v1.fd.map Ak)), (1001, .vec 1 (v1.fa.map Ak)), (1002, .vec 1 (v1.fe.map Ex))] rfl rfl) (Aq ?_)
    exact ⟨⟨[_, _], ⟨.cellN _ _ _ _ _ _ _ rfl rfl Ca A9 rfl rfl (Kn rfl), tm⟩, rfl⟩, ⟨rfl, rfl, rfl, tv⟩⟩
   ·refine Ai (wq rfl (qf BO rfl (ql A6 rfl (qf F8 rfl (ql B4 rfl ?_)))))
    refine Bb h fun v8 a8 b8 h => qI Au CP a8 (Ac b8) rfl ?_
    refine A8 rfl rfl rfl rfl (Ac b8) rfl CP rfl (D8 rfl) (A5 Ak v1.fa _ ((-1))) ?_
    refine Ab ?_
    refine AN h (fun v9 => mk [(6, oD (.ptr 6 0)), (8, oD (.ptr 8 0))] [(6, .box [.pure (.nil0), .pure (.nil0), .pure (.nil0)]), (8, .box [.own 2004, .own 2005, .own 2006]), (2004, .vec 1 (v9.map Ak)), (2005, .vec 1 ((v1.fa.set ((p2.fh).toNat) ((-1))).map Ak)), (2006, .vec 1 (v1.fe.map Ex))]) (fun j9 h => ?_) (fun v9 h => ?_)
    ·refine wq rfl (qf G7 rfl (ql B4 rfl (B9 rfl (Ab ?_))))
     refine A7 h (fun h => ?_) fun h => ?_
     ·refine Ag As rfl (qf Dn rfl (ql A6 rfl (qf F8 rfl (ql B4 rfl (qm rfl ?_)))))
      refine Bb h fun v11 a11 b11 h => qI Au CP a11 (Ac b11) rfl ?_
      refine A8 rfl rfl rfl rfl (Ac b11) rfl CP rfl (D8 rfl) (A5 Ak v1.fd _ v6) ?_
      refine Ab ?_
      exact sn [(2004, 2001), (2005, 2002), (2006, 2003)] h
     ·refine Ai ?_
      exact sn [(2004, 2001), (2005, 2002), (2006, 2003)] h
    ·refine wq rfl (qL Ca A9 rfl (qs A9 rfl (qe rfl ?_)))
     obtain rfl := sj h
     refine Af (sm [(1000, 2004), (1001, 2005), (1002, 2006)] [(6, oD (.ptr 6 0)), (7, bD true)] [(6, .box [.own 1000, .own 1001, .own 1002]), (1000, .vec 1 (v9.map Ak)), (1001, .vec 1 ((v1.fa.set ((p2.fh).toNat) ((-1))).map Ak)), (1002, .vec 1 (v1.fe.map Ex))] rfl rfl) (Aq ?_)
     exact ⟨⟨[_, _], ⟨.cellN _ _ _ _ _ _ _ rfl rfl Ca A9 rfl rfl (Kn rfl), tm⟩, rfl⟩, ⟨rfl, rfl, rfl, tv⟩⟩
theorem OM (N : Nat) (p0 : Ae) (p1 : List Int) (p2 : List Int) (p3 : List Int) (p4 : List Am) (p5 : List Int) (p6 : List Int) (p7 : List Int) (r : Bool) (h : Eg N p0 p1 p2 p3 p4 p5 p6 p7 = some r) : An zA 126 [.e (.agg (DX p0)), oD (.rop [.sl (p1.map Ak), .sl (p2.map Ak), .sl (p3.map Ak), .sl (p4.map AT)]), oD (.rop [.sl (p5.map Ak), .sl (p6.map Ak), .sl (p7.map Ex)])] [] (bD r) := by
 unfold Eg at h
 refine cw (n := 16) (rs := [.tmp 4]) Tryz.func126 fun w0 S0 => ?_
 refine wq rfl (qb rfl (qa rfl (Ab (wq rfl (qK Dk Cg rfl (qK Ca A9 rfl (qL Kz Fq rfl ?_)))))))
 refine Bq h fun v1 a1 h => Ax [2001, 2002, 2003] (Ob N ((Aa.mk p1 p2 p3 p4)) ((Ad.mk p5 p6 p7)) p0 v1 a1) Zq rfl (qm rfl (qx rfl (qx rfl (qz Fc rfl (qs A9 rfl (qa rfl (Ab (wq rfl (qm rfl (Cc rfl (qe rfl ?_)))))))))))
 obtain rfl := sj h
 refine Af (sm [] [(4, bD ((!v1.2)))] [] rfl rfl) (Aq ?_)
 exact ⟨⟨[_], tm, rfl⟩, tv⟩
theorem HZ (N : Nat) (p0 : List Ae) (p1 : Ae → Option Bool) (r : Int) (h : B0 N p0 p1 = some r) : An zA 158 [pD (.sl (p0.map AC)), oD (.clo (BS (L7 true AC) tB p1))] [] (iD r) := by
 unfold B0 at h
 refine cw (n := 19) (rs := [.tmp 4]) Tryz.func158 fun w0 S0 => ?_
 refine wq rfl (qa rfl (Ab (wp rfl (qm rfl (AO Fg rfl (qm rfl (Ab ?_)))))))
 refine Ay (L := Bc N p0 p1) h (fun v1 => mk [(0, pD (.sl (p0.map AC))), (1, oD (.clo (BS (L7 true AC) tB p1))), (7, iD ((p0.length : Int))), (8, iD v1)] []) (fun v2 => mk [] []) (fun _ _ => rfl) (sm [] _ _ rfl rfl) (fun j1 n1 v1 h => ?_) (fun v2 s h hs => ?_)
 ·unfold Bc at h
  refine wq rfl (AV rfl (Ab (AK ?_)))
  refine A7 h (fun h => ?_) fun h => ?_
  ·refine Ai (AK (AF (wq rfl (qm rfl (qa rfl (Ab (wq rfl (qw 3 rfl ?_))))))))
   refine Bb h fun v4 a4 b4 h => qi Fg Fq a4 (Ac b4) rfl (qK Kz Fq rfl ?_)
   refine Bq h fun v5 a5 h => Fk (ds0 := [_]) (ar := (L7 true AC) v4) (.p rfl) rfl rfl ⟨rfl, tv⟩ rfl rfl rfl (Fi (Lw _ _ PP) a5) ?_
   refine Ab ?_
   refine A7 h (fun h => ?_) fun h => ?_
   ·refine wq rfl (qm rfl (qe rfl ?_))
    obtain rfl := sj h
    refine Af (sm [] [(4, iD v1)] [] rfl rfl) (Aq ?_)
    exact ⟨⟨[_], tm, rfl⟩, tv⟩
   ·refine Ai (Ag As rfl (AP rfl (qm rfl (Ab ?_))))
    exact sn [] h
  ·refine AQ ?_
   exact sn [] h
 ·refine Af hs (wq rfl (qe rfl ?_))
  obtain rfl := sj h
  refine Af (sm [] [(4, iD ((-1)))] [] rfl rfl) (Aq ?_)
  exact ⟨⟨[_], tm, rfl⟩, tv⟩
theorem HU (N : Nat) (p0 : List Ae) (p1 : Ae → Option Bool) (r : Nat × (List Ae)) (h : BW N p0 p1 = some r) : B2 zA 124 [oD (.own 90000), oD (.clo (BS (L7 true AC) tB p1))] [(.vec 3 (p0.map AC), .vec 3 (r.2.map AC))] [] (oD (.view 90000 3 0 r.1)) := by
 unfold BW at h
 refine Bz (n := 42) (rs := [.tmp 4]) Tryz.func124 rfl rfl rfl (D8 rfl) (D8 rfl) rfl rfl (D8 rfl) rfl (D8 rfl) fun w0 S0 GL => ?_
 refine Af (sm [] [(0, oD (.own 90000)), (1, oD (.clo (BS (L7 true AC) tB p1)))] [(90000, .vec 3 (p0.map AC))] rfl rfl) (wq rfl (qa rfl (Ab (wq rfl (qw 2 rfl ?_)))))
 refine Bq h fun v1 a1 h => D4 [] [90000] (HZ N p0 p1 v1 a1) bW Cm rfl (qa rfl (Ab (wp rfl (qm rfl (B9 rfl (Ab ?_))))))
 refine A7 h (fun h => ?_) fun h => ?_
 ·refine wq rfl (qm rfl (qe rfl ?_))
  obtain rfl := sj h
  refine Af ((U7 AC p0 4 90000 3 rfl rfl).trans (sm [] [(4, oD (.view 90000 3 0 p0.length))] [(90000, .vec 3 (p0.map AC))] rfl rfl)) (Aq ?_)
  exact ⟨⟨[_], tm, rfl⟩, ⟨rfl, tv⟩, tv⟩
 ·refine Ai (wp rfl (qm rfl (AP rfl (qe rfl ?_))))
  refine Ay (L := AZ N p1) h (fun v3 => mk [(0, oD (.own 90000)), (1, oD (.clo (BS (L7 true AC) tB p1))), (5, iD v3.2.1), (6, iD v3.2.2)] [(90000, .vec 3 (v3.1.map AC))]) (fun v4 => mk [(0, oD (.own 90000)), (5, iD v4.2)] [(90000, .vec 3 (v4.1.map AC))]) (fun _ _ => rfl) (sm [] _ _ rfl rfl) (fun j3 n3 v3 h => ?_) (fun v4 s h hs => ?_)
  ·unfold AZ at h
   refine wp rfl (qw 2 rfl (FG Fg rfl (AV rfl (Ab ?_))))
   refine A7 h (fun h => ?_) fun h => ?_
   ·refine Ai ?_
    refine AN h (fun v6 => mk [(0, oD (.own 90000)), (1, oD (.clo (BS (L7 true AC) tB p1))), (5, iD v6.2), (6, iD v3.2.2)] [(90000, .vec 3 (v6.1.map AC))]) (fun j6 h => ?_) (fun v6 h => ?_)
    ·refine AF (wq rfl (qw 2 rfl ?_))
     refine Bb h fun v7 a7 b7 h => qI Fg Fq a7 (Ac b7) rfl (qJ Kz Fq (Ac b7) rfl (qz Ls rfl (qs Fq rfl (Ab (wq rfl (qm rfl (qL Kz Fq rfl ?_)))))))
     refine Bq h fun v8 a8 h => Fk (ds0 := [_]) (ar := (L7 true AC) v7) (.p rfl) rfl rfl ⟨rfl, tv⟩ rfl rfl rfl (Fi (Lw _ _ PP) a8) ?_
     refine Cc rfl (Ab ?_)
     refine A7 h (fun h => ?_) fun h => ?_
     ·refine wq rfl (qw 2 rfl (qL Kz Fq rfl ?_))
      refine Bb h fun v10 a10 b10 h => qI Fg Fq a10 (Ac b10) rfl ?_
      refine A8 rfl rfl rfl rfl (Ac b10) rfl Fq rfl (D8 rfl) (A5 AC v3.1 _ v7) ?_
      refine Ab (Ag As rfl (qm rfl (AP rfl (qe rfl ?_))))
      exact sn [] h
     ·refine Ai ?_
      exact sn [] h
    ·refine Ag As rfl (qm rfl (AP rfl (qe rfl ?_)))
     exact sn [] h
   ·refine AQ ?_
    exact sn [] h
  ·refine Af hs (wq rfl (qw 2 rfl ?_))
   obtain ⟨c11, h⟩ := If h
   have w12 : ((v4.2).toNat) + ((v4.1.length - (v4.2).toNat)) ≤ v4.1.length := by have := c11.2.1; have := c11.2.2; omega
   refine Lh AC v4.1 (.p rfl) rfl (KN AC _ _ v4.1) rfl Fg Fq (.some _ _ _ _ c11.1) (.none _) ⟨rfl, tv⟩ tv c11.2.1 (by rw [zC]; exact c11.2.2) (zC _) rfl ?_
   have w13 : (Kd v4.1 ((v4.2).toNat) (zG ((v4.1.length - (v4.2).toNat)) ((Ae.mk 0 0 0)))).length = v4.1.length := Kw (by rw [List.length_replicate]; exact w12)
   refine Ub AC v4.1 ((Ae.mk 0 0 0)) rfl rfl (ON AC _ _ ((v4.2).toNat) ((v4.1.length - (v4.2).toNat)) v4.1 w12) rfl Fg Ls rfl rfl rfl rfl ?_
   refine Ab (wq rfl (qw 2 rfl ?_))
   obtain ⟨c14, h⟩ := If h
   have w15 : 0 + ((v4.2).toNat) ≤ (Kd v4.1 ((v4.2).toNat) (zG ((v4.1.length - (v4.2).toNat)) ((Ae.mk 0 0 0)))).length := by have := c14.2.1; have := c14.2.2; omega
   refine Lh AC (Kd v4.1 ((v4.2).toNat) (zG ((v4.1.length - (v4.2).toNat)) ((Ae.mk 0 0 0)))) (.p rfl) rfl (KN AC _ _ (Kd v4.1 ((v4.2).toNat) (zG ((v4.1.length - (v4.2).toNat)) ((Ae.mk 0 0 0))))) rfl Fg Fq (.none _) (.some _ _ _ _ c14.1) tv ⟨rfl, tv⟩ c14.2.1 (by rw [zC]; exact c14.2.2) (zC _) rfl ?_
   refine qa rfl (Ab ?_)
   obtain rfl := sj h
   refine Af (sm [] [(4, oD (.view 90000 3 0 ((v4.2).toNat)))] [(90000, .vec 3 ((Kd v4.1 ((v4.2).toNat) (zG ((v4.1.length - (v4.2).toNat)) ((Ae.mk 0 0 0)))).map AC))] rfl rfl) (Aq ?_)
   exact ⟨⟨[_], tm, rfl⟩, ⟨rfl, tv⟩, tv⟩
end Go.Lift
