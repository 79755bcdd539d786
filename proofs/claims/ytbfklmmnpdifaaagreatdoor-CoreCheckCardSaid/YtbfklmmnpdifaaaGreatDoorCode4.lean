/- Lemmas for CoreCheckCardSaid, which YtbfklmmnpdifaaaGreatDoorFinC7 proves. -/
import Derived.Test.YtbfklmmnpdifaaaGreatDoorCode1
open List renaming map_eq_nil_iff → xN, replicate → zH
open Nat renaming zero_add → zC
open Go.Proofs.Tryz renaming prog → zA
namespace Go.Lift
open IntKind renaming wrap → wI
set_option maxRecDepth 10000
open Go.RowKit
open Go.Proofs
theorem HB (N : Nat) (p0 : Aa) (p1 : Ab) (r : Int) (h : DC N p0 p1 = some r) : Al zA 90 [.e (.agg (Ag p0)), .e (.agg (AE p1))] [] (iD r) := by
 unfold DC at h
 refine cw (n := 154) (rs := [.tmp 4]) Tryz.func90 fun w0 S0 => ?_
 refine wq rfl (qb rfl (qb rfl (qa rfl (Ac (wp rfl (qL Ct BQ rfl ?_))))))
 refine Bv h fun v1 a1 h => Aw [] (Ev N p0 v1 a1) ZG rfl (qa rfl (Ac (wq rfl (qm rfl (Bt rfl (Ac ?_))))))
 refine Ba h (fun h => ?_) fun h => ?_
 ·refine wq rfl (qm rfl (qe rfl ?_))
  obtain rfl := sj h
  refine Ad (sm [] [(4, iD v1)] [] rfl rfl) (Aq ?_)
  exact ⟨⟨[_], tm, rfl⟩, tv⟩
 ·refine Ai (wq rfl (qf Bd rfl (ql A4 rfl (AF As rfl (qa rfl (Ac (AM ?_)))))))
  refine AS h (fun v3 => mk [(2, oD (.ptr 2 0)), (3, oD (.ptr 3 0)), (6, iD ((p0.fJ.length : Int))), (39, bD v3)] [(2, .box (Ag p0)), (3, .box (AE p1))]) (fun j3 h => ?_) (fun v3 h => ?_)
  ·refine Ah Ax rfl (qf CR rfl (ql A4 rfl (AF As rfl (qm rfl (Bt rfl (qm rfl ?_))))))
   refine D4 24 h rfl (fun h => ?_) fun h => ?_
   ·refine qw 5 rfl (qp rfl (qw 8 rfl (qp rfl (Ac ?_))))
    exact sn [] h
   ·refine qf BC rfl (ql A4 rfl (AF As rfl (qm rfl (Bt rfl (qp rfl (qm rfl ?_))))))
    refine D4 31 h rfl (fun h => ?_) fun h => ?_
    ·refine qw 7 rfl (qp rfl (Ac ?_))
     exact sn [] h
    ·refine qf CS rfl (ql HE rfl (AF Dz rfl (qf Cl rfl (ql Hn rfl (AF DH rfl (Bt rfl (qp rfl (Ac ?_))))))))
     exact sn [] h
  ·refine Ba h (fun h => ?_) fun h => ?_
   ·refine wq rfl (qe rfl ?_)
    obtain rfl := sj h
    refine Ad (sm [] [(4, iD 6)] [] rfl rfl) (Aq ?_)
    exact ⟨⟨[_], tm, rfl⟩, tv⟩
   ·refine Ai (wp rfl (qe rfl ?_))
    refine AC (L := Co N p0 p1) h (fun v7 => mk [(2, oD (.ptr 2 0)), (3, oD (.ptr 3 0)), (6, iD ((p0.fJ.length : Int))), (7, iD v7)] [(2, .box (Ag p0)), (3, .box (AE p1))]) (fun v8 => mk [(2, oD (.ptr 2 0)), (3, oD (.ptr 3 0))] [(2, .box (Ag p0)), (3, .box (AE p1))]) (fun _ _ => rfl) (sm [] _ _ rfl rfl) (fun j7 n7 v7 h => ?_) (fun v8 s h hs => ?_)
    ·unfold Co at h
     refine wp rfl (qw 2 rfl (AX rfl (Ac ?_)))
     refine Ba h (fun h => ?_) fun h => ?_
     ·refine Ai (AM (AJ (AM ?_)))
      refine AS h (fun v10 => mk [(2, oD (.ptr 2 0)), (3, oD (.ptr 3 0)), (6, iD ((p0.fJ.length : Int))), (7, iD v7), (84, bD v10)] [(2, .box (Ag p0)), (3, .box (AE p1))]) (fun j10 h => ?_) (fun v10 h => ?_)
      ·refine Ah Ax rfl (qf CR rfl (ql A4 rfl (qm rfl ?_)))
       refine BE h fun v11 a11 b11 h => qi As CJ a11 (Af b11) rfl (qk B5 rfl (AX rfl (qm rfl ?_)))
       refine D4 51 h rfl (fun h => ?_) fun h => ?_
       ·refine qw 11 rfl (qp rfl (qw 7 rfl (qp rfl (qw 12 rfl (qp rfl (AK (by kernel_rfl) ?_))))))
        exact sn [] h
       ·refine qf CR rfl (ql A4 rfl (qm rfl ?_))
        refine BE h fun v13 a13 b13 h => qi As CJ a13 (Af b13) rfl (qk B5 rfl (qf Bd rfl (ql A4 rfl (qm rfl ?_))))
        refine BE h fun v14 a14 b14 h => qi As CJ a14 (Af b14) rfl (qk B5 rfl (Ew rfl (qp rfl (qm rfl ?_))))
        refine D4 64 h rfl (fun h => ?_) fun h => ?_
        ·refine qw 6 rfl (qp rfl (qw 12 rfl (qp rfl (AK (by kernel_rfl) ?_))))
         exact sn [] h
        ·refine qf BC rfl (ql A4 rfl (qm rfl ?_))
         refine BE h fun v16 a16 b16 h => qi As CJ a16 (Af b16) rfl (qk B5 rfl (AX rfl (qp rfl (qm rfl ?_))))
         refine D4 72 h rfl (fun h => ?_) fun h => ?_
         ·refine qw 11 rfl (qp rfl (AK (by kernel_rfl) ?_))
          exact sn [] h
         ·refine qf BC rfl (ql A4 rfl (qm rfl ?_))
          refine BE h fun v18 a18 b18 h => qi As CJ a18 (Af b18) rfl (qk B5 rfl (qf Bd rfl (ql A4 rfl (qm rfl ?_))))
          refine BE h fun v19 a19 b19 h => qi As CJ a19 (Af b19) rfl (qk B5 rfl (Ew rfl (qp rfl (AK (by kernel_rfl) ?_))))
          exact sn [] h
      ·refine Ba h (fun h => ?_) fun h => ?_
       ·refine wq rfl (qe rfl ?_)
        obtain rfl := sj h
        refine Ad (sm [] [(4, iD 7)] [] rfl rfl) (Aq ?_)
        exact ⟨⟨[_], tm, rfl⟩, tv⟩
       ·refine Ai (wq rfl (qf CR rfl (ql A4 rfl (qm rfl ?_))))
        refine BE h fun v21 a21 b21 h => qi As CJ a21 (Af b21) rfl (qk B5 rfl (qf BC rfl (ql A4 rfl (qm rfl ?_))))
        refine BE h fun v22 a22 b22 h => qi As CJ a22 (Af b22) rfl (qk B5 rfl (B7 rfl (AK (by kernel_rfl) ?_)))
        refine Ba h (fun h => ?_) fun h => ?_
        ·refine wq rfl (qe rfl ?_)
         obtain rfl := sj h
         refine Ad (sm [] [(4, iD 1)] [] rfl rfl) (Aq ?_)
         exact ⟨⟨[_], tm, rfl⟩, tv⟩
        ·refine Ai (Ah Ax rfl (qm rfl (AY rfl (qe rfl ?_))))
         exact sn [] h
     ·refine AU ?_
      exact sn [] h
    ·refine Ad hs (wp rfl (qe rfl ?_))
     refine AC (L := Cc N p0 p1) h (fun v24 => mk [(2, oD (.ptr 2 0)), (3, oD (.ptr 3 0)), (8, iD v24)] [(2, .box (Ag p0)), (3, .box (AE p1))]) (fun v25 => mk [] []) (fun _ _ => rfl) (sm [] _ _ rfl rfl) (fun j24 n24 v24 h => ?_) (fun v25 s h hs => ?_)
     ·unfold Cc at h
      refine wp rfl (qm rfl (qf Cl rfl (ql Hn rfl (AF DH rfl (AX rfl (Ac ?_))))))
      refine Ba h (fun h => ?_) fun h => ?_
      ·refine Ai (AM (AJ (wq rfl (qf Cl rfl (ql Hn rfl (qm rfl ?_))))))
       refine BE h fun v27 a27 b27 h => qi DH Dv a27 (Af b27) rfl (qK He Dv rfl (qz Jp rfl (qs Dv rfl (Ac (wq rfl (qf Bd rfl (ql A4 rfl (qf Dg rfl (ql B5 rfl ?_)))))))))
       refine BE h fun v28 a28 b28 h => qi As CJ a28 (Af b28) rfl (qk B5 rfl ?_)
       refine F3 h fun c29 h => Jy rfl c29 (JD rfl (qe rfl ?_))
       refine AS h (fun v30 => mk [(2, oD (.ptr 2 0)), (3, oD (.ptr 3 0)), (8, iD v24), (153, bD v30)] [(2, .box (Ag p0)), (3, .box (AE p1))]) (fun j30 h => ?_) (fun v30 h => ?_)
       ·refine Ah Ax rfl (qL He Dv rfl ?_)
        refine Bv h fun v31 a31 h => Aw [] (CE N v27 v31 a31) R8 rfl (Cg rfl (qm rfl ?_))
        refine D4 119 h rfl (fun h => ?_) fun h => ?_
        ·refine qf CS rfl (ql HE rfl (qm rfl ?_))
         refine BE h fun v33 a33 b33 h => qi Dz EF a33 (Af b33) rfl (qk Iz rfl (Bt rfl (qp rfl (qm rfl ?_))))
         refine D4 127 h rfl (fun h => ?_) fun h => ?_
         ·refine qw 3 rfl (qu rfl (qu rfl (qu rfl (qu rfl (qu rfl (qu rfl (qu rfl (qu rfl (qu rfl (qu rfl (qu rfl (qu rfl (qu rfl (qu rfl (qu rfl (qu rfl (qu rfl (qu rfl (qu rfl (qu rfl (qu rfl (qn rfl (qp rfl (AK (by kernel_rfl) ?_))))))))))))))))))))))))
          exact sn [] h
         ·refine qL He Dv rfl ?_
          refine Bv h fun v35 a35 h => Aw [] (CE N v27 v35 a35) R8 rfl (qm rfl ?_)
          refine D4 130 h rfl (fun h => ?_) fun h => ?_
          ·refine qf CS rfl (ql HE rfl (qm rfl ?_))
           refine BE h fun v37 a37 b37 h => qi Dz EF a37 (Af b37) rfl (qk Iz rfl (qm rfl (Il rfl (Bt rfl (qm rfl ?_)))))
           refine D4 139 h rfl (fun h => ?_) fun h => ?_
           ·refine qw 11 rfl (qp rfl (qp rfl (qp rfl (AK (by kernel_rfl) ?_))))
            exact sn [] h
           ·refine qL Bi AV rfl (qf Dg rfl (ql B5 rfl ?_))
            refine Bv h fun v39 a39 h => Aw [] (EK N p1 v27.fO v39 a39) XE rfl (qf CS rfl (ql HE rfl (qm rfl ?_)))
            refine BE h fun v40 a40 b40 h => qi Dz EF a40 (Af b40) rfl (qk Iz rfl (Il rfl (Bt rfl (qp rfl (qp rfl (qp rfl (AK (by kernel_rfl) ?_)))))))
            exact sn [] h
          ·refine qw 9 rfl (qu rfl (qu rfl (qu rfl (qu rfl (qu rfl (qu rfl (qu rfl (qu rfl (qu rfl (qu rfl (qu rfl (qn rfl (qp rfl (qp rfl (AK (by kernel_rfl) ?_)))))))))))))))
           exact sn [] h
        ·refine qw 6 rfl (qp rfl (qm rfl (qL He Dv rfl ?_)))
         refine Bv h fun v41 a41 h => Aw [] (CE N v27 v41 a41) R8 rfl (qm rfl ?_)
         refine D4 130 h rfl (fun h => ?_) fun h => ?_
         ·refine qf CS rfl (ql HE rfl (qm rfl ?_))
          refine BE h fun v43 a43 b43 h => qi Dz EF a43 (Af b43) rfl (qk Iz rfl (qm rfl (Il rfl (Bt rfl (qm rfl ?_)))))
          refine D4 139 h rfl (fun h => ?_) fun h => ?_
          ·refine qw 11 rfl (qp rfl (qp rfl (qp rfl (AK (by kernel_rfl) ?_))))
           exact sn [] h
          ·refine qL Bi AV rfl (qf Dg rfl (ql B5 rfl ?_))
           refine Bv h fun v45 a45 h => Aw [] (EK N p1 v27.fO v45 a45) XE rfl (qf CS rfl (ql HE rfl (qm rfl ?_)))
           refine BE h fun v46 a46 b46 h => qi Dz EF a46 (Af b46) rfl (qk Iz rfl (Il rfl (Bt rfl (qp rfl (qp rfl (qp rfl (AK (by kernel_rfl) ?_)))))))
           exact sn [] h
         ·refine qw 9 rfl (qu rfl (qu rfl (qu rfl (qu rfl (qu rfl (qu rfl (qu rfl (qu rfl (qu rfl (qu rfl (qu rfl (qn rfl (qp rfl (qp rfl (AK (by kernel_rfl) ?_)))))))))))))))
          exact sn [] h
       ·refine Ba h (fun h => ?_) fun h => ?_
        ·refine wq rfl (qe rfl ?_)
         obtain rfl := sj h
         refine Ad (sm [] [(4, iD 1)] [] rfl rfl) (Aq ?_)
         exact ⟨⟨[_], tm, rfl⟩, tv⟩
        ·refine Ai (Ah Ax rfl (qm rfl (AY rfl (qe rfl ?_))))
         exact sn [] h
      ·refine AU ?_
       exact sn [] h
     ·refine Ad hs (wq rfl (qe rfl ?_))
      obtain rfl := sj h
      refine Ad (sm [] [(4, iD 0)] [] rfl rfl) (Aq ?_)
      exact ⟨⟨[_], tm, rfl⟩, tv⟩
theorem MB (N : Nat) (p0 : Ae) (r : Bool) (h : E1 N p0 = some r) : Al zA 133 [.e (.agg (DE p0))] [] (bD r) := by
 unfold E1 at h
 refine cw (n := 31) (rs := [.tmp 2]) Tryz.func133 fun w0 S0 => ?_
 refine wq rfl (qb rfl (qe rfl ?_))
 refine AS h (fun v1 => mk [(2, bD v1)] []) (fun j1 h => ?_) (fun v1 h => ?_)
 ·refine Ah Ax rfl (qf GD rfl (ql B5 rfl (Ew rfl (qm rfl ?_))))
  refine D4 6 h rfl (fun h => ?_) fun h => ?_
  ·refine qf GD rfl (ql B5 rfl (PT rfl (qp rfl (qm rfl ?_))))
   refine D4 11 h rfl (fun h => ?_) fun h => ?_
   ·refine qf FK rfl (ql B5 rfl (Ew rfl (qp rfl (qm rfl ?_))))
    refine D4 16 h rfl (fun h => ?_) fun h => ?_
    ·refine qf HZ rfl (ql B5 rfl (Ew rfl (qp rfl (qm rfl ?_))))
     refine D4 21 h rfl (fun h => ?_) fun h => ?_
     ·refine qf GD rfl (ql B5 rfl (B7 rfl (qm rfl ?_)))
      refine D4 25 h rfl (fun h => ?_) fun h => ?_
      ·refine qw 3 rfl (qp rfl (qp rfl (qe rfl ?_)))
       exact sn [] h
      ·refine qf HZ rfl (ql B5 rfl (B7 rfl (qp rfl (qp rfl (qe rfl ?_)))))
       exact sn [] h
     ·refine qw 4 rfl (qu rfl (qu rfl (qu rfl (qn rfl (qp rfl (qe rfl ?_))))))
      exact sn [] h
    ·refine qw 3 rfl (qp rfl (qw 5 rfl (qu rfl (qu rfl (qu rfl (qn rfl (qp rfl (qe rfl ?_))))))))
     exact sn [] h
   ·refine qw 3 rfl (qp rfl (qw 4 rfl (qp rfl (qw 5 rfl (qu rfl (qu rfl (qu rfl (qn rfl (qp rfl (qe rfl ?_))))))))))
    exact sn [] h
  ·refine qw 3 rfl (qp rfl (qw 4 rfl (qp rfl (qw 4 rfl (qp rfl (qw 5 rfl (qu rfl (qu rfl (qu rfl (qn rfl (qp rfl (qe rfl ?_))))))))))))
   exact sn [] h
 ·obtain rfl := sj h
  refine Ad (sm [] [(2, bD v1)] [] rfl rfl) (Aq ?_)
  exact ⟨⟨[_], tm, rfl⟩, tv⟩
theorem HH (N : Nat) (p0 : Aa) (p1 : Ab) (p2 : Ae) (r : Ab × Bool) (h : CB N p0 p1 p2 = some r) : Al zA 62 [.e (.agg (Ag p0)), .e (.agg (AE p1)), .e (.agg (DE p2))] [(1, r.1.fL.map Ak), (1, r.1.fI.map Ak), (1, r.1.fN.map Du)] (.tup [.agg [.own 0, .own 1, .own 2], .one (.pure (.val (.bool r.2)))]) := by
 unfold CB at h
 refine cw (n := 201) (rs := [.cell 6 49, .tmp 7]) Tryz.func62 fun w0 S0 => ?_
 refine wq rfl (qb rfl (qb rfl (qb rfl (qz Ea rfl (qa rfl (Ac (wq rfl (Dt As CJ Ja rfl (qf CR rfl (ql A4 rfl ?_))))))))))
 refine F3 h fun c1 h => IN (f := Ak) As As CJ Ko Ja (fun _ => rfl) c1 rfl (Dt As CJ Ja rfl (qf BC rfl (ql A4 rfl ?_)))
 refine F3 h fun c2 h => IN (f := Ak) As As CJ Ko Ja (fun _ => rfl) c2 rfl (Dt Dz EF Nv rfl (qf CS rfl (ql HE rfl ?_)))
 refine F3 h fun c3 h => IN (f := Du) Dz Dz EF Pv Nv (fun _ => rfl) c3 rfl (Bm Ea JR rfl (qz Ea rfl (qs AV rfl (AK (by kernel_rfl) (wq rfl (qf FK rfl (ql B5 rfl (qe rfl ?_))))))))
 refine AS h (fun v4 => mk [(6, oD (.ptr 6 0)), (8, oD (.ptr 8 0))] [(6, .box [.pure (.nil0), .pure (.nil0), .pure (.nil0)]), (8, .box [.own 2001, .own 2002, .own 2003]), (2001, .vec 1 (v4.1.map Ak)), (2002, .vec 1 (v4.2.1.map Ak)), (2003, .vec 1 (v4.2.2.map Du))]) (fun j4 h => ?_) (fun v4 h => ?_)
 ·refine wq rfl (qf GD rfl (ql B5 rfl (Ac (AJ (wq rfl (B7 rfl (qe rfl ?_)))))))
  refine Ba h (fun h => ?_) fun h => ?_
  ·refine AM ?_
   refine AS h (fun v6 => mk [(3, oD (.ptr 3 0)), (5, oD (.ptr 5 0)), (6, oD (.ptr 6 0)), (8, oD (.ptr 8 0)), (9, iD p2.fR), (60, bD v6)] [(3, .box (Ag p0)), (5, .box (DE p2)), (6, .box [.pure (.nil0), .pure (.nil0), .pure (.nil0)]), (8, .box [.own 2004, .own 2005, .own 2006]), (2004, .vec 1 (((([] : List Int)) ++ p1.fL).map Ak)), (2005, .vec 1 (((([] : List Int)) ++ p1.fI).map Ak)), (2006, .vec 1 (((([] : List Int)) ++ p1.fN).map Du))]) (fun j6 h => ?_) (fun v6 h => ?_)
   ·refine Ah Ax rfl (qf BC rfl (ql A4 rfl (qm rfl ?_)))
    refine BE h fun v7 a7 b7 h => qi As CJ a7 (Af b7) rfl (qk B5 rfl (Ew rfl (qm rfl ?_)))
    refine D4 51 h rfl (fun h => ?_) fun h => ?_
    ·refine qw 8 rfl (qp rfl (AK (by kernel_rfl) ?_))
     exact sn [(2004, 18), (2005, 22), (2006, 26)] h
    ·refine qf HZ rfl (ql B5 rfl (qf CR rfl (ql A4 rfl (qm rfl ?_))))
     refine BE h fun v9 a9 b9 h => qi As CJ a9 (Af b9) rfl (qk B5 rfl (B7 rfl (qp rfl (AK (by kernel_rfl) ?_))))
     exact sn [(2004, 18), (2005, 22), (2006, 26)] h
   ·refine Ba h (fun h => ?_) fun h => ?_
    ·refine wq rfl (Bm Ea JR rfl (qs AV rfl (qe rfl ?_)))
     obtain rfl := sj h
     refine Ad ((Ar 6 0 2007 1 _ rfl rfl rfl rfl).trans ((Ar 6 1 2008 1 _ rfl rfl rfl rfl).trans ((Ar 6 2 2009 1 _ rfl rfl rfl rfl).trans (sm [(1000, 2007), (1001, 2008), (1002, 2009)] [(6, oD (.ptr 6 0)), (7, bD false)] [(6, .box [.own 1000, .own 1001, .own 1002]), (1000, .vec 1 ((([] : List Int)).map Ak)), (1001, .vec 1 ((([] : List Int)).map Ak)), (1002, .vec 1 ((([] : List Int)).map Du))] rfl rfl)))) (Aq ?_)
     exact ⟨⟨[_, _], ⟨.cellN _ _ _ _ _ _ _ rfl rfl Bi AV rfl rfl (JT rfl), tm⟩, rfl⟩, ⟨rfl, rfl, rfl, tv⟩⟩
    ·refine Ai (wq rfl (qf BC rfl (ql A4 rfl (qm rfl (qf HZ rfl (ql B5 rfl ?_))))))
     refine BE h fun v11 a11 b11 h => qI As CJ a11 (Af b11) rfl ?_
     refine DM rfl rfl rfl rfl (Af b11) rfl CJ rfl (Jt rfl) (DF Ak ((([] : List Int)) ++ p1.fI) _ p2.fW) ?_
     refine Ac (wq rfl (qe rfl ?_))
     refine AC (L := Ce N p0 p2) h (fun v12 => mk [(3, oD (.ptr 3 0)), (5, oD (.ptr 5 0)), (6, oD (.ptr 6 0)), (8, oD (.ptr 8 0)), (9, iD p2.fR), (10, iD v12.2)] [(3, .box (Ag p0)), (5, .box (DE p2)), (6, .box [.pure (.nil0), .pure (.nil0), .pure (.nil0)]), (8, .box [.own 2010, .own 2011, .own 2012]), (2010, .vec 1 (((([] : List Int)) ++ p1.fL).map Ak)), (2011, .vec 1 ((((([] : List Int)) ++ p1.fI).set ((p2.fR).toNat) p2.fW).map Ak)), (2012, .vec 1 (v12.1.map Du))]) (fun v13 => mk [(6, oD (.ptr 6 0)), (8, oD (.ptr 8 0))] [(6, .box [.pure (.nil0), .pure (.nil0), .pure (.nil0)]), (8, .box [.own 2013, .own 2014, .own 2015]), (2013, .vec 1 (((([] : List Int)) ++ p1.fL).map Ak)), (2014, .vec 1 ((((([] : List Int)) ++ p1.fI).set ((p2.fR).toNat) p2.fW).map Ak)), (2015, .vec 1 (v13.map Du))]) (fun _ _ => rfl) (sm [(2010, 2004), (2011, 2005), (2012, 2006)] _ _ rfl rfl) (fun j12 n12 v12 h => ?_) (fun v13 s h hs => ?_)
     ·unfold Ce at h
      refine wp rfl (qm rfl (qf Cl rfl (ql Hn rfl (AF DH rfl (AX rfl (Ac ?_))))))
      refine Ba h (fun h => ?_) fun h => ?_
      ·refine Ai ?_
       refine AS h (fun v15 => mk [(3, oD (.ptr 3 0)), (5, oD (.ptr 5 0)), (6, oD (.ptr 6 0)), (8, oD (.ptr 8 0)), (9, iD p2.fR), (10, iD v12.2)] [(3, .box (Ag p0)), (5, .box (DE p2)), (6, .box [.pure (.nil0), .pure (.nil0), .pure (.nil0)]), (8, .box [.own 2016, .own 2017, .own 2018]), (2016, .vec 1 (((([] : List Int)) ++ p1.fL).map Ak)), (2017, .vec 1 ((((([] : List Int)) ++ p1.fI).set ((p2.fR).toNat) p2.fW).map Ak)), (2018, .vec 1 (v15.map Du))]) (fun j15 h => ?_) (fun v15 h => ?_)
       ·refine AJ ?_
        refine AS h (fun v16 => mk [(3, oD (.ptr 3 0)), (5, oD (.ptr 5 0)), (6, oD (.ptr 6 0)), (8, oD (.ptr 8 0)), (9, iD p2.fR), (10, iD v12.2), (90, bD v16)] [(3, .box (Ag p0)), (5, .box (DE p2)), (6, .box [.pure (.nil0), .pure (.nil0), .pure (.nil0)]), (8, .box [.own 2019, .own 2020, .own 2021]), (2019, .vec 1 (((([] : List Int)) ++ p1.fL).map Ak)), (2020, .vec 1 ((((([] : List Int)) ++ p1.fI).set ((p2.fR).toNat) p2.fW).map Ak)), (2021, .vec 1 (v12.1.map Du))]) (fun j16 h => ?_) (fun v16 h => ?_)
        ·refine Ah Ax rfl (qf Cl rfl (ql Hn rfl (qm rfl ?_)))
         refine BE h fun v17 a17 b17 h => qi DH Dv a17 (Af b17) rfl (qg Dg rfl (qk B5 rfl (qm rfl (B7 rfl (qm rfl ?_)))))
         refine D4 83 h rfl (fun h => ?_) fun h => ?_
         ·refine qf Cl rfl (ql Hn rfl (qm rfl ?_))
          refine BE h fun v19 a19 b19 h => qi DH Dv a19 (Af b19) rfl (qK He Dv rfl ?_)
          refine Bv h fun v20 a20 h => Aw [] (CE N v19 v20 a20) R8 rfl (qp rfl (Ac ?_))
          exact sn [(2019, 2010), (2020, 2011), (2021, 2012)] h
         ·refine qw 6 rfl (qp rfl (Ac ?_))
          exact sn [(2019, 2010), (2020, 2011), (2021, 2012)] h
        ·refine Ba h (fun h => ?_) fun h => ?_
         ·refine Ah Ax rfl (qf CS rfl (ql HE rfl (qm rfl (qf CS rfl (ql HE rfl (qm rfl ?_))))))
          refine BE h fun v22 a22 b22 h => qI Dz EF a22 (Af b22) rfl (qj Iz (Af b22) rfl (qf HZ rfl (ql B5 rfl ?_)))
          refine F3 h fun c23 h => Jy rfl c23 (Xf rfl ?_)
          refine BE h fun v24 a24 b24 h => qI Dz EF a24 (Af b24) rfl ?_
          refine DM rfl rfl rfl rfl (Af b24) rfl EF rfl (Jt rfl) (DF Du v12.1 _ ((Qz .u8 v22 ((D8 .u8 1 p2.fW))))) ?_
          refine AK (by kernel_rfl) ?_
          exact sn [(2016, 2019), (2017, 2020), (2018, 2021)] h
         ·refine Ai ?_
          exact sn [(2016, 2019), (2017, 2020), (2018, 2021)] h
       ·refine Ah Ax rfl (qm rfl (AY rfl (qe rfl ?_)))
        exact sn [(2010, 2016), (2011, 2017), (2012, 2018)] h
      ·refine AU ?_
       exact sn [(2013, 2010), (2014, 2011), (2015, 2012)] h
     ·exact bh _ h (hs.trans (sm [(2001, 2013), (2002, 2014), (2003, 2015)] _ _ rfl rfl))
  ·refine wq rfl (B7 rfl (qe rfl ?_))
   refine Ba h (fun h => ?_) fun h => ?_
   ·refine wp rfl (qf BC rfl (ql A4 rfl (qm rfl ?_)))
    refine BE h fun v26 a26 b26 h => qi As CJ a26 (Af b26) rfl (qk B5 rfl (AX rfl (Ac ?_)))
    refine Ba h (fun h => ?_) fun h => ?_
    ·refine wq rfl (Bm Ea JR rfl (qs AV rfl (qe rfl ?_)))
     obtain rfl := sj h
     refine Ad ((Ar 6 0 2022 1 _ rfl rfl rfl rfl).trans ((Ar 6 1 2023 1 _ rfl rfl rfl rfl).trans ((Ar 6 2 2024 1 _ rfl rfl rfl rfl).trans (sm [(1000, 2022), (1001, 2023), (1002, 2024)] [(6, oD (.ptr 6 0)), (7, bD false)] [(6, .box [.own 1000, .own 1001, .own 1002]), (1000, .vec 1 ((([] : List Int)).map Ak)), (1001, .vec 1 ((([] : List Int)).map Ak)), (1002, .vec 1 ((([] : List Int)).map Du))] rfl rfl)))) (Aq ?_)
     exact ⟨⟨[_, _], ⟨.cellN _ _ _ _ _ _ _ rfl rfl Bi AV rfl rfl (JT rfl), tm⟩, rfl⟩, ⟨rfl, rfl, rfl, tv⟩⟩
    ·refine Ai (Ah Ax rfl (qf CR rfl (ql A4 rfl (qm rfl (qf BC rfl (ql A4 rfl (qm rfl (qf BC rfl (ql A4 rfl (qm rfl ?_))))))))))
     refine BE h fun v28 a28 b28 h => qi As CJ a28 (Af b28) rfl (qk B5 rfl ?_)
     refine BE h fun v29 a29 b29 h => qI As CJ a29 (Af b29) rfl ?_
     refine DM rfl rfl rfl rfl (Af b29) rfl CJ rfl (Jt rfl) (DF Ak ((([] : List Int)) ++ p1.fL) _ v28) ?_
     refine BE h fun v30 a30 b30 h => qI As CJ a30 (Af b30) rfl ?_
     refine DM rfl rfl rfl rfl (Af b30) rfl CJ rfl (Jt rfl) (DF Ak ((([] : List Int)) ++ p1.fI) _ ((-1))) ?_
     refine AK (by kernel_rfl) ?_
     exact sn [(2001, 18), (2002, 22), (2003, 26)] h
   ·refine wq rfl (B7 rfl (qe rfl ?_))
    refine Ba h (fun h => ?_) fun h => ?_
    ·refine wq rfl (qf Cl rfl (ql Hn rfl (qm rfl ?_)))
     refine BE h fun v32 a32 b32 h => qi DH Dv a32 (Af b32) rfl (qK He Dv rfl (qz Jp rfl (qs Dv rfl (Ac (wp rfl (qL He Dv rfl ?_))))))
     refine Bv h fun v33 a33 h => Aw [] (CE N v32 v33 a33) R8 rfl (Cg rfl (Ac ?_))
     refine Ba h (fun h => ?_) fun h => ?_
     ·refine wq rfl (Bm Ea JR rfl (qs AV rfl (qe rfl ?_)))
      obtain rfl := sj h
      refine Ad ((Ar 6 0 2025 1 _ rfl rfl rfl rfl).trans ((Ar 6 1 2026 1 _ rfl rfl rfl rfl).trans ((Ar 6 2 2027 1 _ rfl rfl rfl rfl).trans (sm [(1000, 2025), (1001, 2026), (1002, 2027)] [(6, oD (.ptr 6 0)), (7, bD false)] [(6, .box [.own 1000, .own 1001, .own 1002]), (1000, .vec 1 ((([] : List Int)).map Ak)), (1001, .vec 1 ((([] : List Int)).map Ak)), (1002, .vec 1 ((([] : List Int)).map Du))] rfl rfl)))) (Aq ?_)
      exact ⟨⟨[_, _], ⟨.cellN _ _ _ _ _ _ _ rfl rfl Bi AV rfl rfl (JT rfl), tm⟩, rfl⟩, ⟨rfl, rfl, rfl, tv⟩⟩
     ·refine Ai (wq rfl (qL Bi AV rfl (qf Dg rfl (ql B5 rfl ?_))))
      refine Bv h fun v35 a35 h => Aw [] (EK N p1 v32.fO v35 a35) XE rfl (qa rfl (Ac (wp rfl (qf CS rfl (ql HE rfl (qm rfl ?_))))))
      refine BE h fun v36 a36 b36 h => qi Dz EF a36 (Af b36) rfl (qk Iz rfl (qm rfl (B7 rfl (Ac ?_))))
      refine Ba h (fun h => ?_) fun h => ?_
      ·refine wq rfl (Bm Ea JR rfl (qs AV rfl (qe rfl ?_)))
       obtain rfl := sj h
       refine Ad ((Ar 6 0 2028 1 _ rfl rfl rfl rfl).trans ((Ar 6 1 2029 1 _ rfl rfl rfl rfl).trans ((Ar 6 2 2030 1 _ rfl rfl rfl rfl).trans (sm [(1000, 2028), (1001, 2029), (1002, 2030)] [(6, oD (.ptr 6 0)), (7, bD false)] [(6, .box [.own 1000, .own 1001, .own 1002]), (1000, .vec 1 ((([] : List Int)).map Ak)), (1001, .vec 1 ((([] : List Int)).map Ak)), (1002, .vec 1 ((([] : List Int)).map Du))] rfl rfl)))) (Aq ?_)
       exact ⟨⟨[_, _], ⟨.cellN _ _ _ _ _ _ _ rfl rfl Bi AV rfl rfl (JT rfl), tm⟩, rfl⟩, ⟨rfl, rfl, rfl, tv⟩⟩
      ·refine Ai (wp rfl (qe rfl ?_))
       refine AC (L := BT N p0 p1 p2 v32 v35) h (fun v38 => mk [(3, oD (.ptr 3 0)), (4, oD (.ptr 4 0)), (6, oD (.ptr 6 0)), (8, oD (.ptr 8 0)), (9, iD p2.fR), (11, oD (.ptr 11 0)), (12, pD (.val (.int .u8 v35))), (13, iD v38)] [(3, .box (Ag p0)), (4, .box (AE p1)), (6, .box [.pure (.nil0), .pure (.nil0), .pure (.nil0)]), (8, .box [.own 2031, .own 2032, .own 2033]), (11, .box (Bf v32)), (2031, .vec 1 (((([] : List Int)) ++ p1.fL).map Ak)), (2032, .vec 1 (((([] : List Int)) ++ p1.fI).map Ak)), (2033, .vec 1 (((([] : List Int)) ++ p1.fN).map Du))]) (fun v39 => mk [(6, oD (.ptr 6 0)), (8, oD (.ptr 8 0)), (9, iD p2.fR), (12, pD (.val (.int .u8 v35)))] [(6, .box [.pure (.nil0), .pure (.nil0), .pure (.nil0)]), (8, .box [.own 2034, .own 2035, .own 2036]), (2034, .vec 1 (((([] : List Int)) ++ p1.fL).map Ak)), (2035, .vec 1 (((([] : List Int)) ++ p1.fI).map Ak)), (2036, .vec 1 (((([] : List Int)) ++ p1.fN).map Du))]) (fun _ _ => rfl) (sm [(2031, 18), (2032, 22), (2033, 26)] _ _ rfl rfl) (fun j38 n38 v38 h => ?_) (fun v39 s h hs => ?_)
       ·unfold BT at h
        refine wp rfl (qm rfl (qf Bd rfl (ql A4 rfl (qf Dg rfl (ql B5 rfl ?_)))))
        refine BE h fun v40 a40 b40 h => qi As CJ a40 (Af b40) rfl (qk B5 rfl (AX rfl (Ac ?_)))
        refine Ba h (fun h => ?_) fun h => ?_
        ·refine Ai (AM (AJ ?_))
         refine AS h (fun v42 => mk [(3, oD (.ptr 3 0)), (4, oD (.ptr 4 0)), (6, oD (.ptr 6 0)), (8, oD (.ptr 8 0)), (9, iD p2.fR), (11, oD (.ptr 11 0)), (12, pD (.val (.int .u8 v35))), (13, iD v38), (14, bD v42)] [(3, .box (Ag p0)), (4, .box (AE p1)), (6, .box [.pure (.nil0), .pure (.nil0), .pure (.nil0)]), (8, .box [.own 2037, .own 2038, .own 2039]), (11, .box (Bf v32)), (2037, .vec 1 (((([] : List Int)) ++ p1.fL).map Ak)), (2038, .vec 1 (((([] : List Int)) ++ p1.fI).map Ak)), (2039, .vec 1 (((([] : List Int)) ++ p1.fN).map Du))]) (fun j42 h => ?_) (fun v42 h => ?_)
         ·refine Ah Ax rfl (qf CS rfl (ql HE rfl (qm rfl ?_)))
          refine BE h fun v43 a43 b43 h => qi Dz EF a43 (Af b43) rfl (qk Iz rfl (qm rfl ?_))
          refine Bv h fun v44 a44 h => Aw [] (G7 N v43 v38 v44 a44) Y5 rfl (qm rfl ?_)
          refine D4 166 h rfl (fun h => ?_) fun h => ?_
          ·refine qw 2 rfl ?_
           refine Bv h fun v46 a46 h => Aw [] (G7 N v35 v38 v46 a46) Y5 rfl (Cg rfl (qp rfl (qe rfl ?_)))
           exact sn [(2037, 2031), (2038, 2032), (2039, 2033)] h
          ·refine qw 4 rfl (qp rfl (qe rfl ?_))
           exact sn [(2037, 2031), (2038, 2032), (2039, 2033)] h
         ·refine AS h (fun v47 => mk [(3, oD (.ptr 3 0)), (4, oD (.ptr 4 0)), (6, oD (.ptr 6 0)), (8, oD (.ptr 8 0)), (9, iD p2.fR), (11, oD (.ptr 11 0)), (12, pD (.val (.int .u8 v35))), (13, iD v38), (193, bD v47)] [(3, .box (Ag p0)), (4, .box (AE p1)), (6, .box [.pure (.nil0), .pure (.nil0), .pure (.nil0)]), (8, .box [.own 2040, .own 2041, .own 2042]), (11, .box (Bf v32)), (2040, .vec 1 (((([] : List Int)) ++ p1.fL).map Ak)), (2041, .vec 1 (((([] : List Int)) ++ p1.fI).map Ak)), (2042, .vec 1 (((([] : List Int)) ++ p1.fN).map Du))]) (fun j47 h => ?_) (fun v47 h => ?_)
          ·refine Ah Ax rfl (qw 2 rfl ?_)
           refine D4 173 h rfl (fun h => ?_) fun h => ?_
           ·refine qf GC rfl (ql B5 rfl (B7 rfl (qp rfl (qm rfl ?_))))
            refine D4 178 h rfl (fun h => ?_) fun h => ?_
            ·refine qf FH rfl (ql IL rfl (qm rfl ?_))
             refine BE h fun v50 a50 b50 h => qi EM Kd a50 (Af b50) rfl (qk O3 rfl (qf CR rfl (ql A4 rfl (qf Dg rfl (ql B5 rfl ?_)))))
             refine BE h fun v51 a51 b51 h => qi As CJ a51 (Af b51) rfl (qk B5 rfl ?_)
             refine BE h fun v52 a52 b52 h => qi Fw PQ a52 (Af b52) rfl (qk Un rfl (Cg rfl (qp rfl (AK (by kernel_rfl) ?_))))
             exact sn [(2040, 2037), (2041, 2038), (2042, 2039)] h
            ·refine qw 14 rfl (qp rfl (AK (by kernel_rfl) ?_))
             exact sn [(2040, 2037), (2041, 2038), (2042, 2039)] h
           ·refine qw 3 rfl (qp rfl (qw 15 rfl (qp rfl (AK (by kernel_rfl) ?_))))
            exact sn [(2040, 2037), (2041, 2038), (2042, 2039)] h
          ·refine Ba h (fun h => ?_) fun h => ?_
           ·refine wq rfl (Bm Ea JR rfl (qs AV rfl (qe rfl ?_)))
            obtain rfl := sj h
            refine Ad ((Ar 6 0 2043 1 _ rfl rfl rfl rfl).trans ((Ar 6 1 2044 1 _ rfl rfl rfl rfl).trans ((Ar 6 2 2045 1 _ rfl rfl rfl rfl).trans (sm [(1000, 2043), (1001, 2044), (1002, 2045)] [(6, oD (.ptr 6 0)), (7, bD false)] [(6, .box [.own 1000, .own 1001, .own 1002]), (1000, .vec 1 ((([] : List Int)).map Ak)), (1001, .vec 1 ((([] : List Int)).map Ak)), (1002, .vec 1 ((([] : List Int)).map Du))] rfl rfl)))) (Aq ?_)
            exact ⟨⟨[_, _], ⟨.cellN _ _ _ _ _ _ _ rfl rfl Bi AV rfl rfl (JT rfl), tm⟩, rfl⟩, ⟨rfl, rfl, rfl, tv⟩⟩
           ·refine Ai (Ah Ax rfl (qm rfl (AY rfl (qe rfl ?_))))
            exact sn [(2031, 2040), (2032, 2041), (2033, 2042)] h
        ·refine AU ?_
         exact sn [(2034, 2031), (2035, 2032), (2036, 2033)] h
       ·refine Ad hs (Ah Ax rfl (qf CS rfl (ql HE rfl (qw 2 rfl ?_))))
        refine BE h fun v54 a54 b54 h => qI Dz EF a54 (Af b54) rfl ?_
        refine DM rfl rfl rfl rfl (Af b54) rfl EF rfl (Jt rfl) (DF Du ((([] : List Int)) ++ p1.fN) _ v35) ?_
        refine Ac ?_
        exact sn [(2001, 2034), (2002, 2035), (2003, 2036)] h
    ·refine wp rfl (qf BC rfl (ql A4 rfl (qm rfl ?_)))
     refine BE h fun v55 a55 b55 h => qi As CJ a55 (Af b55) rfl (qk B5 rfl (AX rfl (Ac ?_)))
     refine Ba h (fun h => ?_) fun h => ?_
     ·refine wq rfl (Bm Ea JR rfl (qs AV rfl (qe rfl ?_)))
      obtain rfl := sj h
      refine Ad ((Ar 6 0 2046 1 _ rfl rfl rfl rfl).trans ((Ar 6 1 2047 1 _ rfl rfl rfl rfl).trans ((Ar 6 2 2048 1 _ rfl rfl rfl rfl).trans (sm [(1000, 2046), (1001, 2047), (1002, 2048)] [(6, oD (.ptr 6 0)), (7, bD false)] [(6, .box [.own 1000, .own 1001, .own 1002]), (1000, .vec 1 ((([] : List Int)).map Ak)), (1001, .vec 1 ((([] : List Int)).map Ak)), (1002, .vec 1 ((([] : List Int)).map Du))] rfl rfl)))) (Aq ?_)
      exact ⟨⟨[_, _], ⟨.cellN _ _ _ _ _ _ _ rfl rfl Bi AV rfl rfl (JT rfl), tm⟩, rfl⟩, ⟨rfl, rfl, rfl, tv⟩⟩
     ·refine Ai (Ah Ax rfl (qf BC rfl (ql A4 rfl (qm rfl ?_))))
      refine BE h fun v57 a57 b57 h => qI As CJ a57 (Af b57) rfl ?_
      refine DM rfl rfl rfl rfl (Af b57) rfl CJ rfl (Jt rfl) (DF Ak ((([] : List Int)) ++ p1.fI) _ ((-1))) ?_
      refine Ac ?_
      exact sn [(2001, 18), (2002, 22), (2003, 26)] h
 ·refine wq rfl (qL Bi AV rfl (qs AV rfl (qe rfl ?_)))
  obtain rfl := sj h
  refine Ad (sm [(1000, 2001), (1001, 2002), (1002, 2003)] [(6, oD (.ptr 6 0)), (7, bD true)] [(6, .box [.own 1000, .own 1001, .own 1002]), (1000, .vec 1 (v4.1.map Ak)), (1001, .vec 1 (v4.2.1.map Ak)), (1002, .vec 1 (v4.2.2.map Du))] rfl rfl) (Aq ?_)
  exact ⟨⟨[_, _], ⟨.cellN _ _ _ _ _ _ _ rfl rfl Bi AV rfl rfl (JT rfl), tm⟩, rfl⟩, ⟨rfl, rfl, rfl, tv⟩⟩
theorem MC (N : Nat) (p0 : Aa) (p1 : Ab) (p2 : Ae) (r : Ab × Int) (h : EZ N p0 p1 p2 = some r) : Al zA 95 [.e (.agg (Ag p0)), .e (.agg (AE p1)), .e (.agg (DE p2))] [(1, r.1.fL.map Ak), (1, r.1.fI.map Ak), (1, r.1.fN.map Du)] (.tup [.agg [.own 0, .own 1, .own 2], .one (iC r.2)]) := by
 unfold EZ at h
 refine cw (n := 73) (rs := [.cell 6 49, .tmp 7]) Tryz.func95 fun w0 S0 => ?_
 refine wq rfl (qb rfl (qb rfl (qb rfl (qz Ea rfl (qa rfl (Ac (wp rfl (qL Ct BQ rfl (qL Bi AV rfl ?_)))))))))
 refine Bv h fun v1 a1 h => Aw [] (HB N p0 p1 v1 a1) aH rfl (qa rfl (Ac (wq rfl (qm rfl (Bt rfl (Ac ?_))))))
 refine Ba h (fun h => ?_) fun h => ?_
 ·refine wq rfl (Bm Ea JR rfl (qm rfl (qs AV rfl (qe rfl ?_))))
  obtain rfl := sj h
  refine Ad ((Ar 6 0 2001 1 _ rfl rfl rfl rfl).trans ((Ar 6 1 2002 1 _ rfl rfl rfl rfl).trans ((Ar 6 2 2003 1 _ rfl rfl rfl rfl).trans (sm [(1000, 2001), (1001, 2002), (1002, 2003)] [(6, oD (.ptr 6 0)), (7, iD v1)] [(6, .box [.own 1000, .own 1001, .own 1002]), (1000, .vec 1 ((([] : List Int)).map Ak)), (1001, .vec 1 ((([] : List Int)).map Ak)), (1002, .vec 1 ((([] : List Int)).map Du))] rfl rfl)))) (Aq ?_)
  exact ⟨⟨[_, _], ⟨.cellN _ _ _ _ _ _ _ rfl rfl Bi AV rfl rfl (JT rfl), tm⟩, rfl⟩, ⟨rfl, rfl, rfl, tv⟩⟩
 ·refine Ai (wp rfl (qL Jh EL rfl ?_))
  refine Bv h fun v3 a3 h => Aw [] (MB N p2 v3 a3) cJ rfl (Cg rfl (Ac ?_))
  refine Ba h (fun h => ?_) fun h => ?_
  ·refine wq rfl (Bm Ea JR rfl (qs AV rfl (qe rfl ?_)))
   obtain rfl := sj h
   refine Ad ((Ar 6 0 2004 1 _ rfl rfl rfl rfl).trans ((Ar 6 1 2005 1 _ rfl rfl rfl rfl).trans ((Ar 6 2 2006 1 _ rfl rfl rfl rfl).trans (sm [(1000, 2004), (1001, 2005), (1002, 2006)] [(6, oD (.ptr 6 0)), (7, iD 1)] [(6, .box [.own 1000, .own 1001, .own 1002]), (1000, .vec 1 ((([] : List Int)).map Ak)), (1001, .vec 1 ((([] : List Int)).map Ak)), (1002, .vec 1 ((([] : List Int)).map Du))] rfl rfl)))) (Aq ?_)
   exact ⟨⟨[_, _], ⟨.cellN _ _ _ _ _ _ _ rfl rfl Bi AV rfl rfl (JT rfl), tm⟩, rfl⟩, ⟨rfl, rfl, rfl, tv⟩⟩
  ·refine Ai (AM ?_)
   refine AS h (fun v5 => mk [(3, oD (.ptr 3 0)), (4, oD (.ptr 4 0)), (5, oD (.ptr 5 0)), (6, oD (.ptr 6 0)), (45, bD v5)] [(3, .box (Ag p0)), (4, .box (AE p1)), (5, .box (DE p2)), (6, .box [.pure (.nil0), .pure (.nil0), .pure (.nil0)])]) (fun j5 h => ?_) (fun v5 h => ?_)
   ·refine Ah Ax rfl (qf GD rfl (ql B5 rfl (B7 rfl (qm rfl ?_))))
    refine D4 25 h rfl (fun h => ?_) fun h => ?_
    ·refine qf FK rfl (ql B5 rfl (qf Cl rfl (ql Hn rfl (AF DH rfl (Ew rfl (qp rfl (qm rfl ?_)))))))
     refine D4 33 h rfl (fun h => ?_) fun h => ?_
     ·refine qw 4 rfl (qu rfl (qu rfl (qu rfl (qu rfl (qu rfl (qu rfl (qn rfl (qp rfl (Ac ?_)))))))))
      exact sn [] h
     ·refine qf GD rfl (ql B5 rfl (Bt rfl (qm rfl ?_)))
      refine D4 37 h rfl (fun h => ?_) fun h => ?_
      ·refine qf FK rfl (ql B5 rfl (qf Bd rfl (ql A4 rfl (AF As rfl (Ew rfl (qp rfl (qp rfl (Ac ?_))))))))
       exact sn [] h
      ·refine qw 6 rfl (qp rfl (qp rfl (Ac ?_)))
       exact sn [] h
    ·refine qw 6 rfl (qp rfl (qm rfl (qf GD rfl (ql B5 rfl (Bt rfl (qm rfl ?_))))))
     refine D4 37 h rfl (fun h => ?_) fun h => ?_
     ·refine qf FK rfl (ql B5 rfl (qf Bd rfl (ql A4 rfl (AF As rfl (Ew rfl (qp rfl (qp rfl (Ac ?_))))))))
      exact sn [] h
     ·refine qw 6 rfl (qp rfl (qp rfl (Ac ?_)))
      exact sn [] h
   ·refine Ba h (fun h => ?_) fun h => ?_
    ·refine wq rfl (Bm Ea JR rfl (qs AV rfl (qe rfl ?_)))
     obtain rfl := sj h
     refine Ad ((Ar 6 0 2007 1 _ rfl rfl rfl rfl).trans ((Ar 6 1 2008 1 _ rfl rfl rfl rfl).trans ((Ar 6 2 2009 1 _ rfl rfl rfl rfl).trans (sm [(1000, 2007), (1001, 2008), (1002, 2009)] [(6, oD (.ptr 6 0)), (7, iD 4)] [(6, .box [.own 1000, .own 1001, .own 1002]), (1000, .vec 1 ((([] : List Int)).map Ak)), (1001, .vec 1 ((([] : List Int)).map Ak)), (1002, .vec 1 ((([] : List Int)).map Du))] rfl rfl)))) (Aq ?_)
     exact ⟨⟨[_, _], ⟨.cellN _ _ _ _ _ _ _ rfl rfl Bi AV rfl rfl (JT rfl), tm⟩, rfl⟩, ⟨rfl, rfl, rfl, tv⟩⟩
    ·refine Ai (AM ?_)
     refine AS h (fun v11 => mk [(3, oD (.ptr 3 0)), (4, oD (.ptr 4 0)), (5, oD (.ptr 5 0)), (6, oD (.ptr 6 0)), (60, bD v11)] [(3, .box (Ag p0)), (4, .box (AE p1)), (5, .box (DE p2)), (6, .box [.pure (.nil0), .pure (.nil0), .pure (.nil0)])]) (fun j11 h => ?_) (fun v11 h => ?_)
     ·refine Ah Ax rfl (qf GD rfl (ql B5 rfl (B7 rfl (qm rfl ?_))))
      refine D4 50 h rfl (fun h => ?_) fun h => ?_
      ·refine qf HZ rfl (ql B5 rfl (qf Bd rfl (ql A4 rfl (qf FK rfl (ql B5 rfl ?_)))))
       refine BE h fun v13 a13 b13 h => qi As CJ a13 (Af b13) rfl (qk B5 rfl (Ew rfl (qp rfl (AK (by kernel_rfl) ?_))))
       exact sn [] h
      ·refine qw 9 rfl (qp rfl (AK (by kernel_rfl) ?_))
       exact sn [] h
     ·refine Ba h (fun h => ?_) fun h => ?_
      ·refine wq rfl (Bm Ea JR rfl (qs AV rfl (qe rfl ?_)))
       obtain rfl := sj h
       refine Ad ((Ar 6 0 2010 1 _ rfl rfl rfl rfl).trans ((Ar 6 1 2011 1 _ rfl rfl rfl rfl).trans ((Ar 6 2 2012 1 _ rfl rfl rfl rfl).trans (sm [(1000, 2010), (1001, 2011), (1002, 2012)] [(6, oD (.ptr 6 0)), (7, iD 4)] [(6, .box [.own 1000, .own 1001, .own 1002]), (1000, .vec 1 ((([] : List Int)).map Ak)), (1001, .vec 1 ((([] : List Int)).map Ak)), (1002, .vec 1 ((([] : List Int)).map Du))] rfl rfl)))) (Aq ?_)
       exact ⟨⟨[_, _], ⟨.cellN _ _ _ _ _ _ _ rfl rfl Bi AV rfl rfl (JT rfl), tm⟩, rfl⟩, ⟨rfl, rfl, rfl, tv⟩⟩
      ·refine Ai (wq rfl (qL Ct BQ rfl (qL Bi AV rfl (qL Jh EL rfl ?_))))
       refine Bv h fun v15 a15 h => Aw [2013, 2014, 2015] (HH N p0 p1 p2 v15 a15) bC rfl (qm rfl (qx rfl (qx rfl (qz Ea rfl (qs AV rfl (qa rfl (Ac (wp rfl (qm rfl (Cg rfl (Ac ?_)))))))))))
       refine Ba h (fun h => ?_) fun h => ?_
       ·refine wq rfl (Bm Ea JR rfl (qs AV rfl (qe rfl ?_)))
        obtain rfl := sj h
        refine Ad ((Ar 6 0 2016 1 _ rfl rfl rfl rfl).trans ((Ar 6 1 2017 1 _ rfl rfl rfl rfl).trans ((Ar 6 2 2018 1 _ rfl rfl rfl rfl).trans (sm [(1000, 2016), (1001, 2017), (1002, 2018)] [(6, oD (.ptr 6 0)), (7, iD 11)] [(6, .box [.own 1000, .own 1001, .own 1002]), (1000, .vec 1 ((([] : List Int)).map Ak)), (1001, .vec 1 ((([] : List Int)).map Ak)), (1002, .vec 1 ((([] : List Int)).map Du))] rfl rfl)))) (Aq ?_)
        exact ⟨⟨[_, _], ⟨.cellN _ _ _ _ _ _ _ rfl rfl Bi AV rfl rfl (JT rfl), tm⟩, rfl⟩, ⟨rfl, rfl, rfl, tv⟩⟩
       ·refine Ai (wq rfl (qL Bi AV rfl (qs AV rfl (qe rfl ?_))))
        obtain rfl := sj h
        refine Ad (sm [(1000, 2013), (1001, 2014), (1002, 2015)] [(6, oD (.ptr 6 0)), (7, iD 0)] [(6, .box [.own 1000, .own 1001, .own 1002]), (1000, .vec 1 (v15.1.fL.map Ak)), (1001, .vec 1 (v15.1.fI.map Ak)), (1002, .vec 1 (v15.1.fN.map Du))] rfl rfl) (Aq ?_)
        exact ⟨⟨[_, _], ⟨.cellN _ _ _ _ _ _ _ rfl rfl Bi AV rfl rfl (JT rfl), tm⟩, rfl⟩, ⟨rfl, rfl, rfl, tv⟩⟩
theorem JC (N : Nat) (p0 : Aa) (p1 : Ab) (r : (List Ae)) (h : CA N p0 p1 = some r) : Al zA 61 [.e (.agg (Ag p0)), .e (.agg (AE p1))] [(3, r.map AH)] (oD (.own 0)) := by
 unfold CA at h
 refine cw (n := 49) (rs := [.tmp 4]) Tryz.func61 fun w0 S0 => ?_
 refine wq rfl (qb rfl (qb rfl (qa rfl (Ac (wq rfl (qa rfl (Ac (wp rfl (qe rfl ?_)))))))))
 refine AC (L := BI N p0 p1) h (fun v1 => mk [(2, oD (.ptr 2 0)), (3, oD (.ptr 3 0)), (5, oD (.own 2001)), (6, iD v1.2)] [(2, .box (Ag p0)), (3, .box (AE p1)), (2001, .vec 3 (v1.1.map AH))]) (fun v2 => mk [(5, oD (.own 2002))] [(2002, .vec 3 (v2.map AH))]) (fun _ _ => rfl) ((A9 5 2011 3 rfl rfl rfl).trans (sm [(2001, 2011)] _ _ rfl rfl)) (fun j1 n1 v1 h => ?_) (fun v2 s h hs => ?_)
 ·unfold BI at h
  refine wp rfl (qm rfl (PT rfl (Ac ?_)))
  refine Ba h (fun h => ?_) fun h => ?_
  ·refine Ai (AM (AJ (wq rfl (qe rfl ?_))))
   refine AC (L := Cn N p0 p1 v1) h (fun v4 => mk [(2, oD (.ptr 2 0)), (3, oD (.ptr 3 0)), (5, oD (.own 2003)), (6, iD v1.2), (7, iD v4.2)] [(2, .box (Ag p0)), (3, .box (AE p1)), (2003, .vec 3 (v4.1.map AH))]) (fun v5 => mk [(2, oD (.ptr 2 0)), (3, oD (.ptr 3 0)), (5, oD (.own 2004)), (6, iD v1.2)] [(2, .box (Ag p0)), (3, .box (AE p1)), (2004, .vec 3 (v5.map AH))]) (fun _ _ => rfl) (sm [(2003, 2001)] _ _ rfl rfl) (fun j4 n4 v4 h => ?_) (fun v5 s h hs => ?_)
   ·unfold Cn at h
    refine wp rfl (qm rfl (qf Bd rfl (ql A4 rfl (AF As rfl (qf Cl rfl (ql Hn rfl (AF DH rfl ?_)))))))
    refine dm (.p rfl) rfl rfl ?_
    refine AX rfl (Ac ?_)
    refine Ba h (fun h => ?_) fun h => ?_
    ·refine Ai (AM (AJ (wq rfl (qe rfl ?_))))
     refine AC (L := Cr N p0 p1 v1 v4) h (fun v7 => mk [(2, oD (.ptr 2 0)), (3, oD (.ptr 3 0)), (5, oD (.own 2005)), (6, iD v1.2), (7, iD v4.2), (8, iD v7.2)] [(2, .box (Ag p0)), (3, .box (AE p1)), (2005, .vec 3 (v7.1.map AH))]) (fun v8 => mk [(2, oD (.ptr 2 0)), (3, oD (.ptr 3 0)), (5, oD (.own 2006)), (6, iD v1.2), (7, iD v4.2)] [(2, .box (Ag p0)), (3, .box (AE p1)), (2006, .vec 3 (v8.map AH))]) (fun _ _ => rfl) (sm [(2005, 2003)] _ _ rfl rfl) (fun j7 n7 v7 h => ?_) (fun v8 s h hs => ?_)
     ·unfold Cr at h
      refine wp rfl (qm rfl (AX rfl (Ac ?_)))
      refine Ba h (fun h => ?_) fun h => ?_
      ·refine Ai ?_
       refine AS h (fun v10 => mk [(2, oD (.ptr 2 0)), (3, oD (.ptr 3 0)), (5, oD (.own 2007)), (6, iD v1.2), (7, iD v4.2), (8, iD v7.2)] [(2, .box (Ag p0)), (3, .box (AE p1)), (2007, .vec 3 (v10.map AH))]) (fun j10 h => ?_) (fun v10 h => ?_)
       ·refine AJ (wq rfl (qw 3 rfl (Bm K4 Zf rfl (qz K4 rfl (qs EL rfl (Ac (wq rfl (qL Ct BQ rfl (qL Bi AV rfl (qL Jh EL rfl ?_))))))))))
        refine Bv h fun v11 a11 h => Aw [2008, 2009, 2010] (MC N p0 p1 ((Ae.mk v1.2 v4.2 v7.2)) v11 a11) fD rfl (qm rfl (qx rfl (qx rfl (qz Ea rfl (qs AV rfl (qa rfl (Ac (wq rfl (qm rfl (B7 rfl (Ac ?_)))))))))))
        refine Ba h (fun h => ?_) fun h => ?_
        ·refine Ah Ax rfl (qm rfl (qL Jh EL rfl (Dt EI EL K4 rfl ?_)))
         refine F3 h fun c13 h => CP (f := AH) EI EI EL TO K4 c13 rfl (qe rfl ?_)
         exact sn [(2007, 47)] h
        ·refine Ai ?_
         exact sn [(2007, 2005)] h
       ·refine Ah Ax rfl (qm rfl (AY rfl (qe rfl ?_)))
        exact sn [(2005, 2007)] h
      ·refine AU ?_
       exact sn [(2006, 2005)] h
     ·refine Ad hs (Ah Ax rfl (qm rfl (AY rfl (qe rfl ?_))))
      exact sn [(2003, 2006)] h
    ·refine AU ?_
     exact sn [(2004, 2003)] h
   ·refine Ad hs (Ah Ax rfl (qm rfl (AY rfl (qe rfl ?_))))
    exact sn [(2001, 2004)] h
  ·refine AU ?_
   exact sn [(2002, 2001)] h
 ·refine Ad hs (wq rfl (qm rfl (qe rfl ?_)))
  obtain rfl := sj h
  refine Ad (sm [(1000, 2002)] [(4, oD (.own 1000))] [(1000, .vec 3 (v2.map AH))] rfl rfl) (Aq ?_)
  exact ⟨⟨[_], tm, rfl⟩, ⟨rfl, tv⟩⟩
theorem H9 (N : Nat) (p0 : List Int) (p1 : List Int) (r : Int) (h : DO N p0 p1 = some r) : Al zA 129 [pD (.sl (p0.map Ak)), pD (.sl (p1.map Ak))] [] (iD r) := by
 unfold DO at h
 refine cw (n := 46) (rs := [.tmp 4]) Tryz.func129 fun w0 S0 => ?_
 refine wq rfl (qa rfl (Ac (wp rfl (qe rfl ?_))))
 refine AC (L := DK N p0 p1) h (fun v1 => mk [(0, pD (.sl (p0.map Ak))), (1, pD (.sl (p1.map Ak))), (5, iD v1)] []) (fun v2 => mk [(0, pD (.sl (p0.map Ak))), (1, pD (.sl (p1.map Ak)))] []) (fun _ _ => rfl) (sm [] _ _ rfl rfl) (fun j1 n1 v1 h => ?_) (fun v2 s h hs => ?_)
 ·unfold DK at h
  refine AM ?_
  refine AS h (fun v3 => mk [(0, pD (.sl (p0.map Ak))), (1, pD (.sl (p1.map Ak))), (5, iD v1), (15, bD v3)] []) (fun j3 h => ?_) (fun v3 h => ?_)
  ·refine Ah Ax rfl (qw 2 rfl (AF As rfl (AX rfl (qm rfl ?_))))
   refine D4 10 h rfl (fun h => ?_) fun h => ?_
   ·refine qw 2 rfl (AF As rfl (AX rfl (qp rfl (Ac ?_))))
    exact sn [] h
   ·refine qw 4 rfl (qp rfl (Ac ?_))
    exact sn [] h
  ·refine Ba h (fun h => ?_) fun h => ?_
   ·refine Ai (AM (AJ (wp rfl (qw 2 rfl ?_))))
    refine BE h fun v6 a6 b6 h => qi As CJ a6 (Af b6) rfl (qk B5 rfl (qw 2 rfl ?_))
    refine BE h fun v7 a7 b7 h => qi As CJ a7 (Af b7) rfl (qk B5 rfl (AX rfl (AK (by kernel_rfl) ?_)))
    refine Ba h (fun h => ?_) fun h => ?_
    ·refine wq rfl (qe rfl ?_)
     obtain rfl := sj h
     refine Ad (sm [] [(4, iD ((-1)))] [] rfl rfl) (Aq ?_)
     exact ⟨⟨[_], tm, rfl⟩, tv⟩
    ·refine Ai (wq rfl (qw 2 rfl ?_))
     refine BE h fun v9 a9 b9 h => qi As CJ a9 (Af b9) rfl (qk B5 rfl (qw 2 rfl ?_))
     refine BE h fun v10 a10 b10 h => qi As CJ a10 (Af b10) rfl (qk B5 rfl (FN rfl (AK (by kernel_rfl) ?_)))
     refine Ba h (fun h => ?_) fun h => ?_
     ·refine wq rfl (qe rfl ?_)
      obtain rfl := sj h
      refine Ad (sm [] [(4, iD 1)] [] rfl rfl) (Aq ?_)
      exact ⟨⟨[_], tm, rfl⟩, tv⟩
     ·refine Ai (Ah Ax rfl (qm rfl (AY rfl (qe rfl ?_))))
      exact sn [] h
   ·refine AU ?_
    exact sn [] h
 ·refine Ad hs (wp rfl (qm rfl (AF As rfl (qm rfl (AF As rfl (AX rfl (Ac ?_)))))))
  refine Ba h (fun h => ?_) fun h => ?_
  ·refine wq rfl (qe rfl ?_)
   obtain rfl := sj h
   refine Ad (sm [] [(4, iD ((-1)))] [] rfl rfl) (Aq ?_)
   exact ⟨⟨[_], tm, rfl⟩, tv⟩
  ·refine Ai (wp rfl (qm rfl (AF As rfl (qm rfl (AF As rfl (FN rfl (Ac ?_)))))))
   refine Ba h (fun h => ?_) fun h => ?_
   ·refine wq rfl (qe rfl ?_)
    obtain rfl := sj h
    refine Ad (sm [] [(4, iD 1)] [] rfl rfl) (Aq ?_)
    exact ⟨⟨[_], tm, rfl⟩, tv⟩
   ·refine Ai (wq rfl (qe rfl ?_))
    obtain rfl := sj h
    refine Ad (sm [] [(4, iD 0)] [] rfl rfl) (Aq ?_)
    exact ⟨⟨[_], tm, rfl⟩, tv⟩
theorem IK (N : Nat) (p0 : List Int) (r : (List Int)) (h : DL N p0 = some r) : Al zA 130 [pD (.sl (p0.map Du))] [(1, r.map Ak)] (oD (.own 0)) := by
 unfold DL at h
 refine cw (n := 20) (rs := [.tmp 2]) Tryz.func130 fun w0 S0 => ?_
 refine wq rfl (qa rfl (Ac (wq rfl (qa rfl (Ac (wp rfl (qe rfl ?_)))))))
 refine AC (L := C7 N p0) h (fun v1 => mk [(0, pD (.sl (p0.map Du))), (3, oD (.own 2001)), (4, iD v1.2)] [(2001, .vec 1 (v1.1.map Ak))]) (fun v2 => mk [(3, oD (.own 2002))] [(2002, .vec 1 (v2.map Ak))]) (fun _ _ => rfl) ((A9 3 2003 1 rfl rfl rfl).trans (sm [(2001, 2003)] _ _ rfl rfl)) (fun j1 n1 v1 h => ?_) (fun v2 s h hs => ?_)
 ·unfold C7 at h
  refine wp rfl (qw 2 rfl (AF Dz rfl (AX rfl (Ac ?_))))
  refine Ba h (fun h => ?_) fun h => ?_
  ·refine Ai (AM (AJ (Ah Ax rfl (qw 3 rfl ?_))))
   refine BE h fun v4 a4 b4 h => qi Dz EF a4 (Af b4) rfl (qk Iz rfl (Jj di Xd rfl (Dt As CJ Ja rfl ?_)))
   refine F3 h fun c5 h => CP (f := Ak) As As CJ Ko Ja c5 rfl (qa rfl (Ac (Ah Ax rfl (qm rfl (AY rfl (qe rfl ?_))))))
   exact sn [(2001, 18)] h
  ·refine AU ?_
   exact sn [(2002, 2001)] h
 ·refine Ad hs (wq rfl (qm rfl (qe rfl ?_)))
  obtain rfl := sj h
  refine Ad (sm [(1000, 2002)] [(2, oD (.own 1000))] [(1000, .vec 1 (v2.map Ak))] rfl rfl) (Aq ?_)
  exact ⟨⟨[_], tm, rfl⟩, ⟨rfl, tv⟩⟩
theorem FE (N : Nat) (p0 : Ab) (p1 : Ab) (r : Int) (h : BS N p0 p1 = some r) : Al zA 89 [.e (.agg (AE p0)), .e (.agg (AE p1))] [] (iD r) := by
 unfold BS at h
 refine cw (n := 30) (rs := [.tmp 4]) Tryz.func89 fun w0 S0 => ?_
 refine wq rfl (qb rfl (qb rfl (qa rfl (Ac (wp rfl (qf CR rfl (ql A4 rfl (qf CR rfl (ql A4 rfl ?_)))))))))
 refine Bv h fun v1 a1 h => Aw [] (H9 N p0.fL p1.fL v1 a1) XR rfl (qa rfl (Ac (wq rfl (qm rfl (Bt rfl (Ac ?_))))))
 refine Ba h (fun h => ?_) fun h => ?_
 ·refine wq rfl (qm rfl (qe rfl ?_))
  obtain rfl := sj h
  refine Ad (sm [] [(4, iD v1)] [] rfl rfl) (Aq ?_)
  exact ⟨⟨[_], tm, rfl⟩, tv⟩
 ·refine Ai (wp rfl (qf BC rfl (ql A4 rfl (qf BC rfl (ql A4 rfl ?_)))))
  refine Bv h fun v3 a3 h => Aw [] (H9 N p0.fI p1.fI v3 a3) XR rfl (qa rfl (Ac (wq rfl (qm rfl (Bt rfl (Ac ?_))))))
  refine Ba h (fun h => ?_) fun h => ?_
  ·refine wq rfl (qm rfl (qe rfl ?_))
   obtain rfl := sj h
   refine Ad (sm [] [(4, iD v3)] [] rfl rfl) (Aq ?_)
   exact ⟨⟨[_], tm, rfl⟩, tv⟩
  ·refine Ai (wq rfl (qf CS rfl (ql HE rfl ?_)))
   refine Bv h fun v5 a5 h => Aw [2001] (IK N p0.fN v5 a5) Z6 rfl (qf CS rfl (ql HE rfl ?_))
   refine Bv h fun v6 a6 h => Aw [2002] (IK N p1.fN v6 a6) Z6 rfl ?_
   refine Bv h fun v7 a7 h => CD [] [2001, 2002] (H9 N v5 v6 v7 a7) XR Br rfl (qa rfl (AK (by kernel_rfl) ?_))
   obtain rfl := sj h
   refine Ad (sm [] [(4, iD v7)] [] rfl rfl) (Aq ?_)
   exact ⟨⟨[_], tm, rfl⟩, tv⟩
theorem ME (N : Nat) (p0 : Ab) (p1 : Ab) (r : Bool) (h : E3 N p0 p1 = some r) : Al zA 164 [.e (.agg (AE p0)), .e (.agg (AE p1))] [] (bD r) := by
 unfold E3 at h
 refine cw (n := 9) (rs := [.tmp 4]) Tryz.func164 fun w0 S0 => ?_
 refine wq rfl (qb rfl (qb rfl (qa rfl (Ac (wq rfl (qL Bi AV rfl (qL Bi AV rfl ?_)))))))
 refine Bv h fun v1 a1 h => Aw [] (FE N p0 p1 v1 a1) Zo rfl (B7 rfl (qe rfl ?_))
 obtain rfl := sj h
 refine Ad (sm [] [(4, bD ((v1 == 0)))] [] rfl rfl) (Aq ?_)
 exact ⟨⟨[_], tm, rfl⟩, tv⟩
theorem Nb (N : Nat) (p0 : List AI) (p1 : Ab) (r : Int) (h : Ey N p0 p1 = some r) : Al zA 134 [pD (.sl (p0.map Cw)), .e (.agg (AE p1))] [] (iD r) := by
 unfold Ey at h
 refine cw (n := 20) (rs := [.tmp 4]) Tryz.func134 fun w0 S0 => ?_
 refine wq rfl (qb rfl (qa rfl (Ac (wp rfl (qe rfl ?_)))))
 refine AC (L := CG N p0 p1) h (fun v1 => mk [(0, pD (.sl (p0.map Cw))), (3, oD (.ptr 3 0)), (5, iD v1)] [(3, .box (AE p1))]) (fun v2 => mk [] []) (fun _ _ => rfl) (sm [] _ _ rfl rfl) (fun j1 n1 v1 h => ?_) (fun v2 s h hs => ?_)
 ·unfold CG at h
  refine wp rfl (qw 2 rfl (AF KF rfl (AX rfl (Ac ?_))))
  refine Ba h (fun h => ?_) fun h => ?_
  ·refine Ai (AM (AJ (wq rfl (qw 2 rfl ?_))))
   refine BE h fun v4 a4 b4 h => qi KF RL a4 (Af b4) rfl (qg PK rfl (qK Bi AV rfl (qL Bi AV rfl ?_)))
   refine Bv h fun v5 a5 h => Aw [] (ME N ((Ab.mk v4.f5.fL v4.f5.fI v4.f5.fN)) p1 v5 a5) dQ rfl (AK (by kernel_rfl) ?_)
   refine Ba h (fun h => ?_) fun h => ?_
   ·refine wq rfl (qm rfl (qe rfl ?_))
    obtain rfl := sj h
    refine Ad (sm [] [(4, iD v1)] [] rfl rfl) (Aq ?_)
    exact ⟨⟨[_], tm, rfl⟩, tv⟩
   ·refine Ai (Ah Ax rfl (qm rfl (AY rfl (qe rfl ?_))))
    exact sn [] h
  ·refine AU ?_
   exact sn [] h
 ·refine Ad hs (wq rfl (qe rfl ?_))
  obtain rfl := sj h
  refine Ad (sm [] [(4, iD ((-1)))] [] rfl rfl) (Aq ?_)
  exact ⟨⟨[_], tm, rfl⟩, tv⟩
theorem MI (N : Nat) (p0 : Aa) (p1 : Ab) (p2 : Int) (r : (List AI) × Bool) (h : Ek N p0 p1 p2 = some r) : Al zA 99 [.e (.agg (Ag p0)), .e (.agg (AE p1)), iD p2] [(7, r.1.map Cw)] (.tup [.one (.own 0), .one (.pure (.val (.bool r.2)))]) := by
 unfold Ek at h
 refine cw (n := 74) (rs := [.tmp 6, .tmp 7]) Tryz.func99 fun w0 S0 => ?_
 refine wq rfl (qb rfl (qb rfl (qa rfl (qa rfl (Ac (wq rfl (qL Bi AV rfl (Bm Td ap rfl (Dt KF RL Td rfl (qa rfl (Ac (wp rfl (qe rfl ?_)))))))))))))
 refine AC (L := B2 N p0 p2) h (fun v1 => mk [(2, iD p2), (3, oD (.ptr 3 0)), (8, oD (.own 2001)), (9, iD v1.2)] [(3, .box (Ag p0)), (2001, .vec 7 (v1.1.map Cw))]) (fun v2 => mk [(8, oD (.own 2002))] [(2002, .vec 7 (v2.map Cw))]) (fun _ _ => rfl) (sm [(2001, 16)] _ _ rfl rfl) (fun j1 n1 v1 h => ?_) (fun v2 s h hs => ?_)
 ·unfold B2 at h
  refine wp rfl (qw 2 rfl (Fm KF rfl (AX rfl (Ac ?_))))
  refine Ba h (fun h => ?_) fun h => ?_
  ·refine Ai (AM (AJ (wq rfl (qL Ct BQ rfl (qw 2 rfl ?_)))))
   refine BE h fun v4 a4 b4 h => qI KF RL a4 (Af b4) rfl (qh PK rfl ?_)
   refine Ta (.p rfl) rfl Bi AV rfl (Af b4) rfl rfl (by decide) ?_
   refine Bv h fun v5 a5 h => Aw [2003] (JC N p0 ((Ab.mk v4.f5.fL v4.f5.fI v4.f5.fN)) v5 a5) cr rfl (qa rfl (AK (by kernel_rfl) (wq rfl (qe rfl ?_))))
   refine AC (L := B1 N p0 p2 v1 v5) h (fun v6 => mk [(2, iD p2), (3, oD (.ptr 3 0)), (8, oD (.own 2004)), (9, iD v1.2), (10, oD (.own 2005)), (11, iD v6.2)] [(3, .box (Ag p0)), (2004, .vec 7 (v6.1.map Cw)), (2005, .vec 3 (v5.map AH))]) (fun v7 => mk [(2, iD p2), (3, oD (.ptr 3 0)), (8, oD (.own 2006)), (9, iD v1.2)] [(3, .box (Ag p0)), (2006, .vec 7 (v7.map Cw))]) (fun _ _ => rfl) (sm [(2004, 2001), (2005, 2003)] _ _ rfl rfl) (fun j6 n6 v6 h => ?_) (fun v7 s h hs => ?_)
   ·unfold B1 at h
    refine wp rfl (qw 2 rfl (Fm EI rfl (AX rfl (Ac ?_))))
    refine Ba h (fun h => ?_) fun h => ?_
    ·refine Ai (AM (AJ (wq rfl (qL Ct BQ rfl (qw 2 rfl ?_)))))
     refine BE h fun v9 a9 b9 h => qI KF RL a9 (Af b9) rfl (qh PK rfl ?_)
     refine Ta (.p rfl) rfl Bi AV rfl (Af b9) rfl rfl (by decide) ?_
     refine qw 2 rfl ?_
     refine BE h fun v10 a10 b10 h => qI EI EL a10 (Af b10) rfl (qJ Jh EL (Af b10) rfl ?_)
     refine Bv h fun v11 a11 h => Aw [2007, 2008, 2009] (HH N p0 ((Ab.mk v9.f5.fL v9.f5.fI v9.f5.fN)) v10 v11 a11) bC rfl (qm rfl (qx rfl (qx rfl (qz Ea rfl (qs AV rfl (qa rfl (AK (by kernel_rfl) ?_)))))))
     refine AS h (fun v12 => mk [(2, iD p2), (3, oD (.ptr 3 0)), (8, oD (.own 2010)), (9, iD v1.2), (10, oD (.own 2011)), (11, iD v6.2)] [(3, .box (Ag p0)), (2010, .vec 7 (v12.map Cw)), (2011, .vec 3 (v5.map AH))]) (fun j12 h => ?_) (fun v12 h => ?_)
     ·refine AS h (fun v13 => mk [(2, iD p2), (3, oD (.ptr 3 0)), (8, oD (.own 2015)), (9, iD v1.2), (10, oD (.own 2016)), (11, iD v6.2), (12, oD (.ptr 12 0)), (58, bD v13)] [(3, .box (Ag p0)), (12, .box [.own 2012, .own 2013, .own 2014]), (2012, .vec 1 (v11.1.fL.map Ak)), (2013, .vec 1 (v11.1.fI.map Ak)), (2014, .vec 1 (v11.1.fN.map Du)), (2015, .vec 7 (v6.1.map Cw)), (2016, .vec 3 (v5.map AH))]) (fun j13 h => ?_) (fun v13 h => ?_)
      ·refine Ah Ax rfl (qL Ct BQ rfl (qL Bi AV rfl ?_))
       refine Bv h fun v14 a14 h => CD [] [2007, 2008, 2009] (Et N p0 v11.1 v14 a14) X2 Br rfl (qm rfl ?_)
       refine D4 53 h rfl (fun h => ?_) fun h => ?_
       ·refine qm rfl (qL Bi AV rfl ?_)
        refine Bv h fun v16 a16 h => CD [] [2004, 2007, 2008, 2009] (Nb N v6.1 v11.1 v16 a16) dU Br rfl (AX rfl (qp rfl (Ac ?_)))
        exact sn [(2012, 2007), (2013, 2008), (2014, 2009), (2015, 2004), (2016, 2005)] h
       ·refine qw 4 rfl (qp rfl (Ac ?_))
        exact sn [(2012, 2007), (2013, 2008), (2014, 2009), (2015, 2004), (2016, 2005)] h
      ·refine Ba h (fun h => ?_) fun h => ?_
       ·refine Ad (Bp 2012 _ _ rfl rfl) (Ad (Bp 2013 _ _ rfl rfl) (Ad (Bp 2014 _ _ rfl rfl) (Ah Ax rfl (qm rfl (qL Bi AV rfl (qw 3 rfl ?_))))))
        refine BE h fun v18 a18 b18 h => qI EI EL a18 (Af b18) rfl (qJ Jh EL (Af b18) rfl (Bm Td ap rfl (Dt KF RL Td rfl ?_)))
        refine F3 h fun c19 h => CP (f := Cw) KF KF RL aL Td c19 rfl (qa rfl (AK (by kernel_rfl) ?_))
        exact sn [(2010, 68), (2011, 2016)] h
       ·refine Ai ?_
        exact sn [(2010, 2015), (2011, 2016)] h
     ·refine wq rfl (qm rfl (Fm KF rfl (qm rfl (FN rfl (Ac ?_)))))
      refine Ba h (fun h => ?_) fun h => ?_
      ·refine wq rfl (qa rfl (qe rfl ?_))
       obtain rfl := sj h
       refine Ad ((A9 6 2017 7 rfl rfl rfl).trans (sm [(1000, 2017)] [(6, oD (.own 1000)), (7, bD false)] [(1000, .vec 7 ((([] : List AI)).map Cw))] rfl rfl)) (Aq ?_)
       exact ⟨⟨[_, _], ⟨.tmp _ _ rfl, tm⟩, rfl⟩, ⟨rfl, tv⟩⟩
      ·refine Ai (Ah Ax rfl (qm rfl (AY rfl (qe rfl ?_))))
       exact sn [(2004, 2010), (2005, 2011)] h
    ·refine AU ?_
     exact sn [(2006, 2004)] h
   ·refine Ad hs (Ah Ax rfl (qm rfl (AY rfl (qe rfl ?_))))
    exact sn [(2001, 2006)] h
  ·refine AU ?_
   exact sn [(2002, 2001)] h
 ·refine Ad hs (wq rfl (qm rfl (qa rfl (qe rfl ?_))))
  obtain rfl := sj h
  refine Ad (sm [(1000, 2002)] [(6, oD (.own 1000)), (7, bD true)] [(1000, .vec 7 (v2.map Cw))] rfl rfl) (Aq ?_)
  exact ⟨⟨[_, _], ⟨.tmp _ _ rfl, tm⟩, rfl⟩, ⟨rfl, tv⟩⟩
theorem MM (N : Nat) (p0 : Aa) (p1 : Int) (r : Bool) (h : E6 N p0 p1 = some r) : Al zA 68 [.e (.agg (Ag p0)), iD p1] [] (bD r) := by
 unfold E6 at h
 refine cw (n := 30) (rs := [.tmp 4]) Tryz.func68 fun w0 S0 => ?_
 refine wq rfl (qb rfl (qa rfl (Ac (wq rfl (qL Ct BQ rfl ?_)))))
 refine Bv h fun v1 a1 h => Aw [2001, 2002, 2003] (Jq N p0 v1 a1) cP rfl (qm rfl (qx rfl (qx rfl (qz Ea rfl (qs AV rfl (qa rfl (Ac (AM ?_))))))))
 refine AS h (fun v2 => mk [(1, iD p1), (2, oD (.ptr 2 0)), (5, oD (.ptr 5 0)), (21, bD v2)] [(2, .box (Ag p0)), (5, .box [.own 2004, .own 2005, .own 2006]), (2004, .vec 1 (v1.1.fL.map Ak)), (2005, .vec 1 (v1.1.fI.map Ak)), (2006, .vec 1 (v1.1.fN.map Du))]) (fun j2 h => ?_) (fun v2 h => ?_)
 ·refine Ah Ax rfl (qm rfl (Bt rfl (qm rfl ?_)))
  refine D4 16 h rfl (fun h => ?_) fun h => ?_
  ·refine qw 4 rfl (qp rfl (Ac ?_))
   exact sn [(2004, 2001), (2005, 2002), (2006, 2003)] h
  ·refine qL Ct BQ rfl (qL Bi AV rfl ?_)
   refine Bv h fun v4 a4 h => CD [] [2001, 2002, 2003] (Et N p0 v1.1 v4 a4) X2 Br rfl (Cg rfl (qp rfl (Ac ?_)))
   exact sn [(2004, 2001), (2005, 2002), (2006, 2003)] h
 ·refine Ba h (fun h => ?_) fun h => ?_
  ·refine wq rfl (qe rfl ?_)
   obtain rfl := sj h
   refine Ad (sm [] [(4, bD true)] [] rfl rfl) (Aq ?_)
   exact ⟨⟨[_], tm, rfl⟩, tv⟩
  ·refine Ai (wq rfl (qL Ct BQ rfl (qL Bi AV rfl (qm rfl (Dn (Bp 2004 _ _ rfl rfl) (Dn (Bp 2005 _ _ rfl rfl) (Dn (Bp 2006 _ _ rfl rfl) ?_)))))))
   refine Bv h fun v6 a6 h => Aw [2007] (MI N p0 v1.1 p1 v6 a6) eM rfl (qm rfl (qx rfl (qx rfl (qa rfl (qa rfl (Ac (wq rfl (qm rfl (qe rfl ?_)))))))))
   obtain rfl := sj h
   refine Ad (sm [] [(4, bD v6.2)] [] rfl rfl) (Aq ?_)
   exact ⟨⟨[_], tm, rfl⟩, tv⟩
theorem Mz (N : Nat) (p0 : Aa) (r : Bool) (h : FV N p0 = some r) : Al zA 36 [.e (.agg (Ag p0))] [] (bD r) := by
 unfold FV at h
 refine cw (n := 40) (rs := [.tmp 2]) Tryz.func36 fun w0 S0 => ?_
 refine wq rfl (qb rfl (qa rfl (Ac (wp rfl (qL Ct BQ rfl ?_)))))
 refine Bv h fun v1 a1 h => Aw [] (Ev N p0 v1 a1) ZG rfl (Bt rfl (Ac ?_))
 refine Ba h (fun h => ?_) fun h => ?_
 ·refine wq rfl (qe rfl ?_)
  obtain rfl := sj h
  refine Ad (sm [] [(2, bD true)] [] rfl rfl) (Aq ?_)
  exact ⟨⟨[_], tm, rfl⟩, tv⟩
 ·refine Ai (wp rfl (qf Bd rfl (ql A4 rfl (AF As rfl (FN rfl (Ac ?_))))))
  refine Ba h (fun h => ?_) fun h => ?_
  ·refine wq rfl (qe rfl ?_)
   obtain rfl := sj h
   refine Ad (sm [] [(2, bD false)] [] rfl rfl) (Aq ?_)
   exact ⟨⟨[_], tm, rfl⟩, tv⟩
  ·refine Ai (wq rfl (qf Bd rfl (ql A4 rfl (AF As rfl ?_))))
   refine Bv h fun v4 a4 h => Aw [2001] (M6 N ((p0.fJ.length : Int)) v4 a4) fe rfl (qa rfl (Ac (wp rfl (qe rfl ?_))))
   refine AC (L := C2 N p0 v4) h (fun v5 => mk [(1, oD (.ptr 1 0)), (3, oD (.own 2002)), (4, iD v5)] [(1, .box (Ag p0)), (2002, .vec 1 (v4.map (FP Ak)))]) (fun v6 => mk [] []) (fun _ _ => rfl) (sm [(2002, 2001)] _ _ rfl rfl) (fun j5 n5 v5 h => ?_) (fun v6 s h hs => ?_)
   ·unfold C2 at h
    refine wp rfl (qw 2 rfl (Fm HA rfl (AX rfl (Ac ?_))))
    refine Ba h (fun h => ?_) fun h => ?_
    ·refine Ai (AM (AJ (wq rfl (qL Ct BQ rfl (qw 2 rfl ?_)))))
     refine BE h fun v8 a8 b8 h => qI HA Ix a8 (Af b8) rfl (qj A4 (Af b8) rfl ?_)
     refine Bv h fun v9 a9 h => Aw [2003, 2004, 2005, 2006] (Iy N p0 v8 v9 a9) en rfl (qm rfl (qx rfl (qx rfl (qz Kn rfl (qs BQ rfl (qa rfl (AK (by kernel_rfl) ?_)))))))
     refine AS h (fun v10 => mk [(1, oD (.ptr 1 0)), (3, oD (.own 2007)), (4, iD v5), (39, bD v10)] [(1, .box (Ag p0)), (2007, .vec 1 (v4.map (FP Ak)))]) (fun j10 h => ?_) (fun v10 h => ?_)
     ·refine Ah Ax rfl (qm rfl (Bt rfl (qm rfl ?_)))
      refine D4 35 h rfl (fun h => ?_) fun h => ?_
      ·refine qw 3 rfl (qp rfl (Ac ?_))
       exact sn [(2007, 2002)] h
      ·refine qL Ct BQ rfl ?_
       refine Bv h fun v12 a12 h => CD [] [2003, 2004, 2005, 2006] (MM N v9.1 120 v12 a12) eP Br rfl (Cg rfl (qp rfl (Ac ?_)))
       exact sn [(2007, 2002)] h
     ·refine Ba h (fun h => ?_) fun h => ?_
      ·refine wq rfl (qe rfl ?_)
       obtain rfl := sj h
       refine Ad (sm [] [(2, bD false)] [] rfl rfl) (Aq ?_)
       exact ⟨⟨[_], tm, rfl⟩, tv⟩
      ·refine Ai (Ah Ax rfl (qm rfl (AY rfl (qe rfl ?_))))
       exact sn [(2002, 2007)] h
    ·refine AU ?_
     exact sn [] h
   ·refine Ad hs (wq rfl (qe rfl ?_))
    obtain rfl := sj h
    refine Ad (sm [] [(2, bD true)] [] rfl rfl) (Aq ?_)
    exact ⟨⟨[_], tm, rfl⟩, tv⟩
theorem Oz (N : Nat) (p0 : BP) (r : Aa × Bool) (h : FY N p0 = some r) : Al zA 10 [.e (.agg (C4 p0))] [(1, r.1.fJ.map Ak), (1, r.1.fQ.map Ak), (1, r.1.fU.map Ak), (6, r.1.fK.map AP)] (.tup [.agg [.own 0, .own 1, .own 2, .own 3], .one (.pure (.val (.bool r.2)))]) := by
 unfold FY at h
 refine cw (n := 17) (rs := [.cell 2 29, .tmp 3]) Tryz.func10 fun w0 S0 => ?_
 refine wq rfl (qb rfl (qz Kn rfl (qa rfl (Ac (wq rfl (qL dZ d5 rfl ?_))))))
 refine Bv h fun v1 a1 h => Aw [2001, 2002, 2003, 2004] (Oh N p0 v1 a1) eV rfl (qm rfl (qx rfl (qx rfl (qz Kn rfl (qs BQ rfl (qe rfl ?_))))))
 refine AS h (fun v2 => mk [(2, oD (.ptr 2 0)), (3, bD v2)] [(2, .box [.own 2005, .own 2006, .own 2007, .own 2008]), (2005, .vec 1 (v1.1.fJ.map Ak)), (2006, .vec 1 (v1.1.fQ.map Ak)), (2007, .vec 1 (v1.1.fU.map Ak)), (2008, .vec 6 (v1.1.fK.map AP))]) (fun j2 h => ?_) (fun v2 h => ?_)
 ·refine Ah Ax rfl (qL Ct BQ rfl (qw 2 rfl ?_))
  refine D4 13 h rfl (fun h => ?_) fun h => ?_
  ·refine qL Ct BQ rfl ?_
   refine Bv h fun v4 a4 h => CD [] [2001, 2002, 2003, 2004] (Mz N v1.1 v4 a4) eO Br rfl (qp rfl (qs BQ rfl (qa rfl (AK (by kernel_rfl) ?_))))
   exact sn [(2005, 2001), (2006, 2002), (2007, 2003), (2008, 2004)] h
  ·refine qw 2 rfl (qp rfl (qs BQ rfl (qa rfl (AK (by kernel_rfl) ?_))))
   exact sn [(2005, 2001), (2006, 2002), (2007, 2003), (2008, 2004)] h
 ·obtain rfl := sj h
  refine Ad (sm [(1000, 2005), (1001, 2006), (1002, 2007), (1003, 2008)] [(2, oD (.ptr 2 0)), (3, bD v2)] [(2, .box [.own 1000, .own 1001, .own 1002, .own 1003]), (1000, .vec 1 (v1.1.fJ.map Ak)), (1001, .vec 1 (v1.1.fQ.map Ak)), (1002, .vec 1 (v1.1.fU.map Ak)), (1003, .vec 6 (v1.1.fK.map AP))] rfl rfl) (Aq ?_)
  exact ⟨⟨[_, _], ⟨.cellN _ _ _ _ _ _ _ rfl rfl Ct BQ rfl rfl (JT rfl), tm⟩, rfl⟩, ⟨rfl, rfl, rfl, rfl, tv⟩⟩
theorem Id (N : Nat) (r : (List (List Bool))) (h : EW N = some r) : Al zA 69 [] [(1, r.map (FP eB))] (oD (.own 0)) := by
 unfold EW at h
 refine cw (n := 4) (rs := [.tmp 0]) Tryz.func69 fun w0 S0 => ?_
 refine wq rfl (qa rfl (Ac (wq rfl (Dt Fw PQ Uo rfl (Dt Fw PQ Uo rfl (Dn (Bp 1 _ _ rfl rfl) (Dn (Bp 2 _ _ rfl rfl) (Dt EM Kd UQ rfl (qe rfl ?_)))))))))
 obtain rfl := sj h
 refine Ad (sm [(1000, 3)] [(0, oD (.own 1000))] [(1000, .vec 1 ((([([true, false] : List Bool), ([false, true] : List Bool)] : List (List Bool))).map (FP eB)))] rfl rfl) (Aq ?_)
 exact ⟨⟨[_], tm, rfl⟩, ⟨rfl, tv⟩⟩
theorem G1 (N : Nat) (p0 : Bool) (r : Aa) (h : Es N p0 = some r) : Al zA 37 [bD p0] [(1, r.fJ.map Ak), (1, r.fQ.map Ak), (1, r.fU.map Ak), (6, r.fK.map AP)] (.e (.agg [.own 0, .own 1, .own 2, .own 3])) := by
 unfold Es at h
 refine cw (n := 17) (rs := [.cell 2 29]) Tryz.func37 fun w0 S0 => ?_
 refine wq rfl (qz Kn rfl (Ac (wq rfl (qa rfl (Ac (wq rfl (Dt As CJ Ja rfl (Dt As CJ Ja rfl (Dt As CJ Ja rfl (qw 2 rfl ?_))))))))))
 refine Bv h fun v1 a1 h => VJ (ds0 := []) [2001] (Id N v1 a1) (.p rfl) rfl dA rfl tv rfl rfl rfl (Gw rfl) ⟨rfl, tv⟩ rfl ?_
 refine Bm Jp Zg rfl (qw 2 rfl ?_)
 refine Bv h fun v2 a2 h => VJ (ds0 := []) [2002] (Id N v2 a2) (.p rfl) rfl dA rfl tv rfl rfl rfl (Gw rfl) ⟨rfl, tv⟩ rfl ?_
 refine Bm Jp Zg rfl (Dn (Bp 2001 _ _ rfl rfl) (Dn (Bp 2002 _ _ rfl rfl) (Dt DH Dv Jp rfl (Bm Kn TJ rfl (qs BQ rfl (Ac ?_))))))
 obtain rfl := sj h
 refine Ad (sm [(1000, 4), (1001, 5), (1002, 6), (1003, 15)] [(2, oD (.ptr 2 0))] [(2, .box [.own 1000, .own 1001, .own 1002, .own 1003]), (1000, .vec 1 ((([2, 2, 2] : List Int)).map Ak)), (1001, .vec 1 ((([0, 0, 0] : List Int)).map Ak)), (1002, .vec 1 ((([1, 1, 1] : List Int)).map Ak)), (1003, .vec 6 ((([(An.mk 1 0 1 p0 v1 (([] : List (List Bool)))), (An.mk 1 1 0 p0 v2 (([] : List (List Bool))))] : List An)).map AP))] rfl rfl) (Aq ?_)
 exact ⟨⟨[_], ⟨.cellN _ _ _ _ _ _ _ rfl rfl Ct BQ rfl rfl (JT rfl), tv⟩, rfl⟩, ⟨rfl, rfl, rfl, rfl, tv⟩⟩
theorem Ha (N : Nat) (p0 : Int) (p1 : Int) (r : Bool) (h : DI N p0 p1 = some r) : Al zA 70 [iD p0, iD p1] [] (bD r) := by
 unfold DI at h
 refine cw (n := 12) (rs := [.tmp 4]) Tryz.func70 fun w0 S0 => ?_
 refine wq rfl (qe rfl ?_)
 refine AS h (fun v1 => mk [(4, bD v1)] []) (fun j1 h => ?_) (fun v1 h => ?_)
 ·refine Ah Ax rfl (qm rfl (Ew rfl (qm rfl ?_)))
  refine D4 7 h rfl (fun h => ?_) fun h => ?_
  ·refine qw 2 rfl (AX rfl (qp rfl (qe rfl ?_)))
   exact sn [] h
  ·refine qw 3 rfl (qp rfl (qe rfl ?_))
   exact sn [] h
 ·obtain rfl := sj h
  refine Ad (sm [] [(4, bD v1)] [] rfl rfl) (Aq ?_)
  exact ⟨⟨[_], tm, rfl⟩, tv⟩
theorem SR (N : Nat) (p0 : Int) (p1 : Bool) (r : Bool) (h : HS N p0 p1 = some r) : Al zA 100 [iD p0, bD p1] [] (bD r) := by
 unfold HS at h
 refine cw (n := 23) (rs := [.tmp 4]) Tryz.func100 fun w0 S0 => ?_
 refine wq rfl (qe rfl ?_)
 refine AS h (fun v1 => mk [(4, bD v1)] []) (fun j1 h => ?_) (fun v1 h => ?_)
 ·refine Ah Ax rfl (qm rfl (B7 rfl (qm rfl ?_)))
  refine D4 7 h rfl (fun h => ?_) fun h => ?_
  ·refine qw 2 rfl (qp rfl (qw 4 rfl (qu rfl (qu rfl (qw 2 rfl (qu rfl (qu rfl (qn rfl (qp rfl (qe rfl ?_))))))))))
   exact sn [] h
  ·refine qm rfl (B7 rfl (qp rfl (qm rfl ?_)))
   refine D4 11 h rfl (fun h => ?_) fun h => ?_
   ·refine qw 3 rfl (qu rfl (qu rfl (qw 2 rfl (qu rfl (qu rfl (qn rfl (qp rfl (qe rfl ?_))))))))
    exact sn [] h
   ·refine qm rfl (B7 rfl (qm rfl ?_))
    refine D4 14 h rfl (fun h => ?_) fun h => ?_
    ·refine qw 2 rfl (qp rfl (qw 2 rfl (Cg rfl (qp rfl (qp rfl (qe rfl ?_))))))
     exact sn [] h
    ·refine qm rfl (B7 rfl (qp rfl (qm rfl ?_)))
     refine D4 18 h rfl (fun h => ?_) fun h => ?_
     ·refine qm rfl (Cg rfl (qp rfl (qp rfl (qe rfl ?_))))
      exact sn [] h
     ·refine qw 2 rfl (qp rfl (qp rfl (qe rfl ?_)))
      exact sn [] h
 ·obtain rfl := sj h
  refine Ad (sm [] [(4, bD v1)] [] rfl rfl) (Aq ?_)
  exact ⟨⟨[_], tm, rfl⟩, tv⟩
theorem Ov (N : Nat) (p0 : List Bool) (p1 : Int) (r : Bool) (h : Ep N p0 p1 = some r) : Al zA 136 [pD (.sl (p0.map eB)), oD (.rop [.val (.int .i64 p1)])] [] (bD r) := by
 unfold Ep at h
 refine cw (n := 8) (rs := [.tmp 3]) Tryz.func136 fun w0 S0 => ?_
 refine wq rfl (qa rfl (Ac (wq rfl (qm rfl (AF Fw rfl (qk B5 rfl (Bt rfl (qe rfl ?_))))))))
 obtain rfl := sj h
 refine Ad (sm [] [(3, bD (((p0.length : Int) != p1)))] [] rfl rfl) (Aq ?_)
 exact ⟨⟨[_], tm, rfl⟩, tv⟩
theorem Jm (N : Nat) (p0 : List (List Bool)) (p1 : (List Bool) → Option Bool) (r : Int) (h : DQ N p0 p1 = some r) : Al zA 165 [pD (.sl (p0.map (FP eB))), oD (.clo (G8 (LD false (FP eB)) tB p1))] [] (iD r) := by
 unfold DQ at h
 refine cw (n := 19) (rs := [.tmp 4]) Tryz.func165 fun w0 S0 => ?_
 refine wq rfl (qa rfl (Ac (wp rfl (qm rfl (AF EM rfl (qm rfl (Ac ?_)))))))
 refine AC (L := Bz N p0 p1) h (fun v1 => mk [(0, pD (.sl (p0.map (FP eB)))), (1, oD (.clo (G8 (LD false (FP eB)) tB p1))), (7, iD ((p0.length : Int))), (8, iD v1)] []) (fun v2 => mk [] []) (fun _ _ => rfl) (sm [] _ _ rfl rfl) (fun j1 n1 v1 h => ?_) (fun v2 s h hs => ?_)
 ·unfold Bz at h
  refine wq rfl (AX rfl (Ac (AM ?_)))
  refine Ba h (fun h => ?_) fun h => ?_
  ·refine Ai (AM (AJ (wq rfl (qm rfl (qa rfl (Ac (wq rfl (qw 3 rfl ?_))))))))
   refine BE h fun v4 a4 b4 h => qi EM Kd a4 (Af b4) rfl (qk O3 rfl ?_)
   refine Bv h fun v5 a5 h => JO (ds0 := [_]) (ar := (LD false (FP eB)) v4) (.p rfl) rfl rfl ⟨rfl, tv⟩ rfl rfl rfl (IZ (Lb _ _ (eo fv)) a5) ?_
   refine Ac ?_
   refine Ba h (fun h => ?_) fun h => ?_
   ·refine wq rfl (qm rfl (qe rfl ?_))
    obtain rfl := sj h
    refine Ad (sm [] [(4, iD v1)] [] rfl rfl) (Aq ?_)
    exact ⟨⟨[_], tm, rfl⟩, tv⟩
   ·refine Ai (Ah Ax rfl (AY rfl (qm rfl (Ac ?_))))
    exact sn [] h
  ·refine AU ?_
   exact sn [] h
 ·refine Ad hs (wq rfl (qe rfl ?_))
  obtain rfl := sj h
  refine Ad (sm [] [(4, iD ((-1)))] [] rfl rfl) (Aq ?_)
  exact ⟨⟨[_], tm, rfl⟩, tv⟩
theorem IG (N : Nat) (p0 : List (List Bool)) (p1 : (List Bool) → Option Bool) (r : Bool) (h : Dm N p0 p1 = some r) : Al zA 135 [pD (.sl (p0.map (FP eB))), oD (.clo (G8 (LD false (FP eB)) tB p1))] [] (bD r) := by
 unfold Dm at h
 refine cw (n := 9) (rs := [.tmp 4]) Tryz.func135 fun w0 S0 => ?_
 refine wq rfl (qa rfl (Ac (wq rfl (qw 2 rfl ?_))))
 refine Bv h fun v1 a1 h => Aw [] (Jm N p0 p1 v1 a1) cO rfl (Ew rfl (qe rfl ?_))
 obtain rfl := sj h
 refine Ad (sm [] [(4, bD ((decide (0 ≤ v1))))] [] rfl rfl) (Aq ?_)
 exact ⟨⟨[_], tm, rfl⟩, tv⟩
theorem L5 (N : Nat) (p0 : List (List Bool)) (p1 : Int) (p2 : Int) (r : Bool) (h : FT N p0 p1 p2 = some r) : Al zA 101 [pD (.sl (p0.map (FP eB))), iD p1, iD p2] [] (bD r) := by
 unfold FT at h
 refine cw (n := 17) (rs := [.tmp 6]) Tryz.func101 fun w0 S0 => ?_
 refine wq rfl (qb rfl (qe rfl ?_))
 refine AS h (fun v1 => mk [(6, bD v1)] []) (fun j1 h => ?_) (fun v1 h => ?_)
 ·refine Ah Ax rfl (qm rfl (AF EM rfl (qm rfl (B7 rfl (qm rfl ?_)))))
  refine D4 11 h rfl (fun h => ?_) fun h => ?_
  ·refine qm rfl (Dn (Io 5 [.val (.int .i64 p2)] rfl rfl) ?_)
   refine IU (capD := [_]) (G8 (LD false (FP eB)) tB ((fun (x : List Bool) => Ep N x p2))) (.g rfl rfl) cj rfl ⟨rfl, tv⟩ rfl (fun ar t ht => by obtain ⟨x, r, rfl, hq, rfl⟩ := Hp ht; exact Ov N x p2 r hq) ?_
   refine Bv h fun v3 a3 h => Aw [] (IG N p0 ((fun (x : List Bool) => Ep N x p2)) v3 a3) de rfl (Cg rfl (qp rfl (qe rfl ?_)))
   exact sn [] h
  ·refine qw 4 rfl (qp rfl (qe rfl ?_))
   exact sn [] h
 ·obtain rfl := sj h
  refine Ad (sm [] [(6, bD v1)] [] rfl rfl) (Aq ?_)
  exact ⟨⟨[_], tm, rfl⟩, tv⟩
theorem QJ (N : Nat) (p0 : Aa) (p1 : An) (r : Int) (h : Hk N p0 p1 = some r) : Al zA 71 [.e (.agg (Ag p0)), .e (.agg (Bf p1))] [] (iD r) := by
 unfold Hk at h
 refine cw (n := 87) (rs := [.tmp 4]) Tryz.func71 fun w0 S0 => ?_
 refine wq rfl (qb rfl (qb rfl (qa rfl (Ac (wp rfl (qf GC rfl (ql B5 rfl (qf JQ rfl (ql Un rfl ?_)))))))))
 refine Bv h fun v1 a1 h => Aw [] (SR N p1.fP p1.fY v1 a1) ek rfl (Cg rfl (Ac ?_))
 refine Ba h (fun h => ?_) fun h => ?_
 ·refine wq rfl (qe rfl ?_)
  obtain rfl := sj h
  refine Ad (sm [] [(4, iD 1)] [] rfl rfl) (Aq ?_)
  exact ⟨⟨[_], tm, rfl⟩, tv⟩
 ·refine Ai (AM ?_)
  refine AS h (fun v3 => mk [(2, oD (.ptr 2 0)), (3, oD (.ptr 3 0)), (29, bD v3)] [(2, .box (Ag p0)), (3, .box (Bf p1))]) (fun j3 h => ?_) (fun v3 h => ?_)
  ·refine Ah Ax rfl (qf Dg rfl (ql B5 rfl (qf Bd rfl (ql A4 rfl (AF As rfl ?_)))))
   refine Bv h fun v4 a4 h => Aw [] (Ha N p1.fO ((p0.fJ.length : Int)) v4 a4) X0 rfl (Cg rfl (qm rfl ?_))
   refine D4 21 h rfl (fun h => ?_) fun h => ?_
   ·refine qw 7 rfl (qp rfl (Ac ?_))
    exact sn [] h
   ·refine qf H1 rfl (ql B5 rfl (qf Bd rfl (ql A4 rfl (AF As rfl ?_))))
    refine Bv h fun v6 a6 h => Aw [] (Ha N p1.fS ((p0.fJ.length : Int)) v6 a6) X0 rfl (Cg rfl (qp rfl (Ac ?_)))
    exact sn [] h
  ·refine Ba h (fun h => ?_) fun h => ?_
   ·refine wq rfl (qe rfl ?_)
    obtain rfl := sj h
    refine Ad (sm [] [(4, iD 4)] [] rfl rfl) (Aq ?_)
    exact ⟨⟨[_], tm, rfl⟩, tv⟩
   ·refine Ai (wq rfl (qf Bd rfl (ql A4 rfl (qf Dg rfl (ql B5 rfl ?_)))))
    refine BE h fun v8 a8 b8 h => qi As CJ a8 (Af b8) rfl (qk B5 rfl (qa rfl (Ac (wq rfl (qf GC rfl (ql B5 rfl (B7 rfl (qa rfl (Ac (AM ?_))))))))))
    refine AS h (fun v9 => mk [(3, oD (.ptr 3 0)), (70, bD v9)] [(3, .box (Bf p1))]) (fun j9 h => ?_) (fun v9 h => ?_)
    ·refine Ah Ax rfl (qf Hx rfl (ql IL rfl (qm rfl (qf Bd rfl (ql A4 rfl (qf H1 rfl (ql B5 rfl ?_)))))))
     refine BE h fun v10 a10 b10 h => qi As CJ a10 (Af b10) rfl (qk B5 rfl ?_)
     refine Bv h fun v11 a11 h => Aw [] (L5 N p1.fX v8 v10 v11 a11) aa rfl (Cg rfl (qm rfl ?_))
     refine D4 50 h rfl (fun h => ?_) fun h => ?_
     ·refine qw 2 rfl (qu rfl (qu rfl (qu rfl (qu rfl (qu rfl (qu rfl (qn rfl (qp rfl (qw 4 rfl (qu rfl (qu rfl (qu rfl (qu rfl (qn rfl (qp rfl (AK (by kernel_rfl) ?_))))))))))))))))
      exact sn [] h
     ·refine qw 2 rfl ?_
      refine D4 52 h rfl (fun h => ?_) fun h => ?_
      ·refine qf FH rfl (ql IL rfl (qw 2 rfl ?_))
       refine Bv h fun v14 a14 h => Aw [] (L5 N p1.fT v8 v8 v14 a14) aa rfl (Cg rfl (qp rfl (qp rfl (qm rfl ?_))))
       refine D4 61 h rfl (fun h => ?_) fun h => ?_
       ·refine qw 3 rfl (qu rfl (qu rfl (qu rfl (qu rfl (qn rfl (qp rfl (AK (by kernel_rfl) ?_)))))))
        exact sn [] h
       ·refine qm rfl (Cg rfl (qm rfl ?_))
        refine D4 64 h rfl (fun h => ?_) fun h => ?_
        ·refine qf FH rfl (ql IL rfl (AF EM rfl (FN rfl (qp rfl (qp rfl (AK (by kernel_rfl) ?_))))))
         exact sn [] h
        ·refine qw 4 rfl (qp rfl (qp rfl (AK (by kernel_rfl) ?_)))
         exact sn [] h
      ·refine qw 6 rfl (qp rfl (qp rfl (qw 2 rfl (Cg rfl (qm rfl ?_)))))
       refine D4 64 h rfl (fun h => ?_) fun h => ?_
       ·refine qf FH rfl (ql IL rfl (AF EM rfl (FN rfl (qp rfl (qp rfl (AK (by kernel_rfl) ?_))))))
        exact sn [] h
       ·refine qw 4 rfl (qp rfl (qp rfl (AK (by kernel_rfl) ?_)))
        exact sn [] h
    ·refine Ba h (fun h => ?_) fun h => ?_
     ·refine wq rfl (qe rfl ?_)
      obtain rfl := sj h
      refine Ad (sm [] [(4, iD 6)] [] rfl rfl) (Aq ?_)
      exact ⟨⟨[_], tm, rfl⟩, tv⟩
     ·refine Ai (wp rfl (qf FH rfl (ql IL rfl (AF EM rfl (qm rfl (Ac ?_))))))
      refine AC (L := DG N p1) h (fun v19 => mk [(3, oD (.ptr 3 0)), (73, iD ((p1.fT.length : Int))), (74, iD v19)] [(3, .box (Bf p1))]) (fun v20 => mk [] []) (fun _ _ => rfl) (sm [] _ _ rfl rfl) (fun j19 n19 v19 h => ?_) (fun v20 s h hs => ?_)
      ·unfold DG at h
       refine wq rfl (AX rfl (Ac (AM ?_)))
       refine Ba h (fun h => ?_) fun h => ?_
       ·refine Ai (AM (AJ (wq rfl (qm rfl (qa rfl (Ac (wq rfl (qf FH rfl (ql IL rfl (qm rfl ?_))))))))))
        refine BE h fun v22 a22 b22 h => qi EM Kd a22 (Af b22) rfl (qk O3 rfl (qm rfl ?_))
        refine BE h fun v23 a23 b23 h => qi Fw PQ a23 (Af b23) rfl (qk Un rfl (Cg rfl (Ac ?_)))
        refine Ba h (fun h => ?_) fun h => ?_
        ·refine wq rfl (qe rfl ?_)
         obtain rfl := sj h
         refine Ad (sm [] [(4, iD 1)] [] rfl rfl) (Aq ?_)
         exact ⟨⟨[_], tm, rfl⟩, tv⟩
        ·refine Ai (Ah Ax rfl (AY rfl (qm rfl (Ac ?_))))
         exact sn [] h
       ·refine AU ?_
        exact sn [] h
      ·refine Ad hs (wq rfl (qe rfl ?_))
       obtain rfl := sj h
       refine Ad (sm [] [(4, iD 0)] [] rfl rfl) (Aq ?_)
       exact ⟨⟨[_], tm, rfl⟩, tv⟩
theorem Fc (N : Nat) (p0 : Aa) (r : Int) (h : Ck N p0 = some r) : Al zA 38 [.e (.agg (Ag p0))] [] (iD r) := by
 unfold Ck at h
 refine cw (n := 81) (rs := [.tmp 2]) Tryz.func38 fun w0 S0 => ?_
 refine wq rfl (qb rfl (qa rfl (Ac (wq rfl (qf Bd rfl (ql A4 rfl (AF As rfl (qa rfl (Ac (AM ?_))))))))))
 refine AS h (fun v1 => mk [(1, oD (.ptr 1 0)), (3, iD ((p0.fJ.length : Int))), (19, bD v1)] [(1, .box (Ag p0))]) (fun j1 h => ?_) (fun v1 h => ?_)
 ·refine Ah Ax rfl (qm rfl (FN rfl (qm rfl ?_)))
  refine D4 14 h rfl (fun h => ?_) fun h => ?_
  ·refine qw 4 rfl (qp rfl (Ac ?_))
   exact sn [] h
  ·refine qf Cl rfl (ql Hn rfl (AF DH rfl (FN rfl (qp rfl (Ac ?_)))))
   exact sn [] h
 ·refine Ba h (fun h => ?_) fun h => ?_
  ·refine wq rfl (qe rfl ?_)
   obtain rfl := sj h
   refine Ad (sm [] [(2, iD 3)] [] rfl rfl) (Aq ?_)
   exact ⟨⟨[_], tm, rfl⟩, tv⟩
  ·refine Ai (AM ?_)
   refine AS h (fun v4 => mk [(1, oD (.ptr 1 0)), (31, bD v4)] [(1, .box (Ag p0))]) (fun j4 h => ?_) (fun v4 h => ?_)
   ·refine Ah Ax rfl (qf FF rfl (ql A4 rfl (AF As rfl (qm rfl (Bt rfl (qm rfl ?_))))))
    refine D4 25 h rfl (fun h => ?_) fun h => ?_
    ·refine qw 5 rfl (qp rfl (Ac ?_))
     exact sn [] h
    ·refine qf GF rfl (ql A4 rfl (AF As rfl (qm rfl (Bt rfl (qp rfl (Ac ?_))))))
     exact sn [] h
   ·refine Ba h (fun h => ?_) fun h => ?_
    ·refine wq rfl (qe rfl ?_)
     obtain rfl := sj h
     refine Ad (sm [] [(2, iD 6)] [] rfl rfl) (Aq ?_)
     exact ⟨⟨[_], tm, rfl⟩, tv⟩
    ·refine Ai (wp rfl (qf Bd rfl (ql A4 rfl (AF As rfl (qm rfl (Ac ?_))))))
     refine AC (L := Cb N p0) h (fun v7 => mk [(1, oD (.ptr 1 0)), (33, pD (.sl (p0.fJ.map Ak))), (34, iD ((p0.fJ.length : Int))), (35, iD v7)] [(1, .box (Ag p0))]) (fun v8 => mk [(1, oD (.ptr 1 0))] [(1, .box (Ag p0))]) (fun _ _ => rfl) (sm [] _ _ rfl rfl) (fun j7 n7 v7 h => ?_) (fun v8 s h hs => ?_)
     ·unfold Cb at h
      refine wq rfl (AX rfl (Ac (AM ?_)))
      refine Ba h (fun h => ?_) fun h => ?_
      ·refine Ai (AM (AJ (wq rfl (qm rfl ?_))))
       refine BE h fun v10 a10 b10 h => qi As CJ a10 (Af b10) rfl (qk B5 rfl (qa rfl (qe rfl ?_)))
       refine AS h (fun v11 => mk [(1, oD (.ptr 1 0)), (33, pD (.sl (p0.fJ.map Ak))), (34, iD ((p0.fJ.length : Int))), (35, iD v7), (65, bD v11)] [(1, .box (Ag p0))]) (fun j11 h => ?_) (fun v11 h => ?_)
       ·refine Ah Ax rfl (qm rfl (AX rfl (qm rfl ?_)))
        refine D4 42 h rfl (fun h => ?_) fun h => ?_
        ·refine qw 2 rfl (qp rfl (qw 9 rfl (qp rfl (qw 9 rfl (qp rfl (Ac ?_))))))
         exact sn [] h
        ·refine qm rfl (FN rfl (qp rfl (qm rfl ?_)))
         refine D4 46 h rfl (fun h => ?_) fun h => ?_
         ·refine qw 8 rfl (qp rfl (qw 9 rfl (qp rfl (Ac ?_))))
          exact sn [] h
         ·refine qf FF rfl (ql A4 rfl (qm rfl ?_))
          refine BE h fun v14 a14 b14 h => qi As CJ a14 (Af b14) rfl (qk B5 rfl (qm rfl ?_))
          refine Bv h fun v15 a15 h => Aw [] (Ha N v14 v10 v15 a15) X0 rfl (Cg rfl (qp rfl (qm rfl ?_)))
          refine D4 56 h rfl (fun h => ?_) fun h => ?_
          ·refine qw 8 rfl (qp rfl (Ac ?_))
           exact sn [] h
          ·refine qf GF rfl (ql A4 rfl (qm rfl ?_))
           refine BE h fun v17 a17 b17 h => qi As CJ a17 (Af b17) rfl (qk B5 rfl (qm rfl ?_))
           refine Bv h fun v18 a18 h => Aw [] (Ha N v17 v10 v18 a18) X0 rfl (Cg rfl (qp rfl (Ac ?_)))
           exact sn [] h
       ·refine Ba h (fun h => ?_) fun h => ?_
        ·refine wq rfl (qe rfl ?_)
         obtain rfl := sj h
         refine Ad (sm [] [(2, iD 7)] [] rfl rfl) (Aq ?_)
         exact ⟨⟨[_], tm, rfl⟩, tv⟩
        ·refine Ai (Ah Ax rfl (AY rfl (qm rfl (Ac ?_))))
         exact sn [] h
      ·refine AU ?_
       exact sn [] h
     ·refine Ad hs (wp rfl (qf Cl rfl (ql Hn rfl (AF DH rfl (qm rfl (Ac ?_))))))
      refine AC (L := B4 N p0) h (fun v20 => mk [(1, oD (.ptr 1 0)), (68, pD (.sl (p0.fK.map AP))), (69, iD ((p0.fK.length : Int))), (70, iD v20)] [(1, .box (Ag p0))]) (fun v21 => mk [] []) (fun _ _ => rfl) (sm [] _ _ rfl rfl) (fun j20 n20 v20 h => ?_) (fun v21 s h hs => ?_)
      ·unfold B4 at h
       refine wq rfl (AX rfl (Ac (AM ?_)))
       refine Ba h (fun h => ?_) fun h => ?_
       ·refine Ai (AM (AJ (wq rfl ?_)))
        refine BE h fun v23 a23 b23 h => qi DH Dv a23 (Af b23) rfl (qK He Dv rfl (qz Jp rfl (qs Dv rfl (Ac (wq rfl (qL Ct BQ rfl (qL He Dv rfl ?_)))))))
        refine Bv h fun v24 a24 h => Aw [] (QJ N p0 v23 v24 a24) fA rfl (qa rfl (Ac (wq rfl (qm rfl (Bt rfl (Ac ?_))))))
        refine Ba h (fun h => ?_) fun h => ?_
        ·refine wq rfl (qm rfl (qe rfl ?_))
         obtain rfl := sj h
         refine Ad (sm [] [(2, iD v24)] [] rfl rfl) (Aq ?_)
         exact ⟨⟨[_], tm, rfl⟩, tv⟩
        ·refine Ai (Ah Ax rfl (AY rfl (qm rfl (Ac ?_))))
         exact sn [] h
       ·refine AU ?_
        exact sn [] h
      ·refine Ad hs (wq rfl (qe rfl ?_))
       obtain rfl := sj h
       refine Ad (sm [] [(2, iD 0)] [] rfl rfl) (Aq ?_)
       exact ⟨⟨[_], tm, rfl⟩, tv⟩
def aI : Go.Shelf.Ren := ⟨fun | 6 => 77 | 14 => 111 | 15 => 112 | 20 => 140 | 21 => 141 | 22 => 142 | 23 => 143 | 24 => 144 | 25 => 145 | 26 => 146 | 27 => 147 | 28 => 148 | 29 => 149 | 46 => 168 | 47 => 169 | 48 => 170 | 49 => 171 | 50 => 172 | 57 => 179 | n => n, fun | 0 => 0 | 3 => 3 | 4 => 4 | 5 => 5 | 9 => 9 | 22 => 66 | 24 => 71 | 25 => 110 | 39 => 71 | 45 => 173 | 46 => 174 | 50 => 95 | 53 => 145 | 55 => 147 | 66 => 197 | 70 => 201 | 76 => 206 | 77 => 207 | n => n, fun n => n⟩
theorem aJ : SlLaysF.n6 zA aI := { mixed := Ax, f6 := ⟨Tryz.f77.name, by decide, Tryz.func77.trans (congrArg some (by kernel_rfl))⟩, f14 := ⟨Tryz.f111.name, by decide, Tryz.func111.trans (congrArg some (by kernel_rfl))⟩, f15 := Tryz.func112.trans (congrArg some (by kernel_rfl)), f20 := ⟨Tryz.f140.name, by decide, Tryz.func140.trans (congrArg some (by kernel_rfl))⟩, f21 := ⟨Tryz.f141.name, by decide, Tryz.func141.trans (congrArg some (by kernel_rfl))⟩, f22 := ⟨Tryz.f142.name, by decide, Tryz.func142.trans (congrArg some (by kernel_rfl))⟩, f23 := ⟨Tryz.f143.name, by decide, Tryz.func143.trans (congrArg some (by kernel_rfl))⟩, f24 := ⟨Tryz.f144.name, by decide, Tryz.func144.trans (congrArg some (by kernel_rfl))⟩, f25 := ⟨Tryz.f145.name, by decide, Tryz.func145.trans (congrArg some (by kernel_rfl))⟩, f26 := ⟨Tryz.f146.name, by decide, Tryz.func146.trans (congrArg some (by kernel_rfl))⟩, f27 := ⟨Tryz.f147.name, by decide, Tryz.func147.trans (congrArg some (by kernel_rfl))⟩, f28 := Tryz.func148.trans (congrArg some (by kernel_rfl)), f29 := Tryz.func149.trans (congrArg some (by kernel_rfl)), f46 := ⟨Tryz.f168.name, by decide, Tryz.func168.trans (congrArg some (by kernel_rfl))⟩, f47 := Tryz.func169.trans (congrArg some (by kernel_rfl)), f48 := Tryz.func170.trans (congrArg some (by kernel_rfl)), f49 := ⟨Tryz.f171.name, by decide, Tryz.func171.trans (congrArg some (by kernel_rfl))⟩, f50 := ⟨Tryz.f172.name, by decide, Tryz.func172.trans (congrArg some (by kernel_rfl))⟩, f57 := ⟨Tryz.f179.name, by decide, Tryz.func179.trans (congrArg some (by kernel_rfl))⟩, t0 := Tryz.underlying0, a0 := Tryz.isAgg0, z0 := Tryz.sizeOf0, v0 := Tryz.zeroValue0, t3 := Tryz.underlying3, a3 := Tryz.isAgg3, z3 := Tryz.sizeOf3, v3 := Tryz.zeroValue3, t4 := Tryz.underlying4, a4 := Tryz.isAgg4, z4 := Tryz.sizeOf4, v4 := Tryz.zeroValue4, t5 := Tryz.underlying5, a5 := Tryz.isAgg5, z5 := Tryz.sizeOf5, v5 := Tryz.zeroValue5, t9 := Tryz.underlying9, a9 := Tryz.isAgg9, z9 := Tryz.sizeOf9, v9 := Tryz.zeroValue9, t22 := Tryz.underlying66, a22 := Tryz.isAgg66, z22 := Tryz.sizeOf66, v22 := Tryz.zeroValue66, a24 := Tryz.isAgg71, z24 := Tryz.sizeOf71, t25 := Tryz.underlying110, a25 := Tryz.isAgg110, z25 := Tryz.sizeOf110, v25 := Tryz.zeroValue110, t39 := Tryz.underlying71, a39 := Tryz.isAgg71, z39 := Tryz.sizeOf71, v39 := Tryz.zeroValue71, t45 := Tryz.underlying173, a45 := Tryz.isAgg173, z45 := Tryz.sizeOf173, v45 := Tryz.zeroValue173, t46 := Tryz.underlying174, a46 := Tryz.isAgg174, z46 := Tryz.sizeOf174, v46 := Tryz.zeroValue174, t50 := Tryz.underlying95, a50 := Tryz.isAgg95, z50 := Tryz.sizeOf95, v50 := Tryz.zeroValue95, t53 := Tryz.underlying145, a53 := Tryz.isAgg145, z53 := Tryz.sizeOf145, v53 := Tryz.zeroValue145, t55 := Tryz.underlying147, a55 := Tryz.isAgg147, z55 := Tryz.sizeOf147, v55 := Tryz.zeroValue147, t66 := Tryz.underlying197, a66 := Tryz.isAgg197, z66 := Tryz.sizeOf197, v66 := Tryz.zeroValue197, t70 := Tryz.underlying201, a70 := Tryz.isAgg201, z70 := Tryz.sizeOf201, v70 := Tryz.zeroValue201, t76 := Tryz.underlying206, a76 := Tryz.isAgg206, z76 := Tryz.sizeOf206, v76 := Tryz.zeroValue206, t77 := Tryz.underlying207, a77 := Tryz.isAgg207, z77 := Tryz.sizeOf207, v77 := Tryz.zeroValue207 }
theorem JH (N : Nat) (p0 : List Int) (p1 : (Int × Int) → Option Int) (r : List Int) (h : GO N p0 p1 = some r) : EQ zA 77 [oD (.own 90000), oD (.clo (G8 (Xk false DN false DN) Nz p1))] [(.vec 1 (p0.map DN), .vec 1 (r.map DN))] [] (.tup []) := W5 aJ (t := fun n => .val (.int .u64 n)) (fun _ => rfl) Up (fun _ _ hh => of_decide_eq_true hh) h
theorem KR (N : Nat) (p0 : Int) (r : Int) (h : F8 N p0 = some r) : Al zA 150 [pD (.val (.int .u32 p0))] [] (iD r) := by
 unfold F8 at h
 refine cw (n := 21) (rs := [.tmp 2]) Tryz.func150 fun w0 S0 => ?_
 refine wq rfl (qa rfl (Ac (wq rfl (qm rfl (GM rfl (by decide) ?_)))))
 refine Bv h fun v1 a1 h => KY (.p rfl) rfl rfl WF a1 ?_
 refine qm rfl (GM rfl (by decide) (IJ rfl ?_))
 refine Bv h fun v2 a2 h => KY (.p rfl) rfl rfl WF a2 ?_
 refine AY rfl (qm rfl (GM rfl (by decide) (IJ rfl ?_)))
 refine Bv h fun v3 a3 h => KY (.p rfl) rfl rfl WF a3 ?_
 refine AY rfl (qm rfl (IJ rfl ?_))
 refine Bv h fun v4 a4 h => KY (.p rfl) rfl rfl WF a4 ?_
 refine AY rfl (Jj aW Xd rfl (qa rfl (AK (by kernel_rfl) ?_)))
 obtain rfl := sj h
 refine Ad (sm [] [(2, iD ((wI .i64 ((wI .u8 ((wI .u8 ((wI .u8 (v1 + v2)) + v3)) + v4))))))] [] rfl rfl) (Aq ?_)
 exact ⟨⟨[_], tm, rfl⟩, tv⟩
theorem KT (N : Nat) (p0 : Int) (r : Int) (h : Gg N p0 = some r) : Al zA 151 [pD (.val (.int .u64 p0))] [] (iD r) := by
 unfold Gg at h
 refine cw (n := 35) (rs := [.tmp 2]) Tryz.func151 fun w0 S0 => ?_
 refine wq rfl (qa rfl (Ac (wq rfl (qm rfl (GM rfl (by decide) (IJ rfl (qm rfl (IJ rfl (AY rfl (qa rfl (Ac (wq rfl (qm rfl (GM rfl (by decide) (IJ rfl (qm rfl (IJ rfl (AY rfl (qa rfl (Ac (wq rfl (qm rfl (GM rfl (by decide) (qm rfl (AY rfl (IJ rfl (qa rfl (Ac (wq rfl (qw 2 rfl (GM rfl (by decide) (AY rfl (qa rfl ?_)))))))))))))))))))))))))))))))))
 refine Ac (wq rfl (qw 2 rfl (GM rfl (by decide) (AY rfl (qa rfl (Ac (wq rfl (qw 2 rfl (GM rfl (by decide) (AY rfl (qa rfl (Ac (wq rfl (qm rfl (Jj Xe Xd rfl (IJ rfl (qe rfl ?_)))))))))))))))))
 obtain rfl := sj h
 refine Ad (sm [] [(2, iD ((AL .i64 ((wI .i64 ((wI .u64 ((wI .u64 ((wI .u64 ((AL .u64 ((wI .u64 ((A0 .u64 ((wI .u64 ((AL .u64 ((A0 .u64 ((wI .u64 ((AL .u64 ((A0 .u64 p0 1)) 6148914691236517205) + (AL .u64 p0 6148914691236517205)))) 2)) 3689348814741910323) + (AL .u64 ((wI .u64 ((AL .u64 ((A0 .u64 p0 1)) 6148914691236517205) + (AL .u64 p0 6148914691236517205)))) 3689348814741910323)))) 4) + (wI .u64 ((AL .u64 ((A0 .u64 ((wI .u64 ((AL .u64 ((A0 .u64 p0 1)) 6148914691236517205) + (AL .u64 p0 6148914691236517205)))) 2)) 3689348814741910323) + (AL .u64 ((wI .u64 ((AL .u64 ((A0 .u64 p0 1)) 6148914691236517205) + (AL .u64 p0 6148914691236517205)))) 3689348814741910323)))))) 1085102592571150095) + (A0 .u64 ((AL .u64 ((wI .u64 ((A0 .u64 ((wI .u64 ((AL .u64 ((A0 .u64 ((wI .u64 ((AL .u64 ((A0 .u64 p0 1)) 6148914691236517205) + (AL .u64 p0 6148914691236517205)))) 2)) 3689348814741910323) + (AL .u64 ((wI .u64 ((AL .u64 ((A0 .u64 p0 1)) 6148914691236517205) + (AL .u64 p0 6148914691236517205)))) 3689348814741910323)))) 4) + (wI .u64 ((AL .u64 ((A0 .u64 ((wI .u64 ((AL .u64 ((A0 .u64 p0 1)) 6148914691236517205) + (AL .u64 p0 6148914691236517205)))) 2)) 3689348814741910323) + (AL .u64 ((wI .u64 ((AL .u64 ((A0 .u64 p0 1)) 6148914691236517205) + (AL .u64 p0 6148914691236517205)))) 3689348814741910323)))))) 1085102592571150095)) 8))) + (A0 .u64 ((wI .u64 ((AL .u64 ((wI .u64 ((A0 .u64 ((wI .u64 ((AL .u64 ((A0 .u64 ((wI .u64 ((AL .u64 ((A0 .u64 p0 1)) 6148914691236517205) + (AL .u64 p0 6148914691236517205)))) 2)) 3689348814741910323) + (AL .u64 ((wI .u64 ((AL .u64 ((A0 .u64 p0 1)) 6148914691236517205) + (AL .u64 p0 6148914691236517205)))) 3689348814741910323)))) 4) + (wI .u64 ((AL .u64 ((A0 .u64 ((wI .u64 ((AL .u64 ((A0 .u64 p0 1)) 6148914691236517205) + (AL .u64 p0 6148914691236517205)))) 2)) 3689348814741910323) + (AL .u64 ((wI .u64 ((AL .u64 ((A0 .u64 p0 1)) 6148914691236517205) + (AL .u64 p0 6148914691236517205)))) 3689348814741910323)))))) 1085102592571150095) + (A0 .u64 ((AL .u64 ((wI .u64 ((A0 .u64 ((wI .u64 ((AL .u64 ((A0 .u64 ((wI .u64 ((AL .u64 ((A0 .u64 p0 1)) 6148914691236517205) + (AL .u64 p0 6148914691236517205)))) 2)) 3689348814741910323) + (AL .u64 ((wI .u64 ((AL .u64 ((A0 .u64 p0 1)) 6148914691236517205) + (AL .u64 p0 6148914691236517205)))) 3689348814741910323)))) 4) + (wI .u64 ((AL .u64 ((A0 .u64 ((wI .u64 ((AL .u64 ((A0 .u64 p0 1)) 6148914691236517205) + (AL .u64 p0 6148914691236517205)))) 2)) 3689348814741910323) + (AL .u64 ((wI .u64 ((AL .u64 ((A0 .u64 p0 1)) 6148914691236517205) + (AL .u64 p0 6148914691236517205)))) 3689348814741910323)))))) 1085102592571150095)) 8)))) 16))) + (A0 .u64 ((wI .u64 ((wI .u64 ((AL .u64 ((wI .u64 ((A0 .u64 ((wI .u64 ((AL .u64 ((A0 .u64 ((wI .u64 ((AL .u64 ((A0 .u64 p0 1)) 6148914691236517205) + (AL .u64 p0 6148914691236517205)))) 2)) 3689348814741910323) + (AL .u64 ((wI .u64 ((AL .u64 ((A0 .u64 p0 1)) 6148914691236517205) + (AL .u64 p0 6148914691236517205)))) 3689348814741910323)))) 4) + (wI .u64 ((AL .u64 ((A0 .u64 ((wI .u64 ((AL .u64 ((A0 .u64 p0 1)) 6148914691236517205) + (AL .u64 p0 6148914691236517205)))) 2)) 3689348814741910323) + (AL .u64 ((wI .u64 ((AL .u64 ((A0 .u64 p0 1)) 6148914691236517205) + (AL .u64 p0 6148914691236517205)))) 3689348814741910323)))))) 1085102592571150095) + (A0 .u64 ((AL .u64 ((wI .u64 ((A0 .u64 ((wI .u64 ((AL .u64 ((A0 .u64 ((wI .u64 ((AL .u64 ((A0 .u64 p0 1)) 6148914691236517205) + (AL .u64 p0 6148914691236517205)))) 2)) 3689348814741910323) + (AL .u64 ((wI .u64 ((AL .u64 ((A0 .u64 p0 1)) 6148914691236517205) + (AL .u64 p0 6148914691236517205)))) 3689348814741910323)))) 4) + (wI .u64 ((AL .u64 ((A0 .u64 ((wI .u64 ((AL .u64 ((A0 .u64 p0 1)) 6148914691236517205) + (AL .u64 p0 6148914691236517205)))) 2)) 3689348814741910323) + (AL .u64 ((wI .u64 ((AL .u64 ((A0 .u64 p0 1)) 6148914691236517205) + (AL .u64 p0 6148914691236517205)))) 3689348814741910323)))))) 1085102592571150095)) 8))) + (A0 .u64 ((wI .u64 ((AL .u64 ((wI .u64 ((A0 .u64 ((wI .u64 ((AL .u64 ((A0 .u64 ((wI .u64 ((AL .u64 ((A0 .u64 p0 1)) 6148914691236517205) + (AL .u64 p0 6148914691236517205)))) 2)) 3689348814741910323) + (AL .u64 ((wI .u64 ((AL .u64 ((A0 .u64 p0 1)) 6148914691236517205) + (AL .u64 p0 6148914691236517205)))) 3689348814741910323)))) 4) + (wI .u64 ((AL .u64 ((A0 .u64 ((wI .u64 ((AL .u64 ((A0 .u64 p0 1)) 6148914691236517205) + (AL .u64 p0 6148914691236517205)))) 2)) 3689348814741910323) + (AL .u64 ((wI .u64 ((AL .u64 ((A0 .u64 p0 1)) 6148914691236517205) + (AL .u64 p0 6148914691236517205)))) 3689348814741910323)))))) 1085102592571150095) + (A0 .u64 ((AL .u64 ((wI .u64 ((A0 .u64 ((wI .u64 ((AL .u64 ((A0 .u64 ((wI .u64 ((AL .u64 ((A0 .u64 p0 1)) 6148914691236517205) + (AL .u64 p0 6148914691236517205)))) 2)) 3689348814741910323) + (AL .u64 ((wI .u64 ((AL .u64 ((A0 .u64 p0 1)) 6148914691236517205) + (AL .u64 p0 6148914691236517205)))) 3689348814741910323)))) 4) + (wI .u64 ((AL .u64 ((A0 .u64 ((wI .u64 ((AL .u64 ((A0 .u64 p0 1)) 6148914691236517205) + (AL .u64 p0 6148914691236517205)))) 2)) 3689348814741910323) + (AL .u64 ((wI .u64 ((AL .u64 ((A0 .u64 p0 1)) 6148914691236517205) + (AL .u64 p0 6148914691236517205)))) 3689348814741910323)))))) 1085102592571150095)) 8)))) 16)))) 32)))))) 127)))] [] rfl rfl) (Aq ?_)
 exact ⟨⟨[_], tm, rfl⟩, tv⟩
theorem II (N : Nat) (p0 : Int) (r : Int) (h : Fr N p0 = some r) : Al zA 113 [pD (.val (.int .u64 p0))] [] (iD r) := by
 unfold Fr at h
 refine cw (n := 8) (rs := [.tmp 2]) Tryz.func113 fun w0 S0 => ?_
 refine wq rfl (qa rfl (Ac (AM ?_)))
 refine Ba h (fun h => ?_) fun h => ?_
 ·refine wq rfl (qm rfl (Jj Yj Tv rfl ?_))
  refine Bv h fun v2 a2 h => Aw [] (KR N ((wI .u32 p0)) v2 a2) dw rfl (qe rfl ?_)
  obtain rfl := sj h
  refine Ad (sm [] [(2, iD v2)] [] rfl rfl) (Aq ?_)
  exact ⟨⟨[_], tm, rfl⟩, tv⟩
 ·refine Ai (wq rfl (qm rfl ?_))
  refine Bv h fun v3 a3 h => Aw [] (KT N p0 v3 a3) dF rfl (qe rfl ?_)
  obtain rfl := sj h
  refine Ad (sm [] [(2, iD v3)] [] rfl rfl) (Aq ?_)
  exact ⟨⟨[_], tm, rfl⟩, tv⟩
def bF : Go.Shelf.Ren := ⟨fun | 27 => 82 | 28 => 115 | 29 => 116 | n => n, fun | 0 => 0 | 3 => 3 | 4 => 4 | 5 => 5 | 22 => 147 | 25 => 71 | 27 => 145 | 53 => 180 | 54 => 181 | n => n, fun | 0 => 0 | 1 => 1 | n => n⟩
theorem bQ : Lays7.n27 zA bF := { mixed := Ax, f27 := Tryz.func82.trans (congrArg some (by kernel_rfl)), f28 := Tryz.func115.trans (congrArg some (by kernel_rfl)), f29 := Tryz.func116.trans (congrArg some (by kernel_rfl)), t0 := Tryz.underlying0, a0 := Tryz.isAgg0, z0 := Tryz.sizeOf0, v0 := Tryz.zeroValue0, i0 := by kernel_rfl, t3 := Tryz.underlying3, a3 := Tryz.isAgg3, z3 := Tryz.sizeOf3, v3 := Tryz.zeroValue3, i3 := by kernel_rfl, t4 := Tryz.underlying4, a4 := Tryz.isAgg4, z4 := Tryz.sizeOf4, v4 := Tryz.zeroValue4, i4 := by kernel_rfl, t5 := Tryz.underlying5, a5 := Tryz.isAgg5, z5 := Tryz.sizeOf5, v5 := Tryz.zeroValue5, i5 := by kernel_rfl, t22 := Tryz.underlying147, a22 := Tryz.isAgg147, z22 := Tryz.sizeOf147, v22 := Tryz.zeroValue147, i22 := by kernel_rfl, t25 := Tryz.underlying71, a25 := Tryz.isAgg71, z25 := Tryz.sizeOf71, v25 := Tryz.zeroValue71, i25 := by kernel_rfl, t27 := Tryz.underlying145, a27 := Tryz.isAgg145, z27 := Tryz.sizeOf145, v27 := Tryz.zeroValue145, i27 := by kernel_rfl, t53 := Tryz.underlying180, a53 := Tryz.isAgg180, z53 := Tryz.sizeOf180, v53 := Tryz.zeroValue180, i53 := by kernel_rfl, t54 := Tryz.underlying181, a54 := Tryz.isAgg181, z54 := Tryz.sizeOf181, g0 := by kernel_rfl, g1 := by kernel_rfl }
theorem Kq (N : Nat) (p0 : Int) (r : Int) (h : Hi N p0 = some r) : Al zA 82 [pD (.val (.int .u64 p0))] [] (iD r) := eJ bQ (by kernel_rfl) h
theorem Iv (N : Nat) (p0 : Int) (r : (List Int)) (h : FU N p0 = some r) : Al zA 52 [pD (.val (.int .u64 p0))] [(1, r.map Ak)] (oD (.own 0)) := by
 unfold FU at h
 refine cw (n := 18) (rs := [.tmp 2]) Tryz.func52 fun w0 S0 => ?_
 refine wq rfl (qa rfl (Ac (wq rfl (qa rfl (Ac (wp rfl (qm rfl (qe rfl ?_))))))))
 refine AC (L := GK N) h (fun v1 => mk [(3, oD (.own 2001)), (4, pD (.val (.int .u64 v1.2)))] [(2001, .vec 1 (v1.1.map Ak))]) (fun v2 => mk [(3, oD (.own 2002))] [(2002, .vec 1 (v2.map Ak))]) (fun _ _ => rfl) ((A9 3 2003 1 rfl rfl rfl).trans (sm [(2001, 2003)] _ _ rfl rfl)) (fun j1 n1 v1 h => ?_) (fun v2 s h hs => ?_)
 ·unfold GK at h
  refine wp rfl (qm rfl (Bt rfl (Ac ?_)))
  refine Ba h (fun h => ?_) fun h => ?_
  ·refine Ai (AM (AJ (Ah Ax rfl (qw 2 rfl ?_))))
   refine Bv h fun v4 a4 h => Aw [] (Kq N v1.2 v4 a4) ey rfl (Dt As CJ Ja rfl ?_)
   refine F3 h fun c5 h => CP (f := Ak) As As CJ Ko Ja c5 rfl (qa rfl (Ac (Ah Ax rfl (qw 2 rfl (JD rfl (IJ rfl (qe rfl ?_)))))))
   exact sn [(2001, 16)] h
  ·refine AU ?_
   exact sn [(2002, 2001)] h
 ·refine Ad hs (wq rfl (qm rfl (qe rfl ?_)))
  obtain rfl := sj h
  refine Ad (sm [(1000, 2002)] [(2, oD (.own 1000))] [(1000, .vec 1 (v2.map Ak))] rfl rfl) (Aq ?_)
  exact ⟨⟨[_], tm, rfl⟩, ⟨rfl, tv⟩⟩
theorem LB (N : Nat) (p0 : Int) (r : Bool) (h : Gp N p0 = some r) : Al zA 173 [iD p0] [] (bD r) := by
 unfold Gp at h
 refine cw (n := 6) (rs := [.tmp 2]) Tryz.func173 fun w0 S0 => ?_
 refine wq rfl (qa rfl (Ac (wq rfl (qw 2 rfl (Bt rfl (qe rfl ?_))))))
 obtain rfl := sj h
 refine Ad (sm [] [(2, bD ((p0 != p0)))] [] rfl rfl) (Aq ?_)
 exact ⟨⟨[_], tm, rfl⟩, tv⟩
theorem NE (N : Nat) (p0 : Int) (p1 : Int) (r : Int) (h : FC N p0 p1 = some r) : Al zA 152 [iD p0, iD p1] [] (iD r) := by
 unfold FC at h
 refine cw (n := 20) (rs := [.tmp 4]) Tryz.func152 fun w0 S0 => ?_
 refine wq rfl (qa rfl (Ac (wq rfl (qm rfl ?_))))
 refine Bv h fun v1 a1 h => Aw [] (LB N p0 v1 a1) ZX rfl (qa rfl (Ac (wq rfl (qm rfl ?_))))
 refine Bv h fun v2 a2 h => Aw [] (LB N p1 v2 a2) ZX rfl (qa rfl (Ac (wp rfl (qm rfl (Ac ?_)))))
 refine Ba h (fun h => ?_) fun h => ?_
 ·refine wp rfl (qm rfl (Ac ?_))
  refine Ba h (fun h => ?_) fun h => ?_
  ·refine wq rfl (qe rfl ?_)
   obtain rfl := sj h
   refine Ad (sm [] [(4, iD 0)] [] rfl rfl) (Aq ?_)
   exact ⟨⟨[_], tm, rfl⟩, tv⟩
  ·refine Ai (wq rfl (qe rfl ?_))
   obtain rfl := sj h
   refine Ad (sm [] [(4, iD ((-1)))] [] rfl rfl) (Aq ?_)
   exact ⟨⟨[_], tm, rfl⟩, tv⟩
 ·refine Ai (wp rfl (qm rfl (Ac ?_)))
  refine Ba h (fun h => ?_) fun h => ?_
  ·refine wq rfl (qe rfl ?_)
   obtain rfl := sj h
   refine Ad (sm [] [(4, iD 1)] [] rfl rfl) (Aq ?_)
   exact ⟨⟨[_], tm, rfl⟩, tv⟩
  ·refine Ai (wp rfl (qw 2 rfl (AX rfl (Ac ?_))))
   refine Ba h (fun h => ?_) fun h => ?_
   ·refine wq rfl (qe rfl ?_)
    obtain rfl := sj h
    refine Ad (sm [] [(4, iD ((-1)))] [] rfl rfl) (Aq ?_)
    exact ⟨⟨[_], tm, rfl⟩, tv⟩
   ·refine Ai (wp rfl (qw 2 rfl (FN rfl (Ac ?_))))
    refine Ba h (fun h => ?_) fun h => ?_
    ·refine wq rfl (qe rfl ?_)
     obtain rfl := sj h
     refine Ad (sm [] [(4, iD 1)] [] rfl rfl) (Aq ?_)
     exact ⟨⟨[_], tm, rfl⟩, tv⟩
    ·refine Ai (wq rfl (qe rfl ?_))
     obtain rfl := sj h
     refine Ad (sm [] [(4, iD 0)] [] rfl rfl) (Aq ?_)
     exact ⟨⟨[_], tm, rfl⟩, tv⟩
theorem F9 (N : Nat) (p0 : List Int) (p1 : List Int) (r : Int) (h : Cv N p0 p1 = some r) : Al zA 114 [pD (.sl (p0.map Ak)), pD (.sl (p1.map Ak))] [] (iD r) := by
 unfold Cv at h
 refine cw (n := 36) (rs := [.tmp 4]) Tryz.func114 fun w0 S0 => ?_
 refine wq rfl (qa rfl (Ac (wp rfl (qm rfl (AF As rfl (qm rfl (Ac ?_)))))))
 refine AC (L := Cx N p0 p1) h (fun v1 => mk [(0, pD (.sl (p0.map Ak))), (1, pD (.sl (p1.map Ak))), (9, pD (.sl (p0.map Ak))), (10, iD ((p0.length : Int))), (11, iD v1)] []) (fun v2 => mk [(0, pD (.sl (p0.map Ak))), (1, pD (.sl (p1.map Ak)))] []) (fun _ _ => rfl) (sm [] _ _ rfl rfl) (fun j1 n1 v1 h => ?_) (fun v2 s h hs => ?_)
 ·unfold Cx at h
  refine wq rfl (AX rfl (Ac (AM ?_)))
  refine Ba h (fun h => ?_) fun h => ?_
  ·refine Ai (AM (AJ (wq rfl (qm rfl ?_))))
   refine BE h fun v4 a4 b4 h => qi As CJ a4 (Af b4) rfl (qk B5 rfl (qa rfl (qa rfl (Ac (wp rfl (qw 2 rfl (AF As rfl (Ew rfl (Ac ?_)))))))))
   refine Ba h (fun h => ?_) fun h => ?_
   ·refine wq rfl (qe rfl ?_)
    obtain rfl := sj h
    refine Ad (sm [] [(4, iD 1)] [] rfl rfl) (Aq ?_)
    exact ⟨⟨[_], tm, rfl⟩, tv⟩
   ·refine Ai (wq rfl (qw 2 rfl ?_))
    refine BE h fun v6 a6 b6 h => qi As CJ a6 (Af b6) rfl (qk B5 rfl (qa rfl (Ac (wq rfl (qw 2 rfl ?_)))))
    refine Bv h fun v7 a7 h => Aw [] (NE N v4 v6 v7 a7) dB rfl (qa rfl (Ac (wq rfl (qm rfl (Bt rfl (Ac ?_))))))
    refine Ba h (fun h => ?_) fun h => ?_
    ·refine wq rfl (qm rfl (qe rfl ?_))
     obtain rfl := sj h
     refine Ad (sm [] [(4, iD v7)] [] rfl rfl) (Aq ?_)
     exact ⟨⟨[_], tm, rfl⟩, tv⟩
    ·refine Ai (Ah Ax rfl (AY rfl (qm rfl (Ac ?_))))
     exact sn [] h
  ·refine AU ?_
   exact sn [] h
 ·refine Ad hs (wp rfl (qm rfl (AF As rfl (qm rfl (AF As rfl (AX rfl (Ac ?_)))))))
  refine Ba h (fun h => ?_) fun h => ?_
  ·refine wq rfl (qe rfl ?_)
   obtain rfl := sj h
   refine Ad (sm [] [(4, iD ((-1)))] [] rfl rfl) (Aq ?_)
   exact ⟨⟨[_], tm, rfl⟩, tv⟩
  ·refine Ai (wq rfl (qe rfl ?_))
   obtain rfl := sj h
   refine Ad (sm [] [(4, iD 0)] [] rfl rfl) (Aq ?_)
   exact ⟨⟨[_], tm, rfl⟩, tv⟩
theorem Qc (N : Nat) (p0 : Int) (p1 : Int) (r : Int) (h : H2 N p0 p1 = some r) : Al zA 78 [pD (.val (.int .u64 p0)), pD (.val (.int .u64 p1))] [] (iD r) := by
 unfold H2 at h
 refine cw (n := 19) (rs := [.tmp 4]) Tryz.func78 fun w0 S0 => ?_
 refine wq rfl (qa rfl (Ac (wp rfl (qm rfl ?_))))
 refine Bv h fun v1 a1 h => Aw [] (II N p0 v1 a1) au rfl (qm rfl ?_)
 refine Bv h fun v2 a2 h => Aw [] (II N p1 v2 a2) au rfl (JD rfl (qa rfl (Ac (wq rfl (qm rfl (Bt rfl (Ac ?_)))))))
 refine Ba h (fun h => ?_) fun h => ?_
 ·refine wq rfl (qm rfl (qe rfl ?_))
  obtain rfl := sj h
  refine Ad (sm [] [(4, iD ((wI .i64 (v1 - v2))))] [] rfl rfl) (Aq ?_)
  exact ⟨⟨[_], tm, rfl⟩, tv⟩
 ·refine Ai (wq rfl (qm rfl ?_))
  refine Bv h fun v4 a4 h => Aw [2001] (Iv N p0 v4 a4) ZQ rfl (qm rfl ?_)
  refine Bv h fun v5 a5 h => Aw [2002] (Iv N p1 v5 a5) ZQ rfl ?_
  refine Bv h fun v6 a6 h => CD [] [2001, 2002] (F9 N v4 v5 v6 a6) Ye Br rfl (qe rfl ?_)
  obtain rfl := sj h
  refine Ad (sm [] [(4, iD v6)] [] rfl rfl) (Aq ?_)
  exact ⟨⟨[_], tm, rfl⟩, tv⟩
theorem Is (N : Nat) (p0 : List Int) (p1 : Int) (r : Int) (h : DA N p0 p1 = some r) : Al zA 72 [pD (.sl (p0.map Ak)), iD p1] [] (iD r) := by
 unfold DA at h
 refine cw (n := 19) (rs := [.tmp 4]) Tryz.func72 fun w0 S0 => ?_
 refine wq rfl (qa rfl (Ac (wp rfl (qm rfl (AF As rfl (qm rfl (Ac ?_)))))))
 refine AC (L := BY N p0 p1) h (fun v1 => mk [(0, pD (.sl (p0.map Ak))), (1, iD p1), (7, iD ((p0.length : Int))), (8, iD v1)] []) (fun v2 => mk [] []) (fun _ _ => rfl) (sm [] _ _ rfl rfl) (fun j1 n1 v1 h => ?_) (fun v2 s h hs => ?_)
 ·unfold BY at h
  refine wq rfl (AX rfl (Ac (AM ?_)))
  refine Ba h (fun h => ?_) fun h => ?_
  ·refine Ai (AM (AJ (wq rfl (qm rfl (qa rfl (Ac (wq rfl (qw 3 rfl ?_))))))))
   refine BE h fun v4 a4 b4 h => qi As CJ a4 (Af b4) rfl (qk B5 rfl (B7 rfl (Ac ?_)))
   refine Ba h (fun h => ?_) fun h => ?_
   ·refine wq rfl (qm rfl (qe rfl ?_))
    obtain rfl := sj h
    refine Ad (sm [] [(4, iD v1)] [] rfl rfl) (Aq ?_)
    exact ⟨⟨[_], tm, rfl⟩, tv⟩
   ·refine Ai (Ah Ax rfl (AY rfl (qm rfl (Ac ?_))))
    exact sn [] h
  ·refine AU ?_
   exact sn [] h
 ·refine Ad hs (wq rfl (qe rfl ?_))
  obtain rfl := sj h
  refine Ad (sm [] [(4, iD ((-1)))] [] rfl rfl) (Aq ?_)
  exact ⟨⟨[_], tm, rfl⟩, tv⟩
theorem HW (N : Nat) (p0 : List (List Bool)) (r : (List (List Bool))) (h : C8 N p0 = some r) : Al zA 102 [pD (.sl (p0.map (FP eB)))] [(1, r.map (FP eB))] (oD (.own 0)) := by
 unfold C8 at h
 refine cw (n := 8) (rs := [.tmp 2]) Tryz.func102 fun w0 S0 => ?_
 refine wq rfl (qa rfl (Ac (wp rfl (qm rfl ?_))))
 refine Mk (.p rfl) rfl EM ?_
 refine Ac ?_
 refine Mv rfl (fun c2 => ?_) ?_
 ·have c2 := xN.1 c2
  rw [c2] at h
  have h : (some (([] : List (List Bool)))) = some r := h
  refine wq rfl (qe rfl ?_)
  obtain rfl := sj h
  refine Ad ((A9 2 2001 1 rfl rfl rfl).trans (sm [(1000, 2001)] [(2, oD (.own 1000))] [(1000, .vec 1 ((([] : List (List Bool))).map (FP eB)))] rfl rfl)) (Aq ?_)
  exact ⟨⟨[_], tm, rfl⟩, ⟨rfl, tv⟩⟩
 ·refine Ai (wq rfl (Dt EM Kd UQ rfl (qm rfl ?_)))
  refine F3 h fun c1 h => IN (f := (FP eB)) EM EM Kd W7 UQ (fun _ => rfl) c1 rfl (qe rfl ?_)
  obtain rfl := sj h
  refine Ad (sm [(1000, 7)] [(2, oD (.own 1000))] [(1000, .vec 1 (((([] : List (List Bool))) ++ p0).map (FP eB)))] rfl rfl) (Aq ?_)
  exact ⟨⟨[_], tm, rfl⟩, ⟨rfl, tv⟩⟩
theorem Hh (N : Nat) (p0 : List Bool) (r : (List Bool)) (h : CT N p0 = some r) : Al zA 103 [pD (.sl (p0.map eB))] [(1, r.map eB)] (oD (.own 0)) := by
 unfold CT at h
 refine cw (n := 8) (rs := [.tmp 2]) Tryz.func103 fun w0 S0 => ?_
 refine wq rfl (qa rfl (Ac (wp rfl (qm rfl ?_))))
 refine Mk (.p rfl) rfl Fw ?_
 refine Ac ?_
 refine Mv rfl (fun c2 => ?_) ?_
 ·have c2 := xN.1 c2
  rw [c2] at h
  have h : (some (([] : List Bool))) = some r := h
  refine wq rfl (qe rfl ?_)
  obtain rfl := sj h
  refine Ad ((A9 2 2001 1 rfl rfl rfl).trans (sm [(1000, 2001)] [(2, oD (.own 1000))] [(1000, .vec 1 ((([] : List Bool)).map eB))] rfl rfl)) (Aq ?_)
  exact ⟨⟨[_], tm, rfl⟩, ⟨rfl, tv⟩⟩
 ·refine Ai (wq rfl (Dt Fw PQ Uo rfl (qm rfl ?_)))
  refine F3 h fun c1 h => IN (f := eB) Fw Fw PQ Xo Uo (fun _ => rfl) c1 rfl (qe rfl ?_)
  obtain rfl := sj h
  refine Ad (sm [(1000, 7)] [(2, oD (.own 1000))] [(1000, .vec 1 (((([] : List Bool)) ++ p0).map eB))] rfl rfl) (Aq ?_)
  exact ⟨⟨[_], tm, rfl⟩, ⟨rfl, tv⟩⟩
theorem PP (N : Nat) (p0 : An) (r : An) (h : GP N p0 = some r) : Al zA 73 [.e (.agg (Bf p0))] [(1, r.fX.map (FP eB)), (1, r.fT.map (FP eB))] (.e (.agg [iC r.fP, iC r.fO, iC r.fS, .pure (.val (.bool r.fY)), .own 0, .own 1])) := by
 unfold GP at h
 refine cw (n := 48) (rs := [.cell 2 84]) Tryz.func73 fun w0 S0 => ?_
 refine wq rfl (qb rfl (qz Jp rfl (Ac (wq rfl (qf Hx rfl (ql IL rfl ?_))))))
 refine Bv h fun v1 a1 h => Aw [2001] (HW N p0.fX v1 a1) al rfl (qf FH rfl (ql IL rfl ?_))
 refine Bv h fun v2 a2 h => Aw [2002] (HW N p0.fT v2 a2) al rfl (qf Hx rfl (qs Zl rfl (qf FH rfl (qs Zl rfl (AK (by kernel_rfl) (wp rfl (qf Hx rfl (ql IL rfl (Fm EM rfl (qm rfl (Ac ?_)))))))))))
 refine AC (L := D7 N v1) h (fun v3 => mk [(1, oD (.ptr 1 0)), (2, oD (.ptr 2 0)), (15, iD ((v1.length : Int))), (16, iD v3.2)] [(1, .box [iC p0.fP, iC p0.fO, iC p0.fS, .pure (.val (.bool p0.fY)), .own 2003, .own 2004]), (2, .box [iC 0, iC 0, iC 0, .pure (.val (.bool false)), .pure (.nil0), .pure (.nil0)]), (2003, .vec 1 (v3.1.map (FP eB))), (2004, .vec 1 (v2.map (FP eB)))]) (fun v4 => mk [(1, oD (.ptr 1 0)), (2, oD (.ptr 2 0))] [(1, .box [iC p0.fP, iC p0.fO, iC p0.fS, .pure (.val (.bool p0.fY)), .own 2005, .own 2006]), (2, .box [iC 0, iC 0, iC 0, .pure (.val (.bool false)), .pure (.nil0), .pure (.nil0)]), (2005, .vec 1 (v4.map (FP eB))), (2006, .vec 1 (v2.map (FP eB)))]) (fun _ _ => rfl) (sm [(2003, 2001), (2004, 2002)] _ _ rfl rfl) (fun j3 n3 v3 h => ?_) (fun v4 s h hs => ?_)
 ·unfold D7 at h
  refine wq rfl (AX rfl (Ac (AM ?_)))
  refine Ba h (fun h => ?_) fun h => ?_
  ·refine Ai (AM (AJ (wq rfl (qm rfl (qa rfl (Ac (Ah Ax rfl (qf Hx rfl (ql IL rfl (qm rfl (qf Hx rfl (ql IL rfl (qm rfl ?_)))))))))))))
   refine BE h fun v6 a6 b6 h => qI EM Kd a6 (Af b6) rfl (qj O3 (Af b6) rfl ?_)
   refine Bv h fun v7 a7 h => Aw [] ((Hh N v6 v7 a7).share rfl) ai rfl ?_
   refine BE h fun v8 a8 b8 h => qI EM Kd a8 (Af b8) rfl ?_
   refine DM rfl rfl rfl rfl (Af b8) rfl Kd rfl (Jt rfl) (DF (FP eB) v3.1 _ v7) ?_
   refine AK (by kernel_rfl) (Ah Ax rfl (AY rfl (qm rfl (Ac ?_))))
   exact sn [] h
  ·refine AU ?_
   exact sn [(2005, 2003), (2006, 2004)] h
 ·refine Ad hs (wp rfl (qf FH rfl (ql IL rfl (Fm EM rfl (qm rfl (Ac ?_))))))
  refine AC (L := Da N v2) h (fun v9 => mk [(1, oD (.ptr 1 0)), (2, oD (.ptr 2 0)), (32, iD ((v2.length : Int))), (33, iD v9.2)] [(1, .box [iC p0.fP, iC p0.fO, iC p0.fS, .pure (.val (.bool p0.fY)), .own 2007, .own 2008]), (2, .box [iC 0, iC 0, iC 0, .pure (.val (.bool false)), .pure (.nil0), .pure (.nil0)]), (2007, .vec 1 (v4.map (FP eB))), (2008, .vec 1 (v9.1.map (FP eB)))]) (fun v10 => mk [(1, oD (.ptr 1 0)), (2, oD (.ptr 2 0))] [(1, .box [iC p0.fP, iC p0.fO, iC p0.fS, .pure (.val (.bool p0.fY)), .own 2009, .own 2010]), (2, .box [iC 0, iC 0, iC 0, .pure (.val (.bool false)), .pure (.nil0), .pure (.nil0)]), (2009, .vec 1 (v4.map (FP eB))), (2010, .vec 1 (v10.map (FP eB)))]) (fun _ _ => rfl) (sm [(2007, 2005), (2008, 2006)] _ _ rfl rfl) (fun j9 n9 v9 h => ?_) (fun v10 s h hs => ?_)
  ·unfold Da at h
   refine wq rfl (AX rfl (Ac (AM ?_)))
   refine Ba h (fun h => ?_) fun h => ?_
   ·refine Ai (AM (AJ (wq rfl (qm rfl (qa rfl (Ac (Ah Ax rfl (qf FH rfl (ql IL rfl (qm rfl (qf FH rfl (ql IL rfl (qm rfl ?_)))))))))))))
    refine BE h fun v12 a12 b12 h => qI EM Kd a12 (Af b12) rfl (qj O3 (Af b12) rfl ?_)
    refine Bv h fun v13 a13 h => Aw [] ((Hh N v12 v13 a13).share rfl) ai rfl ?_
    refine BE h fun v14 a14 b14 h => qI EM Kd a14 (Af b14) rfl ?_
    refine DM rfl rfl rfl rfl (Af b14) rfl Kd rfl (Jt rfl) (DF (FP eB) v9.1 _ v13) ?_
    refine AK (by kernel_rfl) (Ah Ax rfl (AY rfl (qm rfl (Ac ?_))))
    exact sn [] h
   ·refine AU ?_
    exact sn [(2009, 2007), (2010, 2008)] h
  ·refine Ad hs (wq rfl (qL He Dv rfl (qs Dv rfl (Ac ?_))))
   obtain rfl := sj h
   refine Ad (sm [(1000, 2009), (1001, 2010)] [(2, oD (.ptr 2 0))] [(2, .box [iC p0.fP, iC p0.fO, iC p0.fS, .pure (.val (.bool p0.fY)), .own 1000, .own 1001]), (1000, .vec 1 (v4.map (FP eB))), (1001, .vec 1 (v10.map (FP eB)))] rfl rfl) (Aq ?_)
   exact ⟨⟨[_], ⟨.cellN _ _ _ _ _ _ _ rfl rfl He Dv rfl rfl (JT rfl), tv⟩, rfl⟩, ⟨rfl, rfl, tv⟩⟩
theorem KP (N : Nat) (p0 : Aa) (p1 : List Int) (r : Aa × Int) (h : Ff N p0 p1 = some r) : Al zA 39 [.e (.agg (Ag p0)), pD (.sl (p1.map Ak))] [(1, r.1.fJ.map Ak), (1, r.1.fQ.map Ak), (1, r.1.fU.map Ak), (6, r.1.fK.map AP)] (.tup [.agg [.own 0, .own 1, .own 2, .own 3], .one (iC r.2)]) := by
 unfold Ff at h
 refine cw (n := 121) (rs := [.cell 4 29, .tmp 5]) Tryz.func39 fun w0 S0 => ?_
 refine wq rfl (qb rfl (qz Kn rfl (qa rfl (Ac (wp rfl (qL Ct BQ rfl ?_))))))
 refine Bv h fun v1 a1 h => Aw [] (Fc N p0 v1 a1) WX rfl (qa rfl (Ac (wq rfl (qm rfl (Bt rfl (Ac ?_))))))
 refine Ba h (fun h => ?_) fun h => ?_
 ·refine wq rfl (Bm Kn TJ rfl (qm rfl (qs BQ rfl (qe rfl ?_))))
  obtain rfl := sj h
  refine Ad ((Ar 4 0 2001 1 _ rfl rfl rfl rfl).trans ((Ar 4 1 2002 1 _ rfl rfl rfl rfl).trans ((Ar 4 2 2003 1 _ rfl rfl rfl rfl).trans ((Ar 4 3 2004 6 _ rfl rfl rfl rfl).trans (sm [(1000, 2001), (1001, 2002), (1002, 2003), (1003, 2004)] [(4, oD (.ptr 4 0)), (5, iD v1)] [(4, .box [.own 1000, .own 1001, .own 1002, .own 1003]), (1000, .vec 1 ((([] : List Int)).map Ak)), (1001, .vec 1 ((([] : List Int)).map Ak)), (1002, .vec 1 ((([] : List Int)).map Ak)), (1003, .vec 6 ((([] : List An)).map AP))] rfl rfl))))) (Aq ?_)
  exact ⟨⟨[_, _], ⟨.cellN _ _ _ _ _ _ _ rfl rfl Ct BQ rfl rfl (JT rfl), tm⟩, rfl⟩, ⟨rfl, rfl, rfl, rfl, tv⟩⟩
 ·refine Ai (wp rfl (qm rfl (AF As rfl (qm rfl (Ac ?_)))))
  refine AC (L := CC N p1) h (fun v3 => mk [(1, pD (.sl (p1.map Ak))), (2, oD (.ptr 2 0)), (4, oD (.ptr 4 0)), (22, iD ((p1.length : Int))), (23, iD v3)] [(2, .box (Ag p0)), (4, .box [.pure (.nil0), .pure (.nil0), .pure (.nil0), .pure (.nil0)])]) (fun v4 => mk [(1, pD (.sl (p1.map Ak))), (2, oD (.ptr 2 0)), (4, oD (.ptr 4 0))] [(2, .box (Ag p0)), (4, .box [.pure (.nil0), .pure (.nil0), .pure (.nil0), .pure (.nil0)])]) (fun _ _ => rfl) (sm [] _ _ rfl rfl) (fun j3 n3 v3 h => ?_) (fun v4 s h hs => ?_)
  ·unfold CC at h
   refine wq rfl (AX rfl (Ac (AM ?_)))
   refine Ba h (fun h => ?_) fun h => ?_
   ·refine Ai (AM (AJ (wq rfl (qm rfl (qe rfl ?_)))))
    refine AS h (fun v6 => mk [(1, pD (.sl (p1.map Ak))), (2, oD (.ptr 2 0)), (4, oD (.ptr 4 0)), (22, iD ((p1.length : Int))), (23, iD v3), (39, bD v6)] [(2, .box (Ag p0)), (4, .box [.pure (.nil0), .pure (.nil0), .pure (.nil0), .pure (.nil0)])]) (fun j6 h => ?_) (fun v6 h => ?_)
    ·refine Ah Ax rfl (qm rfl (FN rfl (qm rfl ?_)))
     refine D4 28 h rfl (fun h => ?_) fun h => ?_
     ·refine qw 2 rfl ?_
      refine BE h fun v8 a8 b8 h => qi As CJ a8 (Af b8) rfl (qk B5 rfl (qw 2 rfl (JD rfl ?_)))
      refine BE h fun v9 a9 b9 h => qi As CJ a9 (Af b9) rfl (qk B5 rfl (PT rfl (qp rfl (AK (by kernel_rfl) ?_))))
      exact sn [] h
     ·refine qw 10 rfl (qp rfl (AK (by kernel_rfl) ?_))
      exact sn [] h
    ·refine Ba h (fun h => ?_) fun h => ?_
     ·refine wq rfl (Bm Kn TJ rfl (qs BQ rfl (qe rfl ?_)))
      obtain rfl := sj h
      refine Ad ((Ar 4 0 2005 1 _ rfl rfl rfl rfl).trans ((Ar 4 1 2006 1 _ rfl rfl rfl rfl).trans ((Ar 4 2 2007 1 _ rfl rfl rfl rfl).trans ((Ar 4 3 2008 6 _ rfl rfl rfl rfl).trans (sm [(1000, 2005), (1001, 2006), (1002, 2007), (1003, 2008)] [(4, oD (.ptr 4 0)), (5, iD 1)] [(4, .box [.own 1000, .own 1001, .own 1002, .own 1003]), (1000, .vec 1 ((([] : List Int)).map Ak)), (1001, .vec 1 ((([] : List Int)).map Ak)), (1002, .vec 1 ((([] : List Int)).map Ak)), (1003, .vec 6 ((([] : List An)).map AP))] rfl rfl))))) (Aq ?_)
      exact ⟨⟨[_, _], ⟨.cellN _ _ _ _ _ _ _ rfl rfl Ct BQ rfl rfl (JT rfl), tm⟩, rfl⟩, ⟨rfl, rfl, rfl, rfl, tv⟩⟩
     ·refine Ai (Ah Ax rfl (AY rfl (qm rfl (Ac ?_))))
      exact sn [] h
   ·refine AU ?_
    exact sn [] h
  ·refine Ad hs (wq rfl (qz Kn rfl (Ac (wp rfl (qm rfl (AF As rfl (qm rfl (Ac ?_))))))))
   refine AC (L := DW N p0 p1) h (fun v11 => mk [(1, pD (.sl (p1.map Ak))), (2, oD (.ptr 2 0)), (4, oD (.ptr 4 0)), (8, oD (.ptr 8 0)), (42, pD (.sl (p1.map Ak))), (43, iD ((p1.length : Int))), (44, iD v11.2.2.2)] [(2, .box (Ag p0)), (4, .box [.pure (.nil0), .pure (.nil0), .pure (.nil0), .pure (.nil0)]), (8, .box [.own 2009, .own 2010, .own 2011, .pure (.nil0)]), (2009, .vec 1 (v11.1.map Ak)), (2010, .vec 1 (v11.2.1.map Ak)), (2011, .vec 1 (v11.2.2.1.map Ak))]) (fun v12 => mk [(1, pD (.sl (p1.map Ak))), (2, oD (.ptr 2 0)), (4, oD (.ptr 4 0)), (8, oD (.ptr 8 0))] [(2, .box (Ag p0)), (4, .box [.pure (.nil0), .pure (.nil0), .pure (.nil0), .pure (.nil0)]), (8, .box [.own 2012, .own 2013, .own 2014, .pure (.nil0)]), (2012, .vec 1 (v12.1.map Ak)), (2013, .vec 1 (v12.2.1.map Ak)), (2014, .vec 1 (v12.2.2.map Ak))]) (fun _ _ => rfl) ((Ar 8 0 2019 1 _ rfl rfl rfl rfl).trans ((Ar 8 1 2020 1 _ rfl rfl rfl rfl).trans ((Ar 8 2 2021 1 _ rfl rfl rfl rfl).trans (sm [(2009, 2019), (2010, 2020), (2011, 2021)] _ _ rfl rfl)))) (fun j11 n11 v11 h => ?_) (fun v12 s h hs => ?_)
   ·unfold DW at h
    refine wq rfl (AX rfl (Ac (AM ?_)))
    refine Ba h (fun h => ?_) fun h => ?_
    ·refine Ai (AM (AJ (wq rfl ?_)))
     refine BE h fun v14 a14 b14 h => qi As CJ a14 (Af b14) rfl (qk B5 rfl (qa rfl (Ac (wp rfl (qm rfl (qf Bd rfl (ql A4 rfl (AF As rfl ?_))))))))
     refine Bv h fun v15 a15 h => Aw [] (Ha N v14 ((p0.fJ.length : Int)) v15 a15) X0 rfl (Cg rfl (Ac ?_))
     refine Ba h (fun h => ?_) fun h => ?_
     ·refine wq rfl (Bm Kn TJ rfl (qs BQ rfl (qe rfl ?_)))
      obtain rfl := sj h
      refine Ad ((Ar 4 0 2015 1 _ rfl rfl rfl rfl).trans ((Ar 4 1 2016 1 _ rfl rfl rfl rfl).trans ((Ar 4 2 2017 1 _ rfl rfl rfl rfl).trans ((Ar 4 3 2018 6 _ rfl rfl rfl rfl).trans (sm [(1000, 2015), (1001, 2016), (1002, 2017), (1003, 2018)] [(4, oD (.ptr 4 0)), (5, iD 4)] [(4, .box [.own 1000, .own 1001, .own 1002, .own 1003]), (1000, .vec 1 ((([] : List Int)).map Ak)), (1001, .vec 1 ((([] : List Int)).map Ak)), (1002, .vec 1 ((([] : List Int)).map Ak)), (1003, .vec 6 ((([] : List An)).map AP))] rfl rfl))))) (Aq ?_)
      exact ⟨⟨[_, _], ⟨.cellN _ _ _ _ _ _ _ rfl rfl Ct BQ rfl rfl (JT rfl), tm⟩, rfl⟩, ⟨rfl, rfl, rfl, rfl, tv⟩⟩
     ·refine Ai (wq rfl (qf Bd rfl (ql A4 rfl (qf Bd rfl (ql A4 rfl (qm rfl ?_))))))
      refine BE h fun v17 a17 b17 h => qi As CJ a17 (Af b17) rfl (qk B5 rfl (Dt As CJ Ja rfl ?_))
      refine F3 h fun c18 h => CP (f := Ak) As As CJ Ko Ja c18 rfl (qf Bd rfl (qs Ix rfl (AK (by kernel_rfl) (wq rfl (qf FF rfl (ql A4 rfl (qf FF rfl (ql A4 rfl (qm rfl ?_)))))))))
      refine BE h fun v19 a19 b19 h => qi As CJ a19 (Af b19) rfl (qk B5 rfl (Dt As CJ Ja rfl ?_))
      refine F3 h fun c20 h => CP (f := Ak) As As CJ Ko Ja c20 rfl (qf FF rfl (qs Ix rfl (AK (by kernel_rfl) (Ah Ax rfl (qf GF rfl (ql A4 rfl (qf GF rfl (ql A4 rfl (qm rfl ?_)))))))))
      refine BE h fun v21 a21 b21 h => qi As CJ a21 (Af b21) rfl (qk B5 rfl (Dt As CJ Ja rfl ?_))
      refine F3 h fun c22 h => CP (f := Ak) As As CJ Ko Ja c22 rfl (qf GF rfl (qs Ix rfl (AK (by kernel_rfl) (Ah Ax rfl (AY rfl (qm rfl (Ac ?_)))))))
      exact sn [(2009, 63), (2010, 73), (2011, 83)] h
    ·refine AU ?_
     exact sn [(2012, 2009), (2013, 2010), (2014, 2011)] h
   ·refine Ad hs (wp rfl (qf Cl rfl (ql Hn rfl (AF DH rfl (qm rfl (Ac ?_))))))
    refine AC (L := CX N p0 p1) h (fun v23 => mk [(1, pD (.sl (p1.map Ak))), (4, oD (.ptr 4 0)), (8, oD (.ptr 8 0)), (87, pD (.sl (p0.fK.map AP))), (88, iD ((p0.fK.length : Int))), (89, iD v23.2)] [(4, .box [.pure (.nil0), .pure (.nil0), .pure (.nil0), .pure (.nil0)]), (8, .box [.own 2022, .own 2023, .own 2024, .own 2025]), (2022, .vec 1 (v12.1.map Ak)), (2023, .vec 1 (v12.2.1.map Ak)), (2024, .vec 1 (v12.2.2.map Ak)), (2025, .vec 6 (v23.1.map AP))]) (fun v24 => mk [(4, oD (.ptr 4 0)), (8, oD (.ptr 8 0))] [(4, .box [.pure (.nil0), .pure (.nil0), .pure (.nil0), .pure (.nil0)]), (8, .box [.own 2026, .own 2027, .own 2028, .own 2029]), (2026, .vec 1 (v12.1.map Ak)), (2027, .vec 1 (v12.2.1.map Ak)), (2028, .vec 1 (v12.2.2.map Ak)), (2029, .vec 6 (v24.map AP))]) (fun _ _ => rfl) ((Ar 8 3 2040 6 _ rfl rfl rfl rfl).trans (sm [(2022, 2012), (2023, 2013), (2024, 2014), (2025, 2040)] _ _ rfl rfl)) (fun j23 n23 v23 h => ?_) (fun v24 s h hs => ?_)
    ·unfold CX at h
     refine wq rfl (AX rfl (Ac (AM ?_)))
     refine Ba h (fun h => ?_) fun h => ?_
     ·refine Ai ?_
      refine AS h (fun v26 => mk [(1, pD (.sl (p1.map Ak))), (4, oD (.ptr 4 0)), (8, oD (.ptr 8 0)), (87, pD (.sl (p0.fK.map AP))), (88, iD ((p0.fK.length : Int))), (89, iD v23.2)] [(4, .box [.pure (.nil0), .pure (.nil0), .pure (.nil0), .pure (.nil0)]), (8, .box [.own 2030, .own 2031, .own 2032, .own 2033]), (2030, .vec 1 (v12.1.map Ak)), (2031, .vec 1 (v12.2.1.map Ak)), (2032, .vec 1 (v12.2.2.map Ak)), (2033, .vec 6 (v26.map AP))]) (fun j26 h => ?_) (fun v26 h => ?_)
      ·refine AJ (wq rfl ?_)
       refine BE h fun v27 a27 b27 h => qi DH Dv a27 (Af b27) rfl (qK He Dv rfl (qz Jp rfl (qs Dv rfl (Ac (wq rfl (qm rfl (qf Dg rfl (ql B5 rfl ?_))))))))
       refine Bv h fun v28 a28 h => Aw [] (Is N p1 v27.fO v28 a28) cq rfl (qm rfl (qf H1 rfl (ql B5 rfl ?_)))
       refine Bv h fun v29 a29 h => Aw [] (Is N p1 v27.fS v29 a29) cq rfl (qa rfl (qa rfl (AK (by kernel_rfl) ?_)))
       refine AS h (fun v30 => mk [(1, pD (.sl (p1.map Ak))), (4, oD (.ptr 4 0)), (8, oD (.ptr 8 0)), (12, oD (.ptr 12 0)), (13, iD v28), (14, iD v29), (87, pD (.sl (p0.fK.map AP))), (88, iD ((p0.fK.length : Int))), (89, iD v23.2), (106, bD v30)] [(4, .box [.pure (.nil0), .pure (.nil0), .pure (.nil0), .pure (.nil0)]), (8, .box [.own 2034, .own 2035, .own 2036, .own 2037]), (12, .box (Bf v27)), (2034, .vec 1 (v12.1.map Ak)), (2035, .vec 1 (v12.2.1.map Ak)), (2036, .vec 1 (v12.2.2.map Ak)), (2037, .vec 6 (v23.1.map AP))]) (fun j30 h => ?_) (fun v30 h => ?_)
       ·refine Ah Ax rfl (qm rfl (Ew rfl (qm rfl ?_)))
        refine D4 103 h rfl (fun h => ?_) fun h => ?_
        ·refine qm rfl (Ew rfl (qp rfl (Ac ?_)))
         exact sn [(2034, 2022), (2035, 2023), (2036, 2024), (2037, 2025)] h
        ·refine qw 2 rfl (qp rfl (Ac ?_))
         exact sn [(2034, 2022), (2035, 2023), (2036, 2024), (2037, 2025)] h
       ·refine Ba h (fun h => ?_) fun h => ?_
        ·refine wq rfl (qL He Dv rfl ?_)
         refine Bv h fun v33 a33 h => Aw [2038, 2039] (PP N v27 v33 a33) fr rfl (qs Dv rfl (Ac (wq rfl (qw 2 rfl (qf Dg rfl (qs CJ rfl (qf H1 rfl (qs CJ rfl (Ac (Ah Ax rfl (qf Cl rfl (ql Hn rfl (qL He Dv rfl (Dn (Bp 2038 _ _ rfl rfl) (Dn (Bp 2039 _ _ rfl rfl) (Dt DH Dv Jp rfl ?_))))))))))))))))
         refine F3 h fun c34 h => CP (f := AP) DH DH Dv W9 Jp c34 rfl (qf Cl rfl (qs aV rfl (Ac ?_)))
         exact sn [(2030, 2034), (2031, 2035), (2032, 2036), (2033, 117)] h
        ·refine Ai ?_
         exact sn [(2030, 2034), (2031, 2035), (2032, 2036), (2033, 2037)] h
      ·refine Ah Ax rfl (AY rfl (qm rfl (Ac ?_)))
       exact sn [(2022, 2030), (2023, 2031), (2024, 2032), (2025, 2033)] h
     ·refine AU ?_
      exact sn [(2026, 2022), (2027, 2023), (2028, 2024), (2029, 2025)] h
    ·refine Ad hs (wq rfl (qL Ct BQ rfl (qs BQ rfl (qe rfl ?_))))
     obtain rfl := sj h
     refine Ad (sm [(1000, 2026), (1001, 2027), (1002, 2028), (1003, 2029)] [(4, oD (.ptr 4 0)), (5, iD 0)] [(4, .box [.own 1000, .own 1001, .own 1002, .own 1003]), (1000, .vec 1 (v12.1.map Ak)), (1001, .vec 1 (v12.2.1.map Ak)), (1002, .vec 1 (v12.2.2.map Ak)), (1003, .vec 6 (v24.map AP))] rfl rfl) (Aq ?_)
     exact ⟨⟨[_, _], ⟨.cellN _ _ _ _ _ _ _ rfl rfl Ct BQ rfl rfl (JT rfl), tm⟩, rfl⟩, ⟨rfl, rfl, rfl, rfl, tv⟩⟩
theorem C9 (N : Nat) (p0 : List Int) (r : (List Int)) (h : Bb N p0 = some r) : Al zA 13 [pD (.sl (p0.map Ak))] [(1, r.map Ak)] (oD (.own 0)) := by
 unfold Bb at h
 refine cw (n := 8) (rs := [.tmp 2]) Tryz.func13 fun w0 S0 => ?_
 refine wq rfl (qa rfl (Ac (wp rfl (qm rfl ?_))))
 refine Mk (.p rfl) rfl As ?_
 refine Ac ?_
 refine Mv rfl (fun c2 => ?_) ?_
 ·have c2 := xN.1 c2
  rw [c2] at h
  have h : (some (([] : List Int))) = some r := h
  refine wq rfl (qe rfl ?_)
  obtain rfl := sj h
  refine Ad ((A9 2 2001 1 rfl rfl rfl).trans (sm [(1000, 2001)] [(2, oD (.own 1000))] [(1000, .vec 1 ((([] : List Int)).map Ak))] rfl rfl)) (Aq ?_)
  exact ⟨⟨[_], tm, rfl⟩, ⟨rfl, tv⟩⟩
 ·refine Ai (wq rfl (Dt As CJ Ja rfl (qm rfl ?_)))
  refine F3 h fun c1 h => IN (f := Ak) As As CJ Ko Ja (fun _ => rfl) c1 rfl (qe rfl ?_)
  obtain rfl := sj h
  refine Ad (sm [(1000, 7)] [(2, oD (.own 1000))] [(1000, .vec 1 (((([] : List Int)) ++ p0).map Ak))] rfl rfl) (Aq ?_)
  exact ⟨⟨[_], tm, rfl⟩, ⟨rfl, tv⟩⟩
theorem Ob (N : Nat) (p0 : Int) (p1 : Int) (r : Int × Int) (h : Ib N p0 p1 = some r) : Al zA 166 [pD (.val (.int .u32 p0)), pD (.val (.int .u32 p1))] [] (.tup [.one (.pure (.val (.int .u32 r.1))), .one (.pure (.val (.int .u32 r.2)))]) := by
 unfold Ib at h
 refine cw (n := 17) (rs := [.tmp 4, .tmp 5]) Tryz.func166 fun w0 S0 => ?_
 refine wq rfl (qa rfl (qa rfl (Ac (wq rfl (qm rfl (Jj Vn ad rfl (qm rfl (Jj Vn ad rfl (Nr rfl (qa rfl (Ac (wq rfl (qm rfl (GM rfl (by decide) (Jj Xe Tv rfl (qm rfl (Jj Xe Tv rfl (qa rfl (qe rfl ?_)))))))))))))))))))
 obtain rfl := sj h
 refine Ad (sm [] [(4, pD (.val (.int .u32 ((wI .u32 ((A0 .u64 ((wI .u64 ((wI .u64 p0) * (wI .u64 p1)))) 32))))))), (5, pD (.val (.int .u32 ((wI .u32 ((wI .u64 ((wI .u64 p0) * (wI .u64 p1)))))))))] [] rfl rfl) (Aq ?_)
 exact ⟨⟨[_, _], ⟨.tmp _ _ rfl, tm⟩, rfl⟩, tv⟩
theorem NG (N : Nat) (p0 : Int) (p1 : Int) (r : Int × Int) (h : H3 N p0 p1 = some r) : Al zA 167 [pD (.val (.int .u64 p0)), pD (.val (.int .u64 p1))] [] (.tup [.one (.pure (.val (.int .u64 r.1))), .one (.pure (.val (.int .u64 r.2)))]) := by
 unfold H3 at h
 refine cw (n := 51) (rs := [.tmp 4, .tmp 5]) Tryz.func167 fun w0 S0 => ?_
 refine wq rfl (qa rfl (qa rfl (Ac (wq rfl (qm rfl (IJ rfl (qa rfl (Ac (wq rfl (qm rfl (GM rfl (by decide) (qa rfl (Ac (wq rfl (qm rfl (IJ rfl (qa rfl (Ac (wq rfl (qm rfl (GM rfl (by decide) (qa rfl (Ac (wq rfl (qw 2 rfl (Nr rfl (qa rfl (Ac (wq rfl (qw 2 rfl ?_))))))))))))))))))))))))))))))
 refine Nr rfl (qm rfl (GM rfl (by decide) (AY rfl (qa rfl (Ac (wq rfl (qm rfl (IJ rfl (qa rfl (Ac (wq rfl (qm rfl (GM rfl (by decide) (qa rfl (Ac (wq rfl (qw 3 rfl (Nr rfl (AY rfl (qa rfl (Ac (wq rfl (qw 2 rfl (Nr rfl (qm rfl (AY rfl (qm rfl (GM rfl (by decide) (AY rfl (qa rfl (Ac (AM ?_))))))))))))))))))))))))))))))))
 refine Ah Ax rfl (qw 2 rfl (Nr rfl (qe rfl ?_)))
 obtain rfl := sj h
 refine Ad (sm [] [(4, pD (.val (.int .u64 ((wI .u64 ((wI .u64 ((wI .u64 ((A0 .u64 p0 32) * (A0 .u64 p1 32))) + (A0 .u64 ((wI .u64 ((wI .u64 ((A0 .u64 p0 32) * (AL .u64 p1 4294967295))) + (A0 .u64 ((wI .u64 ((AL .u64 p0 4294967295) * (AL .u64 p1 4294967295)))) 32)))) 32))) + (A0 .u64 ((wI .u64 ((AL .u64 ((wI .u64 ((wI .u64 ((A0 .u64 p0 32) * (AL .u64 p1 4294967295))) + (A0 .u64 ((wI .u64 ((AL .u64 p0 4294967295) * (AL .u64 p1 4294967295)))) 32)))) 4294967295) + (wI .u64 ((AL .u64 p0 4294967295) * (A0 .u64 p1 32)))))) 32))))))), (5, pD (.val (.int .u64 ((wI .u64 (p0 * p1))))))] [] rfl rfl) (Aq ?_)
 exact ⟨⟨[_, _], ⟨.tmp _ _ rfl, tm⟩, rfl⟩, tv⟩
theorem O8 (N : Nat) (p0 : Int) (p1 : Int) (r : Int × Int) (h : IM N p0 p1 = some r) : Al zA 137 [pD (.val (.int .u64 p0)), pD (.val (.int .u64 p1))] [] (.tup [.one (.pure (.val (.int .u64 r.1))), .one (.pure (.val (.int .u64 r.2)))]) := by
 unfold IM at h
 refine cw (n := 30) (rs := [.tmp 4, .tmp 5]) Tryz.func137 fun w0 S0 => ?_
 refine wq rfl (qa rfl (qa rfl (Ac (AM ?_))))
 refine Ba h (fun h => ?_) fun h => ?_
 ·refine wq rfl (qm rfl (Jj Yj Tv rfl (qm rfl (Jj Yj Tv rfl ?_))))
  refine Bv h fun v2 a2 h => Aw [] (Ob N ((wI .u32 p0)) ((wI .u32 p1)) v2 a2) cA rfl (qm rfl (qx rfl (qx rfl (qa rfl (qa rfl (Ac (wq rfl (qm rfl (Jj Vn XN rfl (qm rfl (Jj Vn XN rfl (qa rfl (qe rfl ?_)))))))))))))
  obtain rfl := sj h
  refine Ad (sm [] [(4, pD (.val (.int .u64 ((wI .u64 v2.1))))), (5, pD (.val (.int .u64 ((wI .u64 v2.2)))))] [] rfl rfl) (Aq ?_)
  exact ⟨⟨[_, _], ⟨.tmp _ _ rfl, tm⟩, rfl⟩, tv⟩
 ·refine Ai (wq rfl (qw 2 rfl ?_))
  refine Bv h fun v3 a3 h => Aw [] (NG N p0 p1 v3 a3) cN rfl (qm rfl (qx rfl (qx rfl (qa rfl (qa rfl (Ac (wq rfl (qw 2 rfl (qa rfl (qe rfl ?_))))))))))
  obtain rfl := sj h
  refine Ad (sm [] [(4, pD (.val (.int .u64 v3.1))), (5, pD (.val (.int .u64 v3.2)))] [] rfl rfl) (Aq ?_)
  exact ⟨⟨[_, _], ⟨.tmp _ _ rfl, tm⟩, rfl⟩, tv⟩
theorem KQ (N : Nat) (p0 : List Int) (p1 : Int) (r : (List Int)) (h : EV N p0 p1 = some r) : Al zA 104 [pD (.sl (p0.map Ak)), iD p1] [(1, r.map Ak)] (oD (.own 0)) := by
 unfold EV at h
 refine cw (n := 48) (rs := [.tmp 4]) Tryz.func104 fun w0 S0 => ?_
 refine wq rfl (qe rfl ?_)
 refine AS h (fun v1 => mk [(0, pD (.sl (p0.map Ak))), (1, iD p1)] []) (fun j1 h => ?_) (fun v1 h => ?_)
 ·refine wq rfl (qm rfl (AX rfl (Ac ?_)))
  refine Ba h (fun h => ?_) fun h => ?_
  ·refine Ah Ax rfl ?_
   cases h
  ·refine Ai ?_
   exact sn [] h
 ·refine wq rfl (qm rfl (AF As rfl (Jj dt XN rfl (qm rfl (Jj dt XN rfl ?_)))))
  refine Bv h fun v3 a3 h => Aw [] (O8 N ((wI .u64 ((p0.length : Int)))) ((wI .u64 p1)) v3 a3) dg rfl (qm rfl (qx rfl (qx rfl (qa rfl (qe rfl ?_)))))
  refine AS h (fun v4 => mk [(0, pD (.sl (p0.map Ak))), (6, pD (.val (.int .u64 v3.2)))] []) (fun j4 h => ?_) (fun v4 h => ?_)
  ·refine AS h (fun v5 => mk [(0, pD (.sl (p0.map Ak))), (6, pD (.val (.int .u64 v3.2))), (26, bD v5)] []) (fun j5 h => ?_) (fun v5 h => ?_)
   ·refine Ah Ax rfl (qm rfl (FN rfl (qm rfl ?_)))
    refine D4 23 h rfl (fun h => ?_) fun h => ?_
    ·refine qw 2 rfl (qp rfl (Ac ?_))
     exact sn [] h
    ·refine qm rfl (FN rfl (qp rfl (Ac ?_)))
     exact sn [] h
   ·refine Ba h (fun h => ?_) fun h => ?_
    ·refine Ah Ax rfl ?_
     cases h
    ·refine Ai ?_
     exact sn [] h
  ·refine wq rfl (qm rfl (Jj Yj Xd rfl ?_))
   refine F3 h fun c8 h => Mg (.p rfl) rfl rfl rfl As CJ Ko (Jt rfl) Ja rfl rfl rfl c8.1 c8.2.1 c8.2.2 (SJ Ak _ ((0 : Int))) ?_
   refine qa rfl (Ac (wq rfl (qw 2 rfl ?_)))
   refine Vp Ak (zH ((wI .i64 v3.2)).toNat ((0 : Int))) p0 (.p rfl) rfl (Kg Ak _ _ (zH ((wI .i64 v3.2)).toNat ((0 : Int)))) rfl rfl (YN Ak _ _ (fun _ => rfl)) tv As CJ ?_
   refine qa rfl (Ac (AM ?_))
   refine AC (L := En N) h (fun v9 => mk [(7, oD (.own 2001)), (8, iD v9.2)] [(2001, .vec 1 (v9.1.map Ak))]) (fun v10 => mk [(7, oD (.own 2002))] [(2002, .vec 1 (v10.map Ak))]) (fun _ _ => rfl) (sm [(2001, 30)] _ _ rfl rfl) (fun j9 n9 v9 h => ?_) (fun v10 s h hs => ?_)
   ·unfold En at h
    refine wp rfl (qw 2 rfl (Fm As rfl (AX rfl (Ac ?_))))
    refine Ba h (fun h => ?_) fun h => ?_
    ·refine Ai (AJ (Ah Ax rfl (qw 3 rfl ?_)))
     obtain ⟨c12, h⟩ := HO h
     have w13 : ((v9.2).toNat) + ((v9.1.length - (v9.2).toNat)) ≤ v9.1.length := by have := c12.2.1; have := c12.2.2; omega
     refine KN Ak v9.1 (.p rfl) rfl (Kg Ak _ _ v9.1) rfl As CJ (.some _ _ _ _ c12.1) (.none _) ⟨rfl, tv⟩ tv c12.2.1 (by rw [zC]; exact c12.2.2) (zC _) rfl ?_
     refine qw 2 rfl ?_
     obtain ⟨c14, h⟩ := HO h
     have w15 : 0 + ((v9.2).toNat) ≤ v9.1.length := by have := c14.2.1; have := c14.2.2; omega
     refine KN Ak v9.1 (.p rfl) rfl (Kg Ak _ _ v9.1) rfl As CJ (.none _) (.some _ _ _ _ c14.1) tv ⟨rfl, tv⟩ c14.2.1 (by rw [zC]; exact c14.2.2) (zC _) rfl ?_
     refine Vp Ak v9.1 (((v9.1.drop 0).take ((v9.2).toNat))) (.p rfl) rfl (Oj Ak _ _ ((v9.2).toNat) ((v9.1.length - (v9.2).toNat)) v9.1 w13) rfl rfl (Wb Ak _ _ 0 ((v9.2).toNat) v9.1 w15) ⟨rfl, tv⟩ As CJ ?_
     refine AY rfl (qa rfl (AK (by kernel_rfl) ?_))
     exact sn [] h
    ·refine AU ?_
     exact sn [(2002, 2001)] h
   ·refine Ad hs (wq rfl (qm rfl (qe rfl ?_)))
    obtain rfl := sj h
    refine Ad (sm [(1000, 2002)] [(4, oD (.own 1000))] [(1000, .vec 1 (v10.map Ak))] rfl rfl) (Aq ?_)
    exact ⟨⟨[_], tm, rfl⟩, ⟨rfl, tv⟩⟩
theorem K5 (N : Nat) (p0 : An) (r : Bool) (h : Ga N p0 = some r) : Al zA 105 [.e (.agg (Bf p0))] [] (bD r) := by
 unfold Ga at h
 refine cw (n := 11) (rs := [.tmp 2]) Tryz.func105 fun w0 S0 => ?_
 refine wq rfl (qb rfl (qe rfl ?_))
 refine AS h (fun v1 => mk [(2, bD v1)] []) (fun j1 h => ?_) (fun v1 h => ?_)
 ·refine Ah Ax rfl (qf GC rfl (ql B5 rfl (B7 rfl (qm rfl ?_))))
  refine D4 6 h rfl (fun h => ?_) fun h => ?_
  ·refine qw 3 rfl (qp rfl (qe rfl ?_))
   exact sn [] h
  ·refine qf GC rfl (ql B5 rfl (B7 rfl (qp rfl (qe rfl ?_))))
   exact sn [] h
 ·obtain rfl := sj h
  refine Ad (sm [] [(2, bD v1)] [] rfl rfl) (Aq ?_)
  exact ⟨⟨[_], tm, rfl⟩, tv⟩
theorem OL (N : Nat) (p0 : Aa) (r : Ab × Int) (h : Hw N p0 = some r) : Al zA 74 [.e (.agg (Ag p0))] [(1, r.1.fL.map Ak), (1, r.1.fI.map Ak), (1, r.1.fN.map Du)] (.tup [.agg [.own 0, .own 1, .own 2], .one (iC r.2)]) := by
 unfold Hw at h
 refine cw (n := 50) (rs := [.cell 2 49, .tmp 3]) Tryz.func74 fun w0 S0 => ?_
 refine wq rfl (qb rfl (qz Ea rfl (qa rfl (Ac (wp rfl (qL Ct BQ rfl ?_))))))
 refine Bv h fun v1 a1 h => Aw [] (Fc N p0 v1 a1) WX rfl (qa rfl (Ac (wq rfl (qm rfl (Bt rfl (Ac ?_))))))
 refine Ba h (fun h => ?_) fun h => ?_
 ·refine wq rfl (Bm Ea JR rfl (qm rfl (qs AV rfl (qe rfl ?_))))
  obtain rfl := sj h
  refine Ad ((Ar 2 0 2001 1 _ rfl rfl rfl rfl).trans ((Ar 2 1 2002 1 _ rfl rfl rfl rfl).trans ((Ar 2 2 2003 1 _ rfl rfl rfl rfl).trans (sm [(1000, 2001), (1001, 2002), (1002, 2003)] [(2, oD (.ptr 2 0)), (3, iD v1)] [(2, .box [.own 1000, .own 1001, .own 1002]), (1000, .vec 1 ((([] : List Int)).map Ak)), (1001, .vec 1 ((([] : List Int)).map Ak)), (1002, .vec 1 ((([] : List Int)).map Du))] rfl rfl)))) (Aq ?_)
  exact ⟨⟨[_, _], ⟨.cellN _ _ _ _ _ _ _ rfl rfl Bi AV rfl rfl (JT rfl), tm⟩, rfl⟩, ⟨rfl, rfl, rfl, tv⟩⟩
 ·refine Ai (wq rfl (qf FF rfl (ql A4 rfl ?_)))
  refine Bv h fun v3 a3 h => Aw [2004] (C9 N p0.fQ v3 a3) UC rfl (Dt As CJ Ja rfl (qf FF rfl (ql A4 rfl (AF As rfl ?_))))
  refine Bv h fun v4 a4 h => CD [2005] [17] (KQ N (([(-1)] : List Int)) ((p0.fQ.length : Int)) v4 a4) dV (Lh (fun _ => rfl) Br) rfl (qf Cl rfl (ql Hn rfl (AF DH rfl ?_)))
  refine F3 h fun c5 h => Mg (.p rfl) rfl rfl rfl Dz EF Pv (Jt rfl) Nv rfl rfl rfl c5.1 c5.2.1 c5.2.2 (SJ Du _ ((0 : Int))) ?_
  refine Bm Ea JR rfl (qz Ea rfl (qs AV rfl (AK (by kernel_rfl) (wp rfl (qf Cl rfl (ql Hn rfl (AF DH rfl (qm rfl (Ac ?_)))))))))
  refine AC (L := EE N p0) h (fun v6 => mk [(1, oD (.ptr 1 0)), (2, oD (.ptr 2 0)), (5, oD (.ptr 5 0)), (28, pD (.sl (p0.fK.map AP))), (29, iD ((p0.fK.length : Int))), (30, iD v6.2)] [(1, .box (Ag p0)), (2, .box [.pure (.nil0), .pure (.nil0), .pure (.nil0)]), (5, .box [.own 2006, .own 2007, .own 2008]), (2006, .vec 1 (v3.map Ak)), (2007, .vec 1 (v4.map Ak)), (2008, .vec 1 (v6.1.map Du))]) (fun v7 => mk [(2, oD (.ptr 2 0)), (5, oD (.ptr 5 0))] [(2, .box [.pure (.nil0), .pure (.nil0), .pure (.nil0)]), (5, .box [.own 2009, .own 2010, .own 2011]), (2009, .vec 1 (v3.map Ak)), (2010, .vec 1 (v4.map Ak)), (2011, .vec 1 (v7.map Du))]) (fun _ _ => rfl) (sm [(2006, 2004), (2007, 2005), (2008, 25)] _ _ rfl rfl) (fun j6 n6 v6 h => ?_) (fun v7 s h hs => ?_)
  ·unfold EE at h
   refine wq rfl (AX rfl (Ac (AM ?_)))
   refine Ba h (fun h => ?_) fun h => ?_
   ·refine Ai ?_
    refine AS h (fun v9 => mk [(1, oD (.ptr 1 0)), (2, oD (.ptr 2 0)), (5, oD (.ptr 5 0)), (28, pD (.sl (p0.fK.map AP))), (29, iD ((p0.fK.length : Int))), (30, iD v6.2)] [(1, .box (Ag p0)), (2, .box [.pure (.nil0), .pure (.nil0), .pure (.nil0)]), (5, .box [.own 2012, .own 2013, .own 2014]), (2012, .vec 1 (v3.map Ak)), (2013, .vec 1 (v4.map Ak)), (2014, .vec 1 (v9.map Du))]) (fun j9 h => ?_) (fun v9 h => ?_)
    ·refine AJ (wq rfl (qm rfl ?_))
     refine BE h fun v10 a10 b10 h => qi DH Dv a10 (Af b10) rfl (qK He Dv rfl (qz Jp rfl (qa rfl (qs Dv rfl (Ac (wq rfl (qL He Dv rfl ?_)))))))
     refine Bv h fun v11 a11 h => Aw [] (K5 N v10 v11 a11) XJ rfl (Ac ?_)
     refine Ba h (fun h => ?_) fun h => ?_
     ·refine Ah Ax rfl (qf CS rfl (ql HE rfl (qm rfl (qf FF rfl (ql A4 rfl (qf Dg rfl (ql B5 rfl ?_)))))))
      refine BE h fun v13 a13 b13 h => qi As CJ a13 (Af b13) rfl (qk B5 rfl ?_)
      refine F3 h fun c14 h => Jy rfl c14 ?_
      refine BE h fun v15 a15 b15 h => qI Dz EF a15 (Af b15) rfl ?_
      refine DM rfl rfl rfl rfl (Af b15) rfl EF rfl (Jt rfl) (DF Du v6.1 _ ((D8 .u8 1 v13))) ?_
      refine AK (by kernel_rfl) ?_
      exact sn [(2012, 2006), (2013, 2007), (2014, 2008)] h
     ·refine Ai ?_
      exact sn [(2012, 2006), (2013, 2007), (2014, 2008)] h
    ·refine Ah Ax rfl (AY rfl (qm rfl (Ac ?_)))
     exact sn [(2006, 2012), (2007, 2013), (2008, 2014)] h
   ·refine AU ?_
    exact sn [(2009, 2006), (2010, 2007), (2011, 2008)] h
  ·refine Ad hs (wq rfl (qL Bi AV rfl (qs AV rfl (qe rfl ?_))))
   obtain rfl := sj h
   refine Ad (sm [(1000, 2009), (1001, 2010), (1002, 2011)] [(2, oD (.ptr 2 0)), (3, iD 0)] [(2, .box [.own 1000, .own 1001, .own 1002]), (1000, .vec 1 (v3.map Ak)), (1001, .vec 1 (v4.map Ak)), (1002, .vec 1 (v7.map Du))] rfl rfl) (Aq ?_)
   exact ⟨⟨[_, _], ⟨.cellN _ _ _ _ _ _ _ rfl rfl Bi AV rfl rfl (JT rfl), tm⟩, rfl⟩, ⟨rfl, rfl, rfl, tv⟩⟩
theorem KJ (N : Nat) (p0 : Ab) (p1 : Int) (r : Int) (h : FB N p0 p1 = some r) : Al zA 156 [.e (.agg (AE p0)), iD p1] [] (pD (.val (.int .u8 r))) := by
 unfold FB at h
 refine cw (n := 27) (rs := [.tmp 4]) Tryz.func156 fun w0 S0 => ?_
 refine wq rfl (qb rfl (qa rfl (Ac (wq rfl (qf CR rfl (ql A4 rfl (qm rfl ?_)))))))
 refine BE h fun v1 a1 b1 h => qi As CJ a1 (Af b1) rfl (qk B5 rfl ?_)
 refine F3 h fun c2 h => Jy rfl c2 (qe rfl ?_)
 refine AS h (fun v3 => mk [(5, pD (.val (.int .u8 v3)))] []) (fun j3 h => ?_) (fun v3 h => ?_)
 ·refine wq rfl (qf BC rfl (ql A4 rfl (qm rfl ?_)))
  refine BE h fun v4 a4 b4 h => qi As CJ a4 (Af b4) rfl (qk B5 rfl (Ew rfl (Ac ?_)))
  refine Ba h (fun h => ?_) fun h => ?_
  ·refine Ah Ax rfl (qm rfl (qf BC rfl (ql A4 rfl (qm rfl ?_))))
   refine BE h fun v6 a6 b6 h => qi As CJ a6 (Af b6) rfl (qk B5 rfl ?_)
   refine F3 h fun c7 h => Jy rfl c7 (Xf rfl (qe rfl ?_))
   exact sn [] h
  ·refine Ai ?_
   exact sn [] h
 ·refine wq rfl (qm rfl (qe rfl ?_))
  obtain rfl := sj h
  refine Ad (sm [] [(4, pD (.val (.int .u8 v3)))] [] rfl rfl) (Aq ?_)
  exact ⟨⟨[_], tm, rfl⟩, tv⟩
theorem Kw (N : Nat) (p0 : Aa) (p1 : Ab) (r : Int) (h : FW N p0 p1 = some r) : Al zA 120 [.e (.agg (Ag p0)), .e (.agg (AE p1))] [] (iD r) := by
 unfold FW at h
 refine cw (n := 135) (rs := [.tmp 4]) Tryz.func120 fun w0 S0 => ?_
 refine wq rfl (qb rfl (qb rfl (qa rfl (Ac (wp rfl (qL Ct BQ rfl ?_))))))
 refine Bv h fun v1 a1 h => Aw [] (Fc N p0 v1 a1) WX rfl (qa rfl (Ac (wq rfl (qm rfl (Bt rfl (Ac ?_))))))
 refine Ba h (fun h => ?_) fun h => ?_
 ·refine wq rfl (qm rfl (qe rfl ?_))
  obtain rfl := sj h
  refine Ad (sm [] [(4, iD v1)] [] rfl rfl) (Aq ?_)
  exact ⟨⟨[_], tm, rfl⟩, tv⟩
 ·refine Ai (AM ?_)
  refine AS h (fun v3 => mk [(2, oD (.ptr 2 0)), (3, oD (.ptr 3 0)), (41, bD v3)] [(2, .box (Ag p0)), (3, .box (AE p1))]) (fun j3 h => ?_) (fun v3 h => ?_)
  ·refine Ah Ax rfl (qf CR rfl (ql A4 rfl (AF As rfl (qf Bd rfl (ql A4 rfl (AF As rfl (Bt rfl (qm rfl ?_))))))))
   refine D4 24 h rfl (fun h => ?_) fun h => ?_
   ·refine qw 7 rfl (qp rfl (qw 8 rfl (qp rfl (Ac ?_))))
    exact sn [] h
   ·refine qf BC rfl (ql A4 rfl (AF As rfl (qf Bd rfl (ql A4 rfl (AF As rfl (Bt rfl (qp rfl (qm rfl ?_))))))))
    refine D4 33 h rfl (fun h => ?_) fun h => ?_
    ·refine qw 7 rfl (qp rfl (Ac ?_))
     exact sn [] h
    ·refine qf CS rfl (ql HE rfl (AF Dz rfl (qf Cl rfl (ql Hn rfl (AF DH rfl (Bt rfl (qp rfl (Ac ?_))))))))
     exact sn [] h
  ·refine Ba h (fun h => ?_) fun h => ?_
   ·refine wq rfl (qe rfl ?_)
    obtain rfl := sj h
    refine Ad (sm [] [(4, iD 6)] [] rfl rfl) (Aq ?_)
    exact ⟨⟨[_], tm, rfl⟩, tv⟩
   ·refine Ai (wp rfl (qf Bd rfl (ql A4 rfl (AF As rfl (qm rfl (Ac ?_))))))
    refine AC (L := ED N p0 p1) h (fun v7 => mk [(2, oD (.ptr 2 0)), (3, oD (.ptr 3 0)), (43, pD (.sl (p0.fJ.map Ak))), (44, iD ((p0.fJ.length : Int))), (45, iD v7)] [(2, .box (Ag p0)), (3, .box (AE p1))]) (fun v8 => mk [(2, oD (.ptr 2 0)), (3, oD (.ptr 3 0))] [(2, .box (Ag p0)), (3, .box (AE p1))]) (fun _ _ => rfl) (sm [] _ _ rfl rfl) (fun j7 n7 v7 h => ?_) (fun v8 s h hs => ?_)
    ·unfold ED at h
     refine wq rfl (AX rfl (Ac (AM ?_)))
     refine Ba h (fun h => ?_) fun h => ?_
     ·refine Ai (AM (AJ (wq rfl (qm rfl ?_))))
      refine BE h fun v10 a10 b10 h => qi As CJ a10 (Af b10) rfl (qk B5 rfl (qa rfl (qa rfl (Ac (AM ?_)))))
      refine AS h (fun v11 => mk [(2, oD (.ptr 2 0)), (3, oD (.ptr 3 0)), (6, iD v7), (43, pD (.sl (p0.fJ.map Ak))), (44, iD ((p0.fJ.length : Int))), (45, iD v7), (81, bD v11)] [(2, .box (Ag p0)), (3, .box (AE p1))]) (fun j11 h => ?_) (fun v11 h => ?_)
      ·refine Ah Ax rfl (qf CR rfl (ql A4 rfl (qm rfl ?_)))
       refine BE h fun v12 a12 b12 h => qi As CJ a12 (Af b12) rfl (qk B5 rfl (AX rfl (qm rfl ?_)))
       refine D4 56 h rfl (fun h => ?_) fun h => ?_
       ·refine qw 7 rfl (qp rfl (qw 7 rfl (qp rfl (qw 8 rfl (qp rfl (Ac ?_))))))
        exact sn [] h
       ·refine qf CR rfl (ql A4 rfl (qm rfl ?_))
        refine BE h fun v14 a14 b14 h => qi As CJ a14 (Af b14) rfl (qk B5 rfl (qm rfl (Ew rfl (qp rfl (qm rfl ?_)))))
        refine D4 65 h rfl (fun h => ?_) fun h => ?_
        ·refine qw 6 rfl (qp rfl (qw 8 rfl (qp rfl (Ac ?_))))
         exact sn [] h
        ·refine qf BC rfl (ql A4 rfl (qm rfl ?_))
         refine BE h fun v16 a16 b16 h => qi As CJ a16 (Af b16) rfl (qk B5 rfl (AX rfl (qp rfl (qm rfl ?_))))
         refine D4 73 h rfl (fun h => ?_) fun h => ?_
         ·refine qw 7 rfl (qp rfl (Ac ?_))
          exact sn [] h
         ·refine qf BC rfl (ql A4 rfl (qm rfl ?_))
          refine BE h fun v18 a18 b18 h => qi As CJ a18 (Af b18) rfl (qk B5 rfl (qm rfl (Ew rfl (qp rfl (Ac ?_)))))
          exact sn [] h
      ·refine Ba h (fun h => ?_) fun h => ?_
       ·refine wq rfl (qe rfl ?_)
        obtain rfl := sj h
        refine Ad (sm [] [(4, iD 7)] [] rfl rfl) (Aq ?_)
        exact ⟨⟨[_], tm, rfl⟩, tv⟩
       ·refine Ai (wq rfl (qf CR rfl (ql A4 rfl (qm rfl ?_))))
        refine BE h fun v20 a20 b20 h => qi As CJ a20 (Af b20) rfl (qk B5 rfl (qf BC rfl (ql A4 rfl (qm rfl ?_))))
        refine BE h fun v21 a21 b21 h => qi As CJ a21 (Af b21) rfl (qk B5 rfl (B7 rfl (AK (by kernel_rfl) ?_)))
        refine Ba h (fun h => ?_) fun h => ?_
        ·refine wq rfl (qe rfl ?_)
         obtain rfl := sj h
         refine Ad (sm [] [(4, iD 1)] [] rfl rfl) (Aq ?_)
         exact ⟨⟨[_], tm, rfl⟩, tv⟩
        ·refine Ai (Ah Ax rfl (AY rfl (qm rfl (Ac ?_))))
         exact sn [] h
     ·refine AU ?_
      exact sn [] h
    ·refine Ad hs (wp rfl (qf Cl rfl (ql Hn rfl (AF DH rfl (qm rfl (Ac ?_))))))
     refine AC (L := Eg N p0 p1) h (fun v23 => mk [(2, oD (.ptr 2 0)), (3, oD (.ptr 3 0)), (95, pD (.sl (p0.fK.map AP))), (96, iD ((p0.fK.length : Int))), (97, iD v23)] [(2, .box (Ag p0)), (3, .box (AE p1))]) (fun v24 => mk [] []) (fun _ _ => rfl) (sm [] _ _ rfl rfl) (fun j23 n23 v23 h => ?_) (fun v24 s h hs => ?_)
     ·unfold Eg at h
      refine wq rfl (AX rfl (Ac (AM ?_)))
      refine Ba h (fun h => ?_) fun h => ?_
      ·refine Ai (AM (AJ (wq rfl (qm rfl ?_))))
       refine BE h fun v26 a26 b26 h => qi DH Dv a26 (Af b26) rfl (qK He Dv rfl (qz Jp rfl (qa rfl (qs Dv rfl (Ac (wq rfl (qa rfl (qe rfl ?_))))))))
       refine AS h (fun v27 => mk [(2, oD (.ptr 2 0)), (3, oD (.ptr 3 0)), (8, iD v23), (10, pD (.val (.int .u8 v27.1))), (11, pD (.val (.int .u8 v27.2))), (95, pD (.sl (p0.fK.map AP))), (96, iD ((p0.fK.length : Int))), (97, iD v23)] [(2, .box (Ag p0)), (3, .box (AE p1))]) (fun j27 h => ?_) (fun v27 h => ?_)
       ·refine wq rfl (qL He Dv rfl ?_)
        refine Bv h fun v28 a28 h => Aw [] (K5 N v26 v28 a28) XJ rfl (Ac ?_)
        refine Ba h (fun h => ?_) fun h => ?_
        ·refine Ah Ax rfl (qL Bi AV rfl (qf Dg rfl (ql B5 rfl ?_)))
         refine Bv h fun v30 a30 h => Aw [] (KJ N p1 v26.fO v30 a30) Xy rfl (qf Bd rfl (ql A4 rfl (qf Dg rfl (ql B5 rfl ?_))))
         refine BE h fun v31 a31 b31 h => qi As CJ a31 (Af b31) rfl (qk B5 rfl ?_)
         refine F3 h fun c32 h => Jy rfl c32 (JD rfl (qa rfl (qa rfl (AK (by kernel_rfl) ?_))))
         exact sn [] h
        ·refine Ai ?_
         exact sn [] h
       ·refine AS h (fun v33 => mk [(2, oD (.ptr 2 0)), (3, oD (.ptr 3 0)), (95, pD (.sl (p0.fK.map AP))), (96, iD ((p0.fK.length : Int))), (97, iD v23), (133, bD v33)] [(2, .box (Ag p0)), (3, .box (AE p1))]) (fun j33 h => ?_) (fun v33 h => ?_)
        ·refine Ah Ax rfl (qm rfl (qf CS rfl (ql HE rfl (qm rfl ?_))))
         refine BE h fun v34 a34 b34 h => qi Dz EF a34 (Af b34) rfl (qk Iz rfl (Il rfl (Bt rfl (qm rfl ?_))))
         refine D4 124 h rfl (fun h => ?_) fun h => ?_
         ·refine qw 8 rfl (qp rfl (Ac ?_))
          exact sn [] h
         ·refine qf CS rfl (ql HE rfl (qm rfl ?_))
          refine BE h fun v36 a36 b36 h => qi Dz EF a36 (Af b36) rfl (qk Iz rfl (qm rfl (Il rfl (Bt rfl (qp rfl (Ac ?_))))))
          exact sn [] h
        ·refine Ba h (fun h => ?_) fun h => ?_
         ·refine wq rfl (qe rfl ?_)
          obtain rfl := sj h
          refine Ad (sm [] [(4, iD 1)] [] rfl rfl) (Aq ?_)
          exact ⟨⟨[_], tm, rfl⟩, tv⟩
         ·refine Ai (Ah Ax rfl (AY rfl (qm rfl (Ac ?_))))
          exact sn [] h
      ·refine AU ?_
       exact sn [] h
     ·refine Ad hs (wq rfl (qe rfl ?_))
      obtain rfl := sj h
      refine Ad (sm [] [(4, iD 0)] [] rfl rfl) (Aq ?_)
      exact ⟨⟨[_], tm, rfl⟩, tv⟩
theorem Gk (N : Nat) (p0 : List Int) (r : (List Int)) (h : B6 N p0 = some r) : Al zA 174 [pD (.sl (p0.map Du))] [(1, r.map Du)] (oD (.own 0)) := by
 unfold B6 at h
 refine cw (n := 8) (rs := [.tmp 2]) Tryz.func174 fun w0 S0 => ?_
 refine wq rfl (qa rfl (Ac (wp rfl (qm rfl ?_))))
 refine Mk (.p rfl) rfl Dz ?_
 refine Ac ?_
 refine Mv rfl (fun c2 => ?_) ?_
 ·have c2 := xN.1 c2
  rw [c2] at h
  have h : (some (([] : List Int))) = some r := h
  refine wq rfl (qe rfl ?_)
  obtain rfl := sj h
  refine Ad ((A9 2 2001 1 rfl rfl rfl).trans (sm [(1000, 2001)] [(2, oD (.own 1000))] [(1000, .vec 1 ((([] : List Int)).map Du))] rfl rfl)) (Aq ?_)
  exact ⟨⟨[_], tm, rfl⟩, ⟨rfl, tv⟩⟩
 ·refine Ai (wq rfl (Dt Dz EF Nv rfl (qm rfl ?_)))
  refine F3 h fun c1 h => IN (f := Du) Dz Dz EF Pv Nv (fun _ => rfl) c1 rfl (qe rfl ?_)
  obtain rfl := sj h
  refine Ad (sm [(1000, 7)] [(2, oD (.own 1000))] [(1000, .vec 1 (((([] : List Int)) ++ p0).map Du))] rfl rfl) (Aq ?_)
  exact ⟨⟨[_], tm, rfl⟩, ⟨rfl, tv⟩⟩
theorem Sl (N : Nat) (p0 : Aa) (p1 : Ab) (r : (List Ab) × Int) (h : Gd N p0 p1 = some r) : Al zA 153 [.e (.agg (Ag p0)), .e (.agg (AE p1))] [(3, r.1.map AW)] (.tup [.one (.own 0), .one (iC r.2)]) := by
 unfold Gd at h
 refine cw (n := 75) (rs := [.tmp 4, .tmp 5]) Tryz.func153 fun w0 S0 => ?_
 refine wq rfl (qb rfl (qb rfl (qa rfl (qa rfl (Ac (wp rfl (qL Ct BQ rfl (qL Bi AV rfl ?_))))))))
 refine Bv h fun v1 a1 h => Aw [] (Kw N p0 p1 v1 a1) Vo rfl (qa rfl (Ac (wq rfl (qm rfl (Bt rfl (Ac ?_))))))
 refine Ba h (fun h => ?_) fun h => ?_
 ·refine wq rfl (qm rfl (qa rfl (qe rfl ?_)))
  obtain rfl := sj h
  refine Ad ((A9 4 2001 3 rfl rfl rfl).trans (sm [(1000, 2001)] [(4, oD (.own 1000)), (5, iD v1)] [(1000, .vec 3 ((([] : List Ab)).map AW))] rfl rfl)) (Aq ?_)
  exact ⟨⟨[_, _], ⟨.tmp _ _ rfl, tm⟩, rfl⟩, ⟨rfl, tv⟩⟩
 ·refine Ai (wq rfl (qa rfl (Ac (wp rfl (qf BC rfl (ql A4 rfl (AF As rfl (qm rfl (Ac ?_)))))))))
  refine AC (L := Ec N p1) h (fun v3 => mk [(3, oD (.ptr 3 0)), (7, oD (.own 2002)), (22, pD (.sl (p1.fI.map Ak))), (23, iD ((p1.fI.length : Int))), (24, iD v3.2)] [(3, .box (AE p1)), (2002, .vec 1 (v3.1.map Ak))]) (fun v4 => mk [(3, oD (.ptr 3 0)), (7, oD (.own 2003))] [(3, .box (AE p1)), (2003, .vec 1 (v4.map Ak))]) (fun _ _ => rfl) ((A9 7 2005 1 rfl rfl rfl).trans (sm [(2002, 2005)] _ _ rfl rfl)) (fun j3 n3 v3 h => ?_) (fun v4 s h hs => ?_)
  ·unfold Ec at h
   refine wq rfl (AX rfl (Ac (AM ?_)))
   refine Ba h (fun h => ?_) fun h => ?_
   ·refine Ai ?_
    refine AS h (fun v6 => mk [(3, oD (.ptr 3 0)), (7, oD (.own 2004)), (22, pD (.sl (p1.fI.map Ak))), (23, iD ((p1.fI.length : Int))), (24, iD v3.2)] [(3, .box (AE p1)), (2004, .vec 1 (v6.map Ak))]) (fun j6 h => ?_) (fun v6 h => ?_)
    ·refine AJ (wq rfl (qm rfl ?_))
     refine BE h fun v7 a7 b7 h => qi As CJ a7 (Af b7) rfl (qk B5 rfl (qa rfl (qa rfl (Ac (wq rfl (qm rfl (Ew rfl (Ac ?_))))))))
     refine Ba h (fun h => ?_) fun h => ?_
     ·refine Ah Ax rfl (qw 2 rfl (Dt As CJ Ja rfl ?_))
      refine F3 h fun c9 h => CP (f := Ak) As As CJ Ko Ja c9 rfl (qe rfl ?_)
      exact sn [(2004, 34)] h
     ·refine Ai ?_
      exact sn [(2004, 2002)] h
    ·refine Ah Ax rfl (AY rfl (qm rfl (Ac ?_)))
     exact sn [(2002, 2004)] h
   ·refine AU ?_
    exact sn [(2003, 2002)] h
  ·refine Ad hs (wq rfl (qa rfl (Ac (wp rfl (qm rfl (Fm As rfl ?_))))))
   refine F3 h fun c10 h => Jy rfl c10 (qm rfl (Ac ?_))
   refine AC (L := Dp N p1 v4) h (fun v11 => mk [(3, oD (.ptr 3 0)), (7, oD (.own 2006)), (10, oD (.own 2007)), (38, iD ((D8 .i64 1 ((v4.length : Int))))), (39, iD v11.2)] [(3, .box (AE p1)), (2006, .vec 1 (v4.map Ak)), (2007, .vec 3 (v11.1.map AW))]) (fun v12 => mk [(10, oD (.own 2008))] [(2008, .vec 3 (v12.map AW))]) (fun _ _ => rfl) ((A9 10 2027 3 rfl rfl rfl).trans (sm [(2006, 2003), (2007, 2027)] _ _ rfl rfl)) (fun j11 n11 v11 h => ?_) (fun v12 s h hs => ?_)
   ·unfold Dp at h
    refine wq rfl (AX rfl (Ac (AM ?_)))
    refine Ba h (fun h => ?_) fun h => ?_
    ·refine Ai (AM (AJ (wq rfl (qm rfl (qa rfl (Ac (wq rfl (qf CR rfl (ql A4 rfl ?_)))))))))
     refine Bv h fun v14 a14 h => Aw [2009] (C9 N p1.fL v14 a14) UC rfl (qf BC rfl (ql A4 rfl ?_))
     refine Bv h fun v15 a15 h => Aw [2010] (C9 N p1.fI v15 a15) UC rfl (qf CS rfl (ql HE rfl ?_))
     refine Bv h fun v16 a16 h => Aw [2011] (Gk N p1.fN v16 a16) aj rfl (Bm Ea JR rfl (qz Ea rfl (qs AV rfl (AK (by kernel_rfl) (wp rfl (qm rfl (Fm As rfl (qm rfl (Ac ?_)))))))))
     refine AC (L := Do N v4 v11) h (fun v17 => mk [(3, oD (.ptr 3 0)), (7, oD (.own 2015)), (10, oD (.own 2016)), (11, iD v11.2), (12, oD (.ptr 12 0)), (38, iD ((D8 .i64 1 ((v4.length : Int))))), (39, iD v11.2), (52, oD (.own 2015)), (53, iD ((v4.length : Int))), (54, iD v17.2)] [(3, .box (AE p1)), (12, .box [.own 2012, .own 2013, .own 2014]), (2012, .vec 1 (v14.map Ak)), (2013, .vec 1 (v17.1.map Ak)), (2014, .vec 1 (v16.map Du)), (2015, .vec 1 (v4.map Ak)), (2016, .vec 3 (v11.1.map AW))]) (fun v18 => mk [(3, oD (.ptr 3 0)), (7, oD (.own 2020)), (10, oD (.own 2021)), (12, oD (.ptr 12 0)), (38, iD ((D8 .i64 1 ((v4.length : Int))))), (39, iD v11.2)] [(3, .box (AE p1)), (12, .box [.own 2017, .own 2018, .own 2019]), (2017, .vec 1 (v14.map Ak)), (2018, .vec 1 (v18.map Ak)), (2019, .vec 1 (v16.map Du)), (2020, .vec 1 (v4.map Ak)), (2021, .vec 3 (v11.1.map AW))]) (fun _ _ => rfl) (sm [(2012, 2009), (2013, 2010), (2014, 2011), (2015, 2006), (2016, 2007)] _ _ rfl rfl) (fun j17 n17 v17 h => ?_) (fun v18 s h hs => ?_)
     ·unfold Do at h
      refine wq rfl (AX rfl (Ac (AM ?_)))
      refine Ba h (fun h => ?_) fun h => ?_
      ·refine Ai ?_
       refine AS h (fun v20 => mk [(3, oD (.ptr 3 0)), (7, oD (.own 2025)), (10, oD (.own 2026)), (11, iD v11.2), (12, oD (.ptr 12 0)), (38, iD ((D8 .i64 1 ((v4.length : Int))))), (39, iD v11.2), (52, oD (.own 2025)), (53, iD ((v4.length : Int))), (54, iD v17.2)] [(3, .box (AE p1)), (12, .box [.own 2022, .own 2023, .own 2024]), (2022, .vec 1 (v14.map Ak)), (2023, .vec 1 (v20.map Ak)), (2024, .vec 1 (v16.map Du)), (2025, .vec 1 (v4.map Ak)), (2026, .vec 3 (v11.1.map AW))]) (fun j20 h => ?_) (fun v20 h => ?_)
       ·refine AJ (wq rfl (qm rfl ?_))
        refine BE h fun v21 a21 b21 h => qI As CJ a21 (Af b21) rfl (qj B5 (Af b21) rfl (qa rfl (qa rfl (Ac (wq rfl (qw 2 rfl ?_))))))
        refine F3 h fun c22 h => GM rfl c22 (IJ rfl (B7 rfl (Ac ?_)))
        refine Ba h (fun h => ?_) fun h => ?_
        ·refine Ah Ax rfl (qf BC rfl (ql A4 rfl (qm rfl ?_)))
         refine BE h fun v24 a24 b24 h => qI As CJ a24 (Af b24) rfl ?_
         refine DM rfl rfl rfl rfl (Af b24) rfl CJ rfl (Jt rfl) (DF Ak v17.1 _ ((-1))) ?_
         refine Ac ?_
         exact sn [(2022, 2012), (2023, 2013), (2024, 2014), (2025, 2015), (2026, 2016)] h
        ·refine Ai ?_
         exact sn [(2022, 2012), (2023, 2013), (2024, 2014), (2025, 2015), (2026, 2016)] h
       ·refine Ah Ax rfl (AY rfl (qm rfl (Ac ?_)))
        exact sn [(2012, 2022), (2013, 2023), (2014, 2024), (2015, 2025), (2016, 2026)] h
      ·refine AU ?_
       exact sn [(2017, 2012), (2018, 2013), (2019, 2014), (2020, 2015), (2021, 2016)] h
     ·refine Ad hs (Ah Ax rfl (qm rfl (qL Bi AV rfl (Dn (Bp 2017 _ _ rfl rfl) (Dn (Bp 2018 _ _ rfl rfl) (Dn (Bp 2019 _ _ rfl rfl) (Dt Eu AV Ea rfl ?_)))))))
      refine F3 h fun c25 h => CP (f := AW) Eu Eu AV Yb Ea c25 rfl (qa rfl (Ac (Ah Ax rfl (AY rfl (qm rfl (Ac ?_))))))
      exact sn [(2006, 2020), (2007, 72)] h
    ·refine AU ?_
     exact sn [(2008, 2007)] h
   ·refine Ad hs (wq rfl (qm rfl (qa rfl (qe rfl ?_))))
    obtain rfl := sj h
    refine Ad (sm [(1000, 2008)] [(4, oD (.own 1000)), (5, iD 0)] [(1000, .vec 3 (v12.map AW))] rfl rfl) (Aq ?_)
    exact ⟨⟨[_, _], ⟨.tmp _ _ rfl, tm⟩, rfl⟩, ⟨rfl, tv⟩⟩
theorem O9 (N : Nat) (p0 : Aa) (p1 : Ab) (r : (List Ap)) (h : Gs N p0 p1 = some r) : Al zA 154 [.e (.agg (Ag p0)), .e (.agg (AE p1))] [(3, r.map A5)] (oD (.own 0)) := by
 unfold Gs at h
 refine cw (n := 98) (rs := [.tmp 4]) Tryz.func154 fun w0 S0 => ?_
 refine wq rfl (qb rfl (qb rfl (qa rfl (Ac (wq rfl (qa rfl (Ac (wp rfl (qf Cl rfl (ql Hn rfl (AF DH rfl (qm rfl (Ac ?_)))))))))))))
 refine AC (L := DP N p0 p1) h (fun v1 => mk [(3, oD (.ptr 3 0)), (5, oD (.own 2001)), (15, pD (.sl (p0.fK.map AP))), (16, iD ((p0.fK.length : Int))), (17, iD v1.2)] [(3, .box (AE p1)), (2001, .vec 3 (v1.1.map A5))]) (fun v2 => mk [(5, oD (.own 2002))] [(2002, .vec 3 (v2.map A5))]) (fun _ _ => rfl) ((A9 5 2013 3 rfl rfl rfl).trans (sm [(2001, 2013)] _ _ rfl rfl)) (fun j1 n1 v1 h => ?_) (fun v2 s h hs => ?_)
 ·unfold DP at h
  refine wq rfl (AX rfl (Ac (AM ?_)))
  refine Ba h (fun h => ?_) fun h => ?_
  ·refine Ai (AM (AJ (wq rfl (qm rfl ?_))))
   refine BE h fun v4 a4 b4 h => qi DH Dv a4 (Af b4) rfl (qK He Dv rfl (qz Jp rfl (qa rfl (qs Dv rfl (Ac (wq rfl (qL Bi AV rfl (qf Dg rfl (ql B5 rfl ?_)))))))))
   refine Bv h fun v5 a5 h => Aw [] (KJ N p1 v4.fO v5 a5) Xy rfl (qL Bi AV rfl (qf H1 rfl (ql B5 rfl ?_)))
   refine Bv h fun v6 a6 h => Aw [] (KJ N p1 v4.fS v6 a6) Xy rfl (qa rfl (qa rfl (AK (by kernel_rfl) ?_)))
   refine AS h (fun v7 => mk [(3, oD (.ptr 3 0)), (5, oD (.own 2003)), (6, iD v1.2), (7, oD (.ptr 7 0)), (8, pD (.val (.int .u8 v7))), (9, pD (.val (.int .u8 v6))), (15, pD (.sl (p0.fK.map AP))), (16, iD ((p0.fK.length : Int))), (17, iD v1.2)] [(3, .box (AE p1)), (7, .box (Bf v4)), (2003, .vec 3 (v1.1.map A5))]) (fun j7 h => ?_) (fun v7 h => ?_)
   ·refine wq rfl (qL He Dv rfl ?_)
    refine Bv h fun v8 a8 h => Aw [] (K5 N v4 v8 a8) XJ rfl (Ac ?_)
    refine Ba h (fun h => ?_) fun h => ?_
    ·refine Ah Ax rfl (qf CS rfl (ql HE rfl (qm rfl ?_)))
     refine BE h fun v10 a10 b10 h => qi Dz EF a10 (Af b10) rfl (qk Iz rfl (qe rfl ?_))
     exact sn [(2003, 2001)] h
    ·refine Ai ?_
     exact sn [(2003, 2001)] h
   ·refine wq rfl (qf Hx rfl (ql IL rfl (AF EM rfl (qm rfl (Ac ?_)))))
    refine AC (L := CF N v1 v4 v6 v7) h (fun v11 => mk [(3, oD (.ptr 3 0)), (5, oD (.own 2004)), (6, iD v1.2), (7, oD (.ptr 7 0)), (8, pD (.val (.int .u8 v7))), (9, pD (.val (.int .u8 v6))), (15, pD (.sl (p0.fK.map AP))), (16, iD ((p0.fK.length : Int))), (17, iD v1.2), (39, iD ((v4.fX.length : Int))), (40, iD v11.2)] [(3, .box (AE p1)), (7, .box (Bf v4)), (2004, .vec 3 (v11.1.map A5))]) (fun v12 => mk [(3, oD (.ptr 3 0)), (5, oD (.own 2005)), (15, pD (.sl (p0.fK.map AP))), (16, iD ((p0.fK.length : Int))), (17, iD v1.2)] [(3, .box (AE p1)), (2005, .vec 3 (v12.map A5))]) (fun _ _ => rfl) (sm [(2004, 2003)] _ _ rfl rfl) (fun j11 n11 v11 h => ?_) (fun v12 s h hs => ?_)
    ·unfold CF at h
     refine wq rfl (AX rfl (Ac (AM ?_)))
     refine Ba h (fun h => ?_) fun h => ?_
     ·refine Ai ?_
      refine AS h (fun v14 => mk [(3, oD (.ptr 3 0)), (5, oD (.own 2006)), (6, iD v1.2), (7, oD (.ptr 7 0)), (8, pD (.val (.int .u8 v7))), (9, pD (.val (.int .u8 v6))), (15, pD (.sl (p0.fK.map AP))), (16, iD ((p0.fK.length : Int))), (17, iD v1.2), (39, iD ((v4.fX.length : Int))), (40, iD v11.2)] [(3, .box (AE p1)), (7, .box (Bf v4)), (2006, .vec 3 (v14.map A5))]) (fun j14 h => ?_) (fun v14 h => ?_)
      ·refine AJ (wq rfl (qm rfl (qa rfl (Ac (wp rfl (qw 2 rfl ?_))))))
       refine F3 h fun c15 h => GM rfl c15 (IJ rfl (B7 rfl (Ac ?_)))
       refine Ba h (fun h => ?_) fun h => ?_
       ·refine AU ?_
        exact sn [(2006, 2004)] h
       ·refine Ai (wq rfl (qa rfl (Ac (wp rfl (qf Hx rfl (ql IL rfl (qm rfl ?_)))))))
        refine BE h fun v17 a17 b17 h => qi EM Kd a17 (Af b17) rfl (qk O3 rfl (AF Fw rfl (qm rfl (Ac ?_))))
        refine AC (L := Cd N v1 v4 v6 v11 v17) h (fun v18 => mk [(3, oD (.ptr 3 0)), (5, oD (.own 2007)), (6, iD v1.2), (7, oD (.ptr 7 0)), (8, pD (.val (.int .u8 v7))), (9, pD (.val (.int .u8 v6))), (10, iD v11.2), (11, bD v18.2.1), (15, pD (.sl (p0.fK.map AP))), (16, iD ((p0.fK.length : Int))), (17, iD v1.2), (39, iD ((v4.fX.length : Int))), (40, iD v11.2), (52, pD (.sl (v17.map eB))), (53, iD ((v17.length : Int))), (54, iD v18.2.2)] [(3, .box (AE p1)), (7, .box (Bf v4)), (2007, .vec 3 (v18.1.map A5))]) (fun v19 => mk [(3, oD (.ptr 3 0)), (5, oD (.own 2008)), (6, iD v1.2), (7, oD (.ptr 7 0)), (8, pD (.val (.int .u8 v7))), (9, pD (.val (.int .u8 v6))), (10, iD v11.2), (11, bD v19.2), (15, pD (.sl (p0.fK.map AP))), (16, iD ((p0.fK.length : Int))), (17, iD v1.2), (39, iD ((v4.fX.length : Int))), (40, iD v11.2)] [(3, .box (AE p1)), (7, .box (Bf v4)), (2008, .vec 3 (v19.1.map A5))]) (fun _ _ => rfl) (sm [(2007, 2004)] _ _ rfl rfl) (fun j18 n18 v18 h => ?_) (fun v19 s h hs => ?_)
        ·unfold Cd at h
         refine wq rfl (AX rfl (Ac (AM ?_)))
         refine Ba h (fun h => ?_) fun h => ?_
         ·refine Ai ?_
          refine AS h (fun v21 => mk [(3, oD (.ptr 3 0)), (5, oD (.own 2009)), (6, iD v1.2), (7, oD (.ptr 7 0)), (8, pD (.val (.int .u8 v7))), (9, pD (.val (.int .u8 v6))), (10, iD v11.2), (11, bD v21.2), (15, pD (.sl (p0.fK.map AP))), (16, iD ((p0.fK.length : Int))), (17, iD v1.2), (39, iD ((v4.fX.length : Int))), (40, iD v11.2), (52, pD (.sl (v17.map eB))), (53, iD ((v17.length : Int))), (54, iD v18.2.2)] [(3, .box (AE p1)), (7, .box (Bf v4)), (2009, .vec 3 (v21.1.map A5))]) (fun j21 h => ?_) (fun v21 h => ?_)
          ·refine AJ (wq rfl (qm rfl ?_))
           refine BE h fun v22 a22 b22 h => qi Fw PQ a22 (Af b22) rfl (qk Un rfl (qa rfl (qa rfl (Ac (wp rfl (qw 2 rfl ?_))))))
           refine F3 h fun c23 h => GM rfl c23 (IJ rfl (B7 rfl (Ac ?_)))
           refine Ba h (fun h => ?_) fun h => ?_
           ·refine AU ?_
            exact sn [(2009, 2007)] h
           ·refine Ai ?_
            refine AS h (fun v25 => mk [(3, oD (.ptr 3 0)), (5, oD (.own 2010)), (6, iD v1.2), (7, oD (.ptr 7 0)), (8, pD (.val (.int .u8 v7))), (9, pD (.val (.int .u8 v6))), (10, iD v11.2), (11, bD v25), (12, iD v18.2.2), (13, bD v22), (15, pD (.sl (p0.fK.map AP))), (16, iD ((p0.fK.length : Int))), (17, iD v1.2), (39, iD ((v4.fX.length : Int))), (40, iD v11.2), (52, pD (.sl (v17.map eB))), (53, iD ((v17.length : Int))), (54, iD v18.2.2)] [(3, .box (AE p1)), (7, .box (Bf v4)), (2010, .vec 3 (v18.1.map A5))]) (fun j25 h => ?_) (fun v25 h => ?_)
            ·refine Ah Ax rfl (qw 2 rfl ?_)
             refine D4 65 h rfl (fun h => ?_) fun h => ?_
             ·refine qn rfl (qp rfl (qe rfl ?_))
              exact sn [(2010, 2007)] h
             ·refine qm rfl (qp rfl (qe rfl ?_))
              exact sn [(2010, 2007)] h
            ·refine AS h (fun v27 => mk [(3, oD (.ptr 3 0)), (5, oD (.own 2011)), (6, iD v1.2), (7, oD (.ptr 7 0)), (8, pD (.val (.int .u8 v7))), (9, pD (.val (.int .u8 v6))), (10, iD v11.2), (11, bD v25), (12, iD v18.2.2), (15, pD (.sl (p0.fK.map AP))), (16, iD ((p0.fK.length : Int))), (17, iD v1.2), (39, iD ((v4.fX.length : Int))), (40, iD v11.2), (52, pD (.sl (v17.map eB))), (53, iD ((v17.length : Int))), (54, iD v18.2.2), (74, bD v27)] [(3, .box (AE p1)), (7, .box (Bf v4)), (2011, .vec 3 (v18.1.map A5))]) (fun j27 h => ?_) (fun v27 h => ?_)
             ·refine Ah Ax rfl (qm rfl (Cg rfl (qm rfl ?_)))
              refine D4 70 h rfl (fun h => ?_) fun h => ?_
              ·refine qf JQ rfl (ql Un rfl (Cg rfl (qp rfl (Ac ?_))))
               exact sn [(2011, 2010)] h
              ·refine qw 3 rfl (qp rfl (Ac ?_))
               exact sn [(2011, 2010)] h
             ·refine Ba h (fun h => ?_) fun h => ?_
              ·refine Ah Ax rfl (qw 4 rfl (Bm JB RD rfl (Dt H5 Jd JB rfl ?_)))
               refine F3 h fun c30 h => CP (f := A5) H5 H5 Jd SB JB c30 rfl (qe rfl ?_)
               exact sn [(2009, 81)] h
              ·refine Ai ?_
               exact sn [(2009, 2011)] h
          ·refine Ah Ax rfl (AY rfl (qm rfl (Ac ?_)))
           exact sn [(2007, 2009)] h
         ·refine AU ?_
          exact sn [(2008, 2007)] h
        ·refine Ad hs ?_
         refine AS h (fun v31 => mk [(3, oD (.ptr 3 0)), (5, oD (.own 2012)), (6, iD v1.2), (7, oD (.ptr 7 0)), (8, pD (.val (.int .u8 v7))), (9, pD (.val (.int .u8 v6))), (10, iD v11.2), (15, pD (.sl (p0.fK.map AP))), (16, iD ((p0.fK.length : Int))), (17, iD v1.2), (39, iD ((v4.fX.length : Int))), (40, iD v11.2), (88, bD v31)] [(3, .box (AE p1)), (7, .box (Bf v4)), (2012, .vec 3 (v19.1.map A5))]) (fun j31 h => ?_) (fun v31 h => ?_)
         ·refine Ah Ax rfl (qf JQ rfl (ql Un rfl (qm rfl ?_)))
          refine D4 85 h rfl (fun h => ?_) fun h => ?_
          ·refine qm rfl (Cg rfl (qp rfl (Ac ?_)))
           exact sn [(2012, 2008)] h
          ·refine qw 2 rfl (qp rfl (Ac ?_))
           exact sn [(2012, 2008)] h
         ·refine Ba h (fun h => ?_) fun h => ?_
          ·refine Ah Ax rfl (qw 3 rfl (Bm JB RD rfl (Dt H5 Jd JB rfl ?_)))
           refine F3 h fun c34 h => CP (f := A5) H5 H5 Jd SB JB c34 rfl (qe rfl ?_)
           exact sn [(2006, 94)] h
          ·refine Ai ?_
           exact sn [(2006, 2012)] h
      ·refine Ah Ax rfl (AY rfl (qm rfl (Ac ?_)))
       exact sn [(2004, 2006)] h
     ·refine AU ?_
      exact sn [(2005, 2004)] h
    ·refine Ad hs (Ah Ax rfl (AY rfl (qm rfl (Ac ?_))))
     exact sn [(2001, 2005)] h
  ·refine AU ?_
   exact sn [(2002, 2001)] h
 ·refine Ad hs (wq rfl (qm rfl (qe rfl ?_)))
  obtain rfl := sj h
  refine Ad (sm [(1000, 2002)] [(4, oD (.own 1000))] [(1000, .vec 3 (v2.map A5))] rfl rfl) (Aq ?_)
  exact ⟨⟨[_], tm, rfl⟩, ⟨rfl, tv⟩⟩
theorem Uc (N : Nat) (p0 : Aa) (p1 : Ab) (r : Ab × Ap × Int) (h : GE N p0 p1 = some r) : Al zA 117 [.e (.agg (Ag p0)), .e (.agg (AE p1))] [] (.tup [.agg (AE r.1), .agg (NW r.2.1), .one (iC r.2.2)]) := by
 unfold GE at h
 refine cw (n := 42) (rs := [.cell 4 49, .cell 5 149, .tmp 6]) Tryz.func117 fun w0 S0 => ?_
 refine wq rfl (qb rfl (qb rfl (qz Ea rfl (qz JB rfl (qa rfl (Ac (wq rfl (qL Ct BQ rfl (qL Bi AV rfl ?_)))))))))
 refine Bv h fun v1 a1 h => Aw [2001] (Sl N p0 p1 v1 a1) d7 rfl (qm rfl (qx rfl (qx rfl (qa rfl (qa rfl (Ac (wp rfl (qm rfl (Bt rfl (Ac ?_))))))))))
 refine Ba h (fun h => ?_) fun h => ?_
 ·refine wq rfl (Bm Ea JR rfl (Bm JB RD rfl (qm rfl (qs AV rfl (qs Jd rfl (qe rfl ?_))))))
  obtain rfl := sj h
  refine Ad ((RH 4 _ rfl).trans (sm [] [(4, oD (.ptr 4 0)), (5, oD (.ptr 5 0)), (6, iD v1.2)] [(4, .box [sC ((([] : List Int)).map Ak), sC ((([] : List Int)).map Ak), sC ((([] : List Int)).map Du)]), (5, .box [iC 0, iC 0, iC 0])] rfl rfl)) (Aq ?_)
  exact ⟨⟨[_, _, _], ⟨.cellN _ _ _ _ _ _ _ rfl rfl Bi AV rfl rfl (JT rfl), ⟨.cellN _ _ _ _ _ _ _ rfl rfl VZ Jd rfl rfl (JT rfl), tm⟩⟩, rfl⟩, tv⟩
 ·refine Ai (wp rfl (qm rfl (Fm Eu rfl (qm rfl (Ac ?_)))))
  refine AC (L := Fj N p0 v1) h (fun v3 => mk [(2, oD (.ptr 2 0)), (4, oD (.ptr 4 0)), (5, oD (.ptr 5 0)), (23, oD (.own 2002)), (24, iD ((v1.1.length : Int))), (25, iD v3)] [(2, .box (Ag p0)), (4, .box [.pure (.nil0), .pure (.nil0), .pure (.nil0)]), (5, .box [iC 0, iC 0, iC 0]), (2002, .vec 3 (v1.1.map AW))]) (fun v4 => mk [(4, oD (.ptr 4 0)), (5, oD (.ptr 5 0))] [(4, .box [.pure (.nil0), .pure (.nil0), .pure (.nil0)]), (5, .box [iC 0, iC 0, iC 0])]) (fun _ _ => rfl) (sm [(2002, 2001)] _ _ rfl rfl) (fun j3 n3 v3 h => ?_) (fun v4 s h hs => ?_)
  ·unfold Fj at h
   refine wq rfl (AX rfl (Ac (AM ?_)))
   refine Ba h (fun h => ?_) fun h => ?_
   ·refine Ai (AM (AJ (wq rfl ?_)))
    refine BE h fun v6 a6 b6 h => qI Eu AV a6 (Af b6) rfl (qJ Bi AV (Af b6) rfl (qz Ea rfl (qs AV rfl (Ac (wq rfl (qL Ct BQ rfl (qL Bi AV rfl ?_)))))))
    refine Bv h fun v7 a7 h => Aw [2003] (O9 N p0 v6 v7 a7) cC rfl (qa rfl (Ac (wq rfl (qm rfl (Fm H5 rfl (FN rfl (Ac ?_)))))))
    refine Ba h (fun h => ?_) fun h => ?_
    ·refine wq rfl (qL Bi AV rfl (qm rfl ?_))
     refine BE h fun v9 a9 b9 h => qI H5 Jd a9 (Af b9) rfl (qJ VZ Jd (Af b9) rfl (qs AV rfl (qs Jd rfl (qa rfl (AK (by kernel_rfl) ?_)))))
     obtain rfl := sj h
     refine Ad (sm [] [(4, oD (.ptr 4 0)), (5, oD (.ptr 5 0)), (6, iD 0)] [(4, .box (AE v6)), (5, .box (NW v9))] rfl rfl) (Aq ?_)
     exact ⟨⟨[_, _, _], ⟨.cellN _ _ _ _ _ _ _ rfl rfl Bi AV rfl rfl (JT rfl), ⟨.cellN _ _ _ _ _ _ _ rfl rfl VZ Jd rfl rfl (JT rfl), tm⟩⟩, rfl⟩, tv⟩
    ·refine Ai (Ah Ax rfl (AY rfl (qm rfl (Ac ?_))))
     exact sn [] h
   ·refine AU ?_
    exact sn [] h
  ·refine Ad hs (wq rfl (Bm Ea JR rfl (Bm JB RD rfl (qs AV rfl (qs Jd rfl (qe rfl ?_))))))
   obtain rfl := sj h
   refine Ad ((RH 4 _ rfl).trans (sm [] [(4, oD (.ptr 4 0)), (5, oD (.ptr 5 0)), (6, iD 15)] [(4, .box [sC ((([] : List Int)).map Ak), sC ((([] : List Int)).map Ak), sC ((([] : List Int)).map Du)]), (5, .box [iC 0, iC 0, iC 0])] rfl rfl)) (Aq ?_)
   exact ⟨⟨[_, _, _], ⟨.cellN _ _ _ _ _ _ _ rfl rfl Bi AV rfl rfl (JT rfl), ⟨.cellN _ _ _ _ _ _ _ rfl rfl VZ Jd rfl rfl (JT rfl), tm⟩⟩, rfl⟩, tv⟩
theorem Ip (N : Nat) (p0 : Aa) (p1 : Ab) (r : Bool × Int) (h : DZ N p0 p1 = some r) : Al zA 83 [.e (.agg (Ag p0)), .e (.agg (AE p1))] [] (.tup [.one (.pure (.val (.bool r.1))), .one (iC r.2)]) := by
 unfold DZ at h
 refine cw (n := 22) (rs := [.tmp 4, .tmp 5]) Tryz.func83 fun w0 S0 => ?_
 refine wq rfl (qb rfl (qb rfl (qa rfl (qa rfl (Ac (wq rfl (qL Ct BQ rfl (qL Bi AV rfl ?_))))))))
 refine Bv h fun v1 a1 h => Aw [] (Uc N p0 p1 v1 a1) dH rfl (qm rfl (qx rfl (qx rfl (qx rfl (qz Ea rfl (qz JB rfl (qs AV rfl (qs Jd rfl (qa rfl (Ac (wq rfl (qm rfl (Ac (AJ (wq rfl (B7 rfl (qe rfl ?_)))))))))))))))))
 refine Ba h (fun h => ?_) fun h => ?_
 ·refine wq rfl (qa rfl (qe rfl ?_))
  obtain rfl := sj h
  refine Ad (sm [] [(4, bD false), (5, iD 0)] [] rfl rfl) (Aq ?_)
  exact ⟨⟨[_, _], ⟨.tmp _ _ rfl, tm⟩, rfl⟩, tv⟩
 ·refine wq rfl (B7 rfl (qe rfl ?_))
  refine Ba h (fun h => ?_) fun h => ?_
  ·refine wq rfl (qa rfl (qe rfl ?_))
   obtain rfl := sj h
   refine Ad (sm [] [(4, bD true), (5, iD 0)] [] rfl rfl) (Aq ?_)
   exact ⟨⟨[_, _], ⟨.tmp _ _ rfl, tm⟩, rfl⟩, tv⟩
  ·refine wq rfl (qm rfl (qa rfl (qe rfl ?_)))
   obtain rfl := sj h
   refine Ad (sm [] [(4, bD false), (5, iD v1.2.2)] [] rfl rfl) (Aq ?_)
   exact ⟨⟨[_, _], ⟨.tmp _ _ rfl, tm⟩, rfl⟩, tv⟩
theorem PE (N : Nat) (p0 : Ab) (r : ByteArray) (h : Ig N p0 = some r) : Al zA 138 [.e (.agg (AE p0))] [] (pD (.val (.string r))) := by
 unfold Ig at h
 refine cw (n := 53) (rs := [.tmp 2]) Tryz.func138 fun w0 S0 => ?_
 refine wq rfl (qb rfl (qa rfl (Ac (wq rfl (qf CR rfl (ql A4 rfl (AF As rfl (Nr rfl (qf CS rfl (ql HE rfl (AF Dz rfl (AY rfl ?_))))))))))))
 refine F3 h fun c1 h => Mg (.p rfl) rfl rfl rfl Lw bc bk (Jt rfl) d3 rfl rfl rfl c1.1 c1.2.1 c1.2.2 (SJ Du _ ((0 : Int))) ?_
 refine qa rfl (Ac (wp rfl (qf CR rfl (ql A4 rfl (AF As rfl (qm rfl (Ac ?_)))))))
 refine AC (L := EY N p0) h (fun v2 => mk [(1, oD (.ptr 1 0)), (3, oD (.own 2001)), (18, iD ((p0.fL.length : Int))), (19, iD v2.2)] [(1, .box (AE p0)), (2001, .vec 1 (v2.1.map Du))]) (fun v3 => mk [(1, oD (.ptr 1 0)), (3, oD (.own 2002))] [(1, .box (AE p0)), (2002, .vec 1 (v3.map Du))]) (fun _ _ => rfl) (sm [(2001, 15)] _ _ rfl rfl) (fun j2 n2 v2 h => ?_) (fun v3 s h hs => ?_)
 ·unfold EY at h
  refine wq rfl (AX rfl (Ac (AM ?_)))
  refine Ba h (fun h => ?_) fun h => ?_
  ·refine Ai (AM (AJ (wq rfl (qm rfl (qa rfl (Ac (Ah Ax rfl (qm rfl (qf CR rfl (ql A4 rfl (qm rfl ?_)))))))))))
   refine BE h fun v5 a5 b5 h => qi As CJ a5 (Af b5) rfl (qk B5 rfl (Jj dt fE rfl (qf BC rfl (ql A4 rfl (qm rfl ?_)))))
   refine BE h fun v6 a6 b6 h => qi As CJ a6 (Af b6) rfl (qk B5 rfl (AY rfl (Jj dt fE rfl (Dt Lw bc d3 rfl ?_))))
   refine F3 h fun c7 h => CP (f := Du) Lw Lw bc bk d3 c7 rfl (qa rfl (AK (by kernel_rfl) (Ah Ax rfl (AY rfl (qm rfl (Ac ?_))))))
   exact sn [(2001, 37)] h
  ·refine AU ?_
   exact sn [(2002, 2001)] h
 ·refine Ad hs (wp rfl (qf CS rfl (ql HE rfl (AF Dz rfl (qm rfl (Ac ?_))))))
  refine AC (L := DY N p0) h (fun v8 => mk [(3, oD (.own 2003)), (40, pD (.sl (p0.fN.map Du))), (41, iD ((p0.fN.length : Int))), (42, iD v8.2)] [(2003, .vec 1 (v8.1.map Du))]) (fun v9 => mk [(3, oD (.own 2004))] [(2004, .vec 1 (v9.map Du))]) (fun _ _ => rfl) (sm [(2003, 2002)] _ _ rfl rfl) (fun j8 n8 v8 h => ?_) (fun v9 s h hs => ?_)
  ·unfold DY at h
   refine wq rfl (AX rfl (Ac (AM ?_)))
   refine Ba h (fun h => ?_) fun h => ?_
   ·refine Ai (AM (AJ (wq rfl ?_)))
    refine BE h fun v11 a11 b11 h => qi Dz EF a11 (Af b11) rfl (qk Iz rfl (qa rfl (Ac (Ah Ax rfl (qw 2 rfl (Dt Lw bc d3 rfl ?_))))))
    refine F3 h fun c12 h => CP (f := Du) Lw Lw bc bk d3 c12 rfl (qa rfl (Ac (Ah Ax rfl (AY rfl (qm rfl (Ac ?_))))))
    exact sn [(2003, 49)] h
   ·refine AU ?_
    exact sn [(2004, 2003)] h
  ·refine Ad hs (wq rfl (qm rfl ?_))
   refine W6 v9 (.p rfl) rfl (Yw Du _ _ _) ⟨rfl, tv⟩ rfl dD WF ?_
   refine qa rfl (Ac ?_)
   obtain rfl := sj h
   refine Ad (sm [] [(2, pD (.val (.string ((CZ v9)))))] [] rfl rfl) (Aq ?_)
   exact ⟨⟨[_], tm, rfl⟩, tv⟩
theorem UL (N : Nat) (p0 : Aa) (r : (List Ae)) (h : I6 N p0 = some r) : Al zA 125 [.e (.agg (Ag p0))] [(3, r.map AH)] (oD (.own 0)) := by
 unfold I6 at h
 refine cw (n := 54) (rs := [.tmp 2]) Tryz.func125 fun w0 S0 => ?_
 refine wq rfl (qb rfl (qa rfl (Ac (wq rfl (qa rfl (Ac (wp rfl (qf Bd rfl (ql A4 rfl (AF As rfl (qm rfl (Ac ?_))))))))))))
 refine AC (L := DB N p0) h (fun v1 => mk [(1, oD (.ptr 1 0)), (3, oD (.own 2001)), (10, pD (.sl (p0.fJ.map Ak))), (11, iD ((p0.fJ.length : Int))), (12, iD v1.2)] [(1, .box (Ag p0)), (2001, .vec 3 (v1.1.map AH))]) (fun v2 => mk [(1, oD (.ptr 1 0)), (3, oD (.own 2002))] [(1, .box (Ag p0)), (2002, .vec 3 (v2.map AH))]) (fun _ _ => rfl) ((A9 3 2005 3 rfl rfl rfl).trans (sm [(2001, 2005)] _ _ rfl rfl)) (fun j1 n1 v1 h => ?_) (fun v2 s h hs => ?_)
 ·unfold DB at h
  refine wq rfl (AX rfl (Ac (AM ?_)))
  refine Ba h (fun h => ?_) fun h => ?_
  ·refine Ai (AM (AJ (wq rfl (qm rfl ?_))))
   refine BE h fun v4 a4 b4 h => qi As CJ a4 (Af b4) rfl (qk B5 rfl (qa rfl (qa rfl (Ac (wq rfl (qw 2 rfl (Ac ?_)))))))
   refine AC (L := E4 N v1 v4) h (fun v5 => mk [(1, oD (.ptr 1 0)), (3, oD (.own 2003)), (4, iD v1.2), (10, pD (.sl (p0.fJ.map Ak))), (11, iD ((p0.fJ.length : Int))), (12, iD v1.2), (17, iD v4), (18, iD v5.2)] [(1, .box (Ag p0)), (2003, .vec 3 (v5.1.map AH))]) (fun v6 => mk [(1, oD (.ptr 1 0)), (3, oD (.own 2004)), (10, pD (.sl (p0.fJ.map Ak))), (11, iD ((p0.fJ.length : Int))), (12, iD v1.2)] [(1, .box (Ag p0)), (2004, .vec 3 (v6.map AH))]) (fun _ _ => rfl) (sm [(2003, 2001)] _ _ rfl rfl) (fun j5 n5 v5 h => ?_) (fun v6 s h hs => ?_)
   ·unfold E4 at h
    refine wq rfl (AX rfl (Ac (AM ?_)))
    refine Ba h (fun h => ?_) fun h => ?_
    ·refine Ai (AM (AJ (wq rfl (qm rfl (qa rfl (Ac (Ah Ax rfl (qw 3 rfl (Bm K4 Zf rfl (Dt EI EL K4 rfl ?_))))))))))
     refine F3 h fun c8 h => CP (f := AH) EI EI EL TO K4 c8 rfl (qa rfl (Ac (Ah Ax rfl (AY rfl (qm rfl (Ac ?_))))))
     exact sn [(2003, 26)] h
    ·refine AU ?_
     exact sn [(2004, 2003)] h
   ·refine Ad hs (Ah Ax rfl (AY rfl (qm rfl (Ac ?_))))
    exact sn [(2001, 2004)] h
  ·refine AU ?_
   exact sn [(2002, 2001)] h
 ·refine Ad hs (wp rfl (qf Bd rfl (ql A4 rfl (AF As rfl (qm rfl (Ac ?_))))))
  refine AC (L := CH N p0) h (fun v9 => mk [(1, oD (.ptr 1 0)), (3, oD (.own 2006)), (31, iD ((p0.fJ.length : Int))), (32, iD v9.2)] [(1, .box (Ag p0)), (2006, .vec 3 (v9.1.map AH))]) (fun v10 => mk [(1, oD (.ptr 1 0)), (3, oD (.own 2007))] [(1, .box (Ag p0)), (2007, .vec 3 (v10.map AH))]) (fun _ _ => rfl) (sm [(2006, 2002)] _ _ rfl rfl) (fun j9 n9 v9 h => ?_) (fun v10 s h hs => ?_)
  ·unfold CH at h
   refine wq rfl (AX rfl (Ac (AM ?_)))
   refine Ba h (fun h => ?_) fun h => ?_
   ·refine Ai (AM (AJ (wq rfl (qm rfl (qa rfl (Ac (Ah Ax rfl (qw 2 rfl (Bm K4 Zf rfl (Dt EI EL K4 rfl ?_))))))))))
    refine F3 h fun c12 h => CP (f := AH) EI EI EL TO K4 c12 rfl (qa rfl (Ac (Ah Ax rfl (AY rfl (qm rfl (Ac ?_))))))
    exact sn [(2006, 39)] h
   ·refine AU ?_
    exact sn [(2007, 2006)] h
  ·refine Ad hs (wp rfl (qf Cl rfl (ql Hn rfl (AF DH rfl (qm rfl (Ac ?_))))))
   refine AC (L := BD N p0) h (fun v13 => mk [(3, oD (.own 2008)), (43, iD ((p0.fK.length : Int))), (44, iD v13.2)] [(2008, .vec 3 (v13.1.map AH))]) (fun v14 => mk [(3, oD (.own 2009))] [(2009, .vec 3 (v14.map AH))]) (fun _ _ => rfl) (sm [(2008, 2007)] _ _ rfl rfl) (fun j13 n13 v13 h => ?_) (fun v14 s h hs => ?_)
   ·unfold BD at h
    refine wq rfl (AX rfl (Ac (AM ?_)))
    refine Ba h (fun h => ?_) fun h => ?_
    ·refine Ai (AM (AJ (wq rfl (qm rfl (qa rfl (Ac (Ah Ax rfl (qw 2 rfl (Bm K4 Zf rfl (Dt EI EL K4 rfl ?_))))))))))
     refine F3 h fun c16 h => CP (f := AH) EI EI EL TO K4 c16 rfl (qa rfl (Ac (Ah Ax rfl (AY rfl (qm rfl (Ac ?_))))))
     exact sn [(2008, 51)] h
    ·refine AU ?_
     exact sn [(2009, 2008)] h
   ·refine Ad hs (wq rfl (qm rfl (qe rfl ?_)))
    obtain rfl := sj h
    refine Ad (sm [(1000, 2009)] [(2, oD (.own 1000))] [(1000, .vec 3 (v14.map AH))] rfl rfl) (Aq ?_)
    exact ⟨⟨[_], tm, rfl⟩, ⟨rfl, tv⟩⟩
theorem QL (N : Nat) (p0 : Ab) (r : Ab) (h : Hl N p0 = some r) : Al zA 159 [.e (.agg (AE p0))] [(1, r.fL.map Ak), (1, r.fI.map Ak), (1, r.fN.map Du)] (.e (.agg [.own 0, .own 1, .own 2])) := by
 unfold Hl at h
 refine cw (n := 13) (rs := [.cell 2 49]) Tryz.func159 fun w0 S0 => ?_
 refine wq rfl (qb rfl (qz Ea rfl (Ac (wq rfl (qf CR rfl (ql A4 rfl ?_))))))
 refine Bv h fun v1 a1 h => Aw [2001] (C9 N p0.fL v1 a1) UC rfl (qf BC rfl (ql A4 rfl ?_))
 refine Bv h fun v2 a2 h => Aw [2002] (C9 N p0.fI v2 a2) UC rfl (qf CS rfl (ql HE rfl ?_))
 refine Bv h fun v3 a3 h => Aw [2003] (Gk N p0.fN v3 a3) aj rfl (Bm Ea JR rfl (qs AV rfl (AK (by kernel_rfl) ?_)))
 obtain rfl := sj h
 refine Ad (sm [(1000, 2001), (1001, 2002), (1002, 2003)] [(2, oD (.ptr 2 0))] [(2, .box [.own 1000, .own 1001, .own 1002]), (1000, .vec 1 (v1.map Ak)), (1001, .vec 1 (v2.map Ak)), (1002, .vec 1 (v3.map Du))] rfl rfl) (Aq ?_)
 exact ⟨⟨[_], ⟨.cellN _ _ _ _ _ _ _ rfl rfl Bi AV rfl rfl (JT rfl), tv⟩, rfl⟩, ⟨rfl, rfl, rfl, tv⟩⟩
theorem MN (N : Nat) (p0 : An) (r : Bool) (h : Gn N p0 = some r) : Al zA 176 [.e (.agg (Bf p0))] [] (bD r) := by
 unfold Gn at h
 refine cw (n := 11) (rs := [.tmp 2]) Tryz.func176 fun w0 S0 => ?_
 refine wq rfl (qb rfl (qe rfl ?_))
 refine AS h (fun v1 => mk [(2, bD v1)] []) (fun j1 h => ?_) (fun v1 h => ?_)
 ·refine Ah Ax rfl (qf GC rfl (ql B5 rfl (B7 rfl (qm rfl ?_))))
  refine D4 6 h rfl (fun h => ?_) fun h => ?_
  ·refine qw 3 rfl (qp rfl (qe rfl ?_))
   exact sn [] h
  ·refine qf GC rfl (ql B5 rfl (B7 rfl (qp rfl (qe rfl ?_))))
   exact sn [] h
 ·obtain rfl := sj h
  refine Ad (sm [] [(2, bD v1)] [] rfl rfl) (Aq ?_)
  exact ⟨⟨[_], tm, rfl⟩, tv⟩
theorem RZ (N : Nat) (p0 : Aa) (p1 : Ab) (p2 : Ae) (r : Bool × (List Int) × (List Int)) (h : I3 N p0 p1 p2 = some r) : EQ zA 160 [.e (.agg (Ag p0)), oD (.ptr 90000 0), .e (.agg (DE p2))] [(.box [.own 90001, .own 90002, .own 90003], .box [.own 90001, .own 90002, .own 90003]), (.vec 1 (p1.fL.map Ak), .vec 1 (p1.fL.map Ak)), (.vec 1 (p1.fI.map Ak), .vec 1 (r.2.1.map Ak)), (.vec 1 (p1.fN.map Du), .vec 1 (r.2.2.map Du))] [] (bD r.1) := by
 unfold I3 at h
 refine Hj (n := 70) (rs := [.tmp 6]) Tryz.func160 rfl rfl rfl (Jt rfl) (Jt rfl) rfl rfl (Jt rfl) rfl (Jt rfl) fun w0 S0 GL => ?_
 refine Ad (sm [] [(0, .e (.agg (Ag p0))), (1, oD (.ptr 90000 0)), (2, .e (.agg (DE p2)))] [(90000, .box [.own 90001, .own 90002, .own 90003]), (90001, .vec 1 (p1.fL.map Ak)), (90002, .vec 1 (p1.fI.map Ak)), (90003, .vec 1 (p1.fN.map Du))] rfl rfl) (wq rfl (qb rfl (qb rfl (qa rfl (Ac (AM ?_))))))
 refine AS h (fun v1 => mk [(1, oD (.ptr 90000 0)), (3, oD (.ptr 3 0)), (5, oD (.ptr 5 0)), (30, bD v1)] [(3, .box (Ag p0)), (5, .box (DE p2)), (90000, .box [.own 90001, .own 90002, .own 90003]), (90001, .vec 1 (p1.fL.map Ak)), (90002, .vec 1 (p1.fI.map Ak)), (90003, .vec 1 (p1.fN.map Du))]) (fun j1 h => ?_) (fun v1 h => ?_)
 ·refine Ah Ax rfl (qm rfl (Zm rfl (qf BC rfl (ql A4 rfl (qf FK rfl (ql B5 rfl ?_))))))
  refine BE h fun v2 a2 b2 h => qI As CJ a2 (Af b2) rfl (qj B5 (Af b2) rfl (Ew rfl (qm rfl ?_)))
  refine D4 18 h rfl (fun h => ?_) fun h => ?_
  ·refine qw 11 rfl (qp rfl (AK (by kernel_rfl) ?_))
   exact sn [] h
  ·refine qm rfl (Zm rfl (qf CR rfl (ql A4 rfl (qf FK rfl (ql B5 rfl ?_)))))
   refine BE h fun v4 a4 b4 h => qI As CJ a4 (Af b4) rfl (qj B5 (Af b4) rfl (qf HZ rfl (ql B5 rfl (B7 rfl (qp rfl (AK (by kernel_rfl) ?_))))))
   exact sn [] h
 ·refine Ba h (fun h => ?_) fun h => ?_
  ·refine wq rfl (qe rfl ?_)
   obtain rfl := sj h
   refine Ad (sm [] [(6, bD false)] [(90000, .box [.own 90001, .own 90002, .own 90003]), (90001, .vec 1 (p1.fL.map Ak)), (90002, .vec 1 (p1.fI.map Ak)), (90003, .vec 1 (p1.fN.map Du))] rfl rfl) (Aq ?_)
   exact ⟨⟨[_], tm, rfl⟩, ⟨rfl, rfl, rfl, rfl, tv⟩, tv⟩
  ·refine Ai (wq rfl (qm rfl (Zm rfl (qf BC rfl (ql A4 rfl (qf FK rfl (ql B5 rfl (qf HZ rfl (ql B5 rfl ?_)))))))))
   refine BE h fun v6 a6 b6 h => qI As CJ a6 (Af b6) rfl ?_
   refine DM rfl rfl rfl rfl (Af b6) rfl CJ rfl (Jt rfl) (DF Ak p1.fI _ p2.fW) ?_
   refine AK (by kernel_rfl) (wp rfl (qf Cl rfl (ql Hn rfl (AF DH rfl (qm rfl (Ac ?_))))))
   refine AC (L := Ed N p0 p2) h (fun v7 => mk [(1, oD (.ptr 90000 0)), (5, oD (.ptr 5 0)), (41, pD (.sl (p0.fK.map AP))), (42, iD ((p0.fK.length : Int))), (43, iD v7.2)] [(5, .box (DE p2)), (90000, .box [.own 90001, .own 90002, .own 90003]), (90001, .vec 1 (p1.fL.map Ak)), (90002, .vec 1 ((p1.fI.set ((p2.fR).toNat) p2.fW).map Ak)), (90003, .vec 1 (v7.1.map Du))]) (fun v8 => mk [] [(90000, .box [.own 90001, .own 90002, .own 90003]), (90001, .vec 1 (p1.fL.map Ak)), (90002, .vec 1 ((p1.fI.set ((p2.fR).toNat) p2.fW).map Ak)), (90003, .vec 1 (v8.map Du))]) (fun _ _ => rfl) (sm [] _ _ rfl rfl) (fun j7 n7 v7 h => ?_) (fun v8 s h hs => ?_)
   ·unfold Ed at h
    refine wq rfl (AX rfl (Ac (AM ?_)))
    refine Ba h (fun h => ?_) fun h => ?_
    ·refine Ai ?_
     refine AS h (fun v10 => mk [(1, oD (.ptr 90000 0)), (5, oD (.ptr 5 0)), (41, pD (.sl (p0.fK.map AP))), (42, iD ((p0.fK.length : Int))), (43, iD v7.2)] [(5, .box (DE p2)), (90000, .box [.own 90001, .own 90002, .own 90003]), (90001, .vec 1 (p1.fL.map Ak)), (90002, .vec 1 ((p1.fI.set ((p2.fR).toNat) p2.fW).map Ak)), (90003, .vec 1 (v10.map Du))]) (fun j10 h => ?_) (fun v10 h => ?_)
     ·refine AJ (wq rfl (qm rfl ?_))
      refine BE h fun v11 a11 b11 h => qi DH Dv a11 (Af b11) rfl (qK He Dv rfl (qz Jp rfl (qa rfl (qs Dv rfl (Ac ?_)))))
      refine AS h (fun v12 => mk [(1, oD (.ptr 90000 0)), (5, oD (.ptr 5 0)), (7, iD v7.2), (41, pD (.sl (p0.fK.map AP))), (42, iD ((p0.fK.length : Int))), (43, iD v7.2), (56, bD v12)] [(5, .box (DE p2)), (90000, .box [.own 90001, .own 90002, .own 90003]), (90001, .vec 1 (p1.fL.map Ak)), (90002, .vec 1 ((p1.fI.set ((p2.fR).toNat) p2.fW).map Ak)), (90003, .vec 1 (v7.1.map Du))]) (fun j12 h => ?_) (fun v12 h => ?_)
      ·refine Ah Ax rfl (qf Dg rfl (ql B5 rfl (qf FK rfl (ql B5 rfl (B7 rfl (qm rfl ?_))))))
       refine D4 53 h rfl (fun h => ?_) fun h => ?_
       ·refine qL He Dv rfl ?_
        refine Bv h fun v14 a14 h => Aw [] (MN N v11 v14 a14) ag rfl (qp rfl (Ac ?_))
        exact sn [] h
       ·refine qw 2 rfl (qp rfl (Ac ?_))
        exact sn [] h
      ·refine Ba h (fun h => ?_) fun h => ?_
       ·refine Ah Ax rfl (qm rfl (Zm rfl (qf CS rfl (ql HE rfl (qm rfl ?_)))))
        refine BE h fun v16 a16 b16 h => qI Dz EF a16 (Af b16) rfl (qj Iz (Af b16) rfl (qf HZ rfl (ql B5 rfl ?_)))
        refine F3 h fun c17 h => Jy rfl c17 (Xf rfl ?_)
        refine BE h fun v18 a18 b18 h => qI Dz EF a18 (Af b18) rfl ?_
        refine DM rfl rfl rfl rfl (Af b18) rfl EF rfl (Jt rfl) (DF Du v7.1 _ ((Qz .u8 v16 ((D8 .u8 1 p2.fW))))) ?_
        refine AK (by kernel_rfl) ?_
        exact sn [] h
       ·refine Ai ?_
        exact sn [] h
     ·refine Ah Ax rfl (AY rfl (qm rfl (Ac ?_)))
      exact sn [] h
    ·refine AU ?_
     exact sn [] h
   ·refine Ad hs (wq rfl (qe rfl ?_))
    obtain rfl := sj h
    refine Ad (sm [] [(6, bD true)] [(90000, .box [.own 90001, .own 90002, .own 90003]), (90001, .vec 1 (p1.fL.map Ak)), (90002, .vec 1 ((p1.fI.set ((p2.fR).toNat) p2.fW).map Ak)), (90003, .vec 1 (v8.map Du))] rfl rfl) (Aq ?_)
    exact ⟨⟨[_], tm, rfl⟩, ⟨rfl, rfl, rfl, rfl, tv⟩, tv⟩
theorem Qk (N : Nat) (p0 : Ab) (p1 : Int) (r : Int) (h : GN N p0 p1 = some r) : Al zA 177 [.e (.agg (AE p0)), iD p1] [] (pD (.val (.int .u8 r))) := by
 unfold GN at h
 refine cw (n := 27) (rs := [.tmp 4]) Tryz.func177 fun w0 S0 => ?_
 refine wq rfl (qb rfl (qa rfl (Ac (wq rfl (qf CR rfl (ql A4 rfl (qm rfl ?_)))))))
 refine BE h fun v1 a1 b1 h => qi As CJ a1 (Af b1) rfl (qk B5 rfl ?_)
 refine F3 h fun c2 h => Jy rfl c2 (qe rfl ?_)
 refine AS h (fun v3 => mk [(5, pD (.val (.int .u8 v3)))] []) (fun j3 h => ?_) (fun v3 h => ?_)
 ·refine wq rfl (qf BC rfl (ql A4 rfl (qm rfl ?_)))
  refine BE h fun v4 a4 b4 h => qi As CJ a4 (Af b4) rfl (qk B5 rfl (Ew rfl (Ac ?_)))
  refine Ba h (fun h => ?_) fun h => ?_
  ·refine Ah Ax rfl (qm rfl (qf BC rfl (ql A4 rfl (qm rfl ?_))))
   refine BE h fun v6 a6 b6 h => qi As CJ a6 (Af b6) rfl (qk B5 rfl ?_)
   refine F3 h fun c7 h => Jy rfl c7 (Xf rfl (qe rfl ?_))
   exact sn [] h
  ·refine Ai ?_
   exact sn [] h
 ·refine wq rfl (qm rfl (qe rfl ?_))
  obtain rfl := sj h
  refine Ad (sm [] [(4, pD (.val (.int .u8 v3)))] [] rfl rfl) (Aq ?_)
  exact ⟨⟨[_], tm, rfl⟩, tv⟩
theorem Kf (N : Nat) (p0 : Int) (r : Int) (h : Dl N p0 = some r) : Al zA 180 [pD (.val (.int .u8 p0))] [] (iD r) := by
 unfold Dl at h
 refine cw (n := 6) (rs := [.tmp 2]) Tryz.func180 fun w0 S0 => ?_
 refine wq rfl (qa rfl (Ac (wq rfl (qm rfl ?_))))
 refine Bv h fun v1 a1 h => KY (.p rfl) rfl rfl WF a1 ?_
 refine Jj aW Xd rfl (qe rfl ?_)
 obtain rfl := sj h
 refine Ad (sm [] [(2, iD ((wI .i64 v1)))] [] rfl rfl) (Aq ?_)
 exact ⟨⟨[_], tm, rfl⟩, tv⟩
theorem NO (N : Nat) (p0 : An) (p1 : Int) (p2 : Int) (r : Bool) (h : GI N p0 p1 p2 = some r) : Al zA 178 [.e (.agg (Bf p0)), pD (.val (.int .u8 p1)), iD p2] [] (bD r) := by
 unfold GI at h
 refine cw (n := 25) (rs := [.tmp 6]) Tryz.func178 fun w0 S0 => ?_
 refine wq rfl (qb rfl (qa rfl (Ac (wp rfl (qm rfl (qe rfl ?_))))))
 refine AC (L := DU N p0 p2) h (fun v1 => mk [(2, iD p2), (3, oD (.ptr 3 0)), (7, pD (.val (.int .u8 v1)))] [(3, .box (Bf p0))]) (fun v2 => mk [] []) (fun _ _ => rfl) (sm [] _ _ rfl rfl) (fun j1 n1 v1 h => ?_) (fun v2 s h hs => ?_)
 ·unfold DU at h
  refine wp rfl (qm rfl (Bt rfl (Ac ?_)))
  refine Ba h (fun h => ?_) fun h => ?_
  ·refine Ai (AM (AJ (wq rfl (qf FH rfl (ql IL rfl (qm rfl ?_))))))
   refine Bv h fun v4 a4 h => Aw [] (Kf N v1 v4 a4) bY rfl ?_
   refine BE h fun v5 a5 b5 h => qi EM Kd a5 (Af b5) rfl (qk O3 rfl (qm rfl ?_))
   refine BE h fun v6 a6 b6 h => qi Fw PQ a6 (Af b6) rfl (qk Un rfl (Cg rfl (AK (by kernel_rfl) ?_)))
   refine Ba h (fun h => ?_) fun h => ?_
   ·refine wq rfl (qe rfl ?_)
    obtain rfl := sj h
    refine Ad (sm [] [(6, bD false)] [] rfl rfl) (Aq ?_)
    exact ⟨⟨[_], tm, rfl⟩, tv⟩
   ·refine Ai (Ah Ax rfl (qw 2 rfl (JD rfl (IJ rfl (qe rfl ?_)))))
    exact sn [] h
  ·refine AU ?_
   exact sn [] h
 ·refine Ad hs (wq rfl (qe rfl ?_))
  obtain rfl := sj h
  refine Ad (sm [] [(6, bD true)] [] rfl rfl) (Aq ?_)
  exact ⟨⟨[_], tm, rfl⟩, tv⟩
theorem SC (N : Nat) (p0 : Aa) (p1 : Ab) (p2 : Int) (r : Bool × (List Int)) (h : HX N p0 p1 p2 = some r) : EQ zA 161 [.e (.agg (Ag p0)), oD (.ptr 90000 0), iD p2] [(.box [.own 90001, .own 90002, .own 90003], .box [.own 90001, .own 90002, .own 90003]), (.vec 1 (p1.fL.map Ak), .vec 1 (p1.fL.map Ak)), (.vec 1 (p1.fI.map Ak), .vec 1 (p1.fI.map Ak)), (.vec 1 (p1.fN.map Du), .vec 1 (r.2.map Du))] [] (bD r.1) := by
 unfold HX at h
 refine Hj (n := 68) (rs := [.tmp 6]) Tryz.func161 rfl rfl rfl (Jt rfl) (Jt rfl) rfl rfl (Jt rfl) rfl (Jt rfl) fun w0 S0 GL => ?_
 refine Ad (sm [] [(0, .e (.agg (Ag p0))), (1, oD (.ptr 90000 0)), (2, iD p2)] [(90000, .box [.own 90001, .own 90002, .own 90003]), (90001, .vec 1 (p1.fL.map Ak)), (90002, .vec 1 (p1.fI.map Ak)), (90003, .vec 1 (p1.fN.map Du))] rfl rfl) (wq rfl (qb rfl (qa rfl (Ac (wq rfl (qf Cl rfl (ql Hn rfl (qm rfl ?_))))))))
 refine BE h fun v1 a1 b1 h => qi DH Dv a1 (Af b1) rfl (qK He Dv rfl (qz Jp rfl (qs Dv rfl (Ac (wp rfl (qL He Dv rfl ?_))))))
 refine Bv h fun v2 a2 h => Aw [] (MN N v1 v2 a2) ag rfl (Cg rfl (Ac ?_))
 refine Ba h (fun h => ?_) fun h => ?_
 ·refine wq rfl (qe rfl ?_)
  obtain rfl := sj h
  refine Ad (sm [] [(6, bD false)] [(90000, .box [.own 90001, .own 90002, .own 90003]), (90001, .vec 1 (p1.fL.map Ak)), (90002, .vec 1 (p1.fI.map Ak)), (90003, .vec 1 (p1.fN.map Du))] rfl rfl) (Aq ?_)
  exact ⟨⟨[_], tm, rfl⟩, ⟨rfl, rfl, rfl, rfl, tv⟩, tv⟩
 ·refine Ai (wq rfl (qm rfl (Zm rfl (qL Bi AV rfl (qf Dg rfl (ql B5 rfl ?_))))))
  refine Bv h fun v4 a4 h => CD [] [90001, 90002, 90003] (Qk N p1 v1.fO v4 a4) ct Br rfl (qa rfl (AK (by kernel_rfl) (wq rfl (qm rfl (Zm rfl (qf CS rfl (ql HE rfl (qm rfl ?_))))))))
  refine BE h fun v5 a5 b5 h => qI Dz EF a5 (Af b5) rfl (qj Iz (Af b5) rfl (qm rfl (Il rfl (qa rfl (Ac (AM ?_))))))
  refine AS h (fun v6 => mk [(1, oD (.ptr 90000 0)), (2, iD p2), (8, pD (.val (.int .u8 v4))), (60, bD v6)] [(90000, .box [.own 90001, .own 90002, .own 90003]), (90001, .vec 1 (p1.fL.map Ak)), (90002, .vec 1 (p1.fI.map Ak)), (90003, .vec 1 (p1.fN.map Du))]) (fun j6 h => ?_) (fun v6 h => ?_)
  ·refine Ah Ax rfl (qm rfl (Zm rfl (qf CS rfl (ql HE rfl (qm rfl ?_)))))
   refine BE h fun v7 a7 b7 h => qI Dz EF a7 (Af b7) rfl (qj Iz (Af b7) rfl (qm rfl (B7 rfl (qm rfl ?_))))
   refine D4 42 h rfl (fun h => ?_) fun h => ?_
   ·refine qw 4 rfl (qu rfl (qu rfl (qu rfl (qu rfl (qu rfl (qu rfl (qu rfl (qu rfl (qu rfl (qu rfl (qu rfl (qu rfl (qn rfl (qp rfl (AK (by kernel_rfl) ?_)))))))))))))))
    exact sn [] h
   ·refine qf GC rfl (ql B5 rfl (B7 rfl (qm rfl ?_)))
    refine D4 46 h rfl (fun h => ?_) fun h => ?_
    ·refine qL He Dv rfl (qw 2 rfl (Zm rfl (qf CR rfl (ql A4 rfl (qf Dg rfl (ql B5 rfl ?_))))))
     refine BE h fun v10 a10 b10 h => qI As CJ a10 (Af b10) rfl (qj B5 (Af b10) rfl ?_)
     refine Bv h fun v11 a11 h => Aw [] (NO N v1 ((Df .u8 v5 v4)) v10 v11 a11) dK rfl (Cg rfl (qp rfl (qp rfl (AK (by kernel_rfl) ?_))))
     exact sn [] h
    ·refine qw 12 rfl (qp rfl (qp rfl (AK (by kernel_rfl) ?_)))
     exact sn [] h
  ·refine Ba h (fun h => ?_) fun h => ?_
   ·refine wq rfl (qe rfl ?_)
    obtain rfl := sj h
    refine Ad (sm [] [(6, bD false)] [(90000, .box [.own 90001, .own 90002, .own 90003]), (90001, .vec 1 (p1.fL.map Ak)), (90002, .vec 1 (p1.fI.map Ak)), (90003, .vec 1 (p1.fN.map Du))] rfl rfl) (Aq ?_)
    exact ⟨⟨[_], tm, rfl⟩, ⟨rfl, rfl, rfl, rfl, tv⟩, tv⟩
   ·refine Ai (wq rfl (qm rfl (Zm rfl (qf CS rfl (ql HE rfl (qw 2 rfl ?_))))))
    refine BE h fun v13 a13 b13 h => qI Dz EF a13 (Af b13) rfl ?_
    refine DM rfl rfl rfl rfl (Af b13) rfl EF rfl (Jt rfl) (DF Du p1.fN _ v4) ?_
    refine Ac (wq rfl (qe rfl ?_))
    obtain rfl := sj h
    refine Ad (sm [] [(6, bD true)] [(90000, .box [.own 90001, .own 90002, .own 90003]), (90001, .vec 1 (p1.fL.map Ak)), (90002, .vec 1 (p1.fI.map Ak)), (90003, .vec 1 ((p1.fN.set ((p2).toNat) v4).map Du))] rfl rfl) (Aq ?_)
    exact ⟨⟨[_], tm, rfl⟩, ⟨rfl, rfl, rfl, rfl, tv⟩, tv⟩
theorem NP (N : Nat) (p0 : Aa) (p1 : Ab) (p2 : Ae) (r : Ab × Bool) (h : F6 N p0 p1 p2 = some r) : Al zA 127 [.e (.agg (Ag p0)), .e (.agg (AE p1)), .e (.agg (DE p2))] [(1, r.1.fL.map Ak), (1, r.1.fI.map Ak), (1, r.1.fN.map Du)] (.tup [.agg [.own 0, .own 1, .own 2], .one (.pure (.val (.bool r.2)))]) := by
 unfold F6 at h
 refine cw (n := 51) (rs := [.cell 6 49, .tmp 7]) Tryz.func127 fun w0 S0 => ?_
 refine wq rfl (qb rfl (qb rfl (qb rfl (qz Ea rfl (qa rfl (Ac (wq rfl (qL Bi AV rfl ?_))))))))
 refine Bv h fun v1 a1 h => Aw [2001, 2002, 2003] (QL N p1 v1 a1) dp rfl (qz Ea rfl (qs AV rfl (Ac (wp rfl (qf GD rfl (ql B5 rfl (Ac (AJ (wq rfl (B7 rfl (qe rfl ?_)))))))))))
 refine Ba h (fun h => ?_) fun h => ?_
 ·refine wq rfl (qL Bi AV rfl (qL Ct BQ rfl (qL Jh EL rfl ?_)))
  refine Bv h fun v3 a3 h => Mn (ds0 := [_, _, _]) [8, 2001, 2002, 2003] [] [false, false, true, true] (RZ N p0 v1 p2 v3 a3) (.p rfl) cz rfl ⟨rfl, rfl, rfl, tv⟩ rfl rfl (by decide) ⟨rfl, rfl, rfl, rfl, tv⟩ rfl (Gw rfl) tv ⟨(fun _ => rfl), (fun _ => rfl), (fun h => by cases h), (fun h => by cases h), tv⟩ rfl rfl rfl ?_
  refine qs AV rfl (qa rfl (AK (by kernel_rfl) ?_))
  obtain rfl := sj h
  refine Ad (sm [(1000, 2001), (1001, 2002), (1002, 2003)] [(6, oD (.ptr 6 0)), (7, bD v3.1)] [(6, .box [.own 1000, .own 1001, .own 1002]), (1000, .vec 1 (v1.fL.map Ak)), (1001, .vec 1 (v3.2.1.map Ak)), (1002, .vec 1 (v3.2.2.map Du))] rfl rfl) (Aq ?_)
  exact ⟨⟨[_, _], ⟨.cellN _ _ _ _ _ _ _ rfl rfl Bi AV rfl rfl (JT rfl), tm⟩, rfl⟩, ⟨rfl, rfl, rfl, tv⟩⟩
 ·refine wq rfl (B7 rfl (qe rfl ?_))
  refine Ba h (fun h => ?_) fun h => ?_
  ·refine wq rfl (qL Bi AV rfl (qL Ct BQ rfl (qf FK rfl (ql B5 rfl ?_))))
   refine Bv h fun v5 a5 h => Mn (ds0 := [_, _, _]) [8, 2001, 2002, 2003] [] [false, false, false, true] (SC N p0 v1 p2.fR v5 a5) (.p rfl) d4 rfl ⟨rfl, rfl, rfl, tv⟩ rfl rfl (by decide) ⟨rfl, rfl, rfl, rfl, tv⟩ rfl (Gw rfl) tv ⟨(fun _ => rfl), (fun _ => rfl), (fun _ => rfl), (fun h => by cases h), tv⟩ rfl rfl rfl ?_
   refine qs AV rfl (qa rfl (AK (by kernel_rfl) ?_))
   obtain rfl := sj h
   refine Ad (sm [(1000, 2001), (1001, 2002), (1002, 2003)] [(6, oD (.ptr 6 0)), (7, bD v5.1)] [(6, .box [.own 1000, .own 1001, .own 1002]), (1000, .vec 1 (v1.fL.map Ak)), (1001, .vec 1 (v1.fI.map Ak)), (1002, .vec 1 (v5.2.map Du))] rfl rfl) (Aq ?_)
   exact ⟨⟨[_, _], ⟨.cellN _ _ _ _ _ _ _ rfl rfl Bi AV rfl rfl (JT rfl), tm⟩, rfl⟩, ⟨rfl, rfl, rfl, tv⟩⟩
  ·refine Ai (wq rfl (qf BC rfl (ql A4 rfl (qf FK rfl (ql B5 rfl ?_)))))
   refine BE h fun v6 a6 b6 h => qI As CJ a6 (Af b6) rfl (qj B5 (Af b6) rfl (qa rfl (Ac (wp rfl (qm rfl (AX rfl (Ac ?_)))))))
   refine Ba h (fun h => ?_) fun h => ?_
   ·refine wq rfl (qL Bi AV rfl (qs AV rfl (qe rfl ?_)))
    obtain rfl := sj h
    refine Ad (sm [(1000, 2001), (1001, 2002), (1002, 2003)] [(6, oD (.ptr 6 0)), (7, bD false)] [(6, .box [.own 1000, .own 1001, .own 1002]), (1000, .vec 1 (v1.fL.map Ak)), (1001, .vec 1 (v1.fI.map Ak)), (1002, .vec 1 (v1.fN.map Du))] rfl rfl) (Aq ?_)
    exact ⟨⟨[_, _], ⟨.cellN _ _ _ _ _ _ _ rfl rfl Bi AV rfl rfl (JT rfl), tm⟩, rfl⟩, ⟨rfl, rfl, rfl, tv⟩⟩
   ·refine Ai (wq rfl (qf BC rfl (ql A4 rfl (qf FK rfl (ql B5 rfl ?_)))))
    refine BE h fun v8 a8 b8 h => qI As CJ a8 (Af b8) rfl ?_
    refine DM rfl rfl rfl rfl (Af b8) rfl CJ rfl (Jt rfl) (DF Ak v1.fI _ ((-1))) ?_
    refine Ac ?_
    refine AS h (fun v9 => mk [(6, oD (.ptr 6 0)), (8, oD (.ptr 8 0))] [(6, .box [.pure (.nil0), .pure (.nil0), .pure (.nil0)]), (8, .box [.own 2004, .own 2005, .own 2006]), (2004, .vec 1 (v9.map Ak)), (2005, .vec 1 ((v1.fI.set ((p2.fR).toNat) ((-1))).map Ak)), (2006, .vec 1 (v1.fN.map Du))]) (fun j9 h => ?_) (fun v9 h => ?_)
    ·refine wq rfl (qf GD rfl (ql B5 rfl (B7 rfl (Ac ?_))))
     refine Ba h (fun h => ?_) fun h => ?_
     ·refine Ah Ax rfl (qf CR rfl (ql A4 rfl (qf FK rfl (ql B5 rfl (qm rfl ?_)))))
      refine BE h fun v11 a11 b11 h => qI As CJ a11 (Af b11) rfl ?_
      refine DM rfl rfl rfl rfl (Af b11) rfl CJ rfl (Jt rfl) (DF Ak v1.fL _ v6) ?_
      refine Ac ?_
      exact sn [(2004, 2001), (2005, 2002), (2006, 2003)] h
     ·refine Ai ?_
      exact sn [(2004, 2001), (2005, 2002), (2006, 2003)] h
    ·refine wq rfl (qL Bi AV rfl (qs AV rfl (qe rfl ?_)))
     obtain rfl := sj h
     refine Ad (sm [(1000, 2004), (1001, 2005), (1002, 2006)] [(6, oD (.ptr 6 0)), (7, bD true)] [(6, .box [.own 1000, .own 1001, .own 1002]), (1000, .vec 1 (v9.map Ak)), (1001, .vec 1 ((v1.fI.set ((p2.fR).toNat) ((-1))).map Ak)), (1002, .vec 1 (v1.fN.map Du))] rfl rfl) (Aq ?_)
     exact ⟨⟨[_, _], ⟨.cellN _ _ _ _ _ _ _ rfl rfl Bi AV rfl rfl (JT rfl), tm⟩, rfl⟩, ⟨rfl, rfl, rfl, tv⟩⟩
theorem Om (N : Nat) (p0 : Ae) (p1 : List Int) (p2 : List Int) (p3 : List Int) (p4 : List An) (p5 : List Int) (p6 : List Int) (p7 : List Int) (r : Bool) (h : DR N p0 p1 p2 p3 p4 p5 p6 p7 = some r) : Al zA 126 [.e (.agg (DE p0)), oD (.rop [.sl (p1.map Ak), .sl (p2.map Ak), .sl (p3.map Ak), .sl (p4.map AP)]), oD (.rop [.sl (p5.map Ak), .sl (p6.map Ak), .sl (p7.map Du)])] [] (bD r) := by
 unfold DR at h
 refine cw (n := 16) (rs := [.tmp 4]) Tryz.func126 fun w0 S0 => ?_
 refine wq rfl (qb rfl (qa rfl (Ac (wq rfl (qK Ct BQ rfl (qK Bi AV rfl (qL Jh EL rfl ?_)))))))
 refine Bv h fun v1 a1 h => Aw [2001, 2002, 2003] (NP N ((Aa.mk p1 p2 p3 p4)) ((Ab.mk p5 p6 p7)) p0 v1 a1) am rfl (qm rfl (qx rfl (qx rfl (qz Ea rfl (qs AV rfl (qa rfl (Ac (wq rfl (qm rfl (Cg rfl (qe rfl ?_)))))))))))
 obtain rfl := sj h
 refine Ad (sm [] [(4, bD ((!v1.2)))] [] rfl rfl) (Aq ?_)
 exact ⟨⟨[_], tm, rfl⟩, tv⟩
theorem HC (N : Nat) (p0 : List Ae) (p1 : Ae → Option Bool) (r : Int) (h : B0 N p0 p1 = some r) : Al zA 158 [pD (.sl (p0.map AH)), oD (.clo (G8 (LD true AH) tB p1))] [] (iD r) := by
 unfold B0 at h
 refine cw (n := 19) (rs := [.tmp 4]) Tryz.func158 fun w0 S0 => ?_
 refine wq rfl (qa rfl (Ac (wp rfl (qm rfl (AF EI rfl (qm rfl (Ac ?_)))))))
 refine AC (L := A7 N p0 p1) h (fun v1 => mk [(0, pD (.sl (p0.map AH))), (1, oD (.clo (G8 (LD true AH) tB p1))), (7, iD ((p0.length : Int))), (8, iD v1)] []) (fun v2 => mk [] []) (fun _ _ => rfl) (sm [] _ _ rfl rfl) (fun j1 n1 v1 h => ?_) (fun v2 s h hs => ?_)
 ·unfold A7 at h
  refine wq rfl (AX rfl (Ac (AM ?_)))
  refine Ba h (fun h => ?_) fun h => ?_
  ·refine Ai (AM (AJ (wq rfl (qm rfl (qa rfl (Ac (wq rfl (qw 3 rfl ?_))))))))
   refine BE h fun v4 a4 b4 h => qi EI EL a4 (Af b4) rfl (qK Jh EL rfl ?_)
   refine Bv h fun v5 a5 h => JO (ds0 := [_]) (ar := (LD true AH) v4) (.p rfl) rfl rfl ⟨rfl, tv⟩ rfl rfl rfl (IZ (Lb _ _ P8) a5) ?_
   refine Ac ?_
   refine Ba h (fun h => ?_) fun h => ?_
   ·refine wq rfl (qm rfl (qe rfl ?_))
    obtain rfl := sj h
    refine Ad (sm [] [(4, iD v1)] [] rfl rfl) (Aq ?_)
    exact ⟨⟨[_], tm, rfl⟩, tv⟩
   ·refine Ai (Ah Ax rfl (AY rfl (qm rfl (Ac ?_))))
    exact sn [] h
  ·refine AU ?_
   exact sn [] h
 ·refine Ad hs (wq rfl (qe rfl ?_))
  obtain rfl := sj h
  refine Ad (sm [] [(4, iD ((-1)))] [] rfl rfl) (Aq ?_)
  exact ⟨⟨[_], tm, rfl⟩, tv⟩
theorem Hz (N : Nat) (p0 : List Ae) (p1 : Ae → Option Bool) (r : Nat × (List Ae)) (h : BZ N p0 p1 = some r) : EQ zA 124 [oD (.own 90000), oD (.clo (G8 (LD true AH) tB p1))] [(.vec 3 (p0.map AH), .vec 3 (r.2.map AH))] [] (oD (.view 90000 3 0 r.1)) := by
 unfold BZ at h
 refine Hj (n := 42) (rs := [.tmp 4]) Tryz.func124 rfl rfl rfl (Jt rfl) (Jt rfl) rfl rfl (Jt rfl) rfl (Jt rfl) fun w0 S0 GL => ?_
 refine Ad (sm [] [(0, oD (.own 90000)), (1, oD (.clo (G8 (LD true AH) tB p1)))] [(90000, .vec 3 (p0.map AH))] rfl rfl) (wq rfl (qa rfl (Ac (wq rfl (qw 2 rfl ?_)))))
 refine Bv h fun v1 a1 h => CD [] [90000] (HC N p0 p1 v1 a1) cn Br rfl (qa rfl (Ac (wp rfl (qm rfl (B7 rfl (Ac ?_))))))
 refine Ba h (fun h => ?_) fun h => ?_
 ·refine wq rfl (qm rfl (qe rfl ?_))
  obtain rfl := sj h
  refine Ad ((VX AH p0 4 90000 3 rfl rfl).trans (sm [] [(4, oD (.view 90000 3 0 p0.length))] [(90000, .vec 3 (p0.map AH))] rfl rfl)) (Aq ?_)
  exact ⟨⟨[_], tm, rfl⟩, ⟨rfl, tv⟩, tv⟩
 ·refine Ai (wp rfl (qm rfl (AY rfl (qe rfl ?_))))
  refine AC (L := A1 N p1) h (fun v3 => mk [(0, oD (.own 90000)), (1, oD (.clo (G8 (LD true AH) tB p1))), (5, iD v3.2.1), (6, iD v3.2.2)] [(90000, .vec 3 (v3.1.map AH))]) (fun v4 => mk [(0, oD (.own 90000)), (5, iD v4.2)] [(90000, .vec 3 (v4.1.map AH))]) (fun _ _ => rfl) (sm [] _ _ rfl rfl) (fun j3 n3 v3 h => ?_) (fun v4 s h hs => ?_)
  ·unfold A1 at h
   refine wp rfl (qw 2 rfl (Fm EI rfl (AX rfl (Ac ?_))))
   refine Ba h (fun h => ?_) fun h => ?_
   ·refine Ai ?_
    refine AS h (fun v6 => mk [(0, oD (.own 90000)), (1, oD (.clo (G8 (LD true AH) tB p1))), (5, iD v6.2), (6, iD v3.2.2)] [(90000, .vec 3 (v6.1.map AH))]) (fun j6 h => ?_) (fun v6 h => ?_)
    ·refine AJ (wq rfl (qw 2 rfl ?_))
     refine BE h fun v7 a7 b7 h => qI EI EL a7 (Af b7) rfl (qJ Jh EL (Af b7) rfl (qz K4 rfl (qs EL rfl (Ac (wq rfl (qm rfl (qL Jh EL rfl ?_)))))))
     refine Bv h fun v8 a8 h => JO (ds0 := [_]) (ar := (LD true AH) v7) (.p rfl) rfl rfl ⟨rfl, tv⟩ rfl rfl rfl (IZ (Lb _ _ P8) a8) ?_
     refine Cg rfl (Ac ?_)
     refine Ba h (fun h => ?_) fun h => ?_
     ·refine wq rfl (qw 2 rfl (qL Jh EL rfl ?_))
      refine BE h fun v10 a10 b10 h => qI EI EL a10 (Af b10) rfl ?_
      refine DM rfl rfl rfl rfl (Af b10) rfl EL rfl (Jt rfl) (DF AH v3.1 _ v7) ?_
      refine Ac (Ah Ax rfl (qm rfl (AY rfl (qe rfl ?_))))
      exact sn [] h
     ·refine Ai ?_
      exact sn [] h
    ·refine Ah Ax rfl (qm rfl (AY rfl (qe rfl ?_)))
     exact sn [] h
   ·refine AU ?_
    exact sn [] h
  ·refine Ad hs (wq rfl (qw 2 rfl ?_))
   obtain ⟨c11, h⟩ := HO h
   have w12 : ((v4.2).toNat) + ((v4.1.length - (v4.2).toNat)) ≤ v4.1.length := by have := c11.2.1; have := c11.2.2; omega
   refine KN AH v4.1 (.p rfl) rfl (Kg AH _ _ v4.1) rfl EI EL (.some _ _ _ _ c11.1) (.none _) ⟨rfl, tv⟩ tv c11.2.1 (by rw [zC]; exact c11.2.2) (zC _) rfl ?_
   have w13 : (JK v4.1 ((v4.2).toNat) (zH ((v4.1.length - (v4.2).toNat)) ((Ae.mk 0 0 0)))).length = v4.1.length := Kj (by rw [List.length_replicate]; exact w12)
   refine S4 AH v4.1 ((Ae.mk 0 0 0)) rfl rfl (Oj AH _ _ ((v4.2).toNat) ((v4.1.length - (v4.2).toNat)) v4.1 w12) rfl EI K4 rfl rfl rfl rfl ?_
   refine Ac (wq rfl (qw 2 rfl ?_))
   obtain ⟨c14, h⟩ := HO h
   have w15 : 0 + ((v4.2).toNat) ≤ (JK v4.1 ((v4.2).toNat) (zH ((v4.1.length - (v4.2).toNat)) ((Ae.mk 0 0 0)))).length := by have := c14.2.1; have := c14.2.2; omega
   refine KN AH (JK v4.1 ((v4.2).toNat) (zH ((v4.1.length - (v4.2).toNat)) ((Ae.mk 0 0 0)))) (.p rfl) rfl (Kg AH _ _ (JK v4.1 ((v4.2).toNat) (zH ((v4.1.length - (v4.2).toNat)) ((Ae.mk 0 0 0))))) rfl EI EL (.none _) (.some _ _ _ _ c14.1) tv ⟨rfl, tv⟩ c14.2.1 (by rw [zC]; exact c14.2.2) (zC _) rfl ?_
   refine qa rfl (Ac ?_)
   obtain rfl := sj h
   refine Ad (sm [] [(4, oD (.view 90000 3 0 ((v4.2).toNat)))] [(90000, .vec 3 ((JK v4.1 ((v4.2).toNat) (zH ((v4.1.length - (v4.2).toNat)) ((Ae.mk 0 0 0)))).map AH))] rfl rfl) (Aq ?_)
   exact ⟨⟨[_], tm, rfl⟩, ⟨rfl, tv⟩, tv⟩
theorem LX (N : Nat) (p0 : Aa) (p1 : Ab) (r : (List Ae) × Int) (h : zFS N p0 p1 = some r) : Al zA 87 [.e (.agg (Ag p0)), .e (.agg (AE p1))] [(3, r.1.map AH)] (.tup [.one (.own 0), .one (iC r.2)]) := by
 unfold zFS at h
 refine cw (n := 17) (rs := [.tmp 4, .tmp 5]) Tryz.func87 fun w0 S0 => ?_
 refine wq rfl (qb rfl (qb rfl (qa rfl (qa rfl (Ac (wp rfl (qL Ct BQ rfl (qL Bi AV rfl ?_))))))))
 refine Bv h fun v1 a1 h => Aw [] (Kw N p0 p1 v1 a1) Vo rfl (qa rfl (Ac (wq rfl (qm rfl (Bt rfl (Ac ?_))))))
 refine Ba h (fun h => ?_) fun h => ?_
 ·refine wq rfl (qm rfl (qa rfl (qe rfl ?_)))
  obtain rfl := sj h
  refine Ad ((A9 4 2001 3 rfl rfl rfl).trans (sm [(1000, 2001)] [(4, oD (.own 1000)), (5, iD v1)] [(1000, .vec 3 ((([] : List Ae)).map AH))] rfl rfl)) (Aq ?_)
  exact ⟨⟨[_, _], ⟨.tmp _ _ rfl, tm⟩, rfl⟩, ⟨rfl, tv⟩⟩
 ·refine Ai (wq rfl (qL Ct BQ rfl ?_))
  refine Bv h fun v3 a3 h => Aw [2002] (UL N p0 v3 a3) cy rfl (Dn (Io 2 [.sl (p0.fJ.map Ak), .sl (p0.fQ.map Ak), .sl (p0.fU.map Ak), .sl (p0.fK.map AP)] rfl rfl) (Dn (Io 3 [.sl (p1.fL.map Ak), .sl (p1.fI.map Ak), .sl (p1.fN.map Du)] rfl rfl) ?_))
  refine IU (capD := [_, _]) (G8 (LD true AH) tB ((fun (x : Ae) => DR N x p0.fJ p0.fQ p0.fU p0.fK p1.fL p1.fI p1.fN))) (.p rfl) cF rfl ⟨rfl, rfl, tv⟩ rfl (fun ar t ht => by obtain ⟨x, r, rfl, hq, rfl⟩ := Hp ht; exact Om N x p0.fJ p0.fQ p0.fU p0.fK p1.fL p1.fI p1.fN r hq) ?_
  obtain ⟨v4, a4, h⟩ := bind_some h
  obtain ⟨c5, h⟩ := HO h
  have w6 : 0 + v4.1 ≤ v4.2.length := by rw [zC]; exact c5
  refine Mn (ds0 := [_, _]) [2002] [] [true] (Hz N v3 ((fun (x : Ae) => DR N x p0.fJ p0.fQ p0.fU p0.fK p1.fL p1.fI p1.fN)) v4 a4) (.p rfl) dh rfl ⟨rfl, rfl, tv⟩ rfl rfl (by decide) ⟨rfl, tv⟩ rfl (Gw rfl) tv ⟨(fun h => by cases h), tv⟩ rfl rfl rfl ?_
  refine Dn (XO AH v4.2 16 2002 2003 3 v4.1 rfl rfl rfl rfl rfl c5) (qa rfl (qe rfl ?_))
  obtain rfl := sj h
  refine Ad (sm [(1000, 2003)] [(4, oD (.own 1000)), (5, iD 0)] [(1000, .vec 3 ((v4.2.take v4.1).map AH))] rfl rfl) (Aq ?_)
  exact ⟨⟨[_, _], ⟨.tmp _ _ rfl, tm⟩, rfl⟩, ⟨rfl, tv⟩⟩
theorem SG (N : Nat) (p0 : Ae) (r : Bool) (h : HJ N p0 = some r) : Al zA 162 [.e (.agg (DE p0))] [] (bD r) := by
 unfold HJ at h
 refine cw (n := 27) (rs := [.tmp 2]) Tryz.func162 fun w0 S0 => ?_
 refine wq rfl (qb rfl (qa rfl (Ac (AM ?_))))
 refine AS h (fun v1 => mk [(1, oD (.ptr 1 0)), (18, bD v1)] [(1, .box (DE p0))]) (fun j1 h => ?_) (fun v1 h => ?_)
 ·refine Ah Ax rfl (qf FK rfl (ql B5 rfl (qf HZ rfl (ql B5 rfl ?_))))
  refine bZ (.p rfl) rfl rfl ?_
  refine AX rfl (qm rfl ?_)
  refine D4 9 h rfl (fun h => ?_) fun h => ?_
  ·refine qw 3 rfl (qp rfl (qw 4 rfl (qp rfl (Ac ?_))))
   exact sn [] h
  ·refine qf GD rfl (ql B5 rfl (AX rfl (qp rfl (qm rfl ?_))))
   refine D4 14 h rfl (fun h => ?_) fun h => ?_
   ·refine qw 3 rfl (qp rfl (Ac ?_))
    exact sn [] h
   ·refine qf GD rfl (ql B5 rfl (FN rfl (qp rfl (Ac ?_))))
    exact sn [] h
 ·refine Ba h (fun h => ?_) fun h => ?_
  ·refine wq rfl (qe rfl ?_)
   obtain rfl := sj h
   refine Ad (sm [] [(2, bD false)] [] rfl rfl) (Aq ?_)
   exact ⟨⟨[_], tm, rfl⟩, tv⟩
  ·refine Ai ?_
   refine AS h (fun v5 => mk [(2, bD v5)] []) (fun j5 h => ?_) (fun v5 h => ?_)
   ·refine Ah Ax rfl (qf GD rfl (ql B5 rfl (B7 rfl (qm rfl ?_))))
    refine D4 22 h rfl (fun h => ?_) fun h => ?_
    ·refine qw 3 rfl (qp rfl (qe rfl ?_))
     exact sn [] h
    ·refine qf HZ rfl (ql B5 rfl (B7 rfl (qp rfl (qe rfl ?_))))
     exact sn [] h
   ·obtain rfl := sj h
    refine Ad (sm [] [(2, bD v5)] [] rfl rfl) (Aq ?_)
    exact ⟨⟨[_], tm, rfl⟩, tv⟩
theorem QK (N : Nat) (p0 : Aa) (p1 : Ae) (r : Bool) (h : Hb N p0 p1 = some r) : Al zA 163 [.e (.agg (Ag p0)), .e (.agg (DE p1))] [] (bD r) := by
 unfold Hb at h
 refine cw (n := 36) (rs := [.tmp 4]) Tryz.func163 fun w0 S0 => ?_
 refine wq rfl (qb rfl (qb rfl (qa rfl (Ac (wp rfl (qf GD rfl (ql B5 rfl (B7 rfl (Ac ?_)))))))))
 refine Ba h (fun h => ?_) fun h => ?_
 ·refine wq rfl (qf FK rfl (ql B5 rfl (qf Cl rfl (ql Hn rfl (AF DH rfl (AX rfl (qe rfl ?_)))))))
  obtain rfl := sj h
  refine Ad (sm [] [(4, bD ((decide (p1.fR < (p0.fK.length : Int)))))] [] rfl rfl) (Aq ?_)
  exact ⟨⟨[_], tm, rfl⟩, tv⟩
 ·refine Ai ?_
  refine AS h (fun v2 => mk [(4, bD v2)] []) (fun j2 h => ?_) (fun v2 h => ?_)
  ·refine Ah Ax rfl (qf FK rfl (ql B5 rfl (qf Bd rfl (ql A4 rfl (AF As rfl (AX rfl (qm rfl ?_)))))))
   refine D4 20 h rfl (fun h => ?_) fun h => ?_
   ·refine qf GD rfl (ql B5 rfl (Bt rfl (qm rfl ?_)))
    refine D4 24 h rfl (fun h => ?_) fun h => ?_
    ·refine qw 9 rfl (qp rfl (qp rfl (qa rfl (AK (by kernel_rfl) ?_))))
     exact sn [] h
    ·refine qf HZ rfl (ql B5 rfl (qf Bd rfl (ql A4 rfl (qf FK rfl (ql B5 rfl ?_)))))
     refine BE h fun v5 a5 b5 h => qi As CJ a5 (Af b5) rfl (qk B5 rfl (AX rfl (qp rfl (qp rfl (qa rfl (AK (by kernel_rfl) ?_))))))
     exact sn [] h
   ·refine qw 4 rfl (qu rfl (qu rfl (qu rfl (qu rfl (qu rfl (qu rfl (qu rfl (qu rfl (qu rfl (qn rfl (qp rfl (qa rfl (AK (by kernel_rfl) ?_)))))))))))))
    exact sn [] h
  ·obtain rfl := sj h
   refine Ad (sm [] [(4, bD v2)] [] rfl rfl) (Aq ?_)
   exact ⟨⟨[_], tm, rfl⟩, tv⟩
theorem SE (N : Nat) (p0 : Aa) (p1 : Ab) (p2 : Ae) (r : Ab × Int) (h : HL N p0 p1 p2 = some r) : Al zA 128 [.e (.agg (Ag p0)), .e (.agg (AE p1)), .e (.agg (DE p2))] [(1, r.1.fL.map Ak), (1, r.1.fI.map Ak), (1, r.1.fN.map Du)] (.tup [.agg [.own 0, .own 1, .own 2], .one (iC r.2)]) := by
 unfold HL at h
 refine cw (n := 32) (rs := [.cell 6 49, .tmp 7]) Tryz.func128 fun w0 S0 => ?_
 refine wq rfl (qb rfl (qb rfl (qb rfl (qz Ea rfl (qa rfl (Ac (AM (AJ (wq rfl (qL Jh EL rfl ?_))))))))))
 refine Bv h fun v1 a1 h => Aw [] (SG N p2 v1 a1) dG rfl (Cg rfl (qe rfl ?_))
 refine Ba h (fun h => ?_) fun h => ?_
 ·refine wq rfl (Bm Ea JR rfl (qs AV rfl (qe rfl ?_)))
  obtain rfl := sj h
  refine Ad ((Ar 6 0 2001 1 _ rfl rfl rfl rfl).trans ((Ar 6 1 2002 1 _ rfl rfl rfl rfl).trans ((Ar 6 2 2003 1 _ rfl rfl rfl rfl).trans (sm [(1000, 2001), (1001, 2002), (1002, 2003)] [(6, oD (.ptr 6 0)), (7, iD 1)] [(6, .box [.own 1000, .own 1001, .own 1002]), (1000, .vec 1 ((([] : List Int)).map Ak)), (1001, .vec 1 ((([] : List Int)).map Ak)), (1002, .vec 1 ((([] : List Int)).map Du))] rfl rfl)))) (Aq ?_)
  exact ⟨⟨[_, _], ⟨.cellN _ _ _ _ _ _ _ rfl rfl Bi AV rfl rfl (JT rfl), tm⟩, rfl⟩, ⟨rfl, rfl, rfl, tv⟩⟩
 ·refine wq rfl (qL Ct BQ rfl (qL Jh EL rfl ?_))
  refine Bv h fun v3 a3 h => Aw [] (QK N p0 p2 v3 a3) ej rfl (Cg rfl (qe rfl ?_))
  refine Ba h (fun h => ?_) fun h => ?_
  ·refine wq rfl (Bm Ea JR rfl (qs AV rfl (qe rfl ?_)))
   obtain rfl := sj h
   refine Ad ((Ar 6 0 2004 1 _ rfl rfl rfl rfl).trans ((Ar 6 1 2005 1 _ rfl rfl rfl rfl).trans ((Ar 6 2 2006 1 _ rfl rfl rfl rfl).trans (sm [(1000, 2004), (1001, 2005), (1002, 2006)] [(6, oD (.ptr 6 0)), (7, iD 4)] [(6, .box [.own 1000, .own 1001, .own 1002]), (1000, .vec 1 ((([] : List Int)).map Ak)), (1001, .vec 1 ((([] : List Int)).map Ak)), (1002, .vec 1 ((([] : List Int)).map Du))] rfl rfl)))) (Aq ?_)
   exact ⟨⟨[_, _], ⟨.cellN _ _ _ _ _ _ _ rfl rfl Bi AV rfl rfl (JT rfl), tm⟩, rfl⟩, ⟨rfl, rfl, rfl, tv⟩⟩
  ·refine Ai (wq rfl (qL Ct BQ rfl (qL Bi AV rfl (qL Jh EL rfl ?_))))
   refine Bv h fun v5 a5 h => Aw [2007, 2008, 2009] (NP N p0 p1 p2 v5 a5) am rfl (qm rfl (qx rfl (qx rfl (qz Ea rfl (qs AV rfl (qa rfl (Ac (wp rfl (qm rfl (Cg rfl (Ac ?_)))))))))))
   refine Ba h (fun h => ?_) fun h => ?_
   ·refine wq rfl (Bm Ea JR rfl (qs AV rfl (qe rfl ?_)))
    obtain rfl := sj h
    refine Ad ((Ar 6 0 2010 1 _ rfl rfl rfl rfl).trans ((Ar 6 1 2011 1 _ rfl rfl rfl rfl).trans ((Ar 6 2 2012 1 _ rfl rfl rfl rfl).trans (sm [(1000, 2010), (1001, 2011), (1002, 2012)] [(6, oD (.ptr 6 0)), (7, iD 11)] [(6, .box [.own 1000, .own 1001, .own 1002]), (1000, .vec 1 ((([] : List Int)).map Ak)), (1001, .vec 1 ((([] : List Int)).map Ak)), (1002, .vec 1 ((([] : List Int)).map Du))] rfl rfl)))) (Aq ?_)
    exact ⟨⟨[_, _], ⟨.cellN _ _ _ _ _ _ _ rfl rfl Bi AV rfl rfl (JT rfl), tm⟩, rfl⟩, ⟨rfl, rfl, rfl, tv⟩⟩
   ·refine Ai (wq rfl (qL Bi AV rfl (qs AV rfl (qe rfl ?_))))
    obtain rfl := sj h
    refine Ad (sm [(1000, 2007), (1001, 2008), (1002, 2009)] [(6, oD (.ptr 6 0)), (7, iD 0)] [(6, .box [.own 1000, .own 1001, .own 1002]), (1000, .vec 1 (v5.1.fL.map Ak)), (1001, .vec 1 (v5.1.fI.map Ak)), (1002, .vec 1 (v5.1.fN.map Du))] rfl rfl) (Aq ?_)
    exact ⟨⟨[_, _], ⟨.cellN _ _ _ _ _ _ _ rfl rfl Bi AV rfl rfl (JT rfl), tm⟩, rfl⟩, ⟨rfl, rfl, rfl, tv⟩⟩
theorem Np (N : Nat) (p0 : Aa) (p1 : Ab) (p2 : Ae) (r : Ab × Int) (h : GX N p0 p1 p2 = some r) : Al zA 88 [.e (.agg (Ag p0)), .e (.agg (AE p1)), .e (.agg (DE p2))] [(1, r.1.fL.map Ak), (1, r.1.fI.map Ak), (1, r.1.fN.map Du)] (.tup [.agg [.own 0, .own 1, .own 2], .one (iC r.2)]) := by
 unfold GX at h
 refine cw (n := 22) (rs := [.cell 6 49, .tmp 7]) Tryz.func88 fun w0 S0 => ?_
 refine wq rfl (qb rfl (qb rfl (qb rfl (qz Ea rfl (qa rfl (Ac (wp rfl (qL Ct BQ rfl (qL Bi AV rfl ?_)))))))))
 refine Bv h fun v1 a1 h => Aw [] (Kw N p0 p1 v1 a1) Vo rfl (qa rfl (Ac (wq rfl (qm rfl (Bt rfl (Ac ?_))))))
 refine Ba h (fun h => ?_) fun h => ?_
 ·refine wq rfl (Bm Ea JR rfl (qm rfl (qs AV rfl (qe rfl ?_))))
  obtain rfl := sj h
  refine Ad ((Ar 6 0 2001 1 _ rfl rfl rfl rfl).trans ((Ar 6 1 2002 1 _ rfl rfl rfl rfl).trans ((Ar 6 2 2003 1 _ rfl rfl rfl rfl).trans (sm [(1000, 2001), (1001, 2002), (1002, 2003)] [(6, oD (.ptr 6 0)), (7, iD v1)] [(6, .box [.own 1000, .own 1001, .own 1002]), (1000, .vec 1 ((([] : List Int)).map Ak)), (1001, .vec 1 ((([] : List Int)).map Ak)), (1002, .vec 1 ((([] : List Int)).map Du))] rfl rfl)))) (Aq ?_)
  exact ⟨⟨[_, _], ⟨.cellN _ _ _ _ _ _ _ rfl rfl Bi AV rfl rfl (JT rfl), tm⟩, rfl⟩, ⟨rfl, rfl, rfl, tv⟩⟩
 ·refine Ai (wq rfl (qL Ct BQ rfl (qL Bi AV rfl (qL Jh EL rfl ?_))))
  refine Bv h fun v3 a3 h => Aw [2004, 2005, 2006] (SE N p0 p1 p2 v3 a3) cZ rfl (qx rfl (qx rfl (qs AV rfl (qe rfl ?_))))
  obtain rfl := sj h
  refine Ad (sm [(1000, 2004), (1001, 2005), (1002, 2006)] [(6, oD (.ptr 6 0)), (7, iD v3.2)] [(6, .box [.own 1000, .own 1001, .own 1002]), (1000, .vec 1 (v3.1.fL.map Ak)), (1001, .vec 1 (v3.1.fI.map Ak)), (1002, .vec 1 (v3.1.fN.map Du))] rfl rfl) (Aq ?_)
  exact ⟨⟨[_, _], ⟨.cellN _ _ _ _ _ _ _ rfl rfl Bi AV rfl rfl (JT rfl), tm⟩, rfl⟩, ⟨rfl, rfl, rfl, tv⟩⟩
theorem QV (N : Nat) (p0 : Aa) (p1 : Ab) (r : (List AD) × Int) (h : G9 N p0 p1 = some r) : Al zA 106 [.e (.agg (Ag p0)), .e (.agg (AE p1))] [] (.tup [.one (sC (r.1.map Bk)), .one (iC r.2)]) := by
 unfold G9 at h
 refine cw (n := 119) (rs := [.tmp 4, .tmp 5]) Tryz.func106 fun w0 S0 => ?_
 refine wq rfl (qb rfl (qb rfl (qa rfl (qa rfl (Ac (wq rfl (qL Bi AV rfl (Bm Tw ay rfl ?_))))))))
 refine MS [(0, .tmp 21, _)] (.p rfl) rfl ⟨rfl, tv⟩ rfl HI LA Tw rfl rfl (Jt rfl) rfl rfl ?_
 refine Dn (RQ 22 8 [.s, .s, .s, .s, .s, .s, .s, .x 1 []] _ ((([(AD.mk p1 ((-1)) ((Ae.mk 0 0 0)) (([] : List Int)))] : List AD)).map Bk) rfl rfl) (qa rfl (Ac (wq rfl ?_)))
 refine Wt (.p rfl) rfl ?_
 refine qL Bi AV rfl ?_
 refine Bv h fun v1 a1 h => Aw [] (PE N p1 v1 a1) Z1 rfl ?_
 refine Pj (kv := Value.string) (vt := Nz) (m := ([] : List (ByteArray × Int))) (k := v1) (v := 0) rfl (.inr rfl) rfl rfl rfl rfl (Ox Sx bm) rfl ?_
 refine qm rfl (qa rfl (Ac (wp rfl (qe rfl ?_))))
 refine AC (L := DS N p0) h (fun v2 => mk [(2, oD (.ptr 2 0)), (6, oD (.own 2001)), (7, oD (.mref 2002)), (8, iD v2.2.2)] [(2, .box (Ag p0)), (2001, .dvec 8 [.s, .s, .s, .s, .s, .s, .s, .x 1 []] (v2.1.map Bk)), (2002, .mp (Gj Value.string Nz v2.2.1))]) (fun v3 => mk [(6, oD (.own 2003))] [(2003, .dvec 8 [.s, .s, .s, .s, .s, .s, .s, .x 1 []] (v3.map Bk))]) (fun _ _ => rfl) (sm [(2001, 22), (2002, 23)] _ _ rfl rfl) (fun j2 n2 v2 h => ?_) (fun v3 s h hs => ?_)
 ·unfold DS at h
  refine wp rfl (qw 2 rfl ?_)
  refine Vg (.p rfl) rfl rfl (Mq Bk v2.1 _ _) HI ?_
  refine AX rfl (Ac ?_)
  refine Ba h (fun h => ?_) fun h => ?_
  ·refine Ai (AM (AJ (wq rfl (qL Ct BQ rfl (qw 2 rfl ?_)))))
   refine BE h fun v5 a5 b5 h => NJ (.p rfl) rfl rfl rfl (Mq Bk v2.1 _ _) HI LA a5 (AG b5) ?_
   refine qh Pz rfl ?_
   refine TI (.p rfl) rfl Bi AV rfl (Af b5) rfl rfl (by decide) rfl ?_
   refine Bv h fun v6 a6 h => Aw [2004] (LX N p0 ((Ab.mk v5.fV.fL v5.fV.fI v5.fV.fN)) v6 a6) cm rfl (qm rfl (qx rfl (qx rfl (qa rfl (qa rfl (AK (by kernel_rfl) (wp rfl (qm rfl (Bt rfl (Ac ?_))))))))))
   refine Ba h (fun h => ?_) fun h => ?_
   ·refine wq rfl (qm rfl (qa rfl (qe rfl ?_)))
    obtain rfl := sj h
    refine Ad ((PN 4 _ rfl).trans (sm [] [(4, pD (.sl ((([] : List AD)).map Bk))), (5, iD v6.2)] [] rfl rfl)) (Aq ?_)
    exact ⟨⟨[_, _], ⟨.tmp _ _ rfl, tm⟩, rfl⟩, tv⟩
   ·refine Ai (wq rfl (qm rfl (Fm EI rfl (qm rfl (Ac ?_)))))
    refine AC (L := Cy N p0 v2 v6) h (fun v8 => mk [(2, oD (.ptr 2 0)), (6, oD (.own 2005)), (7, oD (.mref 2006)), (8, iD v2.2.2), (46, oD (.own 2007)), (47, iD ((v6.1.length : Int))), (48, iD v8.2.2)] [(2, .box (Ag p0)), (2005, .dvec 8 [.s, .s, .s, .s, .s, .s, .s, .x 1 []] (v8.1.map Bk)), (2006, .mp (Gj Value.string Nz v8.2.1)), (2007, .vec 3 (v6.1.map AH))]) (fun v9 => mk [(2, oD (.ptr 2 0)), (6, oD (.own 2008)), (7, oD (.mref 2009)), (8, iD v2.2.2)] [(2, .box (Ag p0)), (2008, .dvec 8 [.s, .s, .s, .s, .s, .s, .s, .x 1 []] (v9.1.map Bk)), (2009, .mp (Gj Value.string Nz v9.2))]) (fun _ _ => rfl) (sm [(2005, 2001), (2006, 2002), (2007, 2004)] _ _ rfl rfl) (fun j8 n8 v8 h => ?_) (fun v9 s h hs => ?_)
    ·unfold Cy at h
     refine wq rfl (AX rfl (Ac (AM ?_)))
     refine Ba h (fun h => ?_) fun h => ?_
     ·refine Ai (AM (AJ (wq rfl ?_)))
      refine BE h fun v11 a11 b11 h => qI EI EL a11 (Af b11) rfl (qJ Jh EL (Af b11) rfl (qz K4 rfl (qs EL rfl (Ac (wq rfl (qL Ct BQ rfl (qw 2 rfl ?_)))))))
      refine BE h fun v12 a12 b12 h => NJ (.p rfl) rfl rfl rfl (Mq Bk v8.1 _ _) HI LA a12 (AG b12) ?_
      refine qh Pz rfl ?_
      refine TI (.p rfl) rfl Bi AV rfl (Af b12) rfl rfl (by decide) rfl ?_
      refine qL Jh EL rfl ?_
      refine Bv h fun v13 a13 h => Aw [2010, 2011, 2012] (Np N p0 ((Ab.mk v12.fV.fL v12.fV.fI v12.fV.fN)) v11 v13 a13) dz rfl (qm rfl (qx rfl (qx rfl (qz Ea rfl (qs AV rfl (qa rfl (AK (by kernel_rfl) (wp rfl (qm rfl (Bt rfl (Ac ?_)))))))))))
      refine Ba h (fun h => ?_) fun h => ?_
      ·refine wq rfl (qm rfl (qa rfl (qe rfl ?_)))
       obtain rfl := sj h
       refine Ad ((PN 4 _ rfl).trans (sm [] [(4, pD (.sl ((([] : List AD)).map Bk))), (5, iD v13.2)] [] rfl rfl)) (Aq ?_)
       exact ⟨⟨[_, _], ⟨.tmp _ _ rfl, tm⟩, rfl⟩, tv⟩
      ·refine Ai (wq rfl (qL Bi AV rfl ?_))
       refine Bv h fun v15 a15 h => CD [] [2010, 2011, 2012] (PE N v13.1 v15 a15) Z1 Br rfl (qa rfl (Ac (wq rfl (qw 2 rfl ?_))))
       refine WL (kv := Value.string) (vt := Nz) (m := v8.2.1) (dv := 0) (.p rfl) rfl rfl rfl (Ox Sx bm) (by rw [Sx]; rfl) Ja rfl rfl rfl ?_
       refine qm rfl (qx rfl (qx rfl (qa rfl (qe rfl ?_))))
       refine AS h (fun v16 => mk [(2, oD (.ptr 2 0)), (6, oD (.own 2013)), (7, oD (.mref 2014)), (8, iD v2.2.2), (16, iD v16.2.2), (46, oD (.own 2015)), (47, iD ((v6.1.length : Int))), (48, iD v8.2.2)] [(2, .box (Ag p0)), (2013, .dvec 8 [.s, .s, .s, .s, .s, .s, .s, .x 1 []] (v16.1.map Bk)), (2014, .mp (Gj Value.string Nz v16.2.1)), (2015, .vec 3 (v6.1.map AH))]) (fun j16 h => ?_) (fun v16 h => ?_)
       ·refine wq rfl (qm rfl (Cg rfl (Ac ?_)))
        refine Ba h (fun h => ?_) fun h => ?_
        ·refine AS h (fun v18 => mk [(2, oD (.ptr 2 0)), (6, oD (.own 2016)), (7, oD (.mref 2017)), (8, iD v2.2.2), (15, pD (.val (.string v15))), (16, iD v18.2), (46, oD (.own 2018)), (47, iD ((v6.1.length : Int))), (48, iD v8.2.2)] [(2, .box (Ag p0)), (2016, .dvec 8 [.s, .s, .s, .s, .s, .s, .s, .x 1 []] (v18.1.map Bk)), (2017, .mp (Gj Value.string Nz v8.2.1)), (2018, .vec 3 (v6.1.map AH))]) (fun j18 h => ?_) (fun v18 h => ?_)
         ·refine wq rfl (qL Ct BQ rfl (qL Bi AV rfl ?_))
          refine Bv h fun v19 a19 h => CD [] [2010, 2011, 2012] (Ip N p0 v13.1 v19 a19) XP Br rfl (qm rfl (qx rfl (qx rfl (qa rfl (qe rfl ?_)))))
          refine AS h (fun v20 => mk [(2, oD (.ptr 2 0)), (6, oD (.own 2022)), (7, oD (.mref 2023)), (8, iD v2.2.2), (12, oD (.ptr 12 0)), (13, oD (.ptr 13 0)), (15, pD (.val (.string v15))), (46, oD (.own 2024)), (47, iD ((v6.1.length : Int))), (48, iD v8.2.2), (87, bD v20)] [(2, .box (Ag p0)), (12, .box (DE v11)), (13, .box [.own 2019, .own 2020, .own 2021]), (2019, .vec 1 (v13.1.fL.map Ak)), (2020, .vec 1 (v13.1.fI.map Ak)), (2021, .vec 1 (v13.1.fN.map Du)), (2022, .dvec 8 [.s, .s, .s, .s, .s, .s, .s, .x 1 []] (v8.1.map Bk)), (2023, .mp (Gj Value.string Nz v8.2.1)), (2024, .vec 3 (v6.1.map AH))]) (fun j20 h => ?_) (fun v20 h => ?_)
          ·refine Ah Ax rfl (qm rfl (Bt rfl (qm rfl ?_)))
           refine D4 84 h rfl (fun h => ?_) fun h => ?_
           ·refine qw 2 rfl (qp rfl (Ac ?_))
            exact sn [(2019, 2010), (2020, 2011), (2021, 2012), (2022, 2005), (2023, 2006), (2024, 2007)] h
           ·refine qm rfl (Cg rfl (qp rfl (Ac ?_)))
            exact sn [(2019, 2010), (2020, 2011), (2021, 2012), (2022, 2005), (2023, 2006), (2024, 2007)] h
          ·refine Ba h (fun h => ?_) fun h => ?_
           ·refine Ah Ax rfl (qe rfl ?_)
            exact sn [(2016, 2022), (2017, 2023), (2018, 2024)] h
           ·refine wq rfl (qm rfl ?_)
            refine Vg (.p rfl) rfl rfl (Mq Bk v8.1 _ _) HI ?_
            refine qa rfl (Ac (Ah Ax rfl (qm rfl (qL Bi AV rfl (qm rfl (qL Jh EL rfl (Bm Tw ay rfl (Dn (Bp 2019 _ _ rfl rfl) (Dn (Bp 2020 _ _ rfl rfl) (Dn (Bp 2021 _ _ rfl rfl) ?_))))))))))
            refine MS [(0, .tmp 94, _)] (.p rfl) rfl ⟨rfl, tv⟩ rfl HI LA Tw rfl rfl (Jt rfl) rfl rfl ?_
            refine Dn (RQ 95 8 [.s, .s, .s, .s, .s, .s, .s, .x 1 []] _ ((([(AD.mk v13.1 v2.2.2 v11 (([] : List Int)))] : List AD)).map Bk) rfl rfl) ?_
            refine F3 h fun c23 h => Wg (.p rfl) rfl rfl rfl rfl rfl (by decide) HI HI LA bz (Jt rfl) Tw rfl (Y8 (f := Bk) (g := Bk) (xs := v8.1) (ys := (([(AD.mk v13.1 v2.2.2 v11 (([] : List Int)))] : List AD))) c23) (ZJ Bk v8.1 (([(AD.mk v13.1 v2.2.2 v11 (([] : List Int)))] : List AD))) rfl rfl ?_
            refine qa rfl (Ac ?_)
            exact sn [(2016, 96), (2017, 2023), (2018, 2024)] h
         ·refine Ah Ax rfl (qw 3 rfl ?_)
          refine Pj (kv := Value.string) (vt := Nz) (m := v8.2.1) (k := v15) (v := v18.2) rfl (.inl rfl) rfl rfl rfl rfl (Ox Sx bm) rfl ?_
          refine Ac ?_
          exact sn [(2013, 2016), (2014, 2017), (2015, 2018)] h
        ·refine Ai ?_
         exact sn [(2013, 2005), (2014, 2006), (2015, 2007)] h
       ·refine AS h (fun v24 => mk [(2, oD (.ptr 2 0)), (6, oD (.own 2025)), (7, oD (.mref 2026)), (8, iD v2.2.2), (46, oD (.own 2027)), (47, iD ((v6.1.length : Int))), (48, iD v8.2.2)] [(2, .box (Ag p0)), (2025, .dvec 8 [.s, .s, .s, .s, .s, .s, .s, .x 1 []] (v24.map Bk)), (2026, .mp (Gj Value.string Nz v16.2.1)), (2027, .vec 3 (v6.1.map AH))]) (fun j24 h => ?_) (fun v24 h => ?_)
        ·refine wq rfl (qm rfl (Ew rfl (Ac ?_)))
         refine Ba h (fun h => ?_) fun h => ?_
         ·refine Ah Ax rfl (qw 4 rfl ?_)
          refine BE h fun v26 a26 b26 h => NJ (.p rfl) rfl rfl rfl (Mq Bk v16.1 _ _) HI LA a26 (AG b26) ?_
          refine qh Uh rfl ?_
          refine bI (.p rfl) rfl A4 rfl (Af b26) rfl rfl rfl rfl ?_
          refine qm rfl (Dt As CJ Ja rfl ?_)
          refine F3 h fun c27 h => CP (f := Ak) As As CJ Ko Ja c27 rfl ?_
          refine BE h fun v28 a28 b28 h => NJ (.p rfl) rfl rfl rfl (aX Bk v16.1 _ _ _ _ _) HI LA a28 (AG b28) ?_
          refine qh Uh rfl ?_
          refine Yh rfl rfl rfl rfl (rows2 := (v26.fI ++ (([v16.2.2] : List Int))).map Ak) (cols2 := []) rfl rfl (Af b28) (by decide) Ix rfl rfl (DF Bk v16.1 _ ((AD.mk ((Ab.mk v28.fV.fL v28.fV.fI v28.fV.fN)) v28.fO ((Ae.mk v28.fZ.fP v28.fZ.fR v28.fZ.fW)) (v26.fI ++ (([v16.2.2] : List Int)))))) ?_
          refine Ac ?_
          exact sn [(2025, 2013), (2026, 2014), (2027, 2015)] h
         ·refine Ai ?_
          exact sn [(2025, 2013), (2026, 2014), (2027, 2015)] h
        ·refine wq rfl (qm rfl ?_)
         refine Vg (.p rfl) rfl rfl (Mq Bk v24 _ _) HI ?_
         refine FN rfl (Ac ?_)
         refine Ba h (fun h => ?_) fun h => ?_
         ·refine wq rfl (qa rfl (qe rfl ?_))
          obtain rfl := sj h
          refine Ad ((PN 4 _ rfl).trans (sm [] [(4, pD (.sl ((([] : List AD)).map Bk))), (5, iD 3)] [] rfl rfl)) (Aq ?_)
          exact ⟨⟨[_, _], ⟨.tmp _ _ rfl, tm⟩, rfl⟩, tv⟩
         ·refine Ai (Ah Ax rfl (AY rfl (qm rfl (Ac ?_))))
          exact sn [(2005, 2025), (2006, 2026), (2007, 2027)] h
     ·refine AU ?_
      exact sn [(2008, 2005), (2009, 2006)] h
    ·refine Ad hs (Ah Ax rfl (qm rfl (AY rfl (qe rfl ?_))))
     exact sn [(2001, 2008), (2002, 2009)] h
  ·refine AU ?_
   exact sn [(2003, 2001)] h
 ·refine Ad hs (wq rfl (qm rfl (qa rfl (qe rfl ?_))))
  obtain rfl := sj h
  refine Ad ((Wq 2003 _ _ _ rfl rfl).trans (sm [] [(4, pD (.sl (v3.map Bk))), (5, iD 0)] [] rfl rfl)) (Aq ?_)
  exact ⟨⟨[_, _], ⟨.tmp _ _ rfl, tm⟩, rfl⟩, tv⟩
theorem Lp (N : Nat) (p0 : List Int) (p1 : List Int) (r : Bool) (h : El N p0 p1 = some r) : Al zA 25 [pD (.sl (p0.map Ak)), pD (.sl (p1.map Ak))] [] (bD r) := by
 unfold El at h
 refine cw (n := 26) (rs := [.tmp 4]) Tryz.func25 fun w0 S0 => ?_
 refine wq rfl (qa rfl (Ac (wp rfl (qm rfl (AF As rfl (qm rfl (AF As rfl (Bt rfl (Ac ?_)))))))))
 refine Ba h (fun h => ?_) fun h => ?_
 ·refine wq rfl (qe rfl ?_)
  obtain rfl := sj h
  refine Ad (sm [] [(4, bD false)] [] rfl rfl) (Aq ?_)
  exact ⟨⟨[_], tm, rfl⟩, tv⟩
 ·refine Ai (wp rfl (qm rfl (AF As rfl (qm rfl (Ac ?_)))))
  refine AC (L := Ci N p0 p1) h (fun v2 => mk [(0, pD (.sl (p0.map Ak))), (1, pD (.sl (p1.map Ak))), (12, iD ((p0.length : Int))), (13, iD v2)] []) (fun v3 => mk [] []) (fun _ _ => rfl) (sm [] _ _ rfl rfl) (fun j2 n2 v2 h => ?_) (fun v3 s h hs => ?_)
  ·unfold Ci at h
   refine wq rfl (AX rfl (Ac (AM ?_)))
   refine Ba h (fun h => ?_) fun h => ?_
   ·refine Ai (AM (AJ (wq rfl (qm rfl (qa rfl (Ac (wq rfl (qw 2 rfl ?_))))))))
    refine BE h fun v5 a5 b5 h => qi As CJ a5 (Af b5) rfl (qk B5 rfl (qw 2 rfl ?_))
    refine BE h fun v6 a6 b6 h => qi As CJ a6 (Af b6) rfl (qk B5 rfl (Bt rfl (AK (by kernel_rfl) ?_)))
    refine Ba h (fun h => ?_) fun h => ?_
    ·refine wq rfl (qe rfl ?_)
     obtain rfl := sj h
     refine Ad (sm [] [(4, bD false)] [] rfl rfl) (Aq ?_)
     exact ⟨⟨[_], tm, rfl⟩, tv⟩
    ·refine Ai (Ah Ax rfl (AY rfl (qm rfl (Ac ?_))))
     exact sn [] h
   ·refine AU ?_
    exact sn [] h
  ·refine Ad hs (wq rfl (qe rfl ?_))
   obtain rfl := sj h
   refine Ad (sm [] [(4, bD true)] [] rfl rfl) (Aq ?_)
   exact ⟨⟨[_], tm, rfl⟩, tv⟩
theorem J6 (N : Nat) (p0 : List Int) (p1 : Int → Option Bool) (r : Int) (h : Em N p0 p1 = some r) : Al zA 157 [pD (.sl (p0.map Ak)), oD (.clo (G8 (LD false Ak) tB p1))] [] (iD r) := by
 unfold Em at h
 refine cw (n := 19) (rs := [.tmp 4]) Tryz.func157 fun w0 S0 => ?_
 refine wq rfl (qa rfl (Ac (wp rfl (qm rfl (AF As rfl (qm rfl (Ac ?_)))))))
 refine AC (L := Bq N p0 p1) h (fun v1 => mk [(0, pD (.sl (p0.map Ak))), (1, oD (.clo (G8 (LD false Ak) tB p1))), (7, iD ((p0.length : Int))), (8, iD v1)] []) (fun v2 => mk [] []) (fun _ _ => rfl) (sm [] _ _ rfl rfl) (fun j1 n1 v1 h => ?_) (fun v2 s h hs => ?_)
 ·unfold Bq at h
  refine wq rfl (AX rfl (Ac (AM ?_)))
  refine Ba h (fun h => ?_) fun h => ?_
  ·refine Ai (AM (AJ (wq rfl (qm rfl (qa rfl (Ac (wq rfl (qw 3 rfl ?_))))))))
   refine BE h fun v4 a4 b4 h => qi As CJ a4 (Af b4) rfl (qk B5 rfl ?_)
   refine Bv h fun v5 a5 h => JO (ds0 := [_]) (ar := (LD false Ak) v4) (.p rfl) rfl rfl ⟨rfl, tv⟩ rfl rfl rfl (IZ (Lb _ _ OD) a5) ?_
   refine Ac ?_
   refine Ba h (fun h => ?_) fun h => ?_
   ·refine wq rfl (qm rfl (qe rfl ?_))
    obtain rfl := sj h
    refine Ad (sm [] [(4, iD v1)] [] rfl rfl) (Aq ?_)
    exact ⟨⟨[_], tm, rfl⟩, tv⟩
   ·refine Ai (Ah Ax rfl (AY rfl (qm rfl (Ac ?_))))
    exact sn [] h
  ·refine AU ?_
   exact sn [] h
 ·refine Ad hs (wq rfl (qe rfl ?_))
  obtain rfl := sj h
  refine Ad (sm [] [(4, iD ((-1)))] [] rfl rfl) (Aq ?_)
  exact ⟨⟨[_], tm, rfl⟩, tv⟩
theorem Jc (N : Nat) (p0 : List Int) (p1 : Int → Option Bool) (r : Bool) (h : C3 N p0 p1 = some r) : Al zA 121 [pD (.sl (p0.map Ak)), oD (.clo (G8 (LD false Ak) tB p1))] [] (bD r) := by
 unfold C3 at h
 refine cw (n := 9) (rs := [.tmp 4]) Tryz.func121 fun w0 S0 => ?_
 refine wq rfl (qa rfl (Ac (wq rfl (qw 2 rfl ?_))))
 refine Bv h fun v1 a1 h => Aw [] (J6 N p0 p1 v1 a1) cc rfl (Ew rfl (qe rfl ?_))
 obtain rfl := sj h
 refine Ad (sm [] [(4, bD ((decide (0 ≤ v1))))] [] rfl rfl) (Aq ?_)
 exact ⟨⟨[_], tm, rfl⟩, tv⟩
theorem RV (N : Nat) (p0 : Int) (r : Bool) (h : HP N p0 = some r) : Al zA 122 [iD p0] [] (bD r) := by
 unfold HP at h
 refine cw (n := 5) (rs := [.tmp 2]) Tryz.func122 fun w0 S0 => ?_
 refine wq rfl (qa rfl (Ac (wq rfl (qm rfl (Ew rfl (qe rfl ?_))))))
 obtain rfl := sj h
 refine Ad (sm [] [(2, bD ((decide (0 ≤ p0))))] [] rfl rfl) (Aq ?_)
 exact ⟨⟨[_], tm, rfl⟩, tv⟩
theorem Qp (N : Nat) (p0 : Aa) (p1 : Ab) (r : Bool) (h : Ij N p0 p1 = some r) : Al zA 85 [.e (.agg (Ag p0)), .e (.agg (AE p1))] [] (bD r) := by
 unfold Ij at h
 refine cw (n := 22) (rs := [.tmp 4]) Tryz.func85 fun w0 S0 => ?_
 refine wq rfl (qb rfl (qb rfl (qe rfl ?_)))
 refine AS h (fun v1 => mk [(4, bD v1)] []) (fun j1 h => ?_) (fun v1 h => ?_)
 ·refine Ah Ax rfl (qL Ct BQ rfl (qL Bi AV rfl ?_))
  refine Bv h fun v2 a2 h => Aw [] (Kw N p0 p1 v2 a2) Vo rfl (B7 rfl (qm rfl ?_))
  refine D4 9 h rfl (fun h => ?_) fun h => ?_
  ·refine qf CR rfl (ql A4 rfl (qf GF rfl (ql A4 rfl ?_)))
   refine Bv h fun v4 a4 h => Aw [] (Lp N p1.fL p0.fU v4 a4) fi rfl (qp rfl (qm rfl ?_))
   refine D4 16 h rfl (fun h => ?_) fun h => ?_
   ·refine qf BC rfl (ql A4 rfl ?_)
    refine Bv h fun v6 a6 h => Aw [] (Al.weak (ds' := [pD (.sl (p1.fI.map Ak)), oD (.fnc 122)]) (Jc N p1.fI ((fun (x : Int) => HP N x)) v6 a6) ⟨(fun _ _ _ hh => hh), (fun _ _ _ hh => SA du (fun ar t ht => by obtain ⟨x, r, rfl, hq, rfl⟩ := Hp ht; exact RV N x r hq) hh), tv⟩) dM rfl ?_
    refine Cg rfl (qp rfl (qe rfl ?_))
    exact sn [] h
   ·refine qw 4 rfl (qp rfl (qe rfl ?_))
    exact sn [] h
  ·refine qw 5 rfl (qp rfl (qw 5 rfl (qp rfl (qe rfl ?_))))
   exact sn [] h
 ·obtain rfl := sj h
  refine Ad (sm [] [(4, bD v1)] [] rfl rfl) (Aq ?_)
  exact ⟨⟨[_], tm, rfl⟩, tv⟩
theorem QT (N : Nat) (p0 : AD) (p1 : List Int) (p2 : List Int) (p3 : List Int) (p4 : List An) (r : Bool) (h : Fd N p0 p1 p2 p3 p4 = some r) : Al zA 108 [.e (.agg (We p0)), oD (.rop [.sl (p1.map Ak), .sl (p2.map Ak), .sl (p3.map Ak), .sl (p4.map AP)])] [] (bD r) := by
 unfold Fd at h
 refine cw (n := 8) (rs := [.tmp 3]) Tryz.func108 fun w0 S0 => ?_
 refine wq rfl (qb rfl (qa rfl (Ac (wq rfl (qK Ct BQ rfl (qf Pz rfl (qL Bi AV rfl ?_)))))))
 refine Bv h fun v1 a1 h => Aw [] (Qp N ((Aa.mk p1 p2 p3 p4)) ((Ab.mk p0.fV.fL p0.fV.fI p0.fV.fN)) v1 a1) cE rfl (qe rfl ?_)
 obtain rfl := sj h
 refine Ad (sm [] [(3, bD v1)] [] rfl rfl) (Aq ?_)
 exact ⟨⟨[_], tm, rfl⟩, tv⟩
theorem Hd (N : Nat) (p0 : List AD) (p1 : AD → Option Bool) (r : Int) (h : Cu N p0 p1 = some r) : Al zA 107 [pD (.sl (p0.map Bk)), oD (.clo (G8 (LD true Bk) tB p1))] [] (iD r) := by
 unfold Cu at h
 refine cw (n := 19) (rs := [.tmp 4]) Tryz.func107 fun w0 S0 => ?_
 refine wq rfl (qa rfl (Ac (wp rfl (qm rfl (AF HI rfl (qm rfl (Ac ?_)))))))
 refine AC (L := AZ N p0 p1) h (fun v1 => mk [(0, pD (.sl (p0.map Bk))), (1, oD (.clo (G8 (LD true Bk) tB p1))), (7, iD ((p0.length : Int))), (8, iD v1)] []) (fun v2 => mk [] []) (fun _ _ => rfl) (sm [] _ _ rfl rfl) (fun j1 n1 v1 h => ?_) (fun v2 s h hs => ?_)
 ·unfold AZ at h
  refine wq rfl (AX rfl (Ac (AM ?_)))
  refine Ba h (fun h => ?_) fun h => ?_
  ·refine Ai (AM (AJ (wq rfl (qm rfl (qa rfl (Ac (wq rfl (qw 3 rfl ?_))))))))
   refine BE h fun v4 a4 b4 h => qi HI LA a4 (Af b4) rfl (qK ei LA rfl ?_)
   refine Bv h fun v5 a5 h => JO (ds0 := [_]) (ar := (LD true Bk) ((AD.mk ((Ab.mk v4.fV.fL v4.fV.fI v4.fV.fN)) v4.fO ((Ae.mk v4.fZ.fP v4.fZ.fR v4.fZ.fW)) v4.fI))) (.p rfl) rfl rfl ⟨rfl, tv⟩ rfl rfl rfl (IZ (Lb _ _ Tb) a5) ?_
   refine Ac ?_
   refine Ba h (fun h => ?_) fun h => ?_
   ·refine wq rfl (qm rfl (qe rfl ?_))
    obtain rfl := sj h
    refine Ad (sm [] [(4, iD v1)] [] rfl rfl) (Aq ?_)
    exact ⟨⟨[_], tm, rfl⟩, tv⟩
   ·refine Ai (Ah Ax rfl (AY rfl (qm rfl (Ac ?_))))
    exact sn [] h
  ·refine AU ?_
   exact sn [] h
 ·refine Ad hs (wq rfl (qe rfl ?_))
  obtain rfl := sj h
  refine Ad (sm [] [(4, iD ((-1)))] [] rfl rfl) (Aq ?_)
  exact ⟨⟨[_], tm, rfl⟩, tv⟩
theorem H4 (N : Nat) (p0 : List Ae) (r : (List Ae)) (h : BH N p0 = some r) : EQ zA 139 [oD (.own 90000)] [(.vec 3 (p0.map AH), .vec 3 (r.map AH))] [] (.tup []) := by
 unfold BH at h
 refine Hj (n := 28) (rs := []) Tryz.func139 rfl rfl rfl (Jt rfl) (Jt rfl) rfl rfl (Jt rfl) rfl (Jt rfl) fun w0 S0 GL => dy ?_
 refine Ad (sm [] [(0, oD (.own 90000))] [(90000, .vec 3 (p0.map AH))] rfl rfl) (wq rfl (qm rfl (Fm EI rfl (JD rfl (qa rfl (qe rfl ?_))))))
 refine AC (L := Bo N) h (fun v1 => mk [(0, oD (.own 90000)), (2, iD v1.2.1), (3, iD v1.2.2)] [(90000, .vec 3 (v1.1.map AH))]) (fun v2 => mk [] [(90000, .vec 3 (v2.map AH))]) (fun _ _ => rfl) (sm [] _ _ rfl rfl) (fun j1 n1 v1 h => ?_) (fun v2 s h hs => ?_)
 ·unfold Bo at h
  refine wp rfl (qw 2 rfl (AX rfl (Ac ?_)))
  refine Ba h (fun h => ?_) fun h => ?_
  ·refine Ai (AM (AJ (Ah Ax rfl (qw 6 rfl ?_))))
   refine BE h fun v4 a4 b4 h => qI EI EL a4 (Af b4) rfl (qJ Jh EL (Af b4) rfl (qw 2 rfl ?_))
   refine BE h fun v5 a5 b5 h => qI EI EL a5 (Af b5) rfl (qJ Jh EL (Af b5) rfl ?_)
   refine BE h fun v6 a6 b6 h => qI EI EL a6 (Af b6) rfl ?_
   refine DM rfl rfl rfl rfl (Af b6) rfl EL rfl (Jt rfl) (DF AH v1.1 _ v4) ?_
   refine BE h fun v7 a7 b7 h => qI EI EL a7 (Af b7) rfl ?_
   refine DM rfl rfl rfl rfl (Af b7) rfl EL rfl (Jt rfl) (DF AH (v1.1.set ((v1.2.1).toNat) v4) _ v5) ?_
   refine AK (by kernel_rfl) (Ah Ax rfl (qm rfl (AY rfl (qm rfl (JD rfl (qa rfl (qe rfl ?_)))))))
   exact sn [] h
  ·refine AU ?_
   exact sn [] h
 ·obtain rfl := sj h
  refine ⟨_, hs.trans (sm [] [] [(90000, .vec 3 (v2.map AH))] rfl rfl), ?_⟩
  exact ⟨⟨[], tv, rfl⟩, ⟨rfl, tv⟩, tv⟩
theorem US (N : Nat) (p0 : List AD) (p1 : Int) (r : (List Ae)) (h : Kx N p0 p1 = some r) : Al zA 109 [pD (.sl (p0.map Bk)), iD p1] [(3, r.map AH)] (oD (.own 0)) := by
 unfold Kx at h
 refine cw (n := 28) (rs := [.tmp 4]) Tryz.func109 fun w0 S0 => ?_
 refine wq rfl (qa rfl (Ac (wq rfl (qa rfl (Ac (AM ?_))))))
 refine AC (L := Gm N p0) h (fun v1 => mk [(0, pD (.sl (p0.map Bk))), (1, iD v1.1), (5, oD (.own 2001))] [(2001, .vec 3 (v1.2.map AH))]) (fun v2 => mk [(5, oD (.own 2002))] [(2002, .vec 3 (v2.map AH))]) (fun _ _ => rfl) ((A9 5 2003 3 rfl rfl rfl).trans (sm [(2001, 2003)] _ _ rfl rfl)) (fun j1 n1 v1 h => ?_) (fun v2 s h hs => ?_)
 ·unfold Gm at h
  refine wp rfl (qw 2 rfl ?_)
  refine BE h fun v3 a3 b3 h => qi HI LA a3 (Af b3) rfl (qg Th rfl (qk B5 rfl (Ew rfl (Ac ?_))))
  refine Ba h (fun h => ?_) fun h => ?_
  ·refine Ai (AM (AJ (Ah Ax rfl (qw 3 rfl ?_))))
   refine BE h fun v5 a5 b5 h => qi HI LA a5 (Af b5) rfl (qg X8 rfl (qK Jh EL rfl (Dt EI EL K4 rfl ?_)))
   refine F3 h fun c6 h => CP (f := AH) EI EI EL TO K4 c6 rfl (qa rfl (Ac (Ah Ax rfl (qw 2 rfl ?_))))
   refine BE h fun v7 a7 b7 h => qi HI LA a7 (Af b7) rfl (qg Th rfl (qk B5 rfl (qe rfl ?_)))
   exact sn [(2001, 24)] h
  ·refine AU ?_
   exact sn [(2002, 2001)] h
 ·refine Ad hs (wq rfl (qm rfl ?_))
  refine Bv h fun v8 a8 h => Mn (ds0 := [_]) [2002] [] [true] (H4 N v2 v8 a8) (.p rfl) da rfl ⟨rfl, tv⟩ rfl rfl (by decide) ⟨rfl, tv⟩ rfl (Gw rfl) tv ⟨(fun h => by cases h), tv⟩ rfl rfl rfl ?_
  refine Ac (wq rfl (qm rfl (qe rfl ?_)))
  obtain rfl := sj h
  refine Ad (sm [(1000, 2002)] [(4, oD (.own 1000))] [(1000, .vec 3 (v8.map AH))] rfl rfl) (Aq ?_)
  exact ⟨⟨[_], tm, rfl⟩, ⟨rfl, tv⟩⟩
theorem Ty (N : Nat) (p0 : Aa) (p1 : Ab) (r : (List Ae) × Int) (h : FZ N p0 p1 = some r) : Al zA 75 [.e (.agg (Ag p0)), .e (.agg (AE p1))] [(3, r.1.map AH)] (.tup [.one (.own 0), .one (iC r.2)]) := by
 unfold FZ at h
 refine cw (n := 38) (rs := [.tmp 4, .tmp 5]) Tryz.func75 fun w0 S0 => ?_
 refine wq rfl (qb rfl (qb rfl (qa rfl (qa rfl (Ac (wq rfl (qL Ct BQ rfl (qL Bi AV rfl ?_))))))))
 refine Bv h fun v1 a1 h => Aw [] (Ip N p0 p1 v1 a1) XP rfl (qm rfl (qx rfl (qx rfl (qa rfl (qa rfl (Ac (wp rfl (qm rfl (Bt rfl (Ac ?_))))))))))
 refine Ba h (fun h => ?_) fun h => ?_
 ·refine wq rfl (qm rfl (qa rfl (qe rfl ?_)))
  obtain rfl := sj h
  refine Ad ((A9 4 2001 3 rfl rfl rfl).trans (sm [(1000, 2001)] [(4, oD (.own 1000)), (5, iD v1.2)] [(1000, .vec 3 ((([] : List Ae)).map AH))] rfl rfl)) (Aq ?_)
  exact ⟨⟨[_, _], ⟨.tmp _ _ rfl, tm⟩, rfl⟩, ⟨rfl, tv⟩⟩
 ·refine Ai (wp rfl (qm rfl (Cg rfl (Ac ?_))))
  refine Ba h (fun h => ?_) fun h => ?_
  ·refine wq rfl (qa rfl (qe rfl ?_))
   obtain rfl := sj h
   refine Ad ((A9 4 2002 3 rfl rfl rfl).trans (sm [(1000, 2002)] [(4, oD (.own 1000)), (5, iD 13)] [(1000, .vec 3 ((([] : List Ae)).map AH))] rfl rfl)) (Aq ?_)
   exact ⟨⟨[_, _], ⟨.tmp _ _ rfl, tm⟩, rfl⟩, ⟨rfl, tv⟩⟩
  ·refine Ai (wq rfl (qL Ct BQ rfl (qL Bi AV rfl ?_)))
   refine Bv h fun v4 a4 h => Aw [] (QV N p0 p1 v4 a4) ca rfl (qm rfl (qx rfl (qx rfl (qa rfl (qa rfl (Ac (wp rfl (qm rfl (Bt rfl (Ac ?_))))))))))
   refine Ba h (fun h => ?_) fun h => ?_
   ·refine wq rfl (qm rfl (qa rfl (qe rfl ?_)))
    obtain rfl := sj h
    refine Ad ((A9 4 2003 3 rfl rfl rfl).trans (sm [(1000, 2003)] [(4, oD (.own 1000)), (5, iD v4.2)] [(1000, .vec 3 ((([] : List Ae)).map AH))] rfl rfl)) (Aq ?_)
    exact ⟨⟨[_, _], ⟨.tmp _ _ rfl, tm⟩, rfl⟩, ⟨rfl, tv⟩⟩
   ·refine Ai (wq rfl (qm rfl (Dn (Io 2 [.sl (p0.fJ.map Ak), .sl (p0.fQ.map Ak), .sl (p0.fU.map Ak), .sl (p0.fK.map AP)] rfl rfl) ?_)))
    refine IU (capD := [_]) (G8 (LD true Bk) tB ((fun (x : AD) => Fd N x p0.fJ p0.fQ p0.fU p0.fK))) (.p rfl) ck rfl ⟨rfl, tv⟩ rfl (fun ar t ht => by obtain ⟨x, r, rfl, hq, rfl⟩ := Hp ht; exact QT N x p0.fJ p0.fQ p0.fU p0.fK r hq) ?_
    refine Bv h fun v6 a6 h => Aw [] (Hd N v4.1 ((fun (x : AD) => Fd N x p0.fJ p0.fQ p0.fU p0.fK)) v6 a6) cG rfl (qa rfl (Ac (wp rfl (qm rfl (AX rfl (Ac ?_))))))
    refine Ba h (fun h => ?_) fun h => ?_
    ·refine wq rfl (qa rfl (qe rfl ?_))
     obtain rfl := sj h
     refine Ad ((A9 4 2004 3 rfl rfl rfl).trans (sm [(1000, 2004)] [(4, oD (.own 1000)), (5, iD 14)] [(1000, .vec 3 ((([] : List Ae)).map AH))] rfl rfl)) (Aq ?_)
     exact ⟨⟨[_, _], ⟨.tmp _ _ rfl, tm⟩, rfl⟩, ⟨rfl, tv⟩⟩
    ·refine Ai (wq rfl (qw 2 rfl ?_))
     refine Bv h fun v8 a8 h => Aw [2005] (US N v4.1 v6 v8 a8) dC rfl (qa rfl (qe rfl ?_))
     obtain rfl := sj h
     refine Ad (sm [(1000, 2005)] [(4, oD (.own 1000)), (5, iD 0)] [(1000, .vec 3 (v8.map AH))] rfl rfl) (Aq ?_)
     exact ⟨⟨[_, _], ⟨.tmp _ _ rfl, tm⟩, rfl⟩, ⟨rfl, tv⟩⟩
theorem Tr (N : Nat) (p0 : Aa) (r : (List Ae) × Int) (h : GG N p0 = some r) : Al zA 40 [.e (.agg (Ag p0))] [(3, r.1.map AH)] (.tup [.one (.own 0), .one (iC r.2)]) := by
 unfold GG at h
 refine cw (n := 19) (rs := [.tmp 2, .tmp 3]) Tryz.func40 fun w0 S0 => ?_
 refine wq rfl (qb rfl (qa rfl (qa rfl (Ac (wq rfl (qL Ct BQ rfl ?_))))))
 refine Bv h fun v1 a1 h => Aw [2001, 2002, 2003] (OL N p0 v1 a1) cU rfl (qm rfl (qx rfl (qx rfl (qz Ea rfl (qs AV rfl (qa rfl (Ac (wp rfl (qm rfl (Bt rfl (Ac ?_)))))))))))
 refine Ba h (fun h => ?_) fun h => ?_
 ·refine wq rfl (qm rfl (qa rfl (qe rfl ?_)))
  obtain rfl := sj h
  refine Ad ((A9 2 2004 3 rfl rfl rfl).trans (sm [(1000, 2004)] [(2, oD (.own 1000)), (3, iD v1.2)] [(1000, .vec 3 ((([] : List Ae)).map AH))] rfl rfl)) (Aq ?_)
  exact ⟨⟨[_, _], ⟨.tmp _ _ rfl, tm⟩, rfl⟩, ⟨rfl, tv⟩⟩
 ·refine Ai (wq rfl (qL Ct BQ rfl (qL Bi AV rfl ?_)))
  refine Bv h fun v3 a3 h => CD [2005] [2001, 2002, 2003] (Ty N p0 v1.1 v3 a3) fp (Lh (fun _ => rfl) Br) rfl (qx rfl (qx rfl (qa rfl (qe rfl ?_))))
  obtain rfl := sj h
  refine Ad (sm [(1000, 2005)] [(2, oD (.own 1000)), (3, iD v3.2)] [(1000, .vec 3 (v3.1.map AH))] rfl rfl) (Aq ?_)
  exact ⟨⟨[_, _], ⟨.tmp _ _ rfl, tm⟩, rfl⟩, ⟨rfl, tv⟩⟩
theorem KB (N : Nat) (p0 : Aa) (p1 : List Int) (r : Bool × Int) (h : E9 N p0 p1 = some r) : Al zA 12 [.e (.agg (Ag p0)), pD (.sl (p1.map Ak))] [] (.tup [.one (.pure (.val (.bool r.1))), .one (iC r.2)]) := by
 unfold E9 at h
 refine cw (n := 36) (rs := [.tmp 4, .tmp 5]) Tryz.func12 fun w0 S0 => ?_
 refine wq rfl (qb rfl (qa rfl (qa rfl (Ac (wp rfl (qL Ct BQ rfl ?_))))))
 refine Bv h fun v1 a1 h => Aw [] (Fc N p0 v1 a1) WX rfl (qa rfl (Ac (wq rfl (qm rfl (Bt rfl (Ac ?_))))))
 refine Ba h (fun h => ?_) fun h => ?_
 ·refine wq rfl (qm rfl (qa rfl (qe rfl ?_)))
  obtain rfl := sj h
  refine Ad (sm [] [(4, bD false), (5, iD v1)] [] rfl rfl) (Aq ?_)
  exact ⟨⟨[_, _], ⟨.tmp _ _ rfl, tm⟩, rfl⟩, tv⟩
 ·refine Ai (wq rfl (qL Ct BQ rfl (qm rfl ?_)))
  refine Bv h fun v3 a3 h => Aw [2001, 2002, 2003, 2004] (KP N p0 p1 v3 a3) dJ rfl (qm rfl (qx rfl (qx rfl (qz Kn rfl (qs BQ rfl (qa rfl (Ac (wp rfl (qm rfl (Bt rfl (Ac ?_)))))))))))
  refine Ba h (fun h => ?_) fun h => ?_
  ·refine wq rfl (qm rfl (qa rfl (qe rfl ?_)))
   obtain rfl := sj h
   refine Ad (sm [] [(4, bD false), (5, iD v3.2)] [] rfl rfl) (Aq ?_)
   exact ⟨⟨[_, _], ⟨.tmp _ _ rfl, tm⟩, rfl⟩, tv⟩
  ·refine Ai (wp rfl (qL Ct BQ rfl ?_))
   refine Bv h fun v5 a5 h => CD [2005] [2001, 2002, 2003, 2004] (Tr N v3.1 v5 a5) eH (Lh (fun _ => rfl) Br) rfl (qm rfl (qx rfl (qx rfl (qa rfl (qa rfl (Ac (wq rfl (qm rfl (Ac (AJ (wq rfl (B7 rfl (qe rfl ?_)))))))))))))
   refine Ba h (fun h => ?_) fun h => ?_
   ·refine wq rfl (qa rfl (qe rfl ?_))
    obtain rfl := sj h
    refine Ad (sm [] [(4, bD false), (5, iD 0)] [] rfl rfl) (Aq ?_)
    exact ⟨⟨[_, _], ⟨.tmp _ _ rfl, tm⟩, rfl⟩, tv⟩
   ·refine wq rfl (B7 rfl (qe rfl ?_))
    refine Ba h (fun h => ?_) fun h => ?_
    ·refine wq rfl (qm rfl (qa rfl (qe rfl ?_)))
     obtain rfl := sj h
     refine Ad (sm [] [(4, bD false), (5, iD v5.2)] [] rfl rfl) (Aq ?_)
     exact ⟨⟨[_, _], ⟨.tmp _ _ rfl, tm⟩, rfl⟩, tv⟩
    ·refine Ai (wq rfl (qa rfl (qe rfl ?_)))
     obtain rfl := sj h
     refine Ad (sm [] [(4, bD true), (5, iD 0)] [] rfl rfl) (Aq ?_)
     exact ⟨⟨[_, _], ⟨.tmp _ _ rfl, tm⟩, rfl⟩, tv⟩
theorem QS (N : Nat) (p0 : Aa) (p1 : Int) (r : Bool × Int) (h : J9 N p0 p1 = some r) : Al zA 79 [.e (.agg (Ag p0)), pD (.val (.int .u64 p1))] [] (.tup [.one (.pure (.val (.bool r.1))), .one (iC r.2)]) := by
 unfold J9 at h
 refine cw (n := 12) (rs := [.tmp 4, .tmp 5]) Tryz.func79 fun w0 S0 => ?_
 refine wq rfl (qb rfl (qa rfl (qa rfl (Ac (wq rfl (qL Ct BQ rfl (qm rfl ?_)))))))
 refine Bv h fun v1 a1 h => Aw [2001] (Iv N p1 v1 a1) ZQ rfl ?_
 refine Bv h fun v2 a2 h => CD [] [2001] (KB N p0 v1 v2 a2) az Br rfl (qx rfl (qx rfl (qa rfl (qa rfl (AK (by kernel_rfl) ?_)))))
 obtain rfl := sj h
 refine Ad (sm [] [(4, bD v2.1), (5, iD v2.2)] [] rfl rfl) (Aq ?_)
 exact ⟨⟨[_, _], ⟨.tmp _ _ rfl, tm⟩, rfl⟩, tv⟩
theorem N0 (N : Nat) (p0 : Aa) (r : (List Int) × (List (Int × Bool)) × Int) (h : IY N p0 = some r) : Al zA 42 [.e (.agg (Ag p0))] [(1, r.1.map DN)] (.tup [.one (.own 0), .one (.pure (.mp (Gj (Value.int .u64) tB r.2.1))), .one (iC r.2.2)]) := by
 unfold IY at h
 refine cw (n := 56) (rs := [.tmp 2, .tmp 3, .tmp 4]) Tryz.func42 fun w0 S0 => ?_
 refine wq rfl (qb rfl (qa rfl (qa rfl (qa rfl (Ac (wp rfl (qL Ct BQ rfl ?_)))))))
 refine Bv h fun v1 a1 h => Aw [] (Fc N p0 v1 a1) WX rfl (qa rfl (Ac (wq rfl (qm rfl (Bt rfl (Ac ?_))))))
 refine Ba h (fun h => ?_) fun h => ?_
 ·refine wq rfl (qm rfl (qa rfl (qa rfl (qe rfl ?_))))
  obtain rfl := sj h
  refine Ad ((A9 2 2001 1 rfl rfl rfl).trans (sm [(1000, 2001)] [(2, oD (.own 1000)), (3, pD (.mp (Gj (Value.int .u64) tB (([] : List (Int × Bool)))))), (4, iD v1)] [(1000, .vec 1 ((([] : List Int)).map DN))] rfl rfl)) (Aq ?_)
  exact ⟨⟨[_, _, _], ⟨.tmp _ _ rfl, ⟨.tmp _ _ rfl, tm⟩⟩, rfl⟩, ⟨rfl, tv⟩⟩
 ·refine Ai (wq rfl (qa rfl (Ac (wp rfl (qf Bd rfl (ql A4 rfl (AF As rfl ?_)))))))
  refine F3 h fun c3 h => Jy rfl c3 (qm rfl (Ac ?_))
  refine AC (L := Ht N p0) h (fun v4 => mk [(1, oD (.ptr 1 0)), (6, oD (.own 2002)), (21, pD (.val (.int .u64 ((D8 .u64 1 ((p0.fJ.length : Int))))))), (22, pD (.val (.int .u64 v4.2)))] [(1, .box (Ag p0)), (2002, .vec 1 (v4.1.map DN))]) (fun v5 => mk [(1, oD (.ptr 1 0)), (6, oD (.own 2003))] [(1, .box (Ag p0)), (2003, .vec 1 (v5.map DN))]) (fun _ _ => rfl) ((A9 6 2004 1 rfl rfl rfl).trans (sm [(2002, 2004)] _ _ rfl rfl)) (fun j4 n4 v4 h => ?_) (fun v5 s h hs => ?_)
  ·unfold Ht at h
   refine wq rfl (AX rfl (Ac (AM ?_)))
   refine Ba h (fun h => ?_) fun h => ?_
   ·refine Ai (AM (AJ (wq rfl (qm rfl (qa rfl (Ac (Ah Ax rfl (qw 2 rfl (Dt GS MK Ud rfl ?_)))))))))
    refine F3 h fun c7 h => CP (f := DN) GS GS MK Yz Ud c7 rfl (qa rfl (Ac (Ah Ax rfl (AY rfl (qm rfl (Ac ?_))))))
    exact sn [(2002, 28)] h
   ·refine AU ?_
    exact sn [(2003, 2002)] h
  ·refine Ad hs (wq rfl (qm rfl ?_))
   refine Bv h fun v8 a8 h => Mn (ds0 := [_, _]) [2003] [] [true] (EQ.weak (ds' := [_, oD (.fnc 78)]) (JH N v5 ((fun (x : Int × Int) => H2 N x.1 x.2)) v8 a8) ⟨(fun _ _ _ hh => hh), (fun _ _ _ hh => YC eR (fun ar t ht => by obtain ⟨x, r, rfl, hq, rfl⟩ := Hp ht; exact Qc N x.1 x.2 r hq) hh), tv⟩) (.p rfl) fa rfl ⟨rfl, rfl, tv⟩ rfl rfl (by decide) ⟨rfl, tv⟩ rfl (Gw rfl) tv ⟨(fun h => by cases h), tv⟩ rfl rfl rfl ?_
   refine Ac (wq rfl (qm rfl (Fm GS rfl ?_)))
   refine UA (.p rfl) rfl OJ rfl ?_
   refine qa rfl (Ac (wp rfl (qm rfl (Fm GS rfl (qm rfl (Ac ?_))))))
   refine AC (L := Hr N p0 v8) h (fun v9 => mk [(1, oD (.ptr 1 0)), (6, oD (.own 2005)), (8, oD (.mref 2006)), (35, oD (.own 2005)), (36, iD ((v8.length : Int))), (37, iD v9.2)] [(1, .box (Ag p0)), (2005, .vec 1 (v8.map DN)), (2006, .mp (Gj (Value.int .u64) tB v9.1))]) (fun v10 => mk [(6, oD (.own 2007)), (8, oD (.mref 2008))] [(2007, .vec 1 (v8.map DN)), (2008, .mp (Gj (Value.int .u64) tB v10))]) (fun _ _ => rfl) (sm [(2005, 2003), (2006, 34)] _ _ rfl rfl) (fun j9 n9 v9 h => ?_) (fun v10 s h hs => ?_)
   ·unfold Hr at h
    refine wq rfl (AX rfl (Ac (AM ?_)))
    refine Ba h (fun h => ?_) fun h => ?_
    ·refine Ai (AM (AJ (wq rfl ?_)))
     refine BE h fun v12 a12 b12 h => qI GS MK a12 (Af b12) rfl (qj PS (Af b12) rfl (qa rfl (Ac (wq rfl (qL Ct BQ rfl (qm rfl ?_))))))
     refine Bv h fun v13 a13 h => Aw [] (QS N p0 v12 v13 a13) eX rfl (qm rfl (qx rfl (qx rfl (qa rfl (qa rfl (Ac (wp rfl (qm rfl (Bt rfl (Ac ?_))))))))))
     refine Ba h (fun h => ?_) fun h => ?_
     ·refine wq rfl (qm rfl (qa rfl (qa rfl (qe rfl ?_))))
      obtain rfl := sj h
      refine Ad ((A9 2 2009 1 rfl rfl rfl).trans (sm [(1000, 2009)] [(2, oD (.own 1000)), (3, pD (.mp (Gj (Value.int .u64) tB (([] : List (Int × Bool)))))), (4, iD v13.2)] [(1000, .vec 1 ((([] : List Int)).map DN))] rfl rfl)) (Aq ?_)
      exact ⟨⟨[_, _, _], ⟨.tmp _ _ rfl, ⟨.tmp _ _ rfl, tm⟩⟩, rfl⟩, ⟨rfl, tv⟩⟩
     ·refine Ai (Ah Ax rfl (qw 3 rfl ?_))
      refine Pj (kv := (Value.int .u64)) (vt := tB) (m := v9.1) (k := v12) (v := v13.1) rfl (.inl rfl) rfl rfl rfl rfl (Mx OJ VK) rfl ?_
      refine Ac (Ah Ax rfl (AY rfl (qm rfl (Ac ?_))))
      exact sn [] h
    ·refine AU ?_
     exact sn [(2007, 2005), (2008, 2006)] h
   ·refine Ad hs (wq rfl (qw 2 rfl (qa rfl (qa rfl (qe rfl ?_)))))
    obtain rfl := sj h
    refine Ad ((Ws 2008 _ rfl rfl).trans (sm [(1000, 2007)] [(2, oD (.own 1000)), (3, pD (.mp (Gj (Value.int .u64) tB v10))), (4, iD 0)] [(1000, .vec 1 (v8.map DN))] rfl rfl)) (Aq ?_)
    exact ⟨⟨[_, _, _], ⟨.tmp _ _ rfl, ⟨.tmp _ _ rfl, tm⟩⟩, rfl⟩, ⟨rfl, tv⟩⟩
theorem Ot (N : Nat) (p0 : Int) (p1 : Int) (r : Bool) (h : F0 N p0 p1 = some r) : Al zA 81 [pD (.val (.int .u64 p0)), oD (.rop [.val (.int .u64 p1)])] [] (bD r) := by
 unfold F0 at h
 refine cw (n := 8) (rs := [.tmp 3]) Tryz.func81 fun w0 S0 => ?_
 refine wq rfl (qa rfl (Ac (wq rfl (qm rfl (qk PS rfl (Il rfl (B7 rfl (qe rfl ?_))))))))
 obtain rfl := sj h
 refine Ad (sm [] [(3, bD (((Df .u64 p0 p1) == 0)))] [] rfl rfl) (Aq ?_)
 exact ⟨⟨[_], tm, rfl⟩, tv⟩
theorem GT (N : Nat) (p0 : List Int) (p1 : Int → Option Bool) (r : Int) (h : DT N p0 p1 = some r) : Al zA 80 [pD (.sl (p0.map DN)), oD (.clo (G8 (LD false DN) tB p1))] [] (iD r) := by
 unfold DT at h
 refine cw (n := 19) (rs := [.tmp 4]) Tryz.func80 fun w0 S0 => ?_
 refine wq rfl (qa rfl (Ac (wp rfl (qm rfl (AF GS rfl (qm rfl (Ac ?_)))))))
 refine AC (L := Dk N p0 p1) h (fun v1 => mk [(0, pD (.sl (p0.map DN))), (1, oD (.clo (G8 (LD false DN) tB p1))), (7, iD ((p0.length : Int))), (8, iD v1)] []) (fun v2 => mk [] []) (fun _ _ => rfl) (sm [] _ _ rfl rfl) (fun j1 n1 v1 h => ?_) (fun v2 s h hs => ?_)
 ·unfold Dk at h
  refine wq rfl (AX rfl (Ac (AM ?_)))
  refine Ba h (fun h => ?_) fun h => ?_
  ·refine Ai (AM (AJ (wq rfl (qm rfl (qa rfl (Ac (wq rfl (qw 3 rfl ?_))))))))
   refine BE h fun v4 a4 b4 h => qi GS MK a4 (Af b4) rfl (qk PS rfl ?_)
   refine Bv h fun v5 a5 h => JO (ds0 := [_]) (ar := (LD false DN) v4) (.p rfl) rfl rfl ⟨rfl, tv⟩ rfl rfl rfl (IZ (Lb _ _ Up) a5) ?_
   refine Ac ?_
   refine Ba h (fun h => ?_) fun h => ?_
   ·refine wq rfl (qm rfl (qe rfl ?_))
    obtain rfl := sj h
    refine Ad (sm [] [(4, iD v1)] [] rfl rfl) (Aq ?_)
    exact ⟨⟨[_], tm, rfl⟩, tv⟩
   ·refine Ai (Ah Ax rfl (AY rfl (qm rfl (Ac ?_))))
    exact sn [] h
  ·refine AU ?_
   exact sn [] h
 ·refine Ad hs (wq rfl (qe rfl ?_))
  obtain rfl := sj h
  refine Ad (sm [] [(4, iD ((-1)))] [] rfl rfl) (Aq ?_)
  exact ⟨⟨[_], tm, rfl⟩, tv⟩
theorem Gi (N : Nat) (p0 : List Int) (p1 : Int → Option Bool) (r : Bool) (h : Dq N p0 p1 = some r) : Al zA 46 [pD (.sl (p0.map DN)), oD (.clo (G8 (LD false DN) tB p1))] [] (bD r) := by
 unfold Dq at h
 refine cw (n := 9) (rs := [.tmp 4]) Tryz.func46 fun w0 S0 => ?_
 refine wq rfl (qa rfl (Ac (wq rfl (qw 2 rfl ?_))))
 refine Bv h fun v1 a1 h => Aw [] (GT N p0 p1 v1 a1) dP rfl (Ew rfl (qe rfl ?_))
 obtain rfl := sj h
 refine Ad (sm [] [(4, bD ((decide (0 ≤ v1))))] [] rfl rfl) (Aq ?_)
 exact ⟨⟨[_], tm, rfl⟩, tv⟩
theorem PL (N : Nat) (p0 : List Int) (p1 : List (Int × Bool)) (r : (List Int)) (h : Jn N p0 p1 = some r) : Al zA 51 [pD (.sl (p0.map DN)), pD (.mp (Gj (Value.int .u64) tB p1))] [(1, r.map DN)] (oD (.own 0)) := by
 unfold Jn at h
 refine cw (n := 29) (rs := [.tmp 4]) Tryz.func51 fun w0 S0 => ?_
 refine wq rfl (qa rfl (Ac (wq rfl (qa rfl (Ac (wp rfl (qm rfl (AF GS rfl (qm rfl (Ac ?_))))))))))
 refine AC (L := GA N p0 p1) h (fun v1 => mk [(1, pD (.mp (Gj (Value.int .u64) tB p1))), (5, oD (.own 2001)), (8, pD (.sl (p0.map DN))), (9, iD ((p0.length : Int))), (10, iD v1.2)] [(2001, .vec 1 (v1.1.map DN))]) (fun v2 => mk [(5, oD (.own 2002))] [(2002, .vec 1 (v2.map DN))]) (fun _ _ => rfl) ((A9 5 2005 1 rfl rfl rfl).trans (sm [(2001, 2005)] _ _ rfl rfl)) (fun j1 n1 v1 h => ?_) (fun v2 s h hs => ?_)
 ·unfold GA at h
  refine wq rfl (AX rfl (Ac (AM ?_)))
  refine Ba h (fun h => ?_) fun h => ?_
  ·refine Ai ?_
   refine AS h (fun v4 => mk [(1, pD (.mp (Gj (Value.int .u64) tB p1))), (5, oD (.own 2003)), (8, pD (.sl (p0.map DN))), (9, iD ((p0.length : Int))), (10, iD v1.2)] [(2003, .vec 1 (v4.map DN))]) (fun j4 h => ?_) (fun v4 h => ?_)
   ·refine AJ (wq rfl ?_)
    refine BE h fun v5 a5 b5 h => qi GS MK a5 (Af b5) rfl (qk PS rfl (qz Ud rfl (qs MK rfl (Ac ?_))))
    refine AS h (fun v6 => mk [(1, pD (.mp (Gj (Value.int .u64) tB p1))), (5, oD (.own 2004)), (7, oD (.rop [.val (.int .u64 v5)])), (8, pD (.sl (p0.map DN))), (9, iD ((p0.length : Int))), (10, iD v1.2), (22, bD v6)] [(2004, .vec 1 (v1.1.map DN))]) (fun j6 h => ?_) (fun v6 h => ?_)
    ·refine Ah Ax rfl (qm rfl (ql PS rfl ?_))
     refine Ol (kv := (Value.int .u64)) (vt := tB) (m := p1) (dv := false) (.p rfl) rfl rfl (Mx OJ VK) (by rw [OJ]; rfl) Uo rfl rfl rfl ?_
     refine qm rfl ?_
     refine D4 17 h rfl (fun h => ?_) fun h => ?_
     ·refine qm rfl (Dn (Io 7 [.val (.int .u64 v5)] rfl rfl) ?_)
      refine IU (capD := [_]) (G8 (LD false DN) tB ((fun (x : Int) => F0 N x v5))) (.g rfl rfl) ez rfl ⟨rfl, tv⟩ rfl (fun ar t ht => by obtain ⟨x, r, rfl, hq, rfl⟩ := Hp ht; exact Ot N x v5 r hq) ?_
      refine Bv h fun v8 a8 h => CD [] [2001] (Gi N v1.1 ((fun (x : Int) => F0 N x v5)) v8 a8) cH Br rfl (Cg rfl (qp rfl (Ac ?_)))
      exact sn [(2004, 2001)] h
     ·refine qw 4 rfl (qp rfl (Ac ?_))
      exact bh _ h ((Io 7 [.val (.int .u64 v5)] rfl rfl).trans (sm [(2004, 2001)] _ _ rfl rfl))
    ·refine Ba h (fun h => ?_) fun h => ?_
     ·refine Ah Ax rfl (qm rfl (qk PS rfl (Dt GS MK Ud rfl ?_)))
      refine F3 h fun c10 h => CP (f := DN) GS GS MK Yz Ud c10 rfl (qe rfl ?_)
      exact sn [(2003, 26)] h
     ·refine Ai ?_
      exact sn [(2003, 2004)] h
   ·refine Ah Ax rfl (AY rfl (qm rfl (Ac ?_)))
    exact sn [(2001, 2003)] h
  ·refine AU ?_
   exact sn [(2002, 2001)] h
 ·refine Ad hs (wq rfl (qm rfl (qe rfl ?_)))
  obtain rfl := sj h
  refine Ad (sm [(1000, 2002)] [(4, oD (.own 1000))] [(1000, .vec 1 (v2.map DN))] rfl rfl) (Aq ?_)
  exact ⟨⟨[_], tm, rfl⟩, ⟨rfl, tv⟩⟩
theorem NV (N : Nat) (p0 : List Int) (r : (List (List Int))) (h : IW N p0 = some r) : Al zA 48 [pD (.sl (p0.map DN))] [(1, r.map (FP Ak))] (oD (.own 0)) := by
 unfold IW at h
 refine cw (n := 19) (rs := [.tmp 2]) Tryz.func48 fun w0 S0 => ?_
 refine wq rfl (qa rfl (Ac (wq rfl (qa rfl (Ac (wp rfl (qm rfl (AF GS rfl (qm rfl (Ac ?_))))))))))
 refine AC (L := Hs N p0) h (fun v1 => mk [(3, oD (.own 2001)), (6, pD (.sl (p0.map DN))), (7, iD ((p0.length : Int))), (8, iD v1.2)] [(2001, .vec 1 (v1.1.map (FP Ak)))]) (fun v2 => mk [(3, oD (.own 2002))] [(2002, .vec 1 (v2.map (FP Ak)))]) (fun _ _ => rfl) ((A9 3 2004 1 rfl rfl rfl).trans (sm [(2001, 2004)] _ _ rfl rfl)) (fun j1 n1 v1 h => ?_) (fun v2 s h hs => ?_)
 ·unfold Hs at h
  refine wq rfl (AX rfl (Ac (AM ?_)))
  refine Ba h (fun h => ?_) fun h => ?_
  ·refine Ai (AM (AJ (wq rfl ?_)))
   refine BE h fun v4 a4 b4 h => qi GS MK a4 (Af b4) rfl (qk PS rfl (qa rfl (Ac (Ah Ax rfl (qw 2 rfl ?_)))))
   refine Bv h fun v5 a5 h => Aw [2003] (Iv N v4 v5 a5) ZQ rfl (Dn (Bp 2003 _ _ rfl rfl) (Dt HA Ix Wl rfl ?_))
   refine F3 h fun c6 h => CP (f := (FP Ak)) HA HA Ix Z9 Wl c6 rfl (qa rfl (Ac (Ah Ax rfl (AY rfl (qm rfl (Ac ?_))))))
   exact sn [(2001, 16)] h
  ·refine AU ?_
   exact sn [(2002, 2001)] h
 ·refine Ad hs (wq rfl (qm rfl (qe rfl ?_)))
  obtain rfl := sj h
  refine Ad (sm [(1000, 2002)] [(2, oD (.own 1000))] [(1000, .vec 1 (v2.map (FP Ak)))] rfl rfl) (Aq ?_)
  exact ⟨⟨[_], tm, rfl⟩, ⟨rfl, tv⟩⟩
theorem UO (N : Nat) (p0 : Aa) (r : (List (List Int)) × Int) (h : LT N p0 = some r) : Al zA 18 [.e (.agg (Ag p0))] [(1, r.1.map (FP Ak))] (.tup [.one (.own 0), .one (iC r.2)]) := by
 unfold LT at h
 refine cw (n := 20) (rs := [.tmp 2, .tmp 3]) Tryz.func18 fun w0 S0 => ?_
 refine wq rfl (qb rfl (qa rfl (qa rfl (Ac (wq rfl (qL Ct BQ rfl ?_))))))
 refine Bv h fun v1 a1 h => Aw [2001] (N0 N p0 v1 a1) ec rfl (qm rfl (qx rfl (qx rfl (qx rfl (qa rfl (qa rfl (qa rfl (Ac (wp rfl (qm rfl (Bt rfl (Ac ?_))))))))))))
 refine Ba h (fun h => ?_) fun h => ?_
 ·refine wq rfl (qm rfl (qa rfl (qe rfl ?_)))
  obtain rfl := sj h
  refine Ad ((A9 2 2002 1 rfl rfl rfl).trans (sm [(1000, 2002)] [(2, oD (.own 1000)), (3, iD v1.2.2)] [(1000, .vec 1 ((([] : List (List Int))).map (FP Ak)))] rfl rfl)) (Aq ?_)
  exact ⟨⟨[_, _], ⟨.tmp _ _ rfl, tm⟩, rfl⟩, ⟨rfl, tv⟩⟩
 ·refine Ai (wq rfl (qw 2 rfl ?_))
  refine Bv h fun v3 a3 h => CD [2003] [2001] (PL N v1.1 v1.2.1 v3 a3) eD (Lh (fun _ => rfl) Br) rfl (Dn (Bp 2003 _ _ rfl rfl) ?_)
  refine Bv h fun v4 a4 h => Aw [2004] (NV N v3 v4 a4) cu rfl (qa rfl (qe rfl ?_))
  obtain rfl := sj h
  refine Ad (sm [(1000, 2004)] [(2, oD (.own 1000)), (3, iD 0)] [(1000, .vec 1 (v4.map (FP Ak)))] rfl rfl) (Aq ?_)
  exact ⟨⟨[_, _], ⟨.tmp _ _ rfl, tm⟩, rfl⟩, ⟨rfl, tv⟩⟩
theorem KG (N : Nat) (p0 : List Int) (r : (List Int)) (h : FO N p0 = some r) : Al zA 44 [pD (.sl (p0.map DN))] [(1, r.map DN)] (oD (.own 0)) := by
 unfold FO at h
 refine cw (n := 8) (rs := [.tmp 2]) Tryz.func44 fun w0 S0 => ?_
 refine wq rfl (qa rfl (Ac (wp rfl (qm rfl ?_))))
 refine Mk (.p rfl) rfl GS ?_
 refine Ac ?_
 refine Mv rfl (fun c2 => ?_) ?_
 ·have c2 := xN.1 c2
  rw [c2] at h
  have h : (some (([] : List Int))) = some r := h
  refine wq rfl (qe rfl ?_)
  obtain rfl := sj h
  refine Ad ((A9 2 2001 1 rfl rfl rfl).trans (sm [(1000, 2001)] [(2, oD (.own 1000))] [(1000, .vec 1 ((([] : List Int)).map DN))] rfl rfl)) (Aq ?_)
  exact ⟨⟨[_], tm, rfl⟩, ⟨rfl, tv⟩⟩
 ·refine Ai (wq rfl (Dt GS MK Ud rfl (qm rfl ?_)))
  refine F3 h fun c1 h => IN (f := DN) GS GS MK Yz Ud (fun _ => rfl) c1 rfl (qe rfl ?_)
  obtain rfl := sj h
  refine Ad (sm [(1000, 7)] [(2, oD (.own 1000))] [(1000, .vec 1 (((([] : List Int)) ++ p0).map DN))] rfl rfl) (Aq ?_)
  exact ⟨⟨[_], tm, rfl⟩, ⟨rfl, tv⟩⟩
theorem O6 (N : Nat) (p0 : Int) (p1 : List (Int × Bool)) (p2 : Int) (r : Bool) (h : Gl N p0 p1 p2 = some r) : Al zA 47 [pD (.val (.int .u64 p0)), oD (.rop [.mp (Gj (Value.int .u64) tB p1)]), oD (.rop [.val (.int .u64 p2)])] [] (bD r) := by
 unfold Gl at h
 refine cw (n := 20) (rs := [.tmp 4]) Tryz.func47 fun w0 S0 => ?_
 refine wq rfl (qe rfl ?_)
 refine AS h (fun v1 => mk [(4, bD v1)] []) (fun j1 h => ?_) (fun v1 h => ?_)
 ·refine Ah Ax rfl (qk ci rfl (qm rfl ?_))
  refine Ol (kv := (Value.int .u64)) (vt := tB) (m := p1) (dv := false) (.p rfl) rfl rfl (Mx OJ VK) (by rw [OJ]; rfl) Uo rfl rfl rfl ?_
  refine Cg rfl (qm rfl ?_)
  refine D4 9 h rfl (fun h => ?_) fun h => ?_
  ·refine qm rfl (qk PS rfl (Bt rfl (qp rfl (qm rfl ?_))))
   refine D4 14 h rfl (fun h => ?_) fun h => ?_
   ·refine qk PS rfl (qm rfl (Il rfl (B7 rfl (qp rfl (qe rfl ?_)))))
    exact sn [] h
   ·refine qw 4 rfl (qp rfl (qe rfl ?_))
    exact sn [] h
  ·refine qw 3 rfl (qp rfl (qw 5 rfl (qp rfl (qe rfl ?_))))
   exact sn [] h
 ·obtain rfl := sj h
  refine Ad (sm [] [(4, bD v1)] [] rfl rfl) (Aq ?_)
  exact ⟨⟨[_], tm, rfl⟩, tv⟩
theorem QH (N : Nat) (p0 : Int) (p1 : List (Int × Bool)) (p2 : List Int) (r : Bool) (h : Hg N p0 p1 p2 = some r) : Al zA 45 [pD (.val (.int .u64 p0)), oD (.rop [.mp (Gj (Value.int .u64) tB p1)]), oD (.rop [.sl (p2.map DN)])] [] (bD r) := by
 unfold Hg at h
 refine cw (n := 13) (rs := [.tmp 4]) Tryz.func45 fun w0 S0 => ?_
 refine wq rfl (qb rfl (qe rfl ?_))
 refine AS h (fun v1 => mk [(4, bD v1)] []) (fun j1 h => ?_) (fun v1 h => ?_)
 ·refine Ah Ax rfl (qk ci rfl (ql PS rfl ?_))
  refine Ol (kv := (Value.int .u64)) (vt := tB) (m := p1) (dv := false) (.p rfl) rfl rfl (Mx OJ VK) (by rw [OJ]; rfl) Uo rfl rfl rfl ?_
  refine qm rfl ?_
  refine D4 8 h rfl (fun h => ?_) fun h => ?_
  ·refine qw 3 rfl (qp rfl (qe rfl ?_))
   exact sn [] h
  ·refine qk dR rfl (Dn (Io 3 [.val (.int .u64 p0)] rfl rfl) ?_)
   refine IU (capD := [_, _]) (G8 (LD false DN) tB ((fun (x : Int) => Gl N x p1 p0))) (.g rfl rfl) eQ rfl ⟨rfl, rfl, tv⟩ rfl (fun ar t ht => by obtain ⟨x, r, rfl, hq, rfl⟩ := Hp ht; exact O6 N x p1 p0 r hq) ?_
   refine Bv h fun v3 a3 h => Aw [] (Gi N p2 ((fun (x : Int) => Gl N x p1 p0)) v3 a3) cH rfl (qp rfl (qe rfl ?_))
   exact sn [] h
 ·obtain rfl := sj h
  refine Ad (sm [] [(4, bD v1)] [] rfl rfl) (Aq ?_)
  exact ⟨⟨[_], tm, rfl⟩, tv⟩
theorem I9 (N : Nat) (p0 : List Int) (p1 : Int → Option Bool) (r : Nat × (List Int)) (h : ET N p0 p1 = some r) : EQ zA 43 [oD (.own 90000), oD (.clo (G8 (LD false DN) tB p1))] [(.vec 1 (p0.map DN), .vec 1 (r.2.map DN))] [] (oD (.view 90000 1 0 r.1)) := by
 unfold ET at h
 refine Hj (n := 42) (rs := [.tmp 4]) Tryz.func43 rfl rfl rfl (Jt rfl) (Jt rfl) rfl rfl (Jt rfl) rfl (Jt rfl) fun w0 S0 GL => ?_
 refine Ad (sm [] [(0, oD (.own 90000)), (1, oD (.clo (G8 (LD false DN) tB p1)))] [(90000, .vec 1 (p0.map DN))] rfl rfl) (wq rfl (qa rfl (Ac (wq rfl (qw 2 rfl ?_)))))
 refine Bv h fun v1 a1 h => CD [] [90000] (GT N p0 p1 v1 a1) dP Br rfl (qa rfl (Ac (wp rfl (qm rfl (B7 rfl (Ac ?_))))))
 refine Ba h (fun h => ?_) fun h => ?_
 ·refine wq rfl (qm rfl (qe rfl ?_))
  obtain rfl := sj h
  refine Ad ((VX DN p0 4 90000 1 rfl rfl).trans (sm [] [(4, oD (.view 90000 1 0 p0.length))] [(90000, .vec 1 (p0.map DN))] rfl rfl)) (Aq ?_)
  exact ⟨⟨[_], tm, rfl⟩, ⟨rfl, tv⟩, tv⟩
 ·refine Ai (wp rfl (qm rfl (AY rfl (qe rfl ?_))))
  refine AC (L := Di N p1) h (fun v3 => mk [(0, oD (.own 90000)), (1, oD (.clo (G8 (LD false DN) tB p1))), (5, iD v3.2.1), (6, iD v3.2.2)] [(90000, .vec 1 (v3.1.map DN))]) (fun v4 => mk [(0, oD (.own 90000)), (5, iD v4.2)] [(90000, .vec 1 (v4.1.map DN))]) (fun _ _ => rfl) (sm [] _ _ rfl rfl) (fun j3 n3 v3 h => ?_) (fun v4 s h hs => ?_)
  ·unfold Di at h
   refine wp rfl (qw 2 rfl (Fm GS rfl (AX rfl (Ac ?_))))
   refine Ba h (fun h => ?_) fun h => ?_
   ·refine Ai ?_
    refine AS h (fun v6 => mk [(0, oD (.own 90000)), (1, oD (.clo (G8 (LD false DN) tB p1))), (5, iD v6.2), (6, iD v3.2.2)] [(90000, .vec 1 (v6.1.map DN))]) (fun j6 h => ?_) (fun v6 h => ?_)
    ·refine AJ (wq rfl (qw 2 rfl ?_))
     refine BE h fun v7 a7 b7 h => qI GS MK a7 (Af b7) rfl (qj PS (Af b7) rfl (qa rfl (Ac (wq rfl (qw 2 rfl ?_)))))
     refine Bv h fun v8 a8 h => JO (ds0 := [_]) (ar := (LD false DN) v7) (.p rfl) rfl rfl ⟨rfl, tv⟩ rfl rfl rfl (IZ (Lb _ _ Up) a8) ?_
     refine Cg rfl (Ac ?_)
     refine Ba h (fun h => ?_) fun h => ?_
     ·refine wq rfl (qw 3 rfl ?_)
      refine BE h fun v10 a10 b10 h => qI GS MK a10 (Af b10) rfl ?_
      refine DM rfl rfl rfl rfl (Af b10) rfl MK rfl (Jt rfl) (DF DN v3.1 _ v7) ?_
      refine Ac (Ah Ax rfl (qm rfl (AY rfl (qe rfl ?_))))
      exact sn [] h
     ·refine Ai ?_
      exact sn [] h
    ·refine Ah Ax rfl (qm rfl (AY rfl (qe rfl ?_)))
     exact sn [] h
   ·refine AU ?_
    exact sn [] h
  ·refine Ad hs (wq rfl (qw 2 rfl ?_))
   obtain ⟨c11, h⟩ := HO h
   have w12 : ((v4.2).toNat) + ((v4.1.length - (v4.2).toNat)) ≤ v4.1.length := by have := c11.2.1; have := c11.2.2; omega
   refine KN DN v4.1 (.p rfl) rfl (Kg DN _ _ v4.1) rfl GS MK (.some _ _ _ _ c11.1) (.none _) ⟨rfl, tv⟩ tv c11.2.1 (by rw [zC]; exact c11.2.2) (zC _) rfl ?_
   have w13 : (JK v4.1 ((v4.2).toNat) (zH ((v4.1.length - (v4.2).toNat)) ((0 : Int)))).length = v4.1.length := Kj (by rw [List.length_replicate]; exact w12)
   refine S4 DN v4.1 ((0 : Int)) rfl rfl (Oj DN _ _ ((v4.2).toNat) ((v4.1.length - (v4.2).toNat)) v4.1 w12) rfl GS Ud rfl rfl rfl rfl ?_
   refine Ac (wq rfl (qw 2 rfl ?_))
   obtain ⟨c14, h⟩ := HO h
   have w15 : 0 + ((v4.2).toNat) ≤ (JK v4.1 ((v4.2).toNat) (zH ((v4.1.length - (v4.2).toNat)) ((0 : Int)))).length := by have := c14.2.1; have := c14.2.2; omega
   refine KN DN (JK v4.1 ((v4.2).toNat) (zH ((v4.1.length - (v4.2).toNat)) ((0 : Int)))) (.p rfl) rfl (Kg DN _ _ (JK v4.1 ((v4.2).toNat) (zH ((v4.1.length - (v4.2).toNat)) ((0 : Int))))) rfl GS MK (.none _) (.some _ _ _ _ c14.1) tv ⟨rfl, tv⟩ c14.2.1 (by rw [zC]; exact c14.2.2) (zC _) rfl ?_
   refine qa rfl (Ac ?_)
   obtain rfl := sj h
   refine Ad (sm [] [(4, oD (.view 90000 1 0 ((v4.2).toNat)))] [(90000, .vec 1 ((JK v4.1 ((v4.2).toNat) (zH ((v4.1.length - (v4.2).toNat)) ((0 : Int)))).map DN))] rfl rfl) (Aq ?_)
   exact ⟨⟨[_], tm, rfl⟩, ⟨rfl, tv⟩, tv⟩
theorem T6 (N : Nat) (p0 : Aa) (r : (List (List Int)) × Int) (h : Lj N p0 = some r) : Al zA 15 [.e (.agg (Ag p0))] [(1, r.1.map (FP Ak))] (.tup [.one (.own 0), .one (iC r.2)]) := by
 unfold Lj at h
 refine cw (n := 23) (rs := [.tmp 2, .tmp 3]) Tryz.func15 fun w0 S0 => ?_
 refine wq rfl (qb rfl (qa rfl (qa rfl (Ac (wq rfl (qL Ct BQ rfl ?_))))))
 refine Bv h fun v1 a1 h => Aw [2001] (N0 N p0 v1 a1) ec rfl (qm rfl (qx rfl (qx rfl (qx rfl (qz eE rfl (qz fw rfl (qs fk rfl (qs eS rfl (qa rfl (Ac (wp rfl (qm rfl (Bt rfl (Ac ?_))))))))))))))
 refine Ba h (fun h => ?_) fun h => ?_
 ·refine wq rfl (qm rfl (qa rfl (qe rfl ?_)))
  obtain rfl := sj h
  refine Ad ((A9 2 2002 1 rfl rfl rfl).trans (sm [(1000, 2002)] [(2, oD (.own 1000)), (3, iD v1.2.2)] [(1000, .vec 1 ((([] : List (List Int))).map (FP Ak)))] rfl rfl)) (Aq ?_)
  exact ⟨⟨[_, _], ⟨.tmp _ _ rfl, tm⟩, rfl⟩, ⟨rfl, tv⟩⟩
 ·refine Ai (AM (Ad (Bp 2001 _ _ rfl rfl) (Ah Ax rfl (ql dR rfl ?_))))
  refine Bv h fun v3 a3 h => Aw [2003] (KG N v1.1 v3 a3) fy rfl (Dn (Io 5 [.mp (Gj (Value.int .u64) tB v1.2.1)] rfl rfl) (Dn (Io 4 [.sl (v1.1.map DN)] rfl rfl) ?_))
  refine IU (capD := [_, _]) (G8 (LD false DN) tB ((fun (x : Int) => Hg N x v1.2.1 v1.1))) (.p rfl) fC rfl ⟨rfl, rfl, tv⟩ rfl (fun ar t ht => by obtain ⟨x, r, rfl, hq, rfl⟩ := Hp ht; exact QH N x v1.2.1 v1.1 r hq) ?_
  obtain ⟨v4, a4, h⟩ := bind_some h
  obtain ⟨c5, h⟩ := HO h
  have w6 : 0 + v4.1 ≤ v4.2.length := by rw [zC]; exact c5
  refine Mn (ds0 := [_, _]) [2003] [] [true] (I9 N v3 ((fun (x : Int) => Hg N x v1.2.1 v1.1)) v4 a4) (.p rfl) fu rfl ⟨rfl, rfl, tv⟩ rfl rfl (by decide) ⟨rfl, tv⟩ rfl (Gw rfl) tv ⟨(fun h => by cases h), tv⟩ rfl rfl rfl ?_
  refine Dn (XO DN v4.2 20 2003 2004 1 v4.1 rfl rfl rfl rfl rfl c5) (qa rfl (Ac (wq rfl (qm rfl (Dn (Bp 2004 _ _ rfl rfl) ?_)))))
  refine Bv h fun v7 a7 h => Aw [2005] (NV N (v4.2.take v4.1) v7 a7) cu rfl (qa rfl (qe rfl ?_))
  obtain rfl := sj h
  refine Ad (sm [(1000, 2005)] [(2, oD (.own 1000)), (3, iD 0)] [(1000, .vec 1 (v7.map (FP Ak)))] rfl rfl) (Aq ?_)
  exact ⟨⟨[_, _], ⟨.tmp _ _ rfl, tm⟩, rfl⟩, ⟨rfl, tv⟩⟩
theorem M8 (N : Nat) (p0 : List Int) (p1 : List Int) (r : Bool) (h : HD N p0 p1 = some r) : Al zA 50 [pD (.sl (p0.map Ak)), pD (.sl (p1.map Ak))] [] (bD r) := by
 unfold HD at h
 refine cw (n := 26) (rs := [.tmp 4]) Tryz.func50 fun w0 S0 => ?_
 refine wq rfl (qa rfl (Ac (wp rfl (qm rfl (AF As rfl (qm rfl (AF As rfl (Bt rfl (Ac ?_)))))))))
 refine Ba h (fun h => ?_) fun h => ?_
 ·refine wq rfl (qe rfl ?_)
  obtain rfl := sj h
  refine Ad (sm [] [(4, bD false)] [] rfl rfl) (Aq ?_)
  exact ⟨⟨[_], tm, rfl⟩, tv⟩
 ·refine Ai (wp rfl (qe rfl ?_))
  refine AC (L := Fp N p0 p1) h (fun v2 => mk [(0, pD (.sl (p0.map Ak))), (1, pD (.sl (p1.map Ak))), (5, iD v2)] []) (fun v3 => mk [] []) (fun _ _ => rfl) (sm [] _ _ rfl rfl) (fun j2 n2 v2 h => ?_) (fun v3 s h hs => ?_)
  ·unfold Fp at h
   refine wp rfl (qw 2 rfl (AF As rfl (AX rfl (Ac ?_))))
   refine Ba h (fun h => ?_) fun h => ?_
   ·refine Ai (AM (AJ (wq rfl (qw 2 rfl ?_))))
    refine BE h fun v5 a5 b5 h => qi As CJ a5 (Af b5) rfl (qk B5 rfl (qw 2 rfl ?_))
    refine BE h fun v6 a6 b6 h => qi As CJ a6 (Af b6) rfl (qk B5 rfl (Bt rfl (AK (by kernel_rfl) ?_)))
    refine Ba h (fun h => ?_) fun h => ?_
    ·refine wq rfl (qe rfl ?_)
     obtain rfl := sj h
     refine Ad (sm [] [(4, bD false)] [] rfl rfl) (Aq ?_)
     exact ⟨⟨[_], tm, rfl⟩, tv⟩
    ·refine Ai (Ah Ax rfl (qm rfl (AY rfl (qe rfl ?_))))
     exact sn [] h
   ·refine AU ?_
    exact sn [] h
  ·refine Ad hs (wq rfl (qe rfl ?_))
   obtain rfl := sj h
   refine Ad (sm [] [(4, bD true)] [] rfl rfl) (Aq ?_)
   exact ⟨⟨[_], tm, rfl⟩, tv⟩
theorem Jv (N : Nat) (p0 : List (List Int)) (p1 : List (List Int)) (r : Bool) (h : F5 N p0 p1 = some r) : Al zA 17 [pD (.sl (p0.map (FP Ak))), pD (.sl (p1.map (FP Ak)))] [] (bD r) := by
 unfold F5 at h
 refine cw (n := 27) (rs := [.tmp 4]) Tryz.func17 fun w0 S0 => ?_
 refine wq rfl (qa rfl (Ac (wp rfl (qm rfl (AF HA rfl (qm rfl (AF HA rfl (Bt rfl (Ac ?_)))))))))
 refine Ba h (fun h => ?_) fun h => ?_
 ·refine wq rfl (qe rfl ?_)
  obtain rfl := sj h
  refine Ad (sm [] [(4, bD false)] [] rfl rfl) (Aq ?_)
  exact ⟨⟨[_], tm, rfl⟩, tv⟩
 ·refine Ai (wp rfl (qe rfl ?_))
  refine AC (L := Fi N p0 p1) h (fun v2 => mk [(0, pD (.sl (p0.map (FP Ak)))), (1, pD (.sl (p1.map (FP Ak)))), (5, iD v2)] []) (fun v3 => mk [] []) (fun _ _ => rfl) (sm [] _ _ rfl rfl) (fun j2 n2 v2 h => ?_) (fun v3 s h hs => ?_)
  ·unfold Fi at h
   refine wp rfl (qw 2 rfl (AF HA rfl (AX rfl (Ac ?_))))
   refine Ba h (fun h => ?_) fun h => ?_
   ·refine Ai (AM (AJ (wq rfl (qw 2 rfl ?_))))
    refine BE h fun v5 a5 b5 h => qi HA Ix a5 (Af b5) rfl (qk A4 rfl (qw 2 rfl ?_))
    refine BE h fun v6 a6 b6 h => qi HA Ix a6 (Af b6) rfl (qk A4 rfl ?_)
    refine Bv h fun v7 a7 h => Aw [] (M8 N v5 v6 v7 a7) fb rfl (Cg rfl (AK (by kernel_rfl) ?_))
    refine Ba h (fun h => ?_) fun h => ?_
    ·refine wq rfl (qe rfl ?_)
     obtain rfl := sj h
     refine Ad (sm [] [(4, bD false)] [] rfl rfl) (Aq ?_)
     exact ⟨⟨[_], tm, rfl⟩, tv⟩
    ·refine Ai (Ah Ax rfl (qm rfl (AY rfl (qe rfl ?_))))
     exact sn [] h
   ·refine AU ?_
    exact sn [] h
  ·refine Ad hs (wq rfl (qe rfl ?_))
   obtain rfl := sj h
   refine Ad (sm [] [(4, bD true)] [] rfl rfl) (Aq ?_)
   exact ⟨⟨[_], tm, rfl⟩, tv⟩
theorem JF (N : Nat) (r : Bool) (h : E2 N = some r) : Al zA 11 [] [] (bD r) := by
 unfold E2 at h
 refine cw (n := 63) (rs := [.tmp 0]) Tryz.func11 fun w0 S0 => ?_
 refine wq rfl (qa rfl (Ac (wp rfl (Dt Fw PQ Uo rfl ?_))))
 refine X1 (.p rfl) rfl (.own _ _ _) ⟨rfl, tv⟩ rfl Fw ?_
 refine qm rfl (Ac ?_)
 refine AC (L := Fh N) h (fun v1 => mk [(9, oD (.own 2001)), (10, iD (((([false, true] : List Bool)).length : Int))), (11, iD v1)] [(2001, .vec 1 ((([false, true] : List Bool)).map eB))]) (fun v2 => mk [] []) (fun _ _ => rfl) (sm [(2001, 9)] _ _ rfl rfl) (fun j1 n1 v1 h => ?_) (fun v2 s h hs => ?_)
 ·unfold Fh at h
  refine wq rfl (AX rfl (Ac (AM ?_)))
  refine Ba h (fun h => ?_) fun h => ?_
  ·refine Ai (AM (AJ (wq rfl ?_)))
   refine BE h fun v4 a4 b4 h => qI Fw PQ a4 (Af b4) rfl (qj Un (Af b4) rfl (qa rfl (Ac (wq rfl (qm rfl ?_)))))
   refine Bv h fun v5 a5 h => Aw [2002, 2003, 2004, 2005] (G1 N v4 v5 a5) bL rfl (Dn (Bp 2002 _ _ rfl rfl) (Dn (Bp 2003 _ _ rfl rfl) (Dn (Bp 2004 _ _ rfl rfl) (Dn (Bp 2005 _ _ rfl rfl) ?_))))
   refine Bv h fun v6 a6 h => Aw [2006] (UO N v5 v6 a6) eG rfl (qm rfl (qx rfl (qx rfl (qa rfl (qa rfl (Ac (wq rfl (qm rfl ?_))))))))
   refine Bv h fun v7 a7 h => Aw [2007, 2008, 2009, 2010] (G1 N v4 v7 a7) bL rfl (Dn (Bp 2007 _ _ rfl rfl) (Dn (Bp 2008 _ _ rfl rfl) (Dn (Bp 2009 _ _ rfl rfl) (Dn (Bp 2010 _ _ rfl rfl) ?_))))
   refine Bv h fun v8 a8 h => Aw [2011] (T6 N v7 v8 a8) fB rfl (qm rfl (qx rfl (qx rfl (qa rfl (qa rfl (Ac (wq rfl (qm rfl ?_))))))))
   refine Bv h fun v9 a9 h => Aw [2012, 2013, 2014, 2015] (G1 N v4 v9 a9) bL rfl (Dt As CJ Ja rfl ?_)
   refine Bv h fun v10 a10 h => CD [] [2012, 2013, 2014, 2015, 30] (KB N v9 (([0, 2] : List Int)) v10 a10) az Br rfl (qm rfl (qx rfl (qx rfl (qa rfl (qe rfl ?_)))))
   refine AS h (fun v11 => mk [(9, oD (.own 2016)), (10, iD (((([false, true] : List Bool)).length : Int))), (11, iD v1), (61, bD v11)] [(2016, .vec 1 ((([false, true] : List Bool)).map eB))]) (fun j11 h => ?_) (fun v11 h => ?_)
   ·refine Ah Ax rfl (qm rfl (Bt rfl (qm rfl ?_)))
    refine D4 36 h rfl (fun h => ?_) fun h => ?_
    ·refine qw 2 rfl (qp rfl (qw 3 rfl (qp rfl (qw 2 rfl (qp rfl (qw 6 rfl (qp rfl (qw 7 rfl (qp rfl (Ac ?_))))))))))
     exact sn [(2016, 2001)] h
    ·refine qm rfl (Bt rfl (qp rfl (qm rfl ?_)))
     refine D4 40 h rfl (fun h => ?_) fun h => ?_
     ·refine qw 2 rfl (qp rfl (qw 2 rfl (qp rfl (qw 6 rfl (qp rfl (qw 7 rfl (qp rfl (Ac ?_))))))))
      exact sn [(2016, 2001)] h
     ·refine qm rfl (Bt rfl (qp rfl (qm rfl ?_)))
      refine D4 44 h rfl (fun h => ?_) fun h => ?_
      ·refine qn rfl (qp rfl (qw 6 rfl (qp rfl (qw 7 rfl (qp rfl (Ac ?_))))))
       exact sn [(2016, 2001)] h
      ·refine qm rfl (qp rfl (qm rfl ?_))
       refine D4 47 h rfl (fun h => ?_) fun h => ?_
       ·refine qw 5 rfl (qp rfl (qw 7 rfl (qp rfl (Ac ?_))))
        exact sn [(2016, 2001)] h
       ·refine qm rfl (Dt As CJ Ja rfl (Dn (Bp 49 _ _ rfl rfl) (Dt HA Ix Wl rfl ?_)))
        refine Bv h fun v16 a16 h => CD [] [2006, 50] (Jv N v6.1 (([([0, 1] : List Int)] : List (List Int))) v16 a16) dT Br rfl (Cg rfl (qp rfl (qm rfl ?_)))
        refine D4 54 h rfl (fun h => ?_) fun h => ?_
        ·refine qw 6 rfl (qp rfl (Ac ?_))
         exact sn [(2016, 2001)] h
        ·refine qm rfl (Dt As CJ Ja rfl (Dt As CJ Ja rfl (Dn (Bp 56 _ _ rfl rfl) (Dn (Bp 57 _ _ rfl rfl) (Dt HA Ix Wl rfl ?_)))))
         refine Bv h fun v18 a18 h => CD [] [2011, 58] (Jv N v8.1 (([([0, 2] : List Int), ([1, 2] : List Int)] : List (List Int))) v18 a18) dT Br rfl (Cg rfl (qp rfl (Ac ?_)))
         exact sn [(2016, 2001)] h
   ·refine Ba h (fun h => ?_) fun h => ?_
    ·refine wq rfl (qe rfl ?_)
     obtain rfl := sj h
     refine Ad (sm [] [(0, bD false)] [] rfl rfl) (Aq ?_)
     exact ⟨⟨[_], tm, rfl⟩, tv⟩
    ·refine Ai (Ah Ax rfl (AY rfl (qm rfl (Ac ?_))))
     exact sn [(2001, 2016)] h
  ·refine AU ?_
   exact sn [] h
 ·refine Ad hs (wq rfl (qe rfl ?_))
  obtain rfl := sj h
  refine Ad (sm [] [(0, bD true)] [] rfl rfl) (Aq ?_)
  exact ⟨⟨[_], tm, rfl⟩, tv⟩
theorem Oa (N : Nat) (p0 : Ab) (r : Bool) (h : FD N p0 = some r) : Al zA 26 [.e (.agg (AE p0))] [] (bD r) := by
 unfold FD at h
 refine cw (n := 19) (rs := [.tmp 2]) Tryz.func26 fun w0 S0 => ?_
 refine wq rfl (qb rfl (qe rfl ?_))
 refine AS h (fun v1 => mk [(2, bD v1)] []) (fun j1 h => ?_) (fun v1 h => ?_)
 ·refine Ah Ax rfl (qf CR rfl (ql A4 rfl (AF As rfl (PT rfl (qm rfl ?_)))))
  refine D4 7 h rfl (fun h => ?_) fun h => ?_
  ·refine qf BC rfl (ql A4 rfl (AF As rfl (PT rfl (qp rfl (qm rfl ?_)))))
   refine D4 13 h rfl (fun h => ?_) fun h => ?_
   ·refine qf CS rfl (ql HE rfl (AF Dz rfl (PT rfl (qp rfl (qe rfl ?_)))))
    exact sn [] h
   ·refine qw 4 rfl (qp rfl (qe rfl ?_))
    exact sn [] h
  ·refine qw 4 rfl (qp rfl (qw 5 rfl (qp rfl (qe rfl ?_))))
   exact sn [] h
 ·obtain rfl := sj h
  refine Ad (sm [] [(2, bD v1)] [] rfl rfl) (Aq ?_)
  exact ⟨⟨[_], tm, rfl⟩, tv⟩
theorem IQ (N : Nat) (p0 : List Ab) (r : (List Ab)) (h : CV N p0 = some r) : Al zA 28 [pD (.sl (p0.map AW))] [(3, r.map AW)] (oD (.own 0)) := by
 unfold CV at h
 refine cw (n := 8) (rs := [.tmp 2]) Tryz.func28 fun w0 S0 => ?_
 refine wq rfl (qa rfl (Ac (wp rfl (qm rfl ?_))))
 refine Mk (.p rfl) rfl Eu ?_
 refine Ac ?_
 refine Mv rfl (fun c2 => ?_) ?_
 ·have c2 := xN.1 c2
  rw [c2] at h
  have h : (some (([] : List Ab))) = some r := h
  refine wq rfl (qe rfl ?_)
  obtain rfl := sj h
  refine Ad ((A9 2 2001 3 rfl rfl rfl).trans (sm [(1000, 2001)] [(2, oD (.own 1000))] [(1000, .vec 3 ((([] : List Ab)).map AW))] rfl rfl)) (Aq ?_)
  exact ⟨⟨[_], tm, rfl⟩, ⟨rfl, tv⟩⟩
 ·refine Ai (wq rfl (Dt Eu AV Ea rfl (qm rfl ?_)))
  refine F3 h fun c1 h => IN (f := AW) Eu Eu AV Yb Ea (fun _ => rfl) c1 rfl (qe rfl ?_)
  obtain rfl := sj h
  refine Ad (sm [(1000, 7)] [(2, oD (.own 1000))] [(1000, .vec 3 (((([] : List Ab)) ++ p0).map AW))] rfl rfl) (Aq ?_)
  exact ⟨⟨[_], tm, rfl⟩, ⟨rfl, tv⟩⟩
theorem Ju (N : Nat) (p0 : Int) (r : Bool) (h : Fb N p0 = some r) : Al zA 175 [pD (.val (.int .u8 p0))] [] (bD r) := by
 unfold Fb at h
 refine cw (n := 6) (rs := [.tmp 2]) Tryz.func175 fun w0 S0 => ?_
 refine wq rfl (qa rfl (Ac (wq rfl (qw 2 rfl (Bt rfl (qe rfl ?_))))))
 obtain rfl := sj h
 refine Ad (sm [] [(2, bD ((p0 != p0)))] [] rfl rfl) (Aq ?_)
 exact ⟨⟨[_], tm, rfl⟩, tv⟩
end Go.Lift
