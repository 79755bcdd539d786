/- Lemmas for CoreCertificateCardSaid, which YtbfklmmnpdifaaaGreatDoorFinC8 proves. -/
import Derived.Test.YtbfklmmnpdifaaaGreatDoorCode1
open List renaming map_eq_nil_iff → zH3, replicate → zA5
open Nat renaming zero_add → zA1
open Go.Proofs.Tryz renaming prog → zA0
namespace Go.Lift
open IntKind renaming wrap → wI
set_option maxRecDepth 10000
open Go.RowKit
open Go.Proofs
theorem MP (N : Nat) (p0 : Aa) (p1 : Ab) (r : Int) (h : EZ N p0 p1 = some r) : An zA0 90 [.e (.agg (Ah p0)), .e (.agg (AE p1))] [] (iD r) := by
 unfold EZ at h
 refine cw (n := 154) (rs := [.tmp 4]) Tryz.func90 fun w0 S0 => ?_
 refine wq rfl (qb rfl (qb rfl (qa rfl (Ac (wp rfl (qL CO BU rfl ?_))))))
 refine BD h fun v1 a1 h => Aw [] (Ep N p0 v1 a1) ZH rfl (qa rfl (Ac (wq rfl (qm rfl (BA rfl (Ac ?_))))))
 refine Ba h (fun h => ?_) fun h => ?_
 ·refine wq rfl (qm rfl (qe rfl ?_))
  obtain rfl := sj h
  refine Ae (sm [] [(4, iD v1)] [] rfl rfl) (Ar ?_)
  exact ⟨⟨[_], tm, rfl⟩, tv⟩
 ·refine Ai (wq rfl (qf Bb rfl (ql A7 rfl (AI Au rfl (qa rfl (Ac (AL ?_)))))))
  refine AS h (fun v3 => mk [(2, oD (.ptr 2 0)), (3, oD (.ptr 3 0)), (6, iD ((p0.fA.length : Int))), (39, bD v3)] [(2, .box (Ah p0)), (3, .box (AE p1))]) (fun j3 h => ?_) (fun v3 h => ?_)
  ·refine Ag Av rfl (qf Dd rfl (ql A7 rfl (AI Au rfl (qm rfl (BA rfl (qm rfl ?_))))))
   refine En 24 h rfl (fun h => ?_) fun h => ?_
   ·refine qw 5 rfl (qp rfl (qw 8 rfl (qp rfl (Ac ?_))))
    exact sn [] h
   ·refine qf BK rfl (ql A7 rfl (AI Au rfl (qm rfl (BA rfl (qp rfl (qm rfl ?_))))))
    refine En 31 h rfl (fun h => ?_) fun h => ?_
    ·refine qw 7 rfl (qp rfl (Ac ?_))
     exact sn [] h
    ·refine qf CW rfl (ql HO rfl (AI DB rfl (qf Cj rfl (ql Hp rfl (AI DD rfl (BA rfl (qp rfl (Ac ?_))))))))
     exact sn [] h
  ·refine Ba h (fun h => ?_) fun h => ?_
   ·refine wq rfl (qe rfl ?_)
    obtain rfl := sj h
    refine Ae (sm [] [(4, iD 6)] [] rfl rfl) (Ar ?_)
    exact ⟨⟨[_], tm, rfl⟩, tv⟩
   ·refine Ai (wp rfl (qe rfl ?_))
    refine AC (L := Cn N p0 p1) h (fun v7 => mk [(2, oD (.ptr 2 0)), (3, oD (.ptr 3 0)), (6, iD ((p0.fA.length : Int))), (7, iD v7)] [(2, .box (Ah p0)), (3, .box (AE p1))]) (fun v8 => mk [(2, oD (.ptr 2 0)), (3, oD (.ptr 3 0))] [(2, .box (Ah p0)), (3, .box (AE p1))]) (fun _ _ => rfl) (sm [] _ _ rfl rfl) (fun j7 n7 v7 h => ?_) (fun v8 s h hs => ?_)
    ·unfold Cn at h
     refine wp rfl (qw 2 rfl (AY rfl (Ac ?_)))
     refine Ba h (fun h => ?_) fun h => ?_
     ·refine Ai (AL (AJ (AL ?_)))
      refine AS h (fun v10 => mk [(2, oD (.ptr 2 0)), (3, oD (.ptr 3 0)), (6, iD ((p0.fA.length : Int))), (7, iD v7), (84, bD v10)] [(2, .box (Ah p0)), (3, .box (AE p1))]) (fun j10 h => ?_) (fun v10 h => ?_)
      ·refine Ag Av rfl (qf Dd rfl (ql A7 rfl (qm rfl ?_)))
       refine BJ h fun v11 a11 b11 h => qi Au CK a11 (Af b11) rfl (qk B1 rfl (AY rfl (qm rfl ?_)))
       refine En 51 h rfl (fun h => ?_) fun h => ?_
       ·refine qw 11 rfl (qp rfl (qw 7 rfl (qp rfl (qw 12 rfl (qp rfl (AM (by kernel_rfl) ?_))))))
        exact sn [] h
       ·refine qf Dd rfl (ql A7 rfl (qm rfl ?_))
        refine BJ h fun v13 a13 b13 h => qi Au CK a13 (Af b13) rfl (qk B1 rfl (qf Bb rfl (ql A7 rfl (qm rfl ?_))))
        refine BJ h fun v14 a14 b14 h => qi Au CK a14 (Af b14) rfl (qk B1 rfl (EF rfl (qp rfl (qm rfl ?_))))
        refine En 64 h rfl (fun h => ?_) fun h => ?_
        ·refine qw 6 rfl (qp rfl (qw 12 rfl (qp rfl (AM (by kernel_rfl) ?_))))
         exact sn [] h
        ·refine qf BK rfl (ql A7 rfl (qm rfl ?_))
         refine BJ h fun v16 a16 b16 h => qi Au CK a16 (Af b16) rfl (qk B1 rfl (AY rfl (qp rfl (qm rfl ?_))))
         refine En 72 h rfl (fun h => ?_) fun h => ?_
         ·refine qw 11 rfl (qp rfl (AM (by kernel_rfl) ?_))
          exact sn [] h
         ·refine qf BK rfl (ql A7 rfl (qm rfl ?_))
          refine BJ h fun v18 a18 b18 h => qi Au CK a18 (Af b18) rfl (qk B1 rfl (qf Bb rfl (ql A7 rfl (qm rfl ?_))))
          refine BJ h fun v19 a19 b19 h => qi Au CK a19 (Af b19) rfl (qk B1 rfl (EF rfl (qp rfl (AM (by kernel_rfl) ?_))))
          exact sn [] h
      ·refine Ba h (fun h => ?_) fun h => ?_
       ·refine wq rfl (qe rfl ?_)
        obtain rfl := sj h
        refine Ae (sm [] [(4, iD 7)] [] rfl rfl) (Ar ?_)
        exact ⟨⟨[_], tm, rfl⟩, tv⟩
       ·refine Ai (wq rfl (qf Dd rfl (ql A7 rfl (qm rfl ?_))))
        refine BJ h fun v21 a21 b21 h => qi Au CK a21 (Af b21) rfl (qk B1 rfl (qf BK rfl (ql A7 rfl (qm rfl ?_))))
        refine BJ h fun v22 a22 b22 h => qi Au CK a22 (Af b22) rfl (qk B1 rfl (Cf rfl (AM (by kernel_rfl) ?_)))
        refine Ba h (fun h => ?_) fun h => ?_
        ·refine wq rfl (qe rfl ?_)
         obtain rfl := sj h
         refine Ae (sm [] [(4, iD 1)] [] rfl rfl) (Ar ?_)
         exact ⟨⟨[_], tm, rfl⟩, tv⟩
        ·refine Ai (Ag Av rfl (qm rfl (A0 rfl (qe rfl ?_))))
         exact sn [] h
     ·refine AU ?_
      exact sn [] h
    ·refine Ae hs (wp rfl (qe rfl ?_))
     refine AC (L := Ca N p0 p1) h (fun v24 => mk [(2, oD (.ptr 2 0)), (3, oD (.ptr 3 0)), (8, iD v24)] [(2, .box (Ah p0)), (3, .box (AE p1))]) (fun v25 => mk [] []) (fun _ _ => rfl) (sm [] _ _ rfl rfl) (fun j24 n24 v24 h => ?_) (fun v25 s h hs => ?_)
     ·unfold Ca at h
      refine wp rfl (qm rfl (qf Cj rfl (ql Hp rfl (AI DD rfl (AY rfl (Ac ?_))))))
      refine Ba h (fun h => ?_) fun h => ?_
      ·refine Ai (AL (AJ (wq rfl (qf Cj rfl (ql Hp rfl (qm rfl ?_))))))
       refine BJ h fun v27 a27 b27 h => qi DD Du a27 (Af b27) rfl (qK Ha Du rfl (qz Jl rfl (qs Du rfl (Ac (wq rfl (qf Bb rfl (ql A7 rfl (qf Di rfl (ql B1 rfl ?_)))))))))
       refine BJ h fun v28 a28 b28 h => qi Au CK a28 (Af b28) rfl (qk B1 rfl ?_)
       refine FD h fun c29 h => Jo rfl c29 (J9 rfl (qe rfl ?_))
       refine AS h (fun v30 => mk [(2, oD (.ptr 2 0)), (3, oD (.ptr 3 0)), (8, iD v24), (153, bD v30)] [(2, .box (Ah p0)), (3, .box (AE p1))]) (fun j30 h => ?_) (fun v30 h => ?_)
       ·refine Ag Av rfl (qL Ha Du rfl ?_)
        refine BD h fun v31 a31 h => Aw [] (CD N v27 v31 a31) RX rfl (Cp rfl (qm rfl ?_))
        refine En 119 h rfl (fun h => ?_) fun h => ?_
        ·refine qf CW rfl (ql HO rfl (qm rfl ?_))
         refine BJ h fun v33 a33 b33 h => qi DB EA a33 (Af b33) rfl (qk Iy rfl (BA rfl (qp rfl (qm rfl ?_))))
         refine En 127 h rfl (fun h => ?_) fun h => ?_
         ·refine qw 3 rfl (qu rfl (qu rfl (qu rfl (qu rfl (qu rfl (qu rfl (qu rfl (qu rfl (qu rfl (qu rfl (qu rfl (qu rfl (qu rfl (qu rfl (qu rfl (qu rfl (qu rfl (qu rfl (qu rfl (qu rfl (qu rfl (qn rfl (qp rfl (AM (by kernel_rfl) ?_))))))))))))))))))))))))
          exact sn [] h
         ·refine qL Ha Du rfl ?_
          refine BD h fun v35 a35 h => Aw [] (CD N v27 v35 a35) RX rfl (qm rfl ?_)
          refine En 130 h rfl (fun h => ?_) fun h => ?_
          ·refine qf CW rfl (ql HO rfl (qm rfl ?_))
           refine BJ h fun v37 a37 b37 h => qi DB EA a37 (Af b37) rfl (qk Iy rfl (qm rfl (Iu rfl (BA rfl (qm rfl ?_)))))
           refine En 139 h rfl (fun h => ?_) fun h => ?_
           ·refine qw 11 rfl (qp rfl (qp rfl (qp rfl (AM (by kernel_rfl) ?_))))
            exact sn [] h
           ·refine qL Bn AW rfl (qf Di rfl (ql B1 rfl ?_))
            refine BD h fun v39 a39 h => Aw [] (EH N p1 v27.fF v39 a39) Yo rfl (qf CW rfl (ql HO rfl (qm rfl ?_)))
            refine BJ h fun v40 a40 b40 h => qi DB EA a40 (Af b40) rfl (qk Iy rfl (Iu rfl (BA rfl (qp rfl (qp rfl (qp rfl (AM (by kernel_rfl) ?_)))))))
            exact sn [] h
          ·refine qw 9 rfl (qu rfl (qu rfl (qu rfl (qu rfl (qu rfl (qu rfl (qu rfl (qu rfl (qu rfl (qu rfl (qu rfl (qn rfl (qp rfl (qp rfl (AM (by kernel_rfl) ?_)))))))))))))))
           exact sn [] h
        ·refine qw 6 rfl (qp rfl (qm rfl (qL Ha Du rfl ?_)))
         refine BD h fun v41 a41 h => Aw [] (CD N v27 v41 a41) RX rfl (qm rfl ?_)
         refine En 130 h rfl (fun h => ?_) fun h => ?_
         ·refine qf CW rfl (ql HO rfl (qm rfl ?_))
          refine BJ h fun v43 a43 b43 h => qi DB EA a43 (Af b43) rfl (qk Iy rfl (qm rfl (Iu rfl (BA rfl (qm rfl ?_)))))
          refine En 139 h rfl (fun h => ?_) fun h => ?_
          ·refine qw 11 rfl (qp rfl (qp rfl (qp rfl (AM (by kernel_rfl) ?_))))
           exact sn [] h
          ·refine qL Bn AW rfl (qf Di rfl (ql B1 rfl ?_))
           refine BD h fun v45 a45 h => Aw [] (EH N p1 v27.fF v45 a45) Yo rfl (qf CW rfl (ql HO rfl (qm rfl ?_)))
           refine BJ h fun v46 a46 b46 h => qi DB EA a46 (Af b46) rfl (qk Iy rfl (Iu rfl (BA rfl (qp rfl (qp rfl (qp rfl (AM (by kernel_rfl) ?_)))))))
           exact sn [] h
         ·refine qw 9 rfl (qu rfl (qu rfl (qu rfl (qu rfl (qu rfl (qu rfl (qu rfl (qu rfl (qu rfl (qu rfl (qu rfl (qn rfl (qp rfl (qp rfl (AM (by kernel_rfl) ?_)))))))))))))))
          exact sn [] h
       ·refine Ba h (fun h => ?_) fun h => ?_
        ·refine wq rfl (qe rfl ?_)
         obtain rfl := sj h
         refine Ae (sm [] [(4, iD 1)] [] rfl rfl) (Ar ?_)
         exact ⟨⟨[_], tm, rfl⟩, tv⟩
        ·refine Ai (Ag Av rfl (qm rfl (A0 rfl (qe rfl ?_))))
         exact sn [] h
      ·refine AU ?_
       exact sn [] h
     ·refine Ae hs (wq rfl (qe rfl ?_))
      obtain rfl := sj h
      refine Ae (sm [] [(4, iD 0)] [] rfl rfl) (Ar ?_)
      exact ⟨⟨[_], tm, rfl⟩, tv⟩
theorem ML (N : Nat) (p0 : Ad) (r : Bool) (h : EV N p0 = some r) : An zA0 133 [.e (.agg (DA p0))] [] (bD r) := by
 unfold EV at h
 refine cw (n := 31) (rs := [.tmp 2]) Tryz.func133 fun w0 S0 => ?_
 refine wq rfl (qb rfl (qe rfl ?_))
 refine AS h (fun v1 => mk [(2, bD v1)] []) (fun j1 h => ?_) (fun v1 h => ?_)
 ·refine Ag Av rfl (qf GA rfl (ql B1 rfl (EF rfl (qm rfl ?_))))
  refine En 6 h rfl (fun h => ?_) fun h => ?_
  ·refine qf GA rfl (ql B1 rfl (VD rfl (qp rfl (qm rfl ?_))))
   refine En 11 h rfl (fun h => ?_) fun h => ?_
   ·refine qf FG rfl (ql B1 rfl (EF rfl (qp rfl (qm rfl ?_))))
    refine En 16 h rfl (fun h => ?_) fun h => ?_
    ·refine qf HZ rfl (ql B1 rfl (EF rfl (qp rfl (qm rfl ?_))))
     refine En 21 h rfl (fun h => ?_) fun h => ?_
     ·refine qf GA rfl (ql B1 rfl (Cf rfl (qm rfl ?_)))
      refine En 25 h rfl (fun h => ?_) fun h => ?_
      ·refine qw 3 rfl (qp rfl (qp rfl (qe rfl ?_)))
       exact sn [] h
      ·refine qf HZ rfl (ql B1 rfl (Cf rfl (qp rfl (qp rfl (qe rfl ?_)))))
       exact sn [] h
     ·refine qw 4 rfl (qu rfl (qu rfl (qu rfl (qn rfl (qp rfl (qe rfl ?_))))))
      exact sn [] h
    ·refine qw 3 rfl (qp rfl (qw 5 rfl (qu rfl (qu rfl (qu rfl (qn rfl (qp rfl (qe rfl ?_))))))))
     exact sn [] h
   ·refine qw 3 rfl (qp rfl (qw 4 rfl (qp rfl (qw 5 rfl (qu rfl (qu rfl (qu rfl (qn rfl (qp rfl (qe rfl ?_))))))))))
    exact sn [] h
  ·refine qw 3 rfl (qp rfl (qw 4 rfl (qp rfl (qw 4 rfl (qp rfl (qw 5 rfl (qu rfl (qu rfl (qu rfl (qn rfl (qp rfl (qe rfl ?_))))))))))))
   exact sn [] h
 ·obtain rfl := sj h
  refine Ae (sm [] [(2, bD v1)] [] rfl rfl) (Ar ?_)
  exact ⟨⟨[_], tm, rfl⟩, tv⟩
theorem HA (N : Nat) (p0 : Aa) (p1 : Ab) (p2 : Ad) (r : Ab × Bool) (h : CF N p0 p1 p2 = some r) : An zA0 62 [.e (.agg (Ah p0)), .e (.agg (AE p1)), .e (.agg (DA p2))] [(1, r.1.fD.map Ak), (1, r.1.fB.map Ak), (1, r.1.fE.map DL)] (.tup [.agg [.own 0, .own 1, .own 2], .one (.pure (.val (.bool r.2)))]) := by
 unfold CF at h
 refine cw (n := 201) (rs := [.cell 6 49, .tmp 7]) Tryz.func62 fun w0 S0 => ?_
 refine wq rfl (qb rfl (qb rfl (qb rfl (qz DG rfl (qa rfl (Ac (wq rfl (Dg Au CK I6 rfl (qf Dd rfl (ql A7 rfl ?_))))))))))
 refine FD h fun c1 h => IC (f := Ak) Au Au CK Ki I6 (fun _ => rfl) c1 rfl (Dg Au CK I6 rfl (qf BK rfl (ql A7 rfl ?_)))
 refine FD h fun c2 h => IC (f := Ak) Au Au CK Ki I6 (fun _ => rfl) c2 rfl (Dg DB EA NB rfl (qf CW rfl (ql HO rfl ?_)))
 refine FD h fun c3 h => IC (f := DL) DB DB EA Qg NB (fun _ => rfl) c3 rfl (Bk DG JL rfl (qz DG rfl (qs AW rfl (AM (by kernel_rfl) (wq rfl (qf FG rfl (ql B1 rfl (qe rfl ?_))))))))
 refine AS h (fun v4 => mk [(6, oD (.ptr 6 0)), (8, oD (.ptr 8 0))] [(6, .box [.pure (.nil0), .pure (.nil0), .pure (.nil0)]), (8, .box [.own 2001, .own 2002, .own 2003]), (2001, .vec 1 (v4.1.map Ak)), (2002, .vec 1 (v4.2.1.map Ak)), (2003, .vec 1 (v4.2.2.map DL))]) (fun j4 h => ?_) (fun v4 h => ?_)
 ·refine wq rfl (qf GA rfl (ql B1 rfl (Ac (AJ (wq rfl (Cf rfl (qe rfl ?_)))))))
  refine Ba h (fun h => ?_) fun h => ?_
  ·refine AL ?_
   refine AS h (fun v6 => mk [(3, oD (.ptr 3 0)), (5, oD (.ptr 5 0)), (6, oD (.ptr 6 0)), (8, oD (.ptr 8 0)), (9, iD p2.fI), (60, bD v6)] [(3, .box (Ah p0)), (5, .box (DA p2)), (6, .box [.pure (.nil0), .pure (.nil0), .pure (.nil0)]), (8, .box [.own 2004, .own 2005, .own 2006]), (2004, .vec 1 (((([] : List Int)) ++ p1.fD).map Ak)), (2005, .vec 1 (((([] : List Int)) ++ p1.fB).map Ak)), (2006, .vec 1 (((([] : List Int)) ++ p1.fE).map DL))]) (fun j6 h => ?_) (fun v6 h => ?_)
   ·refine Ag Av rfl (qf BK rfl (ql A7 rfl (qm rfl ?_)))
    refine BJ h fun v7 a7 b7 h => qi Au CK a7 (Af b7) rfl (qk B1 rfl (EF rfl (qm rfl ?_)))
    refine En 51 h rfl (fun h => ?_) fun h => ?_
    ·refine qw 8 rfl (qp rfl (AM (by kernel_rfl) ?_))
     exact sn [(2004, 18), (2005, 22), (2006, 26)] h
    ·refine qf HZ rfl (ql B1 rfl (qf Dd rfl (ql A7 rfl (qm rfl ?_))))
     refine BJ h fun v9 a9 b9 h => qi Au CK a9 (Af b9) rfl (qk B1 rfl (Cf rfl (qp rfl (AM (by kernel_rfl) ?_))))
     exact sn [(2004, 18), (2005, 22), (2006, 26)] h
   ·refine Ba h (fun h => ?_) fun h => ?_
    ·refine wq rfl (Bk DG JL rfl (qs AW rfl (qe rfl ?_)))
     obtain rfl := sj h
     refine Ae ((Aq 6 0 2007 1 _ rfl rfl rfl rfl).trans ((Aq 6 1 2008 1 _ rfl rfl rfl rfl).trans ((Aq 6 2 2009 1 _ rfl rfl rfl rfl).trans (sm [(1000, 2007), (1001, 2008), (1002, 2009)] [(6, oD (.ptr 6 0)), (7, bD false)] [(6, .box [.own 1000, .own 1001, .own 1002]), (1000, .vec 1 ((([] : List Int)).map Ak)), (1001, .vec 1 ((([] : List Int)).map Ak)), (1002, .vec 1 ((([] : List Int)).map DL))] rfl rfl)))) (Ar ?_)
     exact ⟨⟨[_, _], ⟨.cellN _ _ _ _ _ _ _ rfl rfl Bn AW rfl rfl (JG rfl), tm⟩, rfl⟩, ⟨rfl, rfl, rfl, tv⟩⟩
    ·refine Ai (wq rfl (qf BK rfl (ql A7 rfl (qm rfl (qf HZ rfl (ql B1 rfl ?_))))))
     refine BJ h fun v11 a11 b11 h => qI Au CK a11 (Af b11) rfl ?_
     refine DM rfl rfl rfl rfl (Af b11) rfl CK rfl (Jw rfl) (Dx Ak ((([] : List Int)) ++ p1.fB) _ p2.fO) ?_
     refine Ac (wq rfl (qe rfl ?_))
     refine AC (L := B8 N p0 p2) h (fun v12 => mk [(3, oD (.ptr 3 0)), (5, oD (.ptr 5 0)), (6, oD (.ptr 6 0)), (8, oD (.ptr 8 0)), (9, iD p2.fI), (10, iD v12.2)] [(3, .box (Ah p0)), (5, .box (DA p2)), (6, .box [.pure (.nil0), .pure (.nil0), .pure (.nil0)]), (8, .box [.own 2010, .own 2011, .own 2012]), (2010, .vec 1 (((([] : List Int)) ++ p1.fD).map Ak)), (2011, .vec 1 ((((([] : List Int)) ++ p1.fB).set ((p2.fI).toNat) p2.fO).map Ak)), (2012, .vec 1 (v12.1.map DL))]) (fun v13 => mk [(6, oD (.ptr 6 0)), (8, oD (.ptr 8 0))] [(6, .box [.pure (.nil0), .pure (.nil0), .pure (.nil0)]), (8, .box [.own 2013, .own 2014, .own 2015]), (2013, .vec 1 (((([] : List Int)) ++ p1.fD).map Ak)), (2014, .vec 1 ((((([] : List Int)) ++ p1.fB).set ((p2.fI).toNat) p2.fO).map Ak)), (2015, .vec 1 (v13.map DL))]) (fun _ _ => rfl) (sm [(2010, 2004), (2011, 2005), (2012, 2006)] _ _ rfl rfl) (fun j12 n12 v12 h => ?_) (fun v13 s h hs => ?_)
     ·unfold B8 at h
      refine wp rfl (qm rfl (qf Cj rfl (ql Hp rfl (AI DD rfl (AY rfl (Ac ?_))))))
      refine Ba h (fun h => ?_) fun h => ?_
      ·refine Ai ?_
       refine AS h (fun v15 => mk [(3, oD (.ptr 3 0)), (5, oD (.ptr 5 0)), (6, oD (.ptr 6 0)), (8, oD (.ptr 8 0)), (9, iD p2.fI), (10, iD v12.2)] [(3, .box (Ah p0)), (5, .box (DA p2)), (6, .box [.pure (.nil0), .pure (.nil0), .pure (.nil0)]), (8, .box [.own 2016, .own 2017, .own 2018]), (2016, .vec 1 (((([] : List Int)) ++ p1.fD).map Ak)), (2017, .vec 1 ((((([] : List Int)) ++ p1.fB).set ((p2.fI).toNat) p2.fO).map Ak)), (2018, .vec 1 (v15.map DL))]) (fun j15 h => ?_) (fun v15 h => ?_)
       ·refine AJ ?_
        refine AS h (fun v16 => mk [(3, oD (.ptr 3 0)), (5, oD (.ptr 5 0)), (6, oD (.ptr 6 0)), (8, oD (.ptr 8 0)), (9, iD p2.fI), (10, iD v12.2), (90, bD v16)] [(3, .box (Ah p0)), (5, .box (DA p2)), (6, .box [.pure (.nil0), .pure (.nil0), .pure (.nil0)]), (8, .box [.own 2019, .own 2020, .own 2021]), (2019, .vec 1 (((([] : List Int)) ++ p1.fD).map Ak)), (2020, .vec 1 ((((([] : List Int)) ++ p1.fB).set ((p2.fI).toNat) p2.fO).map Ak)), (2021, .vec 1 (v12.1.map DL))]) (fun j16 h => ?_) (fun v16 h => ?_)
        ·refine Ag Av rfl (qf Cj rfl (ql Hp rfl (qm rfl ?_)))
         refine BJ h fun v17 a17 b17 h => qi DD Du a17 (Af b17) rfl (qg Di rfl (qk B1 rfl (qm rfl (Cf rfl (qm rfl ?_)))))
         refine En 83 h rfl (fun h => ?_) fun h => ?_
         ·refine qf Cj rfl (ql Hp rfl (qm rfl ?_))
          refine BJ h fun v19 a19 b19 h => qi DD Du a19 (Af b19) rfl (qK Ha Du rfl ?_)
          refine BD h fun v20 a20 h => Aw [] (CD N v19 v20 a20) RX rfl (qp rfl (Ac ?_))
          exact sn [(2019, 2010), (2020, 2011), (2021, 2012)] h
         ·refine qw 6 rfl (qp rfl (Ac ?_))
          exact sn [(2019, 2010), (2020, 2011), (2021, 2012)] h
        ·refine Ba h (fun h => ?_) fun h => ?_
         ·refine Ag Av rfl (qf CW rfl (ql HO rfl (qm rfl (qf CW rfl (ql HO rfl (qm rfl ?_))))))
          refine BJ h fun v22 a22 b22 h => qI DB EA a22 (Af b22) rfl (qj Iy (Af b22) rfl (qf HZ rfl (ql B1 rfl ?_)))
          refine FD h fun c23 h => Jo rfl c23 (W7 rfl ?_)
          refine BJ h fun v24 a24 b24 h => qI DB EA a24 (Af b24) rfl ?_
          refine DM rfl rfl rfl rfl (Af b24) rfl EA rfl (Jw rfl) (Dx DL v12.1 _ ((QC .u8 v22 ((D6 .u8 1 p2.fO))))) ?_
          refine AM (by kernel_rfl) ?_
          exact sn [(2016, 2019), (2017, 2020), (2018, 2021)] h
         ·refine Ai ?_
          exact sn [(2016, 2019), (2017, 2020), (2018, 2021)] h
       ·refine Ag Av rfl (qm rfl (A0 rfl (qe rfl ?_)))
        exact sn [(2010, 2016), (2011, 2017), (2012, 2018)] h
      ·refine AU ?_
       exact sn [(2013, 2010), (2014, 2011), (2015, 2012)] h
     ·exact aB _ h (hs.trans (sm [(2001, 2013), (2002, 2014), (2003, 2015)] _ _ rfl rfl))
  ·refine wq rfl (Cf rfl (qe rfl ?_))
   refine Ba h (fun h => ?_) fun h => ?_
   ·refine wp rfl (qf BK rfl (ql A7 rfl (qm rfl ?_)))
    refine BJ h fun v26 a26 b26 h => qi Au CK a26 (Af b26) rfl (qk B1 rfl (AY rfl (Ac ?_)))
    refine Ba h (fun h => ?_) fun h => ?_
    ·refine wq rfl (Bk DG JL rfl (qs AW rfl (qe rfl ?_)))
     obtain rfl := sj h
     refine Ae ((Aq 6 0 2022 1 _ rfl rfl rfl rfl).trans ((Aq 6 1 2023 1 _ rfl rfl rfl rfl).trans ((Aq 6 2 2024 1 _ rfl rfl rfl rfl).trans (sm [(1000, 2022), (1001, 2023), (1002, 2024)] [(6, oD (.ptr 6 0)), (7, bD false)] [(6, .box [.own 1000, .own 1001, .own 1002]), (1000, .vec 1 ((([] : List Int)).map Ak)), (1001, .vec 1 ((([] : List Int)).map Ak)), (1002, .vec 1 ((([] : List Int)).map DL))] rfl rfl)))) (Ar ?_)
     exact ⟨⟨[_, _], ⟨.cellN _ _ _ _ _ _ _ rfl rfl Bn AW rfl rfl (JG rfl), tm⟩, rfl⟩, ⟨rfl, rfl, rfl, tv⟩⟩
    ·refine Ai (Ag Av rfl (qf Dd rfl (ql A7 rfl (qm rfl (qf BK rfl (ql A7 rfl (qm rfl (qf BK rfl (ql A7 rfl (qm rfl ?_))))))))))
     refine BJ h fun v28 a28 b28 h => qi Au CK a28 (Af b28) rfl (qk B1 rfl ?_)
     refine BJ h fun v29 a29 b29 h => qI Au CK a29 (Af b29) rfl ?_
     refine DM rfl rfl rfl rfl (Af b29) rfl CK rfl (Jw rfl) (Dx Ak ((([] : List Int)) ++ p1.fD) _ v28) ?_
     refine BJ h fun v30 a30 b30 h => qI Au CK a30 (Af b30) rfl ?_
     refine DM rfl rfl rfl rfl (Af b30) rfl CK rfl (Jw rfl) (Dx Ak ((([] : List Int)) ++ p1.fB) _ ((-1))) ?_
     refine AM (by kernel_rfl) ?_
     exact sn [(2001, 18), (2002, 22), (2003, 26)] h
   ·refine wq rfl (Cf rfl (qe rfl ?_))
    refine Ba h (fun h => ?_) fun h => ?_
    ·refine wq rfl (qf Cj rfl (ql Hp rfl (qm rfl ?_)))
     refine BJ h fun v32 a32 b32 h => qi DD Du a32 (Af b32) rfl (qK Ha Du rfl (qz Jl rfl (qs Du rfl (Ac (wp rfl (qL Ha Du rfl ?_))))))
     refine BD h fun v33 a33 h => Aw [] (CD N v32 v33 a33) RX rfl (Cp rfl (Ac ?_))
     refine Ba h (fun h => ?_) fun h => ?_
     ·refine wq rfl (Bk DG JL rfl (qs AW rfl (qe rfl ?_)))
      obtain rfl := sj h
      refine Ae ((Aq 6 0 2025 1 _ rfl rfl rfl rfl).trans ((Aq 6 1 2026 1 _ rfl rfl rfl rfl).trans ((Aq 6 2 2027 1 _ rfl rfl rfl rfl).trans (sm [(1000, 2025), (1001, 2026), (1002, 2027)] [(6, oD (.ptr 6 0)), (7, bD false)] [(6, .box [.own 1000, .own 1001, .own 1002]), (1000, .vec 1 ((([] : List Int)).map Ak)), (1001, .vec 1 ((([] : List Int)).map Ak)), (1002, .vec 1 ((([] : List Int)).map DL))] rfl rfl)))) (Ar ?_)
      exact ⟨⟨[_, _], ⟨.cellN _ _ _ _ _ _ _ rfl rfl Bn AW rfl rfl (JG rfl), tm⟩, rfl⟩, ⟨rfl, rfl, rfl, tv⟩⟩
     ·refine Ai (wq rfl (qL Bn AW rfl (qf Di rfl (ql B1 rfl ?_))))
      refine BD h fun v35 a35 h => Aw [] (EH N p1 v32.fF v35 a35) Yo rfl (qa rfl (Ac (wp rfl (qf CW rfl (ql HO rfl (qm rfl ?_))))))
      refine BJ h fun v36 a36 b36 h => qi DB EA a36 (Af b36) rfl (qk Iy rfl (qm rfl (Cf rfl (Ac ?_))))
      refine Ba h (fun h => ?_) fun h => ?_
      ·refine wq rfl (Bk DG JL rfl (qs AW rfl (qe rfl ?_)))
       obtain rfl := sj h
       refine Ae ((Aq 6 0 2028 1 _ rfl rfl rfl rfl).trans ((Aq 6 1 2029 1 _ rfl rfl rfl rfl).trans ((Aq 6 2 2030 1 _ rfl rfl rfl rfl).trans (sm [(1000, 2028), (1001, 2029), (1002, 2030)] [(6, oD (.ptr 6 0)), (7, bD false)] [(6, .box [.own 1000, .own 1001, .own 1002]), (1000, .vec 1 ((([] : List Int)).map Ak)), (1001, .vec 1 ((([] : List Int)).map Ak)), (1002, .vec 1 ((([] : List Int)).map DL))] rfl rfl)))) (Ar ?_)
       exact ⟨⟨[_, _], ⟨.cellN _ _ _ _ _ _ _ rfl rfl Bn AW rfl rfl (JG rfl), tm⟩, rfl⟩, ⟨rfl, rfl, rfl, tv⟩⟩
      ·refine Ai (wp rfl (qe rfl ?_))
       refine AC (L := BP N p0 p1 p2 v32 v35) h (fun v38 => mk [(3, oD (.ptr 3 0)), (4, oD (.ptr 4 0)), (6, oD (.ptr 6 0)), (8, oD (.ptr 8 0)), (9, iD p2.fI), (11, oD (.ptr 11 0)), (12, pD (.val (.int .u8 v35))), (13, iD v38)] [(3, .box (Ah p0)), (4, .box (AE p1)), (6, .box [.pure (.nil0), .pure (.nil0), .pure (.nil0)]), (8, .box [.own 2031, .own 2032, .own 2033]), (11, .box (Bg v32)), (2031, .vec 1 (((([] : List Int)) ++ p1.fD).map Ak)), (2032, .vec 1 (((([] : List Int)) ++ p1.fB).map Ak)), (2033, .vec 1 (((([] : List Int)) ++ p1.fE).map DL))]) (fun v39 => mk [(6, oD (.ptr 6 0)), (8, oD (.ptr 8 0)), (9, iD p2.fI), (12, pD (.val (.int .u8 v35)))] [(6, .box [.pure (.nil0), .pure (.nil0), .pure (.nil0)]), (8, .box [.own 2034, .own 2035, .own 2036]), (2034, .vec 1 (((([] : List Int)) ++ p1.fD).map Ak)), (2035, .vec 1 (((([] : List Int)) ++ p1.fB).map Ak)), (2036, .vec 1 (((([] : List Int)) ++ p1.fE).map DL))]) (fun _ _ => rfl) (sm [(2031, 18), (2032, 22), (2033, 26)] _ _ rfl rfl) (fun j38 n38 v38 h => ?_) (fun v39 s h hs => ?_)
       ·unfold BP at h
        refine wp rfl (qm rfl (qf Bb rfl (ql A7 rfl (qf Di rfl (ql B1 rfl ?_)))))
        refine BJ h fun v40 a40 b40 h => qi Au CK a40 (Af b40) rfl (qk B1 rfl (AY rfl (Ac ?_)))
        refine Ba h (fun h => ?_) fun h => ?_
        ·refine Ai (AL (AJ ?_))
         refine AS h (fun v42 => mk [(3, oD (.ptr 3 0)), (4, oD (.ptr 4 0)), (6, oD (.ptr 6 0)), (8, oD (.ptr 8 0)), (9, iD p2.fI), (11, oD (.ptr 11 0)), (12, pD (.val (.int .u8 v35))), (13, iD v38), (14, bD v42)] [(3, .box (Ah p0)), (4, .box (AE p1)), (6, .box [.pure (.nil0), .pure (.nil0), .pure (.nil0)]), (8, .box [.own 2037, .own 2038, .own 2039]), (11, .box (Bg v32)), (2037, .vec 1 (((([] : List Int)) ++ p1.fD).map Ak)), (2038, .vec 1 (((([] : List Int)) ++ p1.fB).map Ak)), (2039, .vec 1 (((([] : List Int)) ++ p1.fE).map DL))]) (fun j42 h => ?_) (fun v42 h => ?_)
         ·refine Ag Av rfl (qf CW rfl (ql HO rfl (qm rfl ?_)))
          refine BJ h fun v43 a43 b43 h => qi DB EA a43 (Af b43) rfl (qk Iy rfl (qm rfl ?_))
          refine BD h fun v44 a44 h => Aw [] (GZ N v43 v38 v44 a44) YT rfl (qm rfl ?_)
          refine En 166 h rfl (fun h => ?_) fun h => ?_
          ·refine qw 2 rfl ?_
           refine BD h fun v46 a46 h => Aw [] (GZ N v35 v38 v46 a46) YT rfl (Cp rfl (qp rfl (qe rfl ?_)))
           exact sn [(2037, 2031), (2038, 2032), (2039, 2033)] h
          ·refine qw 4 rfl (qp rfl (qe rfl ?_))
           exact sn [(2037, 2031), (2038, 2032), (2039, 2033)] h
         ·refine AS h (fun v47 => mk [(3, oD (.ptr 3 0)), (4, oD (.ptr 4 0)), (6, oD (.ptr 6 0)), (8, oD (.ptr 8 0)), (9, iD p2.fI), (11, oD (.ptr 11 0)), (12, pD (.val (.int .u8 v35))), (13, iD v38), (193, bD v47)] [(3, .box (Ah p0)), (4, .box (AE p1)), (6, .box [.pure (.nil0), .pure (.nil0), .pure (.nil0)]), (8, .box [.own 2040, .own 2041, .own 2042]), (11, .box (Bg v32)), (2040, .vec 1 (((([] : List Int)) ++ p1.fD).map Ak)), (2041, .vec 1 (((([] : List Int)) ++ p1.fB).map Ak)), (2042, .vec 1 (((([] : List Int)) ++ p1.fE).map DL))]) (fun j47 h => ?_) (fun v47 h => ?_)
          ·refine Ag Av rfl (qw 2 rfl ?_)
           refine En 173 h rfl (fun h => ?_) fun h => ?_
           ·refine qf GH rfl (ql B1 rfl (Cf rfl (qp rfl (qm rfl ?_))))
            refine En 178 h rfl (fun h => ?_) fun h => ?_
            ·refine qf FI rfl (ql IL rfl (qm rfl ?_))
             refine BJ h fun v50 a50 b50 h => qi EL Ka a50 (Af b50) rfl (qk O9 rfl (qf Dd rfl (ql A7 rfl (qf Di rfl (ql B1 rfl ?_)))))
             refine BJ h fun v51 a51 b51 h => qi Au CK a51 (Af b51) rfl (qk B1 rfl ?_)
             refine BJ h fun v52 a52 b52 h => qi FC PB a52 (Af b52) rfl (qk Uq rfl (Cp rfl (qp rfl (AM (by kernel_rfl) ?_))))
             exact sn [(2040, 2037), (2041, 2038), (2042, 2039)] h
            ·refine qw 14 rfl (qp rfl (AM (by kernel_rfl) ?_))
             exact sn [(2040, 2037), (2041, 2038), (2042, 2039)] h
           ·refine qw 3 rfl (qp rfl (qw 15 rfl (qp rfl (AM (by kernel_rfl) ?_))))
            exact sn [(2040, 2037), (2041, 2038), (2042, 2039)] h
          ·refine Ba h (fun h => ?_) fun h => ?_
           ·refine wq rfl (Bk DG JL rfl (qs AW rfl (qe rfl ?_)))
            obtain rfl := sj h
            refine Ae ((Aq 6 0 2043 1 _ rfl rfl rfl rfl).trans ((Aq 6 1 2044 1 _ rfl rfl rfl rfl).trans ((Aq 6 2 2045 1 _ rfl rfl rfl rfl).trans (sm [(1000, 2043), (1001, 2044), (1002, 2045)] [(6, oD (.ptr 6 0)), (7, bD false)] [(6, .box [.own 1000, .own 1001, .own 1002]), (1000, .vec 1 ((([] : List Int)).map Ak)), (1001, .vec 1 ((([] : List Int)).map Ak)), (1002, .vec 1 ((([] : List Int)).map DL))] rfl rfl)))) (Ar ?_)
            exact ⟨⟨[_, _], ⟨.cellN _ _ _ _ _ _ _ rfl rfl Bn AW rfl rfl (JG rfl), tm⟩, rfl⟩, ⟨rfl, rfl, rfl, tv⟩⟩
           ·refine Ai (Ag Av rfl (qm rfl (A0 rfl (qe rfl ?_))))
            exact sn [(2031, 2040), (2032, 2041), (2033, 2042)] h
        ·refine AU ?_
         exact sn [(2034, 2031), (2035, 2032), (2036, 2033)] h
       ·refine Ae hs (Ag Av rfl (qf CW rfl (ql HO rfl (qw 2 rfl ?_))))
        refine BJ h fun v54 a54 b54 h => qI DB EA a54 (Af b54) rfl ?_
        refine DM rfl rfl rfl rfl (Af b54) rfl EA rfl (Jw rfl) (Dx DL ((([] : List Int)) ++ p1.fE) _ v35) ?_
        refine Ac ?_
        exact sn [(2001, 2034), (2002, 2035), (2003, 2036)] h
    ·refine wp rfl (qf BK rfl (ql A7 rfl (qm rfl ?_)))
     refine BJ h fun v55 a55 b55 h => qi Au CK a55 (Af b55) rfl (qk B1 rfl (AY rfl (Ac ?_)))
     refine Ba h (fun h => ?_) fun h => ?_
     ·refine wq rfl (Bk DG JL rfl (qs AW rfl (qe rfl ?_)))
      obtain rfl := sj h
      refine Ae ((Aq 6 0 2046 1 _ rfl rfl rfl rfl).trans ((Aq 6 1 2047 1 _ rfl rfl rfl rfl).trans ((Aq 6 2 2048 1 _ rfl rfl rfl rfl).trans (sm [(1000, 2046), (1001, 2047), (1002, 2048)] [(6, oD (.ptr 6 0)), (7, bD false)] [(6, .box [.own 1000, .own 1001, .own 1002]), (1000, .vec 1 ((([] : List Int)).map Ak)), (1001, .vec 1 ((([] : List Int)).map Ak)), (1002, .vec 1 ((([] : List Int)).map DL))] rfl rfl)))) (Ar ?_)
      exact ⟨⟨[_, _], ⟨.cellN _ _ _ _ _ _ _ rfl rfl Bn AW rfl rfl (JG rfl), tm⟩, rfl⟩, ⟨rfl, rfl, rfl, tv⟩⟩
     ·refine Ai (Ag Av rfl (qf BK rfl (ql A7 rfl (qm rfl ?_))))
      refine BJ h fun v57 a57 b57 h => qI Au CK a57 (Af b57) rfl ?_
      refine DM rfl rfl rfl rfl (Af b57) rfl CK rfl (Jw rfl) (Dx Ak ((([] : List Int)) ++ p1.fB) _ ((-1))) ?_
      refine Ac ?_
      exact sn [(2001, 18), (2002, 22), (2003, 26)] h
 ·refine wq rfl (qL Bn AW rfl (qs AW rfl (qe rfl ?_)))
  obtain rfl := sj h
  refine Ae (sm [(1000, 2001), (1001, 2002), (1002, 2003)] [(6, oD (.ptr 6 0)), (7, bD true)] [(6, .box [.own 1000, .own 1001, .own 1002]), (1000, .vec 1 (v4.1.map Ak)), (1001, .vec 1 (v4.2.1.map Ak)), (1002, .vec 1 (v4.2.2.map DL))] rfl rfl) (Ar ?_)
  exact ⟨⟨[_, _], ⟨.cellN _ _ _ _ _ _ _ rfl rfl Bn AW rfl rfl (JG rfl), tm⟩, rfl⟩, ⟨rfl, rfl, rfl, tv⟩⟩
theorem MJ (N : Nat) (p0 : Aa) (p1 : Ab) (p2 : Ad) (r : Ab × Int) (h : E3 N p0 p1 p2 = some r) : An zA0 95 [.e (.agg (Ah p0)), .e (.agg (AE p1)), .e (.agg (DA p2))] [(1, r.1.fD.map Ak), (1, r.1.fB.map Ak), (1, r.1.fE.map DL)] (.tup [.agg [.own 0, .own 1, .own 2], .one (iC r.2)]) := by
 unfold E3 at h
 refine cw (n := 73) (rs := [.cell 6 49, .tmp 7]) Tryz.func95 fun w0 S0 => ?_
 refine wq rfl (qb rfl (qb rfl (qb rfl (qz DG rfl (qa rfl (Ac (wp rfl (qL CO BU rfl (qL Bn AW rfl ?_)))))))))
 refine BD h fun v1 a1 h => Aw [] (MP N p0 p1 v1 a1) eE rfl (qa rfl (Ac (wq rfl (qm rfl (BA rfl (Ac ?_))))))
 refine Ba h (fun h => ?_) fun h => ?_
 ·refine wq rfl (Bk DG JL rfl (qm rfl (qs AW rfl (qe rfl ?_))))
  obtain rfl := sj h
  refine Ae ((Aq 6 0 2001 1 _ rfl rfl rfl rfl).trans ((Aq 6 1 2002 1 _ rfl rfl rfl rfl).trans ((Aq 6 2 2003 1 _ rfl rfl rfl rfl).trans (sm [(1000, 2001), (1001, 2002), (1002, 2003)] [(6, oD (.ptr 6 0)), (7, iD v1)] [(6, .box [.own 1000, .own 1001, .own 1002]), (1000, .vec 1 ((([] : List Int)).map Ak)), (1001, .vec 1 ((([] : List Int)).map Ak)), (1002, .vec 1 ((([] : List Int)).map DL))] rfl rfl)))) (Ar ?_)
  exact ⟨⟨[_, _], ⟨.cellN _ _ _ _ _ _ _ rfl rfl Bn AW rfl rfl (JG rfl), tm⟩, rfl⟩, ⟨rfl, rfl, rfl, tv⟩⟩
 ·refine Ai (wp rfl (qL Jk EE rfl ?_))
  refine BD h fun v3 a3 h => Aw [] (ML N p2 v3 a3) cK rfl (Cp rfl (Ac ?_))
  refine Ba h (fun h => ?_) fun h => ?_
  ·refine wq rfl (Bk DG JL rfl (qs AW rfl (qe rfl ?_)))
   obtain rfl := sj h
   refine Ae ((Aq 6 0 2004 1 _ rfl rfl rfl rfl).trans ((Aq 6 1 2005 1 _ rfl rfl rfl rfl).trans ((Aq 6 2 2006 1 _ rfl rfl rfl rfl).trans (sm [(1000, 2004), (1001, 2005), (1002, 2006)] [(6, oD (.ptr 6 0)), (7, iD 1)] [(6, .box [.own 1000, .own 1001, .own 1002]), (1000, .vec 1 ((([] : List Int)).map Ak)), (1001, .vec 1 ((([] : List Int)).map Ak)), (1002, .vec 1 ((([] : List Int)).map DL))] rfl rfl)))) (Ar ?_)
   exact ⟨⟨[_, _], ⟨.cellN _ _ _ _ _ _ _ rfl rfl Bn AW rfl rfl (JG rfl), tm⟩, rfl⟩, ⟨rfl, rfl, rfl, tv⟩⟩
  ·refine Ai (AL ?_)
   refine AS h (fun v5 => mk [(3, oD (.ptr 3 0)), (4, oD (.ptr 4 0)), (5, oD (.ptr 5 0)), (6, oD (.ptr 6 0)), (45, bD v5)] [(3, .box (Ah p0)), (4, .box (AE p1)), (5, .box (DA p2)), (6, .box [.pure (.nil0), .pure (.nil0), .pure (.nil0)])]) (fun j5 h => ?_) (fun v5 h => ?_)
   ·refine Ag Av rfl (qf GA rfl (ql B1 rfl (Cf rfl (qm rfl ?_))))
    refine En 25 h rfl (fun h => ?_) fun h => ?_
    ·refine qf FG rfl (ql B1 rfl (qf Cj rfl (ql Hp rfl (AI DD rfl (EF rfl (qp rfl (qm rfl ?_)))))))
     refine En 33 h rfl (fun h => ?_) fun h => ?_
     ·refine qw 4 rfl (qu rfl (qu rfl (qu rfl (qu rfl (qu rfl (qu rfl (qn rfl (qp rfl (Ac ?_)))))))))
      exact sn [] h
     ·refine qf GA rfl (ql B1 rfl (BA rfl (qm rfl ?_)))
      refine En 37 h rfl (fun h => ?_) fun h => ?_
      ·refine qf FG rfl (ql B1 rfl (qf Bb rfl (ql A7 rfl (AI Au rfl (EF rfl (qp rfl (qp rfl (Ac ?_))))))))
       exact sn [] h
      ·refine qw 6 rfl (qp rfl (qp rfl (Ac ?_)))
       exact sn [] h
    ·refine qw 6 rfl (qp rfl (qm rfl (qf GA rfl (ql B1 rfl (BA rfl (qm rfl ?_))))))
     refine En 37 h rfl (fun h => ?_) fun h => ?_
     ·refine qf FG rfl (ql B1 rfl (qf Bb rfl (ql A7 rfl (AI Au rfl (EF rfl (qp rfl (qp rfl (Ac ?_))))))))
      exact sn [] h
     ·refine qw 6 rfl (qp rfl (qp rfl (Ac ?_)))
      exact sn [] h
   ·refine Ba h (fun h => ?_) fun h => ?_
    ·refine wq rfl (Bk DG JL rfl (qs AW rfl (qe rfl ?_)))
     obtain rfl := sj h
     refine Ae ((Aq 6 0 2007 1 _ rfl rfl rfl rfl).trans ((Aq 6 1 2008 1 _ rfl rfl rfl rfl).trans ((Aq 6 2 2009 1 _ rfl rfl rfl rfl).trans (sm [(1000, 2007), (1001, 2008), (1002, 2009)] [(6, oD (.ptr 6 0)), (7, iD 4)] [(6, .box [.own 1000, .own 1001, .own 1002]), (1000, .vec 1 ((([] : List Int)).map Ak)), (1001, .vec 1 ((([] : List Int)).map Ak)), (1002, .vec 1 ((([] : List Int)).map DL))] rfl rfl)))) (Ar ?_)
     exact ⟨⟨[_, _], ⟨.cellN _ _ _ _ _ _ _ rfl rfl Bn AW rfl rfl (JG rfl), tm⟩, rfl⟩, ⟨rfl, rfl, rfl, tv⟩⟩
    ·refine Ai (AL ?_)
     refine AS h (fun v11 => mk [(3, oD (.ptr 3 0)), (4, oD (.ptr 4 0)), (5, oD (.ptr 5 0)), (6, oD (.ptr 6 0)), (60, bD v11)] [(3, .box (Ah p0)), (4, .box (AE p1)), (5, .box (DA p2)), (6, .box [.pure (.nil0), .pure (.nil0), .pure (.nil0)])]) (fun j11 h => ?_) (fun v11 h => ?_)
     ·refine Ag Av rfl (qf GA rfl (ql B1 rfl (Cf rfl (qm rfl ?_))))
      refine En 50 h rfl (fun h => ?_) fun h => ?_
      ·refine qf HZ rfl (ql B1 rfl (qf Bb rfl (ql A7 rfl (qf FG rfl (ql B1 rfl ?_)))))
       refine BJ h fun v13 a13 b13 h => qi Au CK a13 (Af b13) rfl (qk B1 rfl (EF rfl (qp rfl (AM (by kernel_rfl) ?_))))
       exact sn [] h
      ·refine qw 9 rfl (qp rfl (AM (by kernel_rfl) ?_))
       exact sn [] h
     ·refine Ba h (fun h => ?_) fun h => ?_
      ·refine wq rfl (Bk DG JL rfl (qs AW rfl (qe rfl ?_)))
       obtain rfl := sj h
       refine Ae ((Aq 6 0 2010 1 _ rfl rfl rfl rfl).trans ((Aq 6 1 2011 1 _ rfl rfl rfl rfl).trans ((Aq 6 2 2012 1 _ rfl rfl rfl rfl).trans (sm [(1000, 2010), (1001, 2011), (1002, 2012)] [(6, oD (.ptr 6 0)), (7, iD 4)] [(6, .box [.own 1000, .own 1001, .own 1002]), (1000, .vec 1 ((([] : List Int)).map Ak)), (1001, .vec 1 ((([] : List Int)).map Ak)), (1002, .vec 1 ((([] : List Int)).map DL))] rfl rfl)))) (Ar ?_)
       exact ⟨⟨[_, _], ⟨.cellN _ _ _ _ _ _ _ rfl rfl Bn AW rfl rfl (JG rfl), tm⟩, rfl⟩, ⟨rfl, rfl, rfl, tv⟩⟩
      ·refine Ai (wq rfl (qL CO BU rfl (qL Bn AW rfl (qL Jk EE rfl ?_))))
       refine BD h fun v15 a15 h => Aw [2013, 2014, 2015] (HA N p0 p1 p2 v15 a15) bE rfl (qm rfl (qx rfl (qx rfl (qz DG rfl (qs AW rfl (qa rfl (Ac (wp rfl (qm rfl (Cp rfl (Ac ?_)))))))))))
       refine Ba h (fun h => ?_) fun h => ?_
       ·refine wq rfl (Bk DG JL rfl (qs AW rfl (qe rfl ?_)))
        obtain rfl := sj h
        refine Ae ((Aq 6 0 2016 1 _ rfl rfl rfl rfl).trans ((Aq 6 1 2017 1 _ rfl rfl rfl rfl).trans ((Aq 6 2 2018 1 _ rfl rfl rfl rfl).trans (sm [(1000, 2016), (1001, 2017), (1002, 2018)] [(6, oD (.ptr 6 0)), (7, iD 11)] [(6, .box [.own 1000, .own 1001, .own 1002]), (1000, .vec 1 ((([] : List Int)).map Ak)), (1001, .vec 1 ((([] : List Int)).map Ak)), (1002, .vec 1 ((([] : List Int)).map DL))] rfl rfl)))) (Ar ?_)
        exact ⟨⟨[_, _], ⟨.cellN _ _ _ _ _ _ _ rfl rfl Bn AW rfl rfl (JG rfl), tm⟩, rfl⟩, ⟨rfl, rfl, rfl, tv⟩⟩
       ·refine Ai (wq rfl (qL Bn AW rfl (qs AW rfl (qe rfl ?_))))
        obtain rfl := sj h
        refine Ae (sm [(1000, 2013), (1001, 2014), (1002, 2015)] [(6, oD (.ptr 6 0)), (7, iD 0)] [(6, .box [.own 1000, .own 1001, .own 1002]), (1000, .vec 1 (v15.1.fD.map Ak)), (1001, .vec 1 (v15.1.fB.map Ak)), (1002, .vec 1 (v15.1.fE.map DL))] rfl rfl) (Ar ?_)
        exact ⟨⟨[_, _], ⟨.cellN _ _ _ _ _ _ _ rfl rfl Bn AW rfl rfl (JG rfl), tm⟩, rfl⟩, ⟨rfl, rfl, rfl, tv⟩⟩
theorem Js (N : Nat) (p0 : Aa) (p1 : Ab) (r : (List Ad)) (h : Eh N p0 p1 = some r) : An zA0 61 [.e (.agg (Ah p0)), .e (.agg (AE p1))] [(3, r.map AG)] (oD (.own 0)) := by
 unfold Eh at h
 refine cw (n := 49) (rs := [.tmp 4]) Tryz.func61 fun w0 S0 => ?_
 refine wq rfl (qb rfl (qb rfl (qa rfl (Ac (wq rfl (qa rfl (Ac (wp rfl (qe rfl ?_)))))))))
 refine AC (L := BE N p0 p1) h (fun v1 => mk [(2, oD (.ptr 2 0)), (3, oD (.ptr 3 0)), (5, oD (.own 2001)), (6, iD v1.2)] [(2, .box (Ah p0)), (3, .box (AE p1)), (2001, .vec 3 (v1.1.map AG))]) (fun v2 => mk [(5, oD (.own 2002))] [(2002, .vec 3 (v2.map AG))]) (fun _ _ => rfl) ((A9 5 2011 3 rfl rfl rfl).trans (sm [(2001, 2011)] _ _ rfl rfl)) (fun j1 n1 v1 h => ?_) (fun v2 s h hs => ?_)
 ·unfold BE at h
  refine wp rfl (qm rfl (VD rfl (Ac ?_)))
  refine Ba h (fun h => ?_) fun h => ?_
  ·refine Ai (AL (AJ (wq rfl (qe rfl ?_))))
   refine AC (L := Cq N p0 p1 v1) h (fun v4 => mk [(2, oD (.ptr 2 0)), (3, oD (.ptr 3 0)), (5, oD (.own 2003)), (6, iD v1.2), (7, iD v4.2)] [(2, .box (Ah p0)), (3, .box (AE p1)), (2003, .vec 3 (v4.1.map AG))]) (fun v5 => mk [(2, oD (.ptr 2 0)), (3, oD (.ptr 3 0)), (5, oD (.own 2004)), (6, iD v1.2)] [(2, .box (Ah p0)), (3, .box (AE p1)), (2004, .vec 3 (v5.map AG))]) (fun _ _ => rfl) (sm [(2003, 2001)] _ _ rfl rfl) (fun j4 n4 v4 h => ?_) (fun v5 s h hs => ?_)
   ·unfold Cq at h
    refine wp rfl (qm rfl (qf Bb rfl (ql A7 rfl (AI Au rfl (qf Cj rfl (ql Hp rfl (AI DD rfl ?_)))))))
    refine dy (.p rfl) rfl rfl ?_
    refine AY rfl (Ac ?_)
    refine Ba h (fun h => ?_) fun h => ?_
    ·refine Ai (AL (AJ (wq rfl (qe rfl ?_))))
     refine AC (L := Ck N p0 p1 v1 v4) h (fun v7 => mk [(2, oD (.ptr 2 0)), (3, oD (.ptr 3 0)), (5, oD (.own 2005)), (6, iD v1.2), (7, iD v4.2), (8, iD v7.2)] [(2, .box (Ah p0)), (3, .box (AE p1)), (2005, .vec 3 (v7.1.map AG))]) (fun v8 => mk [(2, oD (.ptr 2 0)), (3, oD (.ptr 3 0)), (5, oD (.own 2006)), (6, iD v1.2), (7, iD v4.2)] [(2, .box (Ah p0)), (3, .box (AE p1)), (2006, .vec 3 (v8.map AG))]) (fun _ _ => rfl) (sm [(2005, 2003)] _ _ rfl rfl) (fun j7 n7 v7 h => ?_) (fun v8 s h hs => ?_)
     ·unfold Ck at h
      refine wp rfl (qm rfl (AY rfl (Ac ?_)))
      refine Ba h (fun h => ?_) fun h => ?_
      ·refine Ai ?_
       refine AS h (fun v10 => mk [(2, oD (.ptr 2 0)), (3, oD (.ptr 3 0)), (5, oD (.own 2007)), (6, iD v1.2), (7, iD v4.2), (8, iD v7.2)] [(2, .box (Ah p0)), (3, .box (AE p1)), (2007, .vec 3 (v10.map AG))]) (fun j10 h => ?_) (fun v10 h => ?_)
       ·refine AJ (wq rfl (qw 3 rfl (Bk Lq Zf rfl (qz Lq rfl (qs EE rfl (Ac (wq rfl (qL CO BU rfl (qL Bn AW rfl (qL Jk EE rfl ?_))))))))))
        refine BD h fun v11 a11 h => Aw [2008, 2009, 2010] (MJ N p0 p1 ((Ad.mk v1.2 v4.2 v7.2)) v11 a11) fb rfl (qm rfl (qx rfl (qx rfl (qz DG rfl (qs AW rfl (qa rfl (Ac (wq rfl (qm rfl (Cf rfl (Ac ?_)))))))))))
        refine Ba h (fun h => ?_) fun h => ?_
        ·refine Ag Av rfl (qm rfl (qL Jk EE rfl (Dg EG EE Lq rfl ?_)))
         refine FD h fun c13 h => Cu (f := AG) EG EG EE TQ Lq c13 rfl (qe rfl ?_)
         exact sn [(2007, 47)] h
        ·refine Ai ?_
         exact sn [(2007, 2005)] h
       ·refine Ag Av rfl (qm rfl (A0 rfl (qe rfl ?_)))
        exact sn [(2005, 2007)] h
      ·refine AU ?_
       exact sn [(2006, 2005)] h
     ·refine Ae hs (Ag Av rfl (qm rfl (A0 rfl (qe rfl ?_))))
      exact sn [(2003, 2006)] h
    ·refine AU ?_
     exact sn [(2004, 2003)] h
   ·refine Ae hs (Ag Av rfl (qm rfl (A0 rfl (qe rfl ?_))))
    exact sn [(2001, 2004)] h
  ·refine AU ?_
   exact sn [(2002, 2001)] h
 ·refine Ae hs (wq rfl (qm rfl (qe rfl ?_)))
  obtain rfl := sj h
  refine Ae (sm [(1000, 2002)] [(4, oD (.own 1000))] [(1000, .vec 3 (v2.map AG))] rfl rfl) (Ar ?_)
  exact ⟨⟨[_], tm, rfl⟩, ⟨rfl, tv⟩⟩
theorem H4 (N : Nat) (p0 : List Int) (p1 : List Int) (r : Int) (h : DQ N p0 p1 = some r) : An zA0 129 [pD (.sl (p0.map Ak)), pD (.sl (p1.map Ak))] [] (iD r) := by
 unfold DQ at h
 refine cw (n := 46) (rs := [.tmp 4]) Tryz.func129 fun w0 S0 => ?_
 refine wq rfl (qa rfl (Ac (wp rfl (qe rfl ?_))))
 refine AC (L := DK N p0 p1) h (fun v1 => mk [(0, pD (.sl (p0.map Ak))), (1, pD (.sl (p1.map Ak))), (5, iD v1)] []) (fun v2 => mk [(0, pD (.sl (p0.map Ak))), (1, pD (.sl (p1.map Ak)))] []) (fun _ _ => rfl) (sm [] _ _ rfl rfl) (fun j1 n1 v1 h => ?_) (fun v2 s h hs => ?_)
 ·unfold DK at h
  refine AL ?_
  refine AS h (fun v3 => mk [(0, pD (.sl (p0.map Ak))), (1, pD (.sl (p1.map Ak))), (5, iD v1), (15, bD v3)] []) (fun j3 h => ?_) (fun v3 h => ?_)
  ·refine Ag Av rfl (qw 2 rfl (AI Au rfl (AY rfl (qm rfl ?_))))
   refine En 10 h rfl (fun h => ?_) fun h => ?_
   ·refine qw 2 rfl (AI Au rfl (AY rfl (qp rfl (Ac ?_))))
    exact sn [] h
   ·refine qw 4 rfl (qp rfl (Ac ?_))
    exact sn [] h
  ·refine Ba h (fun h => ?_) fun h => ?_
   ·refine Ai (AL (AJ (wp rfl (qw 2 rfl ?_))))
    refine BJ h fun v6 a6 b6 h => qi Au CK a6 (Af b6) rfl (qk B1 rfl (qw 2 rfl ?_))
    refine BJ h fun v7 a7 b7 h => qi Au CK a7 (Af b7) rfl (qk B1 rfl (AY rfl (AM (by kernel_rfl) ?_)))
    refine Ba h (fun h => ?_) fun h => ?_
    ·refine wq rfl (qe rfl ?_)
     obtain rfl := sj h
     refine Ae (sm [] [(4, iD ((-1)))] [] rfl rfl) (Ar ?_)
     exact ⟨⟨[_], tm, rfl⟩, tv⟩
    ·refine Ai (wq rfl (qw 2 rfl ?_))
     refine BJ h fun v9 a9 b9 h => qi Au CK a9 (Af b9) rfl (qk B1 rfl (qw 2 rfl ?_))
     refine BJ h fun v10 a10 b10 h => qi Au CK a10 (Af b10) rfl (qk B1 rfl (Gg rfl (AM (by kernel_rfl) ?_)))
     refine Ba h (fun h => ?_) fun h => ?_
     ·refine wq rfl (qe rfl ?_)
      obtain rfl := sj h
      refine Ae (sm [] [(4, iD 1)] [] rfl rfl) (Ar ?_)
      exact ⟨⟨[_], tm, rfl⟩, tv⟩
     ·refine Ai (Ag Av rfl (qm rfl (A0 rfl (qe rfl ?_))))
      exact sn [] h
   ·refine AU ?_
    exact sn [] h
 ·refine Ae hs (wp rfl (qm rfl (AI Au rfl (qm rfl (AI Au rfl (AY rfl (Ac ?_)))))))
  refine Ba h (fun h => ?_) fun h => ?_
  ·refine wq rfl (qe rfl ?_)
   obtain rfl := sj h
   refine Ae (sm [] [(4, iD ((-1)))] [] rfl rfl) (Ar ?_)
   exact ⟨⟨[_], tm, rfl⟩, tv⟩
  ·refine Ai (wp rfl (qm rfl (AI Au rfl (qm rfl (AI Au rfl (Gg rfl (Ac ?_)))))))
   refine Ba h (fun h => ?_) fun h => ?_
   ·refine wq rfl (qe rfl ?_)
    obtain rfl := sj h
    refine Ae (sm [] [(4, iD 1)] [] rfl rfl) (Ar ?_)
    exact ⟨⟨[_], tm, rfl⟩, tv⟩
   ·refine Ai (wq rfl (qe rfl ?_))
    obtain rfl := sj h
    refine Ae (sm [] [(4, iD 0)] [] rfl rfl) (Ar ?_)
    exact ⟨⟨[_], tm, rfl⟩, tv⟩
theorem IH (N : Nat) (p0 : List Int) (r : (List Int)) (h : DH N p0 = some r) : An zA0 130 [pD (.sl (p0.map DL))] [(1, r.map Ak)] (oD (.own 0)) := by
 unfold DH at h
 refine cw (n := 20) (rs := [.tmp 2]) Tryz.func130 fun w0 S0 => ?_
 refine wq rfl (qa rfl (Ac (wq rfl (qa rfl (Ac (wp rfl (qe rfl ?_)))))))
 refine AC (L := Da N p0) h (fun v1 => mk [(0, pD (.sl (p0.map DL))), (3, oD (.own 2001)), (4, iD v1.2)] [(2001, .vec 1 (v1.1.map Ak))]) (fun v2 => mk [(3, oD (.own 2002))] [(2002, .vec 1 (v2.map Ak))]) (fun _ _ => rfl) ((A9 3 2003 1 rfl rfl rfl).trans (sm [(2001, 2003)] _ _ rfl rfl)) (fun j1 n1 v1 h => ?_) (fun v2 s h hs => ?_)
 ·unfold Da at h
  refine wp rfl (qw 2 rfl (AI DB rfl (AY rfl (Ac ?_))))
  refine Ba h (fun h => ?_) fun h => ?_
  ·refine Ai (AL (AJ (Ag Av rfl (qw 3 rfl ?_))))
   refine BJ h fun v4 a4 b4 h => qi DB EA a4 (Af b4) rfl (qk Iy rfl (Jj cI Xa rfl (Dg Au CK I6 rfl ?_)))
   refine FD h fun c5 h => Cu (f := Ak) Au Au CK Ki I6 c5 rfl (qa rfl (Ac (Ag Av rfl (qm rfl (A0 rfl (qe rfl ?_))))))
   exact sn [(2001, 18)] h
  ·refine AU ?_
   exact sn [(2002, 2001)] h
 ·refine Ae hs (wq rfl (qm rfl (qe rfl ?_)))
  obtain rfl := sj h
  refine Ae (sm [(1000, 2002)] [(2, oD (.own 1000))] [(1000, .vec 1 (v2.map Ak))] rfl rfl) (Ar ?_)
  exact ⟨⟨[_], tm, rfl⟩, ⟨rfl, tv⟩⟩
theorem GY (N : Nat) (p0 : Ab) (p1 : Ab) (r : Int) (h : B3 N p0 p1 = some r) : An zA0 89 [.e (.agg (AE p0)), .e (.agg (AE p1))] [] (iD r) := by
 unfold B3 at h
 refine cw (n := 30) (rs := [.tmp 4]) Tryz.func89 fun w0 S0 => ?_
 refine wq rfl (qb rfl (qb rfl (qa rfl (Ac (wp rfl (qf Dd rfl (ql A7 rfl (qf Dd rfl (ql A7 rfl ?_)))))))))
 refine BD h fun v1 a1 h => Aw [] (H4 N p0.fD p1.fD v1 a1) Xw rfl (qa rfl (Ac (wq rfl (qm rfl (BA rfl (Ac ?_))))))
 refine Ba h (fun h => ?_) fun h => ?_
 ·refine wq rfl (qm rfl (qe rfl ?_))
  obtain rfl := sj h
  refine Ae (sm [] [(4, iD v1)] [] rfl rfl) (Ar ?_)
  exact ⟨⟨[_], tm, rfl⟩, tv⟩
 ·refine Ai (wp rfl (qf BK rfl (ql A7 rfl (qf BK rfl (ql A7 rfl ?_)))))
  refine BD h fun v3 a3 h => Aw [] (H4 N p0.fB p1.fB v3 a3) Xw rfl (qa rfl (Ac (wq rfl (qm rfl (BA rfl (Ac ?_))))))
  refine Ba h (fun h => ?_) fun h => ?_
  ·refine wq rfl (qm rfl (qe rfl ?_))
   obtain rfl := sj h
   refine Ae (sm [] [(4, iD v3)] [] rfl rfl) (Ar ?_)
   exact ⟨⟨[_], tm, rfl⟩, tv⟩
  ·refine Ai (wq rfl (qf CW rfl (ql HO rfl ?_)))
   refine BD h fun v5 a5 h => Aw [2001] (IH N p0.fE v5 a5) ZZ rfl (qf CW rfl (ql HO rfl ?_))
   refine BD h fun v6 a6 h => Aw [2002] (IH N p1.fE v6 a6) ZZ rfl ?_
   refine BD h fun v7 a7 h => Df [] [2001, 2002] (H4 N v5 v6 v7 a7) Xw BO rfl (qa rfl (AM (by kernel_rfl) ?_))
   obtain rfl := sj h
   refine Ae (sm [] [(4, iD v7)] [] rfl rfl) (Ar ?_)
   exact ⟨⟨[_], tm, rfl⟩, tv⟩
theorem MI (N : Nat) (p0 : Ab) (p1 : Ab) (r : Bool) (h : EY N p0 p1 = some r) : An zA0 164 [.e (.agg (AE p0)), .e (.agg (AE p1))] [] (bD r) := by
 unfold EY at h
 refine cw (n := 9) (rs := [.tmp 4]) Tryz.func164 fun w0 S0 => ?_
 refine wq rfl (qb rfl (qb rfl (qa rfl (Ac (wq rfl (qL Bn AW rfl (qL Bn AW rfl ?_)))))))
 refine BD h fun v1 a1 h => Aw [] (GY N p0 p1 v1 a1) aR rfl (Cf rfl (qe rfl ?_))
 obtain rfl := sj h
 refine Ae (sm [] [(4, bD ((v1 == 0)))] [] rfl rfl) (Ar ?_)
 exact ⟨⟨[_], tm, rfl⟩, tv⟩
theorem M5 (N : Nat) (p0 : List AH) (p1 : Ab) (r : Int) (h : Ew N p0 p1 = some r) : An zA0 134 [pD (.sl (p0.map Cw)), .e (.agg (AE p1))] [] (iD r) := by
 unfold Ew at h
 refine cw (n := 20) (rs := [.tmp 4]) Tryz.func134 fun w0 S0 => ?_
 refine wq rfl (qb rfl (qa rfl (Ac (wp rfl (qe rfl ?_)))))
 refine AC (L := CB N p0 p1) h (fun v1 => mk [(0, pD (.sl (p0.map Cw))), (3, oD (.ptr 3 0)), (5, iD v1)] [(3, .box (AE p1))]) (fun v2 => mk [] []) (fun _ _ => rfl) (sm [] _ _ rfl rfl) (fun j1 n1 v1 h => ?_) (fun v2 s h hs => ?_)
 ·unfold CB at h
  refine wp rfl (qw 2 rfl (AI KH rfl (AY rfl (Ac ?_))))
  refine Ba h (fun h => ?_) fun h => ?_
  ·refine Ai (AL (AJ (wq rfl (qw 2 rfl ?_))))
   refine BJ h fun v4 a4 b4 h => qi KH RK a4 (Af b4) rfl (qg Qn rfl (qK Bn AW rfl (qL Bn AW rfl ?_)))
   refine BD h fun v5 a5 h => Aw [] (MI N ((Ab.mk v4.fS.fD v4.fS.fB v4.fS.fE)) p1 v5 a5) dU rfl (AM (by kernel_rfl) ?_)
   refine Ba h (fun h => ?_) fun h => ?_
   ·refine wq rfl (qm rfl (qe rfl ?_))
    obtain rfl := sj h
    refine Ae (sm [] [(4, iD v1)] [] rfl rfl) (Ar ?_)
    exact ⟨⟨[_], tm, rfl⟩, tv⟩
   ·refine Ai (Ag Av rfl (qm rfl (A0 rfl (qe rfl ?_))))
    exact sn [] h
  ·refine AU ?_
   exact sn [] h
 ·refine Ae hs (wq rfl (qe rfl ?_))
  obtain rfl := sj h
  refine Ae (sm [] [(4, iD ((-1)))] [] rfl rfl) (Ar ?_)
  exact ⟨⟨[_], tm, rfl⟩, tv⟩
theorem MB (N : Nat) (p0 : Aa) (p1 : Ab) (p2 : Int) (r : (List AH) × Bool) (h : Ea N p0 p1 p2 = some r) : An zA0 99 [.e (.agg (Ah p0)), .e (.agg (AE p1)), iD p2] [(7, r.1.map Cw)] (.tup [.one (.own 0), .one (.pure (.val (.bool r.2)))]) := by
 unfold Ea at h
 refine cw (n := 74) (rs := [.tmp 6, .tmp 7]) Tryz.func99 fun w0 S0 => ?_
 refine wq rfl (qb rfl (qb rfl (qa rfl (qa rfl (Ac (wq rfl (qL Bn AW rfl (Bk S7 al rfl (Dg KH RK S7 rfl (qa rfl (Ac (wp rfl (qe rfl ?_)))))))))))))
 refine AC (L := BW N p0 p2) h (fun v1 => mk [(2, iD p2), (3, oD (.ptr 3 0)), (8, oD (.own 2001)), (9, iD v1.2)] [(3, .box (Ah p0)), (2001, .vec 7 (v1.1.map Cw))]) (fun v2 => mk [(8, oD (.own 2002))] [(2002, .vec 7 (v2.map Cw))]) (fun _ _ => rfl) (sm [(2001, 16)] _ _ rfl rfl) (fun j1 n1 v1 h => ?_) (fun v2 s h hs => ?_)
 ·unfold BW at h
  refine wp rfl (qw 2 rfl (Et KH rfl (AY rfl (Ac ?_))))
  refine Ba h (fun h => ?_) fun h => ?_
  ·refine Ai (AL (AJ (wq rfl (qL CO BU rfl (qw 2 rfl ?_)))))
   refine BJ h fun v4 a4 b4 h => qI KH RK a4 (Af b4) rfl (qh Qn rfl ?_)
   refine T7 (.p rfl) rfl Bn AW rfl (Af b4) rfl rfl (by decide) ?_
   refine BD h fun v5 a5 h => Aw [2003] (Js N p0 ((Ab.mk v4.fS.fD v4.fS.fB v4.fS.fE)) v5 a5) dK rfl (qa rfl (AM (by kernel_rfl) (wq rfl (qe rfl ?_))))
   refine AC (L := BV N p0 p2 v1 v5) h (fun v6 => mk [(2, iD p2), (3, oD (.ptr 3 0)), (8, oD (.own 2004)), (9, iD v1.2), (10, oD (.own 2005)), (11, iD v6.2)] [(3, .box (Ah p0)), (2004, .vec 7 (v6.1.map Cw)), (2005, .vec 3 (v5.map AG))]) (fun v7 => mk [(2, iD p2), (3, oD (.ptr 3 0)), (8, oD (.own 2006)), (9, iD v1.2)] [(3, .box (Ah p0)), (2006, .vec 7 (v7.map Cw))]) (fun _ _ => rfl) (sm [(2004, 2001), (2005, 2003)] _ _ rfl rfl) (fun j6 n6 v6 h => ?_) (fun v7 s h hs => ?_)
   ·unfold BV at h
    refine wp rfl (qw 2 rfl (Et EG rfl (AY rfl (Ac ?_))))
    refine Ba h (fun h => ?_) fun h => ?_
    ·refine Ai (AL (AJ (wq rfl (qL CO BU rfl (qw 2 rfl ?_)))))
     refine BJ h fun v9 a9 b9 h => qI KH RK a9 (Af b9) rfl (qh Qn rfl ?_)
     refine T7 (.p rfl) rfl Bn AW rfl (Af b9) rfl rfl (by decide) ?_
     refine qw 2 rfl ?_
     refine BJ h fun v10 a10 b10 h => qI EG EE a10 (Af b10) rfl (qJ Jk EE (Af b10) rfl ?_)
     refine BD h fun v11 a11 h => Aw [2007, 2008, 2009] (HA N p0 ((Ab.mk v9.fS.fD v9.fS.fB v9.fS.fE)) v10 v11 a11) bE rfl (qm rfl (qx rfl (qx rfl (qz DG rfl (qs AW rfl (qa rfl (AM (by kernel_rfl) ?_)))))))
     refine AS h (fun v12 => mk [(2, iD p2), (3, oD (.ptr 3 0)), (8, oD (.own 2010)), (9, iD v1.2), (10, oD (.own 2011)), (11, iD v6.2)] [(3, .box (Ah p0)), (2010, .vec 7 (v12.map Cw)), (2011, .vec 3 (v5.map AG))]) (fun j12 h => ?_) (fun v12 h => ?_)
     ·refine AS h (fun v13 => mk [(2, iD p2), (3, oD (.ptr 3 0)), (8, oD (.own 2015)), (9, iD v1.2), (10, oD (.own 2016)), (11, iD v6.2), (12, oD (.ptr 12 0)), (58, bD v13)] [(3, .box (Ah p0)), (12, .box [.own 2012, .own 2013, .own 2014]), (2012, .vec 1 (v11.1.fD.map Ak)), (2013, .vec 1 (v11.1.fB.map Ak)), (2014, .vec 1 (v11.1.fE.map DL)), (2015, .vec 7 (v6.1.map Cw)), (2016, .vec 3 (v5.map AG))]) (fun j13 h => ?_) (fun v13 h => ?_)
      ·refine Ag Av rfl (qL CO BU rfl (qL Bn AW rfl ?_))
       refine BD h fun v14 a14 h => Df [] [2007, 2008, 2009] (Fm N p0 v11.1 v14 a14) ZV BO rfl (qm rfl ?_)
       refine En 53 h rfl (fun h => ?_) fun h => ?_
       ·refine qm rfl (qL Bn AW rfl ?_)
        refine BD h fun v16 a16 h => Df [] [2004, 2007, 2008, 2009] (M5 N v6.1 v11.1 v16 a16) cN BO rfl (AY rfl (qp rfl (Ac ?_)))
        exact sn [(2012, 2007), (2013, 2008), (2014, 2009), (2015, 2004), (2016, 2005)] h
       ·refine qw 4 rfl (qp rfl (Ac ?_))
        exact sn [(2012, 2007), (2013, 2008), (2014, 2009), (2015, 2004), (2016, 2005)] h
      ·refine Ba h (fun h => ?_) fun h => ?_
       ·refine Ae (A4 2012 _ _ rfl rfl) (Ae (A4 2013 _ _ rfl rfl) (Ae (A4 2014 _ _ rfl rfl) (Ag Av rfl (qm rfl (qL Bn AW rfl (qw 3 rfl ?_))))))
        refine BJ h fun v18 a18 b18 h => qI EG EE a18 (Af b18) rfl (qJ Jk EE (Af b18) rfl (Bk S7 al rfl (Dg KH RK S7 rfl ?_)))
        refine FD h fun c19 h => Cu (f := Cw) KH KH RK aT S7 c19 rfl (qa rfl (AM (by kernel_rfl) ?_))
        exact sn [(2010, 68), (2011, 2016)] h
       ·refine Ai ?_
        exact sn [(2010, 2015), (2011, 2016)] h
     ·refine wq rfl (qm rfl (Et KH rfl (qm rfl (Gg rfl (Ac ?_)))))
      refine Ba h (fun h => ?_) fun h => ?_
      ·refine wq rfl (qa rfl (qe rfl ?_))
       obtain rfl := sj h
       refine Ae ((A9 6 2017 7 rfl rfl rfl).trans (sm [(1000, 2017)] [(6, oD (.own 1000)), (7, bD false)] [(1000, .vec 7 ((([] : List AH)).map Cw))] rfl rfl)) (Ar ?_)
       exact ⟨⟨[_, _], ⟨.tmp _ _ rfl, tm⟩, rfl⟩, ⟨rfl, tv⟩⟩
      ·refine Ai (Ag Av rfl (qm rfl (A0 rfl (qe rfl ?_))))
       exact sn [(2004, 2010), (2005, 2011)] h
    ·refine AU ?_
     exact sn [(2006, 2004)] h
   ·refine Ae hs (Ag Av rfl (qm rfl (A0 rfl (qe rfl ?_))))
    exact sn [(2001, 2006)] h
  ·refine AU ?_
   exact sn [(2002, 2001)] h
 ·refine Ae hs (wq rfl (qm rfl (qa rfl (qe rfl ?_))))
  obtain rfl := sj h
  refine Ae (sm [(1000, 2002)] [(6, oD (.own 1000)), (7, bD true)] [(1000, .vec 7 (v2.map Cw))] rfl rfl) (Ar ?_)
  exact ⟨⟨[_, _], ⟨.tmp _ _ rfl, tm⟩, rfl⟩, ⟨rfl, tv⟩⟩
theorem MG (N : Nat) (p0 : Aa) (p1 : Int) (r : Bool) (h : E0 N p0 p1 = some r) : An zA0 68 [.e (.agg (Ah p0)), iD p1] [] (bD r) := by
 unfold E0 at h
 refine cw (n := 30) (rs := [.tmp 4]) Tryz.func68 fun w0 S0 => ?_
 refine wq rfl (qb rfl (qa rfl (Ac (wq rfl (qL CO BU rfl ?_)))))
 refine BD h fun v1 a1 h => Aw [2001, 2002, 2003] (Jz N p0 v1 a1) cg rfl (qm rfl (qx rfl (qx rfl (qz DG rfl (qs AW rfl (qa rfl (Ac (AL ?_))))))))
 refine AS h (fun v2 => mk [(1, iD p1), (2, oD (.ptr 2 0)), (5, oD (.ptr 5 0)), (21, bD v2)] [(2, .box (Ah p0)), (5, .box [.own 2004, .own 2005, .own 2006]), (2004, .vec 1 (v1.1.fD.map Ak)), (2005, .vec 1 (v1.1.fB.map Ak)), (2006, .vec 1 (v1.1.fE.map DL))]) (fun j2 h => ?_) (fun v2 h => ?_)
 ·refine Ag Av rfl (qm rfl (BA rfl (qm rfl ?_)))
  refine En 16 h rfl (fun h => ?_) fun h => ?_
  ·refine qw 4 rfl (qp rfl (Ac ?_))
   exact sn [(2004, 2001), (2005, 2002), (2006, 2003)] h
  ·refine qL CO BU rfl (qL Bn AW rfl ?_)
   refine BD h fun v4 a4 h => Df [] [2001, 2002, 2003] (Fm N p0 v1.1 v4 a4) ZV BO rfl (Cp rfl (qp rfl (Ac ?_)))
   exact sn [(2004, 2001), (2005, 2002), (2006, 2003)] h
 ·refine Ba h (fun h => ?_) fun h => ?_
  ·refine wq rfl (qe rfl ?_)
   obtain rfl := sj h
   refine Ae (sm [] [(4, bD true)] [] rfl rfl) (Ar ?_)
   exact ⟨⟨[_], tm, rfl⟩, tv⟩
  ·refine Ai (wq rfl (qL CO BU rfl (qL Bn AW rfl (qm rfl (CE (A4 2004 _ _ rfl rfl) (CE (A4 2005 _ _ rfl rfl) (CE (A4 2006 _ _ rfl rfl) ?_)))))))
   refine BD h fun v6 a6 h => Aw [2007] (MB N p0 v1.1 p1 v6 a6) eY rfl (qm rfl (qx rfl (qx rfl (qa rfl (qa rfl (Ac (wq rfl (qm rfl (qe rfl ?_)))))))))
   obtain rfl := sj h
   refine Ae (sm [] [(4, bD v6.2)] [] rfl rfl) (Ar ?_)
   exact ⟨⟨[_], tm, rfl⟩, tv⟩
theorem MF (N : Nat) (p0 : Aa) (r : Bool) (h : FW N p0 = some r) : An zA0 36 [.e (.agg (Ah p0))] [] (bD r) := by
 unfold FW at h
 refine cw (n := 40) (rs := [.tmp 2]) Tryz.func36 fun w0 S0 => ?_
 refine wq rfl (qb rfl (qa rfl (Ac (wp rfl (qL CO BU rfl ?_)))))
 refine BD h fun v1 a1 h => Aw [] (Ep N p0 v1 a1) ZH rfl (BA rfl (Ac ?_))
 refine Ba h (fun h => ?_) fun h => ?_
 ·refine wq rfl (qe rfl ?_)
  obtain rfl := sj h
  refine Ae (sm [] [(2, bD true)] [] rfl rfl) (Ar ?_)
  exact ⟨⟨[_], tm, rfl⟩, tv⟩
 ·refine Ai (wp rfl (qf Bb rfl (ql A7 rfl (AI Au rfl (Gg rfl (Ac ?_))))))
  refine Ba h (fun h => ?_) fun h => ?_
  ·refine wq rfl (qe rfl ?_)
   obtain rfl := sj h
   refine Ae (sm [] [(2, bD false)] [] rfl rfl) (Ar ?_)
   exact ⟨⟨[_], tm, rfl⟩, tv⟩
  ·refine Ai (wq rfl (qf Bb rfl (ql A7 rfl (AI Au rfl ?_))))
   refine BD h fun v4 a4 h => Aw [2001] (J6 N ((p0.fA.length : Int)) v4 a4) dw rfl (qa rfl (Ac (wp rfl (qe rfl ?_))))
   refine AC (L := CZ N p0 v4) h (fun v5 => mk [(1, oD (.ptr 1 0)), (3, oD (.own 2002)), (4, iD v5)] [(1, .box (Ah p0)), (2002, .vec 1 (v4.map (FO Ak)))]) (fun v6 => mk [] []) (fun _ _ => rfl) (sm [(2002, 2001)] _ _ rfl rfl) (fun j5 n5 v5 h => ?_) (fun v6 s h hs => ?_)
   ·unfold CZ at h
    refine wp rfl (qw 2 rfl (Et G6 rfl (AY rfl (Ac ?_))))
    refine Ba h (fun h => ?_) fun h => ?_
    ·refine Ai (AL (AJ (wq rfl (qL CO BU rfl (qw 2 rfl ?_)))))
     refine BJ h fun v8 a8 b8 h => qI G6 Ig a8 (Af b8) rfl (qj A7 (Af b8) rfl ?_)
     refine BD h fun v9 a9 h => Aw [2003, 2004, 2005, 2006] (Ir N p0 v8 v9 a9) di rfl (qm rfl (qx rfl (qx rfl (qz Kj rfl (qs BU rfl (qa rfl (AM (by kernel_rfl) ?_)))))))
     refine AS h (fun v10 => mk [(1, oD (.ptr 1 0)), (3, oD (.own 2007)), (4, iD v5), (39, bD v10)] [(1, .box (Ah p0)), (2007, .vec 1 (v4.map (FO Ak)))]) (fun j10 h => ?_) (fun v10 h => ?_)
     ·refine Ag Av rfl (qm rfl (BA rfl (qm rfl ?_)))
      refine En 35 h rfl (fun h => ?_) fun h => ?_
      ·refine qw 3 rfl (qp rfl (Ac ?_))
       exact sn [(2007, 2002)] h
      ·refine qL CO BU rfl ?_
       refine BD h fun v12 a12 h => Df [] [2003, 2004, 2005, 2006] (MG N v9.1 120 v12 a12) fm BO rfl (Cp rfl (qp rfl (Ac ?_)))
       exact sn [(2007, 2002)] h
     ·refine Ba h (fun h => ?_) fun h => ?_
      ·refine wq rfl (qe rfl ?_)
       obtain rfl := sj h
       refine Ae (sm [] [(2, bD false)] [] rfl rfl) (Ar ?_)
       exact ⟨⟨[_], tm, rfl⟩, tv⟩
      ·refine Ai (Ag Av rfl (qm rfl (A0 rfl (qe rfl ?_))))
       exact sn [(2002, 2007)] h
    ·refine AU ?_
     exact sn [] h
   ·refine Ae hs (wq rfl (qe rfl ?_))
    obtain rfl := sj h
    refine Ae (sm [] [(2, bD true)] [] rfl rfl) (Ar ?_)
    exact ⟨⟨[_], tm, rfl⟩, tv⟩
theorem OC (N : Nat) (p0 : BN) (r : Aa × Bool) (h : FU N p0 = some r) : An zA0 10 [.e (.agg (C6 p0))] [(1, r.1.fA.map Ak), (1, r.1.fH.map Ak), (1, r.1.fL.map Ak), (6, r.1.fC.map AO)] (.tup [.agg [.own 0, .own 1, .own 2, .own 3], .one (.pure (.val (.bool r.2)))]) := by
 unfold FU at h
 refine cw (n := 17) (rs := [.cell 2 29, .tmp 3]) Tryz.func10 fun w0 S0 => ?_
 refine wq rfl (qb rfl (qz Kj rfl (qa rfl (Ac (wq rfl (qL dJ cB rfl ?_))))))
 refine BD h fun v1 a1 h => Aw [2001, 2002, 2003, 2004] (Ov N p0 v1 a1) ep rfl (qm rfl (qx rfl (qx rfl (qz Kj rfl (qs BU rfl (qe rfl ?_))))))
 refine AS h (fun v2 => mk [(2, oD (.ptr 2 0)), (3, bD v2)] [(2, .box [.own 2005, .own 2006, .own 2007, .own 2008]), (2005, .vec 1 (v1.1.fA.map Ak)), (2006, .vec 1 (v1.1.fH.map Ak)), (2007, .vec 1 (v1.1.fL.map Ak)), (2008, .vec 6 (v1.1.fC.map AO))]) (fun j2 h => ?_) (fun v2 h => ?_)
 ·refine Ag Av rfl (qL CO BU rfl (qw 2 rfl ?_))
  refine En 13 h rfl (fun h => ?_) fun h => ?_
  ·refine qL CO BU rfl ?_
   refine BD h fun v4 a4 h => Df [] [2001, 2002, 2003, 2004] (MF N v1.1 v4 a4) eJ BO rfl (qp rfl (qs BU rfl (qa rfl (AM (by kernel_rfl) ?_))))
   exact sn [(2005, 2001), (2006, 2002), (2007, 2003), (2008, 2004)] h
  ·refine qw 2 rfl (qp rfl (qs BU rfl (qa rfl (AM (by kernel_rfl) ?_))))
   exact sn [(2005, 2001), (2006, 2002), (2007, 2003), (2008, 2004)] h
 ·obtain rfl := sj h
  refine Ae (sm [(1000, 2005), (1001, 2006), (1002, 2007), (1003, 2008)] [(2, oD (.ptr 2 0)), (3, bD v2)] [(2, .box [.own 1000, .own 1001, .own 1002, .own 1003]), (1000, .vec 1 (v1.1.fA.map Ak)), (1001, .vec 1 (v1.1.fH.map Ak)), (1002, .vec 1 (v1.1.fL.map Ak)), (1003, .vec 6 (v1.1.fC.map AO))] rfl rfl) (Ar ?_)
  exact ⟨⟨[_, _], ⟨.cellN _ _ _ _ _ _ _ rfl rfl CO BU rfl rfl (JG rfl), tm⟩, rfl⟩, ⟨rfl, rfl, rfl, rfl, tv⟩⟩
theorem Id (N : Nat) (r : (List (List Bool))) (h : EU N = some r) : An zA0 69 [] [(1, r.map (FO eB))] (oD (.own 0)) := by
 unfold EU at h
 refine cw (n := 4) (rs := [.tmp 0]) Tryz.func69 fun w0 S0 => ?_
 refine wq rfl (qa rfl (Ac (wq rfl (Dg FC PB Ut rfl (Dg FC PB Ut rfl (CE (A4 1 _ _ rfl rfl) (CE (A4 2 _ _ rfl rfl) (Dg EL Ka UV rfl (qe rfl ?_)))))))))
 obtain rfl := sj h
 refine Ae (sm [(1000, 3)] [(0, oD (.own 1000))] [(1000, .vec 1 ((([([true, false] : List Bool), ([false, true] : List Bool)] : List (List Bool))).map (FO eB)))] rfl rfl) (Ar ?_)
 exact ⟨⟨[_], tm, rfl⟩, ⟨rfl, tv⟩⟩
theorem GW (N : Nat) (p0 : Bool) (r : Aa) (h : Eo N p0 = some r) : An zA0 37 [bD p0] [(1, r.fA.map Ak), (1, r.fH.map Ak), (1, r.fL.map Ak), (6, r.fC.map AO)] (.e (.agg [.own 0, .own 1, .own 2, .own 3])) := by
 unfold Eo at h
 refine cw (n := 17) (rs := [.cell 2 29]) Tryz.func37 fun w0 S0 => ?_
 refine wq rfl (qz Kj rfl (Ac (wq rfl (qa rfl (Ac (wq rfl (Dg Au CK I6 rfl (Dg Au CK I6 rfl (Dg Au CK I6 rfl (qw 2 rfl ?_))))))))))
 refine BD h fun v1 a1 h => Vx (ds0 := []) [2001] (Id N v1 a1) (.p rfl) rfl bY rfl tv rfl rfl rfl (Gx rfl) ⟨rfl, tv⟩ rfl ?_
 refine Bk Jl Zj rfl (qw 2 rfl ?_)
 refine BD h fun v2 a2 h => Vx (ds0 := []) [2002] (Id N v2 a2) (.p rfl) rfl bY rfl tv rfl rfl rfl (Gx rfl) ⟨rfl, tv⟩ rfl ?_
 refine Bk Jl Zj rfl (CE (A4 2001 _ _ rfl rfl) (CE (A4 2002 _ _ rfl rfl) (Dg DD Du Jl rfl (Bk Kj Td rfl (qs BU rfl (Ac ?_))))))
 obtain rfl := sj h
 refine Ae (sm [(1000, 4), (1001, 5), (1002, 6), (1003, 15)] [(2, oD (.ptr 2 0))] [(2, .box [.own 1000, .own 1001, .own 1002, .own 1003]), (1000, .vec 1 ((([2, 2, 2] : List Int)).map Ak)), (1001, .vec 1 ((([0, 0, 0] : List Int)).map Ak)), (1002, .vec 1 ((([1, 1, 1] : List Int)).map Ak)), (1003, .vec 6 ((([(Am.mk 1 0 1 p0 v1 (([] : List (List Bool)))), (Am.mk 1 1 0 p0 v2 (([] : List (List Bool))))] : List Am)).map AO))] rfl rfl) (Ar ?_)
 exact ⟨⟨[_], ⟨.cellN _ _ _ _ _ _ _ rfl rfl CO BU rfl rfl (JG rfl), tv⟩, rfl⟩, ⟨rfl, rfl, rfl, rfl, tv⟩⟩
theorem Hl (N : Nat) (p0 : Int) (p1 : Int) (r : Bool) (h : DF N p0 p1 = some r) : An zA0 70 [iD p0, iD p1] [] (bD r) := by
 unfold DF at h
 refine cw (n := 12) (rs := [.tmp 4]) Tryz.func70 fun w0 S0 => ?_
 refine wq rfl (qe rfl ?_)
 refine AS h (fun v1 => mk [(4, bD v1)] []) (fun j1 h => ?_) (fun v1 h => ?_)
 ·refine Ag Av rfl (qm rfl (EF rfl (qm rfl ?_)))
  refine En 7 h rfl (fun h => ?_) fun h => ?_
  ·refine qw 2 rfl (AY rfl (qp rfl (qe rfl ?_)))
   exact sn [] h
  ·refine qw 3 rfl (qp rfl (qe rfl ?_))
   exact sn [] h
 ·obtain rfl := sj h
  refine Ae (sm [] [(4, bD v1)] [] rfl rfl) (Ar ?_)
  exact ⟨⟨[_], tm, rfl⟩, tv⟩
theorem R3 (N : Nat) (p0 : Int) (p1 : Bool) (r : Bool) (h : HP N p0 p1 = some r) : An zA0 100 [iD p0, bD p1] [] (bD r) := by
 unfold HP at h
 refine cw (n := 23) (rs := [.tmp 4]) Tryz.func100 fun w0 S0 => ?_
 refine wq rfl (qe rfl ?_)
 refine AS h (fun v1 => mk [(4, bD v1)] []) (fun j1 h => ?_) (fun v1 h => ?_)
 ·refine Ag Av rfl (qm rfl (Cf rfl (qm rfl ?_)))
  refine En 7 h rfl (fun h => ?_) fun h => ?_
  ·refine qw 2 rfl (qp rfl (qw 4 rfl (qu rfl (qu rfl (qw 2 rfl (qu rfl (qu rfl (qn rfl (qp rfl (qe rfl ?_))))))))))
   exact sn [] h
  ·refine qm rfl (Cf rfl (qp rfl (qm rfl ?_)))
   refine En 11 h rfl (fun h => ?_) fun h => ?_
   ·refine qw 3 rfl (qu rfl (qu rfl (qw 2 rfl (qu rfl (qu rfl (qn rfl (qp rfl (qe rfl ?_))))))))
    exact sn [] h
   ·refine qm rfl (Cf rfl (qm rfl ?_))
    refine En 14 h rfl (fun h => ?_) fun h => ?_
    ·refine qw 2 rfl (qp rfl (qw 2 rfl (Cp rfl (qp rfl (qp rfl (qe rfl ?_))))))
     exact sn [] h
    ·refine qm rfl (Cf rfl (qp rfl (qm rfl ?_)))
     refine En 18 h rfl (fun h => ?_) fun h => ?_
     ·refine qm rfl (Cp rfl (qp rfl (qp rfl (qe rfl ?_))))
      exact sn [] h
     ·refine qw 2 rfl (qp rfl (qp rfl (qe rfl ?_)))
      exact sn [] h
 ·obtain rfl := sj h
  refine Ae (sm [] [(4, bD v1)] [] rfl rfl) (Ar ?_)
  exact ⟨⟨[_], tm, rfl⟩, tv⟩
theorem Oq (N : Nat) (p0 : List Bool) (p1 : Int) (r : Bool) (h : Eu N p0 p1 = some r) : An zA0 136 [pD (.sl (p0.map eB)), oD (.rop [.val (.int .i64 p1)])] [] (bD r) := by
 unfold Eu at h
 refine cw (n := 8) (rs := [.tmp 3]) Tryz.func136 fun w0 S0 => ?_
 refine wq rfl (qa rfl (Ac (wq rfl (qm rfl (AI FC rfl (qk B1 rfl (BA rfl (qe rfl ?_))))))))
 obtain rfl := sj h
 refine Ae (sm [] [(3, bD (((p0.length : Int) != p1)))] [] rfl rfl) (Ar ?_)
 exact ⟨⟨[_], tm, rfl⟩, tv⟩
theorem Ji (N : Nat) (p0 : List (List Bool)) (p1 : (List Bool) → Option Bool) (r : Int) (h : DT N p0 p1 = some r) : An zA0 165 [pD (.sl (p0.map (FO eB))), oD (.clo (G7 (LE false (FO eB)) tB p1))] [] (iD r) := by
 unfold DT at h
 refine cw (n := 19) (rs := [.tmp 4]) Tryz.func165 fun w0 S0 => ?_
 refine wq rfl (qa rfl (Ac (wp rfl (qm rfl (AI EL rfl (qm rfl (Ac ?_)))))))
 refine AC (L := Bu N p0 p1) h (fun v1 => mk [(0, pD (.sl (p0.map (FO eB)))), (1, oD (.clo (G7 (LE false (FO eB)) tB p1))), (7, iD ((p0.length : Int))), (8, iD v1)] []) (fun v2 => mk [] []) (fun _ _ => rfl) (sm [] _ _ rfl rfl) (fun j1 n1 v1 h => ?_) (fun v2 s h hs => ?_)
 ·unfold Bu at h
  refine wq rfl (AY rfl (Ac (AL ?_)))
  refine Ba h (fun h => ?_) fun h => ?_
  ·refine Ai (AL (AJ (wq rfl (qm rfl (qa rfl (Ac (wq rfl (qw 3 rfl ?_))))))))
   refine BJ h fun v4 a4 b4 h => qi EL Ka a4 (Af b4) rfl (qk O9 rfl ?_)
   refine BD h fun v5 a5 h => JK (ds0 := [_]) (ar := (LE false (FO eB)) v4) (.p rfl) rfl rfl ⟨rfl, tv⟩ rfl rfl rfl (IT (Lh _ _ (dC eZ)) a5) ?_
   refine Ac ?_
   refine Ba h (fun h => ?_) fun h => ?_
   ·refine wq rfl (qm rfl (qe rfl ?_))
    obtain rfl := sj h
    refine Ae (sm [] [(4, iD v1)] [] rfl rfl) (Ar ?_)
    exact ⟨⟨[_], tm, rfl⟩, tv⟩
   ·refine Ai (Ag Av rfl (A0 rfl (qm rfl (Ac ?_))))
    exact sn [] h
  ·refine AU ?_
   exact sn [] h
 ·refine Ae hs (wq rfl (qe rfl ?_))
  obtain rfl := sj h
  refine Ae (sm [] [(4, iD ((-1)))] [] rfl rfl) (Ar ?_)
  exact ⟨⟨[_], tm, rfl⟩, tv⟩
theorem ID (N : Nat) (p0 : List (List Bool)) (p1 : (List Bool) → Option Bool) (r : Bool) (h : Dp N p0 p1 = some r) : An zA0 135 [pD (.sl (p0.map (FO eB))), oD (.clo (G7 (LE false (FO eB)) tB p1))] [] (bD r) := by
 unfold Dp at h
 refine cw (n := 9) (rs := [.tmp 4]) Tryz.func135 fun w0 S0 => ?_
 refine wq rfl (qa rfl (Ac (wq rfl (qw 2 rfl ?_))))
 refine BD h fun v1 a1 h => Aw [] (Ji N p0 p1 v1 a1) cr rfl (EF rfl (qe rfl ?_))
 obtain rfl := sj h
 refine Ae (sm [] [(4, bD ((decide (0 ≤ v1))))] [] rfl rfl) (Ar ?_)
 exact ⟨⟨[_], tm, rfl⟩, tv⟩
theorem LM (N : Nat) (p0 : List (List Bool)) (p1 : Int) (p2 : Int) (r : Bool) (h : FP N p0 p1 p2 = some r) : An zA0 101 [pD (.sl (p0.map (FO eB))), iD p1, iD p2] [] (bD r) := by
 unfold FP at h
 refine cw (n := 17) (rs := [.tmp 6]) Tryz.func101 fun w0 S0 => ?_
 refine wq rfl (qb rfl (qe rfl ?_))
 refine AS h (fun v1 => mk [(6, bD v1)] []) (fun j1 h => ?_) (fun v1 h => ?_)
 ·refine Ag Av rfl (qm rfl (AI EL rfl (qm rfl (Cf rfl (qm rfl ?_)))))
  refine En 11 h rfl (fun h => ?_) fun h => ?_
  ·refine qm rfl (CE (Is 5 [.val (.int .i64 p2)] rfl rfl) ?_)
   refine IQ (capD := [_]) (G7 (LE false (FO eB)) tB ((fun (x : List Bool) => Eu N x p2))) (.g rfl rfl) cP rfl ⟨rfl, tv⟩ rfl (fun ar t ht => by obtain ⟨x, r, rfl, hq, rfl⟩ := Hn ht; exact Oq N x p2 r hq) ?_
   refine BD h fun v3 a3 h => Aw [] (ID N p0 ((fun (x : List Bool) => Eu N x p2)) v3 a3) d9 rfl (Cp rfl (qp rfl (qe rfl ?_)))
   exact sn [] h
  ·refine qw 4 rfl (qp rfl (qe rfl ?_))
   exact sn [] h
 ·obtain rfl := sj h
  refine Ae (sm [] [(6, bD v1)] [] rfl rfl) (Ar ?_)
  exact ⟨⟨[_], tm, rfl⟩, tv⟩
theorem QY (N : Nat) (p0 : Aa) (p1 : Am) (r : Int) (h : Hc N p0 p1 = some r) : An zA0 71 [.e (.agg (Ah p0)), .e (.agg (Bg p1))] [] (iD r) := by
 unfold Hc at h
 refine cw (n := 87) (rs := [.tmp 4]) Tryz.func71 fun w0 S0 => ?_
 refine wq rfl (qb rfl (qb rfl (qa rfl (Ac (wp rfl (qf GH rfl (ql B1 rfl (qf JD rfl (ql Uq rfl ?_)))))))))
 refine BD h fun v1 a1 h => Aw [] (R3 N p1.fG p1.fQ v1 a1) dh rfl (Cp rfl (Ac ?_))
 refine Ba h (fun h => ?_) fun h => ?_
 ·refine wq rfl (qe rfl ?_)
  obtain rfl := sj h
  refine Ae (sm [] [(4, iD 1)] [] rfl rfl) (Ar ?_)
  exact ⟨⟨[_], tm, rfl⟩, tv⟩
 ·refine Ai (AL ?_)
  refine AS h (fun v3 => mk [(2, oD (.ptr 2 0)), (3, oD (.ptr 3 0)), (29, bD v3)] [(2, .box (Ah p0)), (3, .box (Bg p1))]) (fun j3 h => ?_) (fun v3 h => ?_)
  ·refine Ag Av rfl (qf Di rfl (ql B1 rfl (qf Bb rfl (ql A7 rfl (AI Au rfl ?_)))))
   refine BD h fun v4 a4 h => Aw [] (Hl N p1.fF ((p0.fA.length : Int)) v4 a4) W9 rfl (Cp rfl (qm rfl ?_))
   refine En 21 h rfl (fun h => ?_) fun h => ?_
   ·refine qw 7 rfl (qp rfl (Ac ?_))
    exact sn [] h
   ·refine qf HV rfl (ql B1 rfl (qf Bb rfl (ql A7 rfl (AI Au rfl ?_))))
    refine BD h fun v6 a6 h => Aw [] (Hl N p1.fJ ((p0.fA.length : Int)) v6 a6) W9 rfl (Cp rfl (qp rfl (Ac ?_)))
    exact sn [] h
  ·refine Ba h (fun h => ?_) fun h => ?_
   ·refine wq rfl (qe rfl ?_)
    obtain rfl := sj h
    refine Ae (sm [] [(4, iD 4)] [] rfl rfl) (Ar ?_)
    exact ⟨⟨[_], tm, rfl⟩, tv⟩
   ·refine Ai (wq rfl (qf Bb rfl (ql A7 rfl (qf Di rfl (ql B1 rfl ?_)))))
    refine BJ h fun v8 a8 b8 h => qi Au CK a8 (Af b8) rfl (qk B1 rfl (qa rfl (Ac (wq rfl (qf GH rfl (ql B1 rfl (Cf rfl (qa rfl (Ac (AL ?_))))))))))
    refine AS h (fun v9 => mk [(3, oD (.ptr 3 0)), (70, bD v9)] [(3, .box (Bg p1))]) (fun j9 h => ?_) (fun v9 h => ?_)
    ·refine Ag Av rfl (qf Ht rfl (ql IL rfl (qm rfl (qf Bb rfl (ql A7 rfl (qf HV rfl (ql B1 rfl ?_)))))))
     refine BJ h fun v10 a10 b10 h => qi Au CK a10 (Af b10) rfl (qk B1 rfl ?_)
     refine BD h fun v11 a11 h => Aw [] (LM N p1.fP v8 v10 v11 a11) af rfl (Cp rfl (qm rfl ?_))
     refine En 50 h rfl (fun h => ?_) fun h => ?_
     ·refine qw 2 rfl (qu rfl (qu rfl (qu rfl (qu rfl (qu rfl (qu rfl (qn rfl (qp rfl (qw 4 rfl (qu rfl (qu rfl (qu rfl (qu rfl (qn rfl (qp rfl (AM (by kernel_rfl) ?_))))))))))))))))
      exact sn [] h
     ·refine qw 2 rfl ?_
      refine En 52 h rfl (fun h => ?_) fun h => ?_
      ·refine qf FI rfl (ql IL rfl (qw 2 rfl ?_))
       refine BD h fun v14 a14 h => Aw [] (LM N p1.fK v8 v8 v14 a14) af rfl (Cp rfl (qp rfl (qp rfl (qm rfl ?_))))
       refine En 61 h rfl (fun h => ?_) fun h => ?_
       ·refine qw 3 rfl (qu rfl (qu rfl (qu rfl (qu rfl (qn rfl (qp rfl (AM (by kernel_rfl) ?_)))))))
        exact sn [] h
       ·refine qm rfl (Cp rfl (qm rfl ?_))
        refine En 64 h rfl (fun h => ?_) fun h => ?_
        ·refine qf FI rfl (ql IL rfl (AI EL rfl (Gg rfl (qp rfl (qp rfl (AM (by kernel_rfl) ?_))))))
         exact sn [] h
        ·refine qw 4 rfl (qp rfl (qp rfl (AM (by kernel_rfl) ?_)))
         exact sn [] h
      ·refine qw 6 rfl (qp rfl (qp rfl (qw 2 rfl (Cp rfl (qm rfl ?_)))))
       refine En 64 h rfl (fun h => ?_) fun h => ?_
       ·refine qf FI rfl (ql IL rfl (AI EL rfl (Gg rfl (qp rfl (qp rfl (AM (by kernel_rfl) ?_))))))
        exact sn [] h
       ·refine qw 4 rfl (qp rfl (qp rfl (AM (by kernel_rfl) ?_)))
        exact sn [] h
    ·refine Ba h (fun h => ?_) fun h => ?_
     ·refine wq rfl (qe rfl ?_)
      obtain rfl := sj h
      refine Ae (sm [] [(4, iD 6)] [] rfl rfl) (Ar ?_)
      exact ⟨⟨[_], tm, rfl⟩, tv⟩
     ·refine Ai (wp rfl (qf FI rfl (ql IL rfl (AI EL rfl (qm rfl (Ac ?_))))))
      refine AC (L := DE N p1) h (fun v19 => mk [(3, oD (.ptr 3 0)), (73, iD ((p1.fK.length : Int))), (74, iD v19)] [(3, .box (Bg p1))]) (fun v20 => mk [] []) (fun _ _ => rfl) (sm [] _ _ rfl rfl) (fun j19 n19 v19 h => ?_) (fun v20 s h hs => ?_)
      ·unfold DE at h
       refine wq rfl (AY rfl (Ac (AL ?_)))
       refine Ba h (fun h => ?_) fun h => ?_
       ·refine Ai (AL (AJ (wq rfl (qm rfl (qa rfl (Ac (wq rfl (qf FI rfl (ql IL rfl (qm rfl ?_))))))))))
        refine BJ h fun v22 a22 b22 h => qi EL Ka a22 (Af b22) rfl (qk O9 rfl (qm rfl ?_))
        refine BJ h fun v23 a23 b23 h => qi FC PB a23 (Af b23) rfl (qk Uq rfl (Cp rfl (Ac ?_)))
        refine Ba h (fun h => ?_) fun h => ?_
        ·refine wq rfl (qe rfl ?_)
         obtain rfl := sj h
         refine Ae (sm [] [(4, iD 1)] [] rfl rfl) (Ar ?_)
         exact ⟨⟨[_], tm, rfl⟩, tv⟩
        ·refine Ai (Ag Av rfl (A0 rfl (qm rfl (Ac ?_))))
         exact sn [] h
       ·refine AU ?_
        exact sn [] h
      ·refine Ae hs (wq rfl (qe rfl ?_))
       obtain rfl := sj h
       refine Ae (sm [] [(4, iD 0)] [] rfl rfl) (Ar ?_)
       exact ⟨⟨[_], tm, rfl⟩, tv⟩
theorem E7 (N : Nat) (p0 : Aa) (r : Int) (h : Ci N p0 = some r) : An zA0 38 [.e (.agg (Ah p0))] [] (iD r) := by
 unfold Ci at h
 refine cw (n := 81) (rs := [.tmp 2]) Tryz.func38 fun w0 S0 => ?_
 refine wq rfl (qb rfl (qa rfl (Ac (wq rfl (qf Bb rfl (ql A7 rfl (AI Au rfl (qa rfl (Ac (AL ?_))))))))))
 refine AS h (fun v1 => mk [(1, oD (.ptr 1 0)), (3, iD ((p0.fA.length : Int))), (19, bD v1)] [(1, .box (Ah p0))]) (fun j1 h => ?_) (fun v1 h => ?_)
 ·refine Ag Av rfl (qm rfl (Gg rfl (qm rfl ?_)))
  refine En 14 h rfl (fun h => ?_) fun h => ?_
  ·refine qw 4 rfl (qp rfl (Ac ?_))
   exact sn [] h
  ·refine qf Cj rfl (ql Hp rfl (AI DD rfl (Gg rfl (qp rfl (Ac ?_)))))
   exact sn [] h
 ·refine Ba h (fun h => ?_) fun h => ?_
  ·refine wq rfl (qe rfl ?_)
   obtain rfl := sj h
   refine Ae (sm [] [(2, iD 3)] [] rfl rfl) (Ar ?_)
   exact ⟨⟨[_], tm, rfl⟩, tv⟩
  ·refine Ai (AL ?_)
   refine AS h (fun v4 => mk [(1, oD (.ptr 1 0)), (31, bD v4)] [(1, .box (Ah p0))]) (fun j4 h => ?_) (fun v4 h => ?_)
   ·refine Ag Av rfl (qf FH rfl (ql A7 rfl (AI Au rfl (qm rfl (BA rfl (qm rfl ?_))))))
    refine En 25 h rfl (fun h => ?_) fun h => ?_
    ·refine qw 5 rfl (qp rfl (Ac ?_))
     exact sn [] h
    ·refine qf G4 rfl (ql A7 rfl (AI Au rfl (qm rfl (BA rfl (qp rfl (Ac ?_))))))
     exact sn [] h
   ·refine Ba h (fun h => ?_) fun h => ?_
    ·refine wq rfl (qe rfl ?_)
     obtain rfl := sj h
     refine Ae (sm [] [(2, iD 6)] [] rfl rfl) (Ar ?_)
     exact ⟨⟨[_], tm, rfl⟩, tv⟩
    ·refine Ai (wp rfl (qf Bb rfl (ql A7 rfl (AI Au rfl (qm rfl (Ac ?_))))))
     refine AC (L := Cb N p0) h (fun v7 => mk [(1, oD (.ptr 1 0)), (33, pD (.sl (p0.fA.map Ak))), (34, iD ((p0.fA.length : Int))), (35, iD v7)] [(1, .box (Ah p0))]) (fun v8 => mk [(1, oD (.ptr 1 0))] [(1, .box (Ah p0))]) (fun _ _ => rfl) (sm [] _ _ rfl rfl) (fun j7 n7 v7 h => ?_) (fun v8 s h hs => ?_)
     ·unfold Cb at h
      refine wq rfl (AY rfl (Ac (AL ?_)))
      refine Ba h (fun h => ?_) fun h => ?_
      ·refine Ai (AL (AJ (wq rfl (qm rfl ?_))))
       refine BJ h fun v10 a10 b10 h => qi Au CK a10 (Af b10) rfl (qk B1 rfl (qa rfl (qe rfl ?_)))
       refine AS h (fun v11 => mk [(1, oD (.ptr 1 0)), (33, pD (.sl (p0.fA.map Ak))), (34, iD ((p0.fA.length : Int))), (35, iD v7), (65, bD v11)] [(1, .box (Ah p0))]) (fun j11 h => ?_) (fun v11 h => ?_)
       ·refine Ag Av rfl (qm rfl (AY rfl (qm rfl ?_)))
        refine En 42 h rfl (fun h => ?_) fun h => ?_
        ·refine qw 2 rfl (qp rfl (qw 9 rfl (qp rfl (qw 9 rfl (qp rfl (Ac ?_))))))
         exact sn [] h
        ·refine qm rfl (Gg rfl (qp rfl (qm rfl ?_)))
         refine En 46 h rfl (fun h => ?_) fun h => ?_
         ·refine qw 8 rfl (qp rfl (qw 9 rfl (qp rfl (Ac ?_))))
          exact sn [] h
         ·refine qf FH rfl (ql A7 rfl (qm rfl ?_))
          refine BJ h fun v14 a14 b14 h => qi Au CK a14 (Af b14) rfl (qk B1 rfl (qm rfl ?_))
          refine BD h fun v15 a15 h => Aw [] (Hl N v14 v10 v15 a15) W9 rfl (Cp rfl (qp rfl (qm rfl ?_)))
          refine En 56 h rfl (fun h => ?_) fun h => ?_
          ·refine qw 8 rfl (qp rfl (Ac ?_))
           exact sn [] h
          ·refine qf G4 rfl (ql A7 rfl (qm rfl ?_))
           refine BJ h fun v17 a17 b17 h => qi Au CK a17 (Af b17) rfl (qk B1 rfl (qm rfl ?_))
           refine BD h fun v18 a18 h => Aw [] (Hl N v17 v10 v18 a18) W9 rfl (Cp rfl (qp rfl (Ac ?_)))
           exact sn [] h
       ·refine Ba h (fun h => ?_) fun h => ?_
        ·refine wq rfl (qe rfl ?_)
         obtain rfl := sj h
         refine Ae (sm [] [(2, iD 7)] [] rfl rfl) (Ar ?_)
         exact ⟨⟨[_], tm, rfl⟩, tv⟩
        ·refine Ai (Ag Av rfl (A0 rfl (qm rfl (Ac ?_))))
         exact sn [] h
      ·refine AU ?_
       exact sn [] h
     ·refine Ae hs (wp rfl (qf Cj rfl (ql Hp rfl (AI DD rfl (qm rfl (Ac ?_))))))
      refine AC (L := BZ N p0) h (fun v20 => mk [(1, oD (.ptr 1 0)), (68, pD (.sl (p0.fC.map AO))), (69, iD ((p0.fC.length : Int))), (70, iD v20)] [(1, .box (Ah p0))]) (fun v21 => mk [] []) (fun _ _ => rfl) (sm [] _ _ rfl rfl) (fun j20 n20 v20 h => ?_) (fun v21 s h hs => ?_)
      ·unfold BZ at h
       refine wq rfl (AY rfl (Ac (AL ?_)))
       refine Ba h (fun h => ?_) fun h => ?_
       ·refine Ai (AL (AJ (wq rfl ?_)))
        refine BJ h fun v23 a23 b23 h => qi DD Du a23 (Af b23) rfl (qK Ha Du rfl (qz Jl rfl (qs Du rfl (Ac (wq rfl (qL CO BU rfl (qL Ha Du rfl ?_)))))))
        refine BD h fun v24 a24 h => Aw [] (QY N p0 v23 v24 a24) e8 rfl (qa rfl (Ac (wq rfl (qm rfl (BA rfl (Ac ?_))))))
        refine Ba h (fun h => ?_) fun h => ?_
        ·refine wq rfl (qm rfl (qe rfl ?_))
         obtain rfl := sj h
         refine Ae (sm [] [(2, iD v24)] [] rfl rfl) (Ar ?_)
         exact ⟨⟨[_], tm, rfl⟩, tv⟩
        ·refine Ai (Ag Av rfl (A0 rfl (qm rfl (Ac ?_))))
         exact sn [] h
       ·refine AU ?_
        exact sn [] h
      ·refine Ae hs (wq rfl (qe rfl ?_))
       obtain rfl := sj h
       refine Ae (sm [] [(2, iD 0)] [] rfl rfl) (Ar ?_)
       exact ⟨⟨[_], tm, rfl⟩, tv⟩
def aH : Go.Shelf.Ren := ⟨fun | 6 => 77 | 14 => 111 | 15 => 112 | 20 => 140 | 21 => 141 | 22 => 142 | 23 => 143 | 24 => 144 | 25 => 145 | 26 => 146 | 27 => 147 | 28 => 148 | 29 => 149 | 46 => 168 | 47 => 169 | 48 => 170 | 49 => 171 | 50 => 172 | 57 => 179 | n => n, fun | 0 => 0 | 3 => 3 | 4 => 4 | 5 => 5 | 9 => 9 | 22 => 66 | 24 => 71 | 25 => 110 | 39 => 71 | 45 => 173 | 46 => 174 | 50 => 95 | 53 => 145 | 55 => 147 | 66 => 197 | 70 => 201 | 76 => 206 | 77 => 207 | n => n, fun n => n⟩
theorem bj : SlLaysF.n6 zA0 aH := { mixed := Av, f6 := ⟨Tryz.f77.name, by decide, Tryz.func77.trans (congrArg some (by kernel_rfl))⟩, f14 := ⟨Tryz.f111.name, by decide, Tryz.func111.trans (congrArg some (by kernel_rfl))⟩, f15 := Tryz.func112.trans (congrArg some (by kernel_rfl)), f20 := ⟨Tryz.f140.name, by decide, Tryz.func140.trans (congrArg some (by kernel_rfl))⟩, f21 := ⟨Tryz.f141.name, by decide, Tryz.func141.trans (congrArg some (by kernel_rfl))⟩, f22 := ⟨Tryz.f142.name, by decide, Tryz.func142.trans (congrArg some (by kernel_rfl))⟩, f23 := ⟨Tryz.f143.name, by decide, Tryz.func143.trans (congrArg some (by kernel_rfl))⟩, f24 := ⟨Tryz.f144.name, by decide, Tryz.func144.trans (congrArg some (by kernel_rfl))⟩, f25 := ⟨Tryz.f145.name, by decide, Tryz.func145.trans (congrArg some (by kernel_rfl))⟩, f26 := ⟨Tryz.f146.name, by decide, Tryz.func146.trans (congrArg some (by kernel_rfl))⟩, f27 := ⟨Tryz.f147.name, by decide, Tryz.func147.trans (congrArg some (by kernel_rfl))⟩, f28 := Tryz.func148.trans (congrArg some (by kernel_rfl)), f29 := Tryz.func149.trans (congrArg some (by kernel_rfl)), f46 := ⟨Tryz.f168.name, by decide, Tryz.func168.trans (congrArg some (by kernel_rfl))⟩, f47 := Tryz.func169.trans (congrArg some (by kernel_rfl)), f48 := Tryz.func170.trans (congrArg some (by kernel_rfl)), f49 := ⟨Tryz.f171.name, by decide, Tryz.func171.trans (congrArg some (by kernel_rfl))⟩, f50 := ⟨Tryz.f172.name, by decide, Tryz.func172.trans (congrArg some (by kernel_rfl))⟩, f57 := ⟨Tryz.f179.name, by decide, Tryz.func179.trans (congrArg some (by kernel_rfl))⟩, t0 := Tryz.underlying0, a0 := Tryz.isAgg0, z0 := Tryz.sizeOf0, v0 := Tryz.zeroValue0, t3 := Tryz.underlying3, a3 := Tryz.isAgg3, z3 := Tryz.sizeOf3, v3 := Tryz.zeroValue3, t4 := Tryz.underlying4, a4 := Tryz.isAgg4, z4 := Tryz.sizeOf4, v4 := Tryz.zeroValue4, t5 := Tryz.underlying5, a5 := Tryz.isAgg5, z5 := Tryz.sizeOf5, v5 := Tryz.zeroValue5, t9 := Tryz.underlying9, a9 := Tryz.isAgg9, z9 := Tryz.sizeOf9, v9 := Tryz.zeroValue9, t22 := Tryz.underlying66, a22 := Tryz.isAgg66, z22 := Tryz.sizeOf66, v22 := Tryz.zeroValue66, a24 := Tryz.isAgg71, z24 := Tryz.sizeOf71, t25 := Tryz.underlying110, a25 := Tryz.isAgg110, z25 := Tryz.sizeOf110, v25 := Tryz.zeroValue110, t39 := Tryz.underlying71, a39 := Tryz.isAgg71, z39 := Tryz.sizeOf71, v39 := Tryz.zeroValue71, t45 := Tryz.underlying173, a45 := Tryz.isAgg173, z45 := Tryz.sizeOf173, v45 := Tryz.zeroValue173, t46 := Tryz.underlying174, a46 := Tryz.isAgg174, z46 := Tryz.sizeOf174, v46 := Tryz.zeroValue174, t50 := Tryz.underlying95, a50 := Tryz.isAgg95, z50 := Tryz.sizeOf95, v50 := Tryz.zeroValue95, t53 := Tryz.underlying145, a53 := Tryz.isAgg145, z53 := Tryz.sizeOf145, v53 := Tryz.zeroValue145, t55 := Tryz.underlying147, a55 := Tryz.isAgg147, z55 := Tryz.sizeOf147, v55 := Tryz.zeroValue147, t66 := Tryz.underlying197, a66 := Tryz.isAgg197, z66 := Tryz.sizeOf197, v66 := Tryz.zeroValue197, t70 := Tryz.underlying201, a70 := Tryz.isAgg201, z70 := Tryz.sizeOf201, v70 := Tryz.zeroValue201, t76 := Tryz.underlying206, a76 := Tryz.isAgg206, z76 := Tryz.sizeOf206, v76 := Tryz.zeroValue206, t77 := Tryz.underlying207, a77 := Tryz.isAgg207, z77 := Tryz.sizeOf207, v77 := Tryz.zeroValue207 }
theorem JM (N : Nat) (p0 : List Int) (p1 : (Int × Int) → Option Int) (r : List Int) (h : GO N p0 p1 = some r) : EP zA0 77 [oD (.own 90000), oD (.clo (G7 (XH false DO false DO) N7 p1))] [(.vec 1 (p0.map DO), .vec 1 (r.map DO))] [] (.tup []) := Xb bj (t := fun n => .val (.int .u64 n)) (fun _ => rfl) U0 (fun _ _ hh => of_decide_eq_true hh) h
theorem KO (N : Nat) (p0 : Int) (r : Int) (h : Ge N p0 = some r) : An zA0 150 [pD (.val (.int .u32 p0))] [] (iD r) := by
 unfold Ge at h
 refine cw (n := 21) (rs := [.tmp 2]) Tryz.func150 fun w0 S0 => ?_
 refine wq rfl (qa rfl (Ac (wq rfl (qm rfl (GR rfl (by decide) ?_)))))
 refine BD h fun v1 a1 h => K1 (.p rfl) rfl rfl Wd a1 ?_
 refine qm rfl (GR rfl (by decide) (IG rfl ?_))
 refine BD h fun v2 a2 h => K1 (.p rfl) rfl rfl Wd a2 ?_
 refine A0 rfl (qm rfl (GR rfl (by decide) (IG rfl ?_)))
 refine BD h fun v3 a3 h => K1 (.p rfl) rfl rfl Wd a3 ?_
 refine A0 rfl (qm rfl (IG rfl ?_))
 refine BD h fun v4 a4 h => K1 (.p rfl) rfl rfl Wd a4 ?_
 refine A0 rfl (Jj bI Xa rfl (qa rfl (AM (by kernel_rfl) ?_)))
 obtain rfl := sj h
 refine Ae (sm [] [(2, iD ((wI .i64 ((wI .u8 ((wI .u8 ((wI .u8 (v1 + v2)) + v3)) + v4))))))] [] rfl rfl) (Ar ?_)
 exact ⟨⟨[_], tm, rfl⟩, tv⟩
theorem KL (N : Nat) (p0 : Int) (r : Int) (h : F6 N p0 = some r) : An zA0 151 [pD (.val (.int .u64 p0))] [] (iD r) := by
 unfold F6 at h
 refine cw (n := 35) (rs := [.tmp 2]) Tryz.func151 fun w0 S0 => ?_
 refine wq rfl (qa rfl (Ac (wq rfl (qm rfl (GR rfl (by decide) (IG rfl (qm rfl (IG rfl (A0 rfl (qa rfl (Ac (wq rfl (qm rfl (GR rfl (by decide) (IG rfl (qm rfl (IG rfl (A0 rfl (qa rfl (Ac (wq rfl (qm rfl (GR rfl (by decide) (qm rfl (A0 rfl (IG rfl (qa rfl (Ac (wq rfl (qw 2 rfl (GR rfl (by decide) (A0 rfl (qa rfl ?_)))))))))))))))))))))))))))))))))
 refine Ac (wq rfl (qw 2 rfl (GR rfl (by decide) (A0 rfl (qa rfl (Ac (wq rfl (qw 2 rfl (GR rfl (by decide) (A0 rfl (qa rfl (Ac (wq rfl (qm rfl (Jj XA Xa rfl (IG rfl (qe rfl ?_)))))))))))))))))
 obtain rfl := sj h
 refine Ae (sm [] [(2, iD ((AK .i64 ((wI .i64 ((wI .u64 ((wI .u64 ((wI .u64 ((AK .u64 ((wI .u64 ((A2 .u64 ((wI .u64 ((AK .u64 ((A2 .u64 ((wI .u64 ((AK .u64 ((A2 .u64 p0 1)) 6148914691236517205) + (AK .u64 p0 6148914691236517205)))) 2)) 3689348814741910323) + (AK .u64 ((wI .u64 ((AK .u64 ((A2 .u64 p0 1)) 6148914691236517205) + (AK .u64 p0 6148914691236517205)))) 3689348814741910323)))) 4) + (wI .u64 ((AK .u64 ((A2 .u64 ((wI .u64 ((AK .u64 ((A2 .u64 p0 1)) 6148914691236517205) + (AK .u64 p0 6148914691236517205)))) 2)) 3689348814741910323) + (AK .u64 ((wI .u64 ((AK .u64 ((A2 .u64 p0 1)) 6148914691236517205) + (AK .u64 p0 6148914691236517205)))) 3689348814741910323)))))) 1085102592571150095) + (A2 .u64 ((AK .u64 ((wI .u64 ((A2 .u64 ((wI .u64 ((AK .u64 ((A2 .u64 ((wI .u64 ((AK .u64 ((A2 .u64 p0 1)) 6148914691236517205) + (AK .u64 p0 6148914691236517205)))) 2)) 3689348814741910323) + (AK .u64 ((wI .u64 ((AK .u64 ((A2 .u64 p0 1)) 6148914691236517205) + (AK .u64 p0 6148914691236517205)))) 3689348814741910323)))) 4) + (wI .u64 ((AK .u64 ((A2 .u64 ((wI .u64 ((AK .u64 ((A2 .u64 p0 1)) 6148914691236517205) + (AK .u64 p0 6148914691236517205)))) 2)) 3689348814741910323) + (AK .u64 ((wI .u64 ((AK .u64 ((A2 .u64 p0 1)) 6148914691236517205) + (AK .u64 p0 6148914691236517205)))) 3689348814741910323)))))) 1085102592571150095)) 8))) + (A2 .u64 ((wI .u64 ((AK .u64 ((wI .u64 ((A2 .u64 ((wI .u64 ((AK .u64 ((A2 .u64 ((wI .u64 ((AK .u64 ((A2 .u64 p0 1)) 6148914691236517205) + (AK .u64 p0 6148914691236517205)))) 2)) 3689348814741910323) + (AK .u64 ((wI .u64 ((AK .u64 ((A2 .u64 p0 1)) 6148914691236517205) + (AK .u64 p0 6148914691236517205)))) 3689348814741910323)))) 4) + (wI .u64 ((AK .u64 ((A2 .u64 ((wI .u64 ((AK .u64 ((A2 .u64 p0 1)) 6148914691236517205) + (AK .u64 p0 6148914691236517205)))) 2)) 3689348814741910323) + (AK .u64 ((wI .u64 ((AK .u64 ((A2 .u64 p0 1)) 6148914691236517205) + (AK .u64 p0 6148914691236517205)))) 3689348814741910323)))))) 1085102592571150095) + (A2 .u64 ((AK .u64 ((wI .u64 ((A2 .u64 ((wI .u64 ((AK .u64 ((A2 .u64 ((wI .u64 ((AK .u64 ((A2 .u64 p0 1)) 6148914691236517205) + (AK .u64 p0 6148914691236517205)))) 2)) 3689348814741910323) + (AK .u64 ((wI .u64 ((AK .u64 ((A2 .u64 p0 1)) 6148914691236517205) + (AK .u64 p0 6148914691236517205)))) 3689348814741910323)))) 4) + (wI .u64 ((AK .u64 ((A2 .u64 ((wI .u64 ((AK .u64 ((A2 .u64 p0 1)) 6148914691236517205) + (AK .u64 p0 6148914691236517205)))) 2)) 3689348814741910323) + (AK .u64 ((wI .u64 ((AK .u64 ((A2 .u64 p0 1)) 6148914691236517205) + (AK .u64 p0 6148914691236517205)))) 3689348814741910323)))))) 1085102592571150095)) 8)))) 16))) + (A2 .u64 ((wI .u64 ((wI .u64 ((AK .u64 ((wI .u64 ((A2 .u64 ((wI .u64 ((AK .u64 ((A2 .u64 ((wI .u64 ((AK .u64 ((A2 .u64 p0 1)) 6148914691236517205) + (AK .u64 p0 6148914691236517205)))) 2)) 3689348814741910323) + (AK .u64 ((wI .u64 ((AK .u64 ((A2 .u64 p0 1)) 6148914691236517205) + (AK .u64 p0 6148914691236517205)))) 3689348814741910323)))) 4) + (wI .u64 ((AK .u64 ((A2 .u64 ((wI .u64 ((AK .u64 ((A2 .u64 p0 1)) 6148914691236517205) + (AK .u64 p0 6148914691236517205)))) 2)) 3689348814741910323) + (AK .u64 ((wI .u64 ((AK .u64 ((A2 .u64 p0 1)) 6148914691236517205) + (AK .u64 p0 6148914691236517205)))) 3689348814741910323)))))) 1085102592571150095) + (A2 .u64 ((AK .u64 ((wI .u64 ((A2 .u64 ((wI .u64 ((AK .u64 ((A2 .u64 ((wI .u64 ((AK .u64 ((A2 .u64 p0 1)) 6148914691236517205) + (AK .u64 p0 6148914691236517205)))) 2)) 3689348814741910323) + (AK .u64 ((wI .u64 ((AK .u64 ((A2 .u64 p0 1)) 6148914691236517205) + (AK .u64 p0 6148914691236517205)))) 3689348814741910323)))) 4) + (wI .u64 ((AK .u64 ((A2 .u64 ((wI .u64 ((AK .u64 ((A2 .u64 p0 1)) 6148914691236517205) + (AK .u64 p0 6148914691236517205)))) 2)) 3689348814741910323) + (AK .u64 ((wI .u64 ((AK .u64 ((A2 .u64 p0 1)) 6148914691236517205) + (AK .u64 p0 6148914691236517205)))) 3689348814741910323)))))) 1085102592571150095)) 8))) + (A2 .u64 ((wI .u64 ((AK .u64 ((wI .u64 ((A2 .u64 ((wI .u64 ((AK .u64 ((A2 .u64 ((wI .u64 ((AK .u64 ((A2 .u64 p0 1)) 6148914691236517205) + (AK .u64 p0 6148914691236517205)))) 2)) 3689348814741910323) + (AK .u64 ((wI .u64 ((AK .u64 ((A2 .u64 p0 1)) 6148914691236517205) + (AK .u64 p0 6148914691236517205)))) 3689348814741910323)))) 4) + (wI .u64 ((AK .u64 ((A2 .u64 ((wI .u64 ((AK .u64 ((A2 .u64 p0 1)) 6148914691236517205) + (AK .u64 p0 6148914691236517205)))) 2)) 3689348814741910323) + (AK .u64 ((wI .u64 ((AK .u64 ((A2 .u64 p0 1)) 6148914691236517205) + (AK .u64 p0 6148914691236517205)))) 3689348814741910323)))))) 1085102592571150095) + (A2 .u64 ((AK .u64 ((wI .u64 ((A2 .u64 ((wI .u64 ((AK .u64 ((A2 .u64 ((wI .u64 ((AK .u64 ((A2 .u64 p0 1)) 6148914691236517205) + (AK .u64 p0 6148914691236517205)))) 2)) 3689348814741910323) + (AK .u64 ((wI .u64 ((AK .u64 ((A2 .u64 p0 1)) 6148914691236517205) + (AK .u64 p0 6148914691236517205)))) 3689348814741910323)))) 4) + (wI .u64 ((AK .u64 ((A2 .u64 ((wI .u64 ((AK .u64 ((A2 .u64 p0 1)) 6148914691236517205) + (AK .u64 p0 6148914691236517205)))) 2)) 3689348814741910323) + (AK .u64 ((wI .u64 ((AK .u64 ((A2 .u64 p0 1)) 6148914691236517205) + (AK .u64 p0 6148914691236517205)))) 3689348814741910323)))))) 1085102592571150095)) 8)))) 16)))) 32)))))) 127)))] [] rfl rfl) (Ar ?_)
 exact ⟨⟨[_], tm, rfl⟩, tv⟩
theorem IF (N : Nat) (p0 : Int) (r : Int) (h : Fo N p0 = some r) : An zA0 113 [pD (.val (.int .u64 p0))] [] (iD r) := by
 unfold Fo at h
 refine cw (n := 8) (rs := [.tmp 2]) Tryz.func113 fun w0 S0 => ?_
 refine wq rfl (qa rfl (Ac (AL ?_)))
 refine Ba h (fun h => ?_) fun h => ?_
 ·refine wq rfl (qm rfl (Jj Yw SY rfl ?_))
  refine BD h fun v2 a2 h => Aw [] (KO N ((wI .u32 p0)) v2 a2) df rfl (qe rfl ?_)
  obtain rfl := sj h
  refine Ae (sm [] [(2, iD v2)] [] rfl rfl) (Ar ?_)
  exact ⟨⟨[_], tm, rfl⟩, tv⟩
 ·refine Ai (wq rfl (qm rfl ?_))
  refine BD h fun v3 a3 h => Aw [] (KL N p0 v3 a3) dN rfl (qe rfl ?_)
  obtain rfl := sj h
  refine Ae (sm [] [(2, iD v3)] [] rfl rfl) (Ar ?_)
  exact ⟨⟨[_], tm, rfl⟩, tv⟩
def aC : Go.Shelf.Ren := ⟨fun | 27 => 82 | 28 => 115 | 29 => 116 | n => n, fun | 0 => 0 | 3 => 3 | 4 => 4 | 5 => 5 | 22 => 147 | 25 => 71 | 27 => 145 | 53 => 180 | 54 => 181 | n => n, fun | 0 => 0 | 1 => 1 | n => n⟩
theorem aL : Lays7.n27 zA0 aC := { mixed := Av, f27 := Tryz.func82.trans (congrArg some (by kernel_rfl)), f28 := Tryz.func115.trans (congrArg some (by kernel_rfl)), f29 := Tryz.func116.trans (congrArg some (by kernel_rfl)), t0 := Tryz.underlying0, a0 := Tryz.isAgg0, z0 := Tryz.sizeOf0, v0 := Tryz.zeroValue0, i0 := by kernel_rfl, t3 := Tryz.underlying3, a3 := Tryz.isAgg3, z3 := Tryz.sizeOf3, v3 := Tryz.zeroValue3, i3 := by kernel_rfl, t4 := Tryz.underlying4, a4 := Tryz.isAgg4, z4 := Tryz.sizeOf4, v4 := Tryz.zeroValue4, i4 := by kernel_rfl, t5 := Tryz.underlying5, a5 := Tryz.isAgg5, z5 := Tryz.sizeOf5, v5 := Tryz.zeroValue5, i5 := by kernel_rfl, t22 := Tryz.underlying147, a22 := Tryz.isAgg147, z22 := Tryz.sizeOf147, v22 := Tryz.zeroValue147, i22 := by kernel_rfl, t25 := Tryz.underlying71, a25 := Tryz.isAgg71, z25 := Tryz.sizeOf71, v25 := Tryz.zeroValue71, i25 := by kernel_rfl, t27 := Tryz.underlying145, a27 := Tryz.isAgg145, z27 := Tryz.sizeOf145, v27 := Tryz.zeroValue145, i27 := by kernel_rfl, t53 := Tryz.underlying180, a53 := Tryz.isAgg180, z53 := Tryz.sizeOf180, v53 := Tryz.zeroValue180, i53 := by kernel_rfl, t54 := Tryz.underlying181, a54 := Tryz.isAgg181, z54 := Tryz.sizeOf181, g0 := by kernel_rfl, g1 := by kernel_rfl }
theorem Kh (N : Nat) (p0 : Int) (r : Int) (h : Hd N p0 = some r) : An zA0 82 [pD (.val (.int .u64 p0))] [] (iD r) := fp aL (by kernel_rfl) h
theorem Ix (N : Nat) (p0 : Int) (r : (List Int)) (h : FR N p0 = some r) : An zA0 52 [pD (.val (.int .u64 p0))] [(1, r.map Ak)] (oD (.own 0)) := by
 unfold FR at h
 refine cw (n := 18) (rs := [.tmp 2]) Tryz.func52 fun w0 S0 => ?_
 refine wq rfl (qa rfl (Ac (wq rfl (qa rfl (Ac (wp rfl (qm rfl (qe rfl ?_))))))))
 refine AC (L := GD N) h (fun v1 => mk [(3, oD (.own 2001)), (4, pD (.val (.int .u64 v1.2)))] [(2001, .vec 1 (v1.1.map Ak))]) (fun v2 => mk [(3, oD (.own 2002))] [(2002, .vec 1 (v2.map Ak))]) (fun _ _ => rfl) ((A9 3 2003 1 rfl rfl rfl).trans (sm [(2001, 2003)] _ _ rfl rfl)) (fun j1 n1 v1 h => ?_) (fun v2 s h hs => ?_)
 ·unfold GD at h
  refine wp rfl (qm rfl (BA rfl (Ac ?_)))
  refine Ba h (fun h => ?_) fun h => ?_
  ·refine Ai (AL (AJ (Ag Av rfl (qw 2 rfl ?_))))
   refine BD h fun v4 a4 h => Aw [] (Kh N v1.2 v4 a4) eC rfl (Dg Au CK I6 rfl ?_)
   refine FD h fun c5 h => Cu (f := Ak) Au Au CK Ki I6 c5 rfl (qa rfl (Ac (Ag Av rfl (qw 2 rfl (J9 rfl (IG rfl (qe rfl ?_)))))))
   exact sn [(2001, 16)] h
  ·refine AU ?_
   exact sn [(2002, 2001)] h
 ·refine Ae hs (wq rfl (qm rfl (qe rfl ?_)))
  obtain rfl := sj h
  refine Ae (sm [(1000, 2002)] [(2, oD (.own 1000))] [(1000, .vec 1 (v2.map Ak))] rfl rfl) (Ar ?_)
  exact ⟨⟨[_], tm, rfl⟩, ⟨rfl, tv⟩⟩
theorem LC (N : Nat) (p0 : Int) (r : Bool) (h : Gk N p0 = some r) : An zA0 173 [iD p0] [] (bD r) := by
 unfold Gk at h
 refine cw (n := 6) (rs := [.tmp 2]) Tryz.func173 fun w0 S0 => ?_
 refine wq rfl (qa rfl (Ac (wq rfl (qw 2 rfl (BA rfl (qe rfl ?_))))))
 obtain rfl := sj h
 refine Ae (sm [] [(2, bD ((p0 != p0)))] [] rfl rfl) (Ar ?_)
 exact ⟨⟨[_], tm, rfl⟩, tv⟩
theorem Nq (N : Nat) (p0 : Int) (p1 : Int) (r : Int) (h : Fy N p0 p1 = some r) : An zA0 152 [iD p0, iD p1] [] (iD r) := by
 unfold Fy at h
 refine cw (n := 20) (rs := [.tmp 4]) Tryz.func152 fun w0 S0 => ?_
 refine wq rfl (qa rfl (Ac (wq rfl (qm rfl ?_))))
 refine BD h fun v1 a1 h => Aw [] (LC N p0 v1 a1) Z5 rfl (qa rfl (Ac (wq rfl (qm rfl ?_))))
 refine BD h fun v2 a2 h => Aw [] (LC N p1 v2 a2) Z5 rfl (qa rfl (Ac (wp rfl (qm rfl (Ac ?_)))))
 refine Ba h (fun h => ?_) fun h => ?_
 ·refine wp rfl (qm rfl (Ac ?_))
  refine Ba h (fun h => ?_) fun h => ?_
  ·refine wq rfl (qe rfl ?_)
   obtain rfl := sj h
   refine Ae (sm [] [(4, iD 0)] [] rfl rfl) (Ar ?_)
   exact ⟨⟨[_], tm, rfl⟩, tv⟩
  ·refine Ai (wq rfl (qe rfl ?_))
   obtain rfl := sj h
   refine Ae (sm [] [(4, iD ((-1)))] [] rfl rfl) (Ar ?_)
   exact ⟨⟨[_], tm, rfl⟩, tv⟩
 ·refine Ai (wp rfl (qm rfl (Ac ?_)))
  refine Ba h (fun h => ?_) fun h => ?_
  ·refine wq rfl (qe rfl ?_)
   obtain rfl := sj h
   refine Ae (sm [] [(4, iD 1)] [] rfl rfl) (Ar ?_)
   exact ⟨⟨[_], tm, rfl⟩, tv⟩
  ·refine Ai (wp rfl (qw 2 rfl (AY rfl (Ac ?_))))
   refine Ba h (fun h => ?_) fun h => ?_
   ·refine wq rfl (qe rfl ?_)
    obtain rfl := sj h
    refine Ae (sm [] [(4, iD ((-1)))] [] rfl rfl) (Ar ?_)
    exact ⟨⟨[_], tm, rfl⟩, tv⟩
   ·refine Ai (wp rfl (qw 2 rfl (Gg rfl (Ac ?_))))
    refine Ba h (fun h => ?_) fun h => ?_
    ·refine wq rfl (qe rfl ?_)
     obtain rfl := sj h
     refine Ae (sm [] [(4, iD 1)] [] rfl rfl) (Ar ?_)
     exact ⟨⟨[_], tm, rfl⟩, tv⟩
    ·refine Ai (wq rfl (qe rfl ?_))
     obtain rfl := sj h
     refine Ae (sm [] [(4, iD 0)] [] rfl rfl) (Ar ?_)
     exact ⟨⟨[_], tm, rfl⟩, tv⟩
theorem Gd (N : Nat) (p0 : List Int) (p1 : List Int) (r : Int) (h : Cv N p0 p1 = some r) : An zA0 114 [pD (.sl (p0.map Ak)), pD (.sl (p1.map Ak))] [] (iD r) := by
 unfold Cv at h
 refine cw (n := 36) (rs := [.tmp 4]) Tryz.func114 fun w0 S0 => ?_
 refine wq rfl (qa rfl (Ac (wp rfl (qm rfl (AI Au rfl (qm rfl (Ac ?_)))))))
 refine AC (L := Cy N p0 p1) h (fun v1 => mk [(0, pD (.sl (p0.map Ak))), (1, pD (.sl (p1.map Ak))), (9, pD (.sl (p0.map Ak))), (10, iD ((p0.length : Int))), (11, iD v1)] []) (fun v2 => mk [(0, pD (.sl (p0.map Ak))), (1, pD (.sl (p1.map Ak)))] []) (fun _ _ => rfl) (sm [] _ _ rfl rfl) (fun j1 n1 v1 h => ?_) (fun v2 s h hs => ?_)
 ·unfold Cy at h
  refine wq rfl (AY rfl (Ac (AL ?_)))
  refine Ba h (fun h => ?_) fun h => ?_
  ·refine Ai (AL (AJ (wq rfl (qm rfl ?_))))
   refine BJ h fun v4 a4 b4 h => qi Au CK a4 (Af b4) rfl (qk B1 rfl (qa rfl (qa rfl (Ac (wp rfl (qw 2 rfl (AI Au rfl (EF rfl (Ac ?_)))))))))
   refine Ba h (fun h => ?_) fun h => ?_
   ·refine wq rfl (qe rfl ?_)
    obtain rfl := sj h
    refine Ae (sm [] [(4, iD 1)] [] rfl rfl) (Ar ?_)
    exact ⟨⟨[_], tm, rfl⟩, tv⟩
   ·refine Ai (wq rfl (qw 2 rfl ?_))
    refine BJ h fun v6 a6 b6 h => qi Au CK a6 (Af b6) rfl (qk B1 rfl (qa rfl (Ac (wq rfl (qw 2 rfl ?_)))))
    refine BD h fun v7 a7 h => Aw [] (Nq N v4 v6 v7 a7) cc rfl (qa rfl (Ac (wq rfl (qm rfl (BA rfl (Ac ?_))))))
    refine Ba h (fun h => ?_) fun h => ?_
    ·refine wq rfl (qm rfl (qe rfl ?_))
     obtain rfl := sj h
     refine Ae (sm [] [(4, iD v7)] [] rfl rfl) (Ar ?_)
     exact ⟨⟨[_], tm, rfl⟩, tv⟩
    ·refine Ai (Ag Av rfl (A0 rfl (qm rfl (Ac ?_))))
     exact sn [] h
  ·refine AU ?_
   exact sn [] h
 ·refine Ae hs (wp rfl (qm rfl (AI Au rfl (qm rfl (AI Au rfl (AY rfl (Ac ?_)))))))
  refine Ba h (fun h => ?_) fun h => ?_
  ·refine wq rfl (qe rfl ?_)
   obtain rfl := sj h
   refine Ae (sm [] [(4, iD ((-1)))] [] rfl rfl) (Ar ?_)
   exact ⟨⟨[_], tm, rfl⟩, tv⟩
  ·refine Ai (wq rfl (qe rfl ?_))
   obtain rfl := sj h
   refine Ae (sm [] [(4, iD 0)] [] rfl rfl) (Ar ?_)
   exact ⟨⟨[_], tm, rfl⟩, tv⟩
theorem QA (N : Nat) (p0 : Int) (p1 : Int) (r : Int) (h : HW N p0 p1 = some r) : An zA0 78 [pD (.val (.int .u64 p0)), pD (.val (.int .u64 p1))] [] (iD r) := by
 unfold HW at h
 refine cw (n := 19) (rs := [.tmp 4]) Tryz.func78 fun w0 S0 => ?_
 refine wq rfl (qa rfl (Ac (wp rfl (qm rfl ?_))))
 refine BD h fun v1 a1 h => Aw [] (IF N p0 v1 a1) ag rfl (qm rfl ?_)
 refine BD h fun v2 a2 h => Aw [] (IF N p1 v2 a2) ag rfl (J9 rfl (qa rfl (Ac (wq rfl (qm rfl (BA rfl (Ac ?_)))))))
 refine Ba h (fun h => ?_) fun h => ?_
 ·refine wq rfl (qm rfl (qe rfl ?_))
  obtain rfl := sj h
  refine Ae (sm [] [(4, iD ((wI .i64 (v1 - v2))))] [] rfl rfl) (Ar ?_)
  exact ⟨⟨[_], tm, rfl⟩, tv⟩
 ·refine Ai (wq rfl (qm rfl ?_))
  refine BD h fun v4 a4 h => Aw [2001] (Ix N p0 v4 a4) Y1 rfl (qm rfl ?_)
  refine BD h fun v5 a5 h => Aw [2002] (Ix N p1 v5 a5) Y1 rfl ?_
  refine BD h fun v6 a6 h => Df [] [2001, 2002] (Gd N v4 v5 v6 a6) Yf BO rfl (qe rfl ?_)
  obtain rfl := sj h
  refine Ae (sm [] [(4, iD v6)] [] rfl rfl) (Ar ?_)
  exact ⟨⟨[_], tm, rfl⟩, tv⟩
theorem Ij (N : Nat) (p0 : List Int) (p1 : Int) (r : Int) (h : Dv N p0 p1 = some r) : An zA0 72 [pD (.sl (p0.map Ak)), iD p1] [] (iD r) := by
 unfold Dv at h
 refine cw (n := 19) (rs := [.tmp 4]) Tryz.func72 fun w0 S0 => ?_
 refine wq rfl (qa rfl (Ac (wp rfl (qm rfl (AI Au rfl (qm rfl (Ac ?_)))))))
 refine AC (L := BT N p0 p1) h (fun v1 => mk [(0, pD (.sl (p0.map Ak))), (1, iD p1), (7, iD ((p0.length : Int))), (8, iD v1)] []) (fun v2 => mk [] []) (fun _ _ => rfl) (sm [] _ _ rfl rfl) (fun j1 n1 v1 h => ?_) (fun v2 s h hs => ?_)
 ·unfold BT at h
  refine wq rfl (AY rfl (Ac (AL ?_)))
  refine Ba h (fun h => ?_) fun h => ?_
  ·refine Ai (AL (AJ (wq rfl (qm rfl (qa rfl (Ac (wq rfl (qw 3 rfl ?_))))))))
   refine BJ h fun v4 a4 b4 h => qi Au CK a4 (Af b4) rfl (qk B1 rfl (Cf rfl (Ac ?_)))
   refine Ba h (fun h => ?_) fun h => ?_
   ·refine wq rfl (qm rfl (qe rfl ?_))
    obtain rfl := sj h
    refine Ae (sm [] [(4, iD v1)] [] rfl rfl) (Ar ?_)
    exact ⟨⟨[_], tm, rfl⟩, tv⟩
   ·refine Ai (Ag Av rfl (A0 rfl (qm rfl (Ac ?_))))
    exact sn [] h
  ·refine AU ?_
   exact sn [] h
 ·refine Ae hs (wq rfl (qe rfl ?_))
  obtain rfl := sj h
  refine Ae (sm [] [(4, iD ((-1)))] [] rfl rfl) (Ar ?_)
  exact ⟨⟨[_], tm, rfl⟩, tv⟩
theorem HS (N : Nat) (p0 : List (List Bool)) (r : (List (List Bool))) (h : C8 N p0 = some r) : An zA0 102 [pD (.sl (p0.map (FO eB)))] [(1, r.map (FO eB))] (oD (.own 0)) := by
 unfold C8 at h
 refine cw (n := 8) (rs := [.tmp 2]) Tryz.func102 fun w0 S0 => ?_
 refine wq rfl (qa rfl (Ac (wp rfl (qm rfl ?_))))
 refine Nz (.p rfl) rfl EL ?_
 refine Ac ?_
 refine NJ rfl (fun c2 => ?_) ?_
 ·have c2 := zH3.1 c2
  rw [c2] at h
  have h : (some (([] : List (List Bool)))) = some r := h
  refine wq rfl (qe rfl ?_)
  obtain rfl := sj h
  refine Ae ((A9 2 2001 1 rfl rfl rfl).trans (sm [(1000, 2001)] [(2, oD (.own 1000))] [(1000, .vec 1 ((([] : List (List Bool))).map (FO eB)))] rfl rfl)) (Ar ?_)
  exact ⟨⟨[_], tm, rfl⟩, ⟨rfl, tv⟩⟩
 ·refine Ai (wq rfl (Dg EL Ka UV rfl (qm rfl ?_)))
  refine FD h fun c1 h => IC (f := (FO eB)) EL EL Ka X3 UV (fun _ => rfl) c1 rfl (qe rfl ?_)
  obtain rfl := sj h
  refine Ae (sm [(1000, 7)] [(2, oD (.own 1000))] [(1000, .vec 1 (((([] : List (List Bool))) ++ p0).map (FO eB)))] rfl rfl) (Ar ?_)
  exact ⟨⟨[_], tm, rfl⟩, ⟨rfl, tv⟩⟩
theorem Hi (N : Nat) (p0 : List Bool) (r : (List Bool)) (h : CQ N p0 = some r) : An zA0 103 [pD (.sl (p0.map eB))] [(1, r.map eB)] (oD (.own 0)) := by
 unfold CQ at h
 refine cw (n := 8) (rs := [.tmp 2]) Tryz.func103 fun w0 S0 => ?_
 refine wq rfl (qa rfl (Ac (wp rfl (qm rfl ?_))))
 refine Nz (.p rfl) rfl FC ?_
 refine Ac ?_
 refine NJ rfl (fun c2 => ?_) ?_
 ·have c2 := zH3.1 c2
  rw [c2] at h
  have h : (some (([] : List Bool))) = some r := h
  refine wq rfl (qe rfl ?_)
  obtain rfl := sj h
  refine Ae ((A9 2 2001 1 rfl rfl rfl).trans (sm [(1000, 2001)] [(2, oD (.own 1000))] [(1000, .vec 1 ((([] : List Bool)).map eB))] rfl rfl)) (Ar ?_)
  exact ⟨⟨[_], tm, rfl⟩, ⟨rfl, tv⟩⟩
 ·refine Ai (wq rfl (Dg FC PB Ut rfl (qm rfl ?_)))
  refine FD h fun c1 h => IC (f := eB) FC FC PB Xg Ut (fun _ => rfl) c1 rfl (qe rfl ?_)
  obtain rfl := sj h
  refine Ae (sm [(1000, 7)] [(2, oD (.own 1000))] [(1000, .vec 1 (((([] : List Bool)) ++ p0).map eB))] rfl rfl) (Ar ?_)
  exact ⟨⟨[_], tm, rfl⟩, ⟨rfl, tv⟩⟩
theorem Qr (N : Nat) (p0 : Am) (r : Am) (h : GJ N p0 = some r) : An zA0 73 [.e (.agg (Bg p0))] [(1, r.fP.map (FO eB)), (1, r.fK.map (FO eB))] (.e (.agg [iC r.fG, iC r.fF, iC r.fJ, .pure (.val (.bool r.fQ)), .own 0, .own 1])) := by
 unfold GJ at h
 refine cw (n := 48) (rs := [.cell 2 84]) Tryz.func73 fun w0 S0 => ?_
 refine wq rfl (qb rfl (qz Jl rfl (Ac (wq rfl (qf Ht rfl (ql IL rfl ?_))))))
 refine BD h fun v1 a1 h => Aw [2001] (HS N p0.fP v1 a1) az rfl (qf FI rfl (ql IL rfl ?_))
 refine BD h fun v2 a2 h => Aw [2002] (HS N p0.fK v2 a2) az rfl (qf Ht rfl (qs ZQ rfl (qf FI rfl (qs ZQ rfl (AM (by kernel_rfl) (wp rfl (qf Ht rfl (ql IL rfl (Et EL rfl (qm rfl (Ac ?_)))))))))))
 refine AC (L := D7 N v1) h (fun v3 => mk [(1, oD (.ptr 1 0)), (2, oD (.ptr 2 0)), (15, iD ((v1.length : Int))), (16, iD v3.2)] [(1, .box [iC p0.fG, iC p0.fF, iC p0.fJ, .pure (.val (.bool p0.fQ)), .own 2003, .own 2004]), (2, .box [iC 0, iC 0, iC 0, .pure (.val (.bool false)), .pure (.nil0), .pure (.nil0)]), (2003, .vec 1 (v3.1.map (FO eB))), (2004, .vec 1 (v2.map (FO eB)))]) (fun v4 => mk [(1, oD (.ptr 1 0)), (2, oD (.ptr 2 0))] [(1, .box [iC p0.fG, iC p0.fF, iC p0.fJ, .pure (.val (.bool p0.fQ)), .own 2005, .own 2006]), (2, .box [iC 0, iC 0, iC 0, .pure (.val (.bool false)), .pure (.nil0), .pure (.nil0)]), (2005, .vec 1 (v4.map (FO eB))), (2006, .vec 1 (v2.map (FO eB)))]) (fun _ _ => rfl) (sm [(2003, 2001), (2004, 2002)] _ _ rfl rfl) (fun j3 n3 v3 h => ?_) (fun v4 s h hs => ?_)
 ·unfold D7 at h
  refine wq rfl (AY rfl (Ac (AL ?_)))
  refine Ba h (fun h => ?_) fun h => ?_
  ·refine Ai (AL (AJ (wq rfl (qm rfl (qa rfl (Ac (Ag Av rfl (qf Ht rfl (ql IL rfl (qm rfl (qf Ht rfl (ql IL rfl (qm rfl ?_)))))))))))))
   refine BJ h fun v6 a6 b6 h => qI EL Ka a6 (Af b6) rfl (qj O9 (Af b6) rfl ?_)
   refine BD h fun v7 a7 h => Aw [] ((Hi N v6 v7 a7).share rfl) Z1 rfl ?_
   refine BJ h fun v8 a8 b8 h => qI EL Ka a8 (Af b8) rfl ?_
   refine DM rfl rfl rfl rfl (Af b8) rfl Ka rfl (Jw rfl) (Dx (FO eB) v3.1 _ v7) ?_
   refine AM (by kernel_rfl) (Ag Av rfl (A0 rfl (qm rfl (Ac ?_))))
   exact sn [] h
  ·refine AU ?_
   exact sn [(2005, 2003), (2006, 2004)] h
 ·refine Ae hs (wp rfl (qf FI rfl (ql IL rfl (Et EL rfl (qm rfl (Ac ?_))))))
  refine AC (L := De N v2) h (fun v9 => mk [(1, oD (.ptr 1 0)), (2, oD (.ptr 2 0)), (32, iD ((v2.length : Int))), (33, iD v9.2)] [(1, .box [iC p0.fG, iC p0.fF, iC p0.fJ, .pure (.val (.bool p0.fQ)), .own 2007, .own 2008]), (2, .box [iC 0, iC 0, iC 0, .pure (.val (.bool false)), .pure (.nil0), .pure (.nil0)]), (2007, .vec 1 (v4.map (FO eB))), (2008, .vec 1 (v9.1.map (FO eB)))]) (fun v10 => mk [(1, oD (.ptr 1 0)), (2, oD (.ptr 2 0))] [(1, .box [iC p0.fG, iC p0.fF, iC p0.fJ, .pure (.val (.bool p0.fQ)), .own 2009, .own 2010]), (2, .box [iC 0, iC 0, iC 0, .pure (.val (.bool false)), .pure (.nil0), .pure (.nil0)]), (2009, .vec 1 (v4.map (FO eB))), (2010, .vec 1 (v10.map (FO eB)))]) (fun _ _ => rfl) (sm [(2007, 2005), (2008, 2006)] _ _ rfl rfl) (fun j9 n9 v9 h => ?_) (fun v10 s h hs => ?_)
  ·unfold De at h
   refine wq rfl (AY rfl (Ac (AL ?_)))
   refine Ba h (fun h => ?_) fun h => ?_
   ·refine Ai (AL (AJ (wq rfl (qm rfl (qa rfl (Ac (Ag Av rfl (qf FI rfl (ql IL rfl (qm rfl (qf FI rfl (ql IL rfl (qm rfl ?_)))))))))))))
    refine BJ h fun v12 a12 b12 h => qI EL Ka a12 (Af b12) rfl (qj O9 (Af b12) rfl ?_)
    refine BD h fun v13 a13 h => Aw [] ((Hi N v12 v13 a13).share rfl) Z1 rfl ?_
    refine BJ h fun v14 a14 b14 h => qI EL Ka a14 (Af b14) rfl ?_
    refine DM rfl rfl rfl rfl (Af b14) rfl Ka rfl (Jw rfl) (Dx (FO eB) v9.1 _ v13) ?_
    refine AM (by kernel_rfl) (Ag Av rfl (A0 rfl (qm rfl (Ac ?_))))
    exact sn [] h
   ·refine AU ?_
    exact sn [(2009, 2007), (2010, 2008)] h
  ·refine Ae hs (wq rfl (qL Ha Du rfl (qs Du rfl (Ac ?_))))
   obtain rfl := sj h
   refine Ae (sm [(1000, 2009), (1001, 2010)] [(2, oD (.ptr 2 0))] [(2, .box [iC p0.fG, iC p0.fF, iC p0.fJ, .pure (.val (.bool p0.fQ)), .own 1000, .own 1001]), (1000, .vec 1 (v4.map (FO eB))), (1001, .vec 1 (v10.map (FO eB)))] rfl rfl) (Ar ?_)
   exact ⟨⟨[_], ⟨.cellN _ _ _ _ _ _ _ rfl rfl Ha Du rfl rfl (JG rfl), tv⟩, rfl⟩, ⟨rfl, rfl, tv⟩⟩
theorem KU (N : Nat) (p0 : Aa) (p1 : List Int) (r : Aa × Int) (h : Fg N p0 p1 = some r) : An zA0 39 [.e (.agg (Ah p0)), pD (.sl (p1.map Ak))] [(1, r.1.fA.map Ak), (1, r.1.fH.map Ak), (1, r.1.fL.map Ak), (6, r.1.fC.map AO)] (.tup [.agg [.own 0, .own 1, .own 2, .own 3], .one (iC r.2)]) := by
 unfold Fg at h
 refine cw (n := 121) (rs := [.cell 4 29, .tmp 5]) Tryz.func39 fun w0 S0 => ?_
 refine wq rfl (qb rfl (qz Kj rfl (qa rfl (Ac (wp rfl (qL CO BU rfl ?_))))))
 refine BD h fun v1 a1 h => Aw [] (E7 N p0 v1 a1) Xo rfl (qa rfl (Ac (wq rfl (qm rfl (BA rfl (Ac ?_))))))
 refine Ba h (fun h => ?_) fun h => ?_
 ·refine wq rfl (Bk Kj Td rfl (qm rfl (qs BU rfl (qe rfl ?_))))
  obtain rfl := sj h
  refine Ae ((Aq 4 0 2001 1 _ rfl rfl rfl rfl).trans ((Aq 4 1 2002 1 _ rfl rfl rfl rfl).trans ((Aq 4 2 2003 1 _ rfl rfl rfl rfl).trans ((Aq 4 3 2004 6 _ rfl rfl rfl rfl).trans (sm [(1000, 2001), (1001, 2002), (1002, 2003), (1003, 2004)] [(4, oD (.ptr 4 0)), (5, iD v1)] [(4, .box [.own 1000, .own 1001, .own 1002, .own 1003]), (1000, .vec 1 ((([] : List Int)).map Ak)), (1001, .vec 1 ((([] : List Int)).map Ak)), (1002, .vec 1 ((([] : List Int)).map Ak)), (1003, .vec 6 ((([] : List Am)).map AO))] rfl rfl))))) (Ar ?_)
  exact ⟨⟨[_, _], ⟨.cellN _ _ _ _ _ _ _ rfl rfl CO BU rfl rfl (JG rfl), tm⟩, rfl⟩, ⟨rfl, rfl, rfl, rfl, tv⟩⟩
 ·refine Ai (wp rfl (qm rfl (AI Au rfl (qm rfl (Ac ?_)))))
  refine AC (L := CH N p1) h (fun v3 => mk [(1, pD (.sl (p1.map Ak))), (2, oD (.ptr 2 0)), (4, oD (.ptr 4 0)), (22, iD ((p1.length : Int))), (23, iD v3)] [(2, .box (Ah p0)), (4, .box [.pure (.nil0), .pure (.nil0), .pure (.nil0), .pure (.nil0)])]) (fun v4 => mk [(1, pD (.sl (p1.map Ak))), (2, oD (.ptr 2 0)), (4, oD (.ptr 4 0))] [(2, .box (Ah p0)), (4, .box [.pure (.nil0), .pure (.nil0), .pure (.nil0), .pure (.nil0)])]) (fun _ _ => rfl) (sm [] _ _ rfl rfl) (fun j3 n3 v3 h => ?_) (fun v4 s h hs => ?_)
  ·unfold CH at h
   refine wq rfl (AY rfl (Ac (AL ?_)))
   refine Ba h (fun h => ?_) fun h => ?_
   ·refine Ai (AL (AJ (wq rfl (qm rfl (qe rfl ?_)))))
    refine AS h (fun v6 => mk [(1, pD (.sl (p1.map Ak))), (2, oD (.ptr 2 0)), (4, oD (.ptr 4 0)), (22, iD ((p1.length : Int))), (23, iD v3), (39, bD v6)] [(2, .box (Ah p0)), (4, .box [.pure (.nil0), .pure (.nil0), .pure (.nil0), .pure (.nil0)])]) (fun j6 h => ?_) (fun v6 h => ?_)
    ·refine Ag Av rfl (qm rfl (Gg rfl (qm rfl ?_)))
     refine En 28 h rfl (fun h => ?_) fun h => ?_
     ·refine qw 2 rfl ?_
      refine BJ h fun v8 a8 b8 h => qi Au CK a8 (Af b8) rfl (qk B1 rfl (qw 2 rfl (J9 rfl ?_)))
      refine BJ h fun v9 a9 b9 h => qi Au CK a9 (Af b9) rfl (qk B1 rfl (VD rfl (qp rfl (AM (by kernel_rfl) ?_))))
      exact sn [] h
     ·refine qw 10 rfl (qp rfl (AM (by kernel_rfl) ?_))
      exact sn [] h
    ·refine Ba h (fun h => ?_) fun h => ?_
     ·refine wq rfl (Bk Kj Td rfl (qs BU rfl (qe rfl ?_)))
      obtain rfl := sj h
      refine Ae ((Aq 4 0 2005 1 _ rfl rfl rfl rfl).trans ((Aq 4 1 2006 1 _ rfl rfl rfl rfl).trans ((Aq 4 2 2007 1 _ rfl rfl rfl rfl).trans ((Aq 4 3 2008 6 _ rfl rfl rfl rfl).trans (sm [(1000, 2005), (1001, 2006), (1002, 2007), (1003, 2008)] [(4, oD (.ptr 4 0)), (5, iD 1)] [(4, .box [.own 1000, .own 1001, .own 1002, .own 1003]), (1000, .vec 1 ((([] : List Int)).map Ak)), (1001, .vec 1 ((([] : List Int)).map Ak)), (1002, .vec 1 ((([] : List Int)).map Ak)), (1003, .vec 6 ((([] : List Am)).map AO))] rfl rfl))))) (Ar ?_)
      exact ⟨⟨[_, _], ⟨.cellN _ _ _ _ _ _ _ rfl rfl CO BU rfl rfl (JG rfl), tm⟩, rfl⟩, ⟨rfl, rfl, rfl, rfl, tv⟩⟩
     ·refine Ai (Ag Av rfl (A0 rfl (qm rfl (Ac ?_))))
      exact sn [] h
   ·refine AU ?_
    exact sn [] h
  ·refine Ae hs (wq rfl (qz Kj rfl (Ac (wp rfl (qm rfl (AI Au rfl (qm rfl (Ac ?_))))))))
   refine AC (L := DW N p0 p1) h (fun v11 => mk [(1, pD (.sl (p1.map Ak))), (2, oD (.ptr 2 0)), (4, oD (.ptr 4 0)), (8, oD (.ptr 8 0)), (42, pD (.sl (p1.map Ak))), (43, iD ((p1.length : Int))), (44, iD v11.2.2.2)] [(2, .box (Ah p0)), (4, .box [.pure (.nil0), .pure (.nil0), .pure (.nil0), .pure (.nil0)]), (8, .box [.own 2009, .own 2010, .own 2011, .pure (.nil0)]), (2009, .vec 1 (v11.1.map Ak)), (2010, .vec 1 (v11.2.1.map Ak)), (2011, .vec 1 (v11.2.2.1.map Ak))]) (fun v12 => mk [(1, pD (.sl (p1.map Ak))), (2, oD (.ptr 2 0)), (4, oD (.ptr 4 0)), (8, oD (.ptr 8 0))] [(2, .box (Ah p0)), (4, .box [.pure (.nil0), .pure (.nil0), .pure (.nil0), .pure (.nil0)]), (8, .box [.own 2012, .own 2013, .own 2014, .pure (.nil0)]), (2012, .vec 1 (v12.1.map Ak)), (2013, .vec 1 (v12.2.1.map Ak)), (2014, .vec 1 (v12.2.2.map Ak))]) (fun _ _ => rfl) ((Aq 8 0 2019 1 _ rfl rfl rfl rfl).trans ((Aq 8 1 2020 1 _ rfl rfl rfl rfl).trans ((Aq 8 2 2021 1 _ rfl rfl rfl rfl).trans (sm [(2009, 2019), (2010, 2020), (2011, 2021)] _ _ rfl rfl)))) (fun j11 n11 v11 h => ?_) (fun v12 s h hs => ?_)
   ·unfold DW at h
    refine wq rfl (AY rfl (Ac (AL ?_)))
    refine Ba h (fun h => ?_) fun h => ?_
    ·refine Ai (AL (AJ (wq rfl ?_)))
     refine BJ h fun v14 a14 b14 h => qi Au CK a14 (Af b14) rfl (qk B1 rfl (qa rfl (Ac (wp rfl (qm rfl (qf Bb rfl (ql A7 rfl (AI Au rfl ?_))))))))
     refine BD h fun v15 a15 h => Aw [] (Hl N v14 ((p0.fA.length : Int)) v15 a15) W9 rfl (Cp rfl (Ac ?_))
     refine Ba h (fun h => ?_) fun h => ?_
     ·refine wq rfl (Bk Kj Td rfl (qs BU rfl (qe rfl ?_)))
      obtain rfl := sj h
      refine Ae ((Aq 4 0 2015 1 _ rfl rfl rfl rfl).trans ((Aq 4 1 2016 1 _ rfl rfl rfl rfl).trans ((Aq 4 2 2017 1 _ rfl rfl rfl rfl).trans ((Aq 4 3 2018 6 _ rfl rfl rfl rfl).trans (sm [(1000, 2015), (1001, 2016), (1002, 2017), (1003, 2018)] [(4, oD (.ptr 4 0)), (5, iD 4)] [(4, .box [.own 1000, .own 1001, .own 1002, .own 1003]), (1000, .vec 1 ((([] : List Int)).map Ak)), (1001, .vec 1 ((([] : List Int)).map Ak)), (1002, .vec 1 ((([] : List Int)).map Ak)), (1003, .vec 6 ((([] : List Am)).map AO))] rfl rfl))))) (Ar ?_)
      exact ⟨⟨[_, _], ⟨.cellN _ _ _ _ _ _ _ rfl rfl CO BU rfl rfl (JG rfl), tm⟩, rfl⟩, ⟨rfl, rfl, rfl, rfl, tv⟩⟩
     ·refine Ai (wq rfl (qf Bb rfl (ql A7 rfl (qf Bb rfl (ql A7 rfl (qm rfl ?_))))))
      refine BJ h fun v17 a17 b17 h => qi Au CK a17 (Af b17) rfl (qk B1 rfl (Dg Au CK I6 rfl ?_))
      refine FD h fun c18 h => Cu (f := Ak) Au Au CK Ki I6 c18 rfl (qf Bb rfl (qs Ig rfl (AM (by kernel_rfl) (wq rfl (qf FH rfl (ql A7 rfl (qf FH rfl (ql A7 rfl (qm rfl ?_)))))))))
      refine BJ h fun v19 a19 b19 h => qi Au CK a19 (Af b19) rfl (qk B1 rfl (Dg Au CK I6 rfl ?_))
      refine FD h fun c20 h => Cu (f := Ak) Au Au CK Ki I6 c20 rfl (qf FH rfl (qs Ig rfl (AM (by kernel_rfl) (Ag Av rfl (qf G4 rfl (ql A7 rfl (qf G4 rfl (ql A7 rfl (qm rfl ?_)))))))))
      refine BJ h fun v21 a21 b21 h => qi Au CK a21 (Af b21) rfl (qk B1 rfl (Dg Au CK I6 rfl ?_))
      refine FD h fun c22 h => Cu (f := Ak) Au Au CK Ki I6 c22 rfl (qf G4 rfl (qs Ig rfl (AM (by kernel_rfl) (Ag Av rfl (A0 rfl (qm rfl (Ac ?_)))))))
      exact sn [(2009, 63), (2010, 73), (2011, 83)] h
    ·refine AU ?_
     exact sn [(2012, 2009), (2013, 2010), (2014, 2011)] h
   ·refine Ae hs (wp rfl (qf Cj rfl (ql Hp rfl (AI DD rfl (qm rfl (Ac ?_))))))
    refine AC (L := CV N p0 p1) h (fun v23 => mk [(1, pD (.sl (p1.map Ak))), (4, oD (.ptr 4 0)), (8, oD (.ptr 8 0)), (87, pD (.sl (p0.fC.map AO))), (88, iD ((p0.fC.length : Int))), (89, iD v23.2)] [(4, .box [.pure (.nil0), .pure (.nil0), .pure (.nil0), .pure (.nil0)]), (8, .box [.own 2022, .own 2023, .own 2024, .own 2025]), (2022, .vec 1 (v12.1.map Ak)), (2023, .vec 1 (v12.2.1.map Ak)), (2024, .vec 1 (v12.2.2.map Ak)), (2025, .vec 6 (v23.1.map AO))]) (fun v24 => mk [(4, oD (.ptr 4 0)), (8, oD (.ptr 8 0))] [(4, .box [.pure (.nil0), .pure (.nil0), .pure (.nil0), .pure (.nil0)]), (8, .box [.own 2026, .own 2027, .own 2028, .own 2029]), (2026, .vec 1 (v12.1.map Ak)), (2027, .vec 1 (v12.2.1.map Ak)), (2028, .vec 1 (v12.2.2.map Ak)), (2029, .vec 6 (v24.map AO))]) (fun _ _ => rfl) ((Aq 8 3 2040 6 _ rfl rfl rfl rfl).trans (sm [(2022, 2012), (2023, 2013), (2024, 2014), (2025, 2040)] _ _ rfl rfl)) (fun j23 n23 v23 h => ?_) (fun v24 s h hs => ?_)
    ·unfold CV at h
     refine wq rfl (AY rfl (Ac (AL ?_)))
     refine Ba h (fun h => ?_) fun h => ?_
     ·refine Ai ?_
      refine AS h (fun v26 => mk [(1, pD (.sl (p1.map Ak))), (4, oD (.ptr 4 0)), (8, oD (.ptr 8 0)), (87, pD (.sl (p0.fC.map AO))), (88, iD ((p0.fC.length : Int))), (89, iD v23.2)] [(4, .box [.pure (.nil0), .pure (.nil0), .pure (.nil0), .pure (.nil0)]), (8, .box [.own 2030, .own 2031, .own 2032, .own 2033]), (2030, .vec 1 (v12.1.map Ak)), (2031, .vec 1 (v12.2.1.map Ak)), (2032, .vec 1 (v12.2.2.map Ak)), (2033, .vec 6 (v26.map AO))]) (fun j26 h => ?_) (fun v26 h => ?_)
      ·refine AJ (wq rfl ?_)
       refine BJ h fun v27 a27 b27 h => qi DD Du a27 (Af b27) rfl (qK Ha Du rfl (qz Jl rfl (qs Du rfl (Ac (wq rfl (qm rfl (qf Di rfl (ql B1 rfl ?_))))))))
       refine BD h fun v28 a28 h => Aw [] (Ij N p1 v27.fF v28 a28) d6 rfl (qm rfl (qf HV rfl (ql B1 rfl ?_)))
       refine BD h fun v29 a29 h => Aw [] (Ij N p1 v27.fJ v29 a29) d6 rfl (qa rfl (qa rfl (AM (by kernel_rfl) ?_)))
       refine AS h (fun v30 => mk [(1, pD (.sl (p1.map Ak))), (4, oD (.ptr 4 0)), (8, oD (.ptr 8 0)), (12, oD (.ptr 12 0)), (13, iD v28), (14, iD v29), (87, pD (.sl (p0.fC.map AO))), (88, iD ((p0.fC.length : Int))), (89, iD v23.2), (106, bD v30)] [(4, .box [.pure (.nil0), .pure (.nil0), .pure (.nil0), .pure (.nil0)]), (8, .box [.own 2034, .own 2035, .own 2036, .own 2037]), (12, .box (Bg v27)), (2034, .vec 1 (v12.1.map Ak)), (2035, .vec 1 (v12.2.1.map Ak)), (2036, .vec 1 (v12.2.2.map Ak)), (2037, .vec 6 (v23.1.map AO))]) (fun j30 h => ?_) (fun v30 h => ?_)
       ·refine Ag Av rfl (qm rfl (EF rfl (qm rfl ?_)))
        refine En 103 h rfl (fun h => ?_) fun h => ?_
        ·refine qm rfl (EF rfl (qp rfl (Ac ?_)))
         exact sn [(2034, 2022), (2035, 2023), (2036, 2024), (2037, 2025)] h
        ·refine qw 2 rfl (qp rfl (Ac ?_))
         exact sn [(2034, 2022), (2035, 2023), (2036, 2024), (2037, 2025)] h
       ·refine Ba h (fun h => ?_) fun h => ?_
        ·refine wq rfl (qL Ha Du rfl ?_)
         refine BD h fun v33 a33 h => Aw [2038, 2039] (Qr N v27 v33 a33) eX rfl (qs Du rfl (Ac (wq rfl (qw 2 rfl (qf Di rfl (qs CK rfl (qf HV rfl (qs CK rfl (Ac (Ag Av rfl (qf Cj rfl (ql Hp rfl (qL Ha Du rfl (CE (A4 2038 _ _ rfl rfl) (CE (A4 2039 _ _ rfl rfl) (Dg DD Du Jl rfl ?_))))))))))))))))
         refine FD h fun c34 h => Cu (f := AO) DD DD Du WW Jl c34 rfl (qf Cj rfl (qs bc rfl (Ac ?_)))
         exact sn [(2030, 2034), (2031, 2035), (2032, 2036), (2033, 117)] h
        ·refine Ai ?_
         exact sn [(2030, 2034), (2031, 2035), (2032, 2036), (2033, 2037)] h
      ·refine Ag Av rfl (A0 rfl (qm rfl (Ac ?_)))
       exact sn [(2022, 2030), (2023, 2031), (2024, 2032), (2025, 2033)] h
     ·refine AU ?_
      exact sn [(2026, 2022), (2027, 2023), (2028, 2024), (2029, 2025)] h
    ·refine Ae hs (wq rfl (qL CO BU rfl (qs BU rfl (qe rfl ?_))))
     obtain rfl := sj h
     refine Ae (sm [(1000, 2026), (1001, 2027), (1002, 2028), (1003, 2029)] [(4, oD (.ptr 4 0)), (5, iD 0)] [(4, .box [.own 1000, .own 1001, .own 1002, .own 1003]), (1000, .vec 1 (v12.1.map Ak)), (1001, .vec 1 (v12.2.1.map Ak)), (1002, .vec 1 (v12.2.2.map Ak)), (1003, .vec 6 (v24.map AO))] rfl rfl) (Ar ?_)
     exact ⟨⟨[_, _], ⟨.cellN _ _ _ _ _ _ _ rfl rfl CO BU rfl rfl (JG rfl), tm⟩, rfl⟩, ⟨rfl, rfl, rfl, rfl, tv⟩⟩
theorem Es (N : Nat) (p0 : List Int) (r : (List Int)) (h : BY N p0 = some r) : An zA0 13 [pD (.sl (p0.map Ak))] [(1, r.map Ak)] (oD (.own 0)) := by
 unfold BY at h
 refine cw (n := 8) (rs := [.tmp 2]) Tryz.func13 fun w0 S0 => ?_
 refine wq rfl (qa rfl (Ac (wp rfl (qm rfl ?_))))
 refine Nz (.p rfl) rfl Au ?_
 refine Ac ?_
 refine NJ rfl (fun c2 => ?_) ?_
 ·have c2 := zH3.1 c2
  rw [c2] at h
  have h : (some (([] : List Int))) = some r := h
  refine wq rfl (qe rfl ?_)
  obtain rfl := sj h
  refine Ae ((A9 2 2001 1 rfl rfl rfl).trans (sm [(1000, 2001)] [(2, oD (.own 1000))] [(1000, .vec 1 ((([] : List Int)).map Ak))] rfl rfl)) (Ar ?_)
  exact ⟨⟨[_], tm, rfl⟩, ⟨rfl, tv⟩⟩
 ·refine Ai (wq rfl (Dg Au CK I6 rfl (qm rfl ?_)))
  refine FD h fun c1 h => IC (f := Ak) Au Au CK Ki I6 (fun _ => rfl) c1 rfl (qe rfl ?_)
  obtain rfl := sj h
  refine Ae (sm [(1000, 7)] [(2, oD (.own 1000))] [(1000, .vec 1 (((([] : List Int)) ++ p0).map Ak))] rfl rfl) (Ar ?_)
  exact ⟨⟨[_], tm, rfl⟩, ⟨rfl, tv⟩⟩
theorem NG (N : Nat) (p0 : Int) (p1 : Int) (r : Int × Int) (h : H5 N p0 p1 = some r) : An zA0 166 [pD (.val (.int .u32 p0)), pD (.val (.int .u32 p1))] [] (.tup [.one (.pure (.val (.int .u32 r.1))), .one (.pure (.val (.int .u32 r.2)))]) := by
 unfold H5 at h
 refine cw (n := 17) (rs := [.tmp 4, .tmp 5]) Tryz.func166 fun w0 S0 => ?_
 refine wq rfl (qa rfl (qa rfl (Ac (wq rfl (qm rfl (Jj Vn Z3 rfl (qm rfl (Jj Vn Z3 rfl (NQ rfl (qa rfl (Ac (wq rfl (qm rfl (GR rfl (by decide) (Jj XA SY rfl (qm rfl (Jj XA SY rfl (qa rfl (qe rfl ?_)))))))))))))))))))
 obtain rfl := sj h
 refine Ae (sm [] [(4, pD (.val (.int .u32 ((wI .u32 ((A2 .u64 ((wI .u64 ((wI .u64 p0) * (wI .u64 p1)))) 32))))))), (5, pD (.val (.int .u32 ((wI .u32 ((wI .u64 ((wI .u64 p0) * (wI .u64 p1)))))))))] [] rfl rfl) (Ar ?_)
 exact ⟨⟨[_, _], ⟨.tmp _ _ rfl, tm⟩, rfl⟩, tv⟩
theorem NN (N : Nat) (p0 : Int) (p1 : Int) (r : Int × Int) (h : H0 N p0 p1 = some r) : An zA0 167 [pD (.val (.int .u64 p0)), pD (.val (.int .u64 p1))] [] (.tup [.one (.pure (.val (.int .u64 r.1))), .one (.pure (.val (.int .u64 r.2)))]) := by
 unfold H0 at h
 refine cw (n := 51) (rs := [.tmp 4, .tmp 5]) Tryz.func167 fun w0 S0 => ?_
 refine wq rfl (qa rfl (qa rfl (Ac (wq rfl (qm rfl (IG rfl (qa rfl (Ac (wq rfl (qm rfl (GR rfl (by decide) (qa rfl (Ac (wq rfl (qm rfl (IG rfl (qa rfl (Ac (wq rfl (qm rfl (GR rfl (by decide) (qa rfl (Ac (wq rfl (qw 2 rfl (NQ rfl (qa rfl (Ac (wq rfl (qw 2 rfl ?_))))))))))))))))))))))))))))))
 refine NQ rfl (qm rfl (GR rfl (by decide) (A0 rfl (qa rfl (Ac (wq rfl (qm rfl (IG rfl (qa rfl (Ac (wq rfl (qm rfl (GR rfl (by decide) (qa rfl (Ac (wq rfl (qw 3 rfl (NQ rfl (A0 rfl (qa rfl (Ac (wq rfl (qw 2 rfl (NQ rfl (qm rfl (A0 rfl (qm rfl (GR rfl (by decide) (A0 rfl (qa rfl (Ac (AL ?_))))))))))))))))))))))))))))))))
 refine Ag Av rfl (qw 2 rfl (NQ rfl (qe rfl ?_)))
 obtain rfl := sj h
 refine Ae (sm [] [(4, pD (.val (.int .u64 ((wI .u64 ((wI .u64 ((wI .u64 ((A2 .u64 p0 32) * (A2 .u64 p1 32))) + (A2 .u64 ((wI .u64 ((wI .u64 ((A2 .u64 p0 32) * (AK .u64 p1 4294967295))) + (A2 .u64 ((wI .u64 ((AK .u64 p0 4294967295) * (AK .u64 p1 4294967295)))) 32)))) 32))) + (A2 .u64 ((wI .u64 ((AK .u64 ((wI .u64 ((wI .u64 ((A2 .u64 p0 32) * (AK .u64 p1 4294967295))) + (A2 .u64 ((wI .u64 ((AK .u64 p0 4294967295) * (AK .u64 p1 4294967295)))) 32)))) 4294967295) + (wI .u64 ((AK .u64 p0 4294967295) * (A2 .u64 p1 32)))))) 32))))))), (5, pD (.val (.int .u64 ((wI .u64 (p0 * p1))))))] [] rfl rfl) (Ar ?_)
 exact ⟨⟨[_, _], ⟨.tmp _ _ rfl, tm⟩, rfl⟩, tv⟩
theorem Pb (N : Nat) (p0 : Int) (p1 : Int) (r : Int × Int) (h : IM N p0 p1 = some r) : An zA0 137 [pD (.val (.int .u64 p0)), pD (.val (.int .u64 p1))] [] (.tup [.one (.pure (.val (.int .u64 r.1))), .one (.pure (.val (.int .u64 r.2)))]) := by
 unfold IM at h
 refine cw (n := 30) (rs := [.tmp 4, .tmp 5]) Tryz.func137 fun w0 S0 => ?_
 refine wq rfl (qa rfl (qa rfl (Ac (AL ?_))))
 refine Ba h (fun h => ?_) fun h => ?_
 ·refine wq rfl (qm rfl (Jj Yw SY rfl (qm rfl (Jj Yw SY rfl ?_))))
  refine BD h fun v2 a2 h => Aw [] (NG N ((wI .u32 p0)) ((wI .u32 p1)) v2 a2) ct rfl (qm rfl (qx rfl (qx rfl (qa rfl (qa rfl (Ac (wq rfl (qm rfl (Jj Vn W4 rfl (qm rfl (Jj Vn W4 rfl (qa rfl (qe rfl ?_)))))))))))))
  obtain rfl := sj h
  refine Ae (sm [] [(4, pD (.val (.int .u64 ((wI .u64 v2.1))))), (5, pD (.val (.int .u64 ((wI .u64 v2.2)))))] [] rfl rfl) (Ar ?_)
  exact ⟨⟨[_, _], ⟨.tmp _ _ rfl, tm⟩, rfl⟩, tv⟩
 ·refine Ai (wq rfl (qw 2 rfl ?_))
  refine BD h fun v3 a3 h => Aw [] (NN N p0 p1 v3 a3) cO rfl (qm rfl (qx rfl (qx rfl (qa rfl (qa rfl (Ac (wq rfl (qw 2 rfl (qa rfl (qe rfl ?_))))))))))
  obtain rfl := sj h
  refine Ae (sm [] [(4, pD (.val (.int .u64 v3.1))), (5, pD (.val (.int .u64 v3.2)))] [] rfl rfl) (Ar ?_)
  exact ⟨⟨[_, _], ⟨.tmp _ _ rfl, tm⟩, rfl⟩, tv⟩
theorem KR (N : Nat) (p0 : List Int) (p1 : Int) (r : (List Int)) (h : ET N p0 p1 = some r) : An zA0 104 [pD (.sl (p0.map Ak)), iD p1] [(1, r.map Ak)] (oD (.own 0)) := by
 unfold ET at h
 refine cw (n := 48) (rs := [.tmp 4]) Tryz.func104 fun w0 S0 => ?_
 refine wq rfl (qe rfl ?_)
 refine AS h (fun v1 => mk [(0, pD (.sl (p0.map Ak))), (1, iD p1)] []) (fun j1 h => ?_) (fun v1 h => ?_)
 ·refine wq rfl (qm rfl (AY rfl (Ac ?_)))
  refine Ba h (fun h => ?_) fun h => ?_
  ·refine Ag Av rfl ?_
   cases h
  ·refine Ai ?_
   exact sn [] h
 ·refine wq rfl (qm rfl (AI Au rfl (Jj dm W4 rfl (qm rfl (Jj dm W4 rfl ?_)))))
  refine BD h fun v3 a3 h => Aw [] (Pb N ((wI .u64 ((p0.length : Int)))) ((wI .u64 p1)) v3 a3) bX rfl (qm rfl (qx rfl (qx rfl (qa rfl (qe rfl ?_)))))
  refine AS h (fun v4 => mk [(0, pD (.sl (p0.map Ak))), (6, pD (.val (.int .u64 v3.2)))] []) (fun j4 h => ?_) (fun v4 h => ?_)
  ·refine AS h (fun v5 => mk [(0, pD (.sl (p0.map Ak))), (6, pD (.val (.int .u64 v3.2))), (26, bD v5)] []) (fun j5 h => ?_) (fun v5 h => ?_)
   ·refine Ag Av rfl (qm rfl (Gg rfl (qm rfl ?_)))
    refine En 23 h rfl (fun h => ?_) fun h => ?_
    ·refine qw 2 rfl (qp rfl (Ac ?_))
     exact sn [] h
    ·refine qm rfl (Gg rfl (qp rfl (Ac ?_)))
     exact sn [] h
   ·refine Ba h (fun h => ?_) fun h => ?_
    ·refine Ag Av rfl ?_
     cases h
    ·refine Ai ?_
     exact sn [] h
  ·refine wq rfl (qm rfl (Jj Yw Xa rfl ?_))
   refine FD h fun c8 h => LO (.p rfl) rfl rfl rfl Au CK Ki (Jw rfl) I6 rfl rfl rfl c8.1 c8.2.1 c8.2.2 (R8 Ak _ ((0 : Int))) ?_
   refine qa rfl (Ac (wq rfl (qw 2 rfl ?_)))
   refine VA Ak (zA5 ((wI .i64 v3.2)).toNat ((0 : Int))) p0 (.p rfl) rfl (J0 Ak _ _ (zA5 ((wI .i64 v3.2)).toNat ((0 : Int)))) rfl rfl (ZB Ak _ _ (fun _ => rfl)) tv Au CK ?_
   refine qa rfl (Ac (AL ?_))
   refine AC (L := Ek N) h (fun v9 => mk [(7, oD (.own 2001)), (8, iD v9.2)] [(2001, .vec 1 (v9.1.map Ak))]) (fun v10 => mk [(7, oD (.own 2002))] [(2002, .vec 1 (v10.map Ak))]) (fun _ _ => rfl) (sm [(2001, 30)] _ _ rfl rfl) (fun j9 n9 v9 h => ?_) (fun v10 s h hs => ?_)
   ·unfold Ek at h
    refine wp rfl (qw 2 rfl (Et Au rfl (AY rfl (Ac ?_))))
    refine Ba h (fun h => ?_) fun h => ?_
    ·refine Ai (AJ (Ag Av rfl (qw 3 rfl ?_)))
     obtain ⟨c12, h⟩ := HR h
     have w13 : ((v9.2).toNat) + ((v9.1.length - (v9.2).toNat)) ≤ v9.1.length := by have := c12.2.1; have := c12.2.2; omega
     refine KY Ak v9.1 (.p rfl) rfl (J0 Ak _ _ v9.1) rfl Au CK (.some _ _ _ _ c12.1) (.none _) ⟨rfl, tv⟩ tv c12.2.1 (by rw [zA1]; exact c12.2.2) (zA1 _) rfl ?_
     refine qw 2 rfl ?_
     obtain ⟨c14, h⟩ := HR h
     have w15 : 0 + ((v9.2).toNat) ≤ v9.1.length := by have := c14.2.1; have := c14.2.2; omega
     refine KY Ak v9.1 (.p rfl) rfl (J0 Ak _ _ v9.1) rfl Au CK (.none _) (.some _ _ _ _ c14.1) tv ⟨rfl, tv⟩ c14.2.1 (by rw [zA1]; exact c14.2.2) (zA1 _) rfl ?_
     refine VA Ak v9.1 (((v9.1.drop 0).take ((v9.2).toNat))) (.p rfl) rfl (Ol Ak _ _ ((v9.2).toNat) ((v9.1.length - (v9.2).toNat)) v9.1 w13) rfl rfl (WI Ak _ _ 0 ((v9.2).toNat) v9.1 w15) ⟨rfl, tv⟩ Au CK ?_
     refine A0 rfl (qa rfl (AM (by kernel_rfl) ?_))
     exact sn [] h
    ·refine AU ?_
     exact sn [(2002, 2001)] h
   ·refine Ae hs (wq rfl (qm rfl (qe rfl ?_)))
    obtain rfl := sj h
    refine Ae (sm [(1000, 2002)] [(4, oD (.own 1000))] [(1000, .vec 1 (v10.map Ak))] rfl rfl) (Ar ?_)
    exact ⟨⟨[_], tm, rfl⟩, ⟨rfl, tv⟩⟩
theorem K7 (N : Nat) (p0 : Am) (r : Bool) (h : F8 N p0 = some r) : An zA0 105 [.e (.agg (Bg p0))] [] (bD r) := by
 unfold F8 at h
 refine cw (n := 11) (rs := [.tmp 2]) Tryz.func105 fun w0 S0 => ?_
 refine wq rfl (qb rfl (qe rfl ?_))
 refine AS h (fun v1 => mk [(2, bD v1)] []) (fun j1 h => ?_) (fun v1 h => ?_)
 ·refine Ag Av rfl (qf GH rfl (ql B1 rfl (Cf rfl (qm rfl ?_))))
  refine En 6 h rfl (fun h => ?_) fun h => ?_
  ·refine qw 3 rfl (qp rfl (qe rfl ?_))
   exact sn [] h
  ·refine qf GH rfl (ql B1 rfl (Cf rfl (qp rfl (qe rfl ?_))))
   exact sn [] h
 ·obtain rfl := sj h
  refine Ae (sm [] [(2, bD v1)] [] rfl rfl) (Ar ?_)
  exact ⟨⟨[_], tm, rfl⟩, tv⟩
theorem OW (N : Nat) (p0 : Aa) (r : Ab × Int) (h : Hu N p0 = some r) : An zA0 74 [.e (.agg (Ah p0))] [(1, r.1.fD.map Ak), (1, r.1.fB.map Ak), (1, r.1.fE.map DL)] (.tup [.agg [.own 0, .own 1, .own 2], .one (iC r.2)]) := by
 unfold Hu at h
 refine cw (n := 50) (rs := [.cell 2 49, .tmp 3]) Tryz.func74 fun w0 S0 => ?_
 refine wq rfl (qb rfl (qz DG rfl (qa rfl (Ac (wp rfl (qL CO BU rfl ?_))))))
 refine BD h fun v1 a1 h => Aw [] (E7 N p0 v1 a1) Xo rfl (qa rfl (Ac (wq rfl (qm rfl (BA rfl (Ac ?_))))))
 refine Ba h (fun h => ?_) fun h => ?_
 ·refine wq rfl (Bk DG JL rfl (qm rfl (qs AW rfl (qe rfl ?_))))
  obtain rfl := sj h
  refine Ae ((Aq 2 0 2001 1 _ rfl rfl rfl rfl).trans ((Aq 2 1 2002 1 _ rfl rfl rfl rfl).trans ((Aq 2 2 2003 1 _ rfl rfl rfl rfl).trans (sm [(1000, 2001), (1001, 2002), (1002, 2003)] [(2, oD (.ptr 2 0)), (3, iD v1)] [(2, .box [.own 1000, .own 1001, .own 1002]), (1000, .vec 1 ((([] : List Int)).map Ak)), (1001, .vec 1 ((([] : List Int)).map Ak)), (1002, .vec 1 ((([] : List Int)).map DL))] rfl rfl)))) (Ar ?_)
  exact ⟨⟨[_, _], ⟨.cellN _ _ _ _ _ _ _ rfl rfl Bn AW rfl rfl (JG rfl), tm⟩, rfl⟩, ⟨rfl, rfl, rfl, tv⟩⟩
 ·refine Ai (wq rfl (qf FH rfl (ql A7 rfl ?_)))
  refine BD h fun v3 a3 h => Aw [2004] (Es N p0.fH v3 a3) XE rfl (Dg Au CK I6 rfl (qf FH rfl (ql A7 rfl (AI Au rfl ?_))))
  refine BD h fun v4 a4 h => Df [2005] [17] (KR N (([(-1)] : List Int)) ((p0.fH.length : Int)) v4 a4) cn (Ll (fun _ => rfl) BO) rfl (qf Cj rfl (ql Hp rfl (AI DD rfl ?_)))
  refine FD h fun c5 h => LO (.p rfl) rfl rfl rfl DB EA Qg (Jw rfl) NB rfl rfl rfl c5.1 c5.2.1 c5.2.2 (R8 DL _ ((0 : Int))) ?_
  refine Bk DG JL rfl (qz DG rfl (qs AW rfl (AM (by kernel_rfl) (wp rfl (qf Cj rfl (ql Hp rfl (AI DD rfl (qm rfl (Ac ?_)))))))))
  refine AC (L := EB N p0) h (fun v6 => mk [(1, oD (.ptr 1 0)), (2, oD (.ptr 2 0)), (5, oD (.ptr 5 0)), (28, pD (.sl (p0.fC.map AO))), (29, iD ((p0.fC.length : Int))), (30, iD v6.2)] [(1, .box (Ah p0)), (2, .box [.pure (.nil0), .pure (.nil0), .pure (.nil0)]), (5, .box [.own 2006, .own 2007, .own 2008]), (2006, .vec 1 (v3.map Ak)), (2007, .vec 1 (v4.map Ak)), (2008, .vec 1 (v6.1.map DL))]) (fun v7 => mk [(2, oD (.ptr 2 0)), (5, oD (.ptr 5 0))] [(2, .box [.pure (.nil0), .pure (.nil0), .pure (.nil0)]), (5, .box [.own 2009, .own 2010, .own 2011]), (2009, .vec 1 (v3.map Ak)), (2010, .vec 1 (v4.map Ak)), (2011, .vec 1 (v7.map DL))]) (fun _ _ => rfl) (sm [(2006, 2004), (2007, 2005), (2008, 25)] _ _ rfl rfl) (fun j6 n6 v6 h => ?_) (fun v7 s h hs => ?_)
  ·unfold EB at h
   refine wq rfl (AY rfl (Ac (AL ?_)))
   refine Ba h (fun h => ?_) fun h => ?_
   ·refine Ai ?_
    refine AS h (fun v9 => mk [(1, oD (.ptr 1 0)), (2, oD (.ptr 2 0)), (5, oD (.ptr 5 0)), (28, pD (.sl (p0.fC.map AO))), (29, iD ((p0.fC.length : Int))), (30, iD v6.2)] [(1, .box (Ah p0)), (2, .box [.pure (.nil0), .pure (.nil0), .pure (.nil0)]), (5, .box [.own 2012, .own 2013, .own 2014]), (2012, .vec 1 (v3.map Ak)), (2013, .vec 1 (v4.map Ak)), (2014, .vec 1 (v9.map DL))]) (fun j9 h => ?_) (fun v9 h => ?_)
    ·refine AJ (wq rfl (qm rfl ?_))
     refine BJ h fun v10 a10 b10 h => qi DD Du a10 (Af b10) rfl (qK Ha Du rfl (qz Jl rfl (qa rfl (qs Du rfl (Ac (wq rfl (qL Ha Du rfl ?_)))))))
     refine BD h fun v11 a11 h => Aw [] (K7 N v10 v11 a11) X9 rfl (Ac ?_)
     refine Ba h (fun h => ?_) fun h => ?_
     ·refine Ag Av rfl (qf CW rfl (ql HO rfl (qm rfl (qf FH rfl (ql A7 rfl (qf Di rfl (ql B1 rfl ?_)))))))
      refine BJ h fun v13 a13 b13 h => qi Au CK a13 (Af b13) rfl (qk B1 rfl ?_)
      refine FD h fun c14 h => Jo rfl c14 ?_
      refine BJ h fun v15 a15 b15 h => qI DB EA a15 (Af b15) rfl ?_
      refine DM rfl rfl rfl rfl (Af b15) rfl EA rfl (Jw rfl) (Dx DL v6.1 _ ((D6 .u8 1 v13))) ?_
      refine AM (by kernel_rfl) ?_
      exact sn [(2012, 2006), (2013, 2007), (2014, 2008)] h
     ·refine Ai ?_
      exact sn [(2012, 2006), (2013, 2007), (2014, 2008)] h
    ·refine Ag Av rfl (A0 rfl (qm rfl (Ac ?_)))
     exact sn [(2006, 2012), (2007, 2013), (2008, 2014)] h
   ·refine AU ?_
    exact sn [(2009, 2006), (2010, 2007), (2011, 2008)] h
  ·refine Ae hs (wq rfl (qL Bn AW rfl (qs AW rfl (qe rfl ?_))))
   obtain rfl := sj h
   refine Ae (sm [(1000, 2009), (1001, 2010), (1002, 2011)] [(2, oD (.ptr 2 0)), (3, iD 0)] [(2, .box [.own 1000, .own 1001, .own 1002]), (1000, .vec 1 (v3.map Ak)), (1001, .vec 1 (v4.map Ak)), (1002, .vec 1 (v7.map DL))] rfl rfl) (Ar ?_)
   exact ⟨⟨[_, _], ⟨.cellN _ _ _ _ _ _ _ rfl rfl Bn AW rfl rfl (JG rfl), tm⟩, rfl⟩, ⟨rfl, rfl, rfl, tv⟩⟩
theorem KG (N : Nat) (p0 : Ab) (p1 : Int) (r : Int) (h : FB N p0 p1 = some r) : An zA0 156 [.e (.agg (AE p0)), iD p1] [] (pD (.val (.int .u8 r))) := by
 unfold FB at h
 refine cw (n := 27) (rs := [.tmp 4]) Tryz.func156 fun w0 S0 => ?_
 refine wq rfl (qb rfl (qa rfl (Ac (wq rfl (qf Dd rfl (ql A7 rfl (qm rfl ?_)))))))
 refine BJ h fun v1 a1 b1 h => qi Au CK a1 (Af b1) rfl (qk B1 rfl ?_)
 refine FD h fun c2 h => Jo rfl c2 (qe rfl ?_)
 refine AS h (fun v3 => mk [(5, pD (.val (.int .u8 v3)))] []) (fun j3 h => ?_) (fun v3 h => ?_)
 ·refine wq rfl (qf BK rfl (ql A7 rfl (qm rfl ?_)))
  refine BJ h fun v4 a4 b4 h => qi Au CK a4 (Af b4) rfl (qk B1 rfl (EF rfl (Ac ?_)))
  refine Ba h (fun h => ?_) fun h => ?_
  ·refine Ag Av rfl (qm rfl (qf BK rfl (ql A7 rfl (qm rfl ?_))))
   refine BJ h fun v6 a6 b6 h => qi Au CK a6 (Af b6) rfl (qk B1 rfl ?_)
   refine FD h fun c7 h => Jo rfl c7 (W7 rfl (qe rfl ?_))
   exact sn [] h
  ·refine Ai ?_
   exact sn [] h
 ·refine wq rfl (qm rfl (qe rfl ?_))
  obtain rfl := sj h
  refine Ae (sm [] [(4, pD (.val (.int .u8 v3)))] [] rfl rfl) (Ar ?_)
  exact ⟨⟨[_], tm, rfl⟩, tv⟩
theorem Kl (N : Nat) (p0 : Aa) (p1 : Ab) (r : Int) (h : FY N p0 p1 = some r) : An zA0 120 [.e (.agg (Ah p0)), .e (.agg (AE p1))] [] (iD r) := by
 unfold FY at h
 refine cw (n := 135) (rs := [.tmp 4]) Tryz.func120 fun w0 S0 => ?_
 refine wq rfl (qb rfl (qb rfl (qa rfl (Ac (wp rfl (qL CO BU rfl ?_))))))
 refine BD h fun v1 a1 h => Aw [] (E7 N p0 v1 a1) Xo rfl (qa rfl (Ac (wq rfl (qm rfl (BA rfl (Ac ?_))))))
 refine Ba h (fun h => ?_) fun h => ?_
 ·refine wq rfl (qm rfl (qe rfl ?_))
  obtain rfl := sj h
  refine Ae (sm [] [(4, iD v1)] [] rfl rfl) (Ar ?_)
  exact ⟨⟨[_], tm, rfl⟩, tv⟩
 ·refine Ai (AL ?_)
  refine AS h (fun v3 => mk [(2, oD (.ptr 2 0)), (3, oD (.ptr 3 0)), (41, bD v3)] [(2, .box (Ah p0)), (3, .box (AE p1))]) (fun j3 h => ?_) (fun v3 h => ?_)
  ·refine Ag Av rfl (qf Dd rfl (ql A7 rfl (AI Au rfl (qf Bb rfl (ql A7 rfl (AI Au rfl (BA rfl (qm rfl ?_))))))))
   refine En 24 h rfl (fun h => ?_) fun h => ?_
   ·refine qw 7 rfl (qp rfl (qw 8 rfl (qp rfl (Ac ?_))))
    exact sn [] h
   ·refine qf BK rfl (ql A7 rfl (AI Au rfl (qf Bb rfl (ql A7 rfl (AI Au rfl (BA rfl (qp rfl (qm rfl ?_))))))))
    refine En 33 h rfl (fun h => ?_) fun h => ?_
    ·refine qw 7 rfl (qp rfl (Ac ?_))
     exact sn [] h
    ·refine qf CW rfl (ql HO rfl (AI DB rfl (qf Cj rfl (ql Hp rfl (AI DD rfl (BA rfl (qp rfl (Ac ?_))))))))
     exact sn [] h
  ·refine Ba h (fun h => ?_) fun h => ?_
   ·refine wq rfl (qe rfl ?_)
    obtain rfl := sj h
    refine Ae (sm [] [(4, iD 6)] [] rfl rfl) (Ar ?_)
    exact ⟨⟨[_], tm, rfl⟩, tv⟩
   ·refine Ai (wp rfl (qf Bb rfl (ql A7 rfl (AI Au rfl (qm rfl (Ac ?_))))))
    refine AC (L := ED N p0 p1) h (fun v7 => mk [(2, oD (.ptr 2 0)), (3, oD (.ptr 3 0)), (43, pD (.sl (p0.fA.map Ak))), (44, iD ((p0.fA.length : Int))), (45, iD v7)] [(2, .box (Ah p0)), (3, .box (AE p1))]) (fun v8 => mk [(2, oD (.ptr 2 0)), (3, oD (.ptr 3 0))] [(2, .box (Ah p0)), (3, .box (AE p1))]) (fun _ _ => rfl) (sm [] _ _ rfl rfl) (fun j7 n7 v7 h => ?_) (fun v8 s h hs => ?_)
    ·unfold ED at h
     refine wq rfl (AY rfl (Ac (AL ?_)))
     refine Ba h (fun h => ?_) fun h => ?_
     ·refine Ai (AL (AJ (wq rfl (qm rfl ?_))))
      refine BJ h fun v10 a10 b10 h => qi Au CK a10 (Af b10) rfl (qk B1 rfl (qa rfl (qa rfl (Ac (AL ?_)))))
      refine AS h (fun v11 => mk [(2, oD (.ptr 2 0)), (3, oD (.ptr 3 0)), (6, iD v7), (43, pD (.sl (p0.fA.map Ak))), (44, iD ((p0.fA.length : Int))), (45, iD v7), (81, bD v11)] [(2, .box (Ah p0)), (3, .box (AE p1))]) (fun j11 h => ?_) (fun v11 h => ?_)
      ·refine Ag Av rfl (qf Dd rfl (ql A7 rfl (qm rfl ?_)))
       refine BJ h fun v12 a12 b12 h => qi Au CK a12 (Af b12) rfl (qk B1 rfl (AY rfl (qm rfl ?_)))
       refine En 56 h rfl (fun h => ?_) fun h => ?_
       ·refine qw 7 rfl (qp rfl (qw 7 rfl (qp rfl (qw 8 rfl (qp rfl (Ac ?_))))))
        exact sn [] h
       ·refine qf Dd rfl (ql A7 rfl (qm rfl ?_))
        refine BJ h fun v14 a14 b14 h => qi Au CK a14 (Af b14) rfl (qk B1 rfl (qm rfl (EF rfl (qp rfl (qm rfl ?_)))))
        refine En 65 h rfl (fun h => ?_) fun h => ?_
        ·refine qw 6 rfl (qp rfl (qw 8 rfl (qp rfl (Ac ?_))))
         exact sn [] h
        ·refine qf BK rfl (ql A7 rfl (qm rfl ?_))
         refine BJ h fun v16 a16 b16 h => qi Au CK a16 (Af b16) rfl (qk B1 rfl (AY rfl (qp rfl (qm rfl ?_))))
         refine En 73 h rfl (fun h => ?_) fun h => ?_
         ·refine qw 7 rfl (qp rfl (Ac ?_))
          exact sn [] h
         ·refine qf BK rfl (ql A7 rfl (qm rfl ?_))
          refine BJ h fun v18 a18 b18 h => qi Au CK a18 (Af b18) rfl (qk B1 rfl (qm rfl (EF rfl (qp rfl (Ac ?_)))))
          exact sn [] h
      ·refine Ba h (fun h => ?_) fun h => ?_
       ·refine wq rfl (qe rfl ?_)
        obtain rfl := sj h
        refine Ae (sm [] [(4, iD 7)] [] rfl rfl) (Ar ?_)
        exact ⟨⟨[_], tm, rfl⟩, tv⟩
       ·refine Ai (wq rfl (qf Dd rfl (ql A7 rfl (qm rfl ?_))))
        refine BJ h fun v20 a20 b20 h => qi Au CK a20 (Af b20) rfl (qk B1 rfl (qf BK rfl (ql A7 rfl (qm rfl ?_))))
        refine BJ h fun v21 a21 b21 h => qi Au CK a21 (Af b21) rfl (qk B1 rfl (Cf rfl (AM (by kernel_rfl) ?_)))
        refine Ba h (fun h => ?_) fun h => ?_
        ·refine wq rfl (qe rfl ?_)
         obtain rfl := sj h
         refine Ae (sm [] [(4, iD 1)] [] rfl rfl) (Ar ?_)
         exact ⟨⟨[_], tm, rfl⟩, tv⟩
        ·refine Ai (Ag Av rfl (A0 rfl (qm rfl (Ac ?_))))
         exact sn [] h
     ·refine AU ?_
      exact sn [] h
    ·refine Ae hs (wp rfl (qf Cj rfl (ql Hp rfl (AI DD rfl (qm rfl (Ac ?_))))))
     refine AC (L := Eb N p0 p1) h (fun v23 => mk [(2, oD (.ptr 2 0)), (3, oD (.ptr 3 0)), (95, pD (.sl (p0.fC.map AO))), (96, iD ((p0.fC.length : Int))), (97, iD v23)] [(2, .box (Ah p0)), (3, .box (AE p1))]) (fun v24 => mk [] []) (fun _ _ => rfl) (sm [] _ _ rfl rfl) (fun j23 n23 v23 h => ?_) (fun v24 s h hs => ?_)
     ·unfold Eb at h
      refine wq rfl (AY rfl (Ac (AL ?_)))
      refine Ba h (fun h => ?_) fun h => ?_
      ·refine Ai (AL (AJ (wq rfl (qm rfl ?_))))
       refine BJ h fun v26 a26 b26 h => qi DD Du a26 (Af b26) rfl (qK Ha Du rfl (qz Jl rfl (qa rfl (qs Du rfl (Ac (wq rfl (qa rfl (qe rfl ?_))))))))
       refine AS h (fun v27 => mk [(2, oD (.ptr 2 0)), (3, oD (.ptr 3 0)), (8, iD v23), (10, pD (.val (.int .u8 v27.1))), (11, pD (.val (.int .u8 v27.2))), (95, pD (.sl (p0.fC.map AO))), (96, iD ((p0.fC.length : Int))), (97, iD v23)] [(2, .box (Ah p0)), (3, .box (AE p1))]) (fun j27 h => ?_) (fun v27 h => ?_)
       ·refine wq rfl (qL Ha Du rfl ?_)
        refine BD h fun v28 a28 h => Aw [] (K7 N v26 v28 a28) X9 rfl (Ac ?_)
        refine Ba h (fun h => ?_) fun h => ?_
        ·refine Ag Av rfl (qL Bn AW rfl (qf Di rfl (ql B1 rfl ?_)))
         refine BD h fun v30 a30 h => Aw [] (KG N p1 v26.fF v30 a30) Xd rfl (qf Bb rfl (ql A7 rfl (qf Di rfl (ql B1 rfl ?_))))
         refine BJ h fun v31 a31 b31 h => qi Au CK a31 (Af b31) rfl (qk B1 rfl ?_)
         refine FD h fun c32 h => Jo rfl c32 (J9 rfl (qa rfl (qa rfl (AM (by kernel_rfl) ?_))))
         exact sn [] h
        ·refine Ai ?_
         exact sn [] h
       ·refine AS h (fun v33 => mk [(2, oD (.ptr 2 0)), (3, oD (.ptr 3 0)), (95, pD (.sl (p0.fC.map AO))), (96, iD ((p0.fC.length : Int))), (97, iD v23), (133, bD v33)] [(2, .box (Ah p0)), (3, .box (AE p1))]) (fun j33 h => ?_) (fun v33 h => ?_)
        ·refine Ag Av rfl (qm rfl (qf CW rfl (ql HO rfl (qm rfl ?_))))
         refine BJ h fun v34 a34 b34 h => qi DB EA a34 (Af b34) rfl (qk Iy rfl (Iu rfl (BA rfl (qm rfl ?_))))
         refine En 124 h rfl (fun h => ?_) fun h => ?_
         ·refine qw 8 rfl (qp rfl (Ac ?_))
          exact sn [] h
         ·refine qf CW rfl (ql HO rfl (qm rfl ?_))
          refine BJ h fun v36 a36 b36 h => qi DB EA a36 (Af b36) rfl (qk Iy rfl (qm rfl (Iu rfl (BA rfl (qp rfl (Ac ?_))))))
          exact sn [] h
        ·refine Ba h (fun h => ?_) fun h => ?_
         ·refine wq rfl (qe rfl ?_)
          obtain rfl := sj h
          refine Ae (sm [] [(4, iD 1)] [] rfl rfl) (Ar ?_)
          exact ⟨⟨[_], tm, rfl⟩, tv⟩
         ·refine Ai (Ag Av rfl (A0 rfl (qm rfl (Ac ?_))))
          exact sn [] h
      ·refine AU ?_
       exact sn [] h
     ·refine Ae hs (wq rfl (qe rfl ?_))
      obtain rfl := sj h
      refine Ae (sm [] [(4, iD 0)] [] rfl rfl) (Ar ?_)
      exact ⟨⟨[_], tm, rfl⟩, tv⟩
theorem Gl (N : Nat) (p0 : List Int) (r : (List Int)) (h : B2 N p0 = some r) : An zA0 174 [pD (.sl (p0.map DL))] [(1, r.map DL)] (oD (.own 0)) := by
 unfold B2 at h
 refine cw (n := 8) (rs := [.tmp 2]) Tryz.func174 fun w0 S0 => ?_
 refine wq rfl (qa rfl (Ac (wp rfl (qm rfl ?_))))
 refine Nz (.p rfl) rfl DB ?_
 refine Ac ?_
 refine NJ rfl (fun c2 => ?_) ?_
 ·have c2 := zH3.1 c2
  rw [c2] at h
  have h : (some (([] : List Int))) = some r := h
  refine wq rfl (qe rfl ?_)
  obtain rfl := sj h
  refine Ae ((A9 2 2001 1 rfl rfl rfl).trans (sm [(1000, 2001)] [(2, oD (.own 1000))] [(1000, .vec 1 ((([] : List Int)).map DL))] rfl rfl)) (Ar ?_)
  exact ⟨⟨[_], tm, rfl⟩, ⟨rfl, tv⟩⟩
 ·refine Ai (wq rfl (Dg DB EA NB rfl (qm rfl ?_)))
  refine FD h fun c1 h => IC (f := DL) DB DB EA Qg NB (fun _ => rfl) c1 rfl (qe rfl ?_)
  obtain rfl := sj h
  refine Ae (sm [(1000, 7)] [(2, oD (.own 1000))] [(1000, .vec 1 (((([] : List Int)) ++ p0).map DL))] rfl rfl) (Ar ?_)
  exact ⟨⟨[_], tm, rfl⟩, ⟨rfl, tv⟩⟩
theorem SH (N : Nat) (p0 : Aa) (p1 : Ab) (r : (List Ab) × Int) (h : Ga N p0 p1 = some r) : An zA0 153 [.e (.agg (Ah p0)), .e (.agg (AE p1))] [(3, r.1.map AV)] (.tup [.one (.own 0), .one (iC r.2)]) := by
 unfold Ga at h
 refine cw (n := 75) (rs := [.tmp 4, .tmp 5]) Tryz.func153 fun w0 S0 => ?_
 refine wq rfl (qb rfl (qb rfl (qa rfl (qa rfl (Ac (wp rfl (qL CO BU rfl (qL Bn AW rfl ?_))))))))
 refine BD h fun v1 a1 h => Aw [] (Kl N p0 p1 v1 a1) VQ rfl (qa rfl (Ac (wq rfl (qm rfl (BA rfl (Ac ?_))))))
 refine Ba h (fun h => ?_) fun h => ?_
 ·refine wq rfl (qm rfl (qa rfl (qe rfl ?_)))
  obtain rfl := sj h
  refine Ae ((A9 4 2001 3 rfl rfl rfl).trans (sm [(1000, 2001)] [(4, oD (.own 1000)), (5, iD v1)] [(1000, .vec 3 ((([] : List Ab)).map AV))] rfl rfl)) (Ar ?_)
  exact ⟨⟨[_, _], ⟨.tmp _ _ rfl, tm⟩, rfl⟩, ⟨rfl, tv⟩⟩
 ·refine Ai (wq rfl (qa rfl (Ac (wp rfl (qf BK rfl (ql A7 rfl (AI Au rfl (qm rfl (Ac ?_)))))))))
  refine AC (L := Eg N p1) h (fun v3 => mk [(3, oD (.ptr 3 0)), (7, oD (.own 2002)), (22, pD (.sl (p1.fB.map Ak))), (23, iD ((p1.fB.length : Int))), (24, iD v3.2)] [(3, .box (AE p1)), (2002, .vec 1 (v3.1.map Ak))]) (fun v4 => mk [(3, oD (.ptr 3 0)), (7, oD (.own 2003))] [(3, .box (AE p1)), (2003, .vec 1 (v4.map Ak))]) (fun _ _ => rfl) ((A9 7 2005 1 rfl rfl rfl).trans (sm [(2002, 2005)] _ _ rfl rfl)) (fun j3 n3 v3 h => ?_) (fun v4 s h hs => ?_)
  ·unfold Eg at h
   refine wq rfl (AY rfl (Ac (AL ?_)))
   refine Ba h (fun h => ?_) fun h => ?_
   ·refine Ai ?_
    refine AS h (fun v6 => mk [(3, oD (.ptr 3 0)), (7, oD (.own 2004)), (22, pD (.sl (p1.fB.map Ak))), (23, iD ((p1.fB.length : Int))), (24, iD v3.2)] [(3, .box (AE p1)), (2004, .vec 1 (v6.map Ak))]) (fun j6 h => ?_) (fun v6 h => ?_)
    ·refine AJ (wq rfl (qm rfl ?_))
     refine BJ h fun v7 a7 b7 h => qi Au CK a7 (Af b7) rfl (qk B1 rfl (qa rfl (qa rfl (Ac (wq rfl (qm rfl (EF rfl (Ac ?_))))))))
     refine Ba h (fun h => ?_) fun h => ?_
     ·refine Ag Av rfl (qw 2 rfl (Dg Au CK I6 rfl ?_))
      refine FD h fun c9 h => Cu (f := Ak) Au Au CK Ki I6 c9 rfl (qe rfl ?_)
      exact sn [(2004, 34)] h
     ·refine Ai ?_
      exact sn [(2004, 2002)] h
    ·refine Ag Av rfl (A0 rfl (qm rfl (Ac ?_)))
     exact sn [(2002, 2004)] h
   ·refine AU ?_
    exact sn [(2003, 2002)] h
  ·refine Ae hs (wq rfl (qa rfl (Ac (wp rfl (qm rfl (Et Au rfl ?_))))))
   refine FD h fun c10 h => Jo rfl c10 (qm rfl (Ac ?_))
   refine AC (L := Dn N p1 v4) h (fun v11 => mk [(3, oD (.ptr 3 0)), (7, oD (.own 2006)), (10, oD (.own 2007)), (38, iD ((D6 .i64 1 ((v4.length : Int))))), (39, iD v11.2)] [(3, .box (AE p1)), (2006, .vec 1 (v4.map Ak)), (2007, .vec 3 (v11.1.map AV))]) (fun v12 => mk [(10, oD (.own 2008))] [(2008, .vec 3 (v12.map AV))]) (fun _ _ => rfl) ((A9 10 2027 3 rfl rfl rfl).trans (sm [(2006, 2003), (2007, 2027)] _ _ rfl rfl)) (fun j11 n11 v11 h => ?_) (fun v12 s h hs => ?_)
   ·unfold Dn at h
    refine wq rfl (AY rfl (Ac (AL ?_)))
    refine Ba h (fun h => ?_) fun h => ?_
    ·refine Ai (AL (AJ (wq rfl (qm rfl (qa rfl (Ac (wq rfl (qf Dd rfl (ql A7 rfl ?_)))))))))
     refine BD h fun v14 a14 h => Aw [2009] (Es N p1.fD v14 a14) XE rfl (qf BK rfl (ql A7 rfl ?_))
     refine BD h fun v15 a15 h => Aw [2010] (Es N p1.fB v15 a15) XE rfl (qf CW rfl (ql HO rfl ?_))
     refine BD h fun v16 a16 h => Aw [2011] (Gl N p1.fE v16 a16) ai rfl (Bk DG JL rfl (qz DG rfl (qs AW rfl (AM (by kernel_rfl) (wp rfl (qm rfl (Et Au rfl (qm rfl (Ac ?_)))))))))
     refine AC (L := Dm N v4 v11) h (fun v17 => mk [(3, oD (.ptr 3 0)), (7, oD (.own 2015)), (10, oD (.own 2016)), (11, iD v11.2), (12, oD (.ptr 12 0)), (38, iD ((D6 .i64 1 ((v4.length : Int))))), (39, iD v11.2), (52, oD (.own 2015)), (53, iD ((v4.length : Int))), (54, iD v17.2)] [(3, .box (AE p1)), (12, .box [.own 2012, .own 2013, .own 2014]), (2012, .vec 1 (v14.map Ak)), (2013, .vec 1 (v17.1.map Ak)), (2014, .vec 1 (v16.map DL)), (2015, .vec 1 (v4.map Ak)), (2016, .vec 3 (v11.1.map AV))]) (fun v18 => mk [(3, oD (.ptr 3 0)), (7, oD (.own 2020)), (10, oD (.own 2021)), (12, oD (.ptr 12 0)), (38, iD ((D6 .i64 1 ((v4.length : Int))))), (39, iD v11.2)] [(3, .box (AE p1)), (12, .box [.own 2017, .own 2018, .own 2019]), (2017, .vec 1 (v14.map Ak)), (2018, .vec 1 (v18.map Ak)), (2019, .vec 1 (v16.map DL)), (2020, .vec 1 (v4.map Ak)), (2021, .vec 3 (v11.1.map AV))]) (fun _ _ => rfl) (sm [(2012, 2009), (2013, 2010), (2014, 2011), (2015, 2006), (2016, 2007)] _ _ rfl rfl) (fun j17 n17 v17 h => ?_) (fun v18 s h hs => ?_)
     ·unfold Dm at h
      refine wq rfl (AY rfl (Ac (AL ?_)))
      refine Ba h (fun h => ?_) fun h => ?_
      ·refine Ai ?_
       refine AS h (fun v20 => mk [(3, oD (.ptr 3 0)), (7, oD (.own 2025)), (10, oD (.own 2026)), (11, iD v11.2), (12, oD (.ptr 12 0)), (38, iD ((D6 .i64 1 ((v4.length : Int))))), (39, iD v11.2), (52, oD (.own 2025)), (53, iD ((v4.length : Int))), (54, iD v17.2)] [(3, .box (AE p1)), (12, .box [.own 2022, .own 2023, .own 2024]), (2022, .vec 1 (v14.map Ak)), (2023, .vec 1 (v20.map Ak)), (2024, .vec 1 (v16.map DL)), (2025, .vec 1 (v4.map Ak)), (2026, .vec 3 (v11.1.map AV))]) (fun j20 h => ?_) (fun v20 h => ?_)
       ·refine AJ (wq rfl (qm rfl ?_))
        refine BJ h fun v21 a21 b21 h => qI Au CK a21 (Af b21) rfl (qj B1 (Af b21) rfl (qa rfl (qa rfl (Ac (wq rfl (qw 2 rfl ?_))))))
        refine FD h fun c22 h => GR rfl c22 (IG rfl (Cf rfl (Ac ?_)))
        refine Ba h (fun h => ?_) fun h => ?_
        ·refine Ag Av rfl (qf BK rfl (ql A7 rfl (qm rfl ?_)))
         refine BJ h fun v24 a24 b24 h => qI Au CK a24 (Af b24) rfl ?_
         refine DM rfl rfl rfl rfl (Af b24) rfl CK rfl (Jw rfl) (Dx Ak v17.1 _ ((-1))) ?_
         refine Ac ?_
         exact sn [(2022, 2012), (2023, 2013), (2024, 2014), (2025, 2015), (2026, 2016)] h
        ·refine Ai ?_
         exact sn [(2022, 2012), (2023, 2013), (2024, 2014), (2025, 2015), (2026, 2016)] h
       ·refine Ag Av rfl (A0 rfl (qm rfl (Ac ?_)))
        exact sn [(2012, 2022), (2013, 2023), (2014, 2024), (2015, 2025), (2016, 2026)] h
      ·refine AU ?_
       exact sn [(2017, 2012), (2018, 2013), (2019, 2014), (2020, 2015), (2021, 2016)] h
     ·refine Ae hs (Ag Av rfl (qm rfl (qL Bn AW rfl (CE (A4 2017 _ _ rfl rfl) (CE (A4 2018 _ _ rfl rfl) (CE (A4 2019 _ _ rfl rfl) (Dg D4 AW DG rfl ?_)))))))
      refine FD h fun c25 h => Cu (f := AV) D4 D4 AW Ro DG c25 rfl (qa rfl (Ac (Ag Av rfl (A0 rfl (qm rfl (Ac ?_))))))
      exact sn [(2006, 2020), (2007, 72)] h
    ·refine AU ?_
     exact sn [(2008, 2007)] h
   ·refine Ae hs (wq rfl (qm rfl (qa rfl (qe rfl ?_))))
    obtain rfl := sj h
    refine Ae (sm [(1000, 2008)] [(4, oD (.own 1000)), (5, iD 0)] [(1000, .vec 3 (v12.map AV))] rfl rfl) (Ar ?_)
    exact ⟨⟨[_, _], ⟨.tmp _ _ rfl, tm⟩, rfl⟩, ⟨rfl, tv⟩⟩
theorem O7 (N : Nat) (p0 : Aa) (p1 : Ab) (r : (List Ap)) (h : Gt N p0 p1 = some r) : An zA0 154 [.e (.agg (Ah p0)), .e (.agg (AE p1))] [(3, r.map A6)] (oD (.own 0)) := by
 unfold Gt at h
 refine cw (n := 98) (rs := [.tmp 4]) Tryz.func154 fun w0 S0 => ?_
 refine wq rfl (qb rfl (qb rfl (qa rfl (Ac (wq rfl (qa rfl (Ac (wp rfl (qf Cj rfl (ql Hp rfl (AI DD rfl (qm rfl (Ac ?_)))))))))))))
 refine AC (L := DP N p0 p1) h (fun v1 => mk [(3, oD (.ptr 3 0)), (5, oD (.own 2001)), (15, pD (.sl (p0.fC.map AO))), (16, iD ((p0.fC.length : Int))), (17, iD v1.2)] [(3, .box (AE p1)), (2001, .vec 3 (v1.1.map A6))]) (fun v2 => mk [(5, oD (.own 2002))] [(2002, .vec 3 (v2.map A6))]) (fun _ _ => rfl) ((A9 5 2013 3 rfl rfl rfl).trans (sm [(2001, 2013)] _ _ rfl rfl)) (fun j1 n1 v1 h => ?_) (fun v2 s h hs => ?_)
 ·unfold DP at h
  refine wq rfl (AY rfl (Ac (AL ?_)))
  refine Ba h (fun h => ?_) fun h => ?_
  ·refine Ai (AL (AJ (wq rfl (qm rfl ?_))))
   refine BJ h fun v4 a4 b4 h => qi DD Du a4 (Af b4) rfl (qK Ha Du rfl (qz Jl rfl (qa rfl (qs Du rfl (Ac (wq rfl (qL Bn AW rfl (qf Di rfl (ql B1 rfl ?_)))))))))
   refine BD h fun v5 a5 h => Aw [] (KG N p1 v4.fF v5 a5) Xd rfl (qL Bn AW rfl (qf HV rfl (ql B1 rfl ?_)))
   refine BD h fun v6 a6 h => Aw [] (KG N p1 v4.fJ v6 a6) Xd rfl (qa rfl (qa rfl (AM (by kernel_rfl) ?_)))
   refine AS h (fun v7 => mk [(3, oD (.ptr 3 0)), (5, oD (.own 2003)), (6, iD v1.2), (7, oD (.ptr 7 0)), (8, pD (.val (.int .u8 v7))), (9, pD (.val (.int .u8 v6))), (15, pD (.sl (p0.fC.map AO))), (16, iD ((p0.fC.length : Int))), (17, iD v1.2)] [(3, .box (AE p1)), (7, .box (Bg v4)), (2003, .vec 3 (v1.1.map A6))]) (fun j7 h => ?_) (fun v7 h => ?_)
   ·refine wq rfl (qL Ha Du rfl ?_)
    refine BD h fun v8 a8 h => Aw [] (K7 N v4 v8 a8) X9 rfl (Ac ?_)
    refine Ba h (fun h => ?_) fun h => ?_
    ·refine Ag Av rfl (qf CW rfl (ql HO rfl (qm rfl ?_)))
     refine BJ h fun v10 a10 b10 h => qi DB EA a10 (Af b10) rfl (qk Iy rfl (qe rfl ?_))
     exact sn [(2003, 2001)] h
    ·refine Ai ?_
     exact sn [(2003, 2001)] h
   ·refine wq rfl (qf Ht rfl (ql IL rfl (AI EL rfl (qm rfl (Ac ?_)))))
    refine AC (L := CC N v1 v4 v6 v7) h (fun v11 => mk [(3, oD (.ptr 3 0)), (5, oD (.own 2004)), (6, iD v1.2), (7, oD (.ptr 7 0)), (8, pD (.val (.int .u8 v7))), (9, pD (.val (.int .u8 v6))), (15, pD (.sl (p0.fC.map AO))), (16, iD ((p0.fC.length : Int))), (17, iD v1.2), (39, iD ((v4.fP.length : Int))), (40, iD v11.2)] [(3, .box (AE p1)), (7, .box (Bg v4)), (2004, .vec 3 (v11.1.map A6))]) (fun v12 => mk [(3, oD (.ptr 3 0)), (5, oD (.own 2005)), (15, pD (.sl (p0.fC.map AO))), (16, iD ((p0.fC.length : Int))), (17, iD v1.2)] [(3, .box (AE p1)), (2005, .vec 3 (v12.map A6))]) (fun _ _ => rfl) (sm [(2004, 2003)] _ _ rfl rfl) (fun j11 n11 v11 h => ?_) (fun v12 s h hs => ?_)
    ·unfold CC at h
     refine wq rfl (AY rfl (Ac (AL ?_)))
     refine Ba h (fun h => ?_) fun h => ?_
     ·refine Ai ?_
      refine AS h (fun v14 => mk [(3, oD (.ptr 3 0)), (5, oD (.own 2006)), (6, iD v1.2), (7, oD (.ptr 7 0)), (8, pD (.val (.int .u8 v7))), (9, pD (.val (.int .u8 v6))), (15, pD (.sl (p0.fC.map AO))), (16, iD ((p0.fC.length : Int))), (17, iD v1.2), (39, iD ((v4.fP.length : Int))), (40, iD v11.2)] [(3, .box (AE p1)), (7, .box (Bg v4)), (2006, .vec 3 (v14.map A6))]) (fun j14 h => ?_) (fun v14 h => ?_)
      ·refine AJ (wq rfl (qm rfl (qa rfl (Ac (wp rfl (qw 2 rfl ?_))))))
       refine FD h fun c15 h => GR rfl c15 (IG rfl (Cf rfl (Ac ?_)))
       refine Ba h (fun h => ?_) fun h => ?_
       ·refine AU ?_
        exact sn [(2006, 2004)] h
       ·refine Ai (wq rfl (qa rfl (Ac (wp rfl (qf Ht rfl (ql IL rfl (qm rfl ?_)))))))
        refine BJ h fun v17 a17 b17 h => qi EL Ka a17 (Af b17) rfl (qk O9 rfl (AI FC rfl (qm rfl (Ac ?_))))
        refine AC (L := B9 N v1 v4 v6 v11 v17) h (fun v18 => mk [(3, oD (.ptr 3 0)), (5, oD (.own 2007)), (6, iD v1.2), (7, oD (.ptr 7 0)), (8, pD (.val (.int .u8 v7))), (9, pD (.val (.int .u8 v6))), (10, iD v11.2), (11, bD v18.2.1), (15, pD (.sl (p0.fC.map AO))), (16, iD ((p0.fC.length : Int))), (17, iD v1.2), (39, iD ((v4.fP.length : Int))), (40, iD v11.2), (52, pD (.sl (v17.map eB))), (53, iD ((v17.length : Int))), (54, iD v18.2.2)] [(3, .box (AE p1)), (7, .box (Bg v4)), (2007, .vec 3 (v18.1.map A6))]) (fun v19 => mk [(3, oD (.ptr 3 0)), (5, oD (.own 2008)), (6, iD v1.2), (7, oD (.ptr 7 0)), (8, pD (.val (.int .u8 v7))), (9, pD (.val (.int .u8 v6))), (10, iD v11.2), (11, bD v19.2), (15, pD (.sl (p0.fC.map AO))), (16, iD ((p0.fC.length : Int))), (17, iD v1.2), (39, iD ((v4.fP.length : Int))), (40, iD v11.2)] [(3, .box (AE p1)), (7, .box (Bg v4)), (2008, .vec 3 (v19.1.map A6))]) (fun _ _ => rfl) (sm [(2007, 2004)] _ _ rfl rfl) (fun j18 n18 v18 h => ?_) (fun v19 s h hs => ?_)
        ·unfold B9 at h
         refine wq rfl (AY rfl (Ac (AL ?_)))
         refine Ba h (fun h => ?_) fun h => ?_
         ·refine Ai ?_
          refine AS h (fun v21 => mk [(3, oD (.ptr 3 0)), (5, oD (.own 2009)), (6, iD v1.2), (7, oD (.ptr 7 0)), (8, pD (.val (.int .u8 v7))), (9, pD (.val (.int .u8 v6))), (10, iD v11.2), (11, bD v21.2), (15, pD (.sl (p0.fC.map AO))), (16, iD ((p0.fC.length : Int))), (17, iD v1.2), (39, iD ((v4.fP.length : Int))), (40, iD v11.2), (52, pD (.sl (v17.map eB))), (53, iD ((v17.length : Int))), (54, iD v18.2.2)] [(3, .box (AE p1)), (7, .box (Bg v4)), (2009, .vec 3 (v21.1.map A6))]) (fun j21 h => ?_) (fun v21 h => ?_)
          ·refine AJ (wq rfl (qm rfl ?_))
           refine BJ h fun v22 a22 b22 h => qi FC PB a22 (Af b22) rfl (qk Uq rfl (qa rfl (qa rfl (Ac (wp rfl (qw 2 rfl ?_))))))
           refine FD h fun c23 h => GR rfl c23 (IG rfl (Cf rfl (Ac ?_)))
           refine Ba h (fun h => ?_) fun h => ?_
           ·refine AU ?_
            exact sn [(2009, 2007)] h
           ·refine Ai ?_
            refine AS h (fun v25 => mk [(3, oD (.ptr 3 0)), (5, oD (.own 2010)), (6, iD v1.2), (7, oD (.ptr 7 0)), (8, pD (.val (.int .u8 v7))), (9, pD (.val (.int .u8 v6))), (10, iD v11.2), (11, bD v25), (12, iD v18.2.2), (13, bD v22), (15, pD (.sl (p0.fC.map AO))), (16, iD ((p0.fC.length : Int))), (17, iD v1.2), (39, iD ((v4.fP.length : Int))), (40, iD v11.2), (52, pD (.sl (v17.map eB))), (53, iD ((v17.length : Int))), (54, iD v18.2.2)] [(3, .box (AE p1)), (7, .box (Bg v4)), (2010, .vec 3 (v18.1.map A6))]) (fun j25 h => ?_) (fun v25 h => ?_)
            ·refine Ag Av rfl (qw 2 rfl ?_)
             refine En 65 h rfl (fun h => ?_) fun h => ?_
             ·refine qn rfl (qp rfl (qe rfl ?_))
              exact sn [(2010, 2007)] h
             ·refine qm rfl (qp rfl (qe rfl ?_))
              exact sn [(2010, 2007)] h
            ·refine AS h (fun v27 => mk [(3, oD (.ptr 3 0)), (5, oD (.own 2011)), (6, iD v1.2), (7, oD (.ptr 7 0)), (8, pD (.val (.int .u8 v7))), (9, pD (.val (.int .u8 v6))), (10, iD v11.2), (11, bD v25), (12, iD v18.2.2), (15, pD (.sl (p0.fC.map AO))), (16, iD ((p0.fC.length : Int))), (17, iD v1.2), (39, iD ((v4.fP.length : Int))), (40, iD v11.2), (52, pD (.sl (v17.map eB))), (53, iD ((v17.length : Int))), (54, iD v18.2.2), (74, bD v27)] [(3, .box (AE p1)), (7, .box (Bg v4)), (2011, .vec 3 (v18.1.map A6))]) (fun j27 h => ?_) (fun v27 h => ?_)
             ·refine Ag Av rfl (qm rfl (Cp rfl (qm rfl ?_)))
              refine En 70 h rfl (fun h => ?_) fun h => ?_
              ·refine qf JD rfl (ql Uq rfl (Cp rfl (qp rfl (Ac ?_))))
               exact sn [(2011, 2010)] h
              ·refine qw 3 rfl (qp rfl (Ac ?_))
               exact sn [(2011, 2010)] h
             ·refine Ba h (fun h => ?_) fun h => ?_
              ·refine Ag Av rfl (qw 4 rfl (Bk Jr RO rfl (Dg H3 Ja Jr rfl ?_)))
               refine FD h fun c30 h => Cu (f := A6) H3 H3 Ja SJ Jr c30 rfl (qe rfl ?_)
               exact sn [(2009, 81)] h
              ·refine Ai ?_
               exact sn [(2009, 2011)] h
          ·refine Ag Av rfl (A0 rfl (qm rfl (Ac ?_)))
           exact sn [(2007, 2009)] h
         ·refine AU ?_
          exact sn [(2008, 2007)] h
        ·refine Ae hs ?_
         refine AS h (fun v31 => mk [(3, oD (.ptr 3 0)), (5, oD (.own 2012)), (6, iD v1.2), (7, oD (.ptr 7 0)), (8, pD (.val (.int .u8 v7))), (9, pD (.val (.int .u8 v6))), (10, iD v11.2), (15, pD (.sl (p0.fC.map AO))), (16, iD ((p0.fC.length : Int))), (17, iD v1.2), (39, iD ((v4.fP.length : Int))), (40, iD v11.2), (88, bD v31)] [(3, .box (AE p1)), (7, .box (Bg v4)), (2012, .vec 3 (v19.1.map A6))]) (fun j31 h => ?_) (fun v31 h => ?_)
         ·refine Ag Av rfl (qf JD rfl (ql Uq rfl (qm rfl ?_)))
          refine En 85 h rfl (fun h => ?_) fun h => ?_
          ·refine qm rfl (Cp rfl (qp rfl (Ac ?_)))
           exact sn [(2012, 2008)] h
          ·refine qw 2 rfl (qp rfl (Ac ?_))
           exact sn [(2012, 2008)] h
         ·refine Ba h (fun h => ?_) fun h => ?_
          ·refine Ag Av rfl (qw 3 rfl (Bk Jr RO rfl (Dg H3 Ja Jr rfl ?_)))
           refine FD h fun c34 h => Cu (f := A6) H3 H3 Ja SJ Jr c34 rfl (qe rfl ?_)
           exact sn [(2006, 94)] h
          ·refine Ai ?_
           exact sn [(2006, 2012)] h
      ·refine Ag Av rfl (A0 rfl (qm rfl (Ac ?_)))
       exact sn [(2004, 2006)] h
     ·refine AU ?_
      exact sn [(2005, 2004)] h
    ·refine Ae hs (Ag Av rfl (A0 rfl (qm rfl (Ac ?_))))
     exact sn [(2001, 2005)] h
  ·refine AU ?_
   exact sn [(2002, 2001)] h
 ·refine Ae hs (wq rfl (qm rfl (qe rfl ?_)))
  obtain rfl := sj h
  refine Ae (sm [(1000, 2002)] [(4, oD (.own 1000))] [(1000, .vec 3 (v2.map A6))] rfl rfl) (Ar ?_)
  exact ⟨⟨[_], tm, rfl⟩, ⟨rfl, tv⟩⟩
theorem Th (N : Nat) (p0 : Aa) (p1 : Ab) (r : Ab × Ap × Int) (h : GI N p0 p1 = some r) : An zA0 117 [.e (.agg (Ah p0)), .e (.agg (AE p1))] [] (.tup [.agg (AE r.1), .agg (NH r.2.1), .one (iC r.2.2)]) := by
 unfold GI at h
 refine cw (n := 42) (rs := [.cell 4 49, .cell 5 149, .tmp 6]) Tryz.func117 fun w0 S0 => ?_
 refine wq rfl (qb rfl (qb rfl (qz DG rfl (qz Jr rfl (qa rfl (Ac (wq rfl (qL CO BU rfl (qL Bn AW rfl ?_)))))))))
 refine BD h fun v1 a1 h => Aw [2001] (SH N p0 p1 v1 a1) cM rfl (qm rfl (qx rfl (qx rfl (qa rfl (qa rfl (Ac (wp rfl (qm rfl (BA rfl (Ac ?_))))))))))
 refine Ba h (fun h => ?_) fun h => ?_
 ·refine wq rfl (Bk DG JL rfl (Bk Jr RO rfl (qm rfl (qs AW rfl (qs Ja rfl (qe rfl ?_))))))
  obtain rfl := sj h
  refine Ae ((RP 4 _ rfl).trans (sm [] [(4, oD (.ptr 4 0)), (5, oD (.ptr 5 0)), (6, iD v1.2)] [(4, .box [sC ((([] : List Int)).map Ak), sC ((([] : List Int)).map Ak), sC ((([] : List Int)).map DL)]), (5, .box [iC 0, iC 0, iC 0])] rfl rfl)) (Ar ?_)
  exact ⟨⟨[_, _, _], ⟨.cellN _ _ _ _ _ _ _ rfl rfl Bn AW rfl rfl (JG rfl), ⟨.cellN _ _ _ _ _ _ _ rfl rfl VL Ja rfl rfl (JG rfl), tm⟩⟩, rfl⟩, tv⟩
 ·refine Ai (wp rfl (qm rfl (Et D4 rfl (qm rfl (Ac ?_)))))
  refine AC (L := Fj N p0 v1) h (fun v3 => mk [(2, oD (.ptr 2 0)), (4, oD (.ptr 4 0)), (5, oD (.ptr 5 0)), (23, oD (.own 2002)), (24, iD ((v1.1.length : Int))), (25, iD v3)] [(2, .box (Ah p0)), (4, .box [.pure (.nil0), .pure (.nil0), .pure (.nil0)]), (5, .box [iC 0, iC 0, iC 0]), (2002, .vec 3 (v1.1.map AV))]) (fun v4 => mk [(4, oD (.ptr 4 0)), (5, oD (.ptr 5 0))] [(4, .box [.pure (.nil0), .pure (.nil0), .pure (.nil0)]), (5, .box [iC 0, iC 0, iC 0])]) (fun _ _ => rfl) (sm [(2002, 2001)] _ _ rfl rfl) (fun j3 n3 v3 h => ?_) (fun v4 s h hs => ?_)
  ·unfold Fj at h
   refine wq rfl (AY rfl (Ac (AL ?_)))
   refine Ba h (fun h => ?_) fun h => ?_
   ·refine Ai (AL (AJ (wq rfl ?_)))
    refine BJ h fun v6 a6 b6 h => qI D4 AW a6 (Af b6) rfl (qJ Bn AW (Af b6) rfl (qz DG rfl (qs AW rfl (Ac (wq rfl (qL CO BU rfl (qL Bn AW rfl ?_)))))))
    refine BD h fun v7 a7 h => Aw [2003] (O7 N p0 v6 v7 a7) cH rfl (qa rfl (Ac (wq rfl (qm rfl (Et H3 rfl (Gg rfl (Ac ?_)))))))
    refine Ba h (fun h => ?_) fun h => ?_
    ·refine wq rfl (qL Bn AW rfl (qm rfl ?_))
     refine BJ h fun v9 a9 b9 h => qI H3 Ja a9 (Af b9) rfl (qJ VL Ja (Af b9) rfl (qs AW rfl (qs Ja rfl (qa rfl (AM (by kernel_rfl) ?_)))))
     obtain rfl := sj h
     refine Ae (sm [] [(4, oD (.ptr 4 0)), (5, oD (.ptr 5 0)), (6, iD 0)] [(4, .box (AE v6)), (5, .box (NH v9))] rfl rfl) (Ar ?_)
     exact ⟨⟨[_, _, _], ⟨.cellN _ _ _ _ _ _ _ rfl rfl Bn AW rfl rfl (JG rfl), ⟨.cellN _ _ _ _ _ _ _ rfl rfl VL Ja rfl rfl (JG rfl), tm⟩⟩, rfl⟩, tv⟩
    ·refine Ai (Ag Av rfl (A0 rfl (qm rfl (Ac ?_))))
     exact sn [] h
   ·refine AU ?_
    exact sn [] h
  ·refine Ae hs (wq rfl (Bk DG JL rfl (Bk Jr RO rfl (qs AW rfl (qs Ja rfl (qe rfl ?_))))))
   obtain rfl := sj h
   refine Ae ((RP 4 _ rfl).trans (sm [] [(4, oD (.ptr 4 0)), (5, oD (.ptr 5 0)), (6, iD 15)] [(4, .box [sC ((([] : List Int)).map Ak), sC ((([] : List Int)).map Ak), sC ((([] : List Int)).map DL)]), (5, .box [iC 0, iC 0, iC 0])] rfl rfl)) (Ar ?_)
   exact ⟨⟨[_, _, _], ⟨.cellN _ _ _ _ _ _ _ rfl rfl Bn AW rfl rfl (JG rfl), ⟨.cellN _ _ _ _ _ _ _ rfl rfl VL Ja rfl rfl (JG rfl), tm⟩⟩, rfl⟩, tv⟩
theorem Ik (N : Nat) (p0 : Aa) (p1 : Ab) (r : Bool × Int) (h : D0 N p0 p1 = some r) : An zA0 83 [.e (.agg (Ah p0)), .e (.agg (AE p1))] [] (.tup [.one (.pure (.val (.bool r.1))), .one (iC r.2)]) := by
 unfold D0 at h
 refine cw (n := 22) (rs := [.tmp 4, .tmp 5]) Tryz.func83 fun w0 S0 => ?_
 refine wq rfl (qb rfl (qb rfl (qa rfl (qa rfl (Ac (wq rfl (qL CO BU rfl (qL Bn AW rfl ?_))))))))
 refine BD h fun v1 a1 h => Aw [] (Th N p0 p1 v1 a1) cU rfl (qm rfl (qx rfl (qx rfl (qx rfl (qz DG rfl (qz Jr rfl (qs AW rfl (qs Ja rfl (qa rfl (Ac (wq rfl (qm rfl (Ac (AJ (wq rfl (Cf rfl (qe rfl ?_)))))))))))))))))
 refine Ba h (fun h => ?_) fun h => ?_
 ·refine wq rfl (qa rfl (qe rfl ?_))
  obtain rfl := sj h
  refine Ae (sm [] [(4, bD false), (5, iD 0)] [] rfl rfl) (Ar ?_)
  exact ⟨⟨[_, _], ⟨.tmp _ _ rfl, tm⟩, rfl⟩, tv⟩
 ·refine wq rfl (Cf rfl (qe rfl ?_))
  refine Ba h (fun h => ?_) fun h => ?_
  ·refine wq rfl (qa rfl (qe rfl ?_))
   obtain rfl := sj h
   refine Ae (sm [] [(4, bD true), (5, iD 0)] [] rfl rfl) (Ar ?_)
   exact ⟨⟨[_, _], ⟨.tmp _ _ rfl, tm⟩, rfl⟩, tv⟩
  ·refine wq rfl (qm rfl (qa rfl (qe rfl ?_)))
   obtain rfl := sj h
   refine Ae (sm [] [(4, bD false), (5, iD v1.2.2)] [] rfl rfl) (Ar ?_)
   exact ⟨⟨[_, _], ⟨.tmp _ _ rfl, tm⟩, rfl⟩, tv⟩
theorem Pv (N : Nat) (p0 : Ab) (r : ByteArray) (h : H8 N p0 = some r) : An zA0 138 [.e (.agg (AE p0))] [] (pD (.val (.string r))) := by
 unfold H8 at h
 refine cw (n := 53) (rs := [.tmp 2]) Tryz.func138 fun w0 S0 => ?_
 refine wq rfl (qb rfl (qa rfl (Ac (wq rfl (qf Dd rfl (ql A7 rfl (AI Au rfl (NQ rfl (qf CW rfl (ql HO rfl (AI DB rfl (A0 rfl ?_))))))))))))
 refine FD h fun c1 h => LO (.p rfl) rfl rfl rfl Lw bi bB (Jw rfl) dT rfl rfl rfl c1.1 c1.2.1 c1.2.2 (R8 DL _ ((0 : Int))) ?_
 refine qa rfl (Ac (wp rfl (qf Dd rfl (ql A7 rfl (AI Au rfl (qm rfl (Ac ?_)))))))
 refine AC (L := Fc N p0) h (fun v2 => mk [(1, oD (.ptr 1 0)), (3, oD (.own 2001)), (18, iD ((p0.fD.length : Int))), (19, iD v2.2)] [(1, .box (AE p0)), (2001, .vec 1 (v2.1.map DL))]) (fun v3 => mk [(1, oD (.ptr 1 0)), (3, oD (.own 2002))] [(1, .box (AE p0)), (2002, .vec 1 (v3.map DL))]) (fun _ _ => rfl) (sm [(2001, 15)] _ _ rfl rfl) (fun j2 n2 v2 h => ?_) (fun v3 s h hs => ?_)
 ·unfold Fc at h
  refine wq rfl (AY rfl (Ac (AL ?_)))
  refine Ba h (fun h => ?_) fun h => ?_
  ·refine Ai (AL (AJ (wq rfl (qm rfl (qa rfl (Ac (Ag Av rfl (qm rfl (qf Dd rfl (ql A7 rfl (qm rfl ?_)))))))))))
   refine BJ h fun v5 a5 b5 h => qi Au CK a5 (Af b5) rfl (qk B1 rfl (Jj dm fw rfl (qf BK rfl (ql A7 rfl (qm rfl ?_)))))
   refine BJ h fun v6 a6 b6 h => qi Au CK a6 (Af b6) rfl (qk B1 rfl (A0 rfl (Jj dm fw rfl (Dg Lw bi dT rfl ?_))))
   refine FD h fun c7 h => Cu (f := DL) Lw Lw bi bB dT c7 rfl (qa rfl (AM (by kernel_rfl) (Ag Av rfl (A0 rfl (qm rfl (Ac ?_))))))
   exact sn [(2001, 37)] h
  ·refine AU ?_
   exact sn [(2002, 2001)] h
 ·refine Ae hs (wp rfl (qf CW rfl (ql HO rfl (AI DB rfl (qm rfl (Ac ?_))))))
  refine AC (L := D2 N p0) h (fun v8 => mk [(3, oD (.own 2003)), (40, pD (.sl (p0.fE.map DL))), (41, iD ((p0.fE.length : Int))), (42, iD v8.2)] [(2003, .vec 1 (v8.1.map DL))]) (fun v9 => mk [(3, oD (.own 2004))] [(2004, .vec 1 (v9.map DL))]) (fun _ _ => rfl) (sm [(2003, 2002)] _ _ rfl rfl) (fun j8 n8 v8 h => ?_) (fun v9 s h hs => ?_)
  ·unfold D2 at h
   refine wq rfl (AY rfl (Ac (AL ?_)))
   refine Ba h (fun h => ?_) fun h => ?_
   ·refine Ai (AL (AJ (wq rfl ?_)))
    refine BJ h fun v11 a11 b11 h => qi DB EA a11 (Af b11) rfl (qk Iy rfl (qa rfl (Ac (Ag Av rfl (qw 2 rfl (Dg Lw bi dT rfl ?_))))))
    refine FD h fun c12 h => Cu (f := DL) Lw Lw bi bB dT c12 rfl (qa rfl (Ac (Ag Av rfl (A0 rfl (qm rfl (Ac ?_))))))
    exact sn [(2003, 49)] h
   ·refine AU ?_
    exact sn [(2004, 2003)] h
  ·refine Ae hs (wq rfl (qm rfl ?_))
   refine X0 v9 (.p rfl) rfl (Xq DL _ _ _) ⟨rfl, tv⟩ rfl dS Wd ?_
   refine qa rfl (Ac ?_)
   obtain rfl := sj h
   refine Ae (sm [] [(2, pD (.val (.string ((CX v9)))))] [] rfl rfl) (Ar ?_)
   exact ⟨⟨[_], tm, rfl⟩, tv⟩
theorem UE (N : Nat) (p0 : Aa) (r : (List Ad)) (h : I5 N p0 = some r) : An zA0 125 [.e (.agg (Ah p0))] [(3, r.map AG)] (oD (.own 0)) := by
 unfold I5 at h
 refine cw (n := 54) (rs := [.tmp 2]) Tryz.func125 fun w0 S0 => ?_
 refine wq rfl (qb rfl (qa rfl (Ac (wq rfl (qa rfl (Ac (wp rfl (qf Bb rfl (ql A7 rfl (AI Au rfl (qm rfl (Ac ?_))))))))))))
 refine AC (L := DC N p0) h (fun v1 => mk [(1, oD (.ptr 1 0)), (3, oD (.own 2001)), (10, pD (.sl (p0.fA.map Ak))), (11, iD ((p0.fA.length : Int))), (12, iD v1.2)] [(1, .box (Ah p0)), (2001, .vec 3 (v1.1.map AG))]) (fun v2 => mk [(1, oD (.ptr 1 0)), (3, oD (.own 2002))] [(1, .box (Ah p0)), (2002, .vec 3 (v2.map AG))]) (fun _ _ => rfl) ((A9 3 2005 3 rfl rfl rfl).trans (sm [(2001, 2005)] _ _ rfl rfl)) (fun j1 n1 v1 h => ?_) (fun v2 s h hs => ?_)
 ·unfold DC at h
  refine wq rfl (AY rfl (Ac (AL ?_)))
  refine Ba h (fun h => ?_) fun h => ?_
  ·refine Ai (AL (AJ (wq rfl (qm rfl ?_))))
   refine BJ h fun v4 a4 b4 h => qi Au CK a4 (Af b4) rfl (qk B1 rfl (qa rfl (qa rfl (Ac (wq rfl (qw 2 rfl (Ac ?_)))))))
   refine AC (L := E9 N v1 v4) h (fun v5 => mk [(1, oD (.ptr 1 0)), (3, oD (.own 2003)), (4, iD v1.2), (10, pD (.sl (p0.fA.map Ak))), (11, iD ((p0.fA.length : Int))), (12, iD v1.2), (17, iD v4), (18, iD v5.2)] [(1, .box (Ah p0)), (2003, .vec 3 (v5.1.map AG))]) (fun v6 => mk [(1, oD (.ptr 1 0)), (3, oD (.own 2004)), (10, pD (.sl (p0.fA.map Ak))), (11, iD ((p0.fA.length : Int))), (12, iD v1.2)] [(1, .box (Ah p0)), (2004, .vec 3 (v6.map AG))]) (fun _ _ => rfl) (sm [(2003, 2001)] _ _ rfl rfl) (fun j5 n5 v5 h => ?_) (fun v6 s h hs => ?_)
   ·unfold E9 at h
    refine wq rfl (AY rfl (Ac (AL ?_)))
    refine Ba h (fun h => ?_) fun h => ?_
    ·refine Ai (AL (AJ (wq rfl (qm rfl (qa rfl (Ac (Ag Av rfl (qw 3 rfl (Bk Lq Zf rfl (Dg EG EE Lq rfl ?_))))))))))
     refine FD h fun c8 h => Cu (f := AG) EG EG EE TQ Lq c8 rfl (qa rfl (Ac (Ag Av rfl (A0 rfl (qm rfl (Ac ?_))))))
     exact sn [(2003, 26)] h
    ·refine AU ?_
     exact sn [(2004, 2003)] h
   ·refine Ae hs (Ag Av rfl (A0 rfl (qm rfl (Ac ?_))))
    exact sn [(2001, 2004)] h
  ·refine AU ?_
   exact sn [(2002, 2001)] h
 ·refine Ae hs (wp rfl (qf Bb rfl (ql A7 rfl (AI Au rfl (qm rfl (Ac ?_))))))
  refine AC (L := CI N p0) h (fun v9 => mk [(1, oD (.ptr 1 0)), (3, oD (.own 2006)), (31, iD ((p0.fA.length : Int))), (32, iD v9.2)] [(1, .box (Ah p0)), (2006, .vec 3 (v9.1.map AG))]) (fun v10 => mk [(1, oD (.ptr 1 0)), (3, oD (.own 2007))] [(1, .box (Ah p0)), (2007, .vec 3 (v10.map AG))]) (fun _ _ => rfl) (sm [(2006, 2002)] _ _ rfl rfl) (fun j9 n9 v9 h => ?_) (fun v10 s h hs => ?_)
  ·unfold CI at h
   refine wq rfl (AY rfl (Ac (AL ?_)))
   refine Ba h (fun h => ?_) fun h => ?_
   ·refine Ai (AL (AJ (wq rfl (qm rfl (qa rfl (Ac (Ag Av rfl (qw 2 rfl (Bk Lq Zf rfl (Dg EG EE Lq rfl ?_))))))))))
    refine FD h fun c12 h => Cu (f := AG) EG EG EE TQ Lq c12 rfl (qa rfl (Ac (Ag Av rfl (A0 rfl (qm rfl (Ac ?_))))))
    exact sn [(2006, 39)] h
   ·refine AU ?_
    exact sn [(2007, 2006)] h
  ·refine Ae hs (wp rfl (qf Cj rfl (ql Hp rfl (AI DD rfl (qm rfl (Ac ?_))))))
   refine AC (L := BB N p0) h (fun v13 => mk [(3, oD (.own 2008)), (43, iD ((p0.fC.length : Int))), (44, iD v13.2)] [(2008, .vec 3 (v13.1.map AG))]) (fun v14 => mk [(3, oD (.own 2009))] [(2009, .vec 3 (v14.map AG))]) (fun _ _ => rfl) (sm [(2008, 2007)] _ _ rfl rfl) (fun j13 n13 v13 h => ?_) (fun v14 s h hs => ?_)
   ·unfold BB at h
    refine wq rfl (AY rfl (Ac (AL ?_)))
    refine Ba h (fun h => ?_) fun h => ?_
    ·refine Ai (AL (AJ (wq rfl (qm rfl (qa rfl (Ac (Ag Av rfl (qw 2 rfl (Bk Lq Zf rfl (Dg EG EE Lq rfl ?_))))))))))
     refine FD h fun c16 h => Cu (f := AG) EG EG EE TQ Lq c16 rfl (qa rfl (Ac (Ag Av rfl (A0 rfl (qm rfl (Ac ?_))))))
     exact sn [(2008, 51)] h
    ·refine AU ?_
     exact sn [(2009, 2008)] h
   ·refine Ae hs (wq rfl (qm rfl (qe rfl ?_)))
    obtain rfl := sj h
    refine Ae (sm [(1000, 2009)] [(2, oD (.own 1000))] [(1000, .vec 3 (v14.map AG))] rfl rfl) (Ar ?_)
    exact ⟨⟨[_], tm, rfl⟩, ⟨rfl, tv⟩⟩
theorem QW (N : Nat) (p0 : Ab) (r : Ab) (h : He N p0 = some r) : An zA0 159 [.e (.agg (AE p0))] [(1, r.fD.map Ak), (1, r.fB.map Ak), (1, r.fE.map DL)] (.e (.agg [.own 0, .own 1, .own 2])) := by
 unfold He at h
 refine cw (n := 13) (rs := [.cell 2 49]) Tryz.func159 fun w0 S0 => ?_
 refine wq rfl (qb rfl (qz DG rfl (Ac (wq rfl (qf Dd rfl (ql A7 rfl ?_))))))
 refine BD h fun v1 a1 h => Aw [2001] (Es N p0.fD v1 a1) XE rfl (qf BK rfl (ql A7 rfl ?_))
 refine BD h fun v2 a2 h => Aw [2002] (Es N p0.fB v2 a2) XE rfl (qf CW rfl (ql HO rfl ?_))
 refine BD h fun v3 a3 h => Aw [2003] (Gl N p0.fE v3 a3) ai rfl (Bk DG JL rfl (qs AW rfl (AM (by kernel_rfl) ?_)))
 obtain rfl := sj h
 refine Ae (sm [(1000, 2001), (1001, 2002), (1002, 2003)] [(2, oD (.ptr 2 0))] [(2, .box [.own 1000, .own 1001, .own 1002]), (1000, .vec 1 (v1.map Ak)), (1001, .vec 1 (v2.map Ak)), (1002, .vec 1 (v3.map DL))] rfl rfl) (Ar ?_)
 exact ⟨⟨[_], ⟨.cellN _ _ _ _ _ _ _ rfl rfl Bn AW rfl rfl (JG rfl), tv⟩, rfl⟩, ⟨rfl, rfl, rfl, tv⟩⟩
theorem MV (N : Nat) (p0 : Am) (r : Bool) (h : Gs N p0 = some r) : An zA0 176 [.e (.agg (Bg p0))] [] (bD r) := by
 unfold Gs at h
 refine cw (n := 11) (rs := [.tmp 2]) Tryz.func176 fun w0 S0 => ?_
 refine wq rfl (qb rfl (qe rfl ?_))
 refine AS h (fun v1 => mk [(2, bD v1)] []) (fun j1 h => ?_) (fun v1 h => ?_)
 ·refine Ag Av rfl (qf GH rfl (ql B1 rfl (Cf rfl (qm rfl ?_))))
  refine En 6 h rfl (fun h => ?_) fun h => ?_
  ·refine qw 3 rfl (qp rfl (qe rfl ?_))
   exact sn [] h
  ·refine qf GH rfl (ql B1 rfl (Cf rfl (qp rfl (qe rfl ?_))))
   exact sn [] h
 ·obtain rfl := sj h
  refine Ae (sm [] [(2, bD v1)] [] rfl rfl) (Ar ?_)
  exact ⟨⟨[_], tm, rfl⟩, tv⟩
theorem SP (N : Nat) (p0 : Aa) (p1 : Ab) (p2 : Ad) (r : Bool × (List Int) × (List Int)) (h : I1 N p0 p1 p2 = some r) : EP zA0 160 [.e (.agg (Ah p0)), oD (.ptr 90000 0), .e (.agg (DA p2))] [(.box [.own 90001, .own 90002, .own 90003], .box [.own 90001, .own 90002, .own 90003]), (.vec 1 (p1.fD.map Ak), .vec 1 (p1.fD.map Ak)), (.vec 1 (p1.fB.map Ak), .vec 1 (r.2.1.map Ak)), (.vec 1 (p1.fE.map DL), .vec 1 (r.2.2.map DL))] [] (bD r.1) := by
 unfold I1 at h
 refine G9 (n := 70) (rs := [.tmp 6]) Tryz.func160 rfl rfl rfl (Jw rfl) (Jw rfl) rfl rfl (Jw rfl) rfl (Jw rfl) fun w0 S0 GL => ?_
 refine Ae (sm [] [(0, .e (.agg (Ah p0))), (1, oD (.ptr 90000 0)), (2, .e (.agg (DA p2)))] [(90000, .box [.own 90001, .own 90002, .own 90003]), (90001, .vec 1 (p1.fD.map Ak)), (90002, .vec 1 (p1.fB.map Ak)), (90003, .vec 1 (p1.fE.map DL))] rfl rfl) (wq rfl (qb rfl (qb rfl (qa rfl (Ac (AL ?_))))))
 refine AS h (fun v1 => mk [(1, oD (.ptr 90000 0)), (3, oD (.ptr 3 0)), (5, oD (.ptr 5 0)), (30, bD v1)] [(3, .box (Ah p0)), (5, .box (DA p2)), (90000, .box [.own 90001, .own 90002, .own 90003]), (90001, .vec 1 (p1.fD.map Ak)), (90002, .vec 1 (p1.fB.map Ak)), (90003, .vec 1 (p1.fE.map DL))]) (fun j1 h => ?_) (fun v1 h => ?_)
 ·refine Ag Av rfl (qm rfl (ZJ rfl (qf BK rfl (ql A7 rfl (qf FG rfl (ql B1 rfl ?_))))))
  refine BJ h fun v2 a2 b2 h => qI Au CK a2 (Af b2) rfl (qj B1 (Af b2) rfl (EF rfl (qm rfl ?_)))
  refine En 18 h rfl (fun h => ?_) fun h => ?_
  ·refine qw 11 rfl (qp rfl (AM (by kernel_rfl) ?_))
   exact sn [] h
  ·refine qm rfl (ZJ rfl (qf Dd rfl (ql A7 rfl (qf FG rfl (ql B1 rfl ?_)))))
   refine BJ h fun v4 a4 b4 h => qI Au CK a4 (Af b4) rfl (qj B1 (Af b4) rfl (qf HZ rfl (ql B1 rfl (Cf rfl (qp rfl (AM (by kernel_rfl) ?_))))))
   exact sn [] h
 ·refine Ba h (fun h => ?_) fun h => ?_
  ·refine wq rfl (qe rfl ?_)
   obtain rfl := sj h
   refine Ae (sm [] [(6, bD false)] [(90000, .box [.own 90001, .own 90002, .own 90003]), (90001, .vec 1 (p1.fD.map Ak)), (90002, .vec 1 (p1.fB.map Ak)), (90003, .vec 1 (p1.fE.map DL))] rfl rfl) (Ar ?_)
   exact ⟨⟨[_], tm, rfl⟩, ⟨rfl, rfl, rfl, rfl, tv⟩, tv⟩
  ·refine Ai (wq rfl (qm rfl (ZJ rfl (qf BK rfl (ql A7 rfl (qf FG rfl (ql B1 rfl (qf HZ rfl (ql B1 rfl ?_)))))))))
   refine BJ h fun v6 a6 b6 h => qI Au CK a6 (Af b6) rfl ?_
   refine DM rfl rfl rfl rfl (Af b6) rfl CK rfl (Jw rfl) (Dx Ak p1.fB _ p2.fO) ?_
   refine AM (by kernel_rfl) (wp rfl (qf Cj rfl (ql Hp rfl (AI DD rfl (qm rfl (Ac ?_))))))
   refine AC (L := Ej N p0 p2) h (fun v7 => mk [(1, oD (.ptr 90000 0)), (5, oD (.ptr 5 0)), (41, pD (.sl (p0.fC.map AO))), (42, iD ((p0.fC.length : Int))), (43, iD v7.2)] [(5, .box (DA p2)), (90000, .box [.own 90001, .own 90002, .own 90003]), (90001, .vec 1 (p1.fD.map Ak)), (90002, .vec 1 ((p1.fB.set ((p2.fI).toNat) p2.fO).map Ak)), (90003, .vec 1 (v7.1.map DL))]) (fun v8 => mk [] [(90000, .box [.own 90001, .own 90002, .own 90003]), (90001, .vec 1 (p1.fD.map Ak)), (90002, .vec 1 ((p1.fB.set ((p2.fI).toNat) p2.fO).map Ak)), (90003, .vec 1 (v8.map DL))]) (fun _ _ => rfl) (sm [] _ _ rfl rfl) (fun j7 n7 v7 h => ?_) (fun v8 s h hs => ?_)
   ·unfold Ej at h
    refine wq rfl (AY rfl (Ac (AL ?_)))
    refine Ba h (fun h => ?_) fun h => ?_
    ·refine Ai ?_
     refine AS h (fun v10 => mk [(1, oD (.ptr 90000 0)), (5, oD (.ptr 5 0)), (41, pD (.sl (p0.fC.map AO))), (42, iD ((p0.fC.length : Int))), (43, iD v7.2)] [(5, .box (DA p2)), (90000, .box [.own 90001, .own 90002, .own 90003]), (90001, .vec 1 (p1.fD.map Ak)), (90002, .vec 1 ((p1.fB.set ((p2.fI).toNat) p2.fO).map Ak)), (90003, .vec 1 (v10.map DL))]) (fun j10 h => ?_) (fun v10 h => ?_)
     ·refine AJ (wq rfl (qm rfl ?_))
      refine BJ h fun v11 a11 b11 h => qi DD Du a11 (Af b11) rfl (qK Ha Du rfl (qz Jl rfl (qa rfl (qs Du rfl (Ac ?_)))))
      refine AS h (fun v12 => mk [(1, oD (.ptr 90000 0)), (5, oD (.ptr 5 0)), (7, iD v7.2), (41, pD (.sl (p0.fC.map AO))), (42, iD ((p0.fC.length : Int))), (43, iD v7.2), (56, bD v12)] [(5, .box (DA p2)), (90000, .box [.own 90001, .own 90002, .own 90003]), (90001, .vec 1 (p1.fD.map Ak)), (90002, .vec 1 ((p1.fB.set ((p2.fI).toNat) p2.fO).map Ak)), (90003, .vec 1 (v7.1.map DL))]) (fun j12 h => ?_) (fun v12 h => ?_)
      ·refine Ag Av rfl (qf Di rfl (ql B1 rfl (qf FG rfl (ql B1 rfl (Cf rfl (qm rfl ?_))))))
       refine En 53 h rfl (fun h => ?_) fun h => ?_
       ·refine qL Ha Du rfl ?_
        refine BD h fun v14 a14 h => Aw [] (MV N v11 v14 a14) ap rfl (qp rfl (Ac ?_))
        exact sn [] h
       ·refine qw 2 rfl (qp rfl (Ac ?_))
        exact sn [] h
      ·refine Ba h (fun h => ?_) fun h => ?_
       ·refine Ag Av rfl (qm rfl (ZJ rfl (qf CW rfl (ql HO rfl (qm rfl ?_)))))
        refine BJ h fun v16 a16 b16 h => qI DB EA a16 (Af b16) rfl (qj Iy (Af b16) rfl (qf HZ rfl (ql B1 rfl ?_)))
        refine FD h fun c17 h => Jo rfl c17 (W7 rfl ?_)
        refine BJ h fun v18 a18 b18 h => qI DB EA a18 (Af b18) rfl ?_
        refine DM rfl rfl rfl rfl (Af b18) rfl EA rfl (Jw rfl) (Dx DL v7.1 _ ((QC .u8 v16 ((D6 .u8 1 p2.fO))))) ?_
        refine AM (by kernel_rfl) ?_
        exact sn [] h
       ·refine Ai ?_
        exact sn [] h
     ·refine Ag Av rfl (A0 rfl (qm rfl (Ac ?_)))
      exact sn [] h
    ·refine AU ?_
     exact sn [] h
   ·refine Ae hs (wq rfl (qe rfl ?_))
    obtain rfl := sj h
    refine Ae (sm [] [(6, bD true)] [(90000, .box [.own 90001, .own 90002, .own 90003]), (90001, .vec 1 (p1.fD.map Ak)), (90002, .vec 1 ((p1.fB.set ((p2.fI).toNat) p2.fO).map Ak)), (90003, .vec 1 (v8.map DL))] rfl rfl) (Ar ?_)
    exact ⟨⟨[_], tm, rfl⟩, ⟨rfl, rfl, rfl, rfl, tv⟩, tv⟩
theorem PH (N : Nat) (p0 : Ab) (p1 : Int) (r : Int) (h : GK N p0 p1 = some r) : An zA0 177 [.e (.agg (AE p0)), iD p1] [] (pD (.val (.int .u8 r))) := by
 unfold GK at h
 refine cw (n := 27) (rs := [.tmp 4]) Tryz.func177 fun w0 S0 => ?_
 refine wq rfl (qb rfl (qa rfl (Ac (wq rfl (qf Dd rfl (ql A7 rfl (qm rfl ?_)))))))
 refine BJ h fun v1 a1 b1 h => qi Au CK a1 (Af b1) rfl (qk B1 rfl ?_)
 refine FD h fun c2 h => Jo rfl c2 (qe rfl ?_)
 refine AS h (fun v3 => mk [(5, pD (.val (.int .u8 v3)))] []) (fun j3 h => ?_) (fun v3 h => ?_)
 ·refine wq rfl (qf BK rfl (ql A7 rfl (qm rfl ?_)))
  refine BJ h fun v4 a4 b4 h => qi Au CK a4 (Af b4) rfl (qk B1 rfl (EF rfl (Ac ?_)))
  refine Ba h (fun h => ?_) fun h => ?_
  ·refine Ag Av rfl (qm rfl (qf BK rfl (ql A7 rfl (qm rfl ?_))))
   refine BJ h fun v6 a6 b6 h => qi Au CK a6 (Af b6) rfl (qk B1 rfl ?_)
   refine FD h fun c7 h => Jo rfl c7 (W7 rfl (qe rfl ?_))
   exact sn [] h
  ·refine Ai ?_
   exact sn [] h
 ·refine wq rfl (qm rfl (qe rfl ?_))
  obtain rfl := sj h
  refine Ae (sm [] [(4, pD (.val (.int .u8 v3)))] [] rfl rfl) (Ar ?_)
  exact ⟨⟨[_], tm, rfl⟩, tv⟩
theorem Kf (N : Nat) (p0 : Int) (r : Int) (h : Do N p0 = some r) : An zA0 180 [pD (.val (.int .u8 p0))] [] (iD r) := by
 unfold Do at h
 refine cw (n := 6) (rs := [.tmp 2]) Tryz.func180 fun w0 S0 => ?_
 refine wq rfl (qa rfl (Ac (wq rfl (qm rfl ?_))))
 refine BD h fun v1 a1 h => K1 (.p rfl) rfl rfl Wd a1 ?_
 refine Jj bI Xa rfl (qe rfl ?_)
 obtain rfl := sj h
 refine Ae (sm [] [(2, iD ((wI .i64 v1)))] [] rfl rfl) (Ar ?_)
 exact ⟨⟨[_], tm, rfl⟩, tv⟩
theorem Nv (N : Nat) (p0 : Am) (p1 : Int) (p2 : Int) (r : Bool) (h : GB N p0 p1 p2 = some r) : An zA0 178 [.e (.agg (Bg p0)), pD (.val (.int .u8 p1)), iD p2] [] (bD r) := by
 unfold GB at h
 refine cw (n := 25) (rs := [.tmp 6]) Tryz.func178 fun w0 S0 => ?_
 refine wq rfl (qb rfl (qa rfl (Ac (wp rfl (qm rfl (qe rfl ?_))))))
 refine AC (L := DX N p0 p2) h (fun v1 => mk [(2, iD p2), (3, oD (.ptr 3 0)), (7, pD (.val (.int .u8 v1)))] [(3, .box (Bg p0))]) (fun v2 => mk [] []) (fun _ _ => rfl) (sm [] _ _ rfl rfl) (fun j1 n1 v1 h => ?_) (fun v2 s h hs => ?_)
 ·unfold DX at h
  refine wp rfl (qm rfl (BA rfl (Ac ?_)))
  refine Ba h (fun h => ?_) fun h => ?_
  ·refine Ai (AL (AJ (wq rfl (qf FI rfl (ql IL rfl (qm rfl ?_))))))
   refine BD h fun v4 a4 h => Aw [] (Kf N v1 v4 a4) dn rfl ?_
   refine BJ h fun v5 a5 b5 h => qi EL Ka a5 (Af b5) rfl (qk O9 rfl (qm rfl ?_))
   refine BJ h fun v6 a6 b6 h => qi FC PB a6 (Af b6) rfl (qk Uq rfl (Cp rfl (AM (by kernel_rfl) ?_)))
   refine Ba h (fun h => ?_) fun h => ?_
   ·refine wq rfl (qe rfl ?_)
    obtain rfl := sj h
    refine Ae (sm [] [(6, bD false)] [] rfl rfl) (Ar ?_)
    exact ⟨⟨[_], tm, rfl⟩, tv⟩
   ·refine Ai (Ag Av rfl (qw 2 rfl (J9 rfl (IG rfl (qe rfl ?_)))))
    exact sn [] h
  ·refine AU ?_
   exact sn [] h
 ·refine Ae hs (wq rfl (qe rfl ?_))
  obtain rfl := sj h
  refine Ae (sm [] [(6, bD true)] [] rfl rfl) (Ar ?_)
  exact ⟨⟨[_], tm, rfl⟩, tv⟩
theorem Sm (N : Nat) (p0 : Aa) (p1 : Ab) (p2 : Int) (r : Bool × (List Int)) (h : HM N p0 p1 p2 = some r) : EP zA0 161 [.e (.agg (Ah p0)), oD (.ptr 90000 0), iD p2] [(.box [.own 90001, .own 90002, .own 90003], .box [.own 90001, .own 90002, .own 90003]), (.vec 1 (p1.fD.map Ak), .vec 1 (p1.fD.map Ak)), (.vec 1 (p1.fB.map Ak), .vec 1 (p1.fB.map Ak)), (.vec 1 (p1.fE.map DL), .vec 1 (r.2.map DL))] [] (bD r.1) := by
 unfold HM at h
 refine G9 (n := 68) (rs := [.tmp 6]) Tryz.func161 rfl rfl rfl (Jw rfl) (Jw rfl) rfl rfl (Jw rfl) rfl (Jw rfl) fun w0 S0 GL => ?_
 refine Ae (sm [] [(0, .e (.agg (Ah p0))), (1, oD (.ptr 90000 0)), (2, iD p2)] [(90000, .box [.own 90001, .own 90002, .own 90003]), (90001, .vec 1 (p1.fD.map Ak)), (90002, .vec 1 (p1.fB.map Ak)), (90003, .vec 1 (p1.fE.map DL))] rfl rfl) (wq rfl (qb rfl (qa rfl (Ac (wq rfl (qf Cj rfl (ql Hp rfl (qm rfl ?_))))))))
 refine BJ h fun v1 a1 b1 h => qi DD Du a1 (Af b1) rfl (qK Ha Du rfl (qz Jl rfl (qs Du rfl (Ac (wp rfl (qL Ha Du rfl ?_))))))
 refine BD h fun v2 a2 h => Aw [] (MV N v1 v2 a2) ap rfl (Cp rfl (Ac ?_))
 refine Ba h (fun h => ?_) fun h => ?_
 ·refine wq rfl (qe rfl ?_)
  obtain rfl := sj h
  refine Ae (sm [] [(6, bD false)] [(90000, .box [.own 90001, .own 90002, .own 90003]), (90001, .vec 1 (p1.fD.map Ak)), (90002, .vec 1 (p1.fB.map Ak)), (90003, .vec 1 (p1.fE.map DL))] rfl rfl) (Ar ?_)
  exact ⟨⟨[_], tm, rfl⟩, ⟨rfl, rfl, rfl, rfl, tv⟩, tv⟩
 ·refine Ai (wq rfl (qm rfl (ZJ rfl (qL Bn AW rfl (qf Di rfl (ql B1 rfl ?_))))))
  refine BD h fun v4 a4 h => Df [] [90001, 90002, 90003] (PH N p1 v1.fF v4 a4) dA BO rfl (qa rfl (AM (by kernel_rfl) (wq rfl (qm rfl (ZJ rfl (qf CW rfl (ql HO rfl (qm rfl ?_))))))))
  refine BJ h fun v5 a5 b5 h => qI DB EA a5 (Af b5) rfl (qj Iy (Af b5) rfl (qm rfl (Iu rfl (qa rfl (Ac (AL ?_))))))
  refine AS h (fun v6 => mk [(1, oD (.ptr 90000 0)), (2, iD p2), (8, pD (.val (.int .u8 v4))), (60, bD v6)] [(90000, .box [.own 90001, .own 90002, .own 90003]), (90001, .vec 1 (p1.fD.map Ak)), (90002, .vec 1 (p1.fB.map Ak)), (90003, .vec 1 (p1.fE.map DL))]) (fun j6 h => ?_) (fun v6 h => ?_)
  ·refine Ag Av rfl (qm rfl (ZJ rfl (qf CW rfl (ql HO rfl (qm rfl ?_)))))
   refine BJ h fun v7 a7 b7 h => qI DB EA a7 (Af b7) rfl (qj Iy (Af b7) rfl (qm rfl (Cf rfl (qm rfl ?_))))
   refine En 42 h rfl (fun h => ?_) fun h => ?_
   ·refine qw 4 rfl (qu rfl (qu rfl (qu rfl (qu rfl (qu rfl (qu rfl (qu rfl (qu rfl (qu rfl (qu rfl (qu rfl (qu rfl (qn rfl (qp rfl (AM (by kernel_rfl) ?_)))))))))))))))
    exact sn [] h
   ·refine qf GH rfl (ql B1 rfl (Cf rfl (qm rfl ?_)))
    refine En 46 h rfl (fun h => ?_) fun h => ?_
    ·refine qL Ha Du rfl (qw 2 rfl (ZJ rfl (qf Dd rfl (ql A7 rfl (qf Di rfl (ql B1 rfl ?_))))))
     refine BJ h fun v10 a10 b10 h => qI Au CK a10 (Af b10) rfl (qj B1 (Af b10) rfl ?_)
     refine BD h fun v11 a11 h => Aw [] (Nv N v1 ((Dk .u8 v5 v4)) v10 v11 a11) dX rfl (Cp rfl (qp rfl (qp rfl (AM (by kernel_rfl) ?_))))
     exact sn [] h
    ·refine qw 12 rfl (qp rfl (qp rfl (AM (by kernel_rfl) ?_)))
     exact sn [] h
  ·refine Ba h (fun h => ?_) fun h => ?_
   ·refine wq rfl (qe rfl ?_)
    obtain rfl := sj h
    refine Ae (sm [] [(6, bD false)] [(90000, .box [.own 90001, .own 90002, .own 90003]), (90001, .vec 1 (p1.fD.map Ak)), (90002, .vec 1 (p1.fB.map Ak)), (90003, .vec 1 (p1.fE.map DL))] rfl rfl) (Ar ?_)
    exact ⟨⟨[_], tm, rfl⟩, ⟨rfl, rfl, rfl, rfl, tv⟩, tv⟩
   ·refine Ai (wq rfl (qm rfl (ZJ rfl (qf CW rfl (ql HO rfl (qw 2 rfl ?_))))))
    refine BJ h fun v13 a13 b13 h => qI DB EA a13 (Af b13) rfl ?_
    refine DM rfl rfl rfl rfl (Af b13) rfl EA rfl (Jw rfl) (Dx DL p1.fE _ v4) ?_
    refine Ac (wq rfl (qe rfl ?_))
    obtain rfl := sj h
    refine Ae (sm [] [(6, bD true)] [(90000, .box [.own 90001, .own 90002, .own 90003]), (90001, .vec 1 (p1.fD.map Ak)), (90002, .vec 1 (p1.fB.map Ak)), (90003, .vec 1 ((p1.fE.set ((p2).toNat) v4).map DL))] rfl rfl) (Ar ?_)
    exact ⟨⟨[_], tm, rfl⟩, ⟨rfl, rfl, rfl, rfl, tv⟩, tv⟩
theorem Od (N : Nat) (p0 : Aa) (p1 : Ab) (p2 : Ad) (r : Ab × Bool) (h : F9 N p0 p1 p2 = some r) : An zA0 127 [.e (.agg (Ah p0)), .e (.agg (AE p1)), .e (.agg (DA p2))] [(1, r.1.fD.map Ak), (1, r.1.fB.map Ak), (1, r.1.fE.map DL)] (.tup [.agg [.own 0, .own 1, .own 2], .one (.pure (.val (.bool r.2)))]) := by
 unfold F9 at h
 refine cw (n := 51) (rs := [.cell 6 49, .tmp 7]) Tryz.func127 fun w0 S0 => ?_
 refine wq rfl (qb rfl (qb rfl (qb rfl (qz DG rfl (qa rfl (Ac (wq rfl (qL Bn AW rfl ?_))))))))
 refine BD h fun v1 a1 h => Aw [2001, 2002, 2003] (QW N p1 v1 a1) ef rfl (qz DG rfl (qs AW rfl (Ac (wp rfl (qf GA rfl (ql B1 rfl (Ac (AJ (wq rfl (Cf rfl (qe rfl ?_)))))))))))
 refine Ba h (fun h => ?_) fun h => ?_
 ·refine wq rfl (qL Bn AW rfl (qL CO BU rfl (qL Jk EE rfl ?_)))
  refine BD h fun v3 a3 h => Mt (ds0 := [_, _, _]) [8, 2001, 2002, 2003] [] [false, false, true, true] (SP N p0 v1 p2 v3 a3) (.p rfl) dQ rfl ⟨rfl, rfl, rfl, tv⟩ rfl rfl (by decide) ⟨rfl, rfl, rfl, rfl, tv⟩ rfl (Gx rfl) tv ⟨(fun _ => rfl), (fun _ => rfl), (fun h => by cases h), (fun h => by cases h), tv⟩ rfl rfl rfl ?_
  refine qs AW rfl (qa rfl (AM (by kernel_rfl) ?_))
  obtain rfl := sj h
  refine Ae (sm [(1000, 2001), (1001, 2002), (1002, 2003)] [(6, oD (.ptr 6 0)), (7, bD v3.1)] [(6, .box [.own 1000, .own 1001, .own 1002]), (1000, .vec 1 (v1.fD.map Ak)), (1001, .vec 1 (v3.2.1.map Ak)), (1002, .vec 1 (v3.2.2.map DL))] rfl rfl) (Ar ?_)
  exact ⟨⟨[_, _], ⟨.cellN _ _ _ _ _ _ _ rfl rfl Bn AW rfl rfl (JG rfl), tm⟩, rfl⟩, ⟨rfl, rfl, rfl, tv⟩⟩
 ·refine wq rfl (Cf rfl (qe rfl ?_))
  refine Ba h (fun h => ?_) fun h => ?_
  ·refine wq rfl (qL Bn AW rfl (qL CO BU rfl (qf FG rfl (ql B1 rfl ?_))))
   refine BD h fun v5 a5 h => Mt (ds0 := [_, _, _]) [8, 2001, 2002, 2003] [] [false, false, false, true] (Sm N p0 v1 p2.fI v5 a5) (.p rfl) cT rfl ⟨rfl, rfl, rfl, tv⟩ rfl rfl (by decide) ⟨rfl, rfl, rfl, rfl, tv⟩ rfl (Gx rfl) tv ⟨(fun _ => rfl), (fun _ => rfl), (fun _ => rfl), (fun h => by cases h), tv⟩ rfl rfl rfl ?_
   refine qs AW rfl (qa rfl (AM (by kernel_rfl) ?_))
   obtain rfl := sj h
   refine Ae (sm [(1000, 2001), (1001, 2002), (1002, 2003)] [(6, oD (.ptr 6 0)), (7, bD v5.1)] [(6, .box [.own 1000, .own 1001, .own 1002]), (1000, .vec 1 (v1.fD.map Ak)), (1001, .vec 1 (v1.fB.map Ak)), (1002, .vec 1 (v5.2.map DL))] rfl rfl) (Ar ?_)
   exact ⟨⟨[_, _], ⟨.cellN _ _ _ _ _ _ _ rfl rfl Bn AW rfl rfl (JG rfl), tm⟩, rfl⟩, ⟨rfl, rfl, rfl, tv⟩⟩
  ·refine Ai (wq rfl (qf BK rfl (ql A7 rfl (qf FG rfl (ql B1 rfl ?_)))))
   refine BJ h fun v6 a6 b6 h => qI Au CK a6 (Af b6) rfl (qj B1 (Af b6) rfl (qa rfl (Ac (wp rfl (qm rfl (AY rfl (Ac ?_)))))))
   refine Ba h (fun h => ?_) fun h => ?_
   ·refine wq rfl (qL Bn AW rfl (qs AW rfl (qe rfl ?_)))
    obtain rfl := sj h
    refine Ae (sm [(1000, 2001), (1001, 2002), (1002, 2003)] [(6, oD (.ptr 6 0)), (7, bD false)] [(6, .box [.own 1000, .own 1001, .own 1002]), (1000, .vec 1 (v1.fD.map Ak)), (1001, .vec 1 (v1.fB.map Ak)), (1002, .vec 1 (v1.fE.map DL))] rfl rfl) (Ar ?_)
    exact ⟨⟨[_, _], ⟨.cellN _ _ _ _ _ _ _ rfl rfl Bn AW rfl rfl (JG rfl), tm⟩, rfl⟩, ⟨rfl, rfl, rfl, tv⟩⟩
   ·refine Ai (wq rfl (qf BK rfl (ql A7 rfl (qf FG rfl (ql B1 rfl ?_)))))
    refine BJ h fun v8 a8 b8 h => qI Au CK a8 (Af b8) rfl ?_
    refine DM rfl rfl rfl rfl (Af b8) rfl CK rfl (Jw rfl) (Dx Ak v1.fB _ ((-1))) ?_
    refine Ac ?_
    refine AS h (fun v9 => mk [(6, oD (.ptr 6 0)), (8, oD (.ptr 8 0))] [(6, .box [.pure (.nil0), .pure (.nil0), .pure (.nil0)]), (8, .box [.own 2004, .own 2005, .own 2006]), (2004, .vec 1 (v9.map Ak)), (2005, .vec 1 ((v1.fB.set ((p2.fI).toNat) ((-1))).map Ak)), (2006, .vec 1 (v1.fE.map DL))]) (fun j9 h => ?_) (fun v9 h => ?_)
    ·refine wq rfl (qf GA rfl (ql B1 rfl (Cf rfl (Ac ?_))))
     refine Ba h (fun h => ?_) fun h => ?_
     ·refine Ag Av rfl (qf Dd rfl (ql A7 rfl (qf FG rfl (ql B1 rfl (qm rfl ?_)))))
      refine BJ h fun v11 a11 b11 h => qI Au CK a11 (Af b11) rfl ?_
      refine DM rfl rfl rfl rfl (Af b11) rfl CK rfl (Jw rfl) (Dx Ak v1.fD _ v6) ?_
      refine Ac ?_
      exact sn [(2004, 2001), (2005, 2002), (2006, 2003)] h
     ·refine Ai ?_
      exact sn [(2004, 2001), (2005, 2002), (2006, 2003)] h
    ·refine wq rfl (qL Bn AW rfl (qs AW rfl (qe rfl ?_)))
     obtain rfl := sj h
     refine Ae (sm [(1000, 2004), (1001, 2005), (1002, 2006)] [(6, oD (.ptr 6 0)), (7, bD true)] [(6, .box [.own 1000, .own 1001, .own 1002]), (1000, .vec 1 (v9.map Ak)), (1001, .vec 1 ((v1.fB.set ((p2.fI).toNat) ((-1))).map Ak)), (1002, .vec 1 (v1.fE.map DL))] rfl rfl) (Ar ?_)
     exact ⟨⟨[_, _], ⟨.cellN _ _ _ _ _ _ _ rfl rfl Bn AW rfl rfl (JG rfl), tm⟩, rfl⟩, ⟨rfl, rfl, rfl, tv⟩⟩
theorem OB (N : Nat) (p0 : Ad) (p1 : List Int) (p2 : List Int) (p3 : List Int) (p4 : List Am) (p5 : List Int) (p6 : List Int) (p7 : List Int) (r : Bool) (h : DR N p0 p1 p2 p3 p4 p5 p6 p7 = some r) : An zA0 126 [.e (.agg (DA p0)), oD (.rop [.sl (p1.map Ak), .sl (p2.map Ak), .sl (p3.map Ak), .sl (p4.map AO)]), oD (.rop [.sl (p5.map Ak), .sl (p6.map Ak), .sl (p7.map DL)])] [] (bD r) := by
 unfold DR at h
 refine cw (n := 16) (rs := [.tmp 4]) Tryz.func126 fun w0 S0 => ?_
 refine wq rfl (qb rfl (qa rfl (Ac (wq rfl (qK CO BU rfl (qK Bn AW rfl (qL Jk EE rfl ?_)))))))
 refine BD h fun v1 a1 h => Aw [2001, 2002, 2003] (Od N ((Aa.mk p1 p2 p3 p4)) ((Ab.mk p5 p6 p7)) p0 v1 a1) Z0 rfl (qm rfl (qx rfl (qx rfl (qz DG rfl (qs AW rfl (qa rfl (Ac (wq rfl (qm rfl (Cp rfl (qe rfl ?_)))))))))))
 obtain rfl := sj h
 refine Ae (sm [] [(4, bD ((!v1.2)))] [] rfl rfl) (Ar ?_)
 exact ⟨⟨[_], tm, rfl⟩, tv⟩
theorem HB (N : Nat) (p0 : List Ad) (p1 : Ad → Option Bool) (r : Int) (h : BX N p0 p1 = some r) : An zA0 158 [pD (.sl (p0.map AG)), oD (.clo (G7 (LE true AG) tB p1))] [] (iD r) := by
 unfold BX at h
 refine cw (n := 19) (rs := [.tmp 4]) Tryz.func158 fun w0 S0 => ?_
 refine wq rfl (qa rfl (Ac (wp rfl (qm rfl (AI EG rfl (qm rfl (Ac ?_)))))))
 refine AC (L := A8 N p0 p1) h (fun v1 => mk [(0, pD (.sl (p0.map AG))), (1, oD (.clo (G7 (LE true AG) tB p1))), (7, iD ((p0.length : Int))), (8, iD v1)] []) (fun v2 => mk [] []) (fun _ _ => rfl) (sm [] _ _ rfl rfl) (fun j1 n1 v1 h => ?_) (fun v2 s h hs => ?_)
 ·unfold A8 at h
  refine wq rfl (AY rfl (Ac (AL ?_)))
  refine Ba h (fun h => ?_) fun h => ?_
  ·refine Ai (AL (AJ (wq rfl (qm rfl (qa rfl (Ac (wq rfl (qw 3 rfl ?_))))))))
   refine BJ h fun v4 a4 b4 h => qi EG EE a4 (Af b4) rfl (qK Jk EE rfl ?_)
   refine BD h fun v5 a5 h => JK (ds0 := [_]) (ar := (LE true AG) v4) (.p rfl) rfl rfl ⟨rfl, tv⟩ rfl rfl rfl (IT (Lh _ _ Pp) a5) ?_
   refine Ac ?_
   refine Ba h (fun h => ?_) fun h => ?_
   ·refine wq rfl (qm rfl (qe rfl ?_))
    obtain rfl := sj h
    refine Ae (sm [] [(4, iD v1)] [] rfl rfl) (Ar ?_)
    exact ⟨⟨[_], tm, rfl⟩, tv⟩
   ·refine Ai (Ag Av rfl (A0 rfl (qm rfl (Ac ?_))))
    exact sn [] h
  ·refine AU ?_
   exact sn [] h
 ·refine Ae hs (wq rfl (qe rfl ?_))
  obtain rfl := sj h
  refine Ae (sm [] [(4, iD ((-1)))] [] rfl rfl) (Ar ?_)
  exact ⟨⟨[_], tm, rfl⟩, tv⟩
theorem Ho (N : Nat) (p0 : List Ad) (p1 : Ad → Option Bool) (r : Nat × (List Ad)) (h : BS N p0 p1 = some r) : EP zA0 124 [oD (.own 90000), oD (.clo (G7 (LE true AG) tB p1))] [(.vec 3 (p0.map AG), .vec 3 (r.2.map AG))] [] (oD (.view 90000 3 0 r.1)) := by
 unfold BS at h
 refine G9 (n := 42) (rs := [.tmp 4]) Tryz.func124 rfl rfl rfl (Jw rfl) (Jw rfl) rfl rfl (Jw rfl) rfl (Jw rfl) fun w0 S0 GL => ?_
 refine Ae (sm [] [(0, oD (.own 90000)), (1, oD (.clo (G7 (LE true AG) tB p1)))] [(90000, .vec 3 (p0.map AG))] rfl rfl) (wq rfl (qa rfl (Ac (wq rfl (qw 2 rfl ?_)))))
 refine BD h fun v1 a1 h => Df [] [90000] (HB N p0 p1 v1 a1) du BO rfl (qa rfl (Ac (wp rfl (qm rfl (Cf rfl (Ac ?_))))))
 refine Ba h (fun h => ?_) fun h => ?_
 ·refine wq rfl (qm rfl (qe rfl ?_))
  obtain rfl := sj h
  refine Ae ((Vl AG p0 4 90000 3 rfl rfl).trans (sm [] [(4, oD (.view 90000 3 0 p0.length))] [(90000, .vec 3 (p0.map AG))] rfl rfl)) (Ar ?_)
  exact ⟨⟨[_], tm, rfl⟩, ⟨rfl, tv⟩, tv⟩
 ·refine Ai (wp rfl (qm rfl (A0 rfl (qe rfl ?_))))
  refine AC (L := A3 N p1) h (fun v3 => mk [(0, oD (.own 90000)), (1, oD (.clo (G7 (LE true AG) tB p1))), (5, iD v3.2.1), (6, iD v3.2.2)] [(90000, .vec 3 (v3.1.map AG))]) (fun v4 => mk [(0, oD (.own 90000)), (5, iD v4.2)] [(90000, .vec 3 (v4.1.map AG))]) (fun _ _ => rfl) (sm [] _ _ rfl rfl) (fun j3 n3 v3 h => ?_) (fun v4 s h hs => ?_)
  ·unfold A3 at h
   refine wp rfl (qw 2 rfl (Et EG rfl (AY rfl (Ac ?_))))
   refine Ba h (fun h => ?_) fun h => ?_
   ·refine Ai ?_
    refine AS h (fun v6 => mk [(0, oD (.own 90000)), (1, oD (.clo (G7 (LE true AG) tB p1))), (5, iD v6.2), (6, iD v3.2.2)] [(90000, .vec 3 (v6.1.map AG))]) (fun j6 h => ?_) (fun v6 h => ?_)
    ·refine AJ (wq rfl (qw 2 rfl ?_))
     refine BJ h fun v7 a7 b7 h => qI EG EE a7 (Af b7) rfl (qJ Jk EE (Af b7) rfl (qz Lq rfl (qs EE rfl (Ac (wq rfl (qm rfl (qL Jk EE rfl ?_)))))))
     refine BD h fun v8 a8 h => JK (ds0 := [_]) (ar := (LE true AG) v7) (.p rfl) rfl rfl ⟨rfl, tv⟩ rfl rfl rfl (IT (Lh _ _ Pp) a8) ?_
     refine Cp rfl (Ac ?_)
     refine Ba h (fun h => ?_) fun h => ?_
     ·refine wq rfl (qw 2 rfl (qL Jk EE rfl ?_))
      refine BJ h fun v10 a10 b10 h => qI EG EE a10 (Af b10) rfl ?_
      refine DM rfl rfl rfl rfl (Af b10) rfl EE rfl (Jw rfl) (Dx AG v3.1 _ v7) ?_
      refine Ac (Ag Av rfl (qm rfl (A0 rfl (qe rfl ?_))))
      exact sn [] h
     ·refine Ai ?_
      exact sn [] h
    ·refine Ag Av rfl (qm rfl (A0 rfl (qe rfl ?_)))
     exact sn [] h
   ·refine AU ?_
    exact sn [] h
  ·refine Ae hs (wq rfl (qw 2 rfl ?_))
   obtain ⟨c11, h⟩ := HR h
   have w12 : ((v4.2).toNat) + ((v4.1.length - (v4.2).toNat)) ≤ v4.1.length := by have := c11.2.1; have := c11.2.2; omega
   refine KY AG v4.1 (.p rfl) rfl (J0 AG _ _ v4.1) rfl EG EE (.some _ _ _ _ c11.1) (.none _) ⟨rfl, tv⟩ tv c11.2.1 (by rw [zA1]; exact c11.2.2) (zA1 _) rfl ?_
   have w13 : (JC v4.1 ((v4.2).toNat) (zA5 ((v4.1.length - (v4.2).toNat)) ((Ad.mk 0 0 0)))).length = v4.1.length := J5 (by rw [List.length_replicate]; exact w12)
   refine S1 AG v4.1 ((Ad.mk 0 0 0)) rfl rfl (Ol AG _ _ ((v4.2).toNat) ((v4.1.length - (v4.2).toNat)) v4.1 w12) rfl EG Lq rfl rfl rfl rfl ?_
   refine Ac (wq rfl (qw 2 rfl ?_))
   obtain ⟨c14, h⟩ := HR h
   have w15 : 0 + ((v4.2).toNat) ≤ (JC v4.1 ((v4.2).toNat) (zA5 ((v4.1.length - (v4.2).toNat)) ((Ad.mk 0 0 0)))).length := by have := c14.2.1; have := c14.2.2; omega
   refine KY AG (JC v4.1 ((v4.2).toNat) (zA5 ((v4.1.length - (v4.2).toNat)) ((Ad.mk 0 0 0)))) (.p rfl) rfl (J0 AG _ _ (JC v4.1 ((v4.2).toNat) (zA5 ((v4.1.length - (v4.2).toNat)) ((Ad.mk 0 0 0))))) rfl EG EE (.none _) (.some _ _ _ _ c14.1) tv ⟨rfl, tv⟩ c14.2.1 (by rw [zA1]; exact c14.2.2) (zA1 _) rfl ?_
   refine qa rfl (Ac ?_)
   obtain rfl := sj h
   refine Ae (sm [] [(4, oD (.view 90000 3 0 ((v4.2).toNat)))] [(90000, .vec 3 ((JC v4.1 ((v4.2).toNat) (zA5 ((v4.1.length - (v4.2).toNat)) ((Ad.mk 0 0 0)))).map AG))] rfl rfl) (Ar ?_)
   exact ⟨⟨[_], tm, rfl⟩, ⟨rfl, tv⟩, tv⟩
theorem Mc (N : Nat) (p0 : Aa) (p1 : Ab) (r : (List Ad) × Int) (h : zFS N p0 p1 = some r) : An zA0 87 [.e (.agg (Ah p0)), .e (.agg (AE p1))] [(3, r.1.map AG)] (.tup [.one (.own 0), .one (iC r.2)]) := by
 unfold zFS at h
 refine cw (n := 17) (rs := [.tmp 4, .tmp 5]) Tryz.func87 fun w0 S0 => ?_
 refine wq rfl (qb rfl (qb rfl (qa rfl (qa rfl (Ac (wp rfl (qL CO BU rfl (qL Bn AW rfl ?_))))))))
 refine BD h fun v1 a1 h => Aw [] (Kl N p0 p1 v1 a1) VQ rfl (qa rfl (Ac (wq rfl (qm rfl (BA rfl (Ac ?_))))))
 refine Ba h (fun h => ?_) fun h => ?_
 ·refine wq rfl (qm rfl (qa rfl (qe rfl ?_)))
  obtain rfl := sj h
  refine Ae ((A9 4 2001 3 rfl rfl rfl).trans (sm [(1000, 2001)] [(4, oD (.own 1000)), (5, iD v1)] [(1000, .vec 3 ((([] : List Ad)).map AG))] rfl rfl)) (Ar ?_)
  exact ⟨⟨[_, _], ⟨.tmp _ _ rfl, tm⟩, rfl⟩, ⟨rfl, tv⟩⟩
 ·refine Ai (wq rfl (qL CO BU rfl ?_))
  refine BD h fun v3 a3 h => Aw [2002] (UE N p0 v3 a3) dW rfl (CE (Is 2 [.sl (p0.fA.map Ak), .sl (p0.fH.map Ak), .sl (p0.fL.map Ak), .sl (p0.fC.map AO)] rfl rfl) (CE (Is 3 [.sl (p1.fD.map Ak), .sl (p1.fB.map Ak), .sl (p1.fE.map DL)] rfl rfl) ?_))
  refine IQ (capD := [_, _]) (G7 (LE true AG) tB ((fun (x : Ad) => DR N x p0.fA p0.fH p0.fL p0.fC p1.fD p1.fB p1.fE))) (.p rfl) dF rfl ⟨rfl, rfl, tv⟩ rfl (fun ar t ht => by obtain ⟨x, r, rfl, hq, rfl⟩ := Hn ht; exact OB N x p0.fA p0.fH p0.fL p0.fC p1.fD p1.fB p1.fE r hq) ?_
  obtain ⟨v4, a4, h⟩ := bind_some h
  obtain ⟨c5, h⟩ := HR h
  have w6 : 0 + v4.1 ≤ v4.2.length := by rw [zA1]; exact c5
  refine Mt (ds0 := [_, _]) [2002] [] [true] (Ho N v3 ((fun (x : Ad) => DR N x p0.fA p0.fH p0.fL p0.fC p1.fD p1.fB p1.fE)) v4 a4) (.p rfl) dG rfl ⟨rfl, rfl, tv⟩ rfl rfl (by decide) ⟨rfl, tv⟩ rfl (Gx rfl) tv ⟨(fun h => by cases h), tv⟩ rfl rfl rfl ?_
  refine CE (XO AG v4.2 16 2002 2003 3 v4.1 rfl rfl rfl rfl rfl c5) (qa rfl (qe rfl ?_))
  obtain rfl := sj h
  refine Ae (sm [(1000, 2003)] [(4, oD (.own 1000)), (5, iD 0)] [(1000, .vec 3 ((v4.2.take v4.1).map AG))] rfl rfl) (Ar ?_)
  exact ⟨⟨[_, _], ⟨.tmp _ _ rfl, tm⟩, rfl⟩, ⟨rfl, tv⟩⟩
theorem SA (N : Nat) (p0 : Ad) (r : Bool) (h : HI N p0 = some r) : An zA0 162 [.e (.agg (DA p0))] [] (bD r) := by
 unfold HI at h
 refine cw (n := 27) (rs := [.tmp 2]) Tryz.func162 fun w0 S0 => ?_
 refine wq rfl (qb rfl (qa rfl (Ac (AL ?_))))
 refine AS h (fun v1 => mk [(1, oD (.ptr 1 0)), (18, bD v1)] [(1, .box (DA p0))]) (fun j1 h => ?_) (fun v1 h => ?_)
 ·refine Ag Av rfl (qf FG rfl (ql B1 rfl (qf HZ rfl (ql B1 rfl ?_))))
  refine dM (.p rfl) rfl rfl ?_
  refine AY rfl (qm rfl ?_)
  refine En 9 h rfl (fun h => ?_) fun h => ?_
  ·refine qw 3 rfl (qp rfl (qw 4 rfl (qp rfl (Ac ?_))))
   exact sn [] h
  ·refine qf GA rfl (ql B1 rfl (AY rfl (qp rfl (qm rfl ?_))))
   refine En 14 h rfl (fun h => ?_) fun h => ?_
   ·refine qw 3 rfl (qp rfl (Ac ?_))
    exact sn [] h
   ·refine qf GA rfl (ql B1 rfl (Gg rfl (qp rfl (Ac ?_))))
    exact sn [] h
 ·refine Ba h (fun h => ?_) fun h => ?_
  ·refine wq rfl (qe rfl ?_)
   obtain rfl := sj h
   refine Ae (sm [] [(2, bD false)] [] rfl rfl) (Ar ?_)
   exact ⟨⟨[_], tm, rfl⟩, tv⟩
  ·refine Ai ?_
   refine AS h (fun v5 => mk [(2, bD v5)] []) (fun j5 h => ?_) (fun v5 h => ?_)
   ·refine Ag Av rfl (qf GA rfl (ql B1 rfl (Cf rfl (qm rfl ?_))))
    refine En 22 h rfl (fun h => ?_) fun h => ?_
    ·refine qw 3 rfl (qp rfl (qe rfl ?_))
     exact sn [] h
    ·refine qf HZ rfl (ql B1 rfl (Cf rfl (qp rfl (qe rfl ?_))))
     exact sn [] h
   ·obtain rfl := sj h
    refine Ae (sm [] [(2, bD v5)] [] rfl rfl) (Ar ?_)
    exact ⟨⟨[_], tm, rfl⟩, tv⟩
theorem QS (N : Nat) (p0 : Aa) (p1 : Ad) (r : Bool) (h : Hj N p0 p1 = some r) : An zA0 163 [.e (.agg (Ah p0)), .e (.agg (DA p1))] [] (bD r) := by
 unfold Hj at h
 refine cw (n := 36) (rs := [.tmp 4]) Tryz.func163 fun w0 S0 => ?_
 refine wq rfl (qb rfl (qb rfl (qa rfl (Ac (wp rfl (qf GA rfl (ql B1 rfl (Cf rfl (Ac ?_)))))))))
 refine Ba h (fun h => ?_) fun h => ?_
 ·refine wq rfl (qf FG rfl (ql B1 rfl (qf Cj rfl (ql Hp rfl (AI DD rfl (AY rfl (qe rfl ?_)))))))
  obtain rfl := sj h
  refine Ae (sm [] [(4, bD ((decide (p1.fI < (p0.fC.length : Int)))))] [] rfl rfl) (Ar ?_)
  exact ⟨⟨[_], tm, rfl⟩, tv⟩
 ·refine Ai ?_
  refine AS h (fun v2 => mk [(4, bD v2)] []) (fun j2 h => ?_) (fun v2 h => ?_)
  ·refine Ag Av rfl (qf FG rfl (ql B1 rfl (qf Bb rfl (ql A7 rfl (AI Au rfl (AY rfl (qm rfl ?_)))))))
   refine En 20 h rfl (fun h => ?_) fun h => ?_
   ·refine qf GA rfl (ql B1 rfl (BA rfl (qm rfl ?_)))
    refine En 24 h rfl (fun h => ?_) fun h => ?_
    ·refine qw 9 rfl (qp rfl (qp rfl (qa rfl (AM (by kernel_rfl) ?_))))
     exact sn [] h
    ·refine qf HZ rfl (ql B1 rfl (qf Bb rfl (ql A7 rfl (qf FG rfl (ql B1 rfl ?_)))))
     refine BJ h fun v5 a5 b5 h => qi Au CK a5 (Af b5) rfl (qk B1 rfl (AY rfl (qp rfl (qp rfl (qa rfl (AM (by kernel_rfl) ?_))))))
     exact sn [] h
   ·refine qw 4 rfl (qu rfl (qu rfl (qu rfl (qu rfl (qu rfl (qu rfl (qu rfl (qu rfl (qu rfl (qn rfl (qp rfl (qa rfl (AM (by kernel_rfl) ?_)))))))))))))
    exact sn [] h
  ·obtain rfl := sj h
   refine Ae (sm [] [(4, bD v2)] [] rfl rfl) (Ar ?_)
   exact ⟨⟨[_], tm, rfl⟩, tv⟩
theorem Ss (N : Nat) (p0 : Aa) (p1 : Ab) (p2 : Ad) (r : Ab × Int) (h : HQ N p0 p1 p2 = some r) : An zA0 128 [.e (.agg (Ah p0)), .e (.agg (AE p1)), .e (.agg (DA p2))] [(1, r.1.fD.map Ak), (1, r.1.fB.map Ak), (1, r.1.fE.map DL)] (.tup [.agg [.own 0, .own 1, .own 2], .one (iC r.2)]) := by
 unfold HQ at h
 refine cw (n := 32) (rs := [.cell 6 49, .tmp 7]) Tryz.func128 fun w0 S0 => ?_
 refine wq rfl (qb rfl (qb rfl (qb rfl (qz DG rfl (qa rfl (Ac (AL (AJ (wq rfl (qL Jk EE rfl ?_))))))))))
 refine BD h fun v1 a1 h => Aw [] (SA N p2 v1 a1) dB rfl (Cp rfl (qe rfl ?_))
 refine Ba h (fun h => ?_) fun h => ?_
 ·refine wq rfl (Bk DG JL rfl (qs AW rfl (qe rfl ?_)))
  obtain rfl := sj h
  refine Ae ((Aq 6 0 2001 1 _ rfl rfl rfl rfl).trans ((Aq 6 1 2002 1 _ rfl rfl rfl rfl).trans ((Aq 6 2 2003 1 _ rfl rfl rfl rfl).trans (sm [(1000, 2001), (1001, 2002), (1002, 2003)] [(6, oD (.ptr 6 0)), (7, iD 1)] [(6, .box [.own 1000, .own 1001, .own 1002]), (1000, .vec 1 ((([] : List Int)).map Ak)), (1001, .vec 1 ((([] : List Int)).map Ak)), (1002, .vec 1 ((([] : List Int)).map DL))] rfl rfl)))) (Ar ?_)
  exact ⟨⟨[_, _], ⟨.cellN _ _ _ _ _ _ _ rfl rfl Bn AW rfl rfl (JG rfl), tm⟩, rfl⟩, ⟨rfl, rfl, rfl, tv⟩⟩
 ·refine wq rfl (qL CO BU rfl (qL Jk EE rfl ?_))
  refine BD h fun v3 a3 h => Aw [] (QS N p0 p2 v3 a3) ce rfl (Cp rfl (qe rfl ?_))
  refine Ba h (fun h => ?_) fun h => ?_
  ·refine wq rfl (Bk DG JL rfl (qs AW rfl (qe rfl ?_)))
   obtain rfl := sj h
   refine Ae ((Aq 6 0 2004 1 _ rfl rfl rfl rfl).trans ((Aq 6 1 2005 1 _ rfl rfl rfl rfl).trans ((Aq 6 2 2006 1 _ rfl rfl rfl rfl).trans (sm [(1000, 2004), (1001, 2005), (1002, 2006)] [(6, oD (.ptr 6 0)), (7, iD 4)] [(6, .box [.own 1000, .own 1001, .own 1002]), (1000, .vec 1 ((([] : List Int)).map Ak)), (1001, .vec 1 ((([] : List Int)).map Ak)), (1002, .vec 1 ((([] : List Int)).map DL))] rfl rfl)))) (Ar ?_)
   exact ⟨⟨[_, _], ⟨.cellN _ _ _ _ _ _ _ rfl rfl Bn AW rfl rfl (JG rfl), tm⟩, rfl⟩, ⟨rfl, rfl, rfl, tv⟩⟩
  ·refine Ai (wq rfl (qL CO BU rfl (qL Bn AW rfl (qL Jk EE rfl ?_))))
   refine BD h fun v5 a5 h => Aw [2007, 2008, 2009] (Od N p0 p1 p2 v5 a5) Z0 rfl (qm rfl (qx rfl (qx rfl (qz DG rfl (qs AW rfl (qa rfl (Ac (wp rfl (qm rfl (Cp rfl (Ac ?_)))))))))))
   refine Ba h (fun h => ?_) fun h => ?_
   ·refine wq rfl (Bk DG JL rfl (qs AW rfl (qe rfl ?_)))
    obtain rfl := sj h
    refine Ae ((Aq 6 0 2010 1 _ rfl rfl rfl rfl).trans ((Aq 6 1 2011 1 _ rfl rfl rfl rfl).trans ((Aq 6 2 2012 1 _ rfl rfl rfl rfl).trans (sm [(1000, 2010), (1001, 2011), (1002, 2012)] [(6, oD (.ptr 6 0)), (7, iD 11)] [(6, .box [.own 1000, .own 1001, .own 1002]), (1000, .vec 1 ((([] : List Int)).map Ak)), (1001, .vec 1 ((([] : List Int)).map Ak)), (1002, .vec 1 ((([] : List Int)).map DL))] rfl rfl)))) (Ar ?_)
    exact ⟨⟨[_, _], ⟨.cellN _ _ _ _ _ _ _ rfl rfl Bn AW rfl rfl (JG rfl), tm⟩, rfl⟩, ⟨rfl, rfl, rfl, tv⟩⟩
   ·refine Ai (wq rfl (qL Bn AW rfl (qs AW rfl (qe rfl ?_))))
    obtain rfl := sj h
    refine Ae (sm [(1000, 2007), (1001, 2008), (1002, 2009)] [(6, oD (.ptr 6 0)), (7, iD 0)] [(6, .box [.own 1000, .own 1001, .own 1002]), (1000, .vec 1 (v5.1.fD.map Ak)), (1001, .vec 1 (v5.1.fB.map Ak)), (1002, .vec 1 (v5.1.fE.map DL))] rfl rfl) (Ar ?_)
    exact ⟨⟨[_, _], ⟨.cellN _ _ _ _ _ _ _ rfl rfl Bn AW rfl rfl (JG rfl), tm⟩, rfl⟩, ⟨rfl, rfl, rfl, tv⟩⟩
theorem N5 (N : Nat) (p0 : Aa) (p1 : Ab) (p2 : Ad) (r : Ab × Int) (h : GS N p0 p1 p2 = some r) : An zA0 88 [.e (.agg (Ah p0)), .e (.agg (AE p1)), .e (.agg (DA p2))] [(1, r.1.fD.map Ak), (1, r.1.fB.map Ak), (1, r.1.fE.map DL)] (.tup [.agg [.own 0, .own 1, .own 2], .one (iC r.2)]) := by
 unfold GS at h
 refine cw (n := 22) (rs := [.cell 6 49, .tmp 7]) Tryz.func88 fun w0 S0 => ?_
 refine wq rfl (qb rfl (qb rfl (qb rfl (qz DG rfl (qa rfl (Ac (wp rfl (qL CO BU rfl (qL Bn AW rfl ?_)))))))))
 refine BD h fun v1 a1 h => Aw [] (Kl N p0 p1 v1 a1) VQ rfl (qa rfl (Ac (wq rfl (qm rfl (BA rfl (Ac ?_))))))
 refine Ba h (fun h => ?_) fun h => ?_
 ·refine wq rfl (Bk DG JL rfl (qm rfl (qs AW rfl (qe rfl ?_))))
  obtain rfl := sj h
  refine Ae ((Aq 6 0 2001 1 _ rfl rfl rfl rfl).trans ((Aq 6 1 2002 1 _ rfl rfl rfl rfl).trans ((Aq 6 2 2003 1 _ rfl rfl rfl rfl).trans (sm [(1000, 2001), (1001, 2002), (1002, 2003)] [(6, oD (.ptr 6 0)), (7, iD v1)] [(6, .box [.own 1000, .own 1001, .own 1002]), (1000, .vec 1 ((([] : List Int)).map Ak)), (1001, .vec 1 ((([] : List Int)).map Ak)), (1002, .vec 1 ((([] : List Int)).map DL))] rfl rfl)))) (Ar ?_)
  exact ⟨⟨[_, _], ⟨.cellN _ _ _ _ _ _ _ rfl rfl Bn AW rfl rfl (JG rfl), tm⟩, rfl⟩, ⟨rfl, rfl, rfl, tv⟩⟩
 ·refine Ai (wq rfl (qL CO BU rfl (qL Bn AW rfl (qL Jk EE rfl ?_))))
  refine BD h fun v3 a3 h => Aw [2004, 2005, 2006] (Ss N p0 p1 p2 v3 a3) ck rfl (qx rfl (qx rfl (qs AW rfl (qe rfl ?_))))
  obtain rfl := sj h
  refine Ae (sm [(1000, 2004), (1001, 2005), (1002, 2006)] [(6, oD (.ptr 6 0)), (7, iD v3.2)] [(6, .box [.own 1000, .own 1001, .own 1002]), (1000, .vec 1 (v3.1.fD.map Ak)), (1001, .vec 1 (v3.1.fB.map Ak)), (1002, .vec 1 (v3.1.fE.map DL))] rfl rfl) (Ar ?_)
  exact ⟨⟨[_, _], ⟨.cellN _ _ _ _ _ _ _ rfl rfl Bn AW rfl rfl (JG rfl), tm⟩, rfl⟩, ⟨rfl, rfl, rfl, tv⟩⟩
theorem QJ (N : Nat) (p0 : Aa) (p1 : Ab) (r : (List AD) × Int) (h : G8 N p0 p1 = some r) : An zA0 106 [.e (.agg (Ah p0)), .e (.agg (AE p1))] [] (.tup [.one (sC (r.1.map Bj)), .one (iC r.2)]) := by
 unfold G8 at h
 refine cw (n := 119) (rs := [.tmp 4, .tmp 5]) Tryz.func106 fun w0 S0 => ?_
 refine wq rfl (qb rfl (qb rfl (qa rfl (qa rfl (Ac (wq rfl (qL Bn AW rfl (Bk TU aq rfl ?_))))))))
 refine M1 [(0, .tmp 21, _)] (.p rfl) rfl ⟨rfl, tv⟩ rfl HE Lx TU rfl rfl (Jw rfl) rfl rfl ?_
 refine CE (Q4 22 8 [.s, .s, .s, .s, .s, .s, .s, .x 1 []] _ ((([(AD.mk p1 ((-1)) ((Ad.mk 0 0 0)) (([] : List Int)))] : List AD)).map Bj) rfl rfl) (qa rfl (Ac (wq rfl ?_)))
 refine WG (.p rfl) rfl ?_
 refine qL Bn AW rfl ?_
 refine BD h fun v1 a1 h => Aw [] (Pv N p1 v1 a1) ak rfl ?_
 refine Ph (kv := Value.string) (vt := N7) (m := ([] : List (ByteArray × Int))) (k := v1) (v := 0) rfl (.inr rfl) rfl rfl rfl rfl (Oo Sq aA) rfl ?_
 refine qm rfl (qa rfl (Ac (wp rfl (qe rfl ?_))))
 refine AC (L := DV N p0) h (fun v2 => mk [(2, oD (.ptr 2 0)), (6, oD (.own 2001)), (7, oD (.mref 2002)), (8, iD v2.2.2)] [(2, .box (Ah p0)), (2001, .dvec 8 [.s, .s, .s, .s, .s, .s, .s, .x 1 []] (v2.1.map Bj)), (2002, .mp (Gi Value.string N7 v2.2.1))]) (fun v3 => mk [(6, oD (.own 2003))] [(2003, .dvec 8 [.s, .s, .s, .s, .s, .s, .s, .x 1 []] (v3.map Bj))]) (fun _ _ => rfl) (sm [(2001, 22), (2002, 23)] _ _ rfl rfl) (fun j2 n2 v2 h => ?_) (fun v3 s h hs => ?_)
 ·unfold DV at h
  refine wp rfl (qw 2 rfl ?_)
  refine UF (.p rfl) rfl rfl (MA Bj v2.1 _ _) HE ?_
  refine AY rfl (Ac ?_)
  refine Ba h (fun h => ?_) fun h => ?_
  ·refine Ai (AL (AJ (wq rfl (qL CO BU rfl (qw 2 rfl ?_)))))
   refine BJ h fun v5 a5 b5 h => NA (.p rfl) rfl rfl rfl (MA Bj v2.1 _ _) HE Lx a5 (AF b5) ?_
   refine qh Pu rfl ?_
   refine TI (.p rfl) rfl Bn AW rfl (Af b5) rfl rfl (by decide) rfl ?_
   refine BD h fun v6 a6 h => Aw [2004] (Mc N p0 ((Ab.mk v5.fN.fD v5.fN.fB v5.fN.fE)) v6 a6) dO rfl (qm rfl (qx rfl (qx rfl (qa rfl (qa rfl (AM (by kernel_rfl) (wp rfl (qm rfl (BA rfl (Ac ?_))))))))))
   refine Ba h (fun h => ?_) fun h => ?_
   ·refine wq rfl (qm rfl (qa rfl (qe rfl ?_)))
    obtain rfl := sj h
    refine Ae ((Qs 4 _ rfl).trans (sm [] [(4, pD (.sl ((([] : List AD)).map Bj))), (5, iD v6.2)] [] rfl rfl)) (Ar ?_)
    exact ⟨⟨[_, _], ⟨.tmp _ _ rfl, tm⟩, rfl⟩, tv⟩
   ·refine Ai (wq rfl (qm rfl (Et EG rfl (qm rfl (Ac ?_)))))
    refine AC (L := CA N p0 v2 v6) h (fun v8 => mk [(2, oD (.ptr 2 0)), (6, oD (.own 2005)), (7, oD (.mref 2006)), (8, iD v2.2.2), (46, oD (.own 2007)), (47, iD ((v6.1.length : Int))), (48, iD v8.2.2)] [(2, .box (Ah p0)), (2005, .dvec 8 [.s, .s, .s, .s, .s, .s, .s, .x 1 []] (v8.1.map Bj)), (2006, .mp (Gi Value.string N7 v8.2.1)), (2007, .vec 3 (v6.1.map AG))]) (fun v9 => mk [(2, oD (.ptr 2 0)), (6, oD (.own 2008)), (7, oD (.mref 2009)), (8, iD v2.2.2)] [(2, .box (Ah p0)), (2008, .dvec 8 [.s, .s, .s, .s, .s, .s, .s, .x 1 []] (v9.1.map Bj)), (2009, .mp (Gi Value.string N7 v9.2))]) (fun _ _ => rfl) (sm [(2005, 2001), (2006, 2002), (2007, 2004)] _ _ rfl rfl) (fun j8 n8 v8 h => ?_) (fun v9 s h hs => ?_)
    ·unfold CA at h
     refine wq rfl (AY rfl (Ac (AL ?_)))
     refine Ba h (fun h => ?_) fun h => ?_
     ·refine Ai (AL (AJ (wq rfl ?_)))
      refine BJ h fun v11 a11 b11 h => qI EG EE a11 (Af b11) rfl (qJ Jk EE (Af b11) rfl (qz Lq rfl (qs EE rfl (Ac (wq rfl (qL CO BU rfl (qw 2 rfl ?_)))))))
      refine BJ h fun v12 a12 b12 h => NA (.p rfl) rfl rfl rfl (MA Bj v8.1 _ _) HE Lx a12 (AF b12) ?_
      refine qh Pu rfl ?_
      refine TI (.p rfl) rfl Bn AW rfl (Af b12) rfl rfl (by decide) rfl ?_
      refine qL Jk EE rfl ?_
      refine BD h fun v13 a13 h => Aw [2010, 2011, 2012] (N5 N p0 ((Ab.mk v12.fN.fD v12.fN.fB v12.fN.fE)) v11 v13 a13) dY rfl (qm rfl (qx rfl (qx rfl (qz DG rfl (qs AW rfl (qa rfl (AM (by kernel_rfl) (wp rfl (qm rfl (BA rfl (Ac ?_)))))))))))
      refine Ba h (fun h => ?_) fun h => ?_
      ·refine wq rfl (qm rfl (qa rfl (qe rfl ?_)))
       obtain rfl := sj h
       refine Ae ((Qs 4 _ rfl).trans (sm [] [(4, pD (.sl ((([] : List AD)).map Bj))), (5, iD v13.2)] [] rfl rfl)) (Ar ?_)
       exact ⟨⟨[_, _], ⟨.tmp _ _ rfl, tm⟩, rfl⟩, tv⟩
      ·refine Ai (wq rfl (qL Bn AW rfl ?_))
       refine BD h fun v15 a15 h => Df [] [2010, 2011, 2012] (Pv N v13.1 v15 a15) ak BO rfl (qa rfl (Ac (wq rfl (qw 2 rfl ?_))))
       refine Xu (kv := Value.string) (vt := N7) (m := v8.2.1) (dv := 0) (.p rfl) rfl rfl rfl (Oo Sq aA) (by rw [Sq]; rfl) I6 rfl rfl rfl ?_
       refine qm rfl (qx rfl (qx rfl (qa rfl (qe rfl ?_))))
       refine AS h (fun v16 => mk [(2, oD (.ptr 2 0)), (6, oD (.own 2013)), (7, oD (.mref 2014)), (8, iD v2.2.2), (16, iD v16.2.2), (46, oD (.own 2015)), (47, iD ((v6.1.length : Int))), (48, iD v8.2.2)] [(2, .box (Ah p0)), (2013, .dvec 8 [.s, .s, .s, .s, .s, .s, .s, .x 1 []] (v16.1.map Bj)), (2014, .mp (Gi Value.string N7 v16.2.1)), (2015, .vec 3 (v6.1.map AG))]) (fun j16 h => ?_) (fun v16 h => ?_)
       ·refine wq rfl (qm rfl (Cp rfl (Ac ?_)))
        refine Ba h (fun h => ?_) fun h => ?_
        ·refine AS h (fun v18 => mk [(2, oD (.ptr 2 0)), (6, oD (.own 2016)), (7, oD (.mref 2017)), (8, iD v2.2.2), (15, pD (.val (.string v15))), (16, iD v18.2), (46, oD (.own 2018)), (47, iD ((v6.1.length : Int))), (48, iD v8.2.2)] [(2, .box (Ah p0)), (2016, .dvec 8 [.s, .s, .s, .s, .s, .s, .s, .x 1 []] (v18.1.map Bj)), (2017, .mp (Gi Value.string N7 v8.2.1)), (2018, .vec 3 (v6.1.map AG))]) (fun j18 h => ?_) (fun v18 h => ?_)
         ·refine wq rfl (qL CO BU rfl (qL Bn AW rfl ?_))
          refine BD h fun v19 a19 h => Df [] [2010, 2011, 2012] (Ik N p0 v13.1 v19 a19) Yq BO rfl (qm rfl (qx rfl (qx rfl (qa rfl (qe rfl ?_)))))
          refine AS h (fun v20 => mk [(2, oD (.ptr 2 0)), (6, oD (.own 2022)), (7, oD (.mref 2023)), (8, iD v2.2.2), (12, oD (.ptr 12 0)), (13, oD (.ptr 13 0)), (15, pD (.val (.string v15))), (46, oD (.own 2024)), (47, iD ((v6.1.length : Int))), (48, iD v8.2.2), (87, bD v20)] [(2, .box (Ah p0)), (12, .box (DA v11)), (13, .box [.own 2019, .own 2020, .own 2021]), (2019, .vec 1 (v13.1.fD.map Ak)), (2020, .vec 1 (v13.1.fB.map Ak)), (2021, .vec 1 (v13.1.fE.map DL)), (2022, .dvec 8 [.s, .s, .s, .s, .s, .s, .s, .x 1 []] (v8.1.map Bj)), (2023, .mp (Gi Value.string N7 v8.2.1)), (2024, .vec 3 (v6.1.map AG))]) (fun j20 h => ?_) (fun v20 h => ?_)
          ·refine Ag Av rfl (qm rfl (BA rfl (qm rfl ?_)))
           refine En 84 h rfl (fun h => ?_) fun h => ?_
           ·refine qw 2 rfl (qp rfl (Ac ?_))
            exact sn [(2019, 2010), (2020, 2011), (2021, 2012), (2022, 2005), (2023, 2006), (2024, 2007)] h
           ·refine qm rfl (Cp rfl (qp rfl (Ac ?_)))
            exact sn [(2019, 2010), (2020, 2011), (2021, 2012), (2022, 2005), (2023, 2006), (2024, 2007)] h
          ·refine Ba h (fun h => ?_) fun h => ?_
           ·refine Ag Av rfl (qe rfl ?_)
            exact sn [(2016, 2022), (2017, 2023), (2018, 2024)] h
           ·refine wq rfl (qm rfl ?_)
            refine UF (.p rfl) rfl rfl (MA Bj v8.1 _ _) HE ?_
            refine qa rfl (Ac (Ag Av rfl (qm rfl (qL Bn AW rfl (qm rfl (qL Jk EE rfl (Bk TU aq rfl (CE (A4 2019 _ _ rfl rfl) (CE (A4 2020 _ _ rfl rfl) (CE (A4 2021 _ _ rfl rfl) ?_))))))))))
            refine M1 [(0, .tmp 94, _)] (.p rfl) rfl ⟨rfl, tv⟩ rfl HE Lx TU rfl rfl (Jw rfl) rfl rfl ?_
            refine CE (Q4 95 8 [.s, .s, .s, .s, .s, .s, .s, .x 1 []] _ ((([(AD.mk v13.1 v2.2.2 v11 (([] : List Int)))] : List AD)).map Bj) rfl rfl) ?_
            refine FD h fun c23 h => WD (.p rfl) rfl rfl rfl rfl rfl (by decide) HE HE Lx aE (Jw rfl) TU rfl (Zg (f := Bj) (g := Bj) (xs := v8.1) (ys := (([(AD.mk v13.1 v2.2.2 v11 (([] : List Int)))] : List AD))) c23) (Zr Bj v8.1 (([(AD.mk v13.1 v2.2.2 v11 (([] : List Int)))] : List AD))) rfl rfl ?_
            refine qa rfl (Ac ?_)
            exact sn [(2016, 96), (2017, 2023), (2018, 2024)] h
         ·refine Ag Av rfl (qw 3 rfl ?_)
          refine Ph (kv := Value.string) (vt := N7) (m := v8.2.1) (k := v15) (v := v18.2) rfl (.inl rfl) rfl rfl rfl rfl (Oo Sq aA) rfl ?_
          refine Ac ?_
          exact sn [(2013, 2016), (2014, 2017), (2015, 2018)] h
        ·refine Ai ?_
         exact sn [(2013, 2005), (2014, 2006), (2015, 2007)] h
       ·refine AS h (fun v24 => mk [(2, oD (.ptr 2 0)), (6, oD (.own 2025)), (7, oD (.mref 2026)), (8, iD v2.2.2), (46, oD (.own 2027)), (47, iD ((v6.1.length : Int))), (48, iD v8.2.2)] [(2, .box (Ah p0)), (2025, .dvec 8 [.s, .s, .s, .s, .s, .s, .s, .x 1 []] (v24.map Bj)), (2026, .mp (Gi Value.string N7 v16.2.1)), (2027, .vec 3 (v6.1.map AG))]) (fun j24 h => ?_) (fun v24 h => ?_)
        ·refine wq rfl (qm rfl (EF rfl (Ac ?_)))
         refine Ba h (fun h => ?_) fun h => ?_
         ·refine Ag Av rfl (qw 4 rfl ?_)
          refine BJ h fun v26 a26 b26 h => NA (.p rfl) rfl rfl rfl (MA Bj v16.1 _ _) HE Lx a26 (AF b26) ?_
          refine qh TB rfl ?_
          refine bp (.p rfl) rfl A7 rfl (Af b26) rfl rfl rfl rfl ?_
          refine qm rfl (Dg Au CK I6 rfl ?_)
          refine FD h fun c27 h => Cu (f := Ak) Au Au CK Ki I6 c27 rfl ?_
          refine BJ h fun v28 a28 b28 h => NA (.p rfl) rfl rfl rfl (aX Bj v16.1 _ _ _ _ _) HE Lx a28 (AF b28) ?_
          refine qh TB rfl ?_
          refine WT rfl rfl rfl rfl (rows2 := (v26.fB ++ (([v16.2.2] : List Int))).map Ak) (cols2 := []) rfl rfl (Af b28) (by decide) Ig rfl rfl (Dx Bj v16.1 _ ((AD.mk ((Ab.mk v28.fN.fD v28.fN.fB v28.fN.fE)) v28.fF ((Ad.mk v28.fR.fG v28.fR.fI v28.fR.fO)) (v26.fB ++ (([v16.2.2] : List Int)))))) ?_
          refine Ac ?_
          exact sn [(2025, 2013), (2026, 2014), (2027, 2015)] h
         ·refine Ai ?_
          exact sn [(2025, 2013), (2026, 2014), (2027, 2015)] h
        ·refine wq rfl (qm rfl ?_)
         refine UF (.p rfl) rfl rfl (MA Bj v24 _ _) HE ?_
         refine Gg rfl (Ac ?_)
         refine Ba h (fun h => ?_) fun h => ?_
         ·refine wq rfl (qa rfl (qe rfl ?_))
          obtain rfl := sj h
          refine Ae ((Qs 4 _ rfl).trans (sm [] [(4, pD (.sl ((([] : List AD)).map Bj))), (5, iD 3)] [] rfl rfl)) (Ar ?_)
          exact ⟨⟨[_, _], ⟨.tmp _ _ rfl, tm⟩, rfl⟩, tv⟩
         ·refine Ai (Ag Av rfl (A0 rfl (qm rfl (Ac ?_))))
          exact sn [(2005, 2025), (2006, 2026), (2007, 2027)] h
     ·refine AU ?_
      exact sn [(2008, 2005), (2009, 2006)] h
    ·refine Ae hs (Ag Av rfl (qm rfl (A0 rfl (qe rfl ?_))))
     exact sn [(2001, 2008), (2002, 2009)] h
  ·refine AU ?_
   exact sn [(2003, 2001)] h
 ·refine Ae hs (wq rfl (qm rfl (qa rfl (qe rfl ?_))))
  obtain rfl := sj h
  refine Ae ((Wf 2003 _ _ _ rfl rfl).trans (sm [] [(4, pD (.sl (v3.map Bj))), (5, iD 0)] [] rfl rfl)) (Ar ?_)
  exact ⟨⟨[_, _], ⟨.tmp _ _ rfl, tm⟩, rfl⟩, tv⟩
theorem Lt (N : Nat) (p0 : List Int) (p1 : List Int) (r : Bool) (h : Ei N p0 p1 = some r) : An zA0 25 [pD (.sl (p0.map Ak)), pD (.sl (p1.map Ak))] [] (bD r) := by
 unfold Ei at h
 refine cw (n := 26) (rs := [.tmp 4]) Tryz.func25 fun w0 S0 => ?_
 refine wq rfl (qa rfl (Ac (wp rfl (qm rfl (AI Au rfl (qm rfl (AI Au rfl (BA rfl (Ac ?_)))))))))
 refine Ba h (fun h => ?_) fun h => ?_
 ·refine wq rfl (qe rfl ?_)
  obtain rfl := sj h
  refine Ae (sm [] [(4, bD false)] [] rfl rfl) (Ar ?_)
  exact ⟨⟨[_], tm, rfl⟩, tv⟩
 ·refine Ai (wp rfl (qm rfl (AI Au rfl (qm rfl (Ac ?_)))))
  refine AC (L := Cd N p0 p1) h (fun v2 => mk [(0, pD (.sl (p0.map Ak))), (1, pD (.sl (p1.map Ak))), (12, iD ((p0.length : Int))), (13, iD v2)] []) (fun v3 => mk [] []) (fun _ _ => rfl) (sm [] _ _ rfl rfl) (fun j2 n2 v2 h => ?_) (fun v3 s h hs => ?_)
  ·unfold Cd at h
   refine wq rfl (AY rfl (Ac (AL ?_)))
   refine Ba h (fun h => ?_) fun h => ?_
   ·refine Ai (AL (AJ (wq rfl (qm rfl (qa rfl (Ac (wq rfl (qw 2 rfl ?_))))))))
    refine BJ h fun v5 a5 b5 h => qi Au CK a5 (Af b5) rfl (qk B1 rfl (qw 2 rfl ?_))
    refine BJ h fun v6 a6 b6 h => qi Au CK a6 (Af b6) rfl (qk B1 rfl (BA rfl (AM (by kernel_rfl) ?_)))
    refine Ba h (fun h => ?_) fun h => ?_
    ·refine wq rfl (qe rfl ?_)
     obtain rfl := sj h
     refine Ae (sm [] [(4, bD false)] [] rfl rfl) (Ar ?_)
     exact ⟨⟨[_], tm, rfl⟩, tv⟩
    ·refine Ai (Ag Av rfl (A0 rfl (qm rfl (Ac ?_))))
     exact sn [] h
   ·refine AU ?_
    exact sn [] h
  ·refine Ae hs (wq rfl (qe rfl ?_))
   obtain rfl := sj h
   refine Ae (sm [] [(4, bD true)] [] rfl rfl) (Ar ?_)
   exact ⟨⟨[_], tm, rfl⟩, tv⟩
theorem Ke (N : Nat) (p0 : List Int) (p1 : Int → Option Bool) (r : Int) (h : El N p0 p1 = some r) : An zA0 157 [pD (.sl (p0.map Ak)), oD (.clo (G7 (LE false Ak) tB p1))] [] (iD r) := by
 unfold El at h
 refine cw (n := 19) (rs := [.tmp 4]) Tryz.func157 fun w0 S0 => ?_
 refine wq rfl (qa rfl (Ac (wp rfl (qm rfl (AI Au rfl (qm rfl (Ac ?_)))))))
 refine AC (L := Bm N p0 p1) h (fun v1 => mk [(0, pD (.sl (p0.map Ak))), (1, oD (.clo (G7 (LE false Ak) tB p1))), (7, iD ((p0.length : Int))), (8, iD v1)] []) (fun v2 => mk [] []) (fun _ _ => rfl) (sm [] _ _ rfl rfl) (fun j1 n1 v1 h => ?_) (fun v2 s h hs => ?_)
 ·unfold Bm at h
  refine wq rfl (AY rfl (Ac (AL ?_)))
  refine Ba h (fun h => ?_) fun h => ?_
  ·refine Ai (AL (AJ (wq rfl (qm rfl (qa rfl (Ac (wq rfl (qw 3 rfl ?_))))))))
   refine BJ h fun v4 a4 b4 h => qi Au CK a4 (Af b4) rfl (qk B1 rfl ?_)
   refine BD h fun v5 a5 h => JK (ds0 := [_]) (ar := (LE false Ak) v4) (.p rfl) rfl rfl ⟨rfl, tv⟩ rfl rfl rfl (IT (Lh _ _ Ot) a5) ?_
   refine Ac ?_
   refine Ba h (fun h => ?_) fun h => ?_
   ·refine wq rfl (qm rfl (qe rfl ?_))
    obtain rfl := sj h
    refine Ae (sm [] [(4, iD v1)] [] rfl rfl) (Ar ?_)
    exact ⟨⟨[_], tm, rfl⟩, tv⟩
   ·refine Ai (Ag Av rfl (A0 rfl (qm rfl (Ac ?_))))
    exact sn [] h
  ·refine AU ?_
   exact sn [] h
 ·refine Ae hs (wq rfl (qe rfl ?_))
  obtain rfl := sj h
  refine Ae (sm [] [(4, iD ((-1)))] [] rfl rfl) (Ar ?_)
  exact ⟨⟨[_], tm, rfl⟩, tv⟩
theorem Je (N : Nat) (p0 : List Int) (p1 : Int → Option Bool) (r : Bool) (h : C3 N p0 p1 = some r) : An zA0 121 [pD (.sl (p0.map Ak)), oD (.clo (G7 (LE false Ak) tB p1))] [] (bD r) := by
 unfold C3 at h
 refine cw (n := 9) (rs := [.tmp 4]) Tryz.func121 fun w0 S0 => ?_
 refine wq rfl (qa rfl (Ac (wq rfl (qw 2 rfl ?_))))
 refine BD h fun v1 a1 h => Aw [] (Ke N p0 p1 v1 a1) cd rfl (EF rfl (qe rfl ?_))
 obtain rfl := sj h
 refine Ae (sm [] [(4, bD ((decide (0 ≤ v1))))] [] rfl rfl) (Ar ?_)
 exact ⟨⟨[_], tm, rfl⟩, tv⟩
theorem R9 (N : Nat) (p0 : Int) (r : Bool) (h : HF N p0 = some r) : An zA0 122 [iD p0] [] (bD r) := by
 unfold HF at h
 refine cw (n := 5) (rs := [.tmp 2]) Tryz.func122 fun w0 S0 => ?_
 refine wq rfl (qa rfl (Ac (wq rfl (qm rfl (EF rfl (qe rfl ?_))))))
 obtain rfl := sj h
 refine Ae (sm [] [(2, bD ((decide (0 ≤ p0))))] [] rfl rfl) (Ar ?_)
 exact ⟨⟨[_], tm, rfl⟩, tv⟩
theorem Qx (N : Nat) (p0 : Aa) (p1 : Ab) (r : Bool) (h : H9 N p0 p1 = some r) : An zA0 85 [.e (.agg (Ah p0)), .e (.agg (AE p1))] [] (bD r) := by
 unfold H9 at h
 refine cw (n := 22) (rs := [.tmp 4]) Tryz.func85 fun w0 S0 => ?_
 refine wq rfl (qb rfl (qb rfl (qe rfl ?_)))
 refine AS h (fun v1 => mk [(4, bD v1)] []) (fun j1 h => ?_) (fun v1 h => ?_)
 ·refine Ag Av rfl (qL CO BU rfl (qL Bn AW rfl ?_))
  refine BD h fun v2 a2 h => Aw [] (Kl N p0 p1 v2 a2) VQ rfl (Cf rfl (qm rfl ?_))
  refine En 9 h rfl (fun h => ?_) fun h => ?_
  ·refine qf Dd rfl (ql A7 rfl (qf G4 rfl (ql A7 rfl ?_)))
   refine BD h fun v4 a4 h => Aw [] (Lt N p1.fD p0.fL v4 a4) eM rfl (qp rfl (qm rfl ?_))
   refine En 16 h rfl (fun h => ?_) fun h => ?_
   ·refine qf BK rfl (ql A7 rfl ?_)
    refine BD h fun v6 a6 h => Aw [] (An.weak (ds' := [pD (.sl (p1.fB.map Ak)), oD (.fnc 122)]) (Je N p1.fB ((fun (x : Int) => HF N x)) v6 a6) ⟨(fun _ _ _ hh => hh), (fun _ _ _ hh => Sx co (fun ar t ht => by obtain ⟨x, r, rfl, hq, rfl⟩ := Hn ht; exact R9 N x r hq) hh), tv⟩) dI rfl ?_
    refine Cp rfl (qp rfl (qe rfl ?_))
    exact sn [] h
   ·refine qw 4 rfl (qp rfl (qe rfl ?_))
    exact sn [] h
  ·refine qw 5 rfl (qp rfl (qw 5 rfl (qp rfl (qe rfl ?_))))
   exact sn [] h
 ·obtain rfl := sj h
  refine Ae (sm [] [(4, bD v1)] [] rfl rfl) (Ar ?_)
  exact ⟨⟨[_], tm, rfl⟩, tv⟩
theorem QG (N : Nat) (p0 : AD) (p1 : List Int) (p2 : List Int) (p3 : List Int) (p4 : List Am) (r : Bool) (h : E1 N p0 p1 p2 p3 p4 = some r) : An zA0 108 [.e (.agg (Wi p0)), oD (.rop [.sl (p1.map Ak), .sl (p2.map Ak), .sl (p3.map Ak), .sl (p4.map AO)])] [] (bD r) := by
 unfold E1 at h
 refine cw (n := 8) (rs := [.tmp 3]) Tryz.func108 fun w0 S0 => ?_
 refine wq rfl (qb rfl (qa rfl (Ac (wq rfl (qK CO BU rfl (qf Pu rfl (qL Bn AW rfl ?_)))))))
 refine BD h fun v1 a1 h => Aw [] (Qx N ((Aa.mk p1 p2 p3 p4)) ((Ab.mk p0.fN.fD p0.fN.fB p0.fN.fE)) v1 a1) cu rfl (qe rfl ?_)
 obtain rfl := sj h
 refine Ae (sm [] [(3, bD v1)] [] rfl rfl) (Ar ?_)
 exact ⟨⟨[_], tm, rfl⟩, tv⟩
theorem Hg (N : Nat) (p0 : List AD) (p1 : AD → Option Bool) (r : Int) (h : Ct N p0 p1 = some r) : An zA0 107 [pD (.sl (p0.map Bj)), oD (.clo (G7 (LE true Bj) tB p1))] [] (iD r) := by
 unfold Ct at h
 refine cw (n := 19) (rs := [.tmp 4]) Tryz.func107 fun w0 S0 => ?_
 refine wq rfl (qa rfl (Ac (wp rfl (qm rfl (AI HE rfl (qm rfl (Ac ?_)))))))
 refine AC (L := A1 N p0 p1) h (fun v1 => mk [(0, pD (.sl (p0.map Bj))), (1, oD (.clo (G7 (LE true Bj) tB p1))), (7, iD ((p0.length : Int))), (8, iD v1)] []) (fun v2 => mk [] []) (fun _ _ => rfl) (sm [] _ _ rfl rfl) (fun j1 n1 v1 h => ?_) (fun v2 s h hs => ?_)
 ·unfold A1 at h
  refine wq rfl (AY rfl (Ac (AL ?_)))
  refine Ba h (fun h => ?_) fun h => ?_
  ·refine Ai (AL (AJ (wq rfl (qm rfl (qa rfl (Ac (wq rfl (qw 3 rfl ?_))))))))
   refine BJ h fun v4 a4 b4 h => qi HE Lx a4 (Af b4) rfl (qK cj Lx rfl ?_)
   refine BD h fun v5 a5 h => JK (ds0 := [_]) (ar := (LE true Bj) ((AD.mk ((Ab.mk v4.fN.fD v4.fN.fB v4.fN.fE)) v4.fF ((Ad.mk v4.fR.fG v4.fR.fI v4.fR.fO)) v4.fB))) (.p rfl) rfl rfl ⟨rfl, tv⟩ rfl rfl rfl (IT (Lh _ _ Tk) a5) ?_
   refine Ac ?_
   refine Ba h (fun h => ?_) fun h => ?_
   ·refine wq rfl (qm rfl (qe rfl ?_))
    obtain rfl := sj h
    refine Ae (sm [] [(4, iD v1)] [] rfl rfl) (Ar ?_)
    exact ⟨⟨[_], tm, rfl⟩, tv⟩
   ·refine Ai (Ag Av rfl (A0 rfl (qm rfl (Ac ?_))))
    exact sn [] h
  ·refine AU ?_
   exact sn [] h
 ·refine Ae hs (wq rfl (qe rfl ?_))
  obtain rfl := sj h
  refine Ae (sm [] [(4, iD ((-1)))] [] rfl rfl) (Ar ?_)
  exact ⟨⟨[_], tm, rfl⟩, tv⟩
theorem H2 (N : Nat) (p0 : List Ad) (r : (List Ad)) (h : BF N p0 = some r) : EP zA0 139 [oD (.own 90000)] [(.vec 3 (p0.map AG), .vec 3 (r.map AG))] [] (.tup []) := by
 unfold BF at h
 refine G9 (n := 28) (rs := []) Tryz.func139 rfl rfl rfl (Jw rfl) (Jw rfl) rfl rfl (Jw rfl) rfl (Jw rfl) fun w0 S0 GL => bV ?_
 refine Ae (sm [] [(0, oD (.own 90000))] [(90000, .vec 3 (p0.map AG))] rfl rfl) (wq rfl (qm rfl (Et EG rfl (J9 rfl (qa rfl (qe rfl ?_))))))
 refine AC (L := Bp N) h (fun v1 => mk [(0, oD (.own 90000)), (2, iD v1.2.1), (3, iD v1.2.2)] [(90000, .vec 3 (v1.1.map AG))]) (fun v2 => mk [] [(90000, .vec 3 (v2.map AG))]) (fun _ _ => rfl) (sm [] _ _ rfl rfl) (fun j1 n1 v1 h => ?_) (fun v2 s h hs => ?_)
 ·unfold Bp at h
  refine wp rfl (qw 2 rfl (AY rfl (Ac ?_)))
  refine Ba h (fun h => ?_) fun h => ?_
  ·refine Ai (AL (AJ (Ag Av rfl (qw 6 rfl ?_))))
   refine BJ h fun v4 a4 b4 h => qI EG EE a4 (Af b4) rfl (qJ Jk EE (Af b4) rfl (qw 2 rfl ?_))
   refine BJ h fun v5 a5 b5 h => qI EG EE a5 (Af b5) rfl (qJ Jk EE (Af b5) rfl ?_)
   refine BJ h fun v6 a6 b6 h => qI EG EE a6 (Af b6) rfl ?_
   refine DM rfl rfl rfl rfl (Af b6) rfl EE rfl (Jw rfl) (Dx AG v1.1 _ v4) ?_
   refine BJ h fun v7 a7 b7 h => qI EG EE a7 (Af b7) rfl ?_
   refine DM rfl rfl rfl rfl (Af b7) rfl EE rfl (Jw rfl) (Dx AG (v1.1.set ((v1.2.1).toNat) v4) _ v5) ?_
   refine AM (by kernel_rfl) (Ag Av rfl (qm rfl (A0 rfl (qm rfl (J9 rfl (qa rfl (qe rfl ?_)))))))
   exact sn [] h
  ·refine AU ?_
   exact sn [] h
 ·obtain rfl := sj h
  refine ⟨_, hs.trans (sm [] [] [(90000, .vec 3 (v2.map AG))] rfl rfl), ?_⟩
  exact ⟨⟨[], tv, rfl⟩, ⟨rfl, tv⟩, tv⟩
theorem US (N : Nat) (p0 : List AD) (p1 : Int) (r : (List Ad)) (h : Kr N p0 p1 = some r) : An zA0 109 [pD (.sl (p0.map Bj)), iD p1] [(3, r.map AG)] (oD (.own 0)) := by
 unfold Kr at h
 refine cw (n := 28) (rs := [.tmp 4]) Tryz.func109 fun w0 S0 => ?_
 refine wq rfl (qa rfl (Ac (wq rfl (qa rfl (Ac (AL ?_))))))
 refine AC (L := Gq N p0) h (fun v1 => mk [(0, pD (.sl (p0.map Bj))), (1, iD v1.1), (5, oD (.own 2001))] [(2001, .vec 3 (v1.2.map AG))]) (fun v2 => mk [(5, oD (.own 2002))] [(2002, .vec 3 (v2.map AG))]) (fun _ _ => rfl) ((A9 5 2003 3 rfl rfl rfl).trans (sm [(2001, 2003)] _ _ rfl rfl)) (fun j1 n1 v1 h => ?_) (fun v2 s h hs => ?_)
 ·unfold Gq at h
  refine wp rfl (qw 2 rfl ?_)
  refine BJ h fun v3 a3 b3 h => qi HE Lx a3 (Af b3) rfl (qg T6 rfl (qk B1 rfl (EF rfl (Ac ?_))))
  refine Ba h (fun h => ?_) fun h => ?_
  ·refine Ai (AL (AJ (Ag Av rfl (qw 3 rfl ?_))))
   refine BJ h fun v5 a5 b5 h => qi HE Lx a5 (Af b5) rfl (qg X8 rfl (qK Jk EE rfl (Dg EG EE Lq rfl ?_)))
   refine FD h fun c6 h => Cu (f := AG) EG EG EE TQ Lq c6 rfl (qa rfl (Ac (Ag Av rfl (qw 2 rfl ?_))))
   refine BJ h fun v7 a7 b7 h => qi HE Lx a7 (Af b7) rfl (qg T6 rfl (qk B1 rfl (qe rfl ?_)))
   exact sn [(2001, 24)] h
  ·refine AU ?_
   exact sn [(2002, 2001)] h
 ·refine Ae hs (wq rfl (qm rfl ?_))
  refine BD h fun v8 a8 h => Mt (ds0 := [_]) [2002] [] [true] (H2 N v2 v8 a8) (.p rfl) ee rfl ⟨rfl, tv⟩ rfl rfl (by decide) ⟨rfl, tv⟩ rfl (Gx rfl) tv ⟨(fun h => by cases h), tv⟩ rfl rfl rfl ?_
  refine Ac (wq rfl (qm rfl (qe rfl ?_)))
  obtain rfl := sj h
  refine Ae (sm [(1000, 2002)] [(4, oD (.own 1000))] [(1000, .vec 3 (v8.map AG))] rfl rfl) (Ar ?_)
  exact ⟨⟨[_], tm, rfl⟩, ⟨rfl, tv⟩⟩
theorem Ul (N : Nat) (p0 : Aa) (p1 : Ab) (r : (List Ad) × Int) (h : F2 N p0 p1 = some r) : An zA0 75 [.e (.agg (Ah p0)), .e (.agg (AE p1))] [(3, r.1.map AG)] (.tup [.one (.own 0), .one (iC r.2)]) := by
 unfold F2 at h
 refine cw (n := 38) (rs := [.tmp 4, .tmp 5]) Tryz.func75 fun w0 S0 => ?_
 refine wq rfl (qb rfl (qb rfl (qa rfl (qa rfl (Ac (wq rfl (qL CO BU rfl (qL Bn AW rfl ?_))))))))
 refine BD h fun v1 a1 h => Aw [] (Ik N p0 p1 v1 a1) Yq rfl (qm rfl (qx rfl (qx rfl (qa rfl (qa rfl (Ac (wp rfl (qm rfl (BA rfl (Ac ?_))))))))))
 refine Ba h (fun h => ?_) fun h => ?_
 ·refine wq rfl (qm rfl (qa rfl (qe rfl ?_)))
  obtain rfl := sj h
  refine Ae ((A9 4 2001 3 rfl rfl rfl).trans (sm [(1000, 2001)] [(4, oD (.own 1000)), (5, iD v1.2)] [(1000, .vec 3 ((([] : List Ad)).map AG))] rfl rfl)) (Ar ?_)
  exact ⟨⟨[_, _], ⟨.tmp _ _ rfl, tm⟩, rfl⟩, ⟨rfl, tv⟩⟩
 ·refine Ai (wp rfl (qm rfl (Cp rfl (Ac ?_))))
  refine Ba h (fun h => ?_) fun h => ?_
  ·refine wq rfl (qa rfl (qe rfl ?_))
   obtain rfl := sj h
   refine Ae ((A9 4 2002 3 rfl rfl rfl).trans (sm [(1000, 2002)] [(4, oD (.own 1000)), (5, iD 13)] [(1000, .vec 3 ((([] : List Ad)).map AG))] rfl rfl)) (Ar ?_)
   exact ⟨⟨[_, _], ⟨.tmp _ _ rfl, tm⟩, rfl⟩, ⟨rfl, tv⟩⟩
  ·refine Ai (wq rfl (qL CO BU rfl (qL Bn AW rfl ?_)))
   refine BD h fun v4 a4 h => Aw [] (QJ N p0 p1 v4 a4) dP rfl (qm rfl (qx rfl (qx rfl (qa rfl (qa rfl (Ac (wp rfl (qm rfl (BA rfl (Ac ?_))))))))))
   refine Ba h (fun h => ?_) fun h => ?_
   ·refine wq rfl (qm rfl (qa rfl (qe rfl ?_)))
    obtain rfl := sj h
    refine Ae ((A9 4 2003 3 rfl rfl rfl).trans (sm [(1000, 2003)] [(4, oD (.own 1000)), (5, iD v4.2)] [(1000, .vec 3 ((([] : List Ad)).map AG))] rfl rfl)) (Ar ?_)
    exact ⟨⟨[_, _], ⟨.tmp _ _ rfl, tm⟩, rfl⟩, ⟨rfl, tv⟩⟩
   ·refine Ai (wq rfl (qm rfl (CE (Is 2 [.sl (p0.fA.map Ak), .sl (p0.fH.map Ak), .sl (p0.fL.map Ak), .sl (p0.fC.map AO)] rfl rfl) ?_)))
    refine IQ (capD := [_]) (G7 (LE true Bj) tB ((fun (x : AD) => E1 N x p0.fA p0.fH p0.fL p0.fC))) (.p rfl) dq rfl ⟨rfl, tv⟩ rfl (fun ar t ht => by obtain ⟨x, r, rfl, hq, rfl⟩ := Hn ht; exact QG N x p0.fA p0.fH p0.fL p0.fC r hq) ?_
    refine BD h fun v6 a6 h => Aw [] (Hg N v4.1 ((fun (x : AD) => E1 N x p0.fA p0.fH p0.fL p0.fC)) v6 a6) cE rfl (qa rfl (Ac (wp rfl (qm rfl (AY rfl (Ac ?_))))))
    refine Ba h (fun h => ?_) fun h => ?_
    ·refine wq rfl (qa rfl (qe rfl ?_))
     obtain rfl := sj h
     refine Ae ((A9 4 2004 3 rfl rfl rfl).trans (sm [(1000, 2004)] [(4, oD (.own 1000)), (5, iD 14)] [(1000, .vec 3 ((([] : List Ad)).map AG))] rfl rfl)) (Ar ?_)
     exact ⟨⟨[_, _], ⟨.tmp _ _ rfl, tm⟩, rfl⟩, ⟨rfl, tv⟩⟩
    ·refine Ai (wq rfl (qw 2 rfl ?_))
     refine BD h fun v8 a8 h => Aw [2005] (US N v4.1 v6 v8 a8) cA rfl (qa rfl (qe rfl ?_))
     obtain rfl := sj h
     refine Ae (sm [(1000, 2005)] [(4, oD (.own 1000)), (5, iD 0)] [(1000, .vec 3 (v8.map AG))] rfl rfl) (Ar ?_)
     exact ⟨⟨[_, _], ⟨.tmp _ _ rfl, tm⟩, rfl⟩, ⟨rfl, tv⟩⟩
theorem Ud (N : Nat) (p0 : Aa) (r : (List Ad) × Int) (h : GC N p0 = some r) : An zA0 40 [.e (.agg (Ah p0))] [(3, r.1.map AG)] (.tup [.one (.own 0), .one (iC r.2)]) := by
 unfold GC at h
 refine cw (n := 19) (rs := [.tmp 2, .tmp 3]) Tryz.func40 fun w0 S0 => ?_
 refine wq rfl (qb rfl (qa rfl (qa rfl (Ac (wq rfl (qL CO BU rfl ?_))))))
 refine BD h fun v1 a1 h => Aw [2001, 2002, 2003] (OW N p0 v1 a1) dV rfl (qm rfl (qx rfl (qx rfl (qz DG rfl (qs AW rfl (qa rfl (Ac (wp rfl (qm rfl (BA rfl (Ac ?_)))))))))))
 refine Ba h (fun h => ?_) fun h => ?_
 ·refine wq rfl (qm rfl (qa rfl (qe rfl ?_)))
  obtain rfl := sj h
  refine Ae ((A9 2 2004 3 rfl rfl rfl).trans (sm [(1000, 2004)] [(2, oD (.own 1000)), (3, iD v1.2)] [(1000, .vec 3 ((([] : List Ad)).map AG))] rfl rfl)) (Ar ?_)
  exact ⟨⟨[_, _], ⟨.tmp _ _ rfl, tm⟩, rfl⟩, ⟨rfl, tv⟩⟩
 ·refine Ai (wq rfl (qL CO BU rfl (qL Bn AW rfl ?_)))
  refine BD h fun v3 a3 h => Df [2005] [2001, 2002, 2003] (Ul N p0 v1.1 v3 a3) e9 (Ll (fun _ => rfl) BO) rfl (qx rfl (qx rfl (qa rfl (qe rfl ?_))))
  obtain rfl := sj h
  refine Ae (sm [(1000, 2005)] [(2, oD (.own 1000)), (3, iD v3.2)] [(1000, .vec 3 (v3.1.map AG))] rfl rfl) (Ar ?_)
  exact ⟨⟨[_, _], ⟨.tmp _ _ rfl, tm⟩, rfl⟩, ⟨rfl, tv⟩⟩
theorem KI (N : Nat) (p0 : Aa) (p1 : List Int) (r : Bool × Int) (h : E5 N p0 p1 = some r) : An zA0 12 [.e (.agg (Ah p0)), pD (.sl (p1.map Ak))] [] (.tup [.one (.pure (.val (.bool r.1))), .one (iC r.2)]) := by
 unfold E5 at h
 refine cw (n := 36) (rs := [.tmp 4, .tmp 5]) Tryz.func12 fun w0 S0 => ?_
 refine wq rfl (qb rfl (qa rfl (qa rfl (Ac (wp rfl (qL CO BU rfl ?_))))))
 refine BD h fun v1 a1 h => Aw [] (E7 N p0 v1 a1) Xo rfl (qa rfl (Ac (wq rfl (qm rfl (BA rfl (Ac ?_))))))
 refine Ba h (fun h => ?_) fun h => ?_
 ·refine wq rfl (qm rfl (qa rfl (qe rfl ?_)))
  obtain rfl := sj h
  refine Ae (sm [] [(4, bD false), (5, iD v1)] [] rfl rfl) (Ar ?_)
  exact ⟨⟨[_, _], ⟨.tmp _ _ rfl, tm⟩, rfl⟩, tv⟩
 ·refine Ai (wq rfl (qL CO BU rfl (qm rfl ?_)))
  refine BD h fun v3 a3 h => Aw [2001, 2002, 2003, 2004] (KU N p0 p1 v3 a3) cW rfl (qm rfl (qx rfl (qx rfl (qz Kj rfl (qs BU rfl (qa rfl (Ac (wp rfl (qm rfl (BA rfl (Ac ?_)))))))))))
  refine Ba h (fun h => ?_) fun h => ?_
  ·refine wq rfl (qm rfl (qa rfl (qe rfl ?_)))
   obtain rfl := sj h
   refine Ae (sm [] [(4, bD false), (5, iD v3.2)] [] rfl rfl) (Ar ?_)
   exact ⟨⟨[_, _], ⟨.tmp _ _ rfl, tm⟩, rfl⟩, tv⟩
  ·refine Ai (wp rfl (qL CO BU rfl ?_))
   refine BD h fun v5 a5 h => Df [2005] [2001, 2002, 2003, 2004] (Ud N v3.1 v5 a5) eS (Ll (fun _ => rfl) BO) rfl (qm rfl (qx rfl (qx rfl (qa rfl (qa rfl (Ac (wq rfl (qm rfl (Ac (AJ (wq rfl (Cf rfl (qe rfl ?_)))))))))))))
   refine Ba h (fun h => ?_) fun h => ?_
   ·refine wq rfl (qa rfl (qe rfl ?_))
    obtain rfl := sj h
    refine Ae (sm [] [(4, bD false), (5, iD 0)] [] rfl rfl) (Ar ?_)
    exact ⟨⟨[_, _], ⟨.tmp _ _ rfl, tm⟩, rfl⟩, tv⟩
   ·refine wq rfl (Cf rfl (qe rfl ?_))
    refine Ba h (fun h => ?_) fun h => ?_
    ·refine wq rfl (qm rfl (qa rfl (qe rfl ?_)))
     obtain rfl := sj h
     refine Ae (sm [] [(4, bD false), (5, iD v5.2)] [] rfl rfl) (Ar ?_)
     exact ⟨⟨[_, _], ⟨.tmp _ _ rfl, tm⟩, rfl⟩, tv⟩
    ·refine Ai (wq rfl (qa rfl (qe rfl ?_)))
     obtain rfl := sj h
     refine Ae (sm [] [(4, bD true), (5, iD 0)] [] rfl rfl) (Ar ?_)
     exact ⟨⟨[_, _], ⟨.tmp _ _ rfl, tm⟩, rfl⟩, tv⟩
theorem QL (N : Nat) (p0 : Aa) (p1 : Int) (r : Bool × Int) (h : JY N p0 p1 = some r) : An zA0 79 [.e (.agg (Ah p0)), pD (.val (.int .u64 p1))] [] (.tup [.one (.pure (.val (.bool r.1))), .one (iC r.2)]) := by
 unfold JY at h
 refine cw (n := 12) (rs := [.tmp 4, .tmp 5]) Tryz.func79 fun w0 S0 => ?_
 refine wq rfl (qb rfl (qa rfl (qa rfl (Ac (wq rfl (qL CO BU rfl (qm rfl ?_)))))))
 refine BD h fun v1 a1 h => Aw [2001] (Ix N p1 v1 a1) Y1 rfl ?_
 refine BD h fun v2 a2 h => Df [] [2001] (KI N p0 v1 v2 a2) aF BO rfl (qx rfl (qx rfl (qa rfl (qa rfl (AM (by kernel_rfl) ?_)))))
 obtain rfl := sj h
 refine Ae (sm [] [(4, bD v2.1), (5, iD v2.2)] [] rfl rfl) (Ar ?_)
 exact ⟨⟨[_, _], ⟨.tmp _ _ rfl, tm⟩, rfl⟩, tv⟩
theorem Ob (N : Nat) (p0 : Aa) (r : (List Int) × (List (Int × Bool)) × Int) (h : IY N p0 = some r) : An zA0 42 [.e (.agg (Ah p0))] [(1, r.1.map DO)] (.tup [.one (.own 0), .one (.pure (.mp (Gi (Value.int .u64) tB r.2.1))), .one (iC r.2.2)]) := by
 unfold IY at h
 refine cw (n := 56) (rs := [.tmp 2, .tmp 3, .tmp 4]) Tryz.func42 fun w0 S0 => ?_
 refine wq rfl (qb rfl (qa rfl (qa rfl (qa rfl (Ac (wp rfl (qL CO BU rfl ?_)))))))
 refine BD h fun v1 a1 h => Aw [] (E7 N p0 v1 a1) Xo rfl (qa rfl (Ac (wq rfl (qm rfl (BA rfl (Ac ?_))))))
 refine Ba h (fun h => ?_) fun h => ?_
 ·refine wq rfl (qm rfl (qa rfl (qa rfl (qe rfl ?_))))
  obtain rfl := sj h
  refine Ae ((A9 2 2001 1 rfl rfl rfl).trans (sm [(1000, 2001)] [(2, oD (.own 1000)), (3, pD (.mp (Gi (Value.int .u64) tB (([] : List (Int × Bool)))))), (4, iD v1)] [(1000, .vec 1 ((([] : List Int)).map DO))] rfl rfl)) (Ar ?_)
  exact ⟨⟨[_, _, _], ⟨.tmp _ _ rfl, ⟨.tmp _ _ rfl, tm⟩⟩, rfl⟩, ⟨rfl, tv⟩⟩
 ·refine Ai (wq rfl (qa rfl (Ac (wp rfl (qf Bb rfl (ql A7 rfl (AI Au rfl ?_)))))))
  refine FD h fun c3 h => Jo rfl c3 (qm rfl (Ac ?_))
  refine AC (L := Hy N p0) h (fun v4 => mk [(1, oD (.ptr 1 0)), (6, oD (.own 2002)), (21, pD (.val (.int .u64 ((D6 .u64 1 ((p0.fA.length : Int))))))), (22, pD (.val (.int .u64 v4.2)))] [(1, .box (Ah p0)), (2002, .vec 1 (v4.1.map DO))]) (fun v5 => mk [(1, oD (.ptr 1 0)), (6, oD (.own 2003))] [(1, .box (Ah p0)), (2003, .vec 1 (v5.map DO))]) (fun _ _ => rfl) ((A9 6 2004 1 rfl rfl rfl).trans (sm [(2002, 2004)] _ _ rfl rfl)) (fun j4 n4 v4 h => ?_) (fun v5 s h hs => ?_)
  ·unfold Hy at h
   refine wq rfl (AY rfl (Ac (AL ?_)))
   refine Ba h (fun h => ?_) fun h => ?_
   ·refine Ai (AL (AJ (wq rfl (qm rfl (qa rfl (Ac (Ag Av rfl (qw 2 rfl (Dg GN MD Tx rfl ?_)))))))))
    refine FD h fun c7 h => Cu (f := DO) GN GN MD XS Tx c7 rfl (qa rfl (Ac (Ag Av rfl (A0 rfl (qm rfl (Ac ?_))))))
    exact sn [(2002, 28)] h
   ·refine AU ?_
    exact sn [(2003, 2002)] h
  ·refine Ae hs (wq rfl (qm rfl ?_))
   refine BD h fun v8 a8 h => Mt (ds0 := [_, _]) [2003] [] [true] (EP.weak (ds' := [_, oD (.fnc 78)]) (JM N v5 ((fun (x : Int × Int) => HW N x.1 x.2)) v8 a8) ⟨(fun _ _ _ hh => hh), (fun _ _ _ hh => XC fk (fun ar t ht => by obtain ⟨x, r, rfl, hq, rfl⟩ := Hn ht; exact QA N x.1 x.2 r hq) hh), tv⟩) (.p rfl) et rfl ⟨rfl, rfl, tv⟩ rfl rfl (by decide) ⟨rfl, tv⟩ rfl (Gx rfl) tv ⟨(fun h => by cases h), tv⟩ rfl rfl rfl ?_
   refine Ac (wq rfl (qm rfl (Et GN rfl ?_)))
   refine UA (.p rfl) rfl OZ rfl ?_
   refine qa rfl (Ac (wp rfl (qm rfl (Et GN rfl (qm rfl (Ac ?_))))))
   refine AC (L := Hs N p0 v8) h (fun v9 => mk [(1, oD (.ptr 1 0)), (6, oD (.own 2005)), (8, oD (.mref 2006)), (35, oD (.own 2005)), (36, iD ((v8.length : Int))), (37, iD v9.2)] [(1, .box (Ah p0)), (2005, .vec 1 (v8.map DO)), (2006, .mp (Gi (Value.int .u64) tB v9.1))]) (fun v10 => mk [(6, oD (.own 2007)), (8, oD (.mref 2008))] [(2007, .vec 1 (v8.map DO)), (2008, .mp (Gi (Value.int .u64) tB v10))]) (fun _ _ => rfl) (sm [(2005, 2003), (2006, 34)] _ _ rfl rfl) (fun j9 n9 v9 h => ?_) (fun v10 s h hs => ?_)
   ·unfold Hs at h
    refine wq rfl (AY rfl (Ac (AL ?_)))
    refine Ba h (fun h => ?_) fun h => ?_
    ·refine Ai (AL (AJ (wq rfl ?_)))
     refine BJ h fun v12 a12 b12 h => qI GN MD a12 (Af b12) rfl (qj P9 (Af b12) rfl (qa rfl (Ac (wq rfl (qL CO BU rfl (qm rfl ?_))))))
     refine BD h fun v13 a13 h => Aw [] (QL N p0 v12 v13 a13) eW rfl (qm rfl (qx rfl (qx rfl (qa rfl (qa rfl (Ac (wp rfl (qm rfl (BA rfl (Ac ?_))))))))))
     refine Ba h (fun h => ?_) fun h => ?_
     ·refine wq rfl (qm rfl (qa rfl (qa rfl (qe rfl ?_))))
      obtain rfl := sj h
      refine Ae ((A9 2 2009 1 rfl rfl rfl).trans (sm [(1000, 2009)] [(2, oD (.own 1000)), (3, pD (.mp (Gi (Value.int .u64) tB (([] : List (Int × Bool)))))), (4, iD v13.2)] [(1000, .vec 1 ((([] : List Int)).map DO))] rfl rfl)) (Ar ?_)
      exact ⟨⟨[_, _, _], ⟨.tmp _ _ rfl, ⟨.tmp _ _ rfl, tm⟩⟩, rfl⟩, ⟨rfl, tv⟩⟩
     ·refine Ai (Ag Av rfl (qw 3 rfl ?_))
      refine Ph (kv := (Value.int .u64)) (vt := tB) (m := v9.1) (k := v12) (v := v13.1) rfl (.inl rfl) rfl rfl rfl rfl (Mv OZ Vj) rfl ?_
      refine Ac (Ag Av rfl (A0 rfl (qm rfl (Ac ?_))))
      exact sn [] h
    ·refine AU ?_
     exact sn [(2007, 2005), (2008, 2006)] h
   ·refine Ae hs (wq rfl (qw 2 rfl (qa rfl (qa rfl (qe rfl ?_)))))
    obtain rfl := sj h
    refine Ae ((Wr 2008 _ rfl rfl).trans (sm [(1000, 2007)] [(2, oD (.own 1000)), (3, pD (.mp (Gi (Value.int .u64) tB v10))), (4, iD 0)] [(1000, .vec 1 (v8.map DO))] rfl rfl)) (Ar ?_)
    exact ⟨⟨[_, _, _], ⟨.tmp _ _ rfl, ⟨.tmp _ _ rfl, tm⟩⟩, rfl⟩, ⟨rfl, tv⟩⟩
theorem Ou (N : Nat) (p0 : Int) (p1 : Int) (r : Bool) (h : FV N p0 p1 = some r) : An zA0 81 [pD (.val (.int .u64 p0)), oD (.rop [.val (.int .u64 p1)])] [] (bD r) := by
 unfold FV at h
 refine cw (n := 8) (rs := [.tmp 3]) Tryz.func81 fun w0 S0 => ?_
 refine wq rfl (qa rfl (Ac (wq rfl (qm rfl (qk P9 rfl (Iu rfl (Cf rfl (qe rfl ?_))))))))
 obtain rfl := sj h
 refine Ae (sm [] [(3, bD (((Dk .u64 p0 p1) == 0)))] [] rfl rfl) (Ar ?_)
 exact ⟨⟨[_], tm, rfl⟩, tv⟩
theorem GQ (N : Nat) (p0 : List Int) (p1 : Int → Option Bool) (r : Int) (h : DU N p0 p1 = some r) : An zA0 80 [pD (.sl (p0.map DO)), oD (.clo (G7 (LE false DO) tB p1))] [] (iD r) := by
 unfold DU at h
 refine cw (n := 19) (rs := [.tmp 4]) Tryz.func80 fun w0 S0 => ?_
 refine wq rfl (qa rfl (Ac (wp rfl (qm rfl (AI GN rfl (qm rfl (Ac ?_)))))))
 refine AC (L := Dq N p0 p1) h (fun v1 => mk [(0, pD (.sl (p0.map DO))), (1, oD (.clo (G7 (LE false DO) tB p1))), (7, iD ((p0.length : Int))), (8, iD v1)] []) (fun v2 => mk [] []) (fun _ _ => rfl) (sm [] _ _ rfl rfl) (fun j1 n1 v1 h => ?_) (fun v2 s h hs => ?_)
 ·unfold Dq at h
  refine wq rfl (AY rfl (Ac (AL ?_)))
  refine Ba h (fun h => ?_) fun h => ?_
  ·refine Ai (AL (AJ (wq rfl (qm rfl (qa rfl (Ac (wq rfl (qw 3 rfl ?_))))))))
   refine BJ h fun v4 a4 b4 h => qi GN MD a4 (Af b4) rfl (qk P9 rfl ?_)
   refine BD h fun v5 a5 h => JK (ds0 := [_]) (ar := (LE false DO) v4) (.p rfl) rfl rfl ⟨rfl, tv⟩ rfl rfl rfl (IT (Lh _ _ U0) a5) ?_
   refine Ac ?_
   refine Ba h (fun h => ?_) fun h => ?_
   ·refine wq rfl (qm rfl (qe rfl ?_))
    obtain rfl := sj h
    refine Ae (sm [] [(4, iD v1)] [] rfl rfl) (Ar ?_)
    exact ⟨⟨[_], tm, rfl⟩, tv⟩
   ·refine Ai (Ag Av rfl (A0 rfl (qm rfl (Ac ?_))))
    exact sn [] h
  ·refine AU ?_
   exact sn [] h
 ·refine Ae hs (wq rfl (qe rfl ?_))
  obtain rfl := sj h
  refine Ae (sm [] [(4, iD ((-1)))] [] rfl rfl) (Ar ?_)
  exact ⟨⟨[_], tm, rfl⟩, tv⟩
theorem Gf (N : Nat) (p0 : List Int) (p1 : Int → Option Bool) (r : Bool) (h : Dl N p0 p1 = some r) : An zA0 46 [pD (.sl (p0.map DO)), oD (.clo (G7 (LE false DO) tB p1))] [] (bD r) := by
 unfold Dl at h
 refine cw (n := 9) (rs := [.tmp 4]) Tryz.func46 fun w0 S0 => ?_
 refine wq rfl (qa rfl (Ac (wq rfl (qw 2 rfl ?_))))
 refine BD h fun v1 a1 h => Aw [] (GQ N p0 p1 v1 a1) cQ rfl (EF rfl (qe rfl ?_))
 obtain rfl := sj h
 refine Ae (sm [] [(4, bD ((decide (0 ≤ v1))))] [] rfl rfl) (Ar ?_)
 exact ⟨⟨[_], tm, rfl⟩, tv⟩
theorem QB (N : Nat) (p0 : List Int) (p1 : List (Int × Bool)) (r : (List Int)) (h : Jh N p0 p1 = some r) : An zA0 51 [pD (.sl (p0.map DO)), pD (.mp (Gi (Value.int .u64) tB p1))] [(1, r.map DO)] (oD (.own 0)) := by
 unfold Jh at h
 refine cw (n := 29) (rs := [.tmp 4]) Tryz.func51 fun w0 S0 => ?_
 refine wq rfl (qa rfl (Ac (wq rfl (qa rfl (Ac (wp rfl (qm rfl (AI GN rfl (qm rfl (Ac ?_))))))))))
 refine AC (L := Gy N p0 p1) h (fun v1 => mk [(1, pD (.mp (Gi (Value.int .u64) tB p1))), (5, oD (.own 2001)), (8, pD (.sl (p0.map DO))), (9, iD ((p0.length : Int))), (10, iD v1.2)] [(2001, .vec 1 (v1.1.map DO))]) (fun v2 => mk [(5, oD (.own 2002))] [(2002, .vec 1 (v2.map DO))]) (fun _ _ => rfl) ((A9 5 2005 1 rfl rfl rfl).trans (sm [(2001, 2005)] _ _ rfl rfl)) (fun j1 n1 v1 h => ?_) (fun v2 s h hs => ?_)
 ·unfold Gy at h
  refine wq rfl (AY rfl (Ac (AL ?_)))
  refine Ba h (fun h => ?_) fun h => ?_
  ·refine Ai ?_
   refine AS h (fun v4 => mk [(1, pD (.mp (Gi (Value.int .u64) tB p1))), (5, oD (.own 2003)), (8, pD (.sl (p0.map DO))), (9, iD ((p0.length : Int))), (10, iD v1.2)] [(2003, .vec 1 (v4.map DO))]) (fun j4 h => ?_) (fun v4 h => ?_)
   ·refine AJ (wq rfl ?_)
    refine BJ h fun v5 a5 b5 h => qi GN MD a5 (Af b5) rfl (qk P9 rfl (qz Tx rfl (qs MD rfl (Ac ?_))))
    refine AS h (fun v6 => mk [(1, pD (.mp (Gi (Value.int .u64) tB p1))), (5, oD (.own 2004)), (7, oD (.rop [.val (.int .u64 v5)])), (8, pD (.sl (p0.map DO))), (9, iD ((p0.length : Int))), (10, iD v1.2), (22, bD v6)] [(2004, .vec 1 (v1.1.map DO))]) (fun j6 h => ?_) (fun v6 h => ?_)
    ·refine Ag Av rfl (qm rfl (ql P9 rfl ?_))
     refine Om (kv := (Value.int .u64)) (vt := tB) (m := p1) (dv := false) (.p rfl) rfl rfl (Mv OZ Vj) (by rw [OZ]; rfl) Ut rfl rfl rfl ?_
     refine qm rfl ?_
     refine En 17 h rfl (fun h => ?_) fun h => ?_
     ·refine qm rfl (CE (Is 7 [.val (.int .u64 v5)] rfl rfl) ?_)
      refine IQ (capD := [_]) (G7 (LE false DO) tB ((fun (x : Int) => FV N x v5))) (.g rfl rfl) eI rfl ⟨rfl, tv⟩ rfl (fun ar t ht => by obtain ⟨x, r, rfl, hq, rfl⟩ := Hn ht; exact Ou N x v5 r hq) ?_
      refine BD h fun v8 a8 h => Df [] [2001] (Gf N v1.1 ((fun (x : Int) => FV N x v5)) v8 a8) dt BO rfl (Cp rfl (qp rfl (Ac ?_)))
      exact sn [(2004, 2001)] h
     ·refine qw 4 rfl (qp rfl (Ac ?_))
      exact aB _ h ((Is 7 [.val (.int .u64 v5)] rfl rfl).trans (sm [(2004, 2001)] _ _ rfl rfl))
    ·refine Ba h (fun h => ?_) fun h => ?_
     ·refine Ag Av rfl (qm rfl (qk P9 rfl (Dg GN MD Tx rfl ?_)))
      refine FD h fun c10 h => Cu (f := DO) GN GN MD XS Tx c10 rfl (qe rfl ?_)
      exact sn [(2003, 26)] h
     ·refine Ai ?_
      exact sn [(2003, 2004)] h
   ·refine Ag Av rfl (A0 rfl (qm rfl (Ac ?_)))
    exact sn [(2001, 2003)] h
  ·refine AU ?_
   exact sn [(2002, 2001)] h
 ·refine Ae hs (wq rfl (qm rfl (qe rfl ?_)))
  obtain rfl := sj h
  refine Ae (sm [(1000, 2002)] [(4, oD (.own 1000))] [(1000, .vec 1 (v2.map DO))] rfl rfl) (Ar ?_)
  exact ⟨⟨[_], tm, rfl⟩, ⟨rfl, tv⟩⟩
theorem NM (N : Nat) (p0 : List Int) (r : (List (List Int))) (h : IW N p0 = some r) : An zA0 48 [pD (.sl (p0.map DO))] [(1, r.map (FO Ak))] (oD (.own 0)) := by
 unfold IW at h
 refine cw (n := 19) (rs := [.tmp 2]) Tryz.func48 fun w0 S0 => ?_
 refine wq rfl (qa rfl (Ac (wq rfl (qa rfl (Ac (wp rfl (qm rfl (AI GN rfl (qm rfl (Ac ?_))))))))))
 refine AC (L := Hw N p0) h (fun v1 => mk [(3, oD (.own 2001)), (6, pD (.sl (p0.map DO))), (7, iD ((p0.length : Int))), (8, iD v1.2)] [(2001, .vec 1 (v1.1.map (FO Ak)))]) (fun v2 => mk [(3, oD (.own 2002))] [(2002, .vec 1 (v2.map (FO Ak)))]) (fun _ _ => rfl) ((A9 3 2004 1 rfl rfl rfl).trans (sm [(2001, 2004)] _ _ rfl rfl)) (fun j1 n1 v1 h => ?_) (fun v2 s h hs => ?_)
 ·unfold Hw at h
  refine wq rfl (AY rfl (Ac (AL ?_)))
  refine Ba h (fun h => ?_) fun h => ?_
  ·refine Ai (AL (AJ (wq rfl ?_)))
   refine BJ h fun v4 a4 b4 h => qi GN MD a4 (Af b4) rfl (qk P9 rfl (qa rfl (Ac (Ag Av rfl (qw 2 rfl ?_)))))
   refine BD h fun v5 a5 h => Aw [2003] (Ix N v4 v5 a5) Y1 rfl (CE (A4 2003 _ _ rfl rfl) (Dg G6 Ig Wh rfl ?_))
   refine FD h fun c6 h => Cu (f := (FO Ak)) G6 G6 Ig aj Wh c6 rfl (qa rfl (Ac (Ag Av rfl (A0 rfl (qm rfl (Ac ?_))))))
   exact sn [(2001, 16)] h
  ·refine AU ?_
   exact sn [(2002, 2001)] h
 ·refine Ae hs (wq rfl (qm rfl (qe rfl ?_)))
  obtain rfl := sj h
  refine Ae (sm [(1000, 2002)] [(2, oD (.own 1000))] [(1000, .vec 1 (v2.map (FO Ak)))] rfl rfl) (Ar ?_)
  exact ⟨⟨[_], tm, rfl⟩, ⟨rfl, tv⟩⟩
theorem UC (N : Nat) (p0 : Aa) (r : (List (List Int)) × Int) (h : LN N p0 = some r) : An zA0 18 [.e (.agg (Ah p0))] [(1, r.1.map (FO Ak))] (.tup [.one (.own 0), .one (iC r.2)]) := by
 unfold LN at h
 refine cw (n := 20) (rs := [.tmp 2, .tmp 3]) Tryz.func18 fun w0 S0 => ?_
 refine wq rfl (qb rfl (qa rfl (qa rfl (Ac (wq rfl (qL CO BU rfl ?_))))))
 refine BD h fun v1 a1 h => Aw [2001] (Ob N p0 v1 a1) bW rfl (qm rfl (qx rfl (qx rfl (qx rfl (qa rfl (qa rfl (qa rfl (Ac (wp rfl (qm rfl (BA rfl (Ac ?_))))))))))))
 refine Ba h (fun h => ?_) fun h => ?_
 ·refine wq rfl (qm rfl (qa rfl (qe rfl ?_)))
  obtain rfl := sj h
  refine Ae ((A9 2 2002 1 rfl rfl rfl).trans (sm [(1000, 2002)] [(2, oD (.own 1000)), (3, iD v1.2.2)] [(1000, .vec 1 ((([] : List (List Int))).map (FO Ak)))] rfl rfl)) (Ar ?_)
  exact ⟨⟨[_, _], ⟨.tmp _ _ rfl, tm⟩, rfl⟩, ⟨rfl, tv⟩⟩
 ·refine Ai (wq rfl (qw 2 rfl ?_))
  refine BD h fun v3 a3 h => Df [2003] [2001] (QB N v1.1 v1.2.1 v3 a3) ff (Ll (fun _ => rfl) BO) rfl (CE (A4 2003 _ _ rfl rfl) ?_)
  refine BD h fun v4 a4 h => Aw [2004] (NM N v3 v4 a4) cS rfl (qa rfl (qe rfl ?_))
  obtain rfl := sj h
  refine Ae (sm [(1000, 2004)] [(2, oD (.own 1000)), (3, iD 0)] [(1000, .vec 1 (v4.map (FO Ak)))] rfl rfl) (Ar ?_)
  exact ⟨⟨[_, _], ⟨.tmp _ _ rfl, tm⟩, rfl⟩, ⟨rfl, tv⟩⟩
theorem KD (N : Nat) (p0 : List Int) (r : (List Int)) (h : FM N p0 = some r) : An zA0 44 [pD (.sl (p0.map DO))] [(1, r.map DO)] (oD (.own 0)) := by
 unfold FM at h
 refine cw (n := 8) (rs := [.tmp 2]) Tryz.func44 fun w0 S0 => ?_
 refine wq rfl (qa rfl (Ac (wp rfl (qm rfl ?_))))
 refine Nz (.p rfl) rfl GN ?_
 refine Ac ?_
 refine NJ rfl (fun c2 => ?_) ?_
 ·have c2 := zH3.1 c2
  rw [c2] at h
  have h : (some (([] : List Int))) = some r := h
  refine wq rfl (qe rfl ?_)
  obtain rfl := sj h
  refine Ae ((A9 2 2001 1 rfl rfl rfl).trans (sm [(1000, 2001)] [(2, oD (.own 1000))] [(1000, .vec 1 ((([] : List Int)).map DO))] rfl rfl)) (Ar ?_)
  exact ⟨⟨[_], tm, rfl⟩, ⟨rfl, tv⟩⟩
 ·refine Ai (wq rfl (Dg GN MD Tx rfl (qm rfl ?_)))
  refine FD h fun c1 h => IC (f := DO) GN GN MD XS Tx (fun _ => rfl) c1 rfl (qe rfl ?_)
  obtain rfl := sj h
  refine Ae (sm [(1000, 7)] [(2, oD (.own 1000))] [(1000, .vec 1 (((([] : List Int)) ++ p0).map DO))] rfl rfl) (Ar ?_)
  exact ⟨⟨[_], tm, rfl⟩, ⟨rfl, tv⟩⟩
theorem O3 (N : Nat) (p0 : Int) (p1 : List (Int × Bool)) (p2 : Int) (r : Bool) (h : Gn N p0 p1 p2 = some r) : An zA0 47 [pD (.val (.int .u64 p0)), oD (.rop [.mp (Gi (Value.int .u64) tB p1)]), oD (.rop [.val (.int .u64 p2)])] [] (bD r) := by
 unfold Gn at h
 refine cw (n := 20) (rs := [.tmp 4]) Tryz.func47 fun w0 S0 => ?_
 refine wq rfl (qe rfl ?_)
 refine AS h (fun v1 => mk [(4, bD v1)] []) (fun j1 h => ?_) (fun v1 h => ?_)
 ·refine Ag Av rfl (qk dE rfl (qm rfl ?_))
  refine Om (kv := (Value.int .u64)) (vt := tB) (m := p1) (dv := false) (.p rfl) rfl rfl (Mv OZ Vj) (by rw [OZ]; rfl) Ut rfl rfl rfl ?_
  refine Cp rfl (qm rfl ?_)
  refine En 9 h rfl (fun h => ?_) fun h => ?_
  ·refine qm rfl (qk P9 rfl (BA rfl (qp rfl (qm rfl ?_))))
   refine En 14 h rfl (fun h => ?_) fun h => ?_
   ·refine qk P9 rfl (qm rfl (Iu rfl (Cf rfl (qp rfl (qe rfl ?_)))))
    exact sn [] h
   ·refine qw 4 rfl (qp rfl (qe rfl ?_))
    exact sn [] h
  ·refine qw 3 rfl (qp rfl (qw 5 rfl (qp rfl (qe rfl ?_))))
   exact sn [] h
 ·obtain rfl := sj h
  refine Ae (sm [] [(4, bD v1)] [] rfl rfl) (Ar ?_)
  exact ⟨⟨[_], tm, rfl⟩, tv⟩
theorem QM (N : Nat) (p0 : Int) (p1 : List (Int × Bool)) (p2 : List Int) (r : Bool) (h : Hf N p0 p1 p2 = some r) : An zA0 45 [pD (.val (.int .u64 p0)), oD (.rop [.mp (Gi (Value.int .u64) tB p1)]), oD (.rop [.sl (p2.map DO)])] [] (bD r) := by
 unfold Hf at h
 refine cw (n := 13) (rs := [.tmp 4]) Tryz.func45 fun w0 S0 => ?_
 refine wq rfl (qb rfl (qe rfl ?_))
 refine AS h (fun v1 => mk [(4, bD v1)] []) (fun j1 h => ?_) (fun v1 h => ?_)
 ·refine Ag Av rfl (qk dE rfl (ql P9 rfl ?_))
  refine Om (kv := (Value.int .u64)) (vt := tB) (m := p1) (dv := false) (.p rfl) rfl rfl (Mv OZ Vj) (by rw [OZ]; rfl) Ut rfl rfl rfl ?_
  refine qm rfl ?_
  refine En 8 h rfl (fun h => ?_) fun h => ?_
  ·refine qw 3 rfl (qp rfl (qe rfl ?_))
   exact sn [] h
  ·refine qk cy rfl (CE (Is 3 [.val (.int .u64 p0)] rfl rfl) ?_)
   refine IQ (capD := [_, _]) (G7 (LE false DO) tB ((fun (x : Int) => Gn N x p1 p0))) (.g rfl rfl) fg rfl ⟨rfl, rfl, tv⟩ rfl (fun ar t ht => by obtain ⟨x, r, rfl, hq, rfl⟩ := Hn ht; exact O3 N x p1 p0 r hq) ?_
   refine BD h fun v3 a3 h => Aw [] (Gf N p2 ((fun (x : Int) => Gn N x p1 p0)) v3 a3) dt rfl (qp rfl (qe rfl ?_))
   exact sn [] h
 ·obtain rfl := sj h
  refine Ae (sm [] [(4, bD v1)] [] rfl rfl) (Ar ?_)
  exact ⟨⟨[_], tm, rfl⟩, tv⟩
theorem Jc (N : Nat) (p0 : List Int) (p1 : Int → Option Bool) (r : Nat × (List Int)) (h : EQ N p0 p1 = some r) : EP zA0 43 [oD (.own 90000), oD (.clo (G7 (LE false DO) tB p1))] [(.vec 1 (p0.map DO), .vec 1 (r.2.map DO))] [] (oD (.view 90000 1 0 r.1)) := by
 unfold EQ at h
 refine G9 (n := 42) (rs := [.tmp 4]) Tryz.func43 rfl rfl rfl (Jw rfl) (Jw rfl) rfl rfl (Jw rfl) rfl (Jw rfl) fun w0 S0 GL => ?_
 refine Ae (sm [] [(0, oD (.own 90000)), (1, oD (.clo (G7 (LE false DO) tB p1)))] [(90000, .vec 1 (p0.map DO))] rfl rfl) (wq rfl (qa rfl (Ac (wq rfl (qw 2 rfl ?_)))))
 refine BD h fun v1 a1 h => Df [] [90000] (GQ N p0 p1 v1 a1) cQ BO rfl (qa rfl (Ac (wp rfl (qm rfl (Cf rfl (Ac ?_))))))
 refine Ba h (fun h => ?_) fun h => ?_
 ·refine wq rfl (qm rfl (qe rfl ?_))
  obtain rfl := sj h
  refine Ae ((Vl DO p0 4 90000 1 rfl rfl).trans (sm [] [(4, oD (.view 90000 1 0 p0.length))] [(90000, .vec 1 (p0.map DO))] rfl rfl)) (Ar ?_)
  exact ⟨⟨[_], tm, rfl⟩, ⟨rfl, tv⟩, tv⟩
 ·refine Ai (wp rfl (qm rfl (A0 rfl (qe rfl ?_))))
  refine AC (L := Dj N p1) h (fun v3 => mk [(0, oD (.own 90000)), (1, oD (.clo (G7 (LE false DO) tB p1))), (5, iD v3.2.1), (6, iD v3.2.2)] [(90000, .vec 1 (v3.1.map DO))]) (fun v4 => mk [(0, oD (.own 90000)), (5, iD v4.2)] [(90000, .vec 1 (v4.1.map DO))]) (fun _ _ => rfl) (sm [] _ _ rfl rfl) (fun j3 n3 v3 h => ?_) (fun v4 s h hs => ?_)
  ·unfold Dj at h
   refine wp rfl (qw 2 rfl (Et GN rfl (AY rfl (Ac ?_))))
   refine Ba h (fun h => ?_) fun h => ?_
   ·refine Ai ?_
    refine AS h (fun v6 => mk [(0, oD (.own 90000)), (1, oD (.clo (G7 (LE false DO) tB p1))), (5, iD v6.2), (6, iD v3.2.2)] [(90000, .vec 1 (v6.1.map DO))]) (fun j6 h => ?_) (fun v6 h => ?_)
    ·refine AJ (wq rfl (qw 2 rfl ?_))
     refine BJ h fun v7 a7 b7 h => qI GN MD a7 (Af b7) rfl (qj P9 (Af b7) rfl (qa rfl (Ac (wq rfl (qw 2 rfl ?_)))))
     refine BD h fun v8 a8 h => JK (ds0 := [_]) (ar := (LE false DO) v7) (.p rfl) rfl rfl ⟨rfl, tv⟩ rfl rfl rfl (IT (Lh _ _ U0) a8) ?_
     refine Cp rfl (Ac ?_)
     refine Ba h (fun h => ?_) fun h => ?_
     ·refine wq rfl (qw 3 rfl ?_)
      refine BJ h fun v10 a10 b10 h => qI GN MD a10 (Af b10) rfl ?_
      refine DM rfl rfl rfl rfl (Af b10) rfl MD rfl (Jw rfl) (Dx DO v3.1 _ v7) ?_
      refine Ac (Ag Av rfl (qm rfl (A0 rfl (qe rfl ?_))))
      exact sn [] h
     ·refine Ai ?_
      exact sn [] h
    ·refine Ag Av rfl (qm rfl (A0 rfl (qe rfl ?_)))
     exact sn [] h
   ·refine AU ?_
    exact sn [] h
  ·refine Ae hs (wq rfl (qw 2 rfl ?_))
   obtain ⟨c11, h⟩ := HR h
   have w12 : ((v4.2).toNat) + ((v4.1.length - (v4.2).toNat)) ≤ v4.1.length := by have := c11.2.1; have := c11.2.2; omega
   refine KY DO v4.1 (.p rfl) rfl (J0 DO _ _ v4.1) rfl GN MD (.some _ _ _ _ c11.1) (.none _) ⟨rfl, tv⟩ tv c11.2.1 (by rw [zA1]; exact c11.2.2) (zA1 _) rfl ?_
   have w13 : (JC v4.1 ((v4.2).toNat) (zA5 ((v4.1.length - (v4.2).toNat)) ((0 : Int)))).length = v4.1.length := J5 (by rw [List.length_replicate]; exact w12)
   refine S1 DO v4.1 ((0 : Int)) rfl rfl (Ol DO _ _ ((v4.2).toNat) ((v4.1.length - (v4.2).toNat)) v4.1 w12) rfl GN Tx rfl rfl rfl rfl ?_
   refine Ac (wq rfl (qw 2 rfl ?_))
   obtain ⟨c14, h⟩ := HR h
   have w15 : 0 + ((v4.2).toNat) ≤ (JC v4.1 ((v4.2).toNat) (zA5 ((v4.1.length - (v4.2).toNat)) ((0 : Int)))).length := by have := c14.2.1; have := c14.2.2; omega
   refine KY DO (JC v4.1 ((v4.2).toNat) (zA5 ((v4.1.length - (v4.2).toNat)) ((0 : Int)))) (.p rfl) rfl (J0 DO _ _ (JC v4.1 ((v4.2).toNat) (zA5 ((v4.1.length - (v4.2).toNat)) ((0 : Int))))) rfl GN MD (.none _) (.some _ _ _ _ c14.1) tv ⟨rfl, tv⟩ c14.2.1 (by rw [zA1]; exact c14.2.2) (zA1 _) rfl ?_
   refine qa rfl (Ac ?_)
   obtain rfl := sj h
   refine Ae (sm [] [(4, oD (.view 90000 1 0 ((v4.2).toNat)))] [(90000, .vec 1 ((JC v4.1 ((v4.2).toNat) (zA5 ((v4.1.length - (v4.2).toNat)) ((0 : Int)))).map DO))] rfl rfl) (Ar ?_)
   exact ⟨⟨[_], tm, rfl⟩, ⟨rfl, tv⟩, tv⟩
theorem S8 (N : Nat) (p0 : Aa) (r : (List (List Int)) × Int) (h : La N p0 = some r) : An zA0 15 [.e (.agg (Ah p0))] [(1, r.1.map (FO Ak))] (.tup [.one (.own 0), .one (iC r.2)]) := by
 unfold La at h
 refine cw (n := 23) (rs := [.tmp 2, .tmp 3]) Tryz.func15 fun w0 S0 => ?_
 refine wq rfl (qb rfl (qa rfl (qa rfl (Ac (wq rfl (qL CO BU rfl ?_))))))
 refine BD h fun v1 a1 h => Aw [2001] (Ob N p0 v1 a1) bW rfl (qm rfl (qx rfl (qx rfl (qx rfl (qz eQ rfl (qz eV rfl (qs fh rfl (qs fe rfl (qa rfl (Ac (wp rfl (qm rfl (BA rfl (Ac ?_))))))))))))))
 refine Ba h (fun h => ?_) fun h => ?_
 ·refine wq rfl (qm rfl (qa rfl (qe rfl ?_)))
  obtain rfl := sj h
  refine Ae ((A9 2 2002 1 rfl rfl rfl).trans (sm [(1000, 2002)] [(2, oD (.own 1000)), (3, iD v1.2.2)] [(1000, .vec 1 ((([] : List (List Int))).map (FO Ak)))] rfl rfl)) (Ar ?_)
  exact ⟨⟨[_, _], ⟨.tmp _ _ rfl, tm⟩, rfl⟩, ⟨rfl, tv⟩⟩
 ·refine Ai (AL (Ae (A4 2001 _ _ rfl rfl) (Ag Av rfl (ql cy rfl ?_))))
  refine BD h fun v3 a3 h => Aw [2003] (KD N v1.1 v3 a3) fr rfl (CE (Is 5 [.mp (Gi (Value.int .u64) tB v1.2.1)] rfl rfl) (CE (Is 4 [.sl (v1.1.map DO)] rfl rfl) ?_))
  refine IQ (capD := [_, _]) (G7 (LE false DO) tB ((fun (x : Int) => Hf N x v1.2.1 v1.1))) (.p rfl) fi rfl ⟨rfl, rfl, tv⟩ rfl (fun ar t ht => by obtain ⟨x, r, rfl, hq, rfl⟩ := Hn ht; exact QM N x v1.2.1 v1.1 r hq) ?_
  obtain ⟨v4, a4, h⟩ := bind_some h
  obtain ⟨c5, h⟩ := HR h
  have w6 : 0 + v4.1 ≤ v4.2.length := by rw [zA1]; exact c5
  refine Mt (ds0 := [_, _]) [2003] [] [true] (Jc N v3 ((fun (x : Int) => Hf N x v1.2.1 v1.1)) v4 a4) (.p rfl) eL rfl ⟨rfl, rfl, tv⟩ rfl rfl (by decide) ⟨rfl, tv⟩ rfl (Gx rfl) tv ⟨(fun h => by cases h), tv⟩ rfl rfl rfl ?_
  refine CE (XO DO v4.2 20 2003 2004 1 v4.1 rfl rfl rfl rfl rfl c5) (qa rfl (Ac (wq rfl (qm rfl (CE (A4 2004 _ _ rfl rfl) ?_)))))
  refine BD h fun v7 a7 h => Aw [2005] (NM N (v4.2.take v4.1) v7 a7) cS rfl (qa rfl (qe rfl ?_))
  obtain rfl := sj h
  refine Ae (sm [(1000, 2005)] [(2, oD (.own 1000)), (3, iD 0)] [(1000, .vec 1 (v7.map (FO Ak)))] rfl rfl) (Ar ?_)
  exact ⟨⟨[_, _], ⟨.tmp _ _ rfl, tm⟩, rfl⟩, ⟨rfl, tv⟩⟩
theorem Na (N : Nat) (p0 : List Int) (p1 : List Int) (r : Bool) (h : HC N p0 p1 = some r) : An zA0 50 [pD (.sl (p0.map Ak)), pD (.sl (p1.map Ak))] [] (bD r) := by
 unfold HC at h
 refine cw (n := 26) (rs := [.tmp 4]) Tryz.func50 fun w0 S0 => ?_
 refine wq rfl (qa rfl (Ac (wp rfl (qm rfl (AI Au rfl (qm rfl (AI Au rfl (BA rfl (Ac ?_)))))))))
 refine Ba h (fun h => ?_) fun h => ?_
 ·refine wq rfl (qe rfl ?_)
  obtain rfl := sj h
  refine Ae (sm [] [(4, bD false)] [] rfl rfl) (Ar ?_)
  exact ⟨⟨[_], tm, rfl⟩, tv⟩
 ·refine Ai (wp rfl (qe rfl ?_))
  refine AC (L := Fq N p0 p1) h (fun v2 => mk [(0, pD (.sl (p0.map Ak))), (1, pD (.sl (p1.map Ak))), (5, iD v2)] []) (fun v3 => mk [] []) (fun _ _ => rfl) (sm [] _ _ rfl rfl) (fun j2 n2 v2 h => ?_) (fun v3 s h hs => ?_)
  ·unfold Fq at h
   refine wp rfl (qw 2 rfl (AI Au rfl (AY rfl (Ac ?_))))
   refine Ba h (fun h => ?_) fun h => ?_
   ·refine Ai (AL (AJ (wq rfl (qw 2 rfl ?_))))
    refine BJ h fun v5 a5 b5 h => qi Au CK a5 (Af b5) rfl (qk B1 rfl (qw 2 rfl ?_))
    refine BJ h fun v6 a6 b6 h => qi Au CK a6 (Af b6) rfl (qk B1 rfl (BA rfl (AM (by kernel_rfl) ?_)))
    refine Ba h (fun h => ?_) fun h => ?_
    ·refine wq rfl (qe rfl ?_)
     obtain rfl := sj h
     refine Ae (sm [] [(4, bD false)] [] rfl rfl) (Ar ?_)
     exact ⟨⟨[_], tm, rfl⟩, tv⟩
    ·refine Ai (Ag Av rfl (qm rfl (A0 rfl (qe rfl ?_))))
     exact sn [] h
   ·refine AU ?_
    exact sn [] h
  ·refine Ae hs (wq rfl (qe rfl ?_))
   obtain rfl := sj h
   refine Ae (sm [] [(4, bD true)] [] rfl rfl) (Ar ?_)
   exact ⟨⟨[_], tm, rfl⟩, tv⟩
theorem Jn (N : Nat) (p0 : List (List Int)) (p1 : List (List Int)) (r : Bool) (h : F1 N p0 p1 = some r) : An zA0 17 [pD (.sl (p0.map (FO Ak))), pD (.sl (p1.map (FO Ak)))] [] (bD r) := by
 unfold F1 at h
 refine cw (n := 27) (rs := [.tmp 4]) Tryz.func17 fun w0 S0 => ?_
 refine wq rfl (qa rfl (Ac (wp rfl (qm rfl (AI G6 rfl (qm rfl (AI G6 rfl (BA rfl (Ac ?_)))))))))
 refine Ba h (fun h => ?_) fun h => ?_
 ·refine wq rfl (qe rfl ?_)
  obtain rfl := sj h
  refine Ae (sm [] [(4, bD false)] [] rfl rfl) (Ar ?_)
  exact ⟨⟨[_], tm, rfl⟩, tv⟩
 ·refine Ai (wp rfl (qe rfl ?_))
  refine AC (L := Fh N p0 p1) h (fun v2 => mk [(0, pD (.sl (p0.map (FO Ak)))), (1, pD (.sl (p1.map (FO Ak)))), (5, iD v2)] []) (fun v3 => mk [] []) (fun _ _ => rfl) (sm [] _ _ rfl rfl) (fun j2 n2 v2 h => ?_) (fun v3 s h hs => ?_)
  ·unfold Fh at h
   refine wp rfl (qw 2 rfl (AI G6 rfl (AY rfl (Ac ?_))))
   refine Ba h (fun h => ?_) fun h => ?_
   ·refine Ai (AL (AJ (wq rfl (qw 2 rfl ?_))))
    refine BJ h fun v5 a5 b5 h => qi G6 Ig a5 (Af b5) rfl (qk A7 rfl (qw 2 rfl ?_))
    refine BJ h fun v6 a6 b6 h => qi G6 Ig a6 (Af b6) rfl (qk A7 rfl ?_)
    refine BD h fun v7 a7 h => Aw [] (Na N v5 v6 v7 a7) eo rfl (Cp rfl (AM (by kernel_rfl) ?_))
    refine Ba h (fun h => ?_) fun h => ?_
    ·refine wq rfl (qe rfl ?_)
     obtain rfl := sj h
     refine Ae (sm [] [(4, bD false)] [] rfl rfl) (Ar ?_)
     exact ⟨⟨[_], tm, rfl⟩, tv⟩
    ·refine Ai (Ag Av rfl (qm rfl (A0 rfl (qe rfl ?_))))
     exact sn [] h
   ·refine AU ?_
    exact sn [] h
  ·refine Ae hs (wq rfl (qe rfl ?_))
   obtain rfl := sj h
   refine Ae (sm [] [(4, bD true)] [] rfl rfl) (Ar ?_)
   exact ⟨⟨[_], tm, rfl⟩, tv⟩
theorem Jv (N : Nat) (r : Bool) (h : E6 N = some r) : An zA0 11 [] [] (bD r) := by
 unfold E6 at h
 refine cw (n := 63) (rs := [.tmp 0]) Tryz.func11 fun w0 S0 => ?_
 refine wq rfl (qa rfl (Ac (wp rfl (Dg FC PB Ut rfl ?_))))
 refine XT (.p rfl) rfl (.own _ _ _) ⟨rfl, tv⟩ rfl FC ?_
 refine qm rfl (Ac ?_)
 refine AC (L := Ff N) h (fun v1 => mk [(9, oD (.own 2001)), (10, iD (((([false, true] : List Bool)).length : Int))), (11, iD v1)] [(2001, .vec 1 ((([false, true] : List Bool)).map eB))]) (fun v2 => mk [] []) (fun _ _ => rfl) (sm [(2001, 9)] _ _ rfl rfl) (fun j1 n1 v1 h => ?_) (fun v2 s h hs => ?_)
 ·unfold Ff at h
  refine wq rfl (AY rfl (Ac (AL ?_)))
  refine Ba h (fun h => ?_) fun h => ?_
  ·refine Ai (AL (AJ (wq rfl ?_)))
   refine BJ h fun v4 a4 b4 h => qI FC PB a4 (Af b4) rfl (qj Uq (Af b4) rfl (qa rfl (Ac (wq rfl (qm rfl ?_)))))
   refine BD h fun v5 a5 h => Aw [2002, 2003, 2004, 2005] (GW N v4 v5 a5) bH rfl (CE (A4 2002 _ _ rfl rfl) (CE (A4 2003 _ _ rfl rfl) (CE (A4 2004 _ _ rfl rfl) (CE (A4 2005 _ _ rfl rfl) ?_))))
   refine BD h fun v6 a6 h => Aw [2006] (UC N v5 v6 a6) ez rfl (qm rfl (qx rfl (qx rfl (qa rfl (qa rfl (Ac (wq rfl (qm rfl ?_))))))))
   refine BD h fun v7 a7 h => Aw [2007, 2008, 2009, 2010] (GW N v4 v7 a7) bH rfl (CE (A4 2007 _ _ rfl rfl) (CE (A4 2008 _ _ rfl rfl) (CE (A4 2009 _ _ rfl rfl) (CE (A4 2010 _ _ rfl rfl) ?_))))
   refine BD h fun v8 a8 h => Aw [2011] (S8 N v7 v8 a8) en rfl (qm rfl (qx rfl (qx rfl (qa rfl (qa rfl (Ac (wq rfl (qm rfl ?_))))))))
   refine BD h fun v9 a9 h => Aw [2012, 2013, 2014, 2015] (GW N v4 v9 a9) bH rfl (Dg Au CK I6 rfl ?_)
   refine BD h fun v10 a10 h => Df [] [2012, 2013, 2014, 2015, 30] (KI N v9 (([0, 2] : List Int)) v10 a10) aF BO rfl (qm rfl (qx rfl (qx rfl (qa rfl (qe rfl ?_)))))
   refine AS h (fun v11 => mk [(9, oD (.own 2016)), (10, iD (((([false, true] : List Bool)).length : Int))), (11, iD v1), (61, bD v11)] [(2016, .vec 1 ((([false, true] : List Bool)).map eB))]) (fun j11 h => ?_) (fun v11 h => ?_)
   ·refine Ag Av rfl (qm rfl (BA rfl (qm rfl ?_)))
    refine En 36 h rfl (fun h => ?_) fun h => ?_
    ·refine qw 2 rfl (qp rfl (qw 3 rfl (qp rfl (qw 2 rfl (qp rfl (qw 6 rfl (qp rfl (qw 7 rfl (qp rfl (Ac ?_))))))))))
     exact sn [(2016, 2001)] h
    ·refine qm rfl (BA rfl (qp rfl (qm rfl ?_)))
     refine En 40 h rfl (fun h => ?_) fun h => ?_
     ·refine qw 2 rfl (qp rfl (qw 2 rfl (qp rfl (qw 6 rfl (qp rfl (qw 7 rfl (qp rfl (Ac ?_))))))))
      exact sn [(2016, 2001)] h
     ·refine qm rfl (BA rfl (qp rfl (qm rfl ?_)))
      refine En 44 h rfl (fun h => ?_) fun h => ?_
      ·refine qn rfl (qp rfl (qw 6 rfl (qp rfl (qw 7 rfl (qp rfl (Ac ?_))))))
       exact sn [(2016, 2001)] h
      ·refine qm rfl (qp rfl (qm rfl ?_))
       refine En 47 h rfl (fun h => ?_) fun h => ?_
       ·refine qw 5 rfl (qp rfl (qw 7 rfl (qp rfl (Ac ?_))))
        exact sn [(2016, 2001)] h
       ·refine qm rfl (Dg Au CK I6 rfl (CE (A4 49 _ _ rfl rfl) (Dg G6 Ig Wh rfl ?_)))
        refine BD h fun v16 a16 h => Df [] [2006, 50] (Jn N v6.1 (([([0, 1] : List Int)] : List (List Int))) v16 a16) cR BO rfl (Cp rfl (qp rfl (qm rfl ?_)))
        refine En 54 h rfl (fun h => ?_) fun h => ?_
        ·refine qw 6 rfl (qp rfl (Ac ?_))
         exact sn [(2016, 2001)] h
        ·refine qm rfl (Dg Au CK I6 rfl (Dg Au CK I6 rfl (CE (A4 56 _ _ rfl rfl) (CE (A4 57 _ _ rfl rfl) (Dg G6 Ig Wh rfl ?_)))))
         refine BD h fun v18 a18 h => Df [] [2011, 58] (Jn N v8.1 (([([0, 2] : List Int), ([1, 2] : List Int)] : List (List Int))) v18 a18) cR BO rfl (Cp rfl (qp rfl (Ac ?_)))
         exact sn [(2016, 2001)] h
   ·refine Ba h (fun h => ?_) fun h => ?_
    ·refine wq rfl (qe rfl ?_)
     obtain rfl := sj h
     refine Ae (sm [] [(0, bD false)] [] rfl rfl) (Ar ?_)
     exact ⟨⟨[_], tm, rfl⟩, tv⟩
    ·refine Ai (Ag Av rfl (A0 rfl (qm rfl (Ac ?_))))
     exact sn [(2001, 2016)] h
  ·refine AU ?_
   exact sn [] h
 ·refine Ae hs (wq rfl (qe rfl ?_))
  obtain rfl := sj h
  refine Ae (sm [] [(0, bD true)] [] rfl rfl) (Ar ?_)
  exact ⟨⟨[_], tm, rfl⟩, tv⟩
theorem MH (N : Nat) (p0 : List Ab) (p1 : Ab) (r : Int × Bool) (h : EW N p0 p1 = some r) : An zA0 63 [pD (.sl (p0.map AV)), .e (.agg (AE p1))] [] (.tup [.one (iC r.1), .one (.pure (.val (.bool r.2)))]) := by
 unfold EW at h
 refine cw (n := 36) (rs := [.tmp 4, .tmp 5]) Tryz.func63 fun w0 S0 => ?_
 refine wq rfl (qb rfl (qa rfl (qa rfl (Ac (wq rfl (qa rfl (Ac (AL ?_))))))))
 refine AC (L := Dw N p0 p1) h (fun v1 => mk [(0, pD (.sl (p0.map AV))), (3, oD (.ptr 3 0)), (6, iD v1)] [(3, .box (AE p1))]) (fun v2 => mk [(0, pD (.sl (p0.map AV))), (3, oD (.ptr 3 0)), (6, iD v2)] [(3, .box (AE p1))]) (fun _ _ => rfl) (sm [] _ _ rfl rfl) (fun j1 n1 v1 h => ?_) (fun v2 s h hs => ?_)
 ·unfold Dw at h
  refine AL ?_
  refine AS h (fun v3 => mk [(0, pD (.sl (p0.map AV))), (3, oD (.ptr 3 0)), (6, iD v1), (19, bD v3)] [(3, .box (AE p1))]) (fun j3 h => ?_) (fun v3 h => ?_)
  ·refine Ag Av rfl (qw 2 rfl (AI D4 rfl (AY rfl (qm rfl ?_))))
   refine En 11 h rfl (fun h => ?_) fun h => ?_
   ·refine qw 2 rfl ?_
    refine BJ h fun v5 a5 b5 h => qi D4 AW a5 (Af b5) rfl (qK Bn AW rfl (qL Bn AW rfl ?_))
    refine BD h fun v6 a6 h => Aw [] (GY N v5 p1 v6 a6) aR rfl (AY rfl (qp rfl (AM (by kernel_rfl) ?_)))
    exact sn [] h
   ·refine qw 7 rfl (qp rfl (AM (by kernel_rfl) ?_))
    exact sn [] h
  ·refine Ba h (fun h => ?_) fun h => ?_
   ·refine Ai (AJ (Ag Av rfl (qm rfl (A0 rfl (qe rfl ?_)))))
    exact sn [] h
   ·refine AU ?_
    exact sn [] h
 ·refine Ae hs ?_
  refine AS h (fun v8 => mk [(4, iD v2), (5, bD v8)] []) (fun j8 h => ?_) (fun v8 h => ?_)
  ·refine Ag Av rfl (qw 3 rfl (AI D4 rfl (AY rfl (qm rfl ?_))))
   refine En 27 h rfl (fun h => ?_) fun h => ?_
   ·refine qw 2 rfl ?_
    refine BJ h fun v10 a10 b10 h => qi D4 AW a10 (Af b10) rfl (qK Bn AW rfl (qL Bn AW rfl ?_))
    refine BD h fun v11 a11 h => Aw [] (GY N v10 p1 v11 a11) aR rfl (Cf rfl (qp rfl (qa rfl (qa rfl (AM (by kernel_rfl) ?_)))))
    exact sn [] h
   ·refine qw 7 rfl (qp rfl (qa rfl (qa rfl (AM (by kernel_rfl) ?_))))
    exact sn [] h
  ·obtain rfl := sj h
   refine Ae (sm [] [(4, iD v2), (5, bD v8)] [] rfl rfl) (Ar ?_)
   exact ⟨⟨[_, _], ⟨.tmp _ _ rfl, tm⟩, rfl⟩, tv⟩
end Go.Lift
