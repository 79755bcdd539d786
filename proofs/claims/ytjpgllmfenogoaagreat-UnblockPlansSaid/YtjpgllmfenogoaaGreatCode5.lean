/- Lemmas for UnblockPlansSaid, which YtjpgllmfenogoaaGreatFinU7 proves. -/
import Derived.Test.YtjpgllmfenogoaaGreatCode4
namespace Go.Lift
open IntKind renaming wrap → wI
set_option maxRecDepth 10000
open Go.RowKit
open Go.Proofs
theorem GG (N : Nat) (p0 : List Aa) (p1 : Int) (p2 : Int) (p3 : (Aa × Aa) → Option Int) (r : Bool × (List Aa)) (h : CK N p0 p1 p2 p3 = some r) : B2 Tryz.prog 102 [oD (.own 90000), iD p1, iD p2, oD (.clo (CD (GE true Ab true Ab) Dg p3))] [(.vec 3 (p0.map Ab), .vec 3 (r.2.map Ab))] [] (bD r.1) := by
 unfold CK at h
 refine Bn (n := 141) (rs := [.tmp 8]) Tryz.func102 rfl rfl rfl (DY rfl) (DY rfl) rfl rfl (DY rfl) rfl (DY rfl) fun w0 S0 GL => ?_
 refine Ah (sm [] [(0, oD (.own 90000)), (1, iD p1), (2, iD p2), (3, oD (.clo (CD (GE true Ab true Ab) Dg p3)))] [(90000, .vec 3 (p0.map Ab))] rfl rfl) (wq rfl (qa rfl (Ad (wq rfl (qm rfl (AT rfl (qa rfl (Ad (wp rfl (qe rfl ?_))))))))))
 refine Ax (L := Bz N p1 p2 p3) h (fun v1 => mk [(0, oD (.own 90000)), (1, iD p1), (2, iD p2), (3, oD (.clo (CD (GE true Ab true Ab) Dg p3))), (9, iD v1.2.1), (10, iD v1.2.2)] [(90000, .vec 3 (v1.1.map Ab))]) (fun v2 => mk [] [(90000, .vec 3 (v2.map Ab))]) (fun _ _ => rfl) (sm [] _ _ rfl rfl) (fun j1 n1 v1 h => ?_) (fun v2 s h hs => ?_)
 ·unfold Bz at h
  refine wp rfl (qm rfl (AX rfl (Ad ?_)))
  refine A9 h (fun h => ?_) fun h => ?_
  ·refine Al ?_
   refine AP h (fun v4 => mk [(0, oD (.own 90000)), (1, iD p1), (2, iD p2), (3, oD (.clo (CD (GE true Ab true Ab) Dg p3))), (9, iD v4.2), (10, iD v1.2.2)] [(90000, .vec 3 (v4.1.map Ab))]) (fun j4 h => ?_) (fun v4 h => ?_)
   ·refine AG (AN ?_)
    refine Ax (L := BA N p2 p3 v1) h (fun v5 => mk [(0, oD (.own 90000)), (1, iD p1), (2, iD p2), (3, oD (.clo (CD (GE true Ab true Ab) Dg p3))), (9, iD v5), (10, iD v1.2.2)] [(90000, .vec 3 (v1.1.map Ab))]) (fun v6 => mk [(0, oD (.own 90000)), (1, iD p1), (2, iD p2), (3, oD (.clo (CD (GE true Ab true Ab) Dg p3))), (9, iD v6), (10, iD v1.2.2)] [(90000, .vec 3 (v1.1.map Ab))]) (fun _ _ => rfl) (sm [] _ _ rfl rfl) (fun j5 n5 v5 h => ?_) (fun v6 s h hs => ?_)
    ·unfold BA at h
     refine AN ?_
     refine AP h (fun v7 => mk [(0, oD (.own 90000)), (1, iD p1), (2, iD p2), (3, oD (.clo (CD (GE true Ab true Ab) Dg p3))), (9, iD v5), (10, iD v1.2.2), (36, bD v7)] [(90000, .vec 3 (v1.1.map Ab))]) (fun j7 h => ?_) (fun v7 h => ?_)
     ·refine Ai As rfl (qw 2 rfl (AX rfl (qm rfl ?_)))
      refine E8 22 h rfl (fun h => ?_) fun h => ?_
      ·refine qw 3 rfl ?_
       refine Bc h fun v9 a9 b9 h => qI AQ AM a9 (Ae b9) rfl (qJ CY AM (Ae b9) rfl (qw 2 rfl (DA rfl ?_)))
       refine Bc h fun v10 a10 b10 h => qI AQ AM a10 (Ae b10) rfl (qJ CY AM (Ae b10) rfl ?_)
       refine BM h fun v11 a11 h => Gk (ds0 := [_, _]) (ar := (GE true Ab true Ab) ((v9, v10))) (.g rfl rfl) rfl rfl ⟨rfl, rfl, tv⟩ rfl rfl rfl (Gg (HK _ _ _ _ A1 A1) a11) ?_
       refine AX rfl (CL rfl (qp rfl (AE (by kernel_rfl) ?_)))
       exact sn [] h
      ·refine qw 13 rfl (qp rfl (AE (by kernel_rfl) ?_))
       exact sn [] h
     ·refine A9 h (fun h => ?_) fun h => ?_
      ·refine Al (AG (Ai As rfl (qm rfl (AT rfl (qe rfl ?_)))))
       exact sn [] h
      ·refine AS ?_
       exact sn [] h
    ·refine Ah hs (wp rfl (qw 2 rfl (BZ rfl (Ad ?_))))
     refine A9 h (fun h => ?_) fun h => ?_
     ·refine wq rfl (qe rfl ?_)
      obtain rfl := sj h
      refine Ah (sm [] [(8, bD true)] [(90000, .vec 3 (v1.1.map Ab))] rfl rfl) (Ar ?_)
      exact ⟨⟨[_], tm, rfl⟩, ⟨rfl, tv⟩, tv⟩
     ·refine Al (wp rfl (qw 2 rfl (DA rfl (AX rfl (Ad ?_)))))
      refine A9 h (fun h => ?_) fun h => ?_
      ·refine wq rfl (qe rfl ?_)
       obtain rfl := sj h
       refine Ah (sm [] [(8, bD false)] [(90000, .vec 3 (v1.1.map Ab))] rfl rfl) (Ar ?_)
       exact ⟨⟨[_], tm, rfl⟩, ⟨rfl, tv⟩, tv⟩
      ·refine Al (wq rfl (qw 4 rfl (DA rfl (qw 2 rfl (DA rfl ?_)))))
       refine Bc h fun v15 a15 b15 h => qI AQ AM a15 (Ae b15) rfl (qJ CY AM (Ae b15) rfl (qw 2 rfl ?_))
       refine Bc h fun v16 a16 b16 h => qI AQ AM a16 (Ae b16) rfl (qJ CY AM (Ae b16) rfl ?_)
       refine Bc h fun v17 a17 b17 h => qI AQ AM a17 (Ae b17) rfl ?_
       refine Ba rfl rfl rfl rfl (Ae b17) rfl AM rfl (DY rfl) (A2 Ab v1.1 _ v15) ?_
       refine Bc h fun v18 a18 b18 h => qI AQ AM a18 (Ae b18) rfl ?_
       refine Ba rfl rfl rfl rfl (Ae b18) rfl AM rfl (DY rfl) (A2 Ab (v1.1.set ((v6).toNat) v15) _ v16) ?_
       refine AE (by kernel_rfl) ?_
       refine AP h (fun v19 => mk [(0, oD (.own 90000)), (1, iD p1), (2, iD p2), (3, oD (.clo (CD (GE true Ab true Ab) Dg p3))), (9, iD v6), (10, iD v1.2.2)] [(90000, .vec 3 (v19.map Ab))]) (fun j19 h => ?_) (fun v19 h => ?_)
       ·refine wq rfl (qw 2 rfl (DA rfl (D4 rfl (Ad ?_))))
        refine A9 h (fun h => ?_) fun h => ?_
        ·refine wq rfl (qm rfl (DA rfl (qe rfl ?_)))
         refine Ax (L := Bu N p3) h (fun v21 => mk [(0, oD (.own 90000)), (1, iD p1), (2, iD p2), (3, oD (.clo (CD (GE true Ab true Ab) Dg p3))), (9, iD v6), (10, iD v1.2.2), (11, iD v21.2)] [(90000, .vec 3 (v21.1.map Ab))]) (fun v22 => mk [(0, oD (.own 90000)), (1, iD p1), (2, iD p2), (3, oD (.clo (CD (GE true Ab true Ab) Dg p3))), (9, iD v6), (10, iD v1.2.2)] [(90000, .vec 3 (v22.map Ab))]) (fun _ _ => rfl) (sm [] _ _ rfl rfl) (fun j21 n21 v21 h => ?_) (fun v22 s h hs => ?_)
         ·unfold Bu at h
          refine wp rfl (qm rfl (D4 rfl (Ad ?_)))
          refine A9 h (fun h => ?_) fun h => ?_
          ·refine Al (AN (AG (wp rfl (qw 3 rfl ?_))))
           refine Bc h fun v24 a24 b24 h => qI AQ AM a24 (Ae b24) rfl (qJ CY AM (Ae b24) rfl (qw 2 rfl (DA rfl ?_)))
           refine Bc h fun v25 a25 b25 h => qI AQ AM a25 (Ae b25) rfl (qJ CY AM (Ae b25) rfl ?_)
           refine BM h fun v26 a26 h => Gk (ds0 := [_, _]) (ar := (GE true Ab true Ab) ((v24, v25))) (.p rfl) rfl rfl ⟨rfl, rfl, tv⟩ rfl rfl rfl (Gg (HK _ _ _ _ A1 A1) a26) ?_
           refine AX rfl (CL rfl (AE (by kernel_rfl) ?_))
           refine A9 h (fun h => ?_) fun h => ?_
           ·refine AS ?_
            exact sn [] h
           ·refine Al (Ai As rfl (qw 4 rfl (DA rfl (qw 2 rfl (DA rfl ?_)))))
            refine Bc h fun v28 a28 b28 h => qI AQ AM a28 (Ae b28) rfl (qJ CY AM (Ae b28) rfl (qw 2 rfl ?_))
            refine Bc h fun v29 a29 b29 h => qI AQ AM a29 (Ae b29) rfl (qJ CY AM (Ae b29) rfl ?_)
            refine Bc h fun v30 a30 b30 h => qI AQ AM a30 (Ae b30) rfl ?_
            refine Ba rfl rfl rfl rfl (Ae b30) rfl AM rfl (DY rfl) (A2 Ab v21.1 _ v28) ?_
            refine Bc h fun v31 a31 b31 h => qI AQ AM a31 (Ae b31) rfl ?_
            refine Ba rfl rfl rfl rfl (Ae b31) rfl AM rfl (DY rfl) (A2 Ab (v21.1.set ((v21.2).toNat) v28) _ v29) ?_
            refine AE (by kernel_rfl) (Ai As rfl (qm rfl (DA rfl (qe rfl ?_))))
            exact sn [] h
          ·refine AS ?_
           exact sn [] h
         ·exact S8 _ h (hs.trans (sm [] _ _ rfl rfl))
        ·refine Al ?_
         exact sn [] h
       ·refine wq rfl (qw 2 rfl (DA rfl (D4 rfl (Ad ?_))))
        refine A9 h (fun h => ?_) fun h => ?_
        ·refine wq rfl (qm rfl (AT rfl (qe rfl ?_)))
         refine Ax (L := Bt N p2 p3) h (fun v33 => mk [(0, oD (.own 90000)), (1, iD p1), (2, iD p2), (3, oD (.clo (CD (GE true Ab true Ab) Dg p3))), (9, iD v6), (10, iD v1.2.2), (12, iD v33.2)] [(90000, .vec 3 (v33.1.map Ab))]) (fun v34 => mk [(0, oD (.own 90000)), (1, iD p1), (2, iD p2), (3, oD (.clo (CD (GE true Ab true Ab) Dg p3))), (9, iD v6), (10, iD v1.2.2)] [(90000, .vec 3 (v34.map Ab))]) (fun _ _ => rfl) (sm [] _ _ rfl rfl) (fun j33 n33 v33 h => ?_) (fun v34 s h hs => ?_)
         ·unfold Bt at h
          refine wp rfl (qw 2 rfl (AX rfl (Ad ?_)))
          refine A9 h (fun h => ?_) fun h => ?_
          ·refine Al (AN (AG (wp rfl (qw 3 rfl ?_))))
           refine Bc h fun v36 a36 b36 h => qI AQ AM a36 (Ae b36) rfl (qJ CY AM (Ae b36) rfl (qw 2 rfl (DA rfl ?_)))
           refine Bc h fun v37 a37 b37 h => qI AQ AM a37 (Ae b37) rfl (qJ CY AM (Ae b37) rfl ?_)
           refine BM h fun v38 a38 h => Gk (ds0 := [_, _]) (ar := (GE true Ab true Ab) ((v36, v37))) (.p rfl) rfl rfl ⟨rfl, rfl, tv⟩ rfl rfl rfl (Gg (HK _ _ _ _ A1 A1) a38) ?_
           refine AX rfl (CL rfl (AE (by kernel_rfl) ?_))
           refine A9 h (fun h => ?_) fun h => ?_
           ·refine AS ?_
            exact sn [] h
           ·refine Al (Ai As rfl (qw 4 rfl (DA rfl (qw 2 rfl (DA rfl ?_)))))
            refine Bc h fun v40 a40 b40 h => qI AQ AM a40 (Ae b40) rfl (qJ CY AM (Ae b40) rfl (qw 2 rfl ?_))
            refine Bc h fun v41 a41 b41 h => qI AQ AM a41 (Ae b41) rfl (qJ CY AM (Ae b41) rfl ?_)
            refine Bc h fun v42 a42 b42 h => qI AQ AM a42 (Ae b42) rfl ?_
            refine Ba rfl rfl rfl rfl (Ae b42) rfl AM rfl (DY rfl) (A2 Ab v33.1 _ v40) ?_
            refine Bc h fun v43 a43 b43 h => qI AQ AM a43 (Ae b43) rfl ?_
            refine Ba rfl rfl rfl rfl (Ae b43) rfl AM rfl (DY rfl) (A2 Ab (v33.1.set ((v33.2).toNat) v40) _ v41) ?_
            refine AE (by kernel_rfl) (Ai As rfl (qm rfl (AT rfl (qe rfl ?_))))
            exact sn [] h
          ·refine AS ?_
           exact sn [] h
         ·exact S8 _ h (hs.trans (sm [] _ _ rfl rfl))
        ·refine Al ?_
         exact sn [] h
   ·refine Ai As rfl (qm rfl (AT rfl (qe rfl ?_)))
    exact sn [] h
  ·refine AS ?_
   exact sn [] h
 ·refine Ah hs (wq rfl (qe rfl ?_))
  obtain rfl := sj h
  refine Ah (sm [] [(8, bD false)] [(90000, .vec 3 (v2.map Ab))] rfl rfl) (Ar ?_)
  exact ⟨⟨[_], tm, rfl⟩, ⟨rfl, tv⟩, tv⟩
theorem Hn (N : Nat) (p0 : List Aa) (p1 : Int) (p2 : Int) (p3 : Int) (p4 : (Aa × Aa) → Option Int) (r : Int × (List Aa)) (h : Dx N p0 p1 p2 p3 p4 = some r) : B2 Tryz.prog 103 [oD (.own 90000), iD p1, iD p2, iD p3, oD (.clo (CD (GE true Ab true Ab) Dg p4))] [(.vec 3 (p0.map Ab), .vec 3 (r.2.map Ab))] [] (iD r.1) := by
 unfold Dx at h
 refine Bn (n := 90) (rs := [.tmp 10]) Tryz.func103 rfl rfl rfl (DY rfl) (DY rfl) rfl rfl (DY rfl) rfl (DY rfl) fun w0 S0 GL => ?_
 refine Ah (sm [] [(0, oD (.own 90000)), (1, iD p1), (2, iD p2), (3, iD p3), (4, oD (.clo (CD (GE true Ab true Ab) Dg p4)))] [(90000, .vec 3 (p0.map Ab))] rfl rfl) (wq rfl (qa rfl (Ad (wq rfl (qw 6 rfl ?_)))))
 refine Bc h fun v1 a1 b1 h => qI AQ AM a1 (Ae b1) rfl (qJ CY AM (Ae b1) rfl (qw 2 rfl ?_))
 refine Bc h fun v2 a2 b2 h => qI AQ AM a2 (Ae b2) rfl (qJ CY AM (Ae b2) rfl ?_)
 refine Bc h fun v3 a3 b3 h => qI AQ AM a3 (Ae b3) rfl ?_
 refine Ba rfl rfl rfl rfl (Ae b3) rfl AM rfl (DY rfl) (A2 Ab p0 _ v1) ?_
 refine Bc h fun v4 a4 b4 h => qI AQ AM a4 (Ae b4) rfl ?_
 refine Ba rfl rfl rfl rfl (Ae b4) rfl AM rfl (DY rfl) (A2 Ab (p0.set ((p1).toNat) v1) _ v2) ?_
 refine AE (by kernel_rfl) (wq rfl (qm rfl (AT rfl (qm rfl (DA rfl (qa rfl (qa rfl (Ad (AN ?_)))))))))
 refine Ax (L := B0 N p1 p4) h (fun v5 => mk [(0, oD (.own 90000)), (1, iD p1), (4, oD (.clo (CD (GE true Ab true Ab) Dg p4))), (11, iD v5.2.1), (12, iD v5.2.2)] [(90000, .vec 3 (v5.1.map Ab))]) (fun v6 => mk [(11, iD v6.2)] [(90000, .vec 3 (v6.1.map Ab))]) (fun _ _ => rfl) (sm [] _ _ rfl rfl) (fun j5 n5 v5 h => ?_) (fun v6 s h hs => ?_)
 ·unfold B0 at h
  refine AG (AN ?_)
  refine Ax (L := BX N p1 p4 v5) h (fun v7 => mk [(0, oD (.own 90000)), (1, iD p1), (4, oD (.clo (CD (GE true Ab true Ab) Dg p4))), (11, iD v7), (12, iD v5.2.2)] [(90000, .vec 3 (v5.1.map Ab))]) (fun v8 => mk [(0, oD (.own 90000)), (1, iD p1), (4, oD (.clo (CD (GE true Ab true Ab) Dg p4))), (11, iD v8), (12, iD v5.2.2)] [(90000, .vec 3 (v5.1.map Ab))]) (fun _ _ => rfl) (sm [] _ _ rfl rfl) (fun j7 n7 v7 h => ?_) (fun v8 s h hs => ?_)
  ·unfold BX at h
   refine AN ?_
   refine AP h (fun v9 => mk [(0, oD (.own 90000)), (1, iD p1), (4, oD (.clo (CD (GE true Ab true Ab) Dg p4))), (11, iD v7), (12, iD v5.2.2), (47, bD v9)] [(90000, .vec 3 (v5.1.map Ab))]) (fun j9 h => ?_) (fun v9 h => ?_)
   ·refine Ai As rfl (qw 2 rfl (LE rfl (qm rfl ?_)))
    refine E8 34 h rfl (fun h => ?_) fun h => ?_
    ·refine qw 3 rfl ?_
     refine Bc h fun v11 a11 b11 h => qI AQ AM a11 (Ae b11) rfl (qJ CY AM (Ae b11) rfl (qw 2 rfl ?_))
     refine Bc h fun v12 a12 b12 h => qI AQ AM a12 (Ae b12) rfl (qJ CY AM (Ae b12) rfl ?_)
     refine BM h fun v13 a13 h => Gk (ds0 := [_, _]) (ar := (GE true Ab true Ab) ((v11, v12))) (.g rfl rfl) rfl rfl ⟨rfl, rfl, tv⟩ rfl rfl rfl (Gg (HK _ _ _ _ A1 A1) a13) ?_
     refine AX rfl (CL rfl (qp rfl (AE (by kernel_rfl) ?_)))
     exact sn [] h
    ·refine qw 12 rfl (qp rfl (AE (by kernel_rfl) ?_))
     exact sn [] h
   ·refine A9 h (fun h => ?_) fun h => ?_
    ·refine Al (AG (Ai As rfl (qm rfl (AT rfl (qe rfl ?_)))))
     exact sn [] h
    ·refine AS ?_
     exact sn [] h
  ·refine Ah hs (AN ?_)
   refine Ax (L := BS N p1 p4 v5 v8) h (fun v15 => mk [(0, oD (.own 90000)), (1, iD p1), (4, oD (.clo (CD (GE true Ab true Ab) Dg p4))), (11, iD v8), (12, iD v15)] [(90000, .vec 3 (v5.1.map Ab))]) (fun v16 => mk [(0, oD (.own 90000)), (1, iD p1), (4, oD (.clo (CD (GE true Ab true Ab) Dg p4))), (11, iD v8), (12, iD v16)] [(90000, .vec 3 (v5.1.map Ab))]) (fun _ _ => rfl) (sm [] _ _ rfl rfl) (fun j15 n15 v15 h => ?_) (fun v16 s h hs => ?_)
   ·unfold BS at h
    refine AN ?_
    refine AP h (fun v17 => mk [(0, oD (.own 90000)), (1, iD p1), (4, oD (.clo (CD (GE true Ab true Ab) Dg p4))), (11, iD v8), (12, iD v15), (65, bD v17)] [(90000, .vec 3 (v5.1.map Ab))]) (fun j17 h => ?_) (fun v17 h => ?_)
    ·refine Ai As rfl (qw 2 rfl (LE rfl (qm rfl ?_)))
     refine E8 53 h rfl (fun h => ?_) fun h => ?_
     ·refine qw 3 rfl ?_
      refine Bc h fun v19 a19 b19 h => qI AQ AM a19 (Ae b19) rfl (qJ CY AM (Ae b19) rfl (qw 2 rfl ?_))
      refine Bc h fun v20 a20 b20 h => qI AQ AM a20 (Ae b20) rfl (qJ CY AM (Ae b20) rfl ?_)
      refine BM h fun v21 a21 h => Gk (ds0 := [_, _]) (ar := (GE true Ab true Ab) ((v19, v20))) (.g rfl rfl) rfl rfl ⟨rfl, rfl, tv⟩ rfl rfl rfl (Gg (HK _ _ _ _ A1 A1) a21) ?_
      refine AX rfl (qp rfl (AE (by kernel_rfl) ?_))
      exact sn [] h
     ·refine qw 11 rfl (qp rfl (AE (by kernel_rfl) ?_))
      exact sn [] h
    ·refine A9 h (fun h => ?_) fun h => ?_
     ·refine Al (AG (Ai As rfl (qm rfl (DA rfl (qe rfl ?_)))))
      exact sn [] h
     ·refine AS ?_
      exact sn [] h
   ·refine Ah hs (wp rfl (qw 2 rfl (Gx rfl (Ad ?_))))
    refine A9 h (fun h => ?_) fun h => ?_
    ·refine AS ?_
     exact sn [] h
    ·refine Al (wq rfl (qw 6 rfl ?_))
     refine Bc h fun v24 a24 b24 h => qI AQ AM a24 (Ae b24) rfl (qJ CY AM (Ae b24) rfl (qw 2 rfl ?_))
     refine Bc h fun v25 a25 b25 h => qI AQ AM a25 (Ae b25) rfl (qJ CY AM (Ae b25) rfl ?_)
     refine Bc h fun v26 a26 b26 h => qI AQ AM a26 (Ae b26) rfl ?_
     refine Ba rfl rfl rfl rfl (Ae b26) rfl AM rfl (DY rfl) (A2 Ab v5.1 _ v24) ?_
     refine Bc h fun v27 a27 b27 h => qI AQ AM a27 (Ae b27) rfl ?_
     refine Ba rfl rfl rfl rfl (Ae b27) rfl AM rfl (DY rfl) (A2 Ab (v5.1.set ((v8).toNat) v24) _ v25) ?_
     refine AE (by kernel_rfl) (wq rfl (qm rfl (AT rfl (qa rfl (Ad (Ai As rfl (qm rfl (DA rfl (qe rfl ?_)))))))))
     exact sn [] h
 ·refine Ah hs (wq rfl (qm rfl (qe rfl ?_)))
  obtain rfl := sj h
  refine Ah (sm [] [(10, iD v6.2)] [(90000, .vec 3 (v6.1.map Ab))] rfl rfl) (Ar ?_)
  exact ⟨⟨[_], tm, rfl⟩, ⟨rfl, tv⟩, tv⟩
theorem HY (N : Nat) (p0 : List Aa) (p1 : Int) (p2 : Int) (p3 : Int) (p4 : (Aa × Aa) → Option Int) (r : Int × Bool × (List Aa)) (h : Eb N p0 p1 p2 p3 p4 = some r) : B2 Tryz.prog 104 [oD (.own 90000), iD p1, iD p2, iD p3, oD (.clo (CD (GE true Ab true Ab) Dg p4))] [(.vec 3 (p0.map Ab), .vec 3 (r.2.2.map Ab))] [] (.tup [.one (iC r.1), .one (.pure (.val (.bool r.2.1)))]) := by
 unfold Eb at h
 refine Bn (n := 178) (rs := [.tmp 10, .tmp 11]) Tryz.func104 rfl rfl rfl (DY rfl) (DY rfl) rfl rfl (DY rfl) rfl (DY rfl) fun w0 S0 GL => ?_
 refine Ah (sm [] [(0, oD (.own 90000)), (1, iD p1), (2, iD p2), (3, iD p3), (4, oD (.clo (CD (GE true Ab true Ab) Dg p4)))] [(90000, .vec 3 (p0.map Ab))] rfl rfl) (wq rfl (qa rfl (qa rfl (Ad (wq rfl (qw 6 rfl ?_))))))
 refine Bc h fun v1 a1 b1 h => qI AQ AM a1 (Ae b1) rfl (qJ CY AM (Ae b1) rfl (qw 2 rfl ?_))
 refine Bc h fun v2 a2 b2 h => qI AQ AM a2 (Ae b2) rfl (qJ CY AM (Ae b2) rfl ?_)
 refine Bc h fun v3 a3 b3 h => qI AQ AM a3 (Ae b3) rfl ?_
 refine Ba rfl rfl rfl rfl (Ae b3) rfl AM rfl (DY rfl) (A2 Ab p0 _ v1) ?_
 refine Bc h fun v4 a4 b4 h => qI AQ AM a4 (Ae b4) rfl ?_
 refine Ba rfl rfl rfl rfl (Ae b4) rfl AM rfl (DY rfl) (A2 Ab (p0.set ((p1).toNat) v1) _ v2) ?_
 refine AE (by kernel_rfl) (wq rfl (qm rfl (AT rfl (qm rfl (DA rfl (qa rfl (qa rfl (Ad (AN ?_)))))))))
 refine Ax (L := Cw N p0 p1 p2 p3 p4 v1 v2) h (fun v5 => mk [(0, oD (.own 90000)), (1, iD p1), (4, oD (.clo (CD (GE true Ab true Ab) Dg p4))), (12, iD v5), (13, iD ((wI .i64 (p2 - 1))))] [(90000, .vec 3 (((p0.set ((p1).toNat) v1).set ((p3).toNat) v2).map Ab))]) (fun v6 => mk [(0, oD (.own 90000)), (1, iD p1), (4, oD (.clo (CD (GE true Ab true Ab) Dg p4))), (12, iD v6), (13, iD ((wI .i64 (p2 - 1))))] [(90000, .vec 3 (((p0.set ((p1).toNat) v1).set ((p3).toNat) v2).map Ab))]) (fun _ _ => rfl) (sm [] _ _ rfl rfl) (fun j5 n5 v5 h => ?_) (fun v6 s h hs => ?_)
 ·unfold Cw at h
  refine AN ?_
  refine AP h (fun v7 => mk [(0, oD (.own 90000)), (1, iD p1), (4, oD (.clo (CD (GE true Ab true Ab) Dg p4))), (12, iD v5), (13, iD ((wI .i64 (p2 - 1)))), (47, bD v7)] [(90000, .vec 3 (((p0.set ((p1).toNat) v1).set ((p3).toNat) v2).map Ab))]) (fun j7 h => ?_) (fun v7 h => ?_)
  ·refine Ai As rfl (qw 2 rfl (LE rfl (qm rfl ?_)))
   refine E8 35 h rfl (fun h => ?_) fun h => ?_
   ·refine qw 3 rfl ?_
    refine Bc h fun v9 a9 b9 h => qI AQ AM a9 (Ae b9) rfl (qJ CY AM (Ae b9) rfl (qw 2 rfl ?_))
    refine Bc h fun v10 a10 b10 h => qI AQ AM a10 (Ae b10) rfl (qJ CY AM (Ae b10) rfl ?_)
    refine BM h fun v11 a11 h => Gk (ds0 := [_, _]) (ar := (GE true Ab true Ab) ((v9, v10))) (.g rfl rfl) rfl rfl ⟨rfl, rfl, tv⟩ rfl rfl rfl (Gg (HK _ _ _ _ A1 A1) a11) ?_
    refine AX rfl (qp rfl (AE (by kernel_rfl) ?_))
    exact sn [] h
   ·refine qw 11 rfl (qp rfl (AE (by kernel_rfl) ?_))
    exact sn [] h
  ·refine A9 h (fun h => ?_) fun h => ?_
   ·refine Al (AG (Ai As rfl (qm rfl (AT rfl (qe rfl ?_)))))
    exact sn [] h
   ·refine AS ?_
    exact sn [] h
 ·refine Ah hs (AN ?_)
  refine Ax (L := Cn N p0 p1 p3 p4 v1 v2 v6) h (fun v13 => mk [(0, oD (.own 90000)), (1, iD p1), (4, oD (.clo (CD (GE true Ab true Ab) Dg p4))), (12, iD v6), (13, iD v13)] [(90000, .vec 3 (((p0.set ((p1).toNat) v1).set ((p3).toNat) v2).map Ab))]) (fun v14 => mk [(0, oD (.own 90000)), (1, iD p1), (4, oD (.clo (CD (GE true Ab true Ab) Dg p4))), (12, iD v6), (13, iD v14)] [(90000, .vec 3 (((p0.set ((p1).toNat) v1).set ((p3).toNat) v2).map Ab))]) (fun _ _ => rfl) (sm [] _ _ rfl rfl) (fun j13 n13 v13 h => ?_) (fun v14 s h hs => ?_)
  ·unfold Cn at h
   refine AN ?_
   refine AP h (fun v15 => mk [(0, oD (.own 90000)), (1, iD p1), (4, oD (.clo (CD (GE true Ab true Ab) Dg p4))), (12, iD v6), (13, iD v13), (66, bD v15)] [(90000, .vec 3 (((p0.set ((p1).toNat) v1).set ((p3).toNat) v2).map Ab))]) (fun j15 h => ?_) (fun v15 h => ?_)
   ·refine Ai As rfl (qw 2 rfl (LE rfl (qm rfl ?_)))
    refine E8 53 h rfl (fun h => ?_) fun h => ?_
    ·refine qw 3 rfl ?_
     refine Bc h fun v17 a17 b17 h => qI AQ AM a17 (Ae b17) rfl (qJ CY AM (Ae b17) rfl (qw 2 rfl ?_))
     refine Bc h fun v18 a18 b18 h => qI AQ AM a18 (Ae b18) rfl (qJ CY AM (Ae b18) rfl ?_)
     refine BM h fun v19 a19 h => Gk (ds0 := [_, _]) (ar := (GE true Ab true Ab) ((v17, v18))) (.g rfl rfl) rfl rfl ⟨rfl, rfl, tv⟩ rfl rfl rfl (Gg (HK _ _ _ _ A1 A1) a19) ?_
     refine AX rfl (CL rfl (qp rfl (AE (by kernel_rfl) ?_)))
     exact sn [] h
    ·refine qw 12 rfl (qp rfl (AE (by kernel_rfl) ?_))
     exact sn [] h
   ·refine A9 h (fun h => ?_) fun h => ?_
    ·refine Al (AG (Ai As rfl (qm rfl (DA rfl (qe rfl ?_)))))
     exact sn [] h
    ·refine AS ?_
     exact sn [] h
  ·refine Ah hs (wp rfl (qw 2 rfl (Gx rfl (Ad ?_))))
   refine A9 h (fun h => ?_) fun h => ?_
   ·refine wq rfl (qw 6 rfl ?_)
    refine Bc h fun v22 a22 b22 h => qI AQ AM a22 (Ae b22) rfl (qJ CY AM (Ae b22) rfl (qw 2 rfl ?_))
    refine Bc h fun v23 a23 b23 h => qI AQ AM a23 (Ae b23) rfl (qJ CY AM (Ae b23) rfl ?_)
    refine Bc h fun v24 a24 b24 h => qI AQ AM a24 (Ae b24) rfl ?_
    refine Ba rfl rfl rfl rfl (Ae b24) rfl AM rfl (DY rfl) (A2 Ab ((p0.set ((p1).toNat) v1).set ((p3).toNat) v2) _ v22) ?_
    refine Bc h fun v25 a25 b25 h => qI AQ AM a25 (Ae b25) rfl ?_
    refine Ba rfl rfl rfl rfl (Ae b25) rfl AM rfl (DY rfl) (A2 Ab (((p0.set ((p1).toNat) v1).set ((p3).toNat) v2).set ((v14).toNat) v22) _ v23) ?_
    refine AE (by kernel_rfl) (wq rfl (qm rfl (qa rfl (qe rfl ?_))))
    obtain rfl := sj h
    refine Ah (sm [] [(10, iD v14), (11, bD true)] [(90000, .vec 3 (((((p0.set ((p1).toNat) v1).set ((p3).toNat) v2).set ((v14).toNat) v22).set ((p1).toNat) v23).map Ab))] rfl rfl) (Ar ?_)
    exact ⟨⟨[_, _], ⟨.tmp _ _ rfl, tm⟩, rfl⟩, ⟨rfl, tv⟩, tv⟩
   ·refine Al (wq rfl (qw 6 rfl ?_))
    refine Bc h fun v26 a26 b26 h => qI AQ AM a26 (Ae b26) rfl (qJ CY AM (Ae b26) rfl (qw 2 rfl ?_))
    refine Bc h fun v27 a27 b27 h => qI AQ AM a27 (Ae b27) rfl (qJ CY AM (Ae b27) rfl ?_)
    refine Bc h fun v28 a28 b28 h => qI AQ AM a28 (Ae b28) rfl ?_
    refine Ba rfl rfl rfl rfl (Ae b28) rfl AM rfl (DY rfl) (A2 Ab ((p0.set ((p1).toNat) v1).set ((p3).toNat) v2) _ v26) ?_
    refine Bc h fun v29 a29 b29 h => qI AQ AM a29 (Ae b29) rfl ?_
    refine Ba rfl rfl rfl rfl (Ae b29) rfl AM rfl (DY rfl) (A2 Ab (((p0.set ((p1).toNat) v1).set ((p3).toNat) v2).set ((v6).toNat) v26) _ v27) ?_
    refine AE (by kernel_rfl) (wq rfl (qm rfl (AT rfl (qa rfl (Ad (wq rfl (qm rfl (DA rfl (qa rfl (Ad (AN ?_)))))))))))
    refine Ax (L := Cq N p1 p4) h (fun v30 => mk [(0, oD (.own 90000)), (1, iD p1), (4, oD (.clo (CD (GE true Ab true Ab) Dg p4))), (12, iD v30.2.1), (13, iD v30.2.2)] [(90000, .vec 3 (v30.1.map Ab))]) (fun v31 => mk [(0, oD (.own 90000)), (1, iD p1), (13, iD v31.2)] [(90000, .vec 3 (v31.1.map Ab))]) (fun _ _ => rfl) (sm [] _ _ rfl rfl) (fun j30 n30 v30 h => ?_) (fun v31 s h hs => ?_)
    ·unfold Cq at h
     refine AG (AN ?_)
     refine Ax (L := Co N p1 p4 v30) h (fun v32 => mk [(0, oD (.own 90000)), (1, iD p1), (4, oD (.clo (CD (GE true Ab true Ab) Dg p4))), (12, iD v32), (13, iD v30.2.2)] [(90000, .vec 3 (v30.1.map Ab))]) (fun v33 => mk [(0, oD (.own 90000)), (1, iD p1), (4, oD (.clo (CD (GE true Ab true Ab) Dg p4))), (12, iD v33), (13, iD v30.2.2)] [(90000, .vec 3 (v30.1.map Ab))]) (fun _ _ => rfl) (sm [] _ _ rfl rfl) (fun j32 n32 v32 h => ?_) (fun v33 s h hs => ?_)
     ·unfold Co at h
      refine AN ?_
      refine AP h (fun v34 => mk [(0, oD (.own 90000)), (1, iD p1), (4, oD (.clo (CD (GE true Ab true Ab) Dg p4))), (12, iD v32), (13, iD v30.2.2), (120, bD v34)] [(90000, .vec 3 (v30.1.map Ab))]) (fun j34 h => ?_) (fun v34 h => ?_)
      ·refine Ai As rfl (qw 2 rfl (LE rfl (qm rfl ?_)))
       refine E8 108 h rfl (fun h => ?_) fun h => ?_
       ·refine qw 3 rfl ?_
        refine Bc h fun v36 a36 b36 h => qI AQ AM a36 (Ae b36) rfl (qJ CY AM (Ae b36) rfl (qw 2 rfl ?_))
        refine Bc h fun v37 a37 b37 h => qI AQ AM a37 (Ae b37) rfl (qJ CY AM (Ae b37) rfl ?_)
        refine BM h fun v38 a38 h => Gk (ds0 := [_, _]) (ar := (GE true Ab true Ab) ((v36, v37))) (.g rfl rfl) rfl rfl ⟨rfl, rfl, tv⟩ rfl rfl rfl (Gg (HK _ _ _ _ A1 A1) a38) ?_
        refine AX rfl (qp rfl (AE (by kernel_rfl) ?_))
        exact sn [] h
       ·refine qw 11 rfl (qp rfl (AE (by kernel_rfl) ?_))
        exact sn [] h
      ·refine A9 h (fun h => ?_) fun h => ?_
       ·refine Al (AG (Ai As rfl (qm rfl (AT rfl (qe rfl ?_)))))
        exact sn [] h
       ·refine AS ?_
        exact sn [] h
     ·refine Ah hs (AN ?_)
      refine Ax (L := Cp N p1 p4 v30 v33) h (fun v40 => mk [(0, oD (.own 90000)), (1, iD p1), (4, oD (.clo (CD (GE true Ab true Ab) Dg p4))), (12, iD v33), (13, iD v40)] [(90000, .vec 3 (v30.1.map Ab))]) (fun v41 => mk [(0, oD (.own 90000)), (1, iD p1), (4, oD (.clo (CD (GE true Ab true Ab) Dg p4))), (12, iD v33), (13, iD v41)] [(90000, .vec 3 (v30.1.map Ab))]) (fun _ _ => rfl) (sm [] _ _ rfl rfl) (fun j40 n40 v40 h => ?_) (fun v41 s h hs => ?_)
      ·unfold Cp at h
       refine AN ?_
       refine AP h (fun v42 => mk [(0, oD (.own 90000)), (1, iD p1), (4, oD (.clo (CD (GE true Ab true Ab) Dg p4))), (12, iD v33), (13, iD v40), (139, bD v42)] [(90000, .vec 3 (v30.1.map Ab))]) (fun j42 h => ?_) (fun v42 h => ?_)
       ·refine Ai As rfl (qw 2 rfl (LE rfl (qm rfl ?_)))
        refine E8 126 h rfl (fun h => ?_) fun h => ?_
        ·refine qw 3 rfl ?_
         refine Bc h fun v44 a44 b44 h => qI AQ AM a44 (Ae b44) rfl (qJ CY AM (Ae b44) rfl (qw 2 rfl ?_))
         refine Bc h fun v45 a45 b45 h => qI AQ AM a45 (Ae b45) rfl (qJ CY AM (Ae b45) rfl ?_)
         refine BM h fun v46 a46 h => Gk (ds0 := [_, _]) (ar := (GE true Ab true Ab) ((v44, v45))) (.g rfl rfl) rfl rfl ⟨rfl, rfl, tv⟩ rfl rfl rfl (Gg (HK _ _ _ _ A1 A1) a46) ?_
         refine AX rfl (CL rfl (qp rfl (AE (by kernel_rfl) ?_)))
         exact sn [] h
        ·refine qw 12 rfl (qp rfl (AE (by kernel_rfl) ?_))
         exact sn [] h
       ·refine A9 h (fun h => ?_) fun h => ?_
        ·refine Al (AG (Ai As rfl (qm rfl (DA rfl (qe rfl ?_)))))
         exact sn [] h
        ·refine AS ?_
         exact sn [] h
      ·refine Ah hs (wp rfl (qw 2 rfl (Gx rfl (Ad ?_))))
       refine A9 h (fun h => ?_) fun h => ?_
       ·refine AS ?_
        exact sn [] h
       ·refine Al (wq rfl (qw 6 rfl ?_))
        refine Bc h fun v49 a49 b49 h => qI AQ AM a49 (Ae b49) rfl (qJ CY AM (Ae b49) rfl (qw 2 rfl ?_))
        refine Bc h fun v50 a50 b50 h => qI AQ AM a50 (Ae b50) rfl (qJ CY AM (Ae b50) rfl ?_)
        refine Bc h fun v51 a51 b51 h => qI AQ AM a51 (Ae b51) rfl ?_
        refine Ba rfl rfl rfl rfl (Ae b51) rfl AM rfl (DY rfl) (A2 Ab v30.1 _ v49) ?_
        refine Bc h fun v52 a52 b52 h => qI AQ AM a52 (Ae b52) rfl ?_
        refine Ba rfl rfl rfl rfl (Ae b52) rfl AM rfl (DY rfl) (A2 Ab (v30.1.set ((v33).toNat) v49) _ v50) ?_
        refine AE (by kernel_rfl) (wq rfl (qm rfl (AT rfl (qa rfl (Ad (Ai As rfl (qm rfl (DA rfl (qe rfl ?_)))))))))
        exact sn [] h
    ·refine Ah hs (wq rfl (qw 6 rfl ?_))
     refine Bc h fun v53 a53 b53 h => qI AQ AM a53 (Ae b53) rfl (qJ CY AM (Ae b53) rfl (qw 2 rfl ?_))
     refine Bc h fun v54 a54 b54 h => qI AQ AM a54 (Ae b54) rfl (qJ CY AM (Ae b54) rfl ?_)
     refine Bc h fun v55 a55 b55 h => qI AQ AM a55 (Ae b55) rfl ?_
     refine Ba rfl rfl rfl rfl (Ae b55) rfl AM rfl (DY rfl) (A2 Ab v31.1 _ v53) ?_
     refine Bc h fun v56 a56 b56 h => qI AQ AM a56 (Ae b56) rfl ?_
     refine Ba rfl rfl rfl rfl (Ae b56) rfl AM rfl (DY rfl) (A2 Ab (v31.1.set ((v31.2).toNat) v53) _ v54) ?_
     refine AE (by kernel_rfl) (wq rfl (qm rfl (qa rfl (qe rfl ?_))))
     obtain rfl := sj h
     refine Ah (sm [] [(10, iD v31.2), (11, bD false)] [(90000, .vec 3 (((v31.1.set ((v31.2).toNat) v53).set ((p1).toNat) v54).map Ab))] rfl rfl) (Ar ?_)
     exact ⟨⟨[_, _], ⟨.tmp _ _ rfl, tm⟩, rfl⟩, ⟨rfl, tv⟩, tv⟩
theorem H0 (N : Nat) (rc : (List Aa) → Int → Int → Int → ((Aa × Aa) → Option Int) → Option ((List Aa))) (hrc : ∀ (p0 : List Aa) (p1 : Int) (p2 : Int) (p3 : Int) (p4 : (Aa × Aa) → Option Int) (r : (List Aa)), rc p0 p1 p2 p3 p4 = some r → B2 Tryz.prog 70 [oD (.own 90000), iD p1, iD p2, iD p3, oD (.clo (CD (GE true Ab true Ab) Dg p4))] [(.vec 3 (p0.map Ab), .vec 3 (r.map Ab))] [] (.tup [])) (p0 : List Aa) (p1 : Int) (p2 : Int) (p3 : Int) (p4 : (Aa × Aa) → Option Int) (r : (List Aa)) (h : Ec N rc p0 p1 p2 p3 p4 = some r) : B2 Tryz.prog 70 [oD (.own 90000), iD p1, iD p2, iD p3, oD (.clo (CD (GE true Ab true Ab) Dg p4))] [(.vec 3 (p0.map Ab), .vec 3 (r.map Ab))] [] (.tup []) := by
 unfold Ec at h
 refine Bn (n := 148) (rs := []) Tryz.func70 rfl rfl rfl (DY rfl) (DY rfl) rfl rfl (DY rfl) rfl (DY rfl) fun w0 S0 GL => PI ?_
 refine Ah (sm [] [(0, oD (.own 90000)), (1, iD p1), (2, iD p2), (3, iD p3), (4, oD (.clo (CD (GE true Ab true Ab) Dg p4)))] [(90000, .vec 3 (p0.map Ab))] rfl rfl) (wq rfl (qa rfl (Ad (wq rfl (qe rfl ?_)))))
 refine Ax (L := Bq N p4 rc) h (fun v1 => mk [(0, oD (.own 90000)), (1, iD v1.2.1), (2, iD v1.2.2.1), (3, iD v1.2.2.2.1), (4, oD (.clo (CD (GE true Ab true Ab) Dg p4))), (10, bD v1.2.2.2.2.1), (11, bD v1.2.2.2.2.2)] [(90000, .vec 3 (v1.1.map Ab))]) (fun v2 => mk [] []) (fun _ _ => rfl) (sm [] _ _ rfl rfl) (fun j1 n1 v1 h => ?_) (fun v2 s h hs => ?_)
 ·unfold Bq at h
  refine AG (wq rfl (qw 2 rfl (DA rfl (qa rfl (Ad (wp rfl (qm rfl (LE rfl (Ad ?_)))))))))
  refine A9 h (fun h => ?_) fun h => ?_
  ·refine wq rfl (qw 4 rfl ?_)
   refine BM h fun v4 a4 h => DP (ds0 := [_, _, _, _]) [90000] [] [true] (Hr N v1.1 v1.2.1 v1.2.2.1 p4 v4 a4) (.p rfl) eH rfl ⟨rfl, rfl, rfl, rfl, tv⟩ rfl rfl (by decide) ⟨rfl, tv⟩ rfl (Bf rfl) tv ⟨(fun h => by cases h), tv⟩ rfl rfl rfl ?_
   refine Ad ?_
   obtain rfl := sj h
   refine Ar ⟨_, (sm [] [] [(90000, .vec 3 (v4.map Ab))] rfl rfl), ?_⟩
   exact ⟨⟨[], tv, rfl⟩, ⟨rfl, tv⟩, tv⟩
  ·refine Al (wp rfl (qm rfl (BZ rfl (Ad ?_))))
   refine A9 h (fun h => ?_) fun h => ?_
   ·refine wq rfl (qw 4 rfl ?_)
    refine BM h fun v6 a6 h => DP (ds0 := [_, _, _, _]) [90000] [] [true] (Ig N v1.1 v1.2.1 v1.2.2.1 p4 v6 a6) (.p rfl) eL rfl ⟨rfl, rfl, rfl, rfl, tv⟩ rfl rfl (by decide) ⟨rfl, tv⟩ rfl (Bf rfl) tv ⟨(fun h => by cases h), tv⟩ rfl rfl rfl ?_
    refine Ad ?_
    obtain rfl := sj h
    refine Ar ⟨_, (sm [] [] [(90000, .vec 3 (v6.map Ab))] rfl rfl), ?_⟩
    exact ⟨⟨[], tv, rfl⟩, ⟨rfl, tv⟩, tv⟩
   ·refine Al ?_
    refine AP h (fun v7 => mk [(0, oD (.own 90000)), (1, iD v1.2.1), (2, iD v1.2.2.1), (3, iD v7.2), (4, oD (.clo (CD (GE true Ab true Ab) Dg p4))), (10, bD v1.2.2.2.2.1), (11, bD v1.2.2.2.2.2), (12, iD ((wI .i64 (v1.2.2.1 - v1.2.1))))] [(90000, .vec 3 (v7.1.map Ab))]) (fun j7 h => ?_) (fun v7 h => ?_)
    ·refine wq rfl (qm rfl (CL rfl (Ad ?_)))
     refine A9 h (fun h => ?_) fun h => ?_
     ·refine wq rfl (qw 4 rfl ?_)
      refine BM h fun v9 a9 h => DP (ds0 := [_, _, _, _]) [90000] [] [true] (Hu N v1.1 v1.2.1 v1.2.2.1 p4 v9 a9) (.p rfl) eN rfl ⟨rfl, rfl, rfl, rfl, tv⟩ rfl rfl (by decide) ⟨rfl, tv⟩ rfl (Bf rfl) tv ⟨(fun h => by cases h), tv⟩ rfl rfl rfl ?_
      refine Ad (Ai As rfl (qm rfl (DA rfl (qe rfl ?_))))
      exact sn [] h
     ·refine Al ?_
      exact sn [] h
    ·refine wq rfl (qw 4 rfl ?_)
     refine BM h fun v10 a10 h => Fi [] [90000] (HF N v7.1 v1.2.1 v1.2.2.1 p4 v10 a10) dG Dh rfl (qm rfl (qx rfl (qx rfl (qa rfl (qe rfl ?_)))))
     refine AP h (fun v11 => mk [(0, oD (.own 90000)), (1, iD v1.2.1), (2, iD v1.2.2.1), (3, iD v7.2), (4, oD (.clo (CD (GE true Ab true Ab) Dg p4))), (10, bD v1.2.2.2.2.1), (11, bD v1.2.2.2.2.2), (12, iD ((wI .i64 (v1.2.2.1 - v1.2.1)))), (13, iD v11.2.1), (14, iD v11.2.2)] [(90000, .vec 3 (v11.1.map Ab))]) (fun j11 h => ?_) (fun v11 h => ?_)
     ·refine wq rfl (qm rfl (BZ rfl (Ad ?_)))
      refine A9 h (fun h => ?_) fun h => ?_
      ·refine wq rfl (qw 4 rfl ?_)
       refine BM h fun v13 a13 h => DP (ds0 := [_, _, _, _]) [90000] [] [true] (HA N v7.1 v1.2.1 v1.2.2.1 p4 v13 a13) (.p rfl) ef rfl ⟨rfl, rfl, rfl, rfl, tv⟩ rfl rfl (by decide) ⟨rfl, tv⟩ rfl (Bf rfl) tv ⟨(fun h => by cases h), tv⟩ rfl rfl rfl ?_
       refine Ad (wq rfl (qm rfl (DA rfl (qw 2 rfl (DA rfl (DA rfl (qa rfl (Ad (Ai As rfl (qe rfl ?_))))))))))
       exact sn [] h
      ·refine Al ?_
       exact sn [] h
     ·refine AP h (fun v14 => mk [(0, oD (.own 90000)), (1, iD v1.2.1), (2, iD v1.2.2.1), (3, iD v7.2), (4, oD (.clo (CD (GE true Ab true Ab) Dg p4))), (10, bD v1.2.2.2.2.1), (11, bD v1.2.2.2.2.2), (12, iD ((wI .i64 (v1.2.2.1 - v1.2.1)))), (13, iD v11.2.1)] [(90000, .vec 3 (v14.map Ab))]) (fun j14 h => ?_) (fun v14 h => ?_)
      ·refine AP h (fun v15 => mk [(0, oD (.own 90000)), (1, iD v1.2.1), (2, iD v1.2.2.1), (3, iD v7.2), (4, oD (.clo (CD (GE true Ab true Ab) Dg p4))), (10, bD v1.2.2.2.2.1), (11, bD v1.2.2.2.2.2), (12, iD ((wI .i64 (v1.2.2.1 - v1.2.1)))), (13, iD v11.2.1), (75, bD v15)] [(90000, .vec 3 (v11.1.map Ab))]) (fun j15 h => ?_) (fun v15 h => ?_)
       ·refine Ai As rfl (qw 2 rfl ?_)
        refine E8 69 h rfl (fun h => ?_) fun h => ?_
        ·refine qm rfl (qp rfl (qm rfl ?_))
         refine E8 72 h rfl (fun h => ?_) fun h => ?_
         ·refine qm rfl (BZ rfl (qp rfl (Ad ?_)))
          exact sn [] h
         ·refine qw 2 rfl (qp rfl (Ad ?_))
          exact sn [] h
        ·refine qn rfl (qp rfl (qw 3 rfl (qp rfl (Ad ?_))))
         exact sn [] h
       ·refine A9 h (fun h => ?_) fun h => ?_
        ·refine wq rfl (qw 4 rfl ?_)
         refine BM h fun v19 a19 h => DP (ds0 := [_, _, _, _]) [90000] [] [true] (GG N v11.1 v1.2.1 v1.2.2.1 p4 v19 a19) (.p rfl) dD rfl ⟨rfl, rfl, rfl, rfl, tv⟩ rfl rfl (by decide) ⟨rfl, tv⟩ rfl (Bf rfl) tv ⟨(fun h => by cases h), tv⟩ rfl rfl rfl ?_
         refine Ad ?_
         refine A9 h (fun h => ?_) fun h => ?_
         ·obtain rfl := sj h
          refine Ar ⟨_, (sm [] [] [(90000, .vec 3 (v19.2.map Ab))] rfl rfl), ?_⟩
          exact ⟨⟨[], tv, rfl⟩, ⟨rfl, tv⟩, tv⟩
         ·refine Al ?_
          exact sn [] h
        ·refine Al ?_
         exact sn [] h
      ·refine AN ?_
       refine AP h (fun v21 => mk [(0, oD (.own 90000)), (1, iD v1.2.1), (2, iD v1.2.2.1), (3, iD v7.2), (4, oD (.clo (CD (GE true Ab true Ab) Dg p4))), (10, bD v1.2.2.2.2.1), (11, bD v1.2.2.2.2.2), (12, iD ((wI .i64 (v1.2.2.1 - v1.2.1)))), (13, iD v11.2.1), (97, bD v21)] [(90000, .vec 3 (v14.map Ab))]) (fun j21 h => ?_) (fun v21 h => ?_)
       ·refine Ai As rfl (qm rfl (Gx rfl (qm rfl ?_)))
        refine E8 83 h rfl (fun h => ?_) fun h => ?_
        ·refine qw 3 rfl (DA rfl ?_)
         refine Bc h fun v23 a23 b23 h => qI AQ AM a23 (Ae b23) rfl (qJ CY AM (Ae b23) rfl (qw 2 rfl ?_))
         refine Bc h fun v24 a24 b24 h => qI AQ AM a24 (Ae b24) rfl (qJ CY AM (Ae b24) rfl ?_)
         refine BM h fun v25 a25 h => Gk (ds0 := [_, _]) (ar := (GE true Ab true Ab) ((v23, v24))) (.g rfl rfl) rfl rfl ⟨rfl, rfl, tv⟩ rfl rfl rfl (Gg (HK _ _ _ _ A1 A1) a25) ?_
         refine AX rfl (CL rfl (qp rfl (AE (by kernel_rfl) ?_)))
         exact sn [] h
        ·refine qw 13 rfl (qp rfl (AE (by kernel_rfl) ?_))
         exact sn [] h
       ·refine A9 h (fun h => ?_) fun h => ?_
        ·refine wq rfl (qw 5 rfl ?_)
         refine BM h fun v27 a27 h => DP (ds0 := [_, _, _, _, _]) [90000] [] [true] (Hn N v14 v1.2.1 v1.2.2.1 v11.2.1 p4 v27 a27) (.p rfl) dL rfl ⟨rfl, rfl, rfl, rfl, rfl, tv⟩ rfl rfl (by decide) ⟨rfl, tv⟩ rfl (Bf rfl) tv ⟨(fun h => by cases h), tv⟩ rfl rfl rfl ?_
         refine qa rfl (Ad (wq rfl (qm rfl (qa rfl (Ad (AS ?_))))))
         exact sn [] h
        ·refine Al (wq rfl (qw 5 rfl ?_))
         refine BM h fun v28 a28 h => DP (ds0 := [_, _, _, _, _]) [90000] [] [true] (HY N v14 v1.2.1 v1.2.2.1 v11.2.1 p4 v28 a28) (.p rfl) cN rfl ⟨rfl, rfl, rfl, rfl, rfl, tv⟩ rfl rfl (by decide) ⟨rfl, tv⟩ rfl (Bf rfl) tv ⟨(fun h => by cases h), tv⟩ rfl rfl rfl ?_
         refine qm rfl (qx rfl (qx rfl (qa rfl (qa rfl (Ad (wq rfl (qm rfl (qa rfl (Ad (wq rfl (qw 2 rfl (DA rfl (qw 2 rfl (DA rfl (qa rfl (qa rfl (Ad (wq rfl (qm rfl (Qb rfl (by decide) (qa rfl (Ad (wq rfl (qw 2 rfl (AX rfl (Ad ?_))))))))))))))))))))))))))
         refine A9 h (fun h => ?_) fun h => ?_
         ·refine wq rfl (qw 2 rfl (D4 rfl (qa rfl (Ad (wq rfl (qw 5 rfl ?_))))))
          refine BM h fun v30 a30 h => DP (ds0 := [_, _, _, _, _]) [90000] [] [true] (hrc v28.2.2 v1.2.1 v28.1 v7.2 p4 v30 a30) (.p rfl) bp rfl ⟨rfl, rfl, rfl, rfl, rfl, tv⟩ rfl rfl (by decide) ⟨rfl, tv⟩ rfl (Bf rfl) tv ⟨(fun h => by cases h), tv⟩ rfl rfl rfl ?_
          refine Ad (Ai As rfl (qm rfl (AT rfl (qe rfl ?_))))
          exact sn [] h
         ·refine wq rfl (qw 2 rfl (D4 rfl (qa rfl (Ad (wq rfl (qw 2 rfl (AT rfl (qw 3 rfl ?_))))))))
          refine BM h fun v31 a31 h => DP (ds0 := [_, _, _, _, _]) [90000] [] [true] (hrc v28.2.2 ((wI .i64 (v28.1 + 1))) v1.2.2.1 v7.2 p4 v31 a31) (.p rfl) bp rfl ⟨rfl, rfl, rfl, rfl, rfl, tv⟩ rfl rfl (by decide) ⟨rfl, tv⟩ rfl (Bf rfl) tv ⟨(fun h => by cases h), tv⟩ rfl rfl rfl ?_
          refine Ad (Ai As rfl (qm rfl (qe rfl ?_)))
          exact sn [] h
 ·cases h
theorem FY (N : Nat) : ∀ (k : Nat) (p0 : List Aa) (p1 : Int) (p2 : Int) (p3 : Int) (p4 : (Aa × Aa) → Option Int) (r : (List Aa)), CX N k p0 p1 p2 p3 p4 = some r → B2 Tryz.prog 70 [oD (.own 90000), iD p1, iD p2, iD p3, oD (.clo (CD (GE true Ab true Ab) Dg p4))] [(.vec 3 (p0.map Ab), .vec 3 (r.map Ab))] [] (.tup [])
 | 0, _, _, _, _, _, _, h => by cases h
 | k + 1, p0, p1, p2, p3, p4, r, h => H0 N (CX N k) (FY N k) p0 p1 p2 p3 p4 r h
theorem Il (N : Nat) (p0 : List Aa) (p1 : Int) (p2 : Int) (p3 : Int) (p4 : (Aa × Aa) → Option Int) (r : (List Aa)) (h : F9 N p0 p1 p2 p3 p4 = some r) : B2 Tryz.prog 70 [oD (.own 90000), iD p1, iD p2, iD p3, oD (.clo (CD (GE true Ab true Ab) Dg p4))] [(.vec 3 (p0.map Ab), .vec 3 (r.map Ab))] [] (.tup []) := FY N N p0 p1 p2 p3 p4 r h
theorem Hp (N : Nat) (p0 : List Aa) (p1 : (Aa × Aa) → Option Int) (r : (List Aa)) (h : Du N p0 p1 = some r) : B2 Tryz.prog 38 [oD (.own 90000), oD (.clo (CD (GE true Ab true Ab) Dg p1))] [(.vec 3 (p0.map Ab), .vec 3 (r.map Ab))] [] (.tup []) := by
 unfold Du at h
 refine Bn (n := 14) (rs := []) Tryz.func38 rfl rfl rfl (DY rfl) (DY rfl) rfl rfl (DY rfl) rfl (DY rfl) fun w0 S0 GL => PI ?_
 refine Ah (sm [] [(0, oD (.own 90000)), (1, oD (.clo (CD (GE true Ab true Ab) Dg p1)))] [(90000, .vec 3 (p0.map Ab))] rfl rfl) (wq rfl (qm rfl (DV AQ rfl (qa rfl (Ad (Ai As rfl (qw 3 rfl (Je cd Sk rfl ?_))))))))
 refine BM h fun v1 a1 h => Az [] (L2 N ((wI .u64 ((p0.length : Int)))) v1 a1) eo rfl (qm rfl ?_)
 refine BM h fun v2 a2 h => DP (ds0 := [_, _, _, _, _]) [90000] [] [true] (Il N p0 0 ((p0.length : Int)) v1 p1 v2 a2) (.p rfl) bp rfl ⟨rfl, rfl, rfl, rfl, rfl, tv⟩ rfl rfl (by decide) ⟨rfl, tv⟩ rfl (Bf rfl) tv ⟨(fun h => by cases h), tv⟩ rfl rfl rfl ?_
 refine Ad ?_
 obtain rfl := sj h
 refine ⟨_, (sm [] [] [(90000, .vec 3 (v2.map Ab))] rfl rfl), ?_⟩
 exact ⟨⟨[], tv, rfl⟩, ⟨rfl, tv⟩, tv⟩
theorem L3 (N : Nat) (p0 : Int) (r : Bool) (h : Ie N p0 = some r) : Au Tryz.prog 107 [iD p0] [] (bD r) := by
 unfold Ie at h
 refine cw (n := 6) (rs := [.tmp 2]) Tryz.func107 fun w0 S0 => ?_
 refine wq rfl (qa rfl (Ad (wq rfl (qw 2 rfl (Cf rfl (qe rfl ?_))))))
 obtain rfl := sj h
 refine Ah (sm [] [(2, bD ((p0 != p0)))] [] rfl rfl) (Ar ?_)
 exact ⟨⟨[_], tm, rfl⟩, tv⟩
theorem Jg (N : Nat) (p0 : Int) (p1 : Int) (r : Int) (h : GC N p0 p1 = some r) : Au Tryz.prog 73 [iD p0, iD p1] [] (iD r) := by
 unfold GC at h
 refine cw (n := 20) (rs := [.tmp 4]) Tryz.func73 fun w0 S0 => ?_
 refine wq rfl (qa rfl (Ad (wq rfl (qm rfl ?_))))
 refine BM h fun v1 a1 h => Az [] (L3 N p0 v1 a1) ay rfl (qa rfl (Ad (wq rfl (qm rfl ?_))))
 refine BM h fun v2 a2 h => Az [] (L3 N p1 v2 a2) ay rfl (qa rfl (Ad (wp rfl (qm rfl (Ad ?_)))))
 refine A9 h (fun h => ?_) fun h => ?_
 ·refine wp rfl (qm rfl (Ad ?_))
  refine A9 h (fun h => ?_) fun h => ?_
  ·refine wq rfl (qe rfl ?_)
   obtain rfl := sj h
   refine Ah (sm [] [(4, iD 0)] [] rfl rfl) (Ar ?_)
   exact ⟨⟨[_], tm, rfl⟩, tv⟩
  ·refine Al (wq rfl (qe rfl ?_))
   obtain rfl := sj h
   refine Ah (sm [] [(4, iD ((-1)))] [] rfl rfl) (Ar ?_)
   exact ⟨⟨[_], tm, rfl⟩, tv⟩
 ·refine Al (wp rfl (qm rfl (Ad ?_)))
  refine A9 h (fun h => ?_) fun h => ?_
  ·refine wq rfl (qe rfl ?_)
   obtain rfl := sj h
   refine Ah (sm [] [(4, iD 1)] [] rfl rfl) (Ar ?_)
   exact ⟨⟨[_], tm, rfl⟩, tv⟩
  ·refine Al (wp rfl (qw 2 rfl (AX rfl (Ad ?_))))
   refine A9 h (fun h => ?_) fun h => ?_
   ·refine wq rfl (qe rfl ?_)
    obtain rfl := sj h
    refine Ah (sm [] [(4, iD ((-1)))] [] rfl rfl) (Ar ?_)
    exact ⟨⟨[_], tm, rfl⟩, tv⟩
   ·refine Al (wp rfl (qw 2 rfl (Gx rfl (Ad ?_))))
    refine A9 h (fun h => ?_) fun h => ?_
    ·refine wq rfl (qe rfl ?_)
     obtain rfl := sj h
     refine Ah (sm [] [(4, iD 1)] [] rfl rfl) (Ar ?_)
     exact ⟨⟨[_], tm, rfl⟩, tv⟩
    ·refine Al (wq rfl (qe rfl ?_))
     obtain rfl := sj h
     refine Ah (sm [] [(4, iD 0)] [] rfl rfl) (Ar ?_)
     exact ⟨⟨[_], tm, rfl⟩, tv⟩
theorem Ta (N : Nat) (p0 : List Int) (r : Int) (h : Lf N p0 = some r) : Au Tryz.prog 72 [pD (.sl (p0.map Aq))] [] (iD r) := by
 unfold Lf at h
 refine cw (n := 18) (rs := [.tmp 2]) Tryz.func72 fun w0 S0 => ?_
 refine wq rfl (qa rfl (Ad (wq rfl (qa rfl (Ad (wp rfl (qm rfl (AV AD rfl (qm rfl (Ad ?_))))))))))
 refine Ax (L := H9 N p0) h (fun v1 => mk [(3, iD 0), (6, pD (.sl (p0.map Aq))), (7, iD ((p0.length : Int))), (8, iD v1)] []) (fun v2 => mk [(3, iD 0)] []) (fun _ _ => rfl) (sm [] _ _ rfl rfl) (fun j1 n1 v1 h => ?_) (fun v2 s h hs => ?_)
 ·unfold H9 at h
  refine wq rfl (AX rfl (Ad (AN ?_)))
  refine A9 h (fun h => ?_) fun h => ?_
  ·refine Al (AN (AG (wq rfl ?_)))
   refine Bc h fun v4 a4 b4 h => qi AD Ep a4 (Ae b4) rfl (qk CN rfl (qa rfl (Ad (wq rfl (qw 2 rfl (Cf rfl (Ad ?_)))))))
   refine A9 h (fun h => ?_) fun h => ?_
   ·refine wq rfl (qm rfl (qe rfl ?_))
    obtain rfl := sj h
    refine Ah (sm [] [(2, iD v4)] [] rfl rfl) (Ar ?_)
    exact ⟨⟨[_], tm, rfl⟩, tv⟩
   ·refine Al (Ai As rfl (AT rfl (qm rfl (Ad ?_))))
    exact sn [] h
  ·refine AS ?_
   exact sn [] h
 ·refine Ah hs (wq rfl (qm rfl (qe rfl ?_)))
  obtain rfl := sj h
  refine Ah (sm [] [(2, iD 0)] [] rfl rfl) (Ar ?_)
  exact ⟨⟨[_], tm, rfl⟩, tv⟩
theorem ON (N : Nat) (p0 : Aa) (p1 : Aa) (r : Int) (h : Hv N p0 p1 = some r) : Au Tryz.prog 39 [.e (.agg (D9 p0)), .e (.agg (D9 p1))] [] (iD r) := by
 unfold Hv at h
 refine cw (n := 22) (rs := [.tmp 4]) Tryz.func39 fun w0 S0 => ?_
 refine wq rfl (qb rfl (qb rfl (qa rfl (Ad (wq rfl (qf Td rfl (ql CN rfl (qf Td rfl (ql CN rfl ?_)))))))))
 refine BM h fun v1 a1 h => Az [] (Jg N p0.fX p1.fX v1 a1) bu rfl (qf SN rfl (ql CN rfl (qf SN rfl (ql CN rfl ?_))))
 refine BM h fun v2 a2 h => Az [] (Jg N p0.fW p1.fW v2 a2) bu rfl (qf S6 rfl (ql CN rfl (qf S6 rfl (ql CN rfl ?_))))
 refine BM h fun v3 a3 h => Az [] (Jg N p0.fV p1.fV v3 a3) bu rfl (Fg AD Ep LG rfl ?_)
 refine BM h fun v4 a4 h => Fi [] [20] (Ta N (([v1, v2, v3] : List Int)) v4 a4) fi Dh rfl (qa rfl (AE (by kernel_rfl) ?_))
 obtain rfl := sj h
 refine Ah (sm [] [(4, iD v4)] [] rfl rfl) (Ar ?_)
 exact ⟨⟨[_], tm, rfl⟩, tv⟩
theorem Hy (N : Nat) (p0 : List Aa) (r : Nat × (List Aa)) (h : DG N p0 = some r) : B2 Tryz.prog 40 [oD (.own 90000)] [(.vec 3 (p0.map Ab), .vec 3 (r.2.map Ab))] [] (oD (.view 90000 3 0 r.1)) := by
 unfold DG at h
 refine Bn (n := 61) (rs := [.tmp 2]) Tryz.func40 rfl rfl rfl (DY rfl) (DY rfl) rfl rfl (DY rfl) rfl (DY rfl) fun w0 S0 GL => ?_
 refine Ah (sm [] [(0, oD (.own 90000))] [(90000, .vec 3 (p0.map Ab))] rfl rfl) (wq rfl (qa rfl (Ad (wp rfl (qm rfl (DV AQ rfl (AX rfl (Ad ?_))))))))
 refine A9 h (fun h => ?_) fun h => ?_
 ·refine wq rfl (qm rfl (qe rfl ?_))
  obtain rfl := sj h
  refine Ah ((PT Ab p0 2 90000 3 rfl rfl).trans (sm [] [(2, oD (.view 90000 3 0 p0.length))] [(90000, .vec 3 (p0.map Ab))] rfl rfl)) (Ar ?_)
  exact ⟨⟨[_], tm, rfl⟩, ⟨rfl, tv⟩, tv⟩
 ·refine Al (wp rfl (qe rfl ?_))
  refine Ax (L := B3 N p0) h (fun v2 => mk [(0, oD (.own 90000)), (3, iD v2)] [(90000, .vec 3 (p0.map Ab))]) (fun v3 => mk [(0, oD (.own 90000))] [(90000, .vec 3 (p0.map Ab))]) (fun _ _ => rfl) (sm [] _ _ rfl rfl) (fun j2 n2 v2 h => ?_) (fun v3 s h hs => ?_)
  ·unfold B3 at h
   refine wp rfl (qw 2 rfl (DV AQ rfl (AX rfl (Ad ?_))))
   refine A9 h (fun h => ?_) fun h => ?_
   ·refine Al (AN (AG (wq rfl (qw 2 rfl ?_))))
    refine Bc h fun v5 a5 b5 h => qI AQ AM a5 (Ae b5) rfl (qJ CY AM (Ae b5) rfl (qw 2 rfl (DA rfl ?_)))
    refine Bc h fun v6 a6 b6 h => qI AQ AM a6 (Ae b6) rfl (qJ CY AM (Ae b6) rfl ?_)
    refine TF [.int .i64 v5.fX, .int .i64 v5.fW, .int .i64 v5.fV] [.int .i64 v6.fX, .int .i64 v6.fW, .int .i64 v6.fV] (.p rfl) rfl rfl RQ rfl ?_
    refine AE (by kernel_rfl) ?_
    refine A9 h (fun h => ?_) fun h => ?_
    ·refine wq rfl (qw 2 rfl ?_)
     obtain ⟨c8, h⟩ := FT h
     have w9 : ((v2).toNat) + ((p0.length - (v2).toNat)) ≤ p0.length := by have := c8.2.1; have := c8.2.2; omega
     refine Iz Ab p0 (.p rfl) rfl (It Ab _ _ p0) rfl AQ AM (.some _ _ _ _ c8.1) (.none _) ⟨rfl, tv⟩ tv c8.2.1 (by rw [Nat.zero_add]; exact c8.2.2) (Nat.zero_add _) rfl ?_
     refine qa rfl (Ad (wp rfl (qe rfl ?_)))
     refine Ax (L := BY N p0 v2) h (fun v10 => mk [(0, oD (.own 90000)), (3, iD v10.2.1), (4, oD (.view 90000 3 ((v2).toNat) ((p0.length - (v2).toNat)))), (5, iD v10.2.2)] [(90000, .vec 3 (v10.1.map Ab))]) (fun v11 => mk [(0, oD (.own 90000)), (3, iD v11.2)] [(90000, .vec 3 (v11.1.map Ab))]) (fun _ _ => rfl) (sm [] _ _ rfl rfl) (fun j10 n10 v10 h => ?_) (fun v11 s h hs => ?_)
     ·unfold BY at h
      refine wp rfl (qw 2 rfl ?_)
      refine Ww (.p rfl) rfl AQ ?_
      refine AX rfl (Ad ?_)
      refine A9 h (fun h => ?_) fun h => ?_
      ·refine Al ?_
       refine AP h (fun v13 => mk [(0, oD (.own 90000)), (3, iD v13.2), (4, oD (.view 90000 3 ((v2).toNat) ((p0.length - (v2).toNat)))), (5, iD v10.2.2)] [(90000, .vec 3 (v13.1.map Ab))]) (fun j13 h => ?_) (fun v13 h => ?_)
       ·refine AG (wq rfl (qw 2 rfl ?_))
        refine GK h fun c15 h => Bc h fun v14 a14 b14 h => Pk Ab v10.1 (.p rfl) rfl c15 rfl rfl AQ AM a14 (LC b14).1 rfl ?_
        refine On (.p rfl) rfl CY AM rfl (Ae (LC b14).2) ?_
        refine qw 2 rfl (DA rfl ?_)
        refine Bc h fun v16 a16 b16 h => Pk Ab v10.1 (.p rfl) rfl c15 rfl rfl AQ AM a16 (LC b16).1 rfl ?_
        refine On (.p rfl) rfl CY AM rfl (Ae (LC b16).2) ?_
        refine dn [.int .i64 v14.fX, .int .i64 v14.fW, .int .i64 v14.fV] [.int .i64 v16.fX, .int .i64 v16.fW, .int .i64 v16.fV] (.p rfl) rfl rfl RQ rfl ?_
        refine AE (by kernel_rfl) ?_
        refine A9 h (fun h => ?_) fun h => ?_
        ·refine wq rfl (qw 4 rfl ?_)
         refine Bc h fun v18 a18 b18 h => Pk Ab v10.1 (.p rfl) rfl c15 rfl rfl AQ AM a18 (LC b18).1 rfl ?_
         refine On (.p rfl) rfl CY AM rfl (Ae (LC b18).2) ?_
         refine Bc h fun v19 a19 b19 h => qI AQ AM a19 (Ae b19) rfl ?_
         refine Ba rfl rfl rfl rfl (Ae b19) rfl AM rfl (DY rfl) (A2 Ab v10.1 _ v18) ?_
         refine Ad (Ai As rfl (qm rfl (AT rfl (qe rfl ?_))))
         exact sn [] h
        ·refine Al ?_
         exact sn [] h
       ·refine Ai As rfl (qm rfl (AT rfl (qe rfl ?_)))
        exact sn [] h
      ·refine AS ?_
       exact sn [] h
     ·refine Ah hs (wq rfl (qw 2 rfl ?_))
      obtain ⟨c20, h⟩ := FT h
      have w21 : ((v11.2).toNat) + ((v11.1.length - (v11.2).toNat)) ≤ v11.1.length := by have := c20.2.1; have := c20.2.2; omega
      refine Iz Ab v11.1 (.p rfl) rfl (It Ab _ _ v11.1) rfl AQ AM (.some _ _ _ _ c20.1) (.none _) ⟨rfl, tv⟩ tv c20.2.1 (by rw [Nat.zero_add]; exact c20.2.2) (Nat.zero_add _) rfl ?_
      have w22 : (HP v11.1 ((v11.2).toNat) (List.replicate ((v11.1.length - (v11.2).toNat)) ((Aa.mk 0 0 0)))).length = v11.1.length := Hw (by rw [List.length_replicate]; exact w21)
      refine Q2 Ab v11.1 ((Aa.mk 0 0 0)) rfl rfl (Km Ab _ _ ((v11.2).toNat) ((v11.1.length - (v11.2).toNat)) v11.1 w21) rfl AQ GP rfl rfl rfl rfl ?_
      refine Ad (wq rfl (qw 2 rfl ?_))
      obtain ⟨c23, h⟩ := FT h
      have w24 : 0 + ((v11.2).toNat) ≤ (HP v11.1 ((v11.2).toNat) (List.replicate ((v11.1.length - (v11.2).toNat)) ((Aa.mk 0 0 0)))).length := by have := c23.2.1; have := c23.2.2; omega
      refine Iz Ab (HP v11.1 ((v11.2).toNat) (List.replicate ((v11.1.length - (v11.2).toNat)) ((Aa.mk 0 0 0)))) (.p rfl) rfl (It Ab _ _ (HP v11.1 ((v11.2).toNat) (List.replicate ((v11.1.length - (v11.2).toNat)) ((Aa.mk 0 0 0))))) rfl AQ AM (.none _) (.some _ _ _ _ c23.1) tv ⟨rfl, tv⟩ c23.2.1 (by rw [Nat.zero_add]; exact c23.2.2) (Nat.zero_add _) rfl ?_
      refine qa rfl (Ad ?_)
      obtain rfl := sj h
      refine Ah (sm [] [(2, oD (.view 90000 3 0 ((v11.2).toNat)))] [(90000, .vec 3 ((HP v11.1 ((v11.2).toNat) (List.replicate ((v11.1.length - (v11.2).toNat)) ((Aa.mk 0 0 0)))).map Ab))] rfl rfl) (Ar ?_)
      exact ⟨⟨[_], tm, rfl⟩, ⟨rfl, tv⟩, tv⟩
    ·refine Al (Ai As rfl (qm rfl (AT rfl (qe rfl ?_))))
     exact sn [] h
   ·refine AS ?_
    exact sn [] h
  ·refine Ah hs (wq rfl (qm rfl (qe rfl ?_)))
   obtain rfl := sj h
   refine Ah ((PT Ab p0 2 90000 3 rfl rfl).trans (sm [] [(2, oD (.view 90000 3 0 p0.length))] [(90000, .vec 3 (p0.map Ab))] rfl rfl)) (Ar ?_)
   exact ⟨⟨[_], tm, rfl⟩, ⟨rfl, tv⟩, tv⟩
theorem Fv (N : Nat) (p0 : List Aa) (p1 : Int) (p2 : Int) (r : Nat × (List Aa)) (h : Bm N p0 p1 p2 = some r) : B2 Tryz.prog 25 [oD (.own 90000), iD p1, iD p2] [(.vec 3 (p0.map Ab), .vec 3 (r.2.map Ab))] [] (oD (.view 90000 3 0 r.1)) := by
 unfold Bm at h
 refine Bn (n := 33) (rs := [.tmp 6]) Tryz.func25 rfl rfl rfl (DY rfl) (DY rfl) rfl rfl (DY rfl) rfl (DY rfl) fun w0 S0 GL => ?_
 refine Ah (sm [] [(0, oD (.own 90000)), (1, iD p1), (2, iD p2)] [(90000, .vec 3 (p0.map Ab))] rfl rfl) (wq rfl (qa rfl (Ad (wq rfl (qw 4 rfl (DV AQ rfl ?_))))))
 refine GK h fun c1 h => XS (.p rfl) rfl rfl AQ AM rfl rfl rfl c1.1 c1.2.1 c1.2.2.1 c1.2.2.2.1 c1.2.2.2.2.1 (by rw [List.length_map]; exact c1.2.2.2.2.2) ?_
 refine Ad (wp rfl (qw 2 rfl (BZ rfl (Ad ?_))))
 refine A9 h (fun h => ?_) fun h => ?_
 ·refine wq rfl (qm rfl (qe rfl ?_))
  obtain rfl := sj h
  refine Ah ((PT Ab p0 6 90000 3 rfl rfl).trans (sm [] [(6, oD (.view 90000 3 0 p0.length))] [(90000, .vec 3 (p0.map Ab))] rfl rfl)) (Ar ?_)
  exact ⟨⟨[_], tm, rfl⟩, ⟨rfl, tv⟩, tv⟩
 ·refine Al (wq rfl (qm rfl (DV AQ rfl (qa rfl (Ad (wq rfl (qw 2 rfl ?_)))))))
  obtain ⟨c3, h⟩ := FT h
  have w4 : 0 + ((p1).toNat) ≤ p0.length := by have := c3.2.1; have := c3.2.2; omega
  refine Iz Ab p0 (.p rfl) rfl (It Ab _ _ p0) rfl AQ AM (.none _) (.some _ _ _ _ c3.1) tv ⟨rfl, tv⟩ c3.2.1 (by rw [Nat.zero_add]; exact c3.2.2) (Nat.zero_add _) rfl ?_
  refine qw 2 rfl ?_
  obtain ⟨c5, h⟩ := FT h
  have w6 : ((p2).toNat) + ((p0.length - (p2).toNat)) ≤ p0.length := by have := c5.2.1; have := c5.2.2; omega
  refine Iz Ab p0 (.p rfl) rfl (It Ab _ _ p0) rfl AQ AM (.some _ _ _ _ c5.1) (.none _) ⟨rfl, tv⟩ tv c5.2.1 (by rw [Nat.zero_add]; exact c5.2.2) (Nat.zero_add _) rfl ?_
  obtain ⟨c7, h⟩ := FT h
  have w9f : 0 + ((p1).toNat) + (((p0.drop ((p2).toNat)).take ((p0.length - (p2).toNat)))).length ≤ p0.length := by have := c7; omega
  have w8 : (HP p0 (0 + ((p1).toNat)) (((p0.drop ((p2).toNat)).take ((p0.length - (p2).toNat))))).length = p0.length := Hw w9f
  have w9 : 0 + ((p1).toNat + (((p0.drop ((p2).toNat)).take ((p0.length - (p2).toNat)))).length) ≤ (HP p0 (0 + ((p1).toNat)) (((p0.drop ((p2).toNat)).take ((p0.length - (p2).toNat))))).length := by rw [w8]; have := c7; omega
  refine VB Ab p0 (((p0.drop ((p2).toNat)).take ((p0.length - (p2).toNat)))) (.p rfl) rfl (Km Ab _ _ 0 ((p1).toNat) p0 w4) rfl rfl (Sb Ab _ _ ((p2).toNat) ((p0.length - (p2).toNat)) p0 w6) ⟨rfl, tv⟩ AQ AQ AM w9f rfl ?_
  refine qa rfl (AE (by kernel_rfl) (wq rfl (qw 2 rfl ?_)))
  refine Ww (.p rfl) rfl AQ ?_
  refine qm rfl ?_
  obtain ⟨c10, h⟩ := FT h
  have w11 : (((((((p1).toNat + (((p0.drop ((p2).toNat)).take ((p0.length - (p2).toNat)))).length)) : Nat) : Int)).toNat) + ((((p0.length : Int)).toNat - ((((((p1).toNat + (((p0.drop ((p2).toNat)).take ((p0.length - (p2).toNat)))).length)) : Nat) : Int)).toNat)) ≤ (HP p0 (0 + ((p1).toNat)) (((p0.drop ((p2).toNat)).take ((p0.length - (p2).toNat))))).length := by have := c10.2.2.1; have := c10.2.2.2; omega
  refine Iz Ab (HP p0 (0 + ((p1).toNat)) (((p0.drop ((p2).toNat)).take ((p0.length - (p2).toNat))))) (.p rfl) rfl (Km Ab _ _ 0 (((p1).toNat + (((p0.drop ((p2).toNat)).take ((p0.length - (p2).toNat)))).length)) (HP p0 (0 + ((p1).toNat)) (((p0.drop ((p2).toNat)).take ((p0.length - (p2).toNat))))) w9) rfl AQ AM (.some _ _ _ _ c10.1) (.some _ _ _ _ c10.2.1) ⟨rfl, tv⟩ ⟨rfl, tv⟩ c10.2.2.1 (by rw [Nat.zero_add]; exact c10.2.2.2) (Nat.zero_add _) rfl ?_
  have w12 : (HP (HP p0 (0 + ((p1).toNat)) (((p0.drop ((p2).toNat)).take ((p0.length - (p2).toNat))))) (((((((p1).toNat + (((p0.drop ((p2).toNat)).take ((p0.length - (p2).toNat)))).length)) : Nat) : Int)).toNat) (List.replicate ((((p0.length : Int)).toNat - ((((((p1).toNat + (((p0.drop ((p2).toNat)).take ((p0.length - (p2).toNat)))).length)) : Nat) : Int)).toNat)) ((Aa.mk 0 0 0)))).length = (HP p0 (0 + ((p1).toNat)) (((p0.drop ((p2).toNat)).take ((p0.length - (p2).toNat))))).length := Hw (by rw [List.length_replicate]; exact w11)
  refine Q2 Ab (HP p0 (0 + ((p1).toNat)) (((p0.drop ((p2).toNat)).take ((p0.length - (p2).toNat))))) ((Aa.mk 0 0 0)) rfl rfl (Km Ab _ _ (((((((p1).toNat + (((p0.drop ((p2).toNat)).take ((p0.length - (p2).toNat)))).length)) : Nat) : Int)).toNat) ((((p0.length : Int)).toNat - ((((((p1).toNat + (((p0.drop ((p2).toNat)).take ((p0.length - (p2).toNat)))).length)) : Nat) : Int)).toNat)) (HP p0 (0 + ((p1).toNat)) (((p0.drop ((p2).toNat)).take ((p0.length - (p2).toNat))))) w11) rfl AQ GP rfl rfl rfl rfl ?_
  refine Ad (wq rfl (qm rfl (qe rfl ?_)))
  obtain rfl := sj h
  refine Ah (sm [] [(6, oD (.view 90000 3 0 (((p1).toNat + (((p0.drop ((p2).toNat)).take ((p0.length - (p2).toNat)))).length))))] [(90000, .vec 3 ((HP (HP p0 (0 + ((p1).toNat)) (((p0.drop ((p2).toNat)).take ((p0.length - (p2).toNat))))) (((((((p1).toNat + (((p0.drop ((p2).toNat)).take ((p0.length - (p2).toNat)))).length)) : Nat) : Int)).toNat) (List.replicate ((((p0.length : Int)).toNat - ((((((p1).toNat + (((p0.drop ((p2).toNat)).take ((p0.length - (p2).toNat)))).length)) : Nat) : Int)).toNat)) ((Aa.mk 0 0 0)))).map Ab))] rfl rfl) (Ar ?_)
  exact ⟨⟨[_], tm, rfl⟩, ⟨rfl, tv⟩, tv⟩
theorem OV (N : Nat) (p0 : Ac) (p1 : List Aa) (r : Bool × Int) (h : IH N p0 p1 = some r) : Au Tryz.prog 14 [.e (.agg (Aj p0)), pD (.sl (p1.map Ab))] [] (.tup [.one (.pure (.val (.bool r.1))), .one (iC r.2)]) := by
 unfold IH at h
 refine cw (n := 69) (rs := [.tmp 4, .tmp 5]) Tryz.func14 fun w0 S0 => ?_
 refine wq rfl (qb rfl (qa rfl (qa rfl (Ad (wp rfl (qL Db Cb rfl (qm rfl ?_)))))))
 refine BM h fun v1 a1 h => Az [] (L6 N p0 p1 v1 a1) dT rfl (qa rfl (Ad (wq rfl (qm rfl (Cf rfl (Ad ?_))))))
 refine A9 h (fun h => ?_) fun h => ?_
 ·refine wq rfl (qm rfl (qa rfl (qe rfl ?_)))
  obtain rfl := sj h
  refine Ah (sm [] [(4, bD false), (5, iD v1)] [] rfl rfl) (Ar ?_)
  exact ⟨⟨[_, _], ⟨.tmp _ _ rfl, tm⟩, rfl⟩, tv⟩
 ·refine Al (wq rfl (qm rfl ?_))
  refine BM h fun v3 a3 h => Az [2001] (DZ N p1 v3 a3) bC rfl (qa rfl (Ad (wq rfl (qm rfl ?_))))
  refine BM h fun v4 a4 h => DP (ds0 := [_, _]) [2001] [] [true] (B2.weak (ds' := [_, oD (.fnc 39)]) (Hp N v3 ((fun (x : Aa × Aa) => Hv N x.1 x.2)) v4 a4) ⟨(fun _ _ _ hh => hh), (fun _ _ _ hh => Xx fa (fun ar t ht => by obtain ⟨x, r, rfl, hq, rfl⟩ := LF ht; exact ON N x.1 x.2 r hq) hh), tv⟩) (.p rfl) fu rfl ⟨rfl, rfl, tv⟩ rfl rfl (by decide) ⟨rfl, tv⟩ rfl (Bf rfl) tv ⟨(fun h => by cases h), tv⟩ rfl rfl rfl ?_
  refine Ad (wq rfl (qm rfl ?_))
  obtain ⟨v5, a5, h⟩ := bind_some h
  obtain ⟨c6, h⟩ := FT h
  have w7 : 0 + v5.1 ≤ v5.2.length := by rw [Nat.zero_add]; exact c6
  refine DP (ds0 := [_]) [2001] [] [true] (Hy N v4 v5 a5) (.p rfl) eu rfl ⟨rfl, tv⟩ rfl rfl (by decide) ⟨rfl, tv⟩ rfl (Bf rfl) tv ⟨(fun h => by cases h), tv⟩ rfl rfl rfl ?_
  refine EQ (Vt Ab v5.2 24 2001 2002 3 v5.1 rfl rfl rfl rfl rfl c6) (qa rfl (Ad (AN ?_)))
  refine AP h (fun v8 => mk [(2, oD (.ptr 2 0)), (7, oD (.own 2003)), (33, bD v8)] [(2, .box (Aj p0)), (2003, .vec 3 ((v5.2.take v5.1).map Ab))]) (fun j8 h => ?_) (fun v8 h => ?_)
  ·refine Ai As rfl (qL Db Cb rfl ?_)
   refine BM h fun v9 a9 h => Az [2004] (Jj N p0 v9 a9) bK rfl (DV AQ rfl (Gx rfl (qm rfl ?_)))
   refine E8 29 h rfl (fun h => ?_) fun h => ?_
   ·refine qw 3 rfl (qp rfl (Ad ?_))
    exact sn [(2003, 2002)] h
   ·refine qm rfl (DV AQ rfl (Gx rfl (qp rfl (Ad ?_))))
    exact sn [(2003, 2002)] h
  ·refine A9 h (fun h => ?_) fun h => ?_
   ·refine wq rfl (qa rfl (qe rfl ?_))
    obtain rfl := sj h
    refine Ah (sm [] [(4, bD false), (5, iD 3)] [] rfl rfl) (Ar ?_)
    exact ⟨⟨[_, _], ⟨.tmp _ _ rfl, tm⟩, rfl⟩, tv⟩
   ·refine Al (wq rfl (qL Db Cb rfl (qm rfl ?_)))
    refine BM h fun v12 a12 h => Fi [] [2003] (Jo N p0 (v5.2.take v5.1) v12 a12) ce Dh rfl (qm rfl (qx rfl (qx rfl (qa rfl (qa rfl (Ad (wp rfl (qm rfl (Cf rfl (Ad ?_))))))))))
    refine A9 h (fun h => ?_) fun h => ?_
    ·refine wq rfl (qm rfl (qa rfl (qe rfl ?_)))
     obtain rfl := sj h
     refine Ah (sm [] [(4, bD false), (5, iD v12.2)] [] rfl rfl) (Ar ?_)
     exact ⟨⟨[_, _], ⟨.tmp _ _ rfl, tm⟩, rfl⟩, tv⟩
    ·refine Al (wp rfl (qm rfl (DV AQ rfl (qm rfl (Ad ?_)))))
     refine Ax (L := Gl N p0 v5) h (fun v14 => mk [(2, oD (.ptr 2 0)), (7, oD (.own 2005)), (8, bD v14.1), (44, iD (((v5.2.take v5.1).length : Int))), (45, iD v14.2)] [(2, .box (Aj p0)), (2005, .vec 3 ((v5.2.take v5.1).map Ab))]) (fun v15 => mk [(8, bD v15)] []) (fun _ _ => rfl) (sm [(2005, 2003)] _ _ rfl rfl) (fun j14 n14 v14 h => ?_) (fun v15 s h hs => ?_)
     ·unfold Gl at h
      refine wq rfl (AX rfl (Ad (AN ?_)))
      refine A9 h (fun h => ?_) fun h => ?_
      ·refine Al ?_
       refine AP h (fun v17 => mk [(2, oD (.ptr 2 0)), (7, oD (.own 2006)), (8, bD v17), (44, iD (((v5.2.take v5.1).length : Int))), (45, iD v14.2)] [(2, .box (Aj p0)), (2006, .vec 3 ((v5.2.take v5.1).map Ab))]) (fun j17 h => ?_) (fun v17 h => ?_)
       ·refine AG (wq rfl (qm rfl (qa rfl (Ad (wq rfl (qL Db Cb rfl (qm rfl ?_)))))))
        refine BM h fun v18 a18 h => Fi [2007] [2005] (DZ N (v5.2.take v5.1) v18 a18) bC (Jz (fun _ => rfl) Dh) rfl (qw 2 rfl (AT rfl ?_))
        obtain ⟨v19, a19, h⟩ := bind_some h
        obtain ⟨c20, h⟩ := FT h
        have w21 : 0 + v19.1 ≤ v19.2.length := by rw [Nat.zero_add]; exact c20
        refine DP (ds0 := [_, _, _]) [2007] [] [true] (Fv N v18 v14.2 ((wI .i64 (v14.2 + 1))) v19 a19) (.p rfl) dW rfl ⟨rfl, rfl, rfl, tv⟩ rfl rfl (by decide) ⟨rfl, tv⟩ rfl (Bf rfl) tv ⟨(fun h => by cases h), tv⟩ rfl rfl rfl ?_
        refine BM h fun v22 a22 h => WH (ds0 := [_, _]) [] [(2007, _)] (Jo N p0 (((v19.2.drop 0).take v19.1)) v22 a22) (.p rfl) ce rfl ⟨rfl, rfl, tv⟩ ⟨rfl, tv⟩ (ZK (ZV w21 rfl rfl)) rfl rfl (Bf rfl) tv rfl Dh rfl ?_
        refine qm rfl (qx rfl (qx rfl (qa rfl (qa rfl (AE (by kernel_rfl) (wp rfl (qm rfl (Cf rfl (Ad ?_)))))))))
        refine A9 h (fun h => ?_) fun h => ?_
        ·refine wq rfl (qm rfl (qa rfl (qe rfl ?_)))
         obtain rfl := sj h
         refine Ah (sm [] [(4, bD false), (5, iD v22.2)] [] rfl rfl) (Ar ?_)
         exact ⟨⟨[_, _], ⟨.tmp _ _ rfl, tm⟩, rfl⟩, tv⟩
        ·refine Al (Ai As rfl (qw 2 rfl ?_))
         refine E8 63 h rfl (fun h => ?_) fun h => ?_
         ·refine qm rfl (CL rfl (qp rfl (qe rfl ?_)))
          exact sn [(2006, 2005)] h
         ·refine qw 2 rfl (qp rfl (qe rfl ?_))
          exact sn [(2006, 2005)] h
       ·refine Ai As rfl (AT rfl (qm rfl (Ad ?_)))
        exact sn [(2005, 2006)] h
      ·refine AS ?_
       exact sn [] h
     ·refine Ah hs (wq rfl (qm rfl (qa rfl (qe rfl ?_))))
      obtain rfl := sj h
      refine Ah (sm [] [(4, bD v15), (5, iD 0)] [] rfl rfl) (Ar ?_)
      exact ⟨⟨[_, _], ⟨.tmp _ _ rfl, tm⟩, rfl⟩, tv⟩
theorem PQ (N : Nat) (p0 : Ac) (r : (List Aa) × Int) (h : Ju N p0 = some r) : Au Tryz.prog 12 [.e (.agg (Aj p0))] [] (.tup [.one (sC (r.1.map Ab)), .one (iC r.2)]) := by
 unfold Ju at h
 refine cw (n := 17) (rs := [.tmp 2, .tmp 3]) Tryz.func12 fun w0 S0 => ?_
 refine wq rfl (qb rfl (qa rfl (qa rfl (Ad (wq rfl (qL Db Cb rfl ?_))))))
 refine BM h fun v1 a1 h => Az [2001] (Le N p0 v1 a1) bk rfl (qm rfl (qx rfl (qx rfl (qa rfl (qa rfl (Ad (wp rfl (qm rfl (Cf rfl (Ad ?_))))))))))
 refine A9 h (fun h => ?_) fun h => ?_
 ·refine wq rfl (qm rfl (qa rfl (qe rfl ?_)))
  obtain rfl := sj h
  refine Ah ((Ou 2 _ rfl).trans (sm [] [(2, pD (.sl ((([] : List Aa)).map Ab))), (3, iD v1.2)] [] rfl rfl)) (Ar ?_)
  exact ⟨⟨[_, _], ⟨.tmp _ _ rfl, tm⟩, rfl⟩, tv⟩
 ·refine Al (wq rfl (qm rfl ?_))
  refine Bc h fun v3 a3 b3 h => qI J2 SV a3 (Ae b3) rfl (qj ZT (Ae b3) rfl (qa rfl (qe rfl ?_)))
  obtain rfl := sj h
  refine Ah (sm [] [(2, pD (.sl (v3.map Ab))), (3, iD 0)] [] rfl rfl) (Ar ?_)
  exact ⟨⟨[_, _], ⟨.tmp _ _ rfl, tm⟩, rfl⟩, tv⟩
theorem J3 (N : Nat) (r : Bool) (h : F3 N = some r) : Au Tryz.prog 11 [] [] (bD r) := by
 unfold F3 at h
 refine cw (n := 79) (rs := [.tmp 0]) Tryz.func11 fun w0 S0 => ?_
 refine wq rfl (qa rfl (Ad (wq rfl ?_)))
 refine BM h fun v1 a1 h => Az [2001, 2002, 2003, 2004] (GF N v1 a1) ZE rfl (EQ (Br 2001 _ _ rfl rfl) (EQ (Br 2002 _ _ rfl rfl) (EQ (Br 2003 _ _ rfl rfl) (EQ (Br 2004 _ _ rfl rfl) ?_))))
 refine BM h fun v2 a2 h => Az [2005] (Le N v1 v2 a2) bk rfl (qm rfl (qx rfl (qx rfl (qa rfl (qa rfl (Ad (wq rfl ?_)))))))
 refine BM h fun v3 a3 h => Az [2006, 2007, 2008, 2009] (GF N v3 a3) ZE rfl ?_
 refine BM h fun v4 a4 h => Fi [2010] [2006, 2007, 2008, 2009] (K0 N v3 v4 a4) d8 (Jz (fun _ => rfl) Dh) rfl (qm rfl (qx rfl (qx rfl (qa rfl (qa rfl (Ad (wq rfl ?_)))))))
 refine BM h fun v5 a5 h => Az [2011, 2012, 2013, 2014] (GF N v5 a5) ZE rfl (qm rfl ?_)
 refine BM h fun v6 a6 h => Fi [] [2011, 2012, 2013, 2014, 2010] (OV N v5 v4.1 v6 a6) eU Dh rfl (qm rfl (qx rfl (qx rfl (qa rfl (qa rfl (Ad (wq rfl ?_)))))))
 refine BM h fun v7 a7 h => Az [2015, 2016, 2017, 2018] (GF N v7 a7) ZE rfl (EQ (Br 2015 _ _ rfl rfl) (EQ (Br 2016 _ _ rfl rfl) (EQ (Br 2017 _ _ rfl rfl) (EQ (Br 2018 _ _ rfl rfl) ?_))))
 refine BM h fun v8 a8 h => Az [] (PQ N v7 v8 a8) fd rfl (qm rfl (qx rfl (qx rfl (qa rfl (qa rfl (Ad (wq rfl (A6 GP M7 rfl (qz GP rfl (qs AM rfl (Ad ?_)))))))))))
 refine AP h (fun v9 => mk [(0, bD v9)] []) (fun j9 h => ?_) (fun v9 h => ?_)
 ·refine Ai As rfl (qm rfl (BZ rfl (qm rfl ?_)))
  refine E8 34 h rfl (fun h => ?_) fun h => ?_
  ·refine qm rfl (BZ rfl (qp rfl (qm rfl ?_)))
   refine E8 38 h rfl (fun h => ?_) fun h => ?_
   ·refine qm rfl (BZ rfl (qp rfl (qm rfl ?_)))
    refine E8 42 h rfl (fun h => ?_) fun h => ?_
    ·refine qm rfl (BZ rfl (qp rfl (qm rfl ?_)))
     refine E8 46 h rfl (fun h => ?_) fun h => ?_
     ·refine qm rfl (DV J2 rfl (BZ rfl (qp rfl (qm rfl ?_))))
      refine E8 51 h rfl (fun h => ?_) fun h => ?_
      ·refine qm rfl (DV AQ rfl (BZ rfl (qp rfl (qm rfl ?_))))
       refine E8 56 h rfl (fun h => ?_) fun h => ?_
       ·refine qm rfl ?_
        refine Bc h fun v16 a16 b16 h => qI AQ AM a16 (Ae b16) rfl (qJ CY AM (Ae b16) rfl (qL CY AM rfl ?_))
        refine TF [.int .i64 v16.fX, .int .i64 v16.fW, .int .i64 v16.fV] [.int .i64 0, .int .i64 0, .int .i64 1] (.g rfl rfl) rfl rfl RQ rfl ?_
        refine qp rfl (qm rfl ?_)
        refine E8 63 h rfl (fun h => ?_) fun h => ?_
        ·refine qm rfl (CL rfl (qp rfl (qm rfl ?_)))
         refine E8 67 h rfl (fun h => ?_) fun h => ?_
         ·refine qm rfl (AV AQ rfl (BZ rfl (qp rfl (qm rfl ?_))))
          refine E8 72 h rfl (fun h => ?_) fun h => ?_
          ·refine qm rfl ?_
           refine Bc h fun v20 a20 b20 h => qi AQ AM a20 (Ae b20) rfl (qK CY AM rfl (qL CY AM rfl ?_))
           refine TF [.int .i64 v20.fX, .int .i64 v20.fW, .int .i64 v20.fV] [.int .i64 0, .int .i64 0, .int .i64 1] (.g rfl rfl) rfl rfl RQ rfl ?_
           refine qp rfl (qa rfl (AE (by kernel_rfl) ?_))
           exact sn [] h
          ·refine qw 5 rfl (qp rfl (qa rfl (AE (by kernel_rfl) ?_)))
           exact sn [] h
         ·refine qw 3 rfl (qp rfl (qw 6 rfl (qp rfl (qa rfl (AE (by kernel_rfl) ?_)))))
          exact sn [] h
        ·refine qw 2 rfl (qp rfl (qw 4 rfl (qp rfl (qw 6 rfl (qp rfl (qa rfl (AE (by kernel_rfl) ?_)))))))
         exact sn [] h
       ·refine qw 5 rfl (qp rfl (qw 3 rfl (qp rfl (qw 4 rfl (qp rfl (qw 6 rfl (qp rfl (qa rfl (AE (by kernel_rfl) ?_)))))))))
        exact sn [] h
      ·refine qw 3 rfl (qp rfl (qw 6 rfl (qp rfl (qw 3 rfl (qp rfl (qw 4 rfl (qp rfl (qw 6 rfl (qp rfl (qa rfl (AE (by kernel_rfl) ?_)))))))))))
       exact sn [] h
     ·refine qw 3 rfl (qp rfl (qw 4 rfl (qp rfl (qw 6 rfl (qp rfl (qw 3 rfl (qp rfl (qw 4 rfl (qp rfl (qw 6 rfl (qp rfl (qa rfl (AE (by kernel_rfl) ?_)))))))))))))
      exact sn [] h
    ·refine qw 2 rfl (qp rfl (qw 4 rfl (qp rfl (qw 4 rfl (qp rfl (qw 6 rfl (qp rfl (qw 3 rfl (qp rfl (qw 4 rfl (qp rfl (qw 6 rfl (qp rfl (qa rfl (AE (by kernel_rfl) ?_)))))))))))))))
     exact sn [] h
   ·refine qw 2 rfl (qp rfl (qw 3 rfl (qp rfl (qw 4 rfl (qp rfl (qw 4 rfl (qp rfl (qw 6 rfl (qp rfl (qw 3 rfl (qp rfl (qw 4 rfl (qp rfl (qw 6 rfl (qp rfl ?_)))))))))))))))
    refine qa rfl (AE (by kernel_rfl) ?_)
    exact sn [] h
  ·refine qw 2 rfl (qp rfl (qw 3 rfl (qp rfl (qw 3 rfl (qp rfl (qw 4 rfl (qp rfl (qw 4 rfl (qp rfl (qw 6 rfl (qp rfl (qw 3 rfl (qp rfl (qw 4 rfl (qp rfl (qw 3 rfl ?_))))))))))))))))
   refine qw 3 rfl (qp rfl (qa rfl (AE (by kernel_rfl) ?_)))
   exact sn [] h
 ·obtain rfl := sj h
  refine Ah (sm [] [(0, bD v9)] [] rfl rfl) (Ar ?_)
  exact ⟨⟨[_], tm, rfl⟩, tv⟩
theorem QN (N : Nat) (p0 : Ac) (p1 : List Aa) (r : Ac × Int) (h : GI N p0 p1 = some r) : Au Tryz.prog 20 [.e (.agg (Aj p0)), pD (.sl (p1.map Ab))] [(1, r.1.fE.map Aq), (1, r.1.fK.map Aq), (1, r.1.fP.map Aq)] (.tup [.agg [.own 0, .own 1, .own 2, sC (r.1.fF.map AI)], .one (iC r.2)]) := by
 unfold GI at h
 refine cw (n := 17) (rs := [.cell 4 29, .tmp 5]) Tryz.func20 fun w0 S0 => ?_
 refine wq rfl (qb rfl (qz K9 rfl (qa rfl (Ad (wp rfl (qL Db Cb rfl (qm rfl ?_)))))))
 refine BM h fun v1 a1 h => Az [] (L6 N p0 p1 v1 a1) dT rfl (qa rfl (Ad (wq rfl (qm rfl (Cf rfl (Ad ?_))))))
 refine A9 h (fun h => ?_) fun h => ?_
 ·refine wq rfl (A6 K9 Vg rfl (qm rfl (qs Cb rfl (qe rfl ?_))))
  obtain rfl := sj h
  refine Ah ((Av 4 0 2001 1 _ rfl rfl rfl rfl).trans ((Av 4 1 2002 1 _ rfl rfl rfl rfl).trans ((Av 4 2 2003 1 _ rfl rfl rfl rfl).trans ((Ii 4 _ rfl).trans (sm [(1000, 2001), (1001, 2002), (1002, 2003)] [(4, oD (.ptr 4 0)), (5, iD v1)] [(4, .box [.own 1000, .own 1001, .own 1002, sC ((([] : List An)).map AI)]), (1000, .vec 1 ((([] : List Int)).map Aq)), (1001, .vec 1 ((([] : List Int)).map Aq)), (1002, .vec 1 ((([] : List Int)).map Aq))] rfl rfl))))) (Ar ?_)
  exact ⟨⟨[_, _], ⟨.cellN _ _ _ _ _ _ _ rfl rfl Db Cb rfl rfl (IL rfl), tm⟩, rfl⟩, ⟨rfl, rfl, rfl, tv⟩⟩
 ·refine Al (wq rfl (qL Db Cb rfl (qm rfl ?_)))
  refine BM h fun v3 a3 h => Az [2004, 2005, 2006] (MJ N p0 p1 v3 a3) cH rfl (qs Cb rfl (qe rfl ?_))
  obtain rfl := sj h
  refine Ah (sm [(1000, 2004), (1001, 2005), (1002, 2006)] [(4, oD (.ptr 4 0)), (5, iD 0)] [(4, .box [.own 1000, .own 1001, .own 1002, sC (v3.fF.map AI)]), (1000, .vec 1 (v3.fE.map Aq)), (1001, .vec 1 (v3.fK.map Aq)), (1002, .vec 1 (v3.fP.map Aq))] rfl rfl) (Ar ?_)
  exact ⟨⟨[_, _], ⟨.cellN _ _ _ _ _ _ _ rfl rfl Db Cb rfl rfl (IL rfl), tm⟩, rfl⟩, ⟨rfl, rfl, rfl, tv⟩⟩
theorem Mo (N : Nat) (p0 : Ac) (p1 : Af) (r : (List Af) × Int) (h : GD N p0 p1 = some r) : Au Tryz.prog 115 [.e (.agg (Aj p0)), .e (.agg (AL p1))] [(3, r.1.map Fc)] (.tup [.one (.own 0), .one (iC r.2)]) := by
 unfold GD at h
 refine cw (n := 15) (rs := [.tmp 4, .tmp 5]) Tryz.func115 fun w0 S0 => ?_
 refine wq rfl (qb rfl (qb rfl (qa rfl (qa rfl (Ad (wp rfl (qL Db Cb rfl (qL BT AY rfl ?_))))))))
 refine BM h fun v1 a1 h => Az [] (Im N p0 p1 v1 a1) Xy rfl (qa rfl (Ad (wq rfl (qm rfl (Cf rfl (Ad ?_))))))
 refine A9 h (fun h => ?_) fun h => ?_
 ·refine wq rfl (qm rfl (qa rfl (qe rfl ?_)))
  obtain rfl := sj h
  refine Ah ((Bl 4 2001 3 rfl rfl rfl).trans (sm [(1000, 2001)] [(4, oD (.own 1000)), (5, iD v1)] [(1000, .vec 3 ((([] : List Af)).map Fc))] rfl rfl)) (Ar ?_)
  exact ⟨⟨[_, _], ⟨.tmp _ _ rfl, tm⟩, rfl⟩, ⟨rfl, tv⟩⟩
 ·refine Al (wq rfl (qL BT AY rfl ?_))
  refine BM h fun v3 a3 h => Az [2002] (KR N p1 v3 a3) ao rfl (qa rfl (qe rfl ?_))
  obtain rfl := sj h
  refine Ah (sm [(1000, 2002)] [(4, oD (.own 1000)), (5, iD 0)] [(1000, .vec 3 (v3.map Fc))] rfl rfl) (Ar ?_)
  exact ⟨⟨[_, _], ⟨.tmp _ _ rfl, tm⟩, rfl⟩, ⟨rfl, tv⟩⟩
theorem Nb (N : Nat) (p0 : Ac) (p1 : Af) (r : Af × Aa × Int) (h : FW N p0 p1 = some r) : Au Tryz.prog 80 [.e (.agg (Aj p0)), .e (.agg (AL p1))] [] (.tup [.agg (AL r.1), .agg (D9 r.2.1), .one (iC r.2.2)]) := by
 unfold FW at h
 refine cw (n := 46) (rs := [.cell 4 64, .cell 5 45, .tmp 6]) Tryz.func80 fun w0 S0 => ?_
 refine wq rfl (qb rfl (qb rfl (qz EJ rfl (qz GP rfl (qa rfl (Ad (wq rfl (qL Db Cb rfl (qL BT AY rfl ?_)))))))))
 refine BM h fun v1 a1 h => Az [2001] (Mo N p0 p1 v1 a1) dP rfl (qm rfl (qx rfl (qx rfl (qa rfl (qa rfl (Ad (wp rfl (qm rfl (Cf rfl (Ad ?_))))))))))
 refine A9 h (fun h => ?_) fun h => ?_
 ·refine wq rfl (A6 EJ IZ rfl (A6 GP M7 rfl (qm rfl (qs AY rfl (qs AM rfl (qe rfl ?_))))))
  obtain rfl := sj h
  refine Ah ((Ii 4 _ rfl).trans (sm [] [(4, oD (.ptr 4 0)), (5, oD (.ptr 5 0)), (6, iD v1.2)] [(4, .box [sC ((([] : List Int)).map Aq), sC ((([] : List Int)).map Aq), sC ((([] : List Int)).map Ex)]), (5, .box [iC 0, iC 0, iC 0])] rfl rfl)) (Ar ?_)
  exact ⟨⟨[_, _, _], ⟨.cellN _ _ _ _ _ _ _ rfl rfl BT AY rfl rfl (IL rfl), ⟨.cellN _ _ _ _ _ _ _ rfl rfl CY AM rfl rfl (IL rfl), tm⟩⟩, rfl⟩, tv⟩
 ·refine Al (wp rfl (qe rfl ?_))
  refine Ax (L := Dv N p0 v1) h (fun v3 => mk [(2, oD (.ptr 2 0)), (4, oD (.ptr 4 0)), (5, oD (.ptr 5 0)), (7, oD (.own 2002)), (9, iD v3)] [(2, .box (Aj p0)), (4, .box [.pure (.nil0), .pure (.nil0), .pure (.nil0)]), (5, .box [iC 0, iC 0, iC 0]), (2002, .vec 3 (v1.1.map Fc))]) (fun v4 => mk [(4, oD (.ptr 4 0)), (5, oD (.ptr 5 0))] [(4, .box [.pure (.nil0), .pure (.nil0), .pure (.nil0)]), (5, .box [iC 0, iC 0, iC 0])]) (fun _ _ => rfl) (sm [(2002, 2001)] _ _ rfl rfl) (fun j3 n3 v3 h => ?_) (fun v4 s h hs => ?_)
  ·unfold Dv at h
   refine wp rfl (qw 2 rfl (DV Jx rfl (AX rfl (Ad ?_))))
   refine A9 h (fun h => ?_) fun h => ?_
   ·refine Al (AN (AG (wq rfl (qL Db Cb rfl (qw 2 rfl ?_)))))
    refine Bc h fun v6 a6 b6 h => qI Jx AY a6 (Ae b6) rfl (qJ BT AY (Ae b6) rfl ?_)
    refine BM h fun v7 a7 h => Az [2003] (J5 N p0 v6 v7 a7) ap rfl (qa rfl (AE (by kernel_rfl) (wq rfl (qm rfl (DV AQ rfl (Gx rfl (Ad ?_)))))))
    refine A9 h (fun h => ?_) fun h => ?_
    ·refine wq rfl (qw 2 rfl ?_)
     refine Bc h fun v9 a9 b9 h => qI Jx AY a9 (Ae b9) rfl (qJ BT AY (Ae b9) rfl (qm rfl ?_))
     refine Bc h fun v10 a10 b10 h => qI AQ AM a10 (Ae b10) rfl (qJ CY AM (Ae b10) rfl (qs AY rfl (qs AM rfl (qa rfl (AE (by kernel_rfl) ?_)))))
     obtain rfl := sj h
     refine Ah (sm [] [(4, oD (.ptr 4 0)), (5, oD (.ptr 5 0)), (6, iD 0)] [(4, .box (AL v9)), (5, .box (D9 v10))] rfl rfl) (Ar ?_)
     exact ⟨⟨[_, _, _], ⟨.cellN _ _ _ _ _ _ _ rfl rfl BT AY rfl rfl (IL rfl), ⟨.cellN _ _ _ _ _ _ _ rfl rfl CY AM rfl rfl (IL rfl), tm⟩⟩, rfl⟩, tv⟩
    ·refine Al (Ai As rfl (qm rfl (AT rfl (qe rfl ?_))))
     exact sn [] h
   ·refine AS ?_
    exact sn [] h
  ·refine Ah hs (wq rfl (A6 EJ IZ rfl (A6 GP M7 rfl (qs AY rfl (qs AM rfl (qe rfl ?_))))))
   obtain rfl := sj h
   refine Ah ((Ii 4 _ rfl).trans (sm [] [(4, oD (.ptr 4 0)), (5, oD (.ptr 5 0)), (6, iD 15)] [(4, .box [sC ((([] : List Int)).map Aq), sC ((([] : List Int)).map Aq), sC ((([] : List Int)).map Ex)]), (5, .box [iC 0, iC 0, iC 0])] rfl rfl)) (Ar ?_)
   exact ⟨⟨[_, _, _], ⟨.cellN _ _ _ _ _ _ _ rfl rfl BT AY rfl rfl (IL rfl), ⟨.cellN _ _ _ _ _ _ _ rfl rfl CY AM rfl rfl (IL rfl), tm⟩⟩, rfl⟩, tv⟩
theorem NQ (N : Nat) (p0 : Ac) (p1 : Af) (r : Bool) (h : Fp N p0 p1 = some r) : Au Tryz.prog 81 [.e (.agg (Aj p0)), .e (.agg (AL p1))] [] (bD r) := by
 unfold Fp at h
 refine cw (n := 36) (rs := [.tmp 4]) Tryz.func81 fun w0 S0 => ?_
 refine wq rfl (qb rfl (qb rfl (qa rfl (Ad (wp rfl (qL Db Cb rfl (qL BT AY rfl ?_)))))))
 refine BM h fun v1 a1 h => Az [] (Im N p0 p1 v1 a1) Xy rfl (Cf rfl (Ad ?_))
 refine A9 h (fun h => ?_) fun h => ?_
 ·refine wq rfl (qe rfl ?_)
  obtain rfl := sj h
  refine Ah (sm [] [(4, bD false)] [] rfl rfl) (Ar ?_)
  exact ⟨⟨[_], tm, rfl⟩, tv⟩
 ·refine Al (wp rfl (qe rfl ?_))
  refine Ax (L := DO N p0 p1) h (fun v3 => mk [(2, oD (.ptr 2 0)), (3, oD (.ptr 3 0)), (5, iD v3)] [(2, .box (Aj p0)), (3, .box (AL p1))]) (fun v4 => mk [] []) (fun _ _ => rfl) (sm [] _ _ rfl rfl) (fun j3 n3 v3 h => ?_) (fun v4 s h hs => ?_)
  ·unfold DO at h
   refine wp rfl (qm rfl (qf DR rfl (ql Bg rfl (AV AD rfl (AX rfl (Ad ?_))))))
   refine A9 h (fun h => ?_) fun h => ?_
   ·refine Al (AN (AG ?_))
    refine AP h (fun v6 => mk [(2, oD (.ptr 2 0)), (3, oD (.ptr 3 0)), (5, iD v3), (35, bD v6)] [(2, .box (Aj p0)), (3, .box (AL p1))]) (fun j6 h => ?_) (fun v6 h => ?_)
    ·refine Ai As rfl (qf B7 rfl (ql Bg rfl (qm rfl ?_)))
     refine Bc h fun v7 a7 b7 h => qi AD Ep a7 (Ae b7) rfl (qk CN rfl (D4 rfl (qm rfl ?_)))
     refine E8 23 h rfl (fun h => ?_) fun h => ?_
     ·refine qw 11 rfl (qp rfl (AE (by kernel_rfl) ?_))
      exact sn [] h
     ·refine qf DR rfl (ql Bg rfl (qm rfl ?_))
      refine Bc h fun v9 a9 b9 h => qi AD Ep a9 (Ae b9) rfl (qk CN rfl (qf I6 rfl (ql Bg rfl (qm rfl ?_))))
      refine Bc h fun v10 a10 b10 h => qi AD Ep a10 (Ae b10) rfl (qk CN rfl (Cf rfl (qp rfl (AE (by kernel_rfl) ?_))))
      exact sn [] h
    ·refine A9 h (fun h => ?_) fun h => ?_
     ·refine wq rfl (qe rfl ?_)
      obtain rfl := sj h
      refine Ah (sm [] [(4, bD false)] [] rfl rfl) (Ar ?_)
      exact ⟨⟨[_], tm, rfl⟩, tv⟩
     ·refine Al (Ai As rfl (qm rfl (AT rfl (qe rfl ?_))))
      exact sn [] h
   ·refine AS ?_
    exact sn [] h
  ·refine Ah hs (wq rfl (qe rfl ?_))
   obtain rfl := sj h
   refine Ah (sm [] [(4, bD true)] [] rfl rfl) (Ar ?_)
   exact ⟨⟨[_], tm, rfl⟩, tv⟩
theorem Md (N : Nat) (p0 : Ac) (p1 : List Ag) (r : Int × Af × Aa × Int) (h : Fl N p0 p1 = some r) : Au Tryz.prog 52 [.e (.agg (Aj p0)), pD (.sl (p1.map AJ))] [] (.tup [.one (iC r.1), .agg (AL r.2.1), .agg (D9 r.2.2.1), .one (iC r.2.2.2)]) := by
 unfold Fl at h
 refine cw (n := 80) (rs := [.tmp 4, .cell 5 64, .cell 6 45, .tmp 7]) Tryz.func52 fun w0 S0 => ?_
 refine wq rfl (qb rfl (qa rfl (qz EJ rfl (qz GP rfl (qa rfl (Ad (wq rfl (qL Db Cb rfl ?_))))))))
 refine BM h fun v1 a1 h => Az [2001, 2002, 2003] (JZ N p0 v1 a1) cV rfl (qm rfl (qx rfl (qx rfl (qz EJ rfl (qs AY rfl (qa rfl (Ad (wp rfl (qm rfl (Cf rfl (Ad ?_)))))))))))
 refine A9 h (fun h => ?_) fun h => ?_
 ·refine wq rfl (A6 EJ IZ rfl (A6 GP M7 rfl (qm rfl (qa rfl (qs AY rfl (qs AM rfl (qe rfl ?_)))))))
  obtain rfl := sj h
  refine Ah ((Ii 5 _ rfl).trans (sm [] [(4, iD 0), (5, oD (.ptr 5 0)), (6, oD (.ptr 6 0)), (7, iD v1.2)] [(5, .box [sC ((([] : List Int)).map Aq), sC ((([] : List Int)).map Aq), sC ((([] : List Int)).map Ex)]), (6, .box [iC 0, iC 0, iC 0])] rfl rfl)) (Ar ?_)
  exact ⟨⟨[_, _, _, _], ⟨.tmp _ _ rfl, ⟨.cellN _ _ _ _ _ _ _ rfl rfl BT AY rfl rfl (IL rfl), ⟨.cellN _ _ _ _ _ _ _ rfl rfl CY AM rfl rfl (IL rfl), tm⟩⟩⟩, rfl⟩, tv⟩
 ·refine Al (wp rfl (qe rfl ?_))
  refine Ax (L := CZ N p0 p1) h (fun v3 => mk [(1, pD (.sl (p1.map AJ))), (2, oD (.ptr 2 0)), (5, oD (.ptr 5 0)), (6, oD (.ptr 6 0)), (8, oD (.ptr 8 0)), (10, iD v3.2.2.2)] [(2, .box (Aj p0)), (5, .box [.pure (.nil0), .pure (.nil0), .pure (.nil0)]), (6, .box [iC 0, iC 0, iC 0]), (8, .box [sC (v3.1.map Aq), sC (v3.2.1.map Aq), sC (v3.2.2.1.map Ex)])]) (fun v4 => mk [(1, pD (.sl (p1.map AJ))), (2, oD (.ptr 2 0)), (5, oD (.ptr 5 0)), (6, oD (.ptr 6 0)), (8, oD (.ptr 8 0))] [(2, .box (Aj p0)), (5, .box [.pure (.nil0), .pure (.nil0), .pure (.nil0)]), (6, .box [iC 0, iC 0, iC 0]), (8, .box (AL v4))]) (fun _ _ => rfl) ((Br 2001 _ _ rfl rfl).trans ((Br 2002 _ _ rfl rfl).trans ((Br 2003 _ _ rfl rfl).trans (sm [] _ _ rfl rfl)))) (fun j3 n3 v3 h => ?_) (fun v4 s h hs => ?_)
  ·unfold CZ at h
   refine wp rfl (qw 2 rfl (AV FH rfl (AX rfl (Ad ?_))))
   refine A9 h (fun h => ?_) fun h => ?_
   ·refine Al (AN (AG ?_))
    refine AP h (fun v6 => mk [(1, pD (.sl (p1.map AJ))), (2, oD (.ptr 2 0)), (5, oD (.ptr 5 0)), (6, oD (.ptr 6 0)), (8, oD (.ptr 8 0)), (10, iD v3.2.2.2)] [(2, .box (Aj p0)), (5, .box [.pure (.nil0), .pure (.nil0), .pure (.nil0)]), (6, .box [iC 0, iC 0, iC 0]), (8, .box [sC (v6.1.map Aq), sC (v6.2.1.map Aq), sC (v6.2.2.map Ex)])]) (fun j6 h => ?_) (fun v6 h => ?_)
    ·refine wq rfl (qm rfl (D4 rfl (Ad ?_)))
     refine A9 h (fun h => ?_) fun h => ?_
     ·refine wq rfl (qL Db Cb rfl (qL BT AY rfl (qw 2 rfl ?_)))
      refine Bc h fun v8 a8 b8 h => qi FH DK a8 (Ae b8) rfl (qK HV DK rfl ?_)
      refine BM h fun v9 a9 h => Az [2004, 2005, 2006] (J6 N p0 ((Af.mk v3.1 v3.2.1 v3.2.2.1)) v8 v9 a9) dz rfl (qm rfl (qx rfl (qx rfl (qz EJ rfl (qs AY rfl (qa rfl (AE (by kernel_rfl) (AN ?_))))))))
      refine AP h (fun v10 => mk [(1, pD (.sl (p1.map AJ))), (2, oD (.ptr 2 0)), (5, oD (.ptr 5 0)), (6, oD (.ptr 6 0)), (8, oD (.ptr 8 0)), (10, iD v3.2.2.2), (11, oD (.ptr 11 0)), (53, bD v10)] [(2, .box (Aj p0)), (5, .box [.pure (.nil0), .pure (.nil0), .pure (.nil0)]), (6, .box [iC 0, iC 0, iC 0]), (8, .box [sC (v3.1.map Aq), sC (v3.2.1.map Aq), sC (v3.2.2.1.map Ex)]), (11, .box [.own 2007, .own 2008, .own 2009]), (2007, .vec 1 (v9.1.fG.map Aq)), (2008, .vec 1 (v9.1.fD.map Aq)), (2009, .vec 1 (v9.1.fH.map Ex))]) (fun j10 h => ?_) (fun v10 h => ?_)
      ·refine Ai As rfl (qm rfl (Cf rfl (qm rfl ?_)))
       refine E8 46 h rfl (fun h => ?_) fun h => ?_
       ·refine qw 6 rfl (qp rfl (Ad ?_))
        exact sn [(2007, 2004), (2008, 2005), (2009, 2006)] h
       ·refine qw 2 rfl ?_
        refine Bc h fun v12 a12 b12 h => qi FH DK a12 (Ae b12) rfl (qg Ge rfl (qk CN rfl (BZ rfl (qp rfl (Ad ?_)))))
        exact sn [(2007, 2004), (2008, 2005), (2009, 2006)] h
      ·refine A9 h (fun h => ?_) fun h => ?_
       ·refine wq rfl (qm rfl (A6 EJ IZ rfl (A6 GP M7 rfl (qa rfl (qs AY rfl (qs AM rfl (qe rfl ?_)))))))
        obtain rfl := sj h
        refine Ah ((Ii 5 _ rfl).trans (sm [] [(4, iD v3.2.2.2), (5, oD (.ptr 5 0)), (6, oD (.ptr 6 0)), (7, iD 0)] [(5, .box [sC ((([] : List Int)).map Aq), sC ((([] : List Int)).map Aq), sC ((([] : List Int)).map Ex)]), (6, .box [iC 0, iC 0, iC 0])] rfl rfl)) (Ar ?_)
        exact ⟨⟨[_, _, _, _], ⟨.tmp _ _ rfl, ⟨.cellN _ _ _ _ _ _ _ rfl rfl BT AY rfl rfl (IL rfl), ⟨.cellN _ _ _ _ _ _ _ rfl rfl CY AM rfl rfl (IL rfl), tm⟩⟩⟩, rfl⟩, tv⟩
       ·refine Al (Ai As rfl (qL BT AY rfl (qs AY rfl (Ad ?_))))
        exact S8 _ h ((Br 2007 _ _ rfl rfl).trans ((Br 2008 _ _ rfl rfl).trans ((Br 2009 _ _ rfl rfl).trans (sm [] _ _ rfl rfl))))
     ·refine Al ?_
      exact sn [] h
    ·refine wq rfl (qL Db Cb rfl (qL BT AY rfl ?_))
     refine BM h fun v14 a14 h => Az [] (Nb N p0 ((Af.mk v6.1 v6.2.1 v6.2.2)) v14 a14) eP rfl (qm rfl (qx rfl (qx rfl (qx rfl (qz EJ rfl (qz GP rfl (qs AY rfl (qs AM rfl (qa rfl (Ad (wq rfl (qm rfl (BZ rfl (Ad ?_))))))))))))))
     refine A9 h (fun h => ?_) fun h => ?_
     ·refine wq rfl (qm rfl (qL BT AY rfl (qL CY AM rfl (qa rfl (qs AY rfl (qs AM rfl (qa rfl (AE (by kernel_rfl) ?_))))))))
      obtain rfl := sj h
      refine Ah (sm [] [(4, iD v3.2.2.2), (5, oD (.ptr 5 0)), (6, oD (.ptr 6 0)), (7, iD 0)] [(5, .box (AL v14.1)), (6, .box (D9 v14.2.1))] rfl rfl) (Ar ?_)
      exact ⟨⟨[_, _, _, _], ⟨.tmp _ _ rfl, ⟨.cellN _ _ _ _ _ _ _ rfl rfl BT AY rfl rfl (IL rfl), ⟨.cellN _ _ _ _ _ _ _ rfl rfl CY AM rfl rfl (IL rfl), tm⟩⟩⟩, rfl⟩, tv⟩
     ·refine Al (Ai As rfl (qm rfl (AT rfl (qe rfl ?_))))
      exact sn [] h
   ·refine AS ?_
    exact sn [] h
  ·refine Ah hs (wp rfl (qL Db Cb rfl (qL BT AY rfl ?_)))
   refine BM h fun v16 a16 h => Az [] (NQ N p0 v4 v16 a16) fx rfl (CL rfl (Ad ?_))
   refine A9 h (fun h => ?_) fun h => ?_
   ·refine wq rfl (qm rfl (AV FH rfl (A6 EJ IZ rfl (A6 GP M7 rfl (qa rfl (qs AY rfl (qs AM rfl (qe rfl ?_))))))))
    obtain rfl := sj h
    refine Ah ((Ii 5 _ rfl).trans (sm [] [(4, iD ((p1.length : Int))), (5, oD (.ptr 5 0)), (6, oD (.ptr 6 0)), (7, iD 14)] [(5, .box [sC ((([] : List Int)).map Aq), sC ((([] : List Int)).map Aq), sC ((([] : List Int)).map Ex)]), (6, .box [iC 0, iC 0, iC 0])] rfl rfl)) (Ar ?_)
    exact ⟨⟨[_, _, _, _], ⟨.tmp _ _ rfl, ⟨.cellN _ _ _ _ _ _ _ rfl rfl BT AY rfl rfl (IL rfl), ⟨.cellN _ _ _ _ _ _ _ rfl rfl CY AM rfl rfl (IL rfl), tm⟩⟩⟩, rfl⟩, tv⟩
   ·refine Al (wq rfl (A6 EJ IZ rfl (A6 GP M7 rfl (qa rfl (qs AY rfl (qs AM rfl (qe rfl ?_)))))))
    obtain rfl := sj h
    refine Ah ((Ii 5 _ rfl).trans (sm [] [(4, iD 0), (5, oD (.ptr 5 0)), (6, oD (.ptr 6 0)), (7, iD 15)] [(5, .box [sC ((([] : List Int)).map Aq), sC ((([] : List Int)).map Aq), sC ((([] : List Int)).map Ex)]), (6, .box [iC 0, iC 0, iC 0])] rfl rfl)) (Ar ?_)
    exact ⟨⟨[_, _, _, _], ⟨.tmp _ _ rfl, ⟨.cellN _ _ _ _ _ _ _ rfl rfl BT AY rfl rfl (IL rfl), ⟨.cellN _ _ _ _ _ _ _ rfl rfl CY AM rfl rfl (IL rfl), tm⟩⟩⟩, rfl⟩, tv⟩
theorem M5 (N : Nat) (p0 : Ac) (p1 : List Ag) (r : Bool) (h : E7 N p0 p1 = some r) : Au Tryz.prog 26 [.e (.agg (Aj p0)), pD (.sl (p1.map AJ))] [] (bD r) := by
 unfold E7 at h
 refine cw (n := 19) (rs := [.tmp 4]) Tryz.func26 fun w0 S0 => ?_
 refine wq rfl (qb rfl (qa rfl (Ad (wq rfl (qL Db Cb rfl (qm rfl ?_))))))
 refine BM h fun v1 a1 h => Az [] (Md N p0 p1 v1 a1) eR rfl (qm rfl (qx rfl (qx rfl (qx rfl (qx rfl (qz EJ rfl (qz GP rfl (qa rfl (qs AY rfl (qs AM rfl (qa rfl (Ad (wq rfl (qm rfl (BZ rfl (qe rfl ?_))))))))))))))))
 obtain rfl := sj h
 refine Ah (sm [] [(4, bD ((v1.2.2.2 == 15)))] [] rfl rfl) (Ar ?_)
 exact ⟨⟨[_], tm, rfl⟩, tv⟩
theorem Kn (N : Nat) (p0 : B1) (r : Bool) (h : D5 N p0 = some r) : Au Tryz.prog 7 [.e (.agg (DD p0))] [] (bD r) := by
 unfold D5 at h
 refine cw (n := 88) (rs := [.tmp 2]) Tryz.func7 fun w0 S0 => ?_
 refine wq rfl (qb rfl (qa rfl (Ad (wq rfl (qL cv dM rfl ?_)))))
 refine BM h fun v1 a1 h => Az [2001, 2002, 2003, 2004] (Pi N p0 v1 a1) eM rfl (qm rfl (qx rfl (qx rfl (qz K9 rfl (qs Cb rfl (qa rfl (Ad (AN ?_))))))))
 refine AP h (fun v2 => mk [(3, oD (.ptr 3 0)), (25, bD v2)] [(3, .box [.own 2005, .own 2006, .own 2007, .own 2008]), (2005, .vec 1 (v1.1.fE.map Aq)), (2006, .vec 1 (v1.1.fK.map Aq)), (2007, .vec 1 (v1.1.fP.map Aq)), (2008, .vec 6 (v1.1.fF.map AI))]) (fun j2 h => ?_) (fun v2 h => ?_)
 ·refine Ai As rfl ?_
  refine BM h fun v3 a3 h => Az [] (J3 N v3 a3) cZ rfl (CL rfl (qm rfl ?_))
  refine E8 22 h rfl (fun h => ?_) fun h => ?_
  ·refine qw 2 rfl (qp rfl (Ad ?_))
   exact sn [(2005, 2001), (2006, 2002), (2007, 2003), (2008, 2004)] h
  ·refine qm rfl (CL rfl (qp rfl (Ad ?_)))
   exact sn [(2005, 2001), (2006, 2002), (2007, 2003), (2008, 2004)] h
 ·refine A9 h (fun h => ?_) fun h => ?_
  ·refine wq rfl ?_
   refine BM h fun v6 a6 h => Az [] (J3 N v6 a6) cZ rfl (qe rfl ?_)
   obtain rfl := sj h
   refine Ah (sm [] [(2, bD v6)] [] rfl rfl) (Ar ?_)
   exact ⟨⟨[_], tm, rfl⟩, tv⟩
  ·refine Al (wq rfl (qL Db Cb rfl (EQ (Br 2005 _ _ rfl rfl) (EQ (Br 2006 _ _ rfl rfl) (EQ (Br 2007 _ _ rfl rfl) (EQ (Br 2008 _ _ rfl rfl) ?_))))))
   refine BM h fun v7 a7 h => Az [2009] (Le N v1.1 v7 a7) bk rfl (qm rfl (qx rfl (qx rfl (qa rfl (qa rfl (Ad (wp rfl (qm rfl (Cf rfl (Ad ?_))))))))))
   refine A9 h (fun h => ?_) fun h => ?_
   ·refine wq rfl (qm rfl (BZ rfl (qe rfl ?_)))
    obtain rfl := sj h
    refine Ah (sm [] [(2, bD ((v7.2 == 14)))] [] rfl rfl) (Ar ?_)
    exact ⟨⟨[_], tm, rfl⟩, tv⟩
   ·refine Al (wp rfl (qm rfl (DV J2 rfl (qm rfl (Ad ?_)))))
    refine Ax (L := CE N v1 v7) h (fun v9 => mk [(3, oD (.ptr 3 0)), (36, oD (.own 2010)), (37, iD ((v7.1.length : Int))), (38, iD v9)] [(3, .box (Aj v1.1)), (2010, .vec 1 (v7.1.map (FN Ab)))]) (fun v10 => mk [] []) (fun _ _ => rfl) (sm [(2010, 2009)] _ _ rfl rfl) (fun j9 n9 v9 h => ?_) (fun v10 s h hs => ?_)
    ·unfold CE at h
     refine wq rfl (AX rfl (Ad (AN ?_)))
     refine A9 h (fun h => ?_) fun h => ?_
     ·refine Al (AN (AG (wq rfl ?_)))
      refine Bc h fun v12 a12 b12 h => qI J2 SV a12 (Ae b12) rfl (qj ZT (Ae b12) rfl (qa rfl (Ad (wq rfl (qe rfl ?_)))))
      refine Ax (L := A7 N v1 v12) h (fun v13 => mk [(3, oD (.ptr 3 0)), (8, pD (.sl (v12.map Ab))), (9, iD v13), (36, oD (.own 2011)), (37, iD ((v7.1.length : Int))), (38, iD v9)] [(3, .box (Aj v1.1)), (2011, .vec 1 (v7.1.map (FN Ab)))]) (fun v14 => mk [(3, oD (.ptr 3 0)), (36, oD (.own 2012)), (37, iD ((v7.1.length : Int))), (38, iD v9)] [(3, .box (Aj v1.1)), (2012, .vec 1 (v7.1.map (FN Ab)))]) (fun _ _ => rfl) (sm [(2011, 2010)] _ _ rfl rfl) (fun j13 n13 v13 h => ?_) (fun v14 s h hs => ?_)
      ·unfold A7 at h
       refine wp rfl (qw 2 rfl (AV AQ rfl (AX rfl (Ad ?_))))
       refine A9 h (fun h => ?_) fun h => ?_
       ·refine Al (AN (AG (wq rfl (qm rfl ?_))))
        refine BM h fun v16 a16 h => Az [2013] (DZ N v12 v16 a16) bC rfl (qe rfl ?_)
        refine AP h (fun v17 => mk [(3, oD (.ptr 3 0)), (8, pD (.sl (v12.map Ab))), (9, iD v13), (10, oD (.own 2014)), (36, oD (.own 2015)), (37, iD ((v7.1.length : Int))), (38, iD v9)] [(3, .box (Aj v1.1)), (2014, .vec 3 (v17.map Ab)), (2015, .vec 1 (v7.1.map (FN Ab)))]) (fun j17 h => ?_) (fun v17 h => ?_)
        ·refine wq rfl (qm rfl (D4 rfl (Ad ?_)))
         refine A9 h (fun h => ?_) fun h => ?_
         ·refine Ai As rfl (qw 3 rfl (AT rfl ?_))
          obtain ⟨v19, a19, h⟩ := bind_some h
          obtain ⟨c20, h⟩ := FT h
          have w21 : 0 + v19.1 ≤ v19.2.length := by rw [Nat.zero_add]; exact c20
          refine DP (ds0 := [_, _, _]) [2013] [] [true] (Fv N v16 v13 ((wI .i64 (v13 + 1))) v19 a19) (.p rfl) dW rfl ⟨rfl, rfl, rfl, tv⟩ rfl rfl (by decide) ⟨rfl, tv⟩ rfl (Bf rfl) tv ⟨(fun h => by cases h), tv⟩ rfl rfl rfl ?_
          refine EQ (Vt Ab v19.2 56 2013 2016 3 v19.1 rfl rfl rfl rfl rfl c20) (qe rfl ?_)
          exact sn [(2014, 2016), (2015, 2011)] h
         ·refine Al ?_
          exact sn [(2014, 2013), (2015, 2011)] h
        ·refine wq rfl (qL Db Cb rfl (qm rfl (EQ (Br 2014 _ _ rfl rfl) ?_)))
         refine BM h fun v22 a22 h => Az [2017, 2018, 2019] (QN N v1.1 v17 v22 a22) ff rfl (qm rfl (qx rfl (qx rfl (qz K9 rfl (qs Cb rfl (qa rfl (Ad (wq rfl (qL Db Cb rfl ?_)))))))))
         refine BM h fun v23 a23 h => Fi [2020] [2017, 2018, 2019] (PH N v22.1 v23 a23) cB (Jz (fun _ => rfl) Dh) rfl (qm rfl (qx rfl (qx rfl (qa rfl (qe rfl ?_)))))
         refine AP h (fun v24 => mk [(3, oD (.ptr 3 0)), (8, pD (.sl (v12.map Ab))), (9, iD v13), (36, oD (.own 2021)), (37, iD ((v7.1.length : Int))), (38, iD v9), (86, bD v24)] [(3, .box (Aj v1.1)), (2021, .vec 1 (v7.1.map (FN Ab)))]) (fun j24 h => ?_) (fun v24 h => ?_)
         ·refine Ai As rfl (qm rfl (Cf rfl (qm rfl ?_)))
          refine E8 70 h rfl (fun h => ?_) fun h => ?_
          ·refine qw 5 rfl (qp rfl (qw 4 rfl (qu rfl (qu rfl (qu rfl (qu rfl (qn rfl (qp rfl (Ad ?_)))))))))
           exact sn [(2021, 2015)] h
          ·refine qm rfl (BZ rfl (qm rfl (AX rfl ?_)))
           refine Jq (.g rfl rfl) rfl rfl (Yp _ _ _ _ fC) rfl ?_
           refine qp rfl (qm rfl ?_)
           refine E8 77 h rfl (fun h => ?_) fun h => ?_
           ·refine qw 3 rfl (qu rfl (qu rfl (qu rfl (qu rfl (qn rfl (qp rfl (Ad ?_)))))))
            exact sn [(2021, 2015)] h
           ·refine qm rfl (BZ rfl (qm rfl ?_))
            refine E8 80 h rfl (fun h => ?_) fun h => ?_
            ·refine qL Db Cb rfl (qm rfl ?_)
             refine BM h fun v28 a28 h => Fi [] [2017, 2018, 2019, 2020] (M5 N v22.1 v23.1 v28 a28) eW Dh rfl (CL rfl (qp rfl (qp rfl (Ad ?_))))
             exact sn [(2021, 2015)] h
            ·refine qw 4 rfl (qp rfl (qp rfl (Ad ?_)))
             exact sn [(2021, 2015)] h
         ·refine A9 h (fun h => ?_) fun h => ?_
          ·refine wq rfl (qe rfl ?_)
           obtain rfl := sj h
           refine Ah (sm [] [(2, bD false)] [] rfl rfl) (Ar ?_)
           exact ⟨⟨[_], tm, rfl⟩, tv⟩
          ·refine Al (Ai As rfl (qm rfl (AT rfl (qe rfl ?_))))
           exact sn [(2011, 2021)] h
       ·refine AS ?_
        exact sn [(2012, 2011)] h
      ·refine Ah hs (Ai As rfl (AT rfl (qm rfl (Ad ?_))))
       exact sn [(2010, 2012)] h
     ·refine AS ?_
      exact sn [] h
    ·refine Ah hs (wq rfl (qe rfl ?_))
     obtain rfl := sj h
     refine Ah (sm [] [(2, bD true)] [] rfl rfl) (Ar ?_)
     exact ⟨⟨[_], tm, rfl⟩, tv⟩
end Go.Lift
