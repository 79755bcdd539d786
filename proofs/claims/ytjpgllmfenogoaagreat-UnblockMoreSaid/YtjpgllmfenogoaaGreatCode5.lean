/- Lemmas for UnblockMoreSaid, which YtjpgllmfenogoaaGreatFinU5 proves. -/
import Derived.Test.YtjpgllmfenogoaaGreatCode4
namespace Go.Lift
open IntKind renaming wrap → wI
set_option maxRecDepth 10000
open Go.RowKit
open Go.Proofs
theorem Gz (N : Nat) (p0 : List Aa) (p1 : Int) (p2 : Int) (p3 : (Aa × Aa) → Option Int) (r : Bool × (List Aa)) (h : CK N p0 p1 p2 p3 = some r) : B0 Tryz.prog 102 [oD (.own 90000), iD p1, iD p2, oD (.clo (CC (Gy true Ab true Ab) Dc p3))] [(.vec 3 (p0.map Ab), .vec 3 (r.2.map Ab))] [] (bD r.1) := by
 unfold CK at h
 refine Bk (n := 141) (rs := [.tmp 8]) Tryz.func102 rfl rfl rfl (A0 rfl) (A0 rfl) rfl rfl (A0 rfl) rfl (A0 rfl) fun w0 S0 GL => ?_
 refine Aj (sm [] [(0, oD (.own 90000)), (1, iD p1), (2, iD p2), (3, oD (.clo (CC (Gy true Ab true Ab) Dc p3)))] [(90000, .vec 3 (p0.map Ab))] rfl rfl) (Ar Ac rfl (qa rfl (Ae (Ar Ac rfl (qm rfl (AV rfl (qa rfl (Ae (Ao (Ar Ac rfl (qe rfl ?_)))))))))))
 refine AA (L := Bw N p1 p2 p3) h (fun v1 => mk [(0, oD (.own 90000)), (1, iD p1), (2, iD p2), (3, oD (.clo (CC (Gy true Ab true Ab) Dc p3))), (9, iD v1.2.1), (10, iD v1.2.2)] [(90000, .vec 3 (v1.1.map Ab))]) (fun v2 => mk [] [(90000, .vec 3 (v2.map Ab))]) (fun _ _ => rfl) (sm [] _ _ rfl rfl) (fun j1 n1 v1 h => ?_) (fun v2 s h hs => ?_)
 ·unfold Bw at h
  refine Ao (Ar Ac rfl (qm rfl (AY rfl (Ae ?_))))
  refine Ba h rfl (fun h => ?_) fun h => ?_
  ·refine An ?_
   refine AR h (fun v4 => mk [(0, oD (.own 90000)), (1, iD p1), (2, iD p2), (3, oD (.clo (CC (Gy true Ab true Ab) Dc p3))), (9, iD v4.2), (10, iD v1.2.2)] [(90000, .vec 3 (v4.1.map Ab))]) (fun j4 h => ?_) (fun v4 h => ?_)
   ·refine AJ (Ao ?_)
    refine AA (L := Bv N p2 p3 v1) h (fun v5 => mk [(0, oD (.own 90000)), (1, iD p1), (2, iD p2), (3, oD (.clo (CC (Gy true Ab true Ab) Dc p3))), (9, iD v5), (10, iD v1.2.2)] [(90000, .vec 3 (v1.1.map Ab))]) (fun v6 => mk [(0, oD (.own 90000)), (1, iD p1), (2, iD p2), (3, oD (.clo (CC (Gy true Ab true Ab) Dc p3))), (9, iD v6), (10, iD v1.2.2)] [(90000, .vec 3 (v1.1.map Ab))]) (fun _ _ => rfl) (sm [] _ _ rfl rfl) (fun j5 n5 v5 h => ?_) (fun v6 s h hs => ?_)
    ·unfold Bv at h
     refine Ao ?_
     refine AR h (fun v7 => mk [(0, oD (.own 90000)), (1, iD p1), (2, iD p2), (3, oD (.clo (CC (Gy true Ab true Ab) Dc p3))), (9, iD v5), (10, iD v1.2.2), (36, bD v7)] [(90000, .vec 3 (v1.1.map Ab))]) (fun j7 h => ?_) (fun v7 h => ?_)
     ·refine Ai Ac rfl (qm rfl (qm rfl (AY rfl (qm rfl ?_))))
      refine E7 22 h rfl (fun h => ?_) fun h => ?_
      ·refine qm rfl (qm rfl (qm rfl ?_))
       refine Bb h fun v9 a9 b9 h => qI AP AO a9 (Af b9) rfl (qJ Dk AO (Af b9) rfl (qm rfl (qm rfl (Dp rfl ?_))))
       refine Bb h fun v10 a10 b10 h => qI AP AO a10 (Af b10) rfl (qJ Dk AO (Af b10) rfl ?_)
       refine BR h fun v11 a11 h => Ge (ds0 := [_, _]) (ar := (Gy true Ab true Ab) ((v9, v10))) (.g rfl rfl) rfl rfl ⟨rfl, rfl, tv⟩ rfl rfl rfl (Gf (HG _ _ _ _ A3 A3) a11) ?_
       refine AY rfl (CO rfl (qp rfl (AI (by kernel_rfl) ?_)))
       exact sn [] h
      ·refine qn rfl (qn rfl (qn rfl (qn rfl (qn rfl (qn rfl (qn rfl (qn rfl (qn rfl (qn rfl (qn rfl (qn rfl (qn rfl (qp rfl (AI (by kernel_rfl) ?_))))))))))))))
       exact sn [] h
     ·refine Ba h rfl (fun h => ?_) fun h => ?_
      ·refine An (AJ (Ai Ac rfl (qm rfl (AV rfl (qe rfl ?_)))))
       exact sn [] h
      ·refine AT ?_
       exact sn [] h
    ·refine Aj hs (Ao (Ar Ac rfl (qm rfl (qm rfl (B9 rfl (Ae ?_))))))
     refine Ba h rfl (fun h => ?_) fun h => ?_
     ·refine Ar Ac rfl (qe rfl ?_)
      obtain rfl := sj h
      refine Aj (sm [] [(8, bD true)] [(90000, .vec 3 (v1.1.map Ab))] rfl rfl) (Aw ?_)
      exact ⟨⟨[_], ⟨.tmp _ _ rfl, tv⟩, rfl⟩, ⟨rfl, tv⟩, tv⟩
     ·refine An (Ao (Ar Ac rfl (qm rfl (qm rfl (Dp rfl (AY rfl (Ae ?_)))))))
      refine Ba h rfl (fun h => ?_) fun h => ?_
      ·refine Ar Ac rfl (qe rfl ?_)
       obtain rfl := sj h
       refine Aj (sm [] [(8, bD false)] [(90000, .vec 3 (v1.1.map Ab))] rfl rfl) (Aw ?_)
       exact ⟨⟨[_], ⟨.tmp _ _ rfl, tv⟩, rfl⟩, ⟨rfl, tv⟩, tv⟩
      ·refine An (Ar Ac rfl (qm rfl (qm rfl (qm rfl (qm rfl (Dp rfl (qm rfl (qm rfl (Dp rfl ?_)))))))))
       refine Bb h fun v15 a15 b15 h => qI AP AO a15 (Af b15) rfl (qJ Dk AO (Af b15) rfl (qm rfl (qm rfl ?_)))
       refine Bb h fun v16 a16 b16 h => qI AP AO a16 (Af b16) rfl (qJ Dk AO (Af b16) rfl ?_)
       refine Bb h fun v17 a17 b17 h => qI AP AO a17 (Af b17) rfl ?_
       refine A7 rfl rfl rfl rfl (Af b17) rfl AO rfl (A0 rfl) (A4 Ab v1.1 _ v15) ?_
       refine Bb h fun v18 a18 b18 h => qI AP AO a18 (Af b18) rfl ?_
       refine A7 rfl rfl rfl rfl (Af b18) rfl AO rfl (A0 rfl) (A4 Ab (v1.1.set ((v6).toNat) v15) _ v16) ?_
       refine AI (by kernel_rfl) ?_
       refine AR h (fun v19 => mk [(0, oD (.own 90000)), (1, iD p1), (2, iD p2), (3, oD (.clo (CC (Gy true Ab true Ab) Dc p3))), (9, iD v6), (10, iD v1.2.2)] [(90000, .vec 3 (v19.map Ab))]) (fun j19 h => ?_) (fun v19 h => ?_)
       ·refine Ar Ac rfl (qm rfl (qm rfl (Dp rfl (Ej rfl (Ae ?_)))))
        refine Ba h rfl (fun h => ?_) fun h => ?_
        ·refine Ar Ac rfl (qm rfl (Dp rfl (qe rfl ?_)))
         refine AA (L := Bq N p3) h (fun v21 => mk [(0, oD (.own 90000)), (1, iD p1), (2, iD p2), (3, oD (.clo (CC (Gy true Ab true Ab) Dc p3))), (9, iD v6), (10, iD v1.2.2), (11, iD v21.2)] [(90000, .vec 3 (v21.1.map Ab))]) (fun v22 => mk [(0, oD (.own 90000)), (1, iD p1), (2, iD p2), (3, oD (.clo (CC (Gy true Ab true Ab) Dc p3))), (9, iD v6), (10, iD v1.2.2)] [(90000, .vec 3 (v22.map Ab))]) (fun _ _ => rfl) (sm [] _ _ rfl rfl) (fun j21 n21 v21 h => ?_) (fun v22 s h hs => ?_)
         ·unfold Bq at h
          refine Ao (Ar Ac rfl (qm rfl (Ej rfl (Ae ?_))))
          refine Ba h rfl (fun h => ?_) fun h => ?_
          ·refine An (Ao (AJ (Ao (Ar Ac rfl (qm rfl (qm rfl (qm rfl ?_)))))))
           refine Bb h fun v24 a24 b24 h => qI AP AO a24 (Af b24) rfl (qJ Dk AO (Af b24) rfl (qm rfl (qm rfl (Dp rfl ?_))))
           refine Bb h fun v25 a25 b25 h => qI AP AO a25 (Af b25) rfl (qJ Dk AO (Af b25) rfl ?_)
           refine BR h fun v26 a26 h => Ge (ds0 := [_, _]) (ar := (Gy true Ab true Ab) ((v24, v25))) (.p rfl) rfl rfl ⟨rfl, rfl, tv⟩ rfl rfl rfl (Gf (HG _ _ _ _ A3 A3) a26) ?_
           refine AY rfl (CO rfl (AI (by kernel_rfl) ?_))
           refine Ba h rfl (fun h => ?_) fun h => ?_
           ·refine AT ?_
            exact sn [] h
           ·refine An (Ai Ac rfl (qm rfl (qm rfl (qm rfl (qm rfl (Dp rfl (qm rfl (qm rfl (Dp rfl ?_)))))))))
            refine Bb h fun v28 a28 b28 h => qI AP AO a28 (Af b28) rfl (qJ Dk AO (Af b28) rfl (qm rfl (qm rfl ?_)))
            refine Bb h fun v29 a29 b29 h => qI AP AO a29 (Af b29) rfl (qJ Dk AO (Af b29) rfl ?_)
            refine Bb h fun v30 a30 b30 h => qI AP AO a30 (Af b30) rfl ?_
            refine A7 rfl rfl rfl rfl (Af b30) rfl AO rfl (A0 rfl) (A4 Ab v21.1 _ v28) ?_
            refine Bb h fun v31 a31 b31 h => qI AP AO a31 (Af b31) rfl ?_
            refine A7 rfl rfl rfl rfl (Af b31) rfl AO rfl (A0 rfl) (A4 Ab (v21.1.set ((v21.2).toNat) v28) _ v29) ?_
            refine AI (by kernel_rfl) (Ai Ac rfl (qm rfl (Dp rfl (qe rfl ?_))))
            exact sn [] h
          ·refine AT ?_
           exact sn [] h
         ·exact Uc _ h (hs.trans (sm [] _ _ rfl rfl))
        ·refine An ?_
         exact sn [] h
       ·refine Ar Ac rfl (qm rfl (qm rfl (Dp rfl (Ej rfl (Ae ?_)))))
        refine Ba h rfl (fun h => ?_) fun h => ?_
        ·refine Ar Ac rfl (qm rfl (AV rfl (qe rfl ?_)))
         refine AA (L := Br N p2 p3) h (fun v33 => mk [(0, oD (.own 90000)), (1, iD p1), (2, iD p2), (3, oD (.clo (CC (Gy true Ab true Ab) Dc p3))), (9, iD v6), (10, iD v1.2.2), (12, iD v33.2)] [(90000, .vec 3 (v33.1.map Ab))]) (fun v34 => mk [(0, oD (.own 90000)), (1, iD p1), (2, iD p2), (3, oD (.clo (CC (Gy true Ab true Ab) Dc p3))), (9, iD v6), (10, iD v1.2.2)] [(90000, .vec 3 (v34.map Ab))]) (fun _ _ => rfl) (sm [] _ _ rfl rfl) (fun j33 n33 v33 h => ?_) (fun v34 s h hs => ?_)
         ·unfold Br at h
          refine Ao (Ar Ac rfl (qm rfl (qm rfl (AY rfl (Ae ?_)))))
          refine Ba h rfl (fun h => ?_) fun h => ?_
          ·refine An (Ao (AJ (Ao (Ar Ac rfl (qm rfl (qm rfl (qm rfl ?_)))))))
           refine Bb h fun v36 a36 b36 h => qI AP AO a36 (Af b36) rfl (qJ Dk AO (Af b36) rfl (qm rfl (qm rfl (Dp rfl ?_))))
           refine Bb h fun v37 a37 b37 h => qI AP AO a37 (Af b37) rfl (qJ Dk AO (Af b37) rfl ?_)
           refine BR h fun v38 a38 h => Ge (ds0 := [_, _]) (ar := (Gy true Ab true Ab) ((v36, v37))) (.p rfl) rfl rfl ⟨rfl, rfl, tv⟩ rfl rfl rfl (Gf (HG _ _ _ _ A3 A3) a38) ?_
           refine AY rfl (CO rfl (AI (by kernel_rfl) ?_))
           refine Ba h rfl (fun h => ?_) fun h => ?_
           ·refine AT ?_
            exact sn [] h
           ·refine An (Ai Ac rfl (qm rfl (qm rfl (qm rfl (qm rfl (Dp rfl (qm rfl (qm rfl (Dp rfl ?_)))))))))
            refine Bb h fun v40 a40 b40 h => qI AP AO a40 (Af b40) rfl (qJ Dk AO (Af b40) rfl (qm rfl (qm rfl ?_)))
            refine Bb h fun v41 a41 b41 h => qI AP AO a41 (Af b41) rfl (qJ Dk AO (Af b41) rfl ?_)
            refine Bb h fun v42 a42 b42 h => qI AP AO a42 (Af b42) rfl ?_
            refine A7 rfl rfl rfl rfl (Af b42) rfl AO rfl (A0 rfl) (A4 Ab v33.1 _ v40) ?_
            refine Bb h fun v43 a43 b43 h => qI AP AO a43 (Af b43) rfl ?_
            refine A7 rfl rfl rfl rfl (Af b43) rfl AO rfl (A0 rfl) (A4 Ab (v33.1.set ((v33.2).toNat) v40) _ v41) ?_
            refine AI (by kernel_rfl) (Ai Ac rfl (qm rfl (AV rfl (qe rfl ?_))))
            exact sn [] h
          ·refine AT ?_
           exact sn [] h
         ·exact Uc _ h (hs.trans (sm [] _ _ rfl rfl))
        ·refine An ?_
         exact sn [] h
   ·refine Ai Ac rfl (qm rfl (AV rfl (qe rfl ?_)))
    exact sn [] h
  ·refine AT ?_
   exact sn [] h
 ·refine Aj hs (Ar Ac rfl (qe rfl ?_))
  obtain rfl := sj h
  refine Aj (sm [] [(8, bD false)] [(90000, .vec 3 (v2.map Ab))] rfl rfl) (Aw ?_)
  exact ⟨⟨[_], ⟨.tmp _ _ rfl, tv⟩, rfl⟩, ⟨rfl, tv⟩, tv⟩
theorem Hd (N : Nat) (p0 : List Aa) (p1 : Int) (p2 : Int) (p3 : Int) (p4 : (Aa × Aa) → Option Int) (r : Int × (List Aa)) (h : Dt N p0 p1 p2 p3 p4 = some r) : B0 Tryz.prog 103 [oD (.own 90000), iD p1, iD p2, iD p3, oD (.clo (CC (Gy true Ab true Ab) Dc p4))] [(.vec 3 (p0.map Ab), .vec 3 (r.2.map Ab))] [] (iD r.1) := by
 unfold Dt at h
 refine Bk (n := 90) (rs := [.tmp 10]) Tryz.func103 rfl rfl rfl (A0 rfl) (A0 rfl) rfl rfl (A0 rfl) rfl (A0 rfl) fun w0 S0 GL => ?_
 refine Aj (sm [] [(0, oD (.own 90000)), (1, iD p1), (2, iD p2), (3, iD p3), (4, oD (.clo (CC (Gy true Ab true Ab) Dc p4)))] [(90000, .vec 3 (p0.map Ab))] rfl rfl) (Ar Ac rfl (qa rfl (Ae (Ar Ac rfl (qm rfl (qm rfl (qm rfl (qm rfl (qm rfl (qm rfl ?_))))))))))
 refine Bb h fun v1 a1 b1 h => qI AP AO a1 (Af b1) rfl (qJ Dk AO (Af b1) rfl (qm rfl (qm rfl ?_)))
 refine Bb h fun v2 a2 b2 h => qI AP AO a2 (Af b2) rfl (qJ Dk AO (Af b2) rfl ?_)
 refine Bb h fun v3 a3 b3 h => qI AP AO a3 (Af b3) rfl ?_
 refine A7 rfl rfl rfl rfl (Af b3) rfl AO rfl (A0 rfl) (A4 Ab p0 _ v1) ?_
 refine Bb h fun v4 a4 b4 h => qI AP AO a4 (Af b4) rfl ?_
 refine A7 rfl rfl rfl rfl (Af b4) rfl AO rfl (A0 rfl) (A4 Ab (p0.set ((p1).toNat) v1) _ v2) ?_
 refine AI (by kernel_rfl) (Ar Ac rfl (qm rfl (AV rfl (qm rfl (Dp rfl (qa rfl (qa rfl (Ae (Ao ?_)))))))))
 refine AA (L := BW N p1 p4) h (fun v5 => mk [(0, oD (.own 90000)), (1, iD p1), (4, oD (.clo (CC (Gy true Ab true Ab) Dc p4))), (11, iD v5.2.1), (12, iD v5.2.2)] [(90000, .vec 3 (v5.1.map Ab))]) (fun v6 => mk [(11, iD v6.2)] [(90000, .vec 3 (v6.1.map Ab))]) (fun _ _ => rfl) (sm [] _ _ rfl rfl) (fun j5 n5 v5 h => ?_) (fun v6 s h hs => ?_)
 ·unfold BW at h
  refine AJ (Ao ?_)
  refine AA (L := BX N p1 p4 v5) h (fun v7 => mk [(0, oD (.own 90000)), (1, iD p1), (4, oD (.clo (CC (Gy true Ab true Ab) Dc p4))), (11, iD v7), (12, iD v5.2.2)] [(90000, .vec 3 (v5.1.map Ab))]) (fun v8 => mk [(0, oD (.own 90000)), (1, iD p1), (4, oD (.clo (CC (Gy true Ab true Ab) Dc p4))), (11, iD v8), (12, iD v5.2.2)] [(90000, .vec 3 (v5.1.map Ab))]) (fun _ _ => rfl) (sm [] _ _ rfl rfl) (fun j7 n7 v7 h => ?_) (fun v8 s h hs => ?_)
  ·unfold BX at h
   refine Ao ?_
   refine AR h (fun v9 => mk [(0, oD (.own 90000)), (1, iD p1), (4, oD (.clo (CC (Gy true Ab true Ab) Dc p4))), (11, iD v7), (12, iD v5.2.2), (47, bD v9)] [(90000, .vec 3 (v5.1.map Ab))]) (fun j9 h => ?_) (fun v9 h => ?_)
   ·refine Ai Ac rfl (qm rfl (qm rfl (KT rfl (qm rfl ?_))))
    refine E7 34 h rfl (fun h => ?_) fun h => ?_
    ·refine qm rfl (qm rfl (qm rfl ?_))
     refine Bb h fun v11 a11 b11 h => qI AP AO a11 (Af b11) rfl (qJ Dk AO (Af b11) rfl (qm rfl (qm rfl ?_)))
     refine Bb h fun v12 a12 b12 h => qI AP AO a12 (Af b12) rfl (qJ Dk AO (Af b12) rfl ?_)
     refine BR h fun v13 a13 h => Ge (ds0 := [_, _]) (ar := (Gy true Ab true Ab) ((v11, v12))) (.g rfl rfl) rfl rfl ⟨rfl, rfl, tv⟩ rfl rfl rfl (Gf (HG _ _ _ _ A3 A3) a13) ?_
     refine AY rfl (CO rfl (qp rfl (AI (by kernel_rfl) ?_)))
     exact sn [] h
    ·refine qn rfl (qn rfl (qn rfl (qn rfl (qn rfl (qn rfl (qn rfl (qn rfl (qn rfl (qn rfl (qn rfl (qn rfl (qp rfl (AI (by kernel_rfl) ?_)))))))))))))
     exact sn [] h
   ·refine Ba h rfl (fun h => ?_) fun h => ?_
    ·refine An (AJ (Ai Ac rfl (qm rfl (AV rfl (qe rfl ?_)))))
     exact sn [] h
    ·refine AT ?_
     exact sn [] h
  ·refine Aj hs (Ao ?_)
   refine AA (L := BS N p1 p4 v5 v8) h (fun v15 => mk [(0, oD (.own 90000)), (1, iD p1), (4, oD (.clo (CC (Gy true Ab true Ab) Dc p4))), (11, iD v8), (12, iD v15)] [(90000, .vec 3 (v5.1.map Ab))]) (fun v16 => mk [(0, oD (.own 90000)), (1, iD p1), (4, oD (.clo (CC (Gy true Ab true Ab) Dc p4))), (11, iD v8), (12, iD v16)] [(90000, .vec 3 (v5.1.map Ab))]) (fun _ _ => rfl) (sm [] _ _ rfl rfl) (fun j15 n15 v15 h => ?_) (fun v16 s h hs => ?_)
   ·unfold BS at h
    refine Ao ?_
    refine AR h (fun v17 => mk [(0, oD (.own 90000)), (1, iD p1), (4, oD (.clo (CC (Gy true Ab true Ab) Dc p4))), (11, iD v8), (12, iD v15), (65, bD v17)] [(90000, .vec 3 (v5.1.map Ab))]) (fun j17 h => ?_) (fun v17 h => ?_)
    ·refine Ai Ac rfl (qm rfl (qm rfl (KT rfl (qm rfl ?_))))
     refine E7 53 h rfl (fun h => ?_) fun h => ?_
     ·refine qm rfl (qm rfl (qm rfl ?_))
      refine Bb h fun v19 a19 b19 h => qI AP AO a19 (Af b19) rfl (qJ Dk AO (Af b19) rfl (qm rfl (qm rfl ?_)))
      refine Bb h fun v20 a20 b20 h => qI AP AO a20 (Af b20) rfl (qJ Dk AO (Af b20) rfl ?_)
      refine BR h fun v21 a21 h => Ge (ds0 := [_, _]) (ar := (Gy true Ab true Ab) ((v19, v20))) (.g rfl rfl) rfl rfl ⟨rfl, rfl, tv⟩ rfl rfl rfl (Gf (HG _ _ _ _ A3 A3) a21) ?_
      refine AY rfl (qp rfl (AI (by kernel_rfl) ?_))
      exact sn [] h
     ·refine qn rfl (qn rfl (qn rfl (qn rfl (qn rfl (qn rfl (qn rfl (qn rfl (qn rfl (qn rfl (qn rfl (qp rfl (AI (by kernel_rfl) ?_))))))))))))
      exact sn [] h
    ·refine Ba h rfl (fun h => ?_) fun h => ?_
     ·refine An (AJ (Ai Ac rfl (qm rfl (Dp rfl (qe rfl ?_)))))
      exact sn [] h
     ·refine AT ?_
      exact sn [] h
   ·refine Aj hs (Ao (Ar Ac rfl (qm rfl (qm rfl (GB rfl (Ae ?_))))))
    refine Ba h rfl (fun h => ?_) fun h => ?_
    ·refine AT ?_
     exact sn [] h
    ·refine An (Ar Ac rfl (qm rfl (qm rfl (qm rfl (qm rfl (qm rfl (qm rfl ?_)))))))
     refine Bb h fun v24 a24 b24 h => qI AP AO a24 (Af b24) rfl (qJ Dk AO (Af b24) rfl (qm rfl (qm rfl ?_)))
     refine Bb h fun v25 a25 b25 h => qI AP AO a25 (Af b25) rfl (qJ Dk AO (Af b25) rfl ?_)
     refine Bb h fun v26 a26 b26 h => qI AP AO a26 (Af b26) rfl ?_
     refine A7 rfl rfl rfl rfl (Af b26) rfl AO rfl (A0 rfl) (A4 Ab v5.1 _ v24) ?_
     refine Bb h fun v27 a27 b27 h => qI AP AO a27 (Af b27) rfl ?_
     refine A7 rfl rfl rfl rfl (Af b27) rfl AO rfl (A0 rfl) (A4 Ab (v5.1.set ((v8).toNat) v24) _ v25) ?_
     refine AI (by kernel_rfl) (Ar Ac rfl (qm rfl (AV rfl (qa rfl (Ae (Ai Ac rfl (qm rfl (Dp rfl (qe rfl ?_)))))))))
     exact sn [] h
 ·refine Aj hs (Ar Ac rfl (qm rfl (qe rfl ?_)))
  obtain rfl := sj h
  refine Aj (sm [] [(10, iD v6.2)] [(90000, .vec 3 (v6.1.map Ab))] rfl rfl) (Aw ?_)
  exact ⟨⟨[_], ⟨.tmp _ _ rfl, tv⟩, rfl⟩, ⟨rfl, tv⟩, tv⟩
theorem HW (N : Nat) (p0 : List Aa) (p1 : Int) (p2 : Int) (p3 : Int) (p4 : (Aa × Aa) → Option Int) (r : Int × Bool × (List Aa)) (h : D5 N p0 p1 p2 p3 p4 = some r) : B0 Tryz.prog 104 [oD (.own 90000), iD p1, iD p2, iD p3, oD (.clo (CC (Gy true Ab true Ab) Dc p4))] [(.vec 3 (p0.map Ab), .vec 3 (r.2.2.map Ab))] [] (.tup [.one (iC r.1), .one (.pure (.val (.bool r.2.1)))]) := by
 unfold D5 at h
 refine Bk (n := 178) (rs := [.tmp 10, .tmp 11]) Tryz.func104 rfl rfl rfl (A0 rfl) (A0 rfl) rfl rfl (A0 rfl) rfl (A0 rfl) fun w0 S0 GL => ?_
 refine Aj (sm [] [(0, oD (.own 90000)), (1, iD p1), (2, iD p2), (3, iD p3), (4, oD (.clo (CC (Gy true Ab true Ab) Dc p4)))] [(90000, .vec 3 (p0.map Ab))] rfl rfl) (Ar Ac rfl (qa rfl (qa rfl (Ae (Ar Ac rfl (qm rfl (qm rfl (qm rfl (qm rfl (qm rfl (qm rfl ?_)))))))))))
 refine Bb h fun v1 a1 b1 h => qI AP AO a1 (Af b1) rfl (qJ Dk AO (Af b1) rfl (qm rfl (qm rfl ?_)))
 refine Bb h fun v2 a2 b2 h => qI AP AO a2 (Af b2) rfl (qJ Dk AO (Af b2) rfl ?_)
 refine Bb h fun v3 a3 b3 h => qI AP AO a3 (Af b3) rfl ?_
 refine A7 rfl rfl rfl rfl (Af b3) rfl AO rfl (A0 rfl) (A4 Ab p0 _ v1) ?_
 refine Bb h fun v4 a4 b4 h => qI AP AO a4 (Af b4) rfl ?_
 refine A7 rfl rfl rfl rfl (Af b4) rfl AO rfl (A0 rfl) (A4 Ab (p0.set ((p1).toNat) v1) _ v2) ?_
 refine AI (by kernel_rfl) (Ar Ac rfl (qm rfl (AV rfl (qm rfl (Dp rfl (qa rfl (qa rfl (Ae (Ao ?_)))))))))
 refine AA (L := Cu N p0 p1 p2 p3 p4 v1 v2) h (fun v5 => mk [(0, oD (.own 90000)), (1, iD p1), (4, oD (.clo (CC (Gy true Ab true Ab) Dc p4))), (12, iD v5), (13, iD ((wI .i64 (p2 - 1))))] [(90000, .vec 3 (((p0.set ((p1).toNat) v1).set ((p3).toNat) v2).map Ab))]) (fun v6 => mk [(0, oD (.own 90000)), (1, iD p1), (4, oD (.clo (CC (Gy true Ab true Ab) Dc p4))), (12, iD v6), (13, iD ((wI .i64 (p2 - 1))))] [(90000, .vec 3 (((p0.set ((p1).toNat) v1).set ((p3).toNat) v2).map Ab))]) (fun _ _ => rfl) (sm [] _ _ rfl rfl) (fun j5 n5 v5 h => ?_) (fun v6 s h hs => ?_)
 ·unfold Cu at h
  refine Ao ?_
  refine AR h (fun v7 => mk [(0, oD (.own 90000)), (1, iD p1), (4, oD (.clo (CC (Gy true Ab true Ab) Dc p4))), (12, iD v5), (13, iD ((wI .i64 (p2 - 1)))), (47, bD v7)] [(90000, .vec 3 (((p0.set ((p1).toNat) v1).set ((p3).toNat) v2).map Ab))]) (fun j7 h => ?_) (fun v7 h => ?_)
  ·refine Ai Ac rfl (qm rfl (qm rfl (KT rfl (qm rfl ?_))))
   refine E7 35 h rfl (fun h => ?_) fun h => ?_
   ·refine qm rfl (qm rfl (qm rfl ?_))
    refine Bb h fun v9 a9 b9 h => qI AP AO a9 (Af b9) rfl (qJ Dk AO (Af b9) rfl (qm rfl (qm rfl ?_)))
    refine Bb h fun v10 a10 b10 h => qI AP AO a10 (Af b10) rfl (qJ Dk AO (Af b10) rfl ?_)
    refine BR h fun v11 a11 h => Ge (ds0 := [_, _]) (ar := (Gy true Ab true Ab) ((v9, v10))) (.g rfl rfl) rfl rfl ⟨rfl, rfl, tv⟩ rfl rfl rfl (Gf (HG _ _ _ _ A3 A3) a11) ?_
    refine AY rfl (qp rfl (AI (by kernel_rfl) ?_))
    exact sn [] h
   ·refine qn rfl (qn rfl (qn rfl (qn rfl (qn rfl (qn rfl (qn rfl (qn rfl (qn rfl (qn rfl (qn rfl (qp rfl (AI (by kernel_rfl) ?_))))))))))))
    exact sn [] h
  ·refine Ba h rfl (fun h => ?_) fun h => ?_
   ·refine An (AJ (Ai Ac rfl (qm rfl (AV rfl (qe rfl ?_)))))
    exact sn [] h
   ·refine AT ?_
    exact sn [] h
 ·refine Aj hs (Ao ?_)
  refine AA (L := Cm N p0 p1 p3 p4 v1 v2 v6) h (fun v13 => mk [(0, oD (.own 90000)), (1, iD p1), (4, oD (.clo (CC (Gy true Ab true Ab) Dc p4))), (12, iD v6), (13, iD v13)] [(90000, .vec 3 (((p0.set ((p1).toNat) v1).set ((p3).toNat) v2).map Ab))]) (fun v14 => mk [(0, oD (.own 90000)), (1, iD p1), (4, oD (.clo (CC (Gy true Ab true Ab) Dc p4))), (12, iD v6), (13, iD v14)] [(90000, .vec 3 (((p0.set ((p1).toNat) v1).set ((p3).toNat) v2).map Ab))]) (fun _ _ => rfl) (sm [] _ _ rfl rfl) (fun j13 n13 v13 h => ?_) (fun v14 s h hs => ?_)
  ·unfold Cm at h
   refine Ao ?_
   refine AR h (fun v15 => mk [(0, oD (.own 90000)), (1, iD p1), (4, oD (.clo (CC (Gy true Ab true Ab) Dc p4))), (12, iD v6), (13, iD v13), (66, bD v15)] [(90000, .vec 3 (((p0.set ((p1).toNat) v1).set ((p3).toNat) v2).map Ab))]) (fun j15 h => ?_) (fun v15 h => ?_)
   ·refine Ai Ac rfl (qm rfl (qm rfl (KT rfl (qm rfl ?_))))
    refine E7 53 h rfl (fun h => ?_) fun h => ?_
    ·refine qm rfl (qm rfl (qm rfl ?_))
     refine Bb h fun v17 a17 b17 h => qI AP AO a17 (Af b17) rfl (qJ Dk AO (Af b17) rfl (qm rfl (qm rfl ?_)))
     refine Bb h fun v18 a18 b18 h => qI AP AO a18 (Af b18) rfl (qJ Dk AO (Af b18) rfl ?_)
     refine BR h fun v19 a19 h => Ge (ds0 := [_, _]) (ar := (Gy true Ab true Ab) ((v17, v18))) (.g rfl rfl) rfl rfl ⟨rfl, rfl, tv⟩ rfl rfl rfl (Gf (HG _ _ _ _ A3 A3) a19) ?_
     refine AY rfl (CO rfl (qp rfl (AI (by kernel_rfl) ?_)))
     exact sn [] h
    ·refine qn rfl (qn rfl (qn rfl (qn rfl (qn rfl (qn rfl (qn rfl (qn rfl (qn rfl (qn rfl (qn rfl (qn rfl (qp rfl (AI (by kernel_rfl) ?_)))))))))))))
     exact sn [] h
   ·refine Ba h rfl (fun h => ?_) fun h => ?_
    ·refine An (AJ (Ai Ac rfl (qm rfl (Dp rfl (qe rfl ?_)))))
     exact sn [] h
    ·refine AT ?_
     exact sn [] h
  ·refine Aj hs (Ao (Ar Ac rfl (qm rfl (qm rfl (GB rfl (Ae ?_))))))
   refine Ba h rfl (fun h => ?_) fun h => ?_
   ·refine Ar Ac rfl (qm rfl (qm rfl (qm rfl (qm rfl (qm rfl (qm rfl ?_))))))
    refine Bb h fun v22 a22 b22 h => qI AP AO a22 (Af b22) rfl (qJ Dk AO (Af b22) rfl (qm rfl (qm rfl ?_)))
    refine Bb h fun v23 a23 b23 h => qI AP AO a23 (Af b23) rfl (qJ Dk AO (Af b23) rfl ?_)
    refine Bb h fun v24 a24 b24 h => qI AP AO a24 (Af b24) rfl ?_
    refine A7 rfl rfl rfl rfl (Af b24) rfl AO rfl (A0 rfl) (A4 Ab ((p0.set ((p1).toNat) v1).set ((p3).toNat) v2) _ v22) ?_
    refine Bb h fun v25 a25 b25 h => qI AP AO a25 (Af b25) rfl ?_
    refine A7 rfl rfl rfl rfl (Af b25) rfl AO rfl (A0 rfl) (A4 Ab (((p0.set ((p1).toNat) v1).set ((p3).toNat) v2).set ((v14).toNat) v22) _ v23) ?_
    refine AI (by kernel_rfl) (Ar Ac rfl (qm rfl (qa rfl (qe rfl ?_))))
    obtain rfl := sj h
    refine Aj (sm [] [(10, iD v14), (11, bD true)] [(90000, .vec 3 (((((p0.set ((p1).toNat) v1).set ((p3).toNat) v2).set ((v14).toNat) v22).set ((p1).toNat) v23).map Ab))] rfl rfl) (Aw ?_)
    exact ⟨⟨[_, _], ⟨.tmp _ _ rfl, ⟨.tmp _ _ rfl, tv⟩⟩, rfl⟩, ⟨rfl, tv⟩, tv⟩
   ·refine An (Ar Ac rfl (qm rfl (qm rfl (qm rfl (qm rfl (qm rfl (qm rfl ?_)))))))
    refine Bb h fun v26 a26 b26 h => qI AP AO a26 (Af b26) rfl (qJ Dk AO (Af b26) rfl (qm rfl (qm rfl ?_)))
    refine Bb h fun v27 a27 b27 h => qI AP AO a27 (Af b27) rfl (qJ Dk AO (Af b27) rfl ?_)
    refine Bb h fun v28 a28 b28 h => qI AP AO a28 (Af b28) rfl ?_
    refine A7 rfl rfl rfl rfl (Af b28) rfl AO rfl (A0 rfl) (A4 Ab ((p0.set ((p1).toNat) v1).set ((p3).toNat) v2) _ v26) ?_
    refine Bb h fun v29 a29 b29 h => qI AP AO a29 (Af b29) rfl ?_
    refine A7 rfl rfl rfl rfl (Af b29) rfl AO rfl (A0 rfl) (A4 Ab (((p0.set ((p1).toNat) v1).set ((p3).toNat) v2).set ((v6).toNat) v26) _ v27) ?_
    refine AI (by kernel_rfl) (Ar Ac rfl (qm rfl (AV rfl (qa rfl (Ae (Ar Ac rfl (qm rfl (Dp rfl (qa rfl (Ae (Ao ?_)))))))))))
    refine AA (L := Cl N p1 p4) h (fun v30 => mk [(0, oD (.own 90000)), (1, iD p1), (4, oD (.clo (CC (Gy true Ab true Ab) Dc p4))), (12, iD v30.2.1), (13, iD v30.2.2)] [(90000, .vec 3 (v30.1.map Ab))]) (fun v31 => mk [(0, oD (.own 90000)), (1, iD p1), (13, iD v31.2)] [(90000, .vec 3 (v31.1.map Ab))]) (fun _ _ => rfl) (sm [] _ _ rfl rfl) (fun j30 n30 v30 h => ?_) (fun v31 s h hs => ?_)
    ·unfold Cl at h
     refine AJ (Ao ?_)
     refine AA (L := Co N p1 p4 v30) h (fun v32 => mk [(0, oD (.own 90000)), (1, iD p1), (4, oD (.clo (CC (Gy true Ab true Ab) Dc p4))), (12, iD v32), (13, iD v30.2.2)] [(90000, .vec 3 (v30.1.map Ab))]) (fun v33 => mk [(0, oD (.own 90000)), (1, iD p1), (4, oD (.clo (CC (Gy true Ab true Ab) Dc p4))), (12, iD v33), (13, iD v30.2.2)] [(90000, .vec 3 (v30.1.map Ab))]) (fun _ _ => rfl) (sm [] _ _ rfl rfl) (fun j32 n32 v32 h => ?_) (fun v33 s h hs => ?_)
     ·unfold Co at h
      refine Ao ?_
      refine AR h (fun v34 => mk [(0, oD (.own 90000)), (1, iD p1), (4, oD (.clo (CC (Gy true Ab true Ab) Dc p4))), (12, iD v32), (13, iD v30.2.2), (120, bD v34)] [(90000, .vec 3 (v30.1.map Ab))]) (fun j34 h => ?_) (fun v34 h => ?_)
      ·refine Ai Ac rfl (qm rfl (qm rfl (KT rfl (qm rfl ?_))))
       refine E7 108 h rfl (fun h => ?_) fun h => ?_
       ·refine qm rfl (qm rfl (qm rfl ?_))
        refine Bb h fun v36 a36 b36 h => qI AP AO a36 (Af b36) rfl (qJ Dk AO (Af b36) rfl (qm rfl (qm rfl ?_)))
        refine Bb h fun v37 a37 b37 h => qI AP AO a37 (Af b37) rfl (qJ Dk AO (Af b37) rfl ?_)
        refine BR h fun v38 a38 h => Ge (ds0 := [_, _]) (ar := (Gy true Ab true Ab) ((v36, v37))) (.g rfl rfl) rfl rfl ⟨rfl, rfl, tv⟩ rfl rfl rfl (Gf (HG _ _ _ _ A3 A3) a38) ?_
        refine AY rfl (qp rfl (AI (by kernel_rfl) ?_))
        exact sn [] h
       ·refine qn rfl (qn rfl (qn rfl (qn rfl (qn rfl (qn rfl (qn rfl (qn rfl (qn rfl (qn rfl (qn rfl (qp rfl (AI (by kernel_rfl) ?_))))))))))))
        exact sn [] h
      ·refine Ba h rfl (fun h => ?_) fun h => ?_
       ·refine An (AJ (Ai Ac rfl (qm rfl (AV rfl (qe rfl ?_)))))
        exact sn [] h
       ·refine AT ?_
        exact sn [] h
     ·refine Aj hs (Ao ?_)
      refine AA (L := Cn N p1 p4 v30 v33) h (fun v40 => mk [(0, oD (.own 90000)), (1, iD p1), (4, oD (.clo (CC (Gy true Ab true Ab) Dc p4))), (12, iD v33), (13, iD v40)] [(90000, .vec 3 (v30.1.map Ab))]) (fun v41 => mk [(0, oD (.own 90000)), (1, iD p1), (4, oD (.clo (CC (Gy true Ab true Ab) Dc p4))), (12, iD v33), (13, iD v41)] [(90000, .vec 3 (v30.1.map Ab))]) (fun _ _ => rfl) (sm [] _ _ rfl rfl) (fun j40 n40 v40 h => ?_) (fun v41 s h hs => ?_)
      ·unfold Cn at h
       refine Ao ?_
       refine AR h (fun v42 => mk [(0, oD (.own 90000)), (1, iD p1), (4, oD (.clo (CC (Gy true Ab true Ab) Dc p4))), (12, iD v33), (13, iD v40), (139, bD v42)] [(90000, .vec 3 (v30.1.map Ab))]) (fun j42 h => ?_) (fun v42 h => ?_)
       ·refine Ai Ac rfl (qm rfl (qm rfl (KT rfl (qm rfl ?_))))
        refine E7 126 h rfl (fun h => ?_) fun h => ?_
        ·refine qm rfl (qm rfl (qm rfl ?_))
         refine Bb h fun v44 a44 b44 h => qI AP AO a44 (Af b44) rfl (qJ Dk AO (Af b44) rfl (qm rfl (qm rfl ?_)))
         refine Bb h fun v45 a45 b45 h => qI AP AO a45 (Af b45) rfl (qJ Dk AO (Af b45) rfl ?_)
         refine BR h fun v46 a46 h => Ge (ds0 := [_, _]) (ar := (Gy true Ab true Ab) ((v44, v45))) (.g rfl rfl) rfl rfl ⟨rfl, rfl, tv⟩ rfl rfl rfl (Gf (HG _ _ _ _ A3 A3) a46) ?_
         refine AY rfl (CO rfl (qp rfl (AI (by kernel_rfl) ?_)))
         exact sn [] h
        ·refine qn rfl (qn rfl (qn rfl (qn rfl (qn rfl (qn rfl (qn rfl (qn rfl (qn rfl (qn rfl (qn rfl (qn rfl (qp rfl (AI (by kernel_rfl) ?_)))))))))))))
         exact sn [] h
       ·refine Ba h rfl (fun h => ?_) fun h => ?_
        ·refine An (AJ (Ai Ac rfl (qm rfl (Dp rfl (qe rfl ?_)))))
         exact sn [] h
        ·refine AT ?_
         exact sn [] h
      ·refine Aj hs (Ao (Ar Ac rfl (qm rfl (qm rfl (GB rfl (Ae ?_))))))
       refine Ba h rfl (fun h => ?_) fun h => ?_
       ·refine AT ?_
        exact sn [] h
       ·refine An (Ar Ac rfl (qm rfl (qm rfl (qm rfl (qm rfl (qm rfl (qm rfl ?_)))))))
        refine Bb h fun v49 a49 b49 h => qI AP AO a49 (Af b49) rfl (qJ Dk AO (Af b49) rfl (qm rfl (qm rfl ?_)))
        refine Bb h fun v50 a50 b50 h => qI AP AO a50 (Af b50) rfl (qJ Dk AO (Af b50) rfl ?_)
        refine Bb h fun v51 a51 b51 h => qI AP AO a51 (Af b51) rfl ?_
        refine A7 rfl rfl rfl rfl (Af b51) rfl AO rfl (A0 rfl) (A4 Ab v30.1 _ v49) ?_
        refine Bb h fun v52 a52 b52 h => qI AP AO a52 (Af b52) rfl ?_
        refine A7 rfl rfl rfl rfl (Af b52) rfl AO rfl (A0 rfl) (A4 Ab (v30.1.set ((v33).toNat) v49) _ v50) ?_
        refine AI (by kernel_rfl) (Ar Ac rfl (qm rfl (AV rfl (qa rfl (Ae (Ai Ac rfl (qm rfl (Dp rfl (qe rfl ?_)))))))))
        exact sn [] h
    ·refine Aj hs (Ar Ac rfl (qm rfl (qm rfl (qm rfl (qm rfl (qm rfl (qm rfl ?_)))))))
     refine Bb h fun v53 a53 b53 h => qI AP AO a53 (Af b53) rfl (qJ Dk AO (Af b53) rfl (qm rfl (qm rfl ?_)))
     refine Bb h fun v54 a54 b54 h => qI AP AO a54 (Af b54) rfl (qJ Dk AO (Af b54) rfl ?_)
     refine Bb h fun v55 a55 b55 h => qI AP AO a55 (Af b55) rfl ?_
     refine A7 rfl rfl rfl rfl (Af b55) rfl AO rfl (A0 rfl) (A4 Ab v31.1 _ v53) ?_
     refine Bb h fun v56 a56 b56 h => qI AP AO a56 (Af b56) rfl ?_
     refine A7 rfl rfl rfl rfl (Af b56) rfl AO rfl (A0 rfl) (A4 Ab (v31.1.set ((v31.2).toNat) v53) _ v54) ?_
     refine AI (by kernel_rfl) (Ar Ac rfl (qm rfl (qa rfl (qe rfl ?_))))
     obtain rfl := sj h
     refine Aj (sm [] [(10, iD v31.2), (11, bD false)] [(90000, .vec 3 (((v31.1.set ((v31.2).toNat) v53).set ((p1).toNat) v54).map Ab))] rfl rfl) (Aw ?_)
     exact ⟨⟨[_, _], ⟨.tmp _ _ rfl, ⟨.tmp _ _ rfl, tv⟩⟩, rfl⟩, ⟨rfl, tv⟩, tv⟩
theorem HY (N : Nat) (rc : (List Aa) → Int → Int → Int → ((Aa × Aa) → Option Int) → Option ((List Aa))) (hrc : ∀ (p0 : List Aa) (p1 : Int) (p2 : Int) (p3 : Int) (p4 : (Aa × Aa) → Option Int) (r : (List Aa)), rc p0 p1 p2 p3 p4 = some r → B0 Tryz.prog 70 [oD (.own 90000), iD p1, iD p2, iD p3, oD (.clo (CC (Gy true Ab true Ab) Dc p4))] [(.vec 3 (p0.map Ab), .vec 3 (r.map Ab))] [] (.tup [])) (p0 : List Aa) (p1 : Int) (p2 : Int) (p3 : Int) (p4 : (Aa × Aa) → Option Int) (r : (List Aa)) (h : D6 N rc p0 p1 p2 p3 p4 = some r) : B0 Tryz.prog 70 [oD (.own 90000), iD p1, iD p2, iD p3, oD (.clo (CC (Gy true Ab true Ab) Dc p4))] [(.vec 3 (p0.map Ab), .vec 3 (r.map Ab))] [] (.tup []) := by
 unfold D6 at h
 refine Bk (n := 148) (rs := []) Tryz.func70 rfl rfl rfl (A0 rfl) (A0 rfl) rfl rfl (A0 rfl) rfl (A0 rfl) fun w0 S0 GL => Pn ?_
 refine Aj (sm [] [(0, oD (.own 90000)), (1, iD p1), (2, iD p2), (3, iD p3), (4, oD (.clo (CC (Gy true Ab true Ab) Dc p4)))] [(90000, .vec 3 (p0.map Ab))] rfl rfl) (Ar Ac rfl (qa rfl (Ae (Ar Ac rfl (qe rfl ?_)))))
 refine AA (L := Bm N p4 rc) h (fun v1 => mk [(0, oD (.own 90000)), (1, iD v1.2.1), (2, iD v1.2.2.1), (3, iD v1.2.2.2.1), (4, oD (.clo (CC (Gy true Ab true Ab) Dc p4))), (10, bD v1.2.2.2.2.1), (11, bD v1.2.2.2.2.2)] [(90000, .vec 3 (v1.1.map Ab))]) (fun v2 => mk [] []) (fun _ _ => rfl) (sm [] _ _ rfl rfl) (fun j1 n1 v1 h => ?_) (fun v2 s h hs => ?_)
 ·unfold Bm at h
  refine AJ (Ar Ac rfl (qm rfl (qm rfl (Dp rfl (qa rfl (Ae (Ao (Ar Ac rfl (qm rfl (KT rfl (Ae ?_)))))))))))
  refine Ba h rfl (fun h => ?_) fun h => ?_
  ·refine Ar Ac rfl (qm rfl (qm rfl (qm rfl (qm rfl ?_))))
   refine BR h fun v4 a4 h => DT (ds0 := [_, _, _, _]) [90000] [] [true] (Hl N v1.1 v1.2.1 v1.2.2.1 p4 v4 a4) (.p rfl) d9 rfl ⟨rfl, rfl, rfl, rfl, tv⟩ rfl rfl (by decide) ⟨rfl, tv⟩ rfl (Be rfl) tv ⟨(fun h => by cases h), tv⟩ rfl rfl rfl ?_
   refine Ae ?_
   obtain rfl := sj h
   refine Aw ⟨_, (sm [] [] [(90000, .vec 3 (v4.map Ab))] rfl rfl), ?_⟩
   exact ⟨⟨[], tv, rfl⟩, ⟨rfl, tv⟩, tv⟩
  ·refine An (Ao (Ar Ac rfl (qm rfl (B9 rfl (Ae ?_)))))
   refine Ba h rfl (fun h => ?_) fun h => ?_
   ·refine Ar Ac rfl (qm rfl (qm rfl (qm rfl (qm rfl ?_))))
    refine BR h fun v6 a6 h => DT (ds0 := [_, _, _, _]) [90000] [] [true] (H1 N v1.1 v1.2.1 v1.2.2.1 p4 v6 a6) (.p rfl) ev rfl ⟨rfl, rfl, rfl, rfl, tv⟩ rfl rfl (by decide) ⟨rfl, tv⟩ rfl (Be rfl) tv ⟨(fun h => by cases h), tv⟩ rfl rfl rfl ?_
    refine Ae ?_
    obtain rfl := sj h
    refine Aw ⟨_, (sm [] [] [(90000, .vec 3 (v6.map Ab))] rfl rfl), ?_⟩
    exact ⟨⟨[], tv, rfl⟩, ⟨rfl, tv⟩, tv⟩
   ·refine An ?_
    refine AR h (fun v7 => mk [(0, oD (.own 90000)), (1, iD v1.2.1), (2, iD v1.2.2.1), (3, iD v7.2), (4, oD (.clo (CC (Gy true Ab true Ab) Dc p4))), (10, bD v1.2.2.2.2.1), (11, bD v1.2.2.2.2.2), (12, iD ((wI .i64 (v1.2.2.1 - v1.2.1))))] [(90000, .vec 3 (v7.1.map Ab))]) (fun j7 h => ?_) (fun v7 h => ?_)
    ·refine Ar Ac rfl (qm rfl (CO rfl (Ae ?_)))
     refine Ba h rfl (fun h => ?_) fun h => ?_
     ·refine Ar Ac rfl (qm rfl (qm rfl (qm rfl (qm rfl ?_))))
      refine BR h fun v9 a9 h => DT (ds0 := [_, _, _, _]) [90000] [] [true] (Hg N v1.1 v1.2.1 v1.2.2.1 p4 v9 a9) (.p rfl) eu rfl ⟨rfl, rfl, rfl, rfl, tv⟩ rfl rfl (by decide) ⟨rfl, tv⟩ rfl (Be rfl) tv ⟨(fun h => by cases h), tv⟩ rfl rfl rfl ?_
      refine Ae (Ai Ac rfl (qm rfl (Dp rfl (qe rfl ?_))))
      exact sn [] h
     ·refine An ?_
      exact sn [] h
    ·refine Ar Ac rfl (qm rfl (qm rfl (qm rfl (qm rfl ?_))))
     refine BR h fun v10 a10 h => Fp [] [90000] (Hz N v7.1 v1.2.1 v1.2.2.1 p4 v10 a10) db Dr rfl (qm rfl (qx rfl (qx rfl (qa rfl (qe rfl ?_)))))
     refine AR h (fun v11 => mk [(0, oD (.own 90000)), (1, iD v1.2.1), (2, iD v1.2.2.1), (3, iD v7.2), (4, oD (.clo (CC (Gy true Ab true Ab) Dc p4))), (10, bD v1.2.2.2.2.1), (11, bD v1.2.2.2.2.2), (12, iD ((wI .i64 (v1.2.2.1 - v1.2.1)))), (13, iD v11.2.1), (14, iD v11.2.2)] [(90000, .vec 3 (v11.1.map Ab))]) (fun j11 h => ?_) (fun v11 h => ?_)
     ·refine Ar Ac rfl (qm rfl (B9 rfl (Ae ?_)))
      refine Ba h rfl (fun h => ?_) fun h => ?_
      ·refine Ar Ac rfl (qm rfl (qm rfl (qm rfl (qm rfl ?_))))
       refine BR h fun v13 a13 h => DT (ds0 := [_, _, _, _]) [90000] [] [true] (Hs N v7.1 v1.2.1 v1.2.2.1 p4 v13 a13) (.p rfl) dN rfl ⟨rfl, rfl, rfl, rfl, tv⟩ rfl rfl (by decide) ⟨rfl, tv⟩ rfl (Be rfl) tv ⟨(fun h => by cases h), tv⟩ rfl rfl rfl ?_
       refine Ae (Ar Ac rfl (qm rfl (Dp rfl (qm rfl (qm rfl (Dp rfl (Dp rfl (qa rfl (Ae (Ai Ac rfl (qe rfl ?_)))))))))))
       exact sn [] h
      ·refine An ?_
       exact sn [] h
     ·refine AR h (fun v14 => mk [(0, oD (.own 90000)), (1, iD v1.2.1), (2, iD v1.2.2.1), (3, iD v7.2), (4, oD (.clo (CC (Gy true Ab true Ab) Dc p4))), (10, bD v1.2.2.2.2.1), (11, bD v1.2.2.2.2.2), (12, iD ((wI .i64 (v1.2.2.1 - v1.2.1)))), (13, iD v11.2.1)] [(90000, .vec 3 (v14.map Ab))]) (fun j14 h => ?_) (fun v14 h => ?_)
      ·refine AR h (fun v15 => mk [(0, oD (.own 90000)), (1, iD v1.2.1), (2, iD v1.2.2.1), (3, iD v7.2), (4, oD (.clo (CC (Gy true Ab true Ab) Dc p4))), (10, bD v1.2.2.2.2.1), (11, bD v1.2.2.2.2.2), (12, iD ((wI .i64 (v1.2.2.1 - v1.2.1)))), (13, iD v11.2.1), (75, bD v15)] [(90000, .vec 3 (v11.1.map Ab))]) (fun j15 h => ?_) (fun v15 h => ?_)
       ·refine Ai Ac rfl (qm rfl (qm rfl ?_))
        refine E7 69 h rfl (fun h => ?_) fun h => ?_
        ·refine qm rfl (qp rfl (qm rfl ?_))
         refine E7 72 h rfl (fun h => ?_) fun h => ?_
         ·refine qm rfl (B9 rfl (qp rfl (Ae ?_)))
          exact sn [] h
         ·refine qn rfl (qn rfl (qp rfl (Ae ?_)))
          exact sn [] h
        ·refine qn rfl (qp rfl (qm rfl (qn rfl (qn rfl (qp rfl (Ae ?_))))))
         exact sn [] h
       ·refine Ba h rfl (fun h => ?_) fun h => ?_
        ·refine Ar Ac rfl (qm rfl (qm rfl (qm rfl (qm rfl ?_))))
         refine BR h fun v19 a19 h => DT (ds0 := [_, _, _, _]) [90000] [] [true] (Gz N v11.1 v1.2.1 v1.2.2.1 p4 v19 a19) (.p rfl) cP rfl ⟨rfl, rfl, rfl, rfl, tv⟩ rfl rfl (by decide) ⟨rfl, tv⟩ rfl (Be rfl) tv ⟨(fun h => by cases h), tv⟩ rfl rfl rfl ?_
         refine Ae ?_
         refine Ba h rfl (fun h => ?_) fun h => ?_
         ·obtain rfl := sj h
          refine Aw ⟨_, (sm [] [] [(90000, .vec 3 (v19.2.map Ab))] rfl rfl), ?_⟩
          exact ⟨⟨[], tv, rfl⟩, ⟨rfl, tv⟩, tv⟩
         ·refine An ?_
          exact sn [] h
        ·refine An ?_
         exact sn [] h
      ·refine Ao ?_
       refine AR h (fun v21 => mk [(0, oD (.own 90000)), (1, iD v1.2.1), (2, iD v1.2.2.1), (3, iD v7.2), (4, oD (.clo (CC (Gy true Ab true Ab) Dc p4))), (10, bD v1.2.2.2.2.1), (11, bD v1.2.2.2.2.2), (12, iD ((wI .i64 (v1.2.2.1 - v1.2.1)))), (13, iD v11.2.1), (97, bD v21)] [(90000, .vec 3 (v14.map Ab))]) (fun j21 h => ?_) (fun v21 h => ?_)
       ·refine Ai Ac rfl (qm rfl (GB rfl (qm rfl ?_)))
        refine E7 83 h rfl (fun h => ?_) fun h => ?_
        ·refine qm rfl (qm rfl (qm rfl (Dp rfl ?_)))
         refine Bb h fun v23 a23 b23 h => qI AP AO a23 (Af b23) rfl (qJ Dk AO (Af b23) rfl (qm rfl (qm rfl ?_)))
         refine Bb h fun v24 a24 b24 h => qI AP AO a24 (Af b24) rfl (qJ Dk AO (Af b24) rfl ?_)
         refine BR h fun v25 a25 h => Ge (ds0 := [_, _]) (ar := (Gy true Ab true Ab) ((v23, v24))) (.g rfl rfl) rfl rfl ⟨rfl, rfl, tv⟩ rfl rfl rfl (Gf (HG _ _ _ _ A3 A3) a25) ?_
         refine AY rfl (CO rfl (qp rfl (AI (by kernel_rfl) ?_)))
         exact sn [] h
        ·refine qn rfl (qn rfl (qn rfl (qn rfl (qn rfl (qn rfl (qn rfl (qn rfl (qn rfl (qn rfl (qn rfl (qn rfl (qn rfl (qp rfl (AI (by kernel_rfl) ?_))))))))))))))
         exact sn [] h
       ·refine Ba h rfl (fun h => ?_) fun h => ?_
        ·refine Ar Ac rfl (qm rfl (qm rfl (qm rfl (qm rfl (qm rfl ?_)))))
         refine BR h fun v27 a27 h => DT (ds0 := [_, _, _, _, _]) [90000] [] [true] (Hd N v14 v1.2.1 v1.2.2.1 v11.2.1 p4 v27 a27) (.p rfl) bV rfl ⟨rfl, rfl, rfl, rfl, rfl, tv⟩ rfl rfl (by decide) ⟨rfl, tv⟩ rfl (Be rfl) tv ⟨(fun h => by cases h), tv⟩ rfl rfl rfl ?_
         refine qa rfl (Ae (Ar Ac rfl (qm rfl (qa rfl (Ae (AT ?_))))))
         exact sn [] h
        ·refine An (Ar Ac rfl (qm rfl (qm rfl (qm rfl (qm rfl (qm rfl ?_))))))
         refine BR h fun v28 a28 h => DT (ds0 := [_, _, _, _, _]) [90000] [] [true] (HW N v14 v1.2.1 v1.2.2.1 v11.2.1 p4 v28 a28) (.p rfl) ci rfl ⟨rfl, rfl, rfl, rfl, rfl, tv⟩ rfl rfl (by decide) ⟨rfl, tv⟩ rfl (Be rfl) tv ⟨(fun h => by cases h), tv⟩ rfl rfl rfl ?_
         refine qm rfl (qx rfl (qx rfl (qa rfl (qa rfl (Ae (Ar Ac rfl (qm rfl (qa rfl (Ae (Ar Ac rfl (qm rfl (qm rfl (Dp rfl (qm rfl (qm rfl (Dp rfl (qa rfl (qa rfl (Ae (Ar Ac rfl (qm rfl (P9 rfl (by decide) (qa rfl (Ae (Ar Ac rfl (qm rfl (qm rfl (AY rfl (Ae ?_)))))))))))))))))))))))))))))
         refine Ba h rfl (fun h => ?_) fun h => ?_
         ·refine Ar Ac rfl (qm rfl (qm rfl (Ej rfl (qa rfl (Ae (Ar Ac rfl (qm rfl (qm rfl (qm rfl (qm rfl (qm rfl ?_)))))))))))
          refine BR h fun v30 a30 h => DT (ds0 := [_, _, _, _, _]) [90000] [] [true] (hrc v28.2.2 v1.2.1 v28.1 v7.2 p4 v30 a30) (.p rfl) bB rfl ⟨rfl, rfl, rfl, rfl, rfl, tv⟩ rfl rfl (by decide) ⟨rfl, tv⟩ rfl (Be rfl) tv ⟨(fun h => by cases h), tv⟩ rfl rfl rfl ?_
          refine Ae (Ai Ac rfl (qm rfl (AV rfl (qe rfl ?_))))
          exact sn [] h
         ·refine Ar Ac rfl (qm rfl (qm rfl (Ej rfl (qa rfl (Ae (Ar Ac rfl (qm rfl (qm rfl (AV rfl (qm rfl (qm rfl (qm rfl ?_))))))))))))
          refine BR h fun v31 a31 h => DT (ds0 := [_, _, _, _, _]) [90000] [] [true] (hrc v28.2.2 ((wI .i64 (v28.1 + 1))) v1.2.2.1 v7.2 p4 v31 a31) (.p rfl) bB rfl ⟨rfl, rfl, rfl, rfl, rfl, tv⟩ rfl rfl (by decide) ⟨rfl, tv⟩ rfl (Be rfl) tv ⟨(fun h => by cases h), tv⟩ rfl rfl rfl ?_
          refine Ae (Ai Ac rfl (qm rfl (qe rfl ?_)))
          exact sn [] h
 ·cases h
theorem FN (N : Nat) : ∀ (k : Nat) (p0 : List Aa) (p1 : Int) (p2 : Int) (p3 : Int) (p4 : (Aa × Aa) → Option Int) (r : (List Aa)), CW N k p0 p1 p2 p3 p4 = some r → B0 Tryz.prog 70 [oD (.own 90000), iD p1, iD p2, iD p3, oD (.clo (CC (Gy true Ab true Ab) Dc p4))] [(.vec 3 (p0.map Ab), .vec 3 (r.map Ab))] [] (.tup [])
 | 0, _, _, _, _, _, _, h => by cases h
 | k + 1, p0, p1, p2, p3, p4, r, h => HY N (CW N k) (FN N k) p0 p1 p2 p3 p4 r h
theorem Id (N : Nat) (p0 : List Aa) (p1 : Int) (p2 : Int) (p3 : Int) (p4 : (Aa × Aa) → Option Int) (r : (List Aa)) (h : F3 N p0 p1 p2 p3 p4 = some r) : B0 Tryz.prog 70 [oD (.own 90000), iD p1, iD p2, iD p3, oD (.clo (CC (Gy true Ab true Ab) Dc p4))] [(.vec 3 (p0.map Ab), .vec 3 (r.map Ab))] [] (.tup []) := FN N N p0 p1 p2 p3 p4 r h
theorem Hf (N : Nat) (p0 : List Aa) (p1 : (Aa × Aa) → Option Int) (r : (List Aa)) (h : Du N p0 p1 = some r) : B0 Tryz.prog 38 [oD (.own 90000), oD (.clo (CC (Gy true Ab true Ab) Dc p1))] [(.vec 3 (p0.map Ab), .vec 3 (r.map Ab))] [] (.tup []) := by
 unfold Du at h
 refine Bk (n := 14) (rs := []) Tryz.func38 rfl rfl rfl (A0 rfl) (A0 rfl) rfl rfl (A0 rfl) rfl (A0 rfl) fun w0 S0 GL => Pn ?_
 refine Aj (sm [] [(0, oD (.own 90000)), (1, oD (.clo (CC (Gy true Ab true Ab) Dc p1)))] [(90000, .vec 3 (p0.map Ab))] rfl rfl) (Ar Ac rfl (qm rfl (D4 AP rfl (qa rfl (Ae (Ai Ac rfl (qm rfl (qm rfl (qm rfl (Ja bq R0 rfl ?_))))))))))
 refine BR h fun v1 a1 h => AC [] (LX N ((wI .u64 ((p0.length : Int)))) v1 a1) cx rfl (qm rfl ?_)
 refine BR h fun v2 a2 h => DT (ds0 := [_, _, _, _, _]) [90000] [] [true] (Id N p0 0 ((p0.length : Int)) v1 p1 v2 a2) (.p rfl) bB rfl ⟨rfl, rfl, rfl, rfl, rfl, tv⟩ rfl rfl (by decide) ⟨rfl, tv⟩ rfl (Be rfl) tv ⟨(fun h => by cases h), tv⟩ rfl rfl rfl ?_
 refine Ae ?_
 obtain rfl := sj h
 refine ⟨_, (sm [] [] [(90000, .vec 3 (v2.map Ab))] rfl rfl), ?_⟩
 exact ⟨⟨[], tv, rfl⟩, ⟨rfl, tv⟩, tv⟩
theorem LW (N : Nat) (p0 : Int) (r : Bool) (h : H6 N p0 = some r) : Ax Tryz.prog 107 [iD p0] [] (bD r) := by
 unfold H6 at h
 refine Am (n := 6) (rs := [.tmp 2]) Tryz.func107 rfl rfl rfl (A0 rfl) (A0 rfl) rfl fun w0 S0 => ?_
 refine Ar Ac rfl (qa rfl (Ae (Ar Ac rfl (qm rfl (qm rfl (CF rfl (qe rfl ?_)))))))
 obtain rfl := sj h
 refine Aj (sm [] [(2, bD ((p0 != p0)))] [] rfl rfl) (Aw ?_)
 exact ⟨⟨[_], ⟨.tmp _ _ rfl, tv⟩, rfl⟩, tv⟩
theorem IW (N : Nat) (p0 : Int) (p1 : Int) (r : Int) (h : Gw N p0 p1 = some r) : Ax Tryz.prog 73 [iD p0, iD p1] [] (iD r) := by
 unfold Gw at h
 refine Am (n := 20) (rs := [.tmp 4]) Tryz.func73 rfl rfl rfl (A0 rfl) (A0 rfl) rfl fun w0 S0 => ?_
 refine Ar Ac rfl (qa rfl (Ae (Ar Ac rfl (qm rfl ?_))))
 refine BR h fun v1 a1 h => AC [] (LW N p0 v1 a1) ZU rfl (qa rfl (Ae (Ar Ac rfl (qm rfl ?_))))
 refine BR h fun v2 a2 h => AC [] (LW N p1 v2 a2) ZU rfl (qa rfl (Ae (Ao (Ar Ac rfl (qm rfl (Ae ?_))))))
 refine Ba h rfl (fun h => ?_) fun h => ?_
 ·refine Ao (Ar Ac rfl (qm rfl (Ae ?_)))
  refine Ba h rfl (fun h => ?_) fun h => ?_
  ·refine Ar Ac rfl (qe rfl ?_)
   obtain rfl := sj h
   refine Aj (sm [] [(4, iD 0)] [] rfl rfl) (Aw ?_)
   exact ⟨⟨[_], ⟨.tmp _ _ rfl, tv⟩, rfl⟩, tv⟩
  ·refine An (Ar Ac rfl (qe rfl ?_))
   obtain rfl := sj h
   refine Aj (sm [] [(4, iD ((-1)))] [] rfl rfl) (Aw ?_)
   exact ⟨⟨[_], ⟨.tmp _ _ rfl, tv⟩, rfl⟩, tv⟩
 ·refine An (Ao (Ar Ac rfl (qm rfl (Ae ?_))))
  refine Ba h rfl (fun h => ?_) fun h => ?_
  ·refine Ar Ac rfl (qe rfl ?_)
   obtain rfl := sj h
   refine Aj (sm [] [(4, iD 1)] [] rfl rfl) (Aw ?_)
   exact ⟨⟨[_], ⟨.tmp _ _ rfl, tv⟩, rfl⟩, tv⟩
  ·refine An (Ao (Ar Ac rfl (qm rfl (qm rfl (AY rfl (Ae ?_))))))
   refine Ba h rfl (fun h => ?_) fun h => ?_
   ·refine Ar Ac rfl (qe rfl ?_)
    obtain rfl := sj h
    refine Aj (sm [] [(4, iD ((-1)))] [] rfl rfl) (Aw ?_)
    exact ⟨⟨[_], ⟨.tmp _ _ rfl, tv⟩, rfl⟩, tv⟩
   ·refine An (Ao (Ar Ac rfl (qm rfl (qm rfl (GB rfl (Ae ?_))))))
    refine Ba h rfl (fun h => ?_) fun h => ?_
    ·refine Ar Ac rfl (qe rfl ?_)
     obtain rfl := sj h
     refine Aj (sm [] [(4, iD 1)] [] rfl rfl) (Aw ?_)
     exact ⟨⟨[_], ⟨.tmp _ _ rfl, tv⟩, rfl⟩, tv⟩
    ·refine An (Ar Ac rfl (qe rfl ?_))
     obtain rfl := sj h
     refine Aj (sm [] [(4, iD 0)] [] rfl rfl) (Aw ?_)
     exact ⟨⟨[_], ⟨.tmp _ _ rfl, tv⟩, rfl⟩, tv⟩
theorem Tk (N : Nat) (p0 : List Int) (r : Int) (h : KY N p0 = some r) : Ax Tryz.prog 72 [pD (.sl (p0.map Av))] [] (iD r) := by
 unfold KY at h
 refine Am (n := 18) (rs := [.tmp 2]) Tryz.func72 rfl rfl rfl (A0 rfl) (A0 rfl) rfl fun w0 S0 => ?_
 refine Ar Ac rfl (qa rfl (Ae (Ar Ac rfl (qa rfl (Ae (Ao (Ar Ac rfl (qm rfl (AX AE rfl (qm rfl (Ae ?_)))))))))))
 refine AA (L := H4 N p0) h (fun v1 => mk [(3, iD 0), (6, pD (.sl (p0.map Av))), (7, iD ((p0.length : Int))), (8, iD v1)] []) (fun v2 => mk [(3, iD 0)] []) (fun _ _ => rfl) (sm [] _ _ rfl rfl) (fun j1 n1 v1 h => ?_) (fun v2 s h hs => ?_)
 ·unfold H4 at h
  refine Ar Ac rfl (AY rfl (Ae (Ao ?_)))
  refine Ba h rfl (fun h => ?_) fun h => ?_
  ·refine An (Ao (AJ (Ar Ac rfl ?_)))
   refine Bb h fun v4 a4 b4 h => qi AE Et a4 (Af b4) rfl (qk CV rfl (qa rfl (Ae (Ar Ac rfl (qm rfl (qm rfl (CF rfl (Ae ?_))))))))
   refine Ba h rfl (fun h => ?_) fun h => ?_
   ·refine Ar Ac rfl (qm rfl (qe rfl ?_))
    obtain rfl := sj h
    refine Aj (sm [] [(2, iD v4)] [] rfl rfl) (Aw ?_)
    exact ⟨⟨[_], ⟨.tmp _ _ rfl, tv⟩, rfl⟩, tv⟩
   ·refine An (Ai Ac rfl (AV rfl (qm rfl (Ae ?_))))
    exact sn [] h
  ·refine AT ?_
   exact sn [] h
 ·refine Aj hs (Ar Ac rfl (qm rfl (qe rfl ?_)))
  obtain rfl := sj h
  refine Aj (sm [] [(2, iD 0)] [] rfl rfl) (Aw ?_)
  exact ⟨⟨[_], ⟨.tmp _ _ rfl, tv⟩, rfl⟩, tv⟩
theorem NY (N : Nat) (p0 : Aa) (p1 : Aa) (r : Int) (h : Hj N p0 p1 = some r) : Ax Tryz.prog 39 [.e (.agg (FG p0)), .e (.agg (FG p1))] [] (iD r) := by
 unfold Hj at h
 refine Am (n := 22) (rs := [.tmp 4]) Tryz.func39 rfl rfl rfl (A0 rfl) (A0 rfl) rfl fun w0 S0 => ?_
 refine Ar Ac rfl (qb rfl (qb rfl (qa rfl (Ae (Ar Ac rfl (qf SN rfl (ql CV rfl (qf SN rfl (ql CV rfl ?_)))))))))
 refine BR h fun v1 a1 h => AC [] (IW N p0.fw p1.fw v1 a1) bf rfl (qf Sr rfl (ql CV rfl (qf Sr rfl (ql CV rfl ?_))))
 refine BR h fun v2 a2 h => AC [] (IW N p0.fv p1.fv v2 a2) bf rfl (qf SY rfl (ql CV rfl (qf SY rfl (ql CV rfl ?_))))
 refine BR h fun v3 a3 h => AC [] (IW N p0.fu p1.fu v3 a3) bf rfl (E5 AE Et Lt rfl ?_)
 refine BR h fun v4 a4 h => Fp [] [20] (Tk N (([v1, v2, v3] : List Int)) v4 a4) eE Dr rfl (qa rfl (AI (by kernel_rfl) ?_))
 obtain rfl := sj h
 refine Aj (sm [] [(4, iD v4)] [] rfl rfl) (Aw ?_)
 exact ⟨⟨[_], ⟨.tmp _ _ rfl, tv⟩, rfl⟩, tv⟩
theorem Hk (N : Nat) (p0 : List Aa) (r : Nat × (List Aa)) (h : Dz N p0 = some r) : B0 Tryz.prog 40 [oD (.own 90000)] [(.vec 3 (p0.map Ab), .vec 3 (r.2.map Ab))] [] (oD (.view 90000 3 0 r.1)) := by
 unfold Dz at h
 refine Bk (n := 61) (rs := [.tmp 2]) Tryz.func40 rfl rfl rfl (A0 rfl) (A0 rfl) rfl rfl (A0 rfl) rfl (A0 rfl) fun w0 S0 GL => ?_
 refine Aj (sm [] [(0, oD (.own 90000))] [(90000, .vec 3 (p0.map Ab))] rfl rfl) (Ar Ac rfl (qa rfl (Ae (Ao (Ar Ac rfl (qm rfl (D4 AP rfl (AY rfl (Ae ?_)))))))))
 refine Ba h rfl (fun h => ?_) fun h => ?_
 ·refine Ar Ac rfl (qm rfl (qe rfl ?_))
  obtain rfl := sj h
  refine Aj ((PC Ab p0 2 90000 3 rfl rfl).trans (sm [] [(2, oD (.view 90000 3 0 p0.length))] [(90000, .vec 3 (p0.map Ab))] rfl rfl)) (Aw ?_)
  exact ⟨⟨[_], ⟨.tmp _ _ rfl, tv⟩, rfl⟩, ⟨rfl, tv⟩, tv⟩
 ·refine An (Ao (Ar Ac rfl (qe rfl ?_)))
  refine AA (L := B7 N p0) h (fun v2 => mk [(0, oD (.own 90000)), (3, iD v2)] [(90000, .vec 3 (p0.map Ab))]) (fun v3 => mk [(0, oD (.own 90000))] [(90000, .vec 3 (p0.map Ab))]) (fun _ _ => rfl) (sm [] _ _ rfl rfl) (fun j2 n2 v2 h => ?_) (fun v3 s h hs => ?_)
  ·unfold B7 at h
   refine Ao (Ar Ac rfl (qm rfl (qm rfl (D4 AP rfl (AY rfl (Ae ?_))))))
   refine Ba h rfl (fun h => ?_) fun h => ?_
   ·refine An (Ao (AJ (Ar Ac rfl (qm rfl (qm rfl ?_)))))
    refine Bb h fun v5 a5 b5 h => qI AP AO a5 (Af b5) rfl (qJ Dk AO (Af b5) rfl (qm rfl (qm rfl (Dp rfl ?_))))
    refine Bb h fun v6 a6 b6 h => qI AP AO a6 (Af b6) rfl (qJ Dk AO (Af b6) rfl ?_)
    refine UK [.int .i64 v5.fw, .int .i64 v5.fv, .int .i64 v5.fu] [.int .i64 v6.fw, .int .i64 v6.fv, .int .i64 v6.fu] (.p rfl) rfl rfl R4 rfl ?_
    refine AI (by kernel_rfl) ?_
    refine Ba h rfl (fun h => ?_) fun h => ?_
    ·refine Ar Ac rfl (qm rfl (qm rfl ?_))
     obtain ⟨c8, h⟩ := F9 h
     have w9 : ((v2).toNat) + ((p0.length - (v2).toNat)) ≤ p0.length := by have := c8.2.1; have := c8.2.2; omega
     refine Il Ab p0 (.p rfl) rfl (Iu Ab _ _ p0) rfl AP AO (.some _ _ _ _ c8.1) (.none _) ⟨rfl, tv⟩ tv c8.2.1 (by rw [Nat.zero_add]; exact c8.2.2) (Nat.zero_add _) rfl ?_
     refine qa rfl (Ae (Ao (Ar Ac rfl (qe rfl ?_))))
     refine AA (L := BZ N p0 v2) h (fun v10 => mk [(0, oD (.own 90000)), (3, iD v10.2.1), (4, oD (.view 90000 3 ((v2).toNat) ((p0.length - (v2).toNat)))), (5, iD v10.2.2)] [(90000, .vec 3 (v10.1.map Ab))]) (fun v11 => mk [(0, oD (.own 90000)), (3, iD v11.2)] [(90000, .vec 3 (v11.1.map Ab))]) (fun _ _ => rfl) (sm [] _ _ rfl rfl) (fun j10 n10 v10 h => ?_) (fun v11 s h hs => ?_)
     ·unfold BZ at h
      refine Ao (Ar Ac rfl (qm rfl (qm rfl ?_)))
      refine V2 (.p rfl) rfl AP ?_
      refine AY rfl (Ae ?_)
      refine Ba h rfl (fun h => ?_) fun h => ?_
      ·refine An ?_
       refine AR h (fun v13 => mk [(0, oD (.own 90000)), (3, iD v13.2), (4, oD (.view 90000 3 ((v2).toNat) ((p0.length - (v2).toNat)))), (5, iD v10.2.2)] [(90000, .vec 3 (v13.1.map Ab))]) (fun j13 h => ?_) (fun v13 h => ?_)
       ·refine AJ (Ar Ac rfl (qm rfl (qm rfl ?_)))
        refine GA h fun c15 h => Bb h fun v14 a14 b14 h => OV Ab v10.1 (.p rfl) rfl c15 rfl rfl AP AO a14 (Lr b14).1 rfl ?_
        refine Ou (.p rfl) rfl Dk AO rfl (Af (Lr b14).2) ?_
        refine qm rfl (qm rfl (Dp rfl ?_))
        refine Bb h fun v16 a16 b16 h => OV Ab v10.1 (.p rfl) rfl c15 rfl rfl AP AO a16 (Lr b16).1 rfl ?_
        refine Ou (.p rfl) rfl Dk AO rfl (Af (Lr b16).2) ?_
        refine dA [.int .i64 v14.fw, .int .i64 v14.fv, .int .i64 v14.fu] [.int .i64 v16.fw, .int .i64 v16.fv, .int .i64 v16.fu] (.p rfl) rfl rfl R4 rfl ?_
        refine AI (by kernel_rfl) ?_
        refine Ba h rfl (fun h => ?_) fun h => ?_
        ·refine Ar Ac rfl (qm rfl (qm rfl (qm rfl (qm rfl ?_))))
         refine Bb h fun v18 a18 b18 h => OV Ab v10.1 (.p rfl) rfl c15 rfl rfl AP AO a18 (Lr b18).1 rfl ?_
         refine Ou (.p rfl) rfl Dk AO rfl (Af (Lr b18).2) ?_
         refine Bb h fun v19 a19 b19 h => qI AP AO a19 (Af b19) rfl ?_
         refine A7 rfl rfl rfl rfl (Af b19) rfl AO rfl (A0 rfl) (A4 Ab v10.1 _ v18) ?_
         refine Ae (Ai Ac rfl (qm rfl (AV rfl (qe rfl ?_))))
         exact sn [] h
        ·refine An ?_
         exact sn [] h
       ·refine Ai Ac rfl (qm rfl (AV rfl (qe rfl ?_)))
        exact sn [] h
      ·refine AT ?_
       exact sn [] h
     ·refine Aj hs (Ar Ac rfl (qm rfl (qm rfl ?_)))
      obtain ⟨c20, h⟩ := F9 h
      have w21 : ((v11.2).toNat) + ((v11.1.length - (v11.2).toNat)) ≤ v11.1.length := by have := c20.2.1; have := c20.2.2; omega
      refine Il Ab v11.1 (.p rfl) rfl (Iu Ab _ _ v11.1) rfl AP AO (.some _ _ _ _ c20.1) (.none _) ⟨rfl, tv⟩ tv c20.2.1 (by rw [Nat.zero_add]; exact c20.2.2) (Nat.zero_add _) rfl ?_
      have w22 : (HM v11.1 ((v11.2).toNat) (List.replicate ((v11.1.length - (v11.2).toNat)) ((Aa.mk 0 0 0)))).length = v11.1.length := IF (by rw [List.length_replicate]; exact w21)
      refine QG Ab v11.1 ((Aa.mk 0 0 0)) rfl rfl (J7 Ab _ _ ((v11.2).toNat) ((v11.1.length - (v11.2).toNat)) v11.1 w21) rfl AP HA rfl rfl rfl rfl ?_
      refine Ae (Ar Ac rfl (qm rfl (qm rfl ?_)))
      obtain ⟨c23, h⟩ := F9 h
      have w24 : 0 + ((v11.2).toNat) ≤ (HM v11.1 ((v11.2).toNat) (List.replicate ((v11.1.length - (v11.2).toNat)) ((Aa.mk 0 0 0)))).length := by have := c23.2.1; have := c23.2.2; omega
      refine Il Ab (HM v11.1 ((v11.2).toNat) (List.replicate ((v11.1.length - (v11.2).toNat)) ((Aa.mk 0 0 0)))) (.p rfl) rfl (Iu Ab _ _ (HM v11.1 ((v11.2).toNat) (List.replicate ((v11.1.length - (v11.2).toNat)) ((Aa.mk 0 0 0))))) rfl AP AO (.none _) (.some _ _ _ _ c23.1) tv ⟨rfl, tv⟩ c23.2.1 (by rw [Nat.zero_add]; exact c23.2.2) (Nat.zero_add _) rfl ?_
      refine qa rfl (Ae ?_)
      obtain rfl := sj h
      refine Aj (sm [] [(2, oD (.view 90000 3 0 ((v11.2).toNat)))] [(90000, .vec 3 ((HM v11.1 ((v11.2).toNat) (List.replicate ((v11.1.length - (v11.2).toNat)) ((Aa.mk 0 0 0)))).map Ab))] rfl rfl) (Aw ?_)
      exact ⟨⟨[_], ⟨.tmp _ _ rfl, tv⟩, rfl⟩, ⟨rfl, tv⟩, tv⟩
    ·refine An (Ai Ac rfl (qm rfl (AV rfl (qe rfl ?_))))
     exact sn [] h
   ·refine AT ?_
    exact sn [] h
  ·refine Aj hs (Ar Ac rfl (qm rfl (qe rfl ?_)))
   obtain rfl := sj h
   refine Aj ((PC Ab p0 2 90000 3 rfl rfl).trans (sm [] [(2, oD (.view 90000 3 0 p0.length))] [(90000, .vec 3 (p0.map Ab))] rfl rfl)) (Aw ?_)
   exact ⟨⟨[_], ⟨.tmp _ _ rfl, tv⟩, rfl⟩, ⟨rfl, tv⟩, tv⟩
theorem Hp (N : Nat) (p0 : List Aa) (p1 : Int) (p2 : Int) (r : Nat × (List Aa)) (h : DJ N p0 p1 p2 = some r) : B0 Tryz.prog 25 [oD (.own 90000), iD p1, iD p2] [(.vec 3 (p0.map Ab), .vec 3 (r.2.map Ab))] [] (oD (.view 90000 3 0 r.1)) := by
 unfold DJ at h
 refine Bk (n := 33) (rs := [.tmp 6]) Tryz.func25 rfl rfl rfl (A0 rfl) (A0 rfl) rfl rfl (A0 rfl) rfl (A0 rfl) fun w0 S0 GL => ?_
 refine Aj (sm [] [(0, oD (.own 90000)), (1, iD p1), (2, iD p2)] [(90000, .vec 3 (p0.map Ab))] rfl rfl) (Ar Ac rfl (qa rfl (Ae (Ar Ac rfl (qm rfl (qm rfl (qm rfl (qm rfl (D4 AP rfl ?_)))))))))
 refine GA h fun c1 h => X0 (.p rfl) rfl rfl AP AO rfl rfl rfl c1.1 c1.2.1 c1.2.2.1 c1.2.2.2.1 c1.2.2.2.2.1 (by rw [List.length_map]; exact c1.2.2.2.2.2) ?_
 refine Ae (Ao (Ar Ac rfl (qm rfl (qm rfl (B9 rfl (Ae ?_))))))
 refine Ba h rfl (fun h => ?_) fun h => ?_
 ·refine Ar Ac rfl (qm rfl (qe rfl ?_))
  obtain rfl := sj h
  refine Aj ((PC Ab p0 6 90000 3 rfl rfl).trans (sm [] [(6, oD (.view 90000 3 0 p0.length))] [(90000, .vec 3 (p0.map Ab))] rfl rfl)) (Aw ?_)
  exact ⟨⟨[_], ⟨.tmp _ _ rfl, tv⟩, rfl⟩, ⟨rfl, tv⟩, tv⟩
 ·refine An (Ar Ac rfl (qm rfl (D4 AP rfl (qa rfl (Ae (Ar Ac rfl (qm rfl (qm rfl ?_))))))))
  obtain ⟨c3, h⟩ := F9 h
  have w4 : 0 + ((p1).toNat) ≤ p0.length := by have := c3.2.1; have := c3.2.2; omega
  refine Il Ab p0 (.p rfl) rfl (Iu Ab _ _ p0) rfl AP AO (.none _) (.some _ _ _ _ c3.1) tv ⟨rfl, tv⟩ c3.2.1 (by rw [Nat.zero_add]; exact c3.2.2) (Nat.zero_add _) rfl ?_
  refine qm rfl (qm rfl ?_)
  obtain ⟨c5, h⟩ := F9 h
  have w6 : ((p2).toNat) + ((p0.length - (p2).toNat)) ≤ p0.length := by have := c5.2.1; have := c5.2.2; omega
  refine Il Ab p0 (.p rfl) rfl (Iu Ab _ _ p0) rfl AP AO (.some _ _ _ _ c5.1) (.none _) ⟨rfl, tv⟩ tv c5.2.1 (by rw [Nat.zero_add]; exact c5.2.2) (Nat.zero_add _) rfl ?_
  obtain ⟨c7, h⟩ := F9 h
  have w9f : 0 + ((p1).toNat) + (((p0.drop ((p2).toNat)).take ((p0.length - (p2).toNat)))).length ≤ p0.length := by have := c7; omega
  have w8 : (HM p0 (0 + ((p1).toNat)) (((p0.drop ((p2).toNat)).take ((p0.length - (p2).toNat))))).length = p0.length := IF w9f
  have w9 : 0 + ((p1).toNat + (((p0.drop ((p2).toNat)).take ((p0.length - (p2).toNat)))).length) ≤ (HM p0 (0 + ((p1).toNat)) (((p0.drop ((p2).toNat)).take ((p0.length - (p2).toNat))))).length := by rw [w8]; have := c7; omega
  refine VD Ab p0 (((p0.drop ((p2).toNat)).take ((p0.length - (p2).toNat)))) (.p rfl) rfl (J7 Ab _ _ 0 ((p1).toNat) p0 w4) rfl rfl (RU Ab _ _ ((p2).toNat) ((p0.length - (p2).toNat)) p0 w6) ⟨rfl, tv⟩ AP AP AO w9f rfl ?_
  refine qa rfl (AI (by kernel_rfl) (Ar Ac rfl (qm rfl (qm rfl ?_))))
  refine V2 (.p rfl) rfl AP ?_
  refine qm rfl ?_
  obtain ⟨c10, h⟩ := F9 h
  have w11 : (((((((p1).toNat + (((p0.drop ((p2).toNat)).take ((p0.length - (p2).toNat)))).length)) : Nat) : Int)).toNat) + ((((p0.length : Int)).toNat - ((((((p1).toNat + (((p0.drop ((p2).toNat)).take ((p0.length - (p2).toNat)))).length)) : Nat) : Int)).toNat)) ≤ (HM p0 (0 + ((p1).toNat)) (((p0.drop ((p2).toNat)).take ((p0.length - (p2).toNat))))).length := by have := c10.2.2.1; have := c10.2.2.2; omega
  refine Il Ab (HM p0 (0 + ((p1).toNat)) (((p0.drop ((p2).toNat)).take ((p0.length - (p2).toNat))))) (.p rfl) rfl (J7 Ab _ _ 0 (((p1).toNat + (((p0.drop ((p2).toNat)).take ((p0.length - (p2).toNat)))).length)) (HM p0 (0 + ((p1).toNat)) (((p0.drop ((p2).toNat)).take ((p0.length - (p2).toNat))))) w9) rfl AP AO (.some _ _ _ _ c10.1) (.some _ _ _ _ c10.2.1) ⟨rfl, tv⟩ ⟨rfl, tv⟩ c10.2.2.1 (by rw [Nat.zero_add]; exact c10.2.2.2) (Nat.zero_add _) rfl ?_
  have w12 : (HM (HM p0 (0 + ((p1).toNat)) (((p0.drop ((p2).toNat)).take ((p0.length - (p2).toNat))))) (((((((p1).toNat + (((p0.drop ((p2).toNat)).take ((p0.length - (p2).toNat)))).length)) : Nat) : Int)).toNat) (List.replicate ((((p0.length : Int)).toNat - ((((((p1).toNat + (((p0.drop ((p2).toNat)).take ((p0.length - (p2).toNat)))).length)) : Nat) : Int)).toNat)) ((Aa.mk 0 0 0)))).length = (HM p0 (0 + ((p1).toNat)) (((p0.drop ((p2).toNat)).take ((p0.length - (p2).toNat))))).length := IF (by rw [List.length_replicate]; exact w11)
  refine QG Ab (HM p0 (0 + ((p1).toNat)) (((p0.drop ((p2).toNat)).take ((p0.length - (p2).toNat))))) ((Aa.mk 0 0 0)) rfl rfl (J7 Ab _ _ (((((((p1).toNat + (((p0.drop ((p2).toNat)).take ((p0.length - (p2).toNat)))).length)) : Nat) : Int)).toNat) ((((p0.length : Int)).toNat - ((((((p1).toNat + (((p0.drop ((p2).toNat)).take ((p0.length - (p2).toNat)))).length)) : Nat) : Int)).toNat)) (HM p0 (0 + ((p1).toNat)) (((p0.drop ((p2).toNat)).take ((p0.length - (p2).toNat))))) w11) rfl AP HA rfl rfl rfl rfl ?_
  refine Ae (Ar Ac rfl (qm rfl (qe rfl ?_)))
  obtain rfl := sj h
  refine Aj (sm [] [(6, oD (.view 90000 3 0 (((p1).toNat + (((p0.drop ((p2).toNat)).take ((p0.length - (p2).toNat)))).length))))] [(90000, .vec 3 ((HM (HM p0 (0 + ((p1).toNat)) (((p0.drop ((p2).toNat)).take ((p0.length - (p2).toNat))))) (((((((p1).toNat + (((p0.drop ((p2).toNat)).take ((p0.length - (p2).toNat)))).length)) : Nat) : Int)).toNat) (List.replicate ((((p0.length : Int)).toNat - ((((((p1).toNat + (((p0.drop ((p2).toNat)).take ((p0.length - (p2).toNat)))).length)) : Nat) : Int)).toNat)) ((Aa.mk 0 0 0)))).map Ab))] rfl rfl) (Aw ?_)
  exact ⟨⟨[_], ⟨.tmp _ _ rfl, tv⟩, rfl⟩, ⟨rfl, tv⟩, tv⟩
theorem Oo (N : Nat) (p0 : Ad) (p1 : List Aa) (r : Bool × Int) (h : Iy N p0 p1 = some r) : Ax Tryz.prog 14 [.e (.agg (Ak p0)), pD (.sl (p1.map Ab))] [] (.tup [.one (.pure (.val (.bool r.1))), .one (iC r.2)]) := by
 unfold Iy at h
 refine Am (n := 69) (rs := [.tmp 4, .tmp 5]) Tryz.func14 rfl rfl rfl (A0 rfl) (A0 rfl) rfl fun w0 S0 => ?_
 refine Ar Ac rfl (qb rfl (qa rfl (qa rfl (Ae (Ao (Ar Ac rfl (qL Dv Ci rfl (qm rfl ?_))))))))
 refine BR h fun v1 a1 h => AC [] (Pu N p0 p1 v1 a1) eQ rfl (qa rfl (Ae (Ar Ac rfl (qm rfl (CF rfl (Ae ?_))))))
 refine Ba h rfl (fun h => ?_) fun h => ?_
 ·refine Ar Ac rfl (qm rfl (qa rfl (qe rfl ?_)))
  obtain rfl := sj h
  refine Aj (sm [] [(4, bD false), (5, iD v1)] [] rfl rfl) (Aw ?_)
  exact ⟨⟨[_, _], ⟨.tmp _ _ rfl, ⟨.tmp _ _ rfl, tv⟩⟩, rfl⟩, tv⟩
 ·refine An (Ar Ac rfl (qm rfl ?_))
  refine BR h fun v3 a3 h => AC [2001] (Ft N p1 v3 a3) cU rfl (qa rfl (Ae (Ar Ac rfl (qm rfl ?_))))
  refine BR h fun v4 a4 h => DT (ds0 := [_, _]) [2001] [] [true] (B0.weak (ds' := [_, oD (.fnc 39)]) (Hf N v3 ((fun (x : Aa × Aa) => Hj N x.1 x.2)) v4 a4) ⟨(fun _ _ _ hh => hh), (fun _ _ _ hh => Yv eJ (fun ar t ht => by obtain ⟨x, r, rfl, hq, rfl⟩ := Lm ht; exact NY N x.1 x.2 r hq) hh), tv⟩) (.p rfl) eI rfl ⟨rfl, rfl, tv⟩ rfl rfl (by decide) ⟨rfl, tv⟩ rfl (Be rfl) tv ⟨(fun h => by cases h), tv⟩ rfl rfl rfl ?_
  refine Ae (Ar Ac rfl (qm rfl ?_))
  obtain ⟨v5, a5, h⟩ := bind_some h
  obtain ⟨c6, h⟩ := F9 h
  have w7 : 0 + v5.1 ≤ v5.2.length := by rw [Nat.zero_add]; exact c6
  refine DT (ds0 := [_]) [2001] [] [true] (Hk N v4 v5 a5) (.p rfl) eq rfl ⟨rfl, tv⟩ rfl rfl (by decide) ⟨rfl, tv⟩ rfl (Be rfl) tv ⟨(fun h => by cases h), tv⟩ rfl rfl rfl ?_
  refine EF (Xz Ab v5.2 24 2001 2002 3 v5.1 rfl rfl rfl rfl rfl c6) (qa rfl (Ae (Ao ?_)))
  refine AR h (fun v8 => mk [(2, oD (.ptr 2 0)), (7, oD (.own 2003)), (33, bD v8)] [(2, .box (Ak p0)), (2003, .vec 3 ((v5.2.take v5.1).map Ab))]) (fun j8 h => ?_) (fun v8 h => ?_)
  ·refine Ai Ac rfl (qL Dv Ci rfl ?_)
   refine BR h fun v9 a9 h => AC [2004] (IY N p0 v9 a9) aZ rfl (D4 AP rfl (GB rfl (qm rfl ?_)))
   refine E7 29 h rfl (fun h => ?_) fun h => ?_
   ·refine qn rfl (qn rfl (qn rfl (qp rfl (Ae ?_))))
    exact sn [(2003, 2002)] h
   ·refine qm rfl (D4 AP rfl (GB rfl (qp rfl (Ae ?_))))
    exact sn [(2003, 2002)] h
  ·refine Ba h rfl (fun h => ?_) fun h => ?_
   ·refine Ar Ac rfl (qa rfl (qe rfl ?_))
    obtain rfl := sj h
    refine Aj (sm [] [(4, bD false), (5, iD 3)] [] rfl rfl) (Aw ?_)
    exact ⟨⟨[_, _], ⟨.tmp _ _ rfl, ⟨.tmp _ _ rfl, tv⟩⟩, rfl⟩, tv⟩
   ·refine An (Ar Ac rfl (qL Dv Ci rfl (qm rfl ?_)))
    refine BR h fun v12 a12 h => Fp [] [2003] (IV N p0 (v5.2.take v5.1) v12 a12) aF Dr rfl (qm rfl (qx rfl (qx rfl (qa rfl (qa rfl (Ae (Ao (Ar Ac rfl (qm rfl (CF rfl (Ae ?_)))))))))))
    refine Ba h rfl (fun h => ?_) fun h => ?_
    ·refine Ar Ac rfl (qm rfl (qa rfl (qe rfl ?_)))
     obtain rfl := sj h
     refine Aj (sm [] [(4, bD false), (5, iD v12.2)] [] rfl rfl) (Aw ?_)
     exact ⟨⟨[_, _], ⟨.tmp _ _ rfl, ⟨.tmp _ _ rfl, tv⟩⟩, rfl⟩, tv⟩
    ·refine An (Ao (Ar Ac rfl (qm rfl (D4 AP rfl (qm rfl (Ae ?_))))))
     refine AA (L := Gd N p0 v5) h (fun v14 => mk [(2, oD (.ptr 2 0)), (7, oD (.own 2005)), (8, bD v14.1), (44, iD (((v5.2.take v5.1).length : Int))), (45, iD v14.2)] [(2, .box (Ak p0)), (2005, .vec 3 ((v5.2.take v5.1).map Ab))]) (fun v15 => mk [(8, bD v15)] []) (fun _ _ => rfl) (sm [(2005, 2003)] _ _ rfl rfl) (fun j14 n14 v14 h => ?_) (fun v15 s h hs => ?_)
     ·unfold Gd at h
      refine Ar Ac rfl (AY rfl (Ae (Ao ?_)))
      refine Ba h rfl (fun h => ?_) fun h => ?_
      ·refine An ?_
       refine AR h (fun v17 => mk [(2, oD (.ptr 2 0)), (7, oD (.own 2006)), (8, bD v17), (44, iD (((v5.2.take v5.1).length : Int))), (45, iD v14.2)] [(2, .box (Ak p0)), (2006, .vec 3 ((v5.2.take v5.1).map Ab))]) (fun j17 h => ?_) (fun v17 h => ?_)
       ·refine AJ (Ar Ac rfl (qm rfl (qa rfl (Ae (Ar Ac rfl (qL Dv Ci rfl (qm rfl ?_)))))))
        refine BR h fun v18 a18 h => Fp [2007] [2005] (Ft N (v5.2.take v5.1) v18 a18) cU (Ks (fun _ => rfl) Dr) rfl (qm rfl (qm rfl (AV rfl ?_)))
        obtain ⟨v19, a19, h⟩ := bind_some h
        obtain ⟨c20, h⟩ := F9 h
        have w21 : 0 + v19.1 ≤ v19.2.length := by rw [Nat.zero_add]; exact c20
        refine DT (ds0 := [_, _, _]) [2007] [] [true] (Hp N v18 v14.2 ((wI .i64 (v14.2 + 1))) v19 a19) (.p rfl) d8 rfl ⟨rfl, rfl, rfl, tv⟩ rfl rfl (by decide) ⟨rfl, tv⟩ rfl (Be rfl) tv ⟨(fun h => by cases h), tv⟩ rfl rfl rfl ?_
        refine BR h fun v22 a22 h => V7 (ds0 := [_, _]) [] [(2007, _)] (IV N p0 (((v19.2.drop 0).take v19.1)) v22 a22) (.p rfl) aF rfl ⟨rfl, rfl, tv⟩ ⟨rfl, tv⟩ (ZL (ZS w21 rfl rfl)) rfl rfl (Be rfl) tv rfl Dr rfl ?_
        refine qm rfl (qx rfl (qx rfl (qa rfl (qa rfl (AI (by kernel_rfl) (Ao (Ar Ac rfl (qm rfl (CF rfl (Ae ?_))))))))))
        refine Ba h rfl (fun h => ?_) fun h => ?_
        ·refine Ar Ac rfl (qm rfl (qa rfl (qe rfl ?_)))
         obtain rfl := sj h
         refine Aj (sm [] [(4, bD false), (5, iD v22.2)] [] rfl rfl) (Aw ?_)
         exact ⟨⟨[_, _], ⟨.tmp _ _ rfl, ⟨.tmp _ _ rfl, tv⟩⟩, rfl⟩, tv⟩
        ·refine An (Ai Ac rfl (qm rfl (qm rfl ?_)))
         refine E7 63 h rfl (fun h => ?_) fun h => ?_
         ·refine qm rfl (CO rfl (qp rfl (qe rfl ?_)))
          exact sn [(2006, 2005)] h
         ·refine qn rfl (qn rfl (qp rfl (qe rfl ?_)))
          exact sn [(2006, 2005)] h
       ·refine Ai Ac rfl (AV rfl (qm rfl (Ae ?_)))
        exact sn [(2005, 2006)] h
      ·refine AT ?_
       exact sn [] h
     ·refine Aj hs (Ar Ac rfl (qm rfl (qa rfl (qe rfl ?_))))
      obtain rfl := sj h
      refine Aj (sm [] [(4, bD v15), (5, iD 0)] [] rfl rfl) (Aw ?_)
      exact ⟨⟨[_, _], ⟨.tmp _ _ rfl, ⟨.tmp _ _ rfl, tv⟩⟩, rfl⟩, tv⟩
theorem JM (N : Nat) (p0 : Ad) (r : (List Aa) × Int) (h : EW N p0 = some r) : Ax Tryz.prog 12 [.e (.agg (Ak p0))] [] (.tup [.one (sC (r.1.map Ab)), .one (iC r.2)]) := by
 unfold EW at h
 refine Am (n := 17) (rs := [.tmp 2, .tmp 3]) Tryz.func12 rfl rfl rfl (A0 rfl) (A0 rfl) rfl fun w0 S0 => ?_
 refine Ar Ac rfl (qb rfl (qa rfl (qa rfl (Ae (Ar Ac rfl (qL Dv Ci rfl ?_))))))
 refine BR h fun v1 a1 h => AC [2001] (M9 N p0 v1 a1) bX rfl (qm rfl (qx rfl (qx rfl (qa rfl (qa rfl (Ae (Ao (Ar Ac rfl (qm rfl (CF rfl (Ae ?_)))))))))))
 refine Ba h rfl (fun h => ?_) fun h => ?_
 ·refine Ar Ac rfl (qm rfl (qa rfl (qe rfl ?_)))
  obtain rfl := sj h
  refine Aj ((Of 2 _ rfl).trans (sm [] [(2, pD (.sl ((([] : List Aa)).map Ab))), (3, iD v1.2)] [] rfl rfl)) (Aw ?_)
  exact ⟨⟨[_, _], ⟨.tmp _ _ rfl, ⟨.tmp _ _ rfl, tv⟩⟩, rfl⟩, tv⟩
 ·refine An (Ar Ac rfl (qm rfl ?_))
  refine Bb h fun v3 a3 b3 h => qI KH Uf a3 (Af b3) rfl (qj bi (Af b3) rfl (qa rfl (qe rfl ?_)))
  obtain rfl := sj h
  refine Aj (sm [] [(2, pD (.sl (v3.map Ab))), (3, iD 0)] [] rfl rfl) (Aw ?_)
  exact ⟨⟨[_, _], ⟨.tmp _ _ rfl, ⟨.tmp _ _ rfl, tv⟩⟩, rfl⟩, tv⟩
theorem JO (N : Nat) (r : Bool) (h : FM N = some r) : Ax Tryz.prog 11 [] [] (bD r) := by
 unfold FM at h
 refine Am (n := 79) (rs := [.tmp 0]) Tryz.func11 rfl rfl rfl (A0 rfl) (A0 rfl) rfl fun w0 S0 => ?_
 refine Ar Ac rfl (qa rfl (Ae (Ar Ac rfl ?_)))
 refine BR h fun v1 a1 h => AC [2001, 2002, 2003, 2004] (Gx N v1 a1) Zh rfl (EF (BD 2001 _ _ rfl rfl) (EF (BD 2002 _ _ rfl rfl) (EF (BD 2003 _ _ rfl rfl) (EF (BD 2004 _ _ rfl rfl) ?_))))
 refine BR h fun v2 a2 h => AC [2005] (M9 N v1 v2 a2) bX rfl (qm rfl (qx rfl (qx rfl (qa rfl (qa rfl (Ae (Ar Ac rfl ?_)))))))
 refine BR h fun v3 a3 h => AC [2006, 2007, 2008, 2009] (Gx N v3 a3) Zh rfl ?_
 refine BR h fun v4 a4 h => Fp [2010] [2006, 2007, 2008, 2009] (KO N v3 v4 a4) dn (Ks (fun _ => rfl) Dr) rfl (qm rfl (qx rfl (qx rfl (qa rfl (qa rfl (Ae (Ar Ac rfl ?_)))))))
 refine BR h fun v5 a5 h => AC [2011, 2012, 2013, 2014] (Gx N v5 a5) Zh rfl (qm rfl ?_)
 refine BR h fun v6 a6 h => Fp [] [2011, 2012, 2013, 2014, 2010] (Oo N v5 v4.1 v6 a6) ec Dr rfl (qm rfl (qx rfl (qx rfl (qa rfl (qa rfl (Ae (Ar Ac rfl ?_)))))))
 refine BR h fun v7 a7 h => AC [2015, 2016, 2017, 2018] (Gx N v7 a7) Zh rfl (EF (BD 2015 _ _ rfl rfl) (EF (BD 2016 _ _ rfl rfl) (EF (BD 2017 _ _ rfl rfl) (EF (BD 2018 _ _ rfl rfl) ?_))))
 refine BR h fun v8 a8 h => AC [] (JM N v7 v8 a8) aS rfl (qm rfl (qx rfl (qx rfl (qa rfl (qa rfl (Ae (Ar Ac rfl (Bo HA Rn rfl (qz HA rfl (qs AO rfl (Ae ?_)))))))))))
 refine AR h (fun v9 => mk [(0, bD v9)] []) (fun j9 h => ?_) (fun v9 h => ?_)
 ·refine Ai Ac rfl (qm rfl (B9 rfl (qm rfl ?_)))
  refine E7 34 h rfl (fun h => ?_) fun h => ?_
  ·refine qm rfl (B9 rfl (qp rfl (qm rfl ?_)))
   refine E7 38 h rfl (fun h => ?_) fun h => ?_
   ·refine qm rfl (B9 rfl (qp rfl (qm rfl ?_)))
    refine E7 42 h rfl (fun h => ?_) fun h => ?_
    ·refine qm rfl (B9 rfl (qp rfl (qm rfl ?_)))
     refine E7 46 h rfl (fun h => ?_) fun h => ?_
     ·refine qm rfl (D4 KH rfl (B9 rfl (qp rfl (qm rfl ?_))))
      refine E7 51 h rfl (fun h => ?_) fun h => ?_
      ·refine qm rfl (D4 AP rfl (B9 rfl (qp rfl (qm rfl ?_))))
       refine E7 56 h rfl (fun h => ?_) fun h => ?_
       ·refine qm rfl ?_
        refine Bb h fun v16 a16 b16 h => qI AP AO a16 (Af b16) rfl (qJ Dk AO (Af b16) rfl (qL Dk AO rfl ?_))
        refine UK [.int .i64 v16.fw, .int .i64 v16.fv, .int .i64 v16.fu] [.int .i64 0, .int .i64 0, .int .i64 1] (.g rfl rfl) rfl rfl R4 rfl ?_
        refine qp rfl (qm rfl ?_)
        refine E7 63 h rfl (fun h => ?_) fun h => ?_
        ·refine qm rfl (CO rfl (qp rfl (qm rfl ?_)))
         refine E7 67 h rfl (fun h => ?_) fun h => ?_
         ·refine qm rfl (AX AP rfl (B9 rfl (qp rfl (qm rfl ?_))))
          refine E7 72 h rfl (fun h => ?_) fun h => ?_
          ·refine qm rfl ?_
           refine Bb h fun v20 a20 b20 h => qi AP AO a20 (Af b20) rfl (qK Dk AO rfl (qL Dk AO rfl ?_))
           refine UK [.int .i64 v20.fw, .int .i64 v20.fv, .int .i64 v20.fu] [.int .i64 0, .int .i64 0, .int .i64 1] (.g rfl rfl) rfl rfl R4 rfl ?_
           refine qp rfl (qa rfl (AI (by kernel_rfl) ?_))
           exact sn [] h
          ·refine qn rfl (qn rfl (qn rfl (qn rfl (qn rfl (qp rfl (qa rfl (AI (by kernel_rfl) ?_)))))))
           exact sn [] h
         ·refine qn rfl (qn rfl (qn rfl (qp rfl (qm rfl (qn rfl (qn rfl (qn rfl (qn rfl (qn rfl (qp rfl (qa rfl (AI (by kernel_rfl) ?_))))))))))))
          exact sn [] h
        ·refine qn rfl (qn rfl (qp rfl (qm rfl (qn rfl (qn rfl (qn rfl (qp rfl (qm rfl (qn rfl (qn rfl (qn rfl (qn rfl (qn rfl (qp rfl (qa rfl (AI (by kernel_rfl) ?_))))))))))))))))
         exact sn [] h
       ·refine qn rfl (qn rfl (qn rfl (qn rfl (qn rfl (qp rfl (qm rfl (qn rfl (qn rfl (qp rfl (qm rfl (qn rfl (qn rfl (qn rfl (qp rfl (qm rfl (qn rfl (qn rfl (qn rfl (qn rfl (qn rfl (qp rfl (qa rfl (AI (by kernel_rfl) ?_)))))))))))))))))))))))
        exact sn [] h
      ·refine qn rfl (qn rfl (qn rfl (qp rfl (qm rfl (qn rfl (qn rfl (qn rfl (qn rfl (qn rfl (qp rfl (qm rfl (qn rfl (qn rfl (qp rfl (qm rfl (qn rfl (qn rfl (qn rfl (qp rfl (qm rfl (qn rfl (qn rfl (qn rfl (qn rfl (qn rfl (qp rfl (qa rfl (AI (by kernel_rfl) ?_))))))))))))))))))))))))))))
       exact sn [] h
     ·refine qn rfl (qn rfl (qn rfl (qp rfl (qm rfl (qn rfl (qn rfl (qn rfl (qp rfl (qm rfl (qn rfl (qn rfl (qn rfl (qn rfl (qn rfl (qp rfl (qm rfl (qn rfl (qn rfl (qp rfl (qm rfl (qn rfl (qn rfl (qn rfl (qp rfl (qm rfl (qn rfl (qn rfl (qn rfl (qn rfl (qn rfl (qp rfl (qa rfl (AI (by kernel_rfl) ?_)))))))))))))))))))))))))))))))))
      exact sn [] h
    ·refine qn rfl (qn rfl (qp rfl (qm rfl (qn rfl (qn rfl (qn rfl (qp rfl (qm rfl (qn rfl (qn rfl (qn rfl (qp rfl (qm rfl (qn rfl (qn rfl (qn rfl (qn rfl (qn rfl (qp rfl (qm rfl (qn rfl (qn rfl (qp rfl (qm rfl (qn rfl (qn rfl (qn rfl (qp rfl (qm rfl (qn rfl (qn rfl (qn rfl (qn rfl (qn rfl (qp rfl (qa rfl (AI (by kernel_rfl) ?_)))))))))))))))))))))))))))))))))))))
     exact sn [] h
   ·refine qn rfl (qn rfl (qp rfl (qm rfl (qn rfl (qn rfl (qp rfl (qm rfl (qn rfl (qn rfl (qn rfl (qp rfl (qm rfl (qn rfl (qn rfl (qn rfl (qp rfl (qm rfl (qn rfl (qn rfl (qn rfl (qn rfl (qn rfl (qp rfl (qm rfl (qn rfl (qn rfl (qp rfl (qm rfl (qn rfl (qn rfl (qn rfl (qp rfl (qm rfl (qn rfl (qn rfl (qn rfl (qn rfl (qn rfl (qp rfl ?_)))))))))))))))))))))))))))))))))))))))
    refine qa rfl (AI (by kernel_rfl) ?_)
    exact sn [] h
  ·refine qn rfl (qn rfl (qp rfl (qm rfl (qn rfl (qn rfl (qp rfl (qm rfl (qn rfl (qn rfl (qp rfl (qm rfl (qn rfl (qn rfl (qn rfl (qp rfl (qm rfl (qn rfl (qn rfl (qn rfl (qp rfl (qm rfl (qn rfl (qn rfl (qn rfl (qn rfl (qn rfl (qp rfl (qm rfl (qn rfl (qn rfl (qp rfl (qm rfl (qn rfl (qn rfl (qn rfl (qp rfl (qm rfl (qn rfl (qn rfl ?_)))))))))))))))))))))))))))))))))))))))
   refine qn rfl (qn rfl (qn rfl (qp rfl (qa rfl (AI (by kernel_rfl) ?_)))))
   exact sn [] h
 ·obtain rfl := sj h
  refine Aj (sm [] [(0, bD v9)] [] rfl rfl) (Aw ?_)
  exact ⟨⟨[_], ⟨.tmp _ _ rfl, tv⟩, rfl⟩, tv⟩
theorem L4 (N : Nat) (p0 : Ad) (r : (List Aa) × Int) (h : Fe N p0 = some r) : Ax Tryz.prog 17 [.e (.agg (Ak p0))] [(3, r.1.map Ab)] (.tup [.one (.own 0), .one (iC r.2)]) := by
 unfold Fe at h
 refine Am (n := 12) (rs := [.tmp 2, .tmp 3]) Tryz.func17 rfl rfl rfl (A0 rfl) (A0 rfl) rfl fun w0 S0 => ?_
 refine Ar Ac rfl (qb rfl (qa rfl (qa rfl (Ae (Ao (Ar Ac rfl (qL Dv Ci rfl ?_)))))))
 refine BR h fun v1 a1 h => AC [] (E8 N p0 v1 a1) ZQ rfl (qa rfl (Ae (Ar Ac rfl (qm rfl (CF rfl (Ae ?_))))))
 refine Ba h rfl (fun h => ?_) fun h => ?_
 ·refine Ar Ac rfl (qm rfl (qa rfl (qe rfl ?_)))
  obtain rfl := sj h
  refine Aj ((Bf 2 2001 3 rfl rfl rfl).trans (sm [(1000, 2001)] [(2, oD (.own 1000)), (3, iD v1)] [(1000, .vec 3 ((([] : List Aa)).map Ab))] rfl rfl)) (Aw ?_)
  exact ⟨⟨[_, _], ⟨.tmp _ _ rfl, ⟨.tmp _ _ rfl, tv⟩⟩, rfl⟩, ⟨rfl, tv⟩⟩
 ·refine An (Ar Ac rfl (qL Dv Ci rfl ?_))
  refine BR h fun v3 a3 h => AC [2002] (HB N p0 v3 a3) aV rfl (qa rfl (qe rfl ?_))
  obtain rfl := sj h
  refine Aj (sm [(1000, 2002)] [(2, oD (.own 1000)), (3, iD 0)] [(1000, .vec 3 (v3.map Ab))] rfl rfl) (Aw ?_)
  exact ⟨⟨[_, _], ⟨.tmp _ _ rfl, ⟨.tmp _ _ rfl, tv⟩⟩, rfl⟩, ⟨rfl, tv⟩⟩
theorem NB (N : Nat) (p0 : Ad) (p1 : List Aa) (r : Ad × Int) (h : Fh N p0 p1 = some r) : Ax Tryz.prog 18 [.e (.agg (Ak p0)), pD (.sl (p1.map Ab))] [(1, r.1.fc.map Av), (1, r.1.fh.map Av), (1, r.1.fm.map Av)] (.tup [.agg [.own 0, .own 1, .own 2, sC (r.1.fb.map AL)], .one (iC r.2)]) := by
 unfold Fh at h
 refine Am (n := 34) (rs := [.cell 4 29, .tmp 5]) Tryz.func18 rfl rfl rfl (A0 rfl) (A0 rfl) rfl fun w0 S0 => ?_
 refine Ar Ac rfl (qb rfl (qz KC rfl (qa rfl (Ae (Ao (Ar Ac rfl (qL Dv Ci rfl ?_)))))))
 refine BR h fun v1 a1 h => AC [] (E8 N p0 v1 a1) ZQ rfl (qa rfl (Ae (Ar Ac rfl (qm rfl (CF rfl (Ae ?_))))))
 refine Ba h rfl (fun h => ?_) fun h => ?_
 ·refine Ar Ac rfl (Bo KC TI rfl (qm rfl (qs Ci rfl (qe rfl ?_))))
  obtain rfl := sj h
  refine Aj ((Ay 4 0 2001 1 _ rfl rfl rfl rfl).trans ((Ay 4 1 2002 1 _ rfl rfl rfl rfl).trans ((Ay 4 2 2003 1 _ rfl rfl rfl rfl).trans ((MP 4 _ rfl).trans (sm [(1000, 2001), (1001, 2002), (1002, 2003)] [(4, oD (.ptr 4 0)), (5, iD v1)] [(4, .box [.own 1000, .own 1001, .own 1002, sC ((([] : List Aq)).map AL)]), (1000, .vec 1 ((([] : List Int)).map Av)), (1001, .vec 1 ((([] : List Int)).map Av)), (1002, .vec 1 ((([] : List Int)).map Av))] rfl rfl))))) (Aw ?_)
  exact ⟨⟨[_, _], ⟨.cellN _ _ _ _ _ _ _ rfl rfl Dv Ci rfl rfl (J8 rfl), ⟨.tmp _ _ rfl, tv⟩⟩, rfl⟩, ⟨rfl, rfl, rfl, tv⟩⟩
 ·refine An (Ar Ac rfl (qL Dv Ci rfl ?_))
  refine BR h fun v3 a3 h => AC [2004] (HB N p0 v3 a3) aV rfl (qa rfl (Ae (Ao (Ar Ac rfl (qe rfl ?_)))))
  refine AA (L := Eo N p1 v3) h (fun v4 => mk [(1, pD (.sl (p1.map Ab))), (2, oD (.ptr 2 0)), (4, oD (.ptr 4 0)), (7, oD (.own 2005)), (8, iD v4)] [(2, .box (Ak p0)), (4, .box [.pure (.nil0), .pure (.nil0), .pure (.nil0), .pure (.nil0)]), (2005, .vec 3 (v3.map Ab))]) (fun v5 => mk [(1, pD (.sl (p1.map Ab))), (2, oD (.ptr 2 0)), (4, oD (.ptr 4 0))] [(2, .box (Ak p0)), (4, .box [.pure (.nil0), .pure (.nil0), .pure (.nil0), .pure (.nil0)])]) (fun _ _ => rfl) (sm [(2005, 2004)] _ _ rfl rfl) (fun j4 n4 v4 h => ?_) (fun v5 s h hs => ?_)
  ·unfold Eo at h
   refine Ao (Ar Ac rfl (qm rfl (qm rfl (AX AP rfl (AY rfl (Ae ?_))))))
   refine Ba h rfl (fun h => ?_) fun h => ?_
   ·refine An (Ao (AJ (Ar Ac rfl (qm rfl (qm rfl (qm rfl ?_))))))
    refine Bb h fun v7 a7 b7 h => qi AP AO a7 (Af b7) rfl (qK Dk AO rfl ?_)
    refine BR h fun v8 a8 h => Fp [] [2005] (Le N v3 v7 v8 a8) cb Dr rfl (CO rfl (Ae ?_))
    refine Ba h rfl (fun h => ?_) fun h => ?_
    ·refine Ar Ac rfl (Bo KC TI rfl (qs Ci rfl (qe rfl ?_)))
     obtain rfl := sj h
     refine Aj ((Ay 4 0 2006 1 _ rfl rfl rfl rfl).trans ((Ay 4 1 2007 1 _ rfl rfl rfl rfl).trans ((Ay 4 2 2008 1 _ rfl rfl rfl rfl).trans ((MP 4 _ rfl).trans (sm [(1000, 2006), (1001, 2007), (1002, 2008)] [(4, oD (.ptr 4 0)), (5, iD 4)] [(4, .box [.own 1000, .own 1001, .own 1002, sC ((([] : List Aq)).map AL)]), (1000, .vec 1 ((([] : List Int)).map Av)), (1001, .vec 1 ((([] : List Int)).map Av)), (1002, .vec 1 ((([] : List Int)).map Av))] rfl rfl))))) (Aw ?_)
     exact ⟨⟨[_, _], ⟨.cellN _ _ _ _ _ _ _ rfl rfl Dv Ci rfl rfl (J8 rfl), ⟨.tmp _ _ rfl, tv⟩⟩, rfl⟩, ⟨rfl, rfl, rfl, tv⟩⟩
    ·refine An (Ai Ac rfl (qm rfl (AV rfl (qe rfl ?_))))
     exact sn [] h
   ·refine AT ?_
    exact sn [] h
  ·refine Aj hs (Ar Ac rfl (qL Dv Ci rfl (qm rfl ?_)))
   refine BR h fun v10 a10 h => AC [2009, 2010, 2011] (Kh N p0 p1 v10 a10) dq rfl (qs Ci rfl (qe rfl ?_))
   obtain rfl := sj h
   refine Aj (sm [(1000, 2009), (1001, 2010), (1002, 2011)] [(4, oD (.ptr 4 0)), (5, iD 0)] [(4, .box [.own 1000, .own 1001, .own 1002, sC (v10.fb.map AL)]), (1000, .vec 1 (v10.fc.map Av)), (1001, .vec 1 (v10.fh.map Av)), (1002, .vec 1 (v10.fm.map Av))] rfl rfl) (Aw ?_)
   exact ⟨⟨[_, _], ⟨.cellN _ _ _ _ _ _ _ rfl rfl Dv Ci rfl rfl (J8 rfl), ⟨.tmp _ _ rfl, tv⟩⟩, rfl⟩, ⟨rfl, rfl, rfl, tv⟩⟩
theorem KB (N : Nat) (p0 : B1) (p1 : Int) (r : Bool) (h : Ef N p0 p1 = some r) : Ax Tryz.prog 5 [.e (.agg (Dy p0)), pD (.val (.int .u8 p1))] [] (bD r) := by
 unfold Ef at h
 refine Am (n := 86) (rs := [.tmp 4]) Tryz.func5 rfl rfl rfl (A0 rfl) (A0 rfl) rfl fun w0 S0 => ?_
 refine Ar Ac rfl (qb rfl (qa rfl (Ae (Ar Ac rfl (qL cw de rfl ?_)))))
 refine BR h fun v1 a1 h => AC [2001, 2002, 2003, 2004] (OL N p0 v1 a1) ei rfl (qm rfl (qx rfl (qx rfl (qz KC rfl (qs Ci rfl (qa rfl (Ae (Ao ?_))))))))
 refine AR h (fun v2 => mk [(1, pD (.val (.int .u8 p1))), (5, oD (.ptr 5 0)), (28, bD v2)] [(5, .box [.own 2005, .own 2006, .own 2007, .own 2008]), (2005, .vec 1 (v1.1.fc.map Av)), (2006, .vec 1 (v1.1.fh.map Av)), (2007, .vec 1 (v1.1.fm.map Av)), (2008, .vec 6 (v1.1.fb.map AL))]) (fun j2 h => ?_) (fun v2 h => ?_)
 ·refine Ai Ac rfl ?_
  refine BR h fun v3 a3 h => AC [] (JO N v3 a3) cu rfl (CO rfl (qm rfl ?_))
  refine E7 25 h rfl (fun h => ?_) fun h => ?_
  ·refine qn rfl (qn rfl (qp rfl (Ae ?_)))
   exact sn [(2005, 2001), (2006, 2002), (2007, 2003), (2008, 2004)] h
  ·refine qm rfl (CO rfl (qp rfl (Ae ?_)))
   exact sn [(2005, 2001), (2006, 2002), (2007, 2003), (2008, 2004)] h
 ·refine Ba h rfl (fun h => ?_) fun h => ?_
  ·refine Ar Ac rfl ?_
   refine BR h fun v6 a6 h => AC [] (JO N v6 a6) cu rfl (qe rfl ?_)
   obtain rfl := sj h
   refine Aj (sm [] [(4, bD v6)] [] rfl rfl) (Aw ?_)
   exact ⟨⟨[_], ⟨.tmp _ _ rfl, tv⟩, rfl⟩, tv⟩
  ·refine An (Ar Ac rfl (qL Dv Ci rfl (EF (BD 2005 _ _ rfl rfl) (EF (BD 2006 _ _ rfl rfl) (EF (BD 2007 _ _ rfl rfl) (EF (BD 2008 _ _ rfl rfl) ?_))))))
   refine BR h fun v7 a7 h => AC [] (JM N v1.1 v7 a7) aS rfl (qm rfl (qx rfl (qx rfl (qa rfl (qa rfl (Ae (Ar Ac rfl (qL Dv Ci rfl ?_))))))))
   refine BR h fun v8 a8 h => AC [2009] (L4 N v1.1 v8 a8) dV rfl (qm rfl (qx rfl (qx rfl (qa rfl (qa rfl (Ae (Ao ?_)))))))
   refine AR h (fun v9 => mk [(1, pD (.val (.int .u8 p1))), (5, oD (.ptr 5 0)), (7, pD (.sl (v7.1.map Ab))), (8, iD v7.2), (9, oD (.own 2010)), (45, bD v9)] [(5, .box (Ak v1.1)), (2010, .vec 3 (v8.1.map Ab))]) (fun j9 h => ?_) (fun v9 h => ?_)
   ·refine Ai Ac rfl (qm rfl (CF rfl (qm rfl ?_)))
    refine E7 42 h rfl (fun h => ?_) fun h => ?_
    ·refine qn rfl (qn rfl (qp rfl (Ae ?_)))
     exact sn [(2010, 2009)] h
    ·refine qm rfl (CF rfl (qp rfl (Ae ?_)))
     exact sn [(2010, 2009)] h
   ·refine Ba h rfl (fun h => ?_) fun h => ?_
    ·refine Ar Ac rfl (qm rfl (B9 rfl (qe rfl ?_)))
     obtain rfl := sj h
     refine Aj (sm [] [(4, bD ((v7.2 == 14)))] [] rfl rfl) (Aw ?_)
     exact ⟨⟨[_], ⟨.tmp _ _ rfl, tv⟩, rfl⟩, tv⟩
    ·refine An (Ar Ac rfl (qa rfl (Ae (Ao (Ar Ac rfl (qm rfl (D4 AP rfl (qm rfl (Ae ?_)))))))))
     refine AA (L := Bz N p1 v8) h (fun v12 => mk [(1, pD (.val (.int .u8 p1))), (5, oD (.ptr 5 0)), (7, pD (.sl (v7.1.map Ab))), (11, oD (.own 2011)), (48, oD (.own 2012)), (49, iD ((v8.1.length : Int))), (50, iD v12.2)] [(5, .box (Ak v1.1)), (2011, .vec 3 (v12.1.map Ab)), (2012, .vec 3 (v8.1.map Ab))]) (fun v13 => mk [(5, oD (.ptr 5 0)), (7, pD (.sl (v7.1.map Ab))), (11, oD (.own 2013))] [(5, .box (Ak v1.1)), (2013, .vec 3 (v13.map Ab))]) (fun _ _ => rfl) ((Bf 11 2016 3 rfl rfl rfl).trans (sm [(2011, 2016), (2012, 2010)] _ _ rfl rfl)) (fun j12 n12 v12 h => ?_) (fun v13 s h hs => ?_)
     ·unfold Bz at h
      refine Ar Ac rfl (AY rfl (Ae (Ao ?_)))
      refine Ba h rfl (fun h => ?_) fun h => ?_
      ·refine An ?_
       refine AR h (fun v15 => mk [(1, pD (.val (.int .u8 p1))), (5, oD (.ptr 5 0)), (7, pD (.sl (v7.1.map Ab))), (11, oD (.own 2014)), (48, oD (.own 2015)), (49, iD ((v8.1.length : Int))), (50, iD v12.2)] [(5, .box (Ak v1.1)), (2014, .vec 3 (v15.map Ab)), (2015, .vec 3 (v8.1.map Ab))]) (fun j15 h => ?_) (fun v15 h => ?_)
       ·refine AJ (Ar Ac rfl (qm rfl ?_))
        refine Bb h fun v16 a16 b16 h => qI AP AO a16 (Af b16) rfl (qJ Dk AO (Af b16) rfl (qz HA rfl (qa rfl (qs AO rfl (Ae (Ar Ac rfl (qm rfl (qm rfl (Nf rfl (by decide) ?_)))))))))
        refine GA h fun c17 h => II rfl c17 (M5 rfl (B9 rfl (Ae ?_)))
        refine Ba h rfl (fun h => ?_) fun h => ?_
        ·refine Ai Ac rfl (qm rfl (qL Dk AO rfl (E5 AP AO HA rfl ?_)))
         refine GA h fun c19 h => Ew (f := Ab) AP AP AO NZ HA c19 rfl (qe rfl ?_)
         exact sn [(2014, 64), (2015, 2012)] h
        ·refine An ?_
         exact sn [(2014, 2011), (2015, 2012)] h
       ·refine Ai Ac rfl (AV rfl (qm rfl (Ae ?_)))
        exact sn [(2011, 2014), (2012, 2015)] h
      ·refine AT ?_
       exact sn [(2013, 2011)] h
     ·refine Aj hs (Ar Ac rfl (qL Dv Ci rfl (qm rfl (EF (BD 2013 _ _ rfl rfl) ?_))))
      refine BR h fun v20 a20 h => AC [2017, 2018, 2019] (NB N v1.1 v13 v20 a20) ek rfl (qm rfl (qx rfl (qx rfl (qz KC rfl (qs Ci rfl (qa rfl (Ae (Ar Ac rfl (qL Dv Ci rfl (EF (BD 2017 _ _ rfl rfl) (EF (BD 2018 _ _ rfl rfl) (EF (BD 2019 _ _ rfl rfl) ?_))))))))))))
      refine BR h fun v21 a21 h => AC [] (JM N v20.1 v21 a21) aS rfl (qm rfl (qx rfl (qx rfl (qa rfl (qe rfl ?_)))))
      refine AR h (fun v22 => mk [(4, bD v22)] []) (fun j22 h => ?_) (fun v22 h => ?_)
      ·refine Ai Ac rfl (qm rfl (B9 rfl (qm rfl ?_)))
       refine E7 79 h rfl (fun h => ?_) fun h => ?_
       ·refine qm rfl (AX AP rfl (qm rfl (AX AP rfl (KT rfl (qp rfl (qe rfl ?_))))))
        exact sn [] h
       ·refine qn rfl (qn rfl (qn rfl (qn rfl (qn rfl (qp rfl (qe rfl ?_))))))
        exact sn [] h
      ·obtain rfl := sj h
       refine Aj (sm [] [(4, bD v22)] [] rfl rfl) (Aw ?_)
       exact ⟨⟨[_], ⟨.tmp _ _ rfl, tv⟩, rfl⟩, tv⟩
end Go.Lift
