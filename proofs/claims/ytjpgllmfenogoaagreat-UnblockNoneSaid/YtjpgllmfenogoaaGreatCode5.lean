/- Lemmas for UnblockNoneSaid, which YtjpgllmfenogoaaGreatFinU3 proves. -/
import Derived.Test.YtjpgllmfenogoaaGreatCode4
namespace Go.Lift
open IntKind renaming wrap → wI
set_option maxRecDepth 10000
open Go.RowKit
open Go.Proofs
theorem Gs (N : Nat) (p0 : List Aa) (p1 : Int) (p2 : Int) (p3 : (Aa × Aa) → Option Int) (r : Bool × (List Aa)) (h : CG N p0 p1 p2 p3 = some r) : BV Tryz.prog 102 [oD (.own 90000), iD p1, iD p2, oD (.clo (Cy (Gq true Ab true Ab) C7 p3))] [(.vec 3 (p0.map Ab), .vec 3 (r.2.map Ab))] [] (bD r.1) := by
 unfold CG at h
 refine Bk (n := 141) (rs := [.tmp 8]) Tryz.func102 rfl rfl rfl (A2 rfl) (A2 rfl) rfl rfl (A2 rfl) rfl (A2 rfl) fun w0 S0 GL => ?_
 refine Ak (sm [] [(0, oD (.own 90000)), (1, iD p1), (2, iD p2), (3, oD (.clo (Cy (Gq true Ab true Ab) C7 p3)))] [(90000, .vec 3 (p0.map Ab))] rfl rfl) (As Ac rfl (qa rfl (Ad (As Ac rfl (qm rfl (AW rfl (qa rfl (Ad (Ap (As Ac rfl (qa rfl (Ad ?_))))))))))))
 refine AB (L := Bw N p1 p2 p3) h (fun v1 => mk [(0, oD (.own 90000)), (1, iD p1), (2, iD p2), (3, oD (.clo (Cy (Gq true Ab true Ab) C7 p3))), (9, iD v1.2.1), (10, iD v1.2.2)] [(90000, .vec 3 (v1.1.map Ab))]) (fun v2 => mk [] [(90000, .vec 3 (v2.map Ab))]) (fun _ _ => rfl) (sm [] _ _ rfl rfl) (fun j1 n1 v1 h => ?_) (fun v2 s h hs => ?_)
 ·unfold Bw at h
  refine Ap (As Ac rfl (qm rfl (A0 rfl (Ad ?_))))
  refine Bd h rfl (fun h => ?_) fun h => ?_
  ·refine Ao ?_
   refine AU h (fun v4 => mk [(0, oD (.own 90000)), (1, iD p1), (2, iD p2), (3, oD (.clo (Cy (Gq true Ab true Ab) C7 p3))), (9, iD v4.2), (10, iD v1.2.2)] [(90000, .vec 3 (v4.1.map Ab))]) (fun j4 h => ?_) (fun v4 h => ?_)
   ·refine AL (Ap ?_)
    refine AB (L := Bv N p2 p3 v1) h (fun v5 => mk [(0, oD (.own 90000)), (1, iD p1), (2, iD p2), (3, oD (.clo (Cy (Gq true Ab true Ab) C7 p3))), (9, iD v5), (10, iD v1.2.2)] [(90000, .vec 3 (v1.1.map Ab))]) (fun v6 => mk [(0, oD (.own 90000)), (1, iD p1), (2, iD p2), (3, oD (.clo (Cy (Gq true Ab true Ab) C7 p3))), (9, iD v6), (10, iD v1.2.2)] [(90000, .vec 3 (v1.1.map Ab))]) (fun _ _ => rfl) (sm [] _ _ rfl rfl) (fun j5 n5 v5 h => ?_) (fun v6 s h hs => ?_)
    ·unfold Bv at h
     refine Ap ?_
     refine AU h (fun v7 => mk [(0, oD (.own 90000)), (1, iD p1), (2, iD p2), (3, oD (.clo (Cy (Gq true Ab true Ab) C7 p3))), (9, iD v5), (10, iD v1.2.2), (36, bD v7)] [(90000, .vec 3 (v1.1.map Ab))]) (fun j7 h => ?_) (fun v7 h => ?_)
     ·refine Aj Ac rfl (qm rfl (qm rfl (A0 rfl (qm rfl ?_))))
      refine E1 22 h rfl (fun h => ?_) fun h => ?_
      ·refine qm rfl (qm rfl (qm rfl ?_))
       obtain ⟨v9, a9, b9, h⟩ := Ah h
       refine qI AT AQ a9 (Af b9) rfl (qJ Du AQ (Af b9) rfl (qm rfl (qm rfl (Di rfl ?_))))
       obtain ⟨v10, a10, b10, h⟩ := Ah h
       refine qI AT AQ a10 (Af b10) rfl (qJ Du AQ (Af b10) rfl ?_)
       obtain ⟨v11, a11, h⟩ := bind_some h
       refine F6 (ds0 := [_, _]) (ar := (Gq true Ab true Ab) ((v9, v10))) (.g rfl rfl) rfl rfl ⟨rfl, rfl, tv⟩ rfl rfl rfl (F3 (Hx _ _ _ _ A5 A5) a11) ?_
       refine A0 rfl (CQ rfl (qp rfl (AJ (by kernel_rfl) ?_)))
       exact sn [] h
      ·refine qn rfl (qn rfl (qn rfl (qn rfl (qn rfl (qn rfl (qn rfl (qn rfl (qn rfl (qn rfl (qn rfl (qn rfl (qn rfl (qp rfl (AJ (by kernel_rfl) ?_))))))))))))))
       exact sn [] h
     ·refine Bd h rfl (fun h => ?_) fun h => ?_
      ·refine Ao (AL (Aj Ac rfl (qm rfl (AW rfl (qa rfl (Ad ?_))))))
       exact sn [] h
      ·refine AV ?_
       exact sn [] h
    ·refine Ak hs (Ap (As Ac rfl (qm rfl (qm rfl (B5 rfl (Ad ?_))))))
     refine Bd h rfl (fun h => ?_) fun h => ?_
     ·refine As Ac rfl (qa rfl (Ad ?_))
      obtain rfl := sj h
      refine Ak (sm [] [(8, bD true)] [(90000, .vec 3 (v1.1.map Ab))] rfl rfl) (Ax ?_)
      exact ⟨⟨[_], ⟨.tmp _ _ rfl, tv⟩, rfl⟩, ⟨rfl, tv⟩, tv⟩
     ·refine Ao (Ap (As Ac rfl (qm rfl (qm rfl (Di rfl (A0 rfl (Ad ?_)))))))
      refine Bd h rfl (fun h => ?_) fun h => ?_
      ·refine As Ac rfl (qa rfl (Ad ?_))
       obtain rfl := sj h
       refine Ak (sm [] [(8, bD false)] [(90000, .vec 3 (v1.1.map Ab))] rfl rfl) (Ax ?_)
       exact ⟨⟨[_], ⟨.tmp _ _ rfl, tv⟩, rfl⟩, ⟨rfl, tv⟩, tv⟩
      ·refine Ao (As Ac rfl (qm rfl (qm rfl (qm rfl (qm rfl (Di rfl (qm rfl (qm rfl (Di rfl ?_)))))))))
       obtain ⟨v15, a15, b15, h⟩ := Ah h
       refine qI AT AQ a15 (Af b15) rfl (qJ Du AQ (Af b15) rfl (qm rfl (qm rfl ?_)))
       obtain ⟨v16, a16, b16, h⟩ := Ah h
       refine qI AT AQ a16 (Af b16) rfl (qJ Du AQ (Af b16) rfl ?_)
       obtain ⟨v17, a17, b17, h⟩ := Ah h
       refine qI AT AQ a17 (Af b17) rfl ?_
       refine A9 rfl rfl rfl rfl (Af b17) rfl AQ rfl (A2 rfl) (A6 Ab v1.1 _ v15) ?_
       obtain ⟨v18, a18, b18, h⟩ := Ah h
       refine qI AT AQ a18 (Af b18) rfl ?_
       refine A9 rfl rfl rfl rfl (Af b18) rfl AQ rfl (A2 rfl) (A6 Ab (v1.1.set ((v6).toNat) v15) _ v16) ?_
       refine AJ (by kernel_rfl) ?_
       refine AU h (fun v19 => mk [(0, oD (.own 90000)), (1, iD p1), (2, iD p2), (3, oD (.clo (Cy (Gq true Ab true Ab) C7 p3))), (9, iD v6), (10, iD v1.2.2)] [(90000, .vec 3 (v19.map Ab))]) (fun j19 h => ?_) (fun v19 h => ?_)
       ·refine As Ac rfl (qm rfl (qm rfl (Di rfl (Ee rfl (Ad ?_)))))
        refine Bd h rfl (fun h => ?_) fun h => ?_
        ·refine As Ac rfl (qm rfl (Di rfl (qa rfl (Ad ?_))))
         refine AB (L := Bq N p3) h (fun v21 => mk [(0, oD (.own 90000)), (1, iD p1), (2, iD p2), (3, oD (.clo (Cy (Gq true Ab true Ab) C7 p3))), (9, iD v6), (10, iD v1.2.2), (11, iD v21.2)] [(90000, .vec 3 (v21.1.map Ab))]) (fun v22 => mk [(0, oD (.own 90000)), (1, iD p1), (2, iD p2), (3, oD (.clo (Cy (Gq true Ab true Ab) C7 p3))), (9, iD v6), (10, iD v1.2.2)] [(90000, .vec 3 (v22.map Ab))]) (fun _ _ => rfl) (sm [] _ _ rfl rfl) (fun j21 n21 v21 h => ?_) (fun v22 s h hs => ?_)
         ·unfold Bq at h
          refine Ap (As Ac rfl (qm rfl (Ee rfl (Ad ?_))))
          refine Bd h rfl (fun h => ?_) fun h => ?_
          ·refine Ao (Ap (AL (Ap (As Ac rfl (qm rfl (qm rfl (qm rfl ?_)))))))
           obtain ⟨v24, a24, b24, h⟩ := Ah h
           refine qI AT AQ a24 (Af b24) rfl (qJ Du AQ (Af b24) rfl (qm rfl (qm rfl (Di rfl ?_))))
           obtain ⟨v25, a25, b25, h⟩ := Ah h
           refine qI AT AQ a25 (Af b25) rfl (qJ Du AQ (Af b25) rfl ?_)
           obtain ⟨v26, a26, h⟩ := bind_some h
           refine F6 (ds0 := [_, _]) (ar := (Gq true Ab true Ab) ((v24, v25))) (.p rfl) rfl rfl ⟨rfl, rfl, tv⟩ rfl rfl rfl (F3 (Hx _ _ _ _ A5 A5) a26) ?_
           refine A0 rfl (CQ rfl (AJ (by kernel_rfl) ?_))
           refine Bd h rfl (fun h => ?_) fun h => ?_
           ·refine AV ?_
            exact sn [] h
           ·refine Ao (Aj Ac rfl (qm rfl (qm rfl (qm rfl (qm rfl (Di rfl (qm rfl (qm rfl (Di rfl ?_)))))))))
            obtain ⟨v28, a28, b28, h⟩ := Ah h
            refine qI AT AQ a28 (Af b28) rfl (qJ Du AQ (Af b28) rfl (qm rfl (qm rfl ?_)))
            obtain ⟨v29, a29, b29, h⟩ := Ah h
            refine qI AT AQ a29 (Af b29) rfl (qJ Du AQ (Af b29) rfl ?_)
            obtain ⟨v30, a30, b30, h⟩ := Ah h
            refine qI AT AQ a30 (Af b30) rfl ?_
            refine A9 rfl rfl rfl rfl (Af b30) rfl AQ rfl (A2 rfl) (A6 Ab v21.1 _ v28) ?_
            obtain ⟨v31, a31, b31, h⟩ := Ah h
            refine qI AT AQ a31 (Af b31) rfl ?_
            refine A9 rfl rfl rfl rfl (Af b31) rfl AQ rfl (A2 rfl) (A6 Ab (v21.1.set ((v21.2).toNat) v28) _ v29) ?_
            refine AJ (by kernel_rfl) (Aj Ac rfl (qm rfl (Di rfl (qa rfl (Ad ?_)))))
            exact sn [] h
          ·refine AV ?_
           exact sn [] h
         ·exact TL _ h (hs.trans (sm [] _ _ rfl rfl))
        ·refine Ao ?_
         exact sn [] h
       ·refine As Ac rfl (qm rfl (qm rfl (Di rfl (Ee rfl (Ad ?_)))))
        refine Bd h rfl (fun h => ?_) fun h => ?_
        ·refine As Ac rfl (qm rfl (AW rfl (qa rfl (Ad ?_))))
         refine AB (L := Bp N p2 p3) h (fun v33 => mk [(0, oD (.own 90000)), (1, iD p1), (2, iD p2), (3, oD (.clo (Cy (Gq true Ab true Ab) C7 p3))), (9, iD v6), (10, iD v1.2.2), (12, iD v33.2)] [(90000, .vec 3 (v33.1.map Ab))]) (fun v34 => mk [(0, oD (.own 90000)), (1, iD p1), (2, iD p2), (3, oD (.clo (Cy (Gq true Ab true Ab) C7 p3))), (9, iD v6), (10, iD v1.2.2)] [(90000, .vec 3 (v34.map Ab))]) (fun _ _ => rfl) (sm [] _ _ rfl rfl) (fun j33 n33 v33 h => ?_) (fun v34 s h hs => ?_)
         ·unfold Bp at h
          refine Ap (As Ac rfl (qm rfl (qm rfl (A0 rfl (Ad ?_)))))
          refine Bd h rfl (fun h => ?_) fun h => ?_
          ·refine Ao (Ap (AL (Ap (As Ac rfl (qm rfl (qm rfl (qm rfl ?_)))))))
           obtain ⟨v36, a36, b36, h⟩ := Ah h
           refine qI AT AQ a36 (Af b36) rfl (qJ Du AQ (Af b36) rfl (qm rfl (qm rfl (Di rfl ?_))))
           obtain ⟨v37, a37, b37, h⟩ := Ah h
           refine qI AT AQ a37 (Af b37) rfl (qJ Du AQ (Af b37) rfl ?_)
           obtain ⟨v38, a38, h⟩ := bind_some h
           refine F6 (ds0 := [_, _]) (ar := (Gq true Ab true Ab) ((v36, v37))) (.p rfl) rfl rfl ⟨rfl, rfl, tv⟩ rfl rfl rfl (F3 (Hx _ _ _ _ A5 A5) a38) ?_
           refine A0 rfl (CQ rfl (AJ (by kernel_rfl) ?_))
           refine Bd h rfl (fun h => ?_) fun h => ?_
           ·refine AV ?_
            exact sn [] h
           ·refine Ao (Aj Ac rfl (qm rfl (qm rfl (qm rfl (qm rfl (Di rfl (qm rfl (qm rfl (Di rfl ?_)))))))))
            obtain ⟨v40, a40, b40, h⟩ := Ah h
            refine qI AT AQ a40 (Af b40) rfl (qJ Du AQ (Af b40) rfl (qm rfl (qm rfl ?_)))
            obtain ⟨v41, a41, b41, h⟩ := Ah h
            refine qI AT AQ a41 (Af b41) rfl (qJ Du AQ (Af b41) rfl ?_)
            obtain ⟨v42, a42, b42, h⟩ := Ah h
            refine qI AT AQ a42 (Af b42) rfl ?_
            refine A9 rfl rfl rfl rfl (Af b42) rfl AQ rfl (A2 rfl) (A6 Ab v33.1 _ v40) ?_
            obtain ⟨v43, a43, b43, h⟩ := Ah h
            refine qI AT AQ a43 (Af b43) rfl ?_
            refine A9 rfl rfl rfl rfl (Af b43) rfl AQ rfl (A2 rfl) (A6 Ab (v33.1.set ((v33.2).toNat) v40) _ v41) ?_
            refine AJ (by kernel_rfl) (Aj Ac rfl (qm rfl (AW rfl (qa rfl (Ad ?_)))))
            exact sn [] h
          ·refine AV ?_
           exact sn [] h
         ·exact TL _ h (hs.trans (sm [] _ _ rfl rfl))
        ·refine Ao ?_
         exact sn [] h
   ·refine Aj Ac rfl (qm rfl (AW rfl (qa rfl (Ad ?_))))
    exact sn [] h
  ·refine AV ?_
   exact sn [] h
 ·refine Ak hs (As Ac rfl (qa rfl (Ad ?_)))
  obtain rfl := sj h
  refine Ak (sm [] [(8, bD false)] [(90000, .vec 3 (v2.map Ab))] rfl rfl) (Ax ?_)
  exact ⟨⟨[_], ⟨.tmp _ _ rfl, tv⟩, rfl⟩, ⟨rfl, tv⟩, tv⟩
theorem G7 (N : Nat) (p0 : List Aa) (p1 : Int) (p2 : Int) (p3 : Int) (p4 : (Aa × Aa) → Option Int) (r : Int × (List Aa)) (h : Dj N p0 p1 p2 p3 p4 = some r) : BV Tryz.prog 103 [oD (.own 90000), iD p1, iD p2, iD p3, oD (.clo (Cy (Gq true Ab true Ab) C7 p4))] [(.vec 3 (p0.map Ab), .vec 3 (r.2.map Ab))] [] (iD r.1) := by
 unfold Dj at h
 refine Bk (n := 90) (rs := [.tmp 10]) Tryz.func103 rfl rfl rfl (A2 rfl) (A2 rfl) rfl rfl (A2 rfl) rfl (A2 rfl) fun w0 S0 GL => ?_
 refine Ak (sm [] [(0, oD (.own 90000)), (1, iD p1), (2, iD p2), (3, iD p3), (4, oD (.clo (Cy (Gq true Ab true Ab) C7 p4)))] [(90000, .vec 3 (p0.map Ab))] rfl rfl) (As Ac rfl (qa rfl (Ad (As Ac rfl (qm rfl (qm rfl (qm rfl (qm rfl (qm rfl (qm rfl ?_))))))))))
 obtain ⟨v1, a1, b1, h⟩ := Ah h
 refine qI AT AQ a1 (Af b1) rfl (qJ Du AQ (Af b1) rfl (qm rfl (qm rfl ?_)))
 obtain ⟨v2, a2, b2, h⟩ := Ah h
 refine qI AT AQ a2 (Af b2) rfl (qJ Du AQ (Af b2) rfl ?_)
 obtain ⟨v3, a3, b3, h⟩ := Ah h
 refine qI AT AQ a3 (Af b3) rfl ?_
 refine A9 rfl rfl rfl rfl (Af b3) rfl AQ rfl (A2 rfl) (A6 Ab p0 _ v1) ?_
 obtain ⟨v4, a4, b4, h⟩ := Ah h
 refine qI AT AQ a4 (Af b4) rfl ?_
 refine A9 rfl rfl rfl rfl (Af b4) rfl AQ rfl (A2 rfl) (A6 Ab (p0.set ((p1).toNat) v1) _ v2) ?_
 refine AJ (by kernel_rfl) (As Ac rfl (qm rfl (AW rfl (qm rfl (Di rfl (qa rfl (qa rfl (Ad (Ap ?_)))))))))
 refine AB (L := BS N p1 p4) h (fun v5 => mk [(0, oD (.own 90000)), (1, iD p1), (4, oD (.clo (Cy (Gq true Ab true Ab) C7 p4))), (11, iD v5.2.1), (12, iD v5.2.2)] [(90000, .vec 3 (v5.1.map Ab))]) (fun v6 => mk [(11, iD v6.2)] [(90000, .vec 3 (v6.1.map Ab))]) (fun _ _ => rfl) (sm [] _ _ rfl rfl) (fun j5 n5 v5 h => ?_) (fun v6 s h hs => ?_)
 ·unfold BS at h
  refine AL (Ap ?_)
  refine AB (L := BT N p1 p4 v5) h (fun v7 => mk [(0, oD (.own 90000)), (1, iD p1), (4, oD (.clo (Cy (Gq true Ab true Ab) C7 p4))), (11, iD v7), (12, iD v5.2.2)] [(90000, .vec 3 (v5.1.map Ab))]) (fun v8 => mk [(0, oD (.own 90000)), (1, iD p1), (4, oD (.clo (Cy (Gq true Ab true Ab) C7 p4))), (11, iD v8), (12, iD v5.2.2)] [(90000, .vec 3 (v5.1.map Ab))]) (fun _ _ => rfl) (sm [] _ _ rfl rfl) (fun j7 n7 v7 h => ?_) (fun v8 s h hs => ?_)
  ·unfold BT at h
   refine Ap ?_
   refine AU h (fun v9 => mk [(0, oD (.own 90000)), (1, iD p1), (4, oD (.clo (Cy (Gq true Ab true Ab) C7 p4))), (11, iD v7), (12, iD v5.2.2), (47, bD v9)] [(90000, .vec 3 (v5.1.map Ab))]) (fun j9 h => ?_) (fun v9 h => ?_)
   ·refine Aj Ac rfl (qm rfl (qm rfl (K0 rfl (qm rfl ?_))))
    refine E1 34 h rfl (fun h => ?_) fun h => ?_
    ·refine qm rfl (qm rfl (qm rfl ?_))
     obtain ⟨v11, a11, b11, h⟩ := Ah h
     refine qI AT AQ a11 (Af b11) rfl (qJ Du AQ (Af b11) rfl (qm rfl (qm rfl ?_)))
     obtain ⟨v12, a12, b12, h⟩ := Ah h
     refine qI AT AQ a12 (Af b12) rfl (qJ Du AQ (Af b12) rfl ?_)
     obtain ⟨v13, a13, h⟩ := bind_some h
     refine F6 (ds0 := [_, _]) (ar := (Gq true Ab true Ab) ((v11, v12))) (.g rfl rfl) rfl rfl ⟨rfl, rfl, tv⟩ rfl rfl rfl (F3 (Hx _ _ _ _ A5 A5) a13) ?_
     refine A0 rfl (CQ rfl (qp rfl (AJ (by kernel_rfl) ?_)))
     exact sn [] h
    ·refine qn rfl (qn rfl (qn rfl (qn rfl (qn rfl (qn rfl (qn rfl (qn rfl (qn rfl (qn rfl (qn rfl (qn rfl (qp rfl (AJ (by kernel_rfl) ?_)))))))))))))
     exact sn [] h
   ·refine Bd h rfl (fun h => ?_) fun h => ?_
    ·refine Ao (AL (Aj Ac rfl (qm rfl (AW rfl (qa rfl (Ad ?_))))))
     exact sn [] h
    ·refine AV ?_
     exact sn [] h
  ·refine Ak hs (Ap ?_)
   refine AB (L := BN N p1 p4 v5 v8) h (fun v15 => mk [(0, oD (.own 90000)), (1, iD p1), (4, oD (.clo (Cy (Gq true Ab true Ab) C7 p4))), (11, iD v8), (12, iD v15)] [(90000, .vec 3 (v5.1.map Ab))]) (fun v16 => mk [(0, oD (.own 90000)), (1, iD p1), (4, oD (.clo (Cy (Gq true Ab true Ab) C7 p4))), (11, iD v8), (12, iD v16)] [(90000, .vec 3 (v5.1.map Ab))]) (fun _ _ => rfl) (sm [] _ _ rfl rfl) (fun j15 n15 v15 h => ?_) (fun v16 s h hs => ?_)
   ·unfold BN at h
    refine Ap ?_
    refine AU h (fun v17 => mk [(0, oD (.own 90000)), (1, iD p1), (4, oD (.clo (Cy (Gq true Ab true Ab) C7 p4))), (11, iD v8), (12, iD v15), (65, bD v17)] [(90000, .vec 3 (v5.1.map Ab))]) (fun j17 h => ?_) (fun v17 h => ?_)
    ·refine Aj Ac rfl (qm rfl (qm rfl (K0 rfl (qm rfl ?_))))
     refine E1 53 h rfl (fun h => ?_) fun h => ?_
     ·refine qm rfl (qm rfl (qm rfl ?_))
      obtain ⟨v19, a19, b19, h⟩ := Ah h
      refine qI AT AQ a19 (Af b19) rfl (qJ Du AQ (Af b19) rfl (qm rfl (qm rfl ?_)))
      obtain ⟨v20, a20, b20, h⟩ := Ah h
      refine qI AT AQ a20 (Af b20) rfl (qJ Du AQ (Af b20) rfl ?_)
      obtain ⟨v21, a21, h⟩ := bind_some h
      refine F6 (ds0 := [_, _]) (ar := (Gq true Ab true Ab) ((v19, v20))) (.g rfl rfl) rfl rfl ⟨rfl, rfl, tv⟩ rfl rfl rfl (F3 (Hx _ _ _ _ A5 A5) a21) ?_
      refine A0 rfl (qp rfl (AJ (by kernel_rfl) ?_))
      exact sn [] h
     ·refine qn rfl (qn rfl (qn rfl (qn rfl (qn rfl (qn rfl (qn rfl (qn rfl (qn rfl (qn rfl (qn rfl (qp rfl (AJ (by kernel_rfl) ?_))))))))))))
      exact sn [] h
    ·refine Bd h rfl (fun h => ?_) fun h => ?_
     ·refine Ao (AL (Aj Ac rfl (qm rfl (Di rfl (qa rfl (Ad ?_))))))
      exact sn [] h
     ·refine AV ?_
      exact sn [] h
   ·refine Ak hs (Ap (As Ac rfl (qm rfl (qm rfl (Gt rfl (Ad ?_))))))
    refine Bd h rfl (fun h => ?_) fun h => ?_
    ·refine AV ?_
     exact sn [] h
    ·refine Ao (As Ac rfl (qm rfl (qm rfl (qm rfl (qm rfl (qm rfl (qm rfl ?_)))))))
     obtain ⟨v24, a24, b24, h⟩ := Ah h
     refine qI AT AQ a24 (Af b24) rfl (qJ Du AQ (Af b24) rfl (qm rfl (qm rfl ?_)))
     obtain ⟨v25, a25, b25, h⟩ := Ah h
     refine qI AT AQ a25 (Af b25) rfl (qJ Du AQ (Af b25) rfl ?_)
     obtain ⟨v26, a26, b26, h⟩ := Ah h
     refine qI AT AQ a26 (Af b26) rfl ?_
     refine A9 rfl rfl rfl rfl (Af b26) rfl AQ rfl (A2 rfl) (A6 Ab v5.1 _ v24) ?_
     obtain ⟨v27, a27, b27, h⟩ := Ah h
     refine qI AT AQ a27 (Af b27) rfl ?_
     refine A9 rfl rfl rfl rfl (Af b27) rfl AQ rfl (A2 rfl) (A6 Ab (v5.1.set ((v8).toNat) v24) _ v25) ?_
     refine AJ (by kernel_rfl) (As Ac rfl (qm rfl (AW rfl (qa rfl (Ad (Aj Ac rfl (qm rfl (Di rfl (qa rfl (Ad ?_))))))))))
     exact sn [] h
 ·refine Ak hs (As Ac rfl (qm rfl (qa rfl (Ad ?_))))
  obtain rfl := sj h
  refine Ak (sm [] [(10, iD v6.2)] [(90000, .vec 3 (v6.1.map Ab))] rfl rfl) (Ax ?_)
  exact ⟨⟨[_], ⟨.tmp _ _ rfl, tv⟩, rfl⟩, ⟨rfl, tv⟩, tv⟩
theorem HE (N : Nat) (p0 : List Aa) (p1 : Int) (p2 : Int) (p3 : Int) (p4 : (Aa × Aa) → Option Int) (r : Int × Bool × (List Aa)) (h : D2 N p0 p1 p2 p3 p4 = some r) : BV Tryz.prog 104 [oD (.own 90000), iD p1, iD p2, iD p3, oD (.clo (Cy (Gq true Ab true Ab) C7 p4))] [(.vec 3 (p0.map Ab), .vec 3 (r.2.2.map Ab))] [] (.tup [.one (iC r.1), .one (.pure (.val (.bool r.2.1)))]) := by
 unfold D2 at h
 refine Bk (n := 178) (rs := [.tmp 10, .tmp 11]) Tryz.func104 rfl rfl rfl (A2 rfl) (A2 rfl) rfl rfl (A2 rfl) rfl (A2 rfl) fun w0 S0 GL => ?_
 refine Ak (sm [] [(0, oD (.own 90000)), (1, iD p1), (2, iD p2), (3, iD p3), (4, oD (.clo (Cy (Gq true Ab true Ab) C7 p4)))] [(90000, .vec 3 (p0.map Ab))] rfl rfl) (As Ac rfl (qa rfl (qa rfl (Ad (As Ac rfl (qm rfl (qm rfl (qm rfl (qm rfl (qm rfl (qm rfl ?_)))))))))))
 obtain ⟨v1, a1, b1, h⟩ := Ah h
 refine qI AT AQ a1 (Af b1) rfl (qJ Du AQ (Af b1) rfl (qm rfl (qm rfl ?_)))
 obtain ⟨v2, a2, b2, h⟩ := Ah h
 refine qI AT AQ a2 (Af b2) rfl (qJ Du AQ (Af b2) rfl ?_)
 obtain ⟨v3, a3, b3, h⟩ := Ah h
 refine qI AT AQ a3 (Af b3) rfl ?_
 refine A9 rfl rfl rfl rfl (Af b3) rfl AQ rfl (A2 rfl) (A6 Ab p0 _ v1) ?_
 obtain ⟨v4, a4, b4, h⟩ := Ah h
 refine qI AT AQ a4 (Af b4) rfl ?_
 refine A9 rfl rfl rfl rfl (Af b4) rfl AQ rfl (A2 rfl) (A6 Ab (p0.set ((p1).toNat) v1) _ v2) ?_
 refine AJ (by kernel_rfl) (As Ac rfl (qm rfl (AW rfl (qm rfl (Di rfl (qa rfl (qa rfl (Ad (Ap ?_)))))))))
 refine AB (L := Cs N p0 p1 p2 p3 p4 v1 v2) h (fun v5 => mk [(0, oD (.own 90000)), (1, iD p1), (4, oD (.clo (Cy (Gq true Ab true Ab) C7 p4))), (12, iD v5), (13, iD ((wI .i64 (p2 - 1))))] [(90000, .vec 3 (((p0.set ((p1).toNat) v1).set ((p3).toNat) v2).map Ab))]) (fun v6 => mk [(0, oD (.own 90000)), (1, iD p1), (4, oD (.clo (Cy (Gq true Ab true Ab) C7 p4))), (12, iD v6), (13, iD ((wI .i64 (p2 - 1))))] [(90000, .vec 3 (((p0.set ((p1).toNat) v1).set ((p3).toNat) v2).map Ab))]) (fun _ _ => rfl) (sm [] _ _ rfl rfl) (fun j5 n5 v5 h => ?_) (fun v6 s h hs => ?_)
 ·unfold Cs at h
  refine Ap ?_
  refine AU h (fun v7 => mk [(0, oD (.own 90000)), (1, iD p1), (4, oD (.clo (Cy (Gq true Ab true Ab) C7 p4))), (12, iD v5), (13, iD ((wI .i64 (p2 - 1)))), (47, bD v7)] [(90000, .vec 3 (((p0.set ((p1).toNat) v1).set ((p3).toNat) v2).map Ab))]) (fun j7 h => ?_) (fun v7 h => ?_)
  ·refine Aj Ac rfl (qm rfl (qm rfl (K0 rfl (qm rfl ?_))))
   refine E1 35 h rfl (fun h => ?_) fun h => ?_
   ·refine qm rfl (qm rfl (qm rfl ?_))
    obtain ⟨v9, a9, b9, h⟩ := Ah h
    refine qI AT AQ a9 (Af b9) rfl (qJ Du AQ (Af b9) rfl (qm rfl (qm rfl ?_)))
    obtain ⟨v10, a10, b10, h⟩ := Ah h
    refine qI AT AQ a10 (Af b10) rfl (qJ Du AQ (Af b10) rfl ?_)
    obtain ⟨v11, a11, h⟩ := bind_some h
    refine F6 (ds0 := [_, _]) (ar := (Gq true Ab true Ab) ((v9, v10))) (.g rfl rfl) rfl rfl ⟨rfl, rfl, tv⟩ rfl rfl rfl (F3 (Hx _ _ _ _ A5 A5) a11) ?_
    refine A0 rfl (qp rfl (AJ (by kernel_rfl) ?_))
    exact sn [] h
   ·refine qn rfl (qn rfl (qn rfl (qn rfl (qn rfl (qn rfl (qn rfl (qn rfl (qn rfl (qn rfl (qn rfl (qp rfl (AJ (by kernel_rfl) ?_))))))))))))
    exact sn [] h
  ·refine Bd h rfl (fun h => ?_) fun h => ?_
   ·refine Ao (AL (Aj Ac rfl (qm rfl (AW rfl (qa rfl (Ad ?_))))))
    exact sn [] h
   ·refine AV ?_
    exact sn [] h
 ·refine Ak hs (Ap ?_)
  refine AB (L := Ck N p0 p1 p3 p4 v1 v2 v6) h (fun v13 => mk [(0, oD (.own 90000)), (1, iD p1), (4, oD (.clo (Cy (Gq true Ab true Ab) C7 p4))), (12, iD v6), (13, iD v13)] [(90000, .vec 3 (((p0.set ((p1).toNat) v1).set ((p3).toNat) v2).map Ab))]) (fun v14 => mk [(0, oD (.own 90000)), (1, iD p1), (4, oD (.clo (Cy (Gq true Ab true Ab) C7 p4))), (12, iD v6), (13, iD v14)] [(90000, .vec 3 (((p0.set ((p1).toNat) v1).set ((p3).toNat) v2).map Ab))]) (fun _ _ => rfl) (sm [] _ _ rfl rfl) (fun j13 n13 v13 h => ?_) (fun v14 s h hs => ?_)
  ·unfold Ck at h
   refine Ap ?_
   refine AU h (fun v15 => mk [(0, oD (.own 90000)), (1, iD p1), (4, oD (.clo (Cy (Gq true Ab true Ab) C7 p4))), (12, iD v6), (13, iD v13), (66, bD v15)] [(90000, .vec 3 (((p0.set ((p1).toNat) v1).set ((p3).toNat) v2).map Ab))]) (fun j15 h => ?_) (fun v15 h => ?_)
   ·refine Aj Ac rfl (qm rfl (qm rfl (K0 rfl (qm rfl ?_))))
    refine E1 53 h rfl (fun h => ?_) fun h => ?_
    ·refine qm rfl (qm rfl (qm rfl ?_))
     obtain ⟨v17, a17, b17, h⟩ := Ah h
     refine qI AT AQ a17 (Af b17) rfl (qJ Du AQ (Af b17) rfl (qm rfl (qm rfl ?_)))
     obtain ⟨v18, a18, b18, h⟩ := Ah h
     refine qI AT AQ a18 (Af b18) rfl (qJ Du AQ (Af b18) rfl ?_)
     obtain ⟨v19, a19, h⟩ := bind_some h
     refine F6 (ds0 := [_, _]) (ar := (Gq true Ab true Ab) ((v17, v18))) (.g rfl rfl) rfl rfl ⟨rfl, rfl, tv⟩ rfl rfl rfl (F3 (Hx _ _ _ _ A5 A5) a19) ?_
     refine A0 rfl (CQ rfl (qp rfl (AJ (by kernel_rfl) ?_)))
     exact sn [] h
    ·refine qn rfl (qn rfl (qn rfl (qn rfl (qn rfl (qn rfl (qn rfl (qn rfl (qn rfl (qn rfl (qn rfl (qn rfl (qp rfl (AJ (by kernel_rfl) ?_)))))))))))))
     exact sn [] h
   ·refine Bd h rfl (fun h => ?_) fun h => ?_
    ·refine Ao (AL (Aj Ac rfl (qm rfl (Di rfl (qa rfl (Ad ?_))))))
     exact sn [] h
    ·refine AV ?_
     exact sn [] h
  ·refine Ak hs (Ap (As Ac rfl (qm rfl (qm rfl (Gt rfl (Ad ?_))))))
   refine Bd h rfl (fun h => ?_) fun h => ?_
   ·refine As Ac rfl (qm rfl (qm rfl (qm rfl (qm rfl (qm rfl (qm rfl ?_))))))
    obtain ⟨v22, a22, b22, h⟩ := Ah h
    refine qI AT AQ a22 (Af b22) rfl (qJ Du AQ (Af b22) rfl (qm rfl (qm rfl ?_)))
    obtain ⟨v23, a23, b23, h⟩ := Ah h
    refine qI AT AQ a23 (Af b23) rfl (qJ Du AQ (Af b23) rfl ?_)
    obtain ⟨v24, a24, b24, h⟩ := Ah h
    refine qI AT AQ a24 (Af b24) rfl ?_
    refine A9 rfl rfl rfl rfl (Af b24) rfl AQ rfl (A2 rfl) (A6 Ab ((p0.set ((p1).toNat) v1).set ((p3).toNat) v2) _ v22) ?_
    obtain ⟨v25, a25, b25, h⟩ := Ah h
    refine qI AT AQ a25 (Af b25) rfl ?_
    refine A9 rfl rfl rfl rfl (Af b25) rfl AQ rfl (A2 rfl) (A6 Ab (((p0.set ((p1).toNat) v1).set ((p3).toNat) v2).set ((v14).toNat) v22) _ v23) ?_
    refine AJ (by kernel_rfl) (As Ac rfl (qm rfl (qa rfl (qa rfl (Ad ?_)))))
    obtain rfl := sj h
    refine Ak (sm [] [(10, iD v14), (11, bD true)] [(90000, .vec 3 (((((p0.set ((p1).toNat) v1).set ((p3).toNat) v2).set ((v14).toNat) v22).set ((p1).toNat) v23).map Ab))] rfl rfl) (Ax ?_)
    exact ⟨⟨[_, _], ⟨.tmp _ _ rfl, ⟨.tmp _ _ rfl, tv⟩⟩, rfl⟩, ⟨rfl, tv⟩, tv⟩
   ·refine Ao (As Ac rfl (qm rfl (qm rfl (qm rfl (qm rfl (qm rfl (qm rfl ?_)))))))
    obtain ⟨v26, a26, b26, h⟩ := Ah h
    refine qI AT AQ a26 (Af b26) rfl (qJ Du AQ (Af b26) rfl (qm rfl (qm rfl ?_)))
    obtain ⟨v27, a27, b27, h⟩ := Ah h
    refine qI AT AQ a27 (Af b27) rfl (qJ Du AQ (Af b27) rfl ?_)
    obtain ⟨v28, a28, b28, h⟩ := Ah h
    refine qI AT AQ a28 (Af b28) rfl ?_
    refine A9 rfl rfl rfl rfl (Af b28) rfl AQ rfl (A2 rfl) (A6 Ab ((p0.set ((p1).toNat) v1).set ((p3).toNat) v2) _ v26) ?_
    obtain ⟨v29, a29, b29, h⟩ := Ah h
    refine qI AT AQ a29 (Af b29) rfl ?_
    refine A9 rfl rfl rfl rfl (Af b29) rfl AQ rfl (A2 rfl) (A6 Ab (((p0.set ((p1).toNat) v1).set ((p3).toNat) v2).set ((v6).toNat) v26) _ v27) ?_
    refine AJ (by kernel_rfl) (As Ac rfl (qm rfl (AW rfl (qa rfl (Ad (As Ac rfl (qm rfl (Di rfl (qa rfl (Ad (Ap ?_)))))))))))
    refine AB (L := Ci N p1 p4) h (fun v30 => mk [(0, oD (.own 90000)), (1, iD p1), (4, oD (.clo (Cy (Gq true Ab true Ab) C7 p4))), (12, iD v30.2.1), (13, iD v30.2.2)] [(90000, .vec 3 (v30.1.map Ab))]) (fun v31 => mk [(0, oD (.own 90000)), (1, iD p1), (13, iD v31.2)] [(90000, .vec 3 (v31.1.map Ab))]) (fun _ _ => rfl) (sm [] _ _ rfl rfl) (fun j30 n30 v30 h => ?_) (fun v31 s h hs => ?_)
    ·unfold Ci at h
     refine AL (Ap ?_)
     refine AB (L := Cj N p1 p4 v30) h (fun v32 => mk [(0, oD (.own 90000)), (1, iD p1), (4, oD (.clo (Cy (Gq true Ab true Ab) C7 p4))), (12, iD v32), (13, iD v30.2.2)] [(90000, .vec 3 (v30.1.map Ab))]) (fun v33 => mk [(0, oD (.own 90000)), (1, iD p1), (4, oD (.clo (Cy (Gq true Ab true Ab) C7 p4))), (12, iD v33), (13, iD v30.2.2)] [(90000, .vec 3 (v30.1.map Ab))]) (fun _ _ => rfl) (sm [] _ _ rfl rfl) (fun j32 n32 v32 h => ?_) (fun v33 s h hs => ?_)
     ·unfold Cj at h
      refine Ap ?_
      refine AU h (fun v34 => mk [(0, oD (.own 90000)), (1, iD p1), (4, oD (.clo (Cy (Gq true Ab true Ab) C7 p4))), (12, iD v32), (13, iD v30.2.2), (120, bD v34)] [(90000, .vec 3 (v30.1.map Ab))]) (fun j34 h => ?_) (fun v34 h => ?_)
      ·refine Aj Ac rfl (qm rfl (qm rfl (K0 rfl (qm rfl ?_))))
       refine E1 108 h rfl (fun h => ?_) fun h => ?_
       ·refine qm rfl (qm rfl (qm rfl ?_))
        obtain ⟨v36, a36, b36, h⟩ := Ah h
        refine qI AT AQ a36 (Af b36) rfl (qJ Du AQ (Af b36) rfl (qm rfl (qm rfl ?_)))
        obtain ⟨v37, a37, b37, h⟩ := Ah h
        refine qI AT AQ a37 (Af b37) rfl (qJ Du AQ (Af b37) rfl ?_)
        obtain ⟨v38, a38, h⟩ := bind_some h
        refine F6 (ds0 := [_, _]) (ar := (Gq true Ab true Ab) ((v36, v37))) (.g rfl rfl) rfl rfl ⟨rfl, rfl, tv⟩ rfl rfl rfl (F3 (Hx _ _ _ _ A5 A5) a38) ?_
        refine A0 rfl (qp rfl (AJ (by kernel_rfl) ?_))
        exact sn [] h
       ·refine qn rfl (qn rfl (qn rfl (qn rfl (qn rfl (qn rfl (qn rfl (qn rfl (qn rfl (qn rfl (qn rfl (qp rfl (AJ (by kernel_rfl) ?_))))))))))))
        exact sn [] h
      ·refine Bd h rfl (fun h => ?_) fun h => ?_
       ·refine Ao (AL (Aj Ac rfl (qm rfl (AW rfl (qa rfl (Ad ?_))))))
        exact sn [] h
       ·refine AV ?_
        exact sn [] h
     ·refine Ak hs (Ap ?_)
      refine AB (L := Cl N p1 p4 v30 v33) h (fun v40 => mk [(0, oD (.own 90000)), (1, iD p1), (4, oD (.clo (Cy (Gq true Ab true Ab) C7 p4))), (12, iD v33), (13, iD v40)] [(90000, .vec 3 (v30.1.map Ab))]) (fun v41 => mk [(0, oD (.own 90000)), (1, iD p1), (4, oD (.clo (Cy (Gq true Ab true Ab) C7 p4))), (12, iD v33), (13, iD v41)] [(90000, .vec 3 (v30.1.map Ab))]) (fun _ _ => rfl) (sm [] _ _ rfl rfl) (fun j40 n40 v40 h => ?_) (fun v41 s h hs => ?_)
      ·unfold Cl at h
       refine Ap ?_
       refine AU h (fun v42 => mk [(0, oD (.own 90000)), (1, iD p1), (4, oD (.clo (Cy (Gq true Ab true Ab) C7 p4))), (12, iD v33), (13, iD v40), (139, bD v42)] [(90000, .vec 3 (v30.1.map Ab))]) (fun j42 h => ?_) (fun v42 h => ?_)
       ·refine Aj Ac rfl (qm rfl (qm rfl (K0 rfl (qm rfl ?_))))
        refine E1 126 h rfl (fun h => ?_) fun h => ?_
        ·refine qm rfl (qm rfl (qm rfl ?_))
         obtain ⟨v44, a44, b44, h⟩ := Ah h
         refine qI AT AQ a44 (Af b44) rfl (qJ Du AQ (Af b44) rfl (qm rfl (qm rfl ?_)))
         obtain ⟨v45, a45, b45, h⟩ := Ah h
         refine qI AT AQ a45 (Af b45) rfl (qJ Du AQ (Af b45) rfl ?_)
         obtain ⟨v46, a46, h⟩ := bind_some h
         refine F6 (ds0 := [_, _]) (ar := (Gq true Ab true Ab) ((v44, v45))) (.g rfl rfl) rfl rfl ⟨rfl, rfl, tv⟩ rfl rfl rfl (F3 (Hx _ _ _ _ A5 A5) a46) ?_
         refine A0 rfl (CQ rfl (qp rfl (AJ (by kernel_rfl) ?_)))
         exact sn [] h
        ·refine qn rfl (qn rfl (qn rfl (qn rfl (qn rfl (qn rfl (qn rfl (qn rfl (qn rfl (qn rfl (qn rfl (qn rfl (qp rfl (AJ (by kernel_rfl) ?_)))))))))))))
         exact sn [] h
       ·refine Bd h rfl (fun h => ?_) fun h => ?_
        ·refine Ao (AL (Aj Ac rfl (qm rfl (Di rfl (qa rfl (Ad ?_))))))
         exact sn [] h
        ·refine AV ?_
         exact sn [] h
      ·refine Ak hs (Ap (As Ac rfl (qm rfl (qm rfl (Gt rfl (Ad ?_))))))
       refine Bd h rfl (fun h => ?_) fun h => ?_
       ·refine AV ?_
        exact sn [] h
       ·refine Ao (As Ac rfl (qm rfl (qm rfl (qm rfl (qm rfl (qm rfl (qm rfl ?_)))))))
        obtain ⟨v49, a49, b49, h⟩ := Ah h
        refine qI AT AQ a49 (Af b49) rfl (qJ Du AQ (Af b49) rfl (qm rfl (qm rfl ?_)))
        obtain ⟨v50, a50, b50, h⟩ := Ah h
        refine qI AT AQ a50 (Af b50) rfl (qJ Du AQ (Af b50) rfl ?_)
        obtain ⟨v51, a51, b51, h⟩ := Ah h
        refine qI AT AQ a51 (Af b51) rfl ?_
        refine A9 rfl rfl rfl rfl (Af b51) rfl AQ rfl (A2 rfl) (A6 Ab v30.1 _ v49) ?_
        obtain ⟨v52, a52, b52, h⟩ := Ah h
        refine qI AT AQ a52 (Af b52) rfl ?_
        refine A9 rfl rfl rfl rfl (Af b52) rfl AQ rfl (A2 rfl) (A6 Ab (v30.1.set ((v33).toNat) v49) _ v50) ?_
        refine AJ (by kernel_rfl) (As Ac rfl (qm rfl (AW rfl (qa rfl (Ad (Aj Ac rfl (qm rfl (Di rfl (qa rfl (Ad ?_))))))))))
        exact sn [] h
    ·refine Ak hs (As Ac rfl (qm rfl (qm rfl (qm rfl (qm rfl (qm rfl (qm rfl ?_)))))))
     obtain ⟨v53, a53, b53, h⟩ := Ah h
     refine qI AT AQ a53 (Af b53) rfl (qJ Du AQ (Af b53) rfl (qm rfl (qm rfl ?_)))
     obtain ⟨v54, a54, b54, h⟩ := Ah h
     refine qI AT AQ a54 (Af b54) rfl (qJ Du AQ (Af b54) rfl ?_)
     obtain ⟨v55, a55, b55, h⟩ := Ah h
     refine qI AT AQ a55 (Af b55) rfl ?_
     refine A9 rfl rfl rfl rfl (Af b55) rfl AQ rfl (A2 rfl) (A6 Ab v31.1 _ v53) ?_
     obtain ⟨v56, a56, b56, h⟩ := Ah h
     refine qI AT AQ a56 (Af b56) rfl ?_
     refine A9 rfl rfl rfl rfl (Af b56) rfl AQ rfl (A2 rfl) (A6 Ab (v31.1.set ((v31.2).toNat) v53) _ v54) ?_
     refine AJ (by kernel_rfl) (As Ac rfl (qm rfl (qa rfl (qa rfl (Ad ?_)))))
     obtain rfl := sj h
     refine Ak (sm [] [(10, iD v31.2), (11, bD false)] [(90000, .vec 3 (((v31.1.set ((v31.2).toNat) v53).set ((p1).toNat) v54).map Ab))] rfl rfl) (Ax ?_)
     exact ⟨⟨[_, _], ⟨.tmp _ _ rfl, ⟨.tmp _ _ rfl, tv⟩⟩, rfl⟩, ⟨rfl, tv⟩, tv⟩
theorem HG (N : Nat) (rc : (List Aa) → Int → Int → Int → ((Aa × Aa) → Option Int) → Option ((List Aa))) (hrc : ∀ (p0 : List Aa) (p1 : Int) (p2 : Int) (p3 : Int) (p4 : (Aa × Aa) → Option Int) (r : (List Aa)), rc p0 p1 p2 p3 p4 = some r → BV Tryz.prog 70 [oD (.own 90000), iD p1, iD p2, iD p3, oD (.clo (Cy (Gq true Ab true Ab) C7 p4))] [(.vec 3 (p0.map Ab), .vec 3 (r.map Ab))] [] (.tup [])) (p0 : List Aa) (p1 : Int) (p2 : Int) (p3 : Int) (p4 : (Aa × Aa) → Option Int) (r : (List Aa)) (h : D1 N rc p0 p1 p2 p3 p4 = some r) : BV Tryz.prog 70 [oD (.own 90000), iD p1, iD p2, iD p3, oD (.clo (Cy (Gq true Ab true Ab) C7 p4))] [(.vec 3 (p0.map Ab), .vec 3 (r.map Ab))] [] (.tup []) := by
 unfold D1 at h
 refine Bk (n := 148) (rs := []) Tryz.func70 rfl rfl rfl (A2 rfl) (A2 rfl) rfl rfl (A2 rfl) rfl (A2 rfl) fun w0 S0 GL => O5 ?_
 refine Ak (sm [] [(0, oD (.own 90000)), (1, iD p1), (2, iD p2), (3, iD p3), (4, oD (.clo (Cy (Gq true Ab true Ab) C7 p4)))] [(90000, .vec 3 (p0.map Ab))] rfl rfl) (As Ac rfl (qa rfl (Ad (As Ac rfl (qa rfl (Ad ?_))))))
 refine AB (L := Bn N p4 rc) h (fun v1 => mk [(0, oD (.own 90000)), (1, iD v1.2.1), (2, iD v1.2.2.1), (3, iD v1.2.2.2.1), (4, oD (.clo (Cy (Gq true Ab true Ab) C7 p4))), (10, bD v1.2.2.2.2.1), (11, bD v1.2.2.2.2.2)] [(90000, .vec 3 (v1.1.map Ab))]) (fun v2 => mk [] []) (fun _ _ => rfl) (sm [] _ _ rfl rfl) (fun j1 n1 v1 h => ?_) (fun v2 s h hs => ?_)
 ·unfold Bn at h
  refine AL (As Ac rfl (qm rfl (qm rfl (Di rfl (qa rfl (Ad (Ap (As Ac rfl (qm rfl (K0 rfl (Ad ?_)))))))))))
  refine Bd h rfl (fun h => ?_) fun h => ?_
  ·refine As Ac rfl (qm rfl (qm rfl (qm rfl (qm rfl ?_))))
   obtain ⟨v4, a4, h⟩ := bind_some h
   refine DO (ds0 := [_, _, _, _]) [90000] [] [true] (Hc N v1.1 v1.2.1 v1.2.2.1 p4 v4 a4) (.p rfl) dO rfl ⟨rfl, rfl, rfl, rfl, tv⟩ rfl rfl (by decide) ⟨rfl, tv⟩ rfl (Bf rfl) tv ⟨(fun h => by cases h), tv⟩ rfl rfl rfl ?_
   refine Ad ?_
   obtain rfl := sj h
   refine Ax ⟨_, (sm [] [] [(90000, .vec 3 (v4.map Ab))] rfl rfl), ?_⟩
   exact ⟨⟨[], tv, rfl⟩, ⟨rfl, tv⟩, tv⟩
  ·refine Ao (Ap (As Ac rfl (qm rfl (B5 rfl (Ad ?_)))))
   refine Bd h rfl (fun h => ?_) fun h => ?_
   ·refine As Ac rfl (qm rfl (qm rfl (qm rfl (qm rfl ?_))))
    obtain ⟨v6, a6, h⟩ := bind_some h
    refine DO (ds0 := [_, _, _, _]) [90000] [] [true] (HW N v1.1 v1.2.1 v1.2.2.1 p4 v6 a6) (.p rfl) dQ rfl ⟨rfl, rfl, rfl, rfl, tv⟩ rfl rfl (by decide) ⟨rfl, tv⟩ rfl (Bf rfl) tv ⟨(fun h => by cases h), tv⟩ rfl rfl rfl ?_
    refine Ad ?_
    obtain rfl := sj h
    refine Ax ⟨_, (sm [] [] [(90000, .vec 3 (v6.map Ab))] rfl rfl), ?_⟩
    exact ⟨⟨[], tv, rfl⟩, ⟨rfl, tv⟩, tv⟩
   ·refine Ao ?_
    refine AU h (fun v7 => mk [(0, oD (.own 90000)), (1, iD v1.2.1), (2, iD v1.2.2.1), (3, iD v7.2), (4, oD (.clo (Cy (Gq true Ab true Ab) C7 p4))), (10, bD v1.2.2.2.2.1), (11, bD v1.2.2.2.2.2), (12, iD ((wI .i64 (v1.2.2.1 - v1.2.1))))] [(90000, .vec 3 (v7.1.map Ab))]) (fun j7 h => ?_) (fun v7 h => ?_)
    ·refine As Ac rfl (qm rfl (CQ rfl (Ad ?_)))
     refine Bd h rfl (fun h => ?_) fun h => ?_
     ·refine As Ac rfl (qm rfl (qm rfl (qm rfl (qm rfl ?_))))
      obtain ⟨v9, a9, h⟩ := bind_some h
      refine DO (ds0 := [_, _, _, _]) [90000] [] [true] (G9 N v1.1 v1.2.1 v1.2.2.1 p4 v9 a9) (.p rfl) dj rfl ⟨rfl, rfl, rfl, rfl, tv⟩ rfl rfl (by decide) ⟨rfl, tv⟩ rfl (Bf rfl) tv ⟨(fun h => by cases h), tv⟩ rfl rfl rfl ?_
      refine Ad (Aj Ac rfl (qm rfl (Di rfl (qa rfl (Ad ?_)))))
      exact sn [] h
     ·refine Ao ?_
      exact sn [] h
    ·refine As Ac rfl (qm rfl (qm rfl (qm rfl (qm rfl ?_))))
     obtain ⟨v10, a10, h⟩ := bind_some h
     refine Fz [] [90000] (Hq N v7.1 v1.2.1 v1.2.2.1 p4 v10 a10) bF DE rfl (qm rfl (qx rfl (qx rfl (qa rfl (qa rfl (Ad ?_))))))
     refine AU h (fun v11 => mk [(0, oD (.own 90000)), (1, iD v1.2.1), (2, iD v1.2.2.1), (3, iD v7.2), (4, oD (.clo (Cy (Gq true Ab true Ab) C7 p4))), (10, bD v1.2.2.2.2.1), (11, bD v1.2.2.2.2.2), (12, iD ((wI .i64 (v1.2.2.1 - v1.2.1)))), (13, iD v11.2.1), (14, iD v11.2.2)] [(90000, .vec 3 (v11.1.map Ab))]) (fun j11 h => ?_) (fun v11 h => ?_)
     ·refine As Ac rfl (qm rfl (B5 rfl (Ad ?_)))
      refine Bd h rfl (fun h => ?_) fun h => ?_
      ·refine As Ac rfl (qm rfl (qm rfl (qm rfl (qm rfl ?_))))
       obtain ⟨v13, a13, h⟩ := bind_some h
       refine DO (ds0 := [_, _, _, _]) [90000] [] [true] (Hi N v7.1 v1.2.1 v1.2.2.1 p4 v13 a13) (.p rfl) cL rfl ⟨rfl, rfl, rfl, rfl, tv⟩ rfl rfl (by decide) ⟨rfl, tv⟩ rfl (Bf rfl) tv ⟨(fun h => by cases h), tv⟩ rfl rfl rfl ?_
       refine Ad (As Ac rfl (qm rfl (Di rfl (qm rfl (qm rfl (Di rfl (Di rfl (qa rfl (Ad (Aj Ac rfl (qa rfl (Ad ?_))))))))))))
       exact sn [] h
      ·refine Ao ?_
       exact sn [] h
     ·refine AU h (fun v14 => mk [(0, oD (.own 90000)), (1, iD v1.2.1), (2, iD v1.2.2.1), (3, iD v7.2), (4, oD (.clo (Cy (Gq true Ab true Ab) C7 p4))), (10, bD v1.2.2.2.2.1), (11, bD v1.2.2.2.2.2), (12, iD ((wI .i64 (v1.2.2.1 - v1.2.1)))), (13, iD v11.2.1)] [(90000, .vec 3 (v14.map Ab))]) (fun j14 h => ?_) (fun v14 h => ?_)
      ·refine AU h (fun v15 => mk [(0, oD (.own 90000)), (1, iD v1.2.1), (2, iD v1.2.2.1), (3, iD v7.2), (4, oD (.clo (Cy (Gq true Ab true Ab) C7 p4))), (10, bD v1.2.2.2.2.1), (11, bD v1.2.2.2.2.2), (12, iD ((wI .i64 (v1.2.2.1 - v1.2.1)))), (13, iD v11.2.1), (75, bD v15)] [(90000, .vec 3 (v11.1.map Ab))]) (fun j15 h => ?_) (fun v15 h => ?_)
       ·refine Aj Ac rfl (qm rfl (qm rfl ?_))
        refine E1 69 h rfl (fun h => ?_) fun h => ?_
        ·refine qm rfl (qp rfl (qm rfl ?_))
         refine E1 72 h rfl (fun h => ?_) fun h => ?_
         ·refine qm rfl (B5 rfl (qp rfl (Ad ?_)))
          exact sn [] h
         ·refine qn rfl (qn rfl (qp rfl (Ad ?_)))
          exact sn [] h
        ·refine qn rfl (qp rfl (qm rfl (qn rfl (qn rfl (qp rfl (Ad ?_))))))
         exact sn [] h
       ·refine Bd h rfl (fun h => ?_) fun h => ?_
        ·refine As Ac rfl (qm rfl (qm rfl (qm rfl (qm rfl ?_))))
         obtain ⟨v19, a19, h⟩ := bind_some h
         refine DO (ds0 := [_, _, _, _]) [90000] [] [true] (Gs N v11.1 v1.2.1 v1.2.2.1 p4 v19 a19) (.p rfl) cR rfl ⟨rfl, rfl, rfl, rfl, tv⟩ rfl rfl (by decide) ⟨rfl, tv⟩ rfl (Bf rfl) tv ⟨(fun h => by cases h), tv⟩ rfl rfl rfl ?_
         refine Ad ?_
         refine Bd h rfl (fun h => ?_) fun h => ?_
         ·obtain rfl := sj h
          refine Ax ⟨_, (sm [] [] [(90000, .vec 3 (v19.2.map Ab))] rfl rfl), ?_⟩
          exact ⟨⟨[], tv, rfl⟩, ⟨rfl, tv⟩, tv⟩
         ·refine Ao ?_
          exact sn [] h
        ·refine Ao ?_
         exact sn [] h
      ·refine Ap ?_
       refine AU h (fun v21 => mk [(0, oD (.own 90000)), (1, iD v1.2.1), (2, iD v1.2.2.1), (3, iD v7.2), (4, oD (.clo (Cy (Gq true Ab true Ab) C7 p4))), (10, bD v1.2.2.2.2.1), (11, bD v1.2.2.2.2.2), (12, iD ((wI .i64 (v1.2.2.1 - v1.2.1)))), (13, iD v11.2.1), (97, bD v21)] [(90000, .vec 3 (v14.map Ab))]) (fun j21 h => ?_) (fun v21 h => ?_)
       ·refine Aj Ac rfl (qm rfl (Gt rfl (qm rfl ?_)))
        refine E1 83 h rfl (fun h => ?_) fun h => ?_
        ·refine qm rfl (qm rfl (qm rfl (Di rfl ?_)))
         obtain ⟨v23, a23, b23, h⟩ := Ah h
         refine qI AT AQ a23 (Af b23) rfl (qJ Du AQ (Af b23) rfl (qm rfl (qm rfl ?_)))
         obtain ⟨v24, a24, b24, h⟩ := Ah h
         refine qI AT AQ a24 (Af b24) rfl (qJ Du AQ (Af b24) rfl ?_)
         obtain ⟨v25, a25, h⟩ := bind_some h
         refine F6 (ds0 := [_, _]) (ar := (Gq true Ab true Ab) ((v23, v24))) (.g rfl rfl) rfl rfl ⟨rfl, rfl, tv⟩ rfl rfl rfl (F3 (Hx _ _ _ _ A5 A5) a25) ?_
         refine A0 rfl (CQ rfl (qp rfl (AJ (by kernel_rfl) ?_)))
         exact sn [] h
        ·refine qn rfl (qn rfl (qn rfl (qn rfl (qn rfl (qn rfl (qn rfl (qn rfl (qn rfl (qn rfl (qn rfl (qn rfl (qn rfl (qp rfl (AJ (by kernel_rfl) ?_))))))))))))))
         exact sn [] h
       ·refine Bd h rfl (fun h => ?_) fun h => ?_
        ·refine As Ac rfl (qm rfl (qm rfl (qm rfl (qm rfl (qm rfl ?_)))))
         obtain ⟨v27, a27, h⟩ := bind_some h
         refine DO (ds0 := [_, _, _, _, _]) [90000] [] [true] (G7 N v14 v1.2.1 v1.2.2.1 v11.2.1 p4 v27 a27) (.p rfl) bH rfl ⟨rfl, rfl, rfl, rfl, rfl, tv⟩ rfl rfl (by decide) ⟨rfl, tv⟩ rfl (Bf rfl) tv ⟨(fun h => by cases h), tv⟩ rfl rfl rfl ?_
         refine qa rfl (Ad (As Ac rfl (qm rfl (qa rfl (Ad (AV ?_))))))
         exact sn [] h
        ·refine Ao (As Ac rfl (qm rfl (qm rfl (qm rfl (qm rfl (qm rfl ?_))))))
         obtain ⟨v28, a28, h⟩ := bind_some h
         refine DO (ds0 := [_, _, _, _, _]) [90000] [] [true] (HE N v14 v1.2.1 v1.2.2.1 v11.2.1 p4 v28 a28) (.p rfl) cI rfl ⟨rfl, rfl, rfl, rfl, rfl, tv⟩ rfl rfl (by decide) ⟨rfl, tv⟩ rfl (Bf rfl) tv ⟨(fun h => by cases h), tv⟩ rfl rfl rfl ?_
         refine qm rfl (qx rfl (qx rfl (qa rfl (qa rfl (Ad (As Ac rfl (qm rfl (qa rfl (Ad (As Ac rfl (qm rfl (qm rfl (Di rfl (qm rfl (qm rfl (Di rfl (qa rfl (qa rfl (Ad (As Ac rfl (qm rfl (PU rfl (by decide) (qa rfl (Ad (As Ac rfl (qm rfl (qm rfl (A0 rfl (Ad ?_)))))))))))))))))))))))))))))
         refine Bd h rfl (fun h => ?_) fun h => ?_
         ·refine As Ac rfl (qm rfl (qm rfl (Ee rfl (qa rfl (Ad (As Ac rfl (qm rfl (qm rfl (qm rfl (qm rfl (qm rfl ?_)))))))))))
          obtain ⟨v30, a30, h⟩ := bind_some h
          refine DO (ds0 := [_, _, _, _, _]) [90000] [] [true] (hrc v28.2.2 v1.2.1 v28.1 v7.2 p4 v30 a30) (.p rfl) aS rfl ⟨rfl, rfl, rfl, rfl, rfl, tv⟩ rfl rfl (by decide) ⟨rfl, tv⟩ rfl (Bf rfl) tv ⟨(fun h => by cases h), tv⟩ rfl rfl rfl ?_
          refine Ad (Aj Ac rfl (qm rfl (AW rfl (qa rfl (Ad ?_)))))
          exact sn [] h
         ·refine As Ac rfl (qm rfl (qm rfl (Ee rfl (qa rfl (Ad (As Ac rfl (qm rfl (qm rfl (AW rfl (qm rfl (qm rfl (qm rfl ?_))))))))))))
          obtain ⟨v31, a31, h⟩ := bind_some h
          refine DO (ds0 := [_, _, _, _, _]) [90000] [] [true] (hrc v28.2.2 ((wI .i64 (v28.1 + 1))) v1.2.2.1 v7.2 p4 v31 a31) (.p rfl) aS rfl ⟨rfl, rfl, rfl, rfl, rfl, tv⟩ rfl rfl (by decide) ⟨rfl, tv⟩ rfl (Bf rfl) tv ⟨(fun h => by cases h), tv⟩ rfl rfl rfl ?_
          refine Ad (Aj Ac rfl (qm rfl (qa rfl (Ad ?_))))
          exact sn [] h
 ·cases h
theorem FH (N : Nat) : ∀ (k : Nat) (p0 : List Aa) (p1 : Int) (p2 : Int) (p3 : Int) (p4 : (Aa × Aa) → Option Int) (r : (List Aa)), CR N k p0 p1 p2 p3 p4 = some r → BV Tryz.prog 70 [oD (.own 90000), iD p1, iD p2, iD p3, oD (.clo (Cy (Gq true Ab true Ab) C7 p4))] [(.vec 3 (p0.map Ab), .vec 3 (r.map Ab))] [] (.tup [])
 | 0, _, _, _, _, _, _, h => by cases h
 | k + 1, p0, p1, p2, p3, p4, r, h => HG N (CR N k) (FH N k) p0 p1 p2 p3 p4 r h
theorem H5 (N : Nat) (p0 : List Aa) (p1 : Int) (p2 : Int) (p3 : Int) (p4 : (Aa × Aa) → Option Int) (r : (List Aa)) (h : zFS N p0 p1 p2 p3 p4 = some r) : BV Tryz.prog 70 [oD (.own 90000), iD p1, iD p2, iD p3, oD (.clo (Cy (Gq true Ab true Ab) C7 p4))] [(.vec 3 (p0.map Ab), .vec 3 (r.map Ab))] [] (.tup []) := FH N N p0 p1 p2 p3 p4 r h
theorem G5 (N : Nat) (p0 : List Aa) (p1 : (Aa × Aa) → Option Int) (r : (List Aa)) (h : Dm N p0 p1 = some r) : BV Tryz.prog 38 [oD (.own 90000), oD (.clo (Cy (Gq true Ab true Ab) C7 p1))] [(.vec 3 (p0.map Ab), .vec 3 (r.map Ab))] [] (.tup []) := by
 unfold Dm at h
 refine Bk (n := 14) (rs := []) Tryz.func38 rfl rfl rfl (A2 rfl) (A2 rfl) rfl rfl (A2 rfl) rfl (A2 rfl) fun w0 S0 GL => O5 ?_
 refine Ak (sm [] [(0, oD (.own 90000)), (1, oD (.clo (Cy (Gq true Ab true Ab) C7 p1)))] [(90000, .vec 3 (p0.map Ab))] rfl rfl) (As Ac rfl (qm rfl (D9 AT rfl (qa rfl (Ad (Aj Ac rfl (qm rfl (qm rfl (qm rfl (I3 aF Rm rfl ?_))))))))))
 obtain ⟨v1, a1, h⟩ := bind_some h
 refine AF [] (LA N ((wI .u64 ((p0.length : Int)))) v1 a1) cB rfl (qm rfl ?_)
 obtain ⟨v2, a2, h⟩ := bind_some h
 refine DO (ds0 := [_, _, _, _, _]) [90000] [] [true] (H5 N p0 0 ((p0.length : Int)) v1 p1 v2 a2) (.p rfl) aS rfl ⟨rfl, rfl, rfl, rfl, rfl, tv⟩ rfl rfl (by decide) ⟨rfl, tv⟩ rfl (Bf rfl) tv ⟨(fun h => by cases h), tv⟩ rfl rfl rfl ?_
 refine Ad ?_
 obtain rfl := sj h
 refine ⟨_, (sm [] [] [(90000, .vec 3 (v2.map Ab))] rfl rfl), ?_⟩
 exact ⟨⟨[], tv, rfl⟩, ⟨rfl, tv⟩, tv⟩
theorem LB (N : Nat) (p0 : Int) (r : Bool) (h : HZ N p0 = some r) : Ay Tryz.prog 107 [iD p0] [] (bD r) := by
 unfold HZ at h
 refine An (n := 6) (rs := [.tmp 2]) Tryz.func107 rfl rfl rfl (A2 rfl) (A2 rfl) rfl fun w0 S0 => ?_
 refine As Ac rfl (qa rfl (Ad (As Ac rfl (qm rfl (qm rfl (CU rfl (qa rfl (Ad ?_))))))))
 obtain rfl := sj h
 refine Ak (sm [] [(2, bD ((p0 != p0)))] [] rfl rfl) (Ax ?_)
 exact ⟨⟨[_], ⟨.tmp _ _ rfl, tv⟩, rfl⟩, tv⟩
theorem IP (N : Nat) (p0 : Int) (p1 : Int) (r : Int) (h : Gn N p0 p1 = some r) : Ay Tryz.prog 73 [iD p0, iD p1] [] (iD r) := by
 unfold Gn at h
 refine An (n := 20) (rs := [.tmp 4]) Tryz.func73 rfl rfl rfl (A2 rfl) (A2 rfl) rfl fun w0 S0 => ?_
 refine As Ac rfl (qa rfl (Ad (As Ac rfl (qm rfl ?_))))
 obtain ⟨v1, a1, h⟩ := bind_some h
 refine AF [] (LB N p0 v1 a1) Zx rfl (qa rfl (Ad (As Ac rfl (qm rfl ?_))))
 obtain ⟨v2, a2, h⟩ := bind_some h
 refine AF [] (LB N p1 v2 a2) Zx rfl (qa rfl (Ad (Ap (As Ac rfl (qm rfl (Ad ?_))))))
 refine Bd h rfl (fun h => ?_) fun h => ?_
 ·refine Ap (As Ac rfl (qm rfl (Ad ?_)))
  refine Bd h rfl (fun h => ?_) fun h => ?_
  ·refine As Ac rfl (qa rfl (Ad ?_))
   obtain rfl := sj h
   refine Ak (sm [] [(4, iD 0)] [] rfl rfl) (Ax ?_)
   exact ⟨⟨[_], ⟨.tmp _ _ rfl, tv⟩, rfl⟩, tv⟩
  ·refine Ao (As Ac rfl (qa rfl (Ad ?_)))
   obtain rfl := sj h
   refine Ak (sm [] [(4, iD ((-1)))] [] rfl rfl) (Ax ?_)
   exact ⟨⟨[_], ⟨.tmp _ _ rfl, tv⟩, rfl⟩, tv⟩
 ·refine Ao (Ap (As Ac rfl (qm rfl (Ad ?_))))
  refine Bd h rfl (fun h => ?_) fun h => ?_
  ·refine As Ac rfl (qa rfl (Ad ?_))
   obtain rfl := sj h
   refine Ak (sm [] [(4, iD 1)] [] rfl rfl) (Ax ?_)
   exact ⟨⟨[_], ⟨.tmp _ _ rfl, tv⟩, rfl⟩, tv⟩
  ·refine Ao (Ap (As Ac rfl (qm rfl (qm rfl (A0 rfl (Ad ?_))))))
   refine Bd h rfl (fun h => ?_) fun h => ?_
   ·refine As Ac rfl (qa rfl (Ad ?_))
    obtain rfl := sj h
    refine Ak (sm [] [(4, iD ((-1)))] [] rfl rfl) (Ax ?_)
    exact ⟨⟨[_], ⟨.tmp _ _ rfl, tv⟩, rfl⟩, tv⟩
   ·refine Ao (Ap (As Ac rfl (qm rfl (qm rfl (Gt rfl (Ad ?_))))))
    refine Bd h rfl (fun h => ?_) fun h => ?_
    ·refine As Ac rfl (qa rfl (Ad ?_))
     obtain rfl := sj h
     refine Ak (sm [] [(4, iD 1)] [] rfl rfl) (Ax ?_)
     exact ⟨⟨[_], ⟨.tmp _ _ rfl, tv⟩, rfl⟩, tv⟩
    ·refine Ao (As Ac rfl (qa rfl (Ad ?_)))
     obtain rfl := sj h
     refine Ak (sm [] [(4, iD 0)] [] rfl rfl) (Ax ?_)
     exact ⟨⟨[_], ⟨.tmp _ _ rfl, tv⟩, rfl⟩, tv⟩
theorem RY (N : Nat) (p0 : List Int) (r : Int) (h : KI N p0 = some r) : Ay Tryz.prog 72 [pD (.sl (p0.map Aw))] [] (iD r) := by
 unfold KI at h
 refine An (n := 18) (rs := [.tmp 2]) Tryz.func72 rfl rfl rfl (A2 rfl) (A2 rfl) rfl fun w0 S0 => ?_
 refine As Ac rfl (qa rfl (Ad (As Ac rfl (qa rfl (Ad (Ap (As Ac rfl (qm rfl (AZ AG rfl (qm rfl (Ad ?_)))))))))))
 refine AB (L := HT N p0) h (fun v1 => mk [(3, iD 0), (6, pD (.sl (p0.map Aw))), (7, iD ((p0.length : Int))), (8, iD v1)] []) (fun v2 => mk [(3, iD 0)] []) (fun _ _ => rfl) (sm [] _ _ rfl rfl) (fun j1 n1 v1 h => ?_) (fun v2 s h hs => ?_)
 ·unfold HT at h
  refine As Ac rfl (A0 rfl (Ad (Ap ?_)))
  refine Bd h rfl (fun h => ?_) fun h => ?_
  ·refine Ao (Ap (AL (As Ac rfl ?_)))
   obtain ⟨v4, a4, b4, h⟩ := Ah h
   refine qi AG En a4 (Af b4) rfl (qk CP rfl (qa rfl (Ad (As Ac rfl (qm rfl (qm rfl (CU rfl (Ad ?_))))))))
   refine Bd h rfl (fun h => ?_) fun h => ?_
   ·refine As Ac rfl (qm rfl (qa rfl (Ad ?_)))
    obtain rfl := sj h
    refine Ak (sm [] [(2, iD v4)] [] rfl rfl) (Ax ?_)
    exact ⟨⟨[_], ⟨.tmp _ _ rfl, tv⟩, rfl⟩, tv⟩
   ·refine Ao (Aj Ac rfl (AW rfl (qm rfl (Ad ?_))))
    exact sn [] h
  ·refine AV ?_
   exact sn [] h
 ·refine Ak hs (As Ac rfl (qm rfl (qa rfl (Ad ?_))))
  obtain rfl := sj h
  refine Ak (sm [] [(2, iD 0)] [] rfl rfl) (Ax ?_)
  exact ⟨⟨[_], ⟨.tmp _ _ rfl, tv⟩, rfl⟩, tv⟩
theorem Nw (N : Nat) (p0 : Aa) (p1 : Aa) (r : Int) (h : Hb N p0 p1 = some r) : Ay Tryz.prog 39 [.e (.agg (Fw p0)), .e (.agg (Fw p1))] [] (iD r) := by
 unfold Hb at h
 refine An (n := 22) (rs := [.tmp 4]) Tryz.func39 rfl rfl rfl (A2 rfl) (A2 rfl) rfl fun w0 S0 => ?_
 refine As Ac rfl (qb rfl (qb rfl (qa rfl (Ad (As Ac rfl (qf RU rfl (ql CP rfl (qf RU rfl (ql CP rfl ?_)))))))))
 obtain ⟨v1, a1, h⟩ := bind_some h
 refine AF [] (IP N p0.fw p1.fw v1 a1) Z5 rfl (qf R9 rfl (ql CP rfl (qf R9 rfl (ql CP rfl ?_))))
 obtain ⟨v2, a2, h⟩ := bind_some h
 refine AF [] (IP N p0.fv p1.fv v2 a2) Z5 rfl (qf Sl rfl (ql CP rfl (qf Sl rfl (ql CP rfl ?_))))
 obtain ⟨v3, a3, h⟩ := bind_some h
 refine AF [] (IP N p0.fu p1.fu v3 a3) Z5 rfl (E2 AG En Lb rfl ?_)
 obtain ⟨v4, a4, h⟩ := bind_some h
 refine Fz [] [20] (RY N (([v1, v2, v3] : List Int)) v4 a4) dB DE rfl (qa rfl (AJ (by kernel_rfl) ?_))
 obtain rfl := sj h
 refine Ak (sm [] [(4, iD v4)] [] rfl rfl) (Ax ?_)
 exact ⟨⟨[_], ⟨.tmp _ _ rfl, tv⟩, rfl⟩, tv⟩
theorem G8 (N : Nat) (p0 : List Aa) (r : Nat × (List Aa)) (h : Dv N p0 = some r) : BV Tryz.prog 40 [oD (.own 90000)] [(.vec 3 (p0.map Ab), .vec 3 (r.2.map Ab))] [] (oD (.view 90000 3 0 r.1)) := by
 unfold Dv at h
 refine Bk (n := 61) (rs := [.tmp 2]) Tryz.func40 rfl rfl rfl (A2 rfl) (A2 rfl) rfl rfl (A2 rfl) rfl (A2 rfl) fun w0 S0 GL => ?_
 refine Ak (sm [] [(0, oD (.own 90000))] [(90000, .vec 3 (p0.map Ab))] rfl rfl) (As Ac rfl (qa rfl (Ad (Ap (As Ac rfl (qm rfl (D9 AT rfl (A0 rfl (Ad ?_)))))))))
 refine Bd h rfl (fun h => ?_) fun h => ?_
 ·refine As Ac rfl (qm rfl (qa rfl (Ad ?_)))
  obtain rfl := sj h
  refine Ak ((Pk Ab p0 2 90000 3 rfl rfl).trans (sm [] [(2, oD (.view 90000 3 0 p0.length))] [(90000, .vec 3 (p0.map Ab))] rfl rfl)) (Ax ?_)
  exact ⟨⟨[_], ⟨.tmp _ _ rfl, tv⟩, rfl⟩, ⟨rfl, tv⟩, tv⟩
 ·refine Ao (Ap (As Ac rfl (qa rfl (Ad ?_))))
  refine AB (L := BY N p0) h (fun v2 => mk [(0, oD (.own 90000)), (3, iD v2)] [(90000, .vec 3 (p0.map Ab))]) (fun v3 => mk [(0, oD (.own 90000))] [(90000, .vec 3 (p0.map Ab))]) (fun _ _ => rfl) (sm [] _ _ rfl rfl) (fun j2 n2 v2 h => ?_) (fun v3 s h hs => ?_)
  ·unfold BY at h
   refine Ap (As Ac rfl (qm rfl (qm rfl (D9 AT rfl (A0 rfl (Ad ?_))))))
   refine Bd h rfl (fun h => ?_) fun h => ?_
   ·refine Ao (Ap (AL (As Ac rfl (qm rfl (qm rfl ?_)))))
    obtain ⟨v5, a5, b5, h⟩ := Ah h
    refine qI AT AQ a5 (Af b5) rfl (qJ Du AQ (Af b5) rfl (qm rfl (qm rfl (Di rfl ?_))))
    obtain ⟨v6, a6, b6, h⟩ := Ah h
    refine qI AT AQ a6 (Af b6) rfl (qJ Du AQ (Af b6) rfl ?_)
    refine SX [.int .i64 v5.fw, .int .i64 v5.fv, .int .i64 v5.fu] [.int .i64 v6.fw, .int .i64 v6.fv, .int .i64 v6.fu] (.p rfl) rfl rfl Rr rfl ?_
    refine AJ (by kernel_rfl) ?_
    refine Bd h rfl (fun h => ?_) fun h => ?_
    ·refine As Ac rfl (qm rfl (qm rfl ?_))
     obtain ⟨c8, h⟩ := AD h
     have w9 : ((v2).toNat) + ((p0.length - (v2).toNat)) ≤ p0.length := by have := c8.2.1; have := c8.2.2; omega
     refine Id Ab p0 (.p rfl) rfl (If Ab _ _ p0) rfl AT AQ (.some _ _ _ _ c8.1) (.none _) ⟨rfl, tv⟩ tv c8.2.1 (by rw [Nat.zero_add]; exact c8.2.2) (Nat.zero_add _) rfl ?_
     refine qa rfl (Ad (Ap (As Ac rfl (qa rfl (Ad ?_)))))
     refine AB (L := BU N p0 v2) h (fun v10 => mk [(0, oD (.own 90000)), (3, iD v10.2.1), (4, oD (.view 90000 3 ((v2).toNat) ((p0.length - (v2).toNat)))), (5, iD v10.2.2)] [(90000, .vec 3 (v10.1.map Ab))]) (fun v11 => mk [(0, oD (.own 90000)), (3, iD v11.2)] [(90000, .vec 3 (v11.1.map Ab))]) (fun _ _ => rfl) (sm [] _ _ rfl rfl) (fun j10 n10 v10 h => ?_) (fun v11 s h hs => ?_)
     ·unfold BU at h
      refine Ap (As Ac rfl (qm rfl (qm rfl ?_)))
      refine VH (.p rfl) rfl AT ?_
      refine A0 rfl (Ad ?_)
      refine Bd h rfl (fun h => ?_) fun h => ?_
      ·refine Ao ?_
       refine AU h (fun v13 => mk [(0, oD (.own 90000)), (3, iD v13.2), (4, oD (.view 90000 3 ((v2).toNat) ((p0.length - (v2).toNat)))), (5, iD v10.2.2)] [(90000, .vec 3 (v13.1.map Ab))]) (fun j13 h => ?_) (fun v13 h => ?_)
       ·refine AL (As Ac rfl (qm rfl (qm rfl ?_)))
        obtain ⟨c15, h⟩ := AD h
        obtain ⟨v14, a14, b14, h⟩ := Ah h
        refine OF Ab v10.1 (.p rfl) rfl c15 rfl rfl AT AQ a14 (K6 b14).1 rfl ?_
        refine NP (.p rfl) rfl Du AQ rfl (Af (K6 b14).2) ?_
        refine qm rfl (qm rfl (Di rfl ?_))
        obtain ⟨v16, a16, b16, h⟩ := Ah h
        refine OF Ab v10.1 (.p rfl) rfl c15 rfl rfl AT AQ a16 (K6 b16).1 rfl ?_
        refine NP (.p rfl) rfl Du AQ rfl (Af (K6 b16).2) ?_
        refine da [.int .i64 v14.fw, .int .i64 v14.fv, .int .i64 v14.fu] [.int .i64 v16.fw, .int .i64 v16.fv, .int .i64 v16.fu] (.p rfl) rfl rfl Rr rfl ?_
        refine AJ (by kernel_rfl) ?_
        refine Bd h rfl (fun h => ?_) fun h => ?_
        ·refine As Ac rfl (qm rfl (qm rfl (qm rfl (qm rfl ?_))))
         obtain ⟨v18, a18, b18, h⟩ := Ah h
         refine OF Ab v10.1 (.p rfl) rfl c15 rfl rfl AT AQ a18 (K6 b18).1 rfl ?_
         refine NP (.p rfl) rfl Du AQ rfl (Af (K6 b18).2) ?_
         obtain ⟨v19, a19, b19, h⟩ := Ah h
         refine qI AT AQ a19 (Af b19) rfl ?_
         refine A9 rfl rfl rfl rfl (Af b19) rfl AQ rfl (A2 rfl) (A6 Ab v10.1 _ v18) ?_
         refine Ad (Aj Ac rfl (qm rfl (AW rfl (qa rfl (Ad ?_)))))
         exact sn [] h
        ·refine Ao ?_
         exact sn [] h
       ·refine Aj Ac rfl (qm rfl (AW rfl (qa rfl (Ad ?_))))
        exact sn [] h
      ·refine AV ?_
       exact sn [] h
     ·refine Ak hs (As Ac rfl (qm rfl (qm rfl ?_)))
      obtain ⟨c20, h⟩ := AD h
      have w21 : ((v11.2).toNat) + ((v11.1.length - (v11.2).toNat)) ≤ v11.1.length := by have := c20.2.1; have := c20.2.2; omega
      refine Id Ab v11.1 (.p rfl) rfl (If Ab _ _ v11.1) rfl AT AQ (.some _ _ _ _ c20.1) (.none _) ⟨rfl, tv⟩ tv c20.2.1 (by rw [Nat.zero_add]; exact c20.2.2) (Nat.zero_add _) rfl ?_
      have w22 : (HC v11.1 ((v11.2).toNat) (List.replicate ((v11.1.length - (v11.2).toNat)) ((Aa.mk 0 0 0)))).length = v11.1.length := Iu (by rw [List.length_replicate]; exact w21)
      refine Py Ab v11.1 ((Aa.mk 0 0 0)) rfl rfl (JR Ab _ _ ((v11.2).toNat) ((v11.1.length - (v11.2).toNat)) v11.1 w21) rfl AT HV rfl rfl rfl rfl ?_
      refine Ad (As Ac rfl (qm rfl (qm rfl ?_)))
      obtain ⟨c23, h⟩ := AD h
      have w24 : 0 + ((v11.2).toNat) ≤ (HC v11.1 ((v11.2).toNat) (List.replicate ((v11.1.length - (v11.2).toNat)) ((Aa.mk 0 0 0)))).length := by have := c23.2.1; have := c23.2.2; omega
      refine Id Ab (HC v11.1 ((v11.2).toNat) (List.replicate ((v11.1.length - (v11.2).toNat)) ((Aa.mk 0 0 0)))) (.p rfl) rfl (If Ab _ _ (HC v11.1 ((v11.2).toNat) (List.replicate ((v11.1.length - (v11.2).toNat)) ((Aa.mk 0 0 0))))) rfl AT AQ (.none _) (.some _ _ _ _ c23.1) tv ⟨rfl, tv⟩ c23.2.1 (by rw [Nat.zero_add]; exact c23.2.2) (Nat.zero_add _) rfl ?_
      refine qa rfl (Ad ?_)
      obtain rfl := sj h
      refine Ak (sm [] [(2, oD (.view 90000 3 0 ((v11.2).toNat)))] [(90000, .vec 3 ((HC v11.1 ((v11.2).toNat) (List.replicate ((v11.1.length - (v11.2).toNat)) ((Aa.mk 0 0 0)))).map Ab))] rfl rfl) (Ax ?_)
      exact ⟨⟨[_], ⟨.tmp _ _ rfl, tv⟩, rfl⟩, ⟨rfl, tv⟩, tv⟩
    ·refine Ao (Aj Ac rfl (qm rfl (AW rfl (qa rfl (Ad ?_)))))
     exact sn [] h
   ·refine AV ?_
    exact sn [] h
  ·refine Ak hs (As Ac rfl (qm rfl (qa rfl (Ad ?_))))
   obtain rfl := sj h
   refine Ak ((Pk Ab p0 2 90000 3 rfl rfl).trans (sm [] [(2, oD (.view 90000 3 0 p0.length))] [(90000, .vec 3 (p0.map Ab))] rfl rfl)) (Ax ?_)
   exact ⟨⟨[_], ⟨.tmp _ _ rfl, tv⟩, rfl⟩, ⟨rfl, tv⟩, tv⟩
theorem Hm (N : Nat) (p0 : List Aa) (p1 : Int) (p2 : Int) (r : Nat × (List Aa)) (h : DI N p0 p1 p2 = some r) : BV Tryz.prog 25 [oD (.own 90000), iD p1, iD p2] [(.vec 3 (p0.map Ab), .vec 3 (r.2.map Ab))] [] (oD (.view 90000 3 0 r.1)) := by
 unfold DI at h
 refine Bk (n := 33) (rs := [.tmp 6]) Tryz.func25 rfl rfl rfl (A2 rfl) (A2 rfl) rfl rfl (A2 rfl) rfl (A2 rfl) fun w0 S0 GL => ?_
 refine Ak (sm [] [(0, oD (.own 90000)), (1, iD p1), (2, iD p2)] [(90000, .vec 3 (p0.map Ab))] rfl rfl) (As Ac rfl (qa rfl (Ad (As Ac rfl (qm rfl (qm rfl (qm rfl (qm rfl (D9 AT rfl ?_)))))))))
 obtain ⟨c1, h⟩ := AD h
 refine W8 (.p rfl) rfl rfl AT AQ rfl rfl rfl c1.1 c1.2.1 c1.2.2.1 c1.2.2.2.1 c1.2.2.2.2.1 (by rw [List.length_map]; exact c1.2.2.2.2.2) ?_
 refine Ad (Ap (As Ac rfl (qm rfl (qm rfl (B5 rfl (Ad ?_))))))
 refine Bd h rfl (fun h => ?_) fun h => ?_
 ·refine As Ac rfl (qm rfl (qa rfl (Ad ?_)))
  obtain rfl := sj h
  refine Ak ((Pk Ab p0 6 90000 3 rfl rfl).trans (sm [] [(6, oD (.view 90000 3 0 p0.length))] [(90000, .vec 3 (p0.map Ab))] rfl rfl)) (Ax ?_)
  exact ⟨⟨[_], ⟨.tmp _ _ rfl, tv⟩, rfl⟩, ⟨rfl, tv⟩, tv⟩
 ·refine Ao (As Ac rfl (qm rfl (D9 AT rfl (qa rfl (Ad (As Ac rfl (qm rfl (qm rfl ?_))))))))
  obtain ⟨c3, h⟩ := AD h
  have w4 : 0 + ((p1).toNat) ≤ p0.length := by have := c3.2.1; have := c3.2.2; omega
  refine Id Ab p0 (.p rfl) rfl (If Ab _ _ p0) rfl AT AQ (.none _) (.some _ _ _ _ c3.1) tv ⟨rfl, tv⟩ c3.2.1 (by rw [Nat.zero_add]; exact c3.2.2) (Nat.zero_add _) rfl ?_
  refine qm rfl (qm rfl ?_)
  obtain ⟨c5, h⟩ := AD h
  have w6 : ((p2).toNat) + ((p0.length - (p2).toNat)) ≤ p0.length := by have := c5.2.1; have := c5.2.2; omega
  refine Id Ab p0 (.p rfl) rfl (If Ab _ _ p0) rfl AT AQ (.some _ _ _ _ c5.1) (.none _) ⟨rfl, tv⟩ tv c5.2.1 (by rw [Nat.zero_add]; exact c5.2.2) (Nat.zero_add _) rfl ?_
  obtain ⟨c7, h⟩ := AD h
  have w9f : 0 + ((p1).toNat) + (((p0.drop ((p2).toNat)).take ((p0.length - (p2).toNat)))).length ≤ p0.length := by have := c7; omega
  have w8 : (HC p0 (0 + ((p1).toNat)) (((p0.drop ((p2).toNat)).take ((p0.length - (p2).toNat))))).length = p0.length := Iu w9f
  have w9 : 0 + ((p1).toNat + (((p0.drop ((p2).toNat)).take ((p0.length - (p2).toNat)))).length) ≤ (HC p0 (0 + ((p1).toNat)) (((p0.drop ((p2).toNat)).take ((p0.length - (p2).toNat))))).length := by rw [w8]; have := c7; omega
  refine Ve Ab p0 (((p0.drop ((p2).toNat)).take ((p0.length - (p2).toNat)))) (.p rfl) rfl (JR Ab _ _ 0 ((p1).toNat) p0 w4) rfl rfl (RM Ab _ _ ((p2).toNat) ((p0.length - (p2).toNat)) p0 w6) ⟨rfl, tv⟩ AT AT AQ w9f rfl ?_
  refine qa rfl (AJ (by kernel_rfl) (As Ac rfl (qm rfl (qm rfl ?_))))
  refine VH (.p rfl) rfl AT ?_
  refine qm rfl ?_
  obtain ⟨c10, h⟩ := AD h
  have w11 : (((((((p1).toNat + (((p0.drop ((p2).toNat)).take ((p0.length - (p2).toNat)))).length)) : Nat) : Int)).toNat) + ((((p0.length : Int)).toNat - ((((((p1).toNat + (((p0.drop ((p2).toNat)).take ((p0.length - (p2).toNat)))).length)) : Nat) : Int)).toNat)) ≤ (HC p0 (0 + ((p1).toNat)) (((p0.drop ((p2).toNat)).take ((p0.length - (p2).toNat))))).length := by have := c10.2.2.1; have := c10.2.2.2; omega
  refine Id Ab (HC p0 (0 + ((p1).toNat)) (((p0.drop ((p2).toNat)).take ((p0.length - (p2).toNat))))) (.p rfl) rfl (JR Ab _ _ 0 (((p1).toNat + (((p0.drop ((p2).toNat)).take ((p0.length - (p2).toNat)))).length)) (HC p0 (0 + ((p1).toNat)) (((p0.drop ((p2).toNat)).take ((p0.length - (p2).toNat))))) w9) rfl AT AQ (.some _ _ _ _ c10.1) (.some _ _ _ _ c10.2.1) ⟨rfl, tv⟩ ⟨rfl, tv⟩ c10.2.2.1 (by rw [Nat.zero_add]; exact c10.2.2.2) (Nat.zero_add _) rfl ?_
  have w12 : (HC (HC p0 (0 + ((p1).toNat)) (((p0.drop ((p2).toNat)).take ((p0.length - (p2).toNat))))) (((((((p1).toNat + (((p0.drop ((p2).toNat)).take ((p0.length - (p2).toNat)))).length)) : Nat) : Int)).toNat) (List.replicate ((((p0.length : Int)).toNat - ((((((p1).toNat + (((p0.drop ((p2).toNat)).take ((p0.length - (p2).toNat)))).length)) : Nat) : Int)).toNat)) ((Aa.mk 0 0 0)))).length = (HC p0 (0 + ((p1).toNat)) (((p0.drop ((p2).toNat)).take ((p0.length - (p2).toNat))))).length := Iu (by rw [List.length_replicate]; exact w11)
  refine Py Ab (HC p0 (0 + ((p1).toNat)) (((p0.drop ((p2).toNat)).take ((p0.length - (p2).toNat))))) ((Aa.mk 0 0 0)) rfl rfl (JR Ab _ _ (((((((p1).toNat + (((p0.drop ((p2).toNat)).take ((p0.length - (p2).toNat)))).length)) : Nat) : Int)).toNat) ((((p0.length : Int)).toNat - ((((((p1).toNat + (((p0.drop ((p2).toNat)).take ((p0.length - (p2).toNat)))).length)) : Nat) : Int)).toNat)) (HC p0 (0 + ((p1).toNat)) (((p0.drop ((p2).toNat)).take ((p0.length - (p2).toNat))))) w11) rfl AT HV rfl rfl rfl rfl ?_
  refine Ad (As Ac rfl (qm rfl (qa rfl (Ad ?_))))
  obtain rfl := sj h
  refine Ak (sm [] [(6, oD (.view 90000 3 0 (((p1).toNat + (((p0.drop ((p2).toNat)).take ((p0.length - (p2).toNat)))).length))))] [(90000, .vec 3 ((HC (HC p0 (0 + ((p1).toNat)) (((p0.drop ((p2).toNat)).take ((p0.length - (p2).toNat))))) (((((((p1).toNat + (((p0.drop ((p2).toNat)).take ((p0.length - (p2).toNat)))).length)) : Nat) : Int)).toNat) (List.replicate ((((p0.length : Int)).toNat - ((((((p1).toNat + (((p0.drop ((p2).toNat)).take ((p0.length - (p2).toNat)))).length)) : Nat) : Int)).toNat)) ((Aa.mk 0 0 0)))).map Ab))] rfl rfl) (Ax ?_)
  exact ⟨⟨[_], ⟨.tmp _ _ rfl, tv⟩, rfl⟩, ⟨rfl, tv⟩, tv⟩
theorem Oa (N : Nat) (p0 : Ae) (p1 : List Aa) (r : Bool × Int) (h : Ir N p0 p1 = some r) : Ay Tryz.prog 14 [.e (.agg (Al p0)), pD (.sl (p1.map Ab))] [] (.tup [.one (.pure (.val (.bool r.1))), .one (iC r.2)]) := by
 unfold Ir at h
 refine An (n := 69) (rs := [.tmp 4, .tmp 5]) Tryz.func14 rfl rfl rfl (A2 rfl) (A2 rfl) rfl fun w0 S0 => ?_
 refine As Ac rfl (qb rfl (qa rfl (qa rfl (Ad (Ap (As Ac rfl (qL D0 CX rfl (qm rfl ?_))))))))
 obtain ⟨v1, a1, h⟩ := bind_some h
 refine AF [] (Pa N p0 p1 v1 a1) dX rfl (qa rfl (Ad (As Ac rfl (qm rfl (CU rfl (Ad ?_))))))
 refine Bd h rfl (fun h => ?_) fun h => ?_
 ·refine As Ac rfl (qm rfl (qa rfl (qa rfl (Ad ?_))))
  obtain rfl := sj h
  refine Ak (sm [] [(4, bD false), (5, iD v1)] [] rfl rfl) (Ax ?_)
  exact ⟨⟨[_, _], ⟨.tmp _ _ rfl, ⟨.tmp _ _ rfl, tv⟩⟩, rfl⟩, tv⟩
 ·refine Ao (As Ac rfl (qm rfl ?_))
  obtain ⟨v3, a3, h⟩ := bind_some h
  refine AF [2001] (Fm N p1 v3 a3) bG rfl (qa rfl (Ad (As Ac rfl (qm rfl ?_))))
  obtain ⟨v4, a4, h⟩ := bind_some h
  refine DO (ds0 := [_, _]) [2001] [] [true] (BV.weak (ds' := [_, oD (.fnc 39)]) (G5 N v3 ((fun (x : Aa × Aa) => Hb N x.1 x.2)) v4 a4) ⟨(fun _ _ _ hh => hh), (fun _ _ _ hh => WU d9 (fun ar t ht => by obtain ⟨x, r, rfl, hq, rfl⟩ := KT ht; exact Nw N x.1 x.2 r hq) hh), tv⟩) (.p rfl) dW rfl ⟨rfl, rfl, tv⟩ rfl rfl (by decide) ⟨rfl, tv⟩ rfl (Bf rfl) tv ⟨(fun h => by cases h), tv⟩ rfl rfl rfl ?_
  refine Ad (As Ac rfl (qm rfl ?_))
  obtain ⟨v5, a5, h⟩ := bind_some h
  obtain ⟨c6, h⟩ := AD h
  have w7 : 0 + v5.1 ≤ v5.2.length := by rw [Nat.zero_add]; exact c6
  refine DO (ds0 := [_]) [2001] [] [true] (G8 N v4 v5 a5) (.p rfl) d1 rfl ⟨rfl, tv⟩ rfl rfl (by decide) ⟨rfl, tv⟩ rfl (Bf rfl) tv ⟨(fun h => by cases h), tv⟩ rfl rfl rfl ?_
  refine E0 (XE Ab v5.2 24 2001 2002 3 v5.1 rfl rfl rfl rfl rfl c6) (qa rfl (Ad (Ap ?_)))
  refine AU h (fun v8 => mk [(2, oD (.ptr 2 0)), (7, oD (.own 2003)), (33, bD v8)] [(2, .box (Al p0)), (2003, .vec 3 ((v5.2.take v5.1).map Ab))]) (fun j8 h => ?_) (fun v8 h => ?_)
  ·refine Aj Ac rfl (qL D0 CX rfl ?_)
   obtain ⟨v9, a9, h⟩ := bind_some h
   refine AF [2004] (IX N p0 v9 a9) au rfl (D9 AT rfl (Gt rfl (qm rfl ?_)))
   refine E1 29 h rfl (fun h => ?_) fun h => ?_
   ·refine qn rfl (qn rfl (qn rfl (qp rfl (Ad ?_))))
    exact sn [(2003, 2002)] h
   ·refine qm rfl (D9 AT rfl (Gt rfl (qp rfl (Ad ?_))))
    exact sn [(2003, 2002)] h
  ·refine Bd h rfl (fun h => ?_) fun h => ?_
   ·refine As Ac rfl (qa rfl (qa rfl (Ad ?_)))
    obtain rfl := sj h
    refine Ak (sm [] [(4, bD false), (5, iD 3)] [] rfl rfl) (Ax ?_)
    exact ⟨⟨[_, _], ⟨.tmp _ _ rfl, ⟨.tmp _ _ rfl, tv⟩⟩, rfl⟩, tv⟩
   ·refine Ao (As Ac rfl (qL D0 CX rfl (qm rfl ?_)))
    obtain ⟨v12, a12, h⟩ := bind_some h
    refine Fz [] [2003] (I1 N p0 (v5.2.take v5.1) v12 a12) ad DE rfl (qm rfl (qx rfl (qx rfl (qa rfl (qa rfl (Ad (Ap (As Ac rfl (qm rfl (CU rfl (Ad ?_)))))))))))
    refine Bd h rfl (fun h => ?_) fun h => ?_
    ·refine As Ac rfl (qm rfl (qa rfl (qa rfl (Ad ?_))))
     obtain rfl := sj h
     refine Ak (sm [] [(4, bD false), (5, iD v12.2)] [] rfl rfl) (Ax ?_)
     exact ⟨⟨[_, _], ⟨.tmp _ _ rfl, ⟨.tmp _ _ rfl, tv⟩⟩, rfl⟩, tv⟩
    ·refine Ao (Ap (As Ac rfl (qm rfl (D9 AT rfl (qm rfl (Ad ?_))))))
     refine AB (L := F7 N p0 v5) h (fun v14 => mk [(2, oD (.ptr 2 0)), (7, oD (.own 2005)), (8, bD v14.1), (44, iD (((v5.2.take v5.1).length : Int))), (45, iD v14.2)] [(2, .box (Al p0)), (2005, .vec 3 ((v5.2.take v5.1).map Ab))]) (fun v15 => mk [(8, bD v15)] []) (fun _ _ => rfl) (sm [(2005, 2003)] _ _ rfl rfl) (fun j14 n14 v14 h => ?_) (fun v15 s h hs => ?_)
     ·unfold F7 at h
      refine As Ac rfl (A0 rfl (Ad (Ap ?_)))
      refine Bd h rfl (fun h => ?_) fun h => ?_
      ·refine Ao ?_
       refine AU h (fun v17 => mk [(2, oD (.ptr 2 0)), (7, oD (.own 2006)), (8, bD v17), (44, iD (((v5.2.take v5.1).length : Int))), (45, iD v14.2)] [(2, .box (Al p0)), (2006, .vec 3 ((v5.2.take v5.1).map Ab))]) (fun j17 h => ?_) (fun v17 h => ?_)
       ·refine AL (As Ac rfl (qm rfl (qa rfl (Ad (As Ac rfl (qL D0 CX rfl (qm rfl ?_)))))))
        obtain ⟨v18, a18, h⟩ := bind_some h
        refine Fz [2007] [2005] (Fm N (v5.2.take v5.1) v18 a18) bG (Ka (fun _ => rfl) DE) rfl (qm rfl (qm rfl (AW rfl ?_)))
        obtain ⟨v19, a19, h⟩ := bind_some h
        obtain ⟨c20, h⟩ := AD h
        have w21 : 0 + v19.1 ≤ v19.2.length := by rw [Nat.zero_add]; exact c20
        refine DO (ds0 := [_, _, _]) [2007] [] [true] (Hm N v18 v14.2 ((wI .i64 (v14.2 + 1))) v19 a19) (.p rfl) ec rfl ⟨rfl, rfl, rfl, tv⟩ rfl rfl (by decide) ⟨rfl, tv⟩ rfl (Bf rfl) tv ⟨(fun h => by cases h), tv⟩ rfl rfl rfl ?_
        obtain ⟨v22, a22, h⟩ := bind_some h
        refine VS (ds0 := [_, _]) [] [(2007, _)] (I1 N p0 (((v19.2.drop 0).take v19.1)) v22 a22) (.p rfl) ad rfl ⟨rfl, rfl, tv⟩ ⟨rfl, tv⟩ (Yu (Zb w21 rfl rfl)) rfl rfl (Bf rfl) tv rfl DE rfl ?_
        refine qm rfl (qx rfl (qx rfl (qa rfl (qa rfl (AJ (by kernel_rfl) (Ap (As Ac rfl (qm rfl (CU rfl (Ad ?_))))))))))
        refine Bd h rfl (fun h => ?_) fun h => ?_
        ·refine As Ac rfl (qm rfl (qa rfl (qa rfl (Ad ?_))))
         obtain rfl := sj h
         refine Ak (sm [] [(4, bD false), (5, iD v22.2)] [] rfl rfl) (Ax ?_)
         exact ⟨⟨[_, _], ⟨.tmp _ _ rfl, ⟨.tmp _ _ rfl, tv⟩⟩, rfl⟩, tv⟩
        ·refine Ao (Aj Ac rfl (qm rfl (qm rfl ?_)))
         refine E1 63 h rfl (fun h => ?_) fun h => ?_
         ·refine qm rfl (CQ rfl (qp rfl (qa rfl (Ad ?_))))
          exact sn [(2006, 2005)] h
         ·refine qn rfl (qn rfl (qp rfl (qa rfl (Ad ?_))))
          exact sn [(2006, 2005)] h
       ·refine Aj Ac rfl (AW rfl (qm rfl (Ad ?_)))
        exact sn [(2005, 2006)] h
      ·refine AV ?_
       exact sn [] h
     ·refine Ak hs (As Ac rfl (qm rfl (qa rfl (qa rfl (Ad ?_)))))
      obtain rfl := sj h
      refine Ak (sm [] [(4, bD v15), (5, iD 0)] [] rfl rfl) (Ax ?_)
      exact ⟨⟨[_, _], ⟨.tmp _ _ rfl, ⟨.tmp _ _ rfl, tv⟩⟩, rfl⟩, tv⟩
theorem LF (N : Nat) (p0 : Ae) (r : (List Aa) × Int) (h : Gi N p0 = some r) : Ay Tryz.prog 12 [.e (.agg (Al p0))] [] (.tup [.one (sC (r.1.map Ab)), .one (iC r.2)]) := by
 unfold Gi at h
 refine An (n := 17) (rs := [.tmp 2, .tmp 3]) Tryz.func12 rfl rfl rfl (A2 rfl) (A2 rfl) rfl fun w0 S0 => ?_
 refine As Ac rfl (qb rfl (qa rfl (qa rfl (Ad (As Ac rfl (qL D0 CX rfl ?_))))))
 obtain ⟨v1, a1, h⟩ := bind_some h
 refine AF [2001] (MN N p0 v1 a1) cw rfl (qm rfl (qx rfl (qx rfl (qa rfl (qa rfl (Ad (Ap (As Ac rfl (qm rfl (CU rfl (Ad ?_)))))))))))
 refine Bd h rfl (fun h => ?_) fun h => ?_
 ·refine As Ac rfl (qm rfl (qa rfl (qa rfl (Ad ?_))))
  obtain rfl := sj h
  refine Ak ((NC 2 _ rfl).trans (sm [] [(2, pD (.sl ((([] : List Aa)).map Ab))), (3, iD v1.2)] [] rfl rfl)) (Ax ?_)
  exact ⟨⟨[_, _], ⟨.tmp _ _ rfl, ⟨.tmp _ _ rfl, tv⟩⟩, rfl⟩, tv⟩
 ·refine Ao (As Ac rfl (qm rfl ?_))
  obtain ⟨v3, a3, b3, h⟩ := Ah h
  refine qI Kq Tm a3 (Af b3) rfl (qj ai (Af b3) rfl (qa rfl (qa rfl (Ad ?_))))
  obtain rfl := sj h
  refine Ak (sm [] [(2, pD (.sl (v3.map Ab))), (3, iD 0)] [] rfl rfl) (Ax ?_)
  exact ⟨⟨[_, _], ⟨.tmp _ _ rfl, ⟨.tmp _ _ rfl, tv⟩⟩, rfl⟩, tv⟩
theorem JC (N : Nat) (r : Bool) (h : FA N = some r) : Ay Tryz.prog 11 [] [] (bD r) := by
 unfold FA at h
 refine An (n := 79) (rs := [.tmp 0]) Tryz.func11 rfl rfl rfl (A2 rfl) (A2 rfl) rfl fun w0 S0 => ?_
 refine As Ac rfl (qa rfl (Ad (As Ac rfl ?_)))
 obtain ⟨v1, a1, h⟩ := bind_some h
 refine AF [2001, 2002, 2003, 2004] (Gr N v1 a1) Yq rfl (E0 (BX 2001 _ _ rfl rfl) (E0 (BX 2002 _ _ rfl rfl) (E0 (BX 2003 _ _ rfl rfl) (E0 (BX 2004 _ _ rfl rfl) ?_))))
 obtain ⟨v2, a2, h⟩ := bind_some h
 refine AF [2005] (MN N v1 v2 a2) cw rfl (qm rfl (qx rfl (qx rfl (qa rfl (qa rfl (Ad (As Ac rfl ?_)))))))
 obtain ⟨v3, a3, h⟩ := bind_some h
 refine AF [2006, 2007, 2008, 2009] (Gr N v3 a3) Yq rfl ?_
 obtain ⟨v4, a4, h⟩ := bind_some h
 refine Fz [2010] [2006, 2007, 2008, 2009] (Kx N v3 v4 a4) bj (Ka (fun _ => rfl) DE) rfl (qm rfl (qx rfl (qx rfl (qa rfl (qa rfl (Ad (As Ac rfl ?_)))))))
 obtain ⟨v5, a5, h⟩ := bind_some h
 refine AF [2011, 2012, 2013, 2014] (Gr N v5 a5) Yq rfl (qm rfl ?_)
 obtain ⟨v6, a6, h⟩ := bind_some h
 refine Fz [] [2011, 2012, 2013, 2014, 2010] (Oa N v5 v4.1 v6 a6) dS DE rfl (qm rfl (qx rfl (qx rfl (qa rfl (qa rfl (Ad (As Ac rfl ?_)))))))
 obtain ⟨v7, a7, h⟩ := bind_some h
 refine AF [2015, 2016, 2017, 2018] (Gr N v7 a7) Yq rfl (E0 (BX 2015 _ _ rfl rfl) (E0 (BX 2016 _ _ rfl rfl) (E0 (BX 2017 _ _ rfl rfl) (E0 (BX 2018 _ _ rfl rfl) ?_))))
 obtain ⟨v8, a8, h⟩ := bind_some h
 refine AF [] (LF N v7 v8 a8) cv rfl (qm rfl (qx rfl (qx rfl (qa rfl (qa rfl (Ad (As Ac rfl (Bx HV QJ rfl (qz HV rfl (qs AQ rfl (Ad ?_)))))))))))
 refine AU h (fun v9 => mk [(0, bD v9)] []) (fun j9 h => ?_) (fun v9 h => ?_)
 ·refine Aj Ac rfl (qm rfl (B5 rfl (qm rfl ?_)))
  refine E1 34 h rfl (fun h => ?_) fun h => ?_
  ·refine qm rfl (B5 rfl (qp rfl (qm rfl ?_)))
   refine E1 38 h rfl (fun h => ?_) fun h => ?_
   ·refine qm rfl (B5 rfl (qp rfl (qm rfl ?_)))
    refine E1 42 h rfl (fun h => ?_) fun h => ?_
    ·refine qm rfl (B5 rfl (qp rfl (qm rfl ?_)))
     refine E1 46 h rfl (fun h => ?_) fun h => ?_
     ·refine qm rfl (D9 Kq rfl (B5 rfl (qp rfl (qm rfl ?_))))
      refine E1 51 h rfl (fun h => ?_) fun h => ?_
      ·refine qm rfl (D9 AT rfl (B5 rfl (qp rfl (qm rfl ?_))))
       refine E1 56 h rfl (fun h => ?_) fun h => ?_
       ·refine qm rfl ?_
        obtain ⟨v16, a16, b16, h⟩ := Ah h
        refine qI AT AQ a16 (Af b16) rfl (qJ Du AQ (Af b16) rfl (qL Du AQ rfl ?_))
        refine SX [.int .i64 v16.fw, .int .i64 v16.fv, .int .i64 v16.fu] [.int .i64 0, .int .i64 0, .int .i64 1] (.g rfl rfl) rfl rfl Rr rfl ?_
        refine qp rfl (qm rfl ?_)
        refine E1 63 h rfl (fun h => ?_) fun h => ?_
        ·refine qm rfl (CQ rfl (qp rfl (qm rfl ?_)))
         refine E1 67 h rfl (fun h => ?_) fun h => ?_
         ·refine qm rfl (AZ AT rfl (B5 rfl (qp rfl (qm rfl ?_))))
          refine E1 72 h rfl (fun h => ?_) fun h => ?_
          ·refine qm rfl ?_
           obtain ⟨v20, a20, b20, h⟩ := Ah h
           refine qi AT AQ a20 (Af b20) rfl (qK Du AQ rfl (qL Du AQ rfl ?_))
           refine SX [.int .i64 v20.fw, .int .i64 v20.fv, .int .i64 v20.fu] [.int .i64 0, .int .i64 0, .int .i64 1] (.g rfl rfl) rfl rfl Rr rfl ?_
           refine qp rfl (qa rfl (AJ (by kernel_rfl) ?_))
           exact sn [] h
          ·refine qn rfl (qn rfl (qn rfl (qn rfl (qn rfl (qp rfl (qa rfl (AJ (by kernel_rfl) ?_)))))))
           exact sn [] h
         ·refine qn rfl (qn rfl (qn rfl (qp rfl (qm rfl (qn rfl (qn rfl (qn rfl (qn rfl (qn rfl (qp rfl (qa rfl (AJ (by kernel_rfl) ?_))))))))))))
          exact sn [] h
        ·refine qn rfl (qn rfl (qp rfl (qm rfl (qn rfl (qn rfl (qn rfl (qp rfl (qm rfl (qn rfl (qn rfl (qn rfl (qn rfl (qn rfl (qp rfl (qa rfl (AJ (by kernel_rfl) ?_))))))))))))))))
         exact sn [] h
       ·refine qn rfl (qn rfl (qn rfl (qn rfl (qn rfl (qp rfl (qm rfl (qn rfl (qn rfl (qp rfl (qm rfl (qn rfl (qn rfl (qn rfl (qp rfl (qm rfl (qn rfl (qn rfl (qn rfl (qn rfl (qn rfl (qp rfl (qa rfl (AJ (by kernel_rfl) ?_)))))))))))))))))))))))
        exact sn [] h
      ·refine qn rfl (qn rfl (qn rfl (qp rfl (qm rfl (qn rfl (qn rfl (qn rfl (qn rfl (qn rfl (qp rfl (qm rfl (qn rfl (qn rfl (qp rfl (qm rfl (qn rfl (qn rfl (qn rfl (qp rfl (qm rfl (qn rfl (qn rfl (qn rfl (qn rfl (qn rfl (qp rfl (qa rfl (AJ (by kernel_rfl) ?_))))))))))))))))))))))))))))
       exact sn [] h
     ·refine qn rfl (qn rfl (qn rfl (qp rfl (qm rfl (qn rfl (qn rfl (qn rfl (qp rfl (qm rfl (qn rfl (qn rfl (qn rfl (qn rfl (qn rfl (qp rfl (qm rfl (qn rfl (qn rfl (qp rfl (qm rfl (qn rfl (qn rfl (qn rfl (qp rfl (qm rfl (qn rfl (qn rfl (qn rfl (qn rfl (qn rfl (qp rfl (qa rfl (AJ (by kernel_rfl) ?_)))))))))))))))))))))))))))))))))
      exact sn [] h
    ·refine qn rfl (qn rfl (qp rfl (qm rfl (qn rfl (qn rfl (qn rfl (qp rfl (qm rfl (qn rfl (qn rfl (qn rfl (qp rfl (qm rfl (qn rfl (qn rfl (qn rfl (qn rfl (qn rfl (qp rfl (qm rfl (qn rfl (qn rfl (qp rfl (qm rfl (qn rfl (qn rfl (qn rfl (qp rfl (qm rfl (qn rfl (qn rfl (qn rfl (qn rfl (qn rfl (qp rfl (qa rfl (AJ (by kernel_rfl) ?_)))))))))))))))))))))))))))))))))))))
     exact sn [] h
   ·refine qn rfl (qn rfl (qp rfl (qm rfl (qn rfl (qn rfl (qp rfl (qm rfl (qn rfl (qn rfl (qn rfl (qp rfl (qm rfl (qn rfl (qn rfl (qn rfl (qp rfl (qm rfl (qn rfl (qn rfl (qn rfl (qn rfl (qn rfl (qp rfl (qm rfl (qn rfl (qn rfl (qp rfl (qm rfl (qn rfl (qn rfl (qn rfl (qp rfl (qm rfl (qn rfl (qn rfl (qn rfl (qn rfl (qn rfl (qp rfl ?_)))))))))))))))))))))))))))))))))))))))
    refine qa rfl (AJ (by kernel_rfl) ?_)
    exact sn [] h
  ·refine qn rfl (qn rfl (qp rfl (qm rfl (qn rfl (qn rfl (qp rfl (qm rfl (qn rfl (qn rfl (qp rfl (qm rfl (qn rfl (qn rfl (qn rfl (qp rfl (qm rfl (qn rfl (qn rfl (qn rfl (qp rfl (qm rfl (qn rfl (qn rfl (qn rfl (qn rfl (qn rfl (qp rfl (qm rfl (qn rfl (qn rfl (qp rfl (qm rfl (qn rfl (qn rfl (qn rfl (qp rfl (qm rfl (qn rfl (qn rfl ?_)))))))))))))))))))))))))))))))))))))))
   refine qn rfl (qn rfl (qn rfl (qp rfl (qa rfl (AJ (by kernel_rfl) ?_)))))
   exact sn [] h
 ·obtain rfl := sj h
  refine Ak (sm [] [(0, bD v9)] [] rfl rfl) (Ax ?_)
  exact ⟨⟨[_], ⟨.tmp _ _ rfl, tv⟩, rfl⟩, tv⟩
theorem Km (N : Nat) (p0 : BW) (r : Bool) (h : D7 N p0 = some r) : Ay Tryz.prog 3 [.e (.agg (Dr p0))] [] (bD r) := by
 unfold D7 at h
 refine An (n := 41) (rs := [.tmp 2]) Tryz.func3 rfl rfl rfl (A2 rfl) (A2 rfl) rfl fun w0 S0 => ?_
 refine As Ac rfl (qb rfl (qa rfl (Ad (As Ac rfl (qL cg bL rfl ?_)))))
 obtain ⟨v1, a1, h⟩ := bind_some h
 refine AF [2001, 2002, 2003, 2004] (OB N p0 v1 a1) dK rfl (qm rfl (qx rfl (qx rfl (qz LM rfl (qs CX rfl (qa rfl (Ad (Ap ?_))))))))
 refine AU h (fun v2 => mk [(3, oD (.ptr 3 0)), (19, bD v2)] [(3, .box [.own 2005, .own 2006, .own 2007, .own 2008]), (2005, .vec 1 (v1.1.fb.map Aw)), (2006, .vec 1 (v1.1.fh.map Aw)), (2007, .vec 1 (v1.1.fo.map Aw)), (2008, .vec 6 (v1.1.fc.map AO))]) (fun j2 h => ?_) (fun v2 h => ?_)
 ·refine Aj Ac rfl ?_
  obtain ⟨v3, a3, h⟩ := bind_some h
  refine AF [] (JC N v3 a3) bo rfl (CQ rfl (qm rfl ?_))
  refine E1 16 h rfl (fun h => ?_) fun h => ?_
  ·refine qn rfl (qn rfl (qp rfl (Ad ?_)))
   exact sn [(2005, 2001), (2006, 2002), (2007, 2003), (2008, 2004)] h
  ·refine qm rfl (CQ rfl (qp rfl (Ad ?_)))
   exact sn [(2005, 2001), (2006, 2002), (2007, 2003), (2008, 2004)] h
 ·refine Bd h rfl (fun h => ?_) fun h => ?_
  ·refine As Ac rfl ?_
   obtain ⟨v6, a6, h⟩ := bind_some h
   refine AF [] (JC N v6 a6) bo rfl (qa rfl (Ad ?_))
   obtain rfl := sj h
   refine Ak (sm [] [(2, bD v6)] [] rfl rfl) (Ax ?_)
   exact ⟨⟨[_], ⟨.tmp _ _ rfl, tv⟩, rfl⟩, tv⟩
  ·refine Ao (As Ac rfl (qL D0 CX rfl (E0 (BX 2005 _ _ rfl rfl) (E0 (BX 2006 _ _ rfl rfl) (E0 (BX 2007 _ _ rfl rfl) (E0 (BX 2008 _ _ rfl rfl) ?_))))))
   obtain ⟨v7, a7, h⟩ := bind_some h
   refine AF [] (LF N v1.1 v7 a7) cv rfl (qm rfl (qx rfl (qx rfl (qa rfl (qa rfl (Ad (As Ac rfl (qL D0 CX rfl ?_))))))))
   obtain ⟨v8, a8, h⟩ := bind_some h
   refine AF [2009] (OZ N v1.1 v8 a8) cq rfl (qm rfl (qx rfl (qx rfl (qa rfl (qa rfl (Ad ?_))))))
   refine AU h (fun v9 => mk [(2, bD v9)] []) (fun j9 h => ?_) (fun v9 h => ?_)
   ·refine Aj Ac rfl (qm rfl (B5 rfl (qm rfl ?_)))
    refine E1 33 h rfl (fun h => ?_) fun h => ?_
    ·refine qm rfl (AZ AT rfl (B5 rfl (qp rfl (qm rfl (B5 rfl ?_)))))
     refine I4 (.p rfl) rfl rfl (Ty _ _ _ _ ej) rfl ?_
     refine qa rfl (Ad ?_)
     exact sn [] h
    ·refine qn rfl (qn rfl (qn rfl (qp rfl (qm rfl (B5 rfl ?_)))))
     refine I4 (.p rfl) rfl rfl (Ty _ _ _ _ ej) rfl ?_
     refine qa rfl (Ad ?_)
     exact sn [] h
   ·obtain rfl := sj h
    refine Ak (sm [] [(2, bD v9)] [] rfl rfl) (Ax ?_)
    exact ⟨⟨[_], ⟨.tmp _ _ rfl, tv⟩, rfl⟩, tv⟩
end Go.Lift
