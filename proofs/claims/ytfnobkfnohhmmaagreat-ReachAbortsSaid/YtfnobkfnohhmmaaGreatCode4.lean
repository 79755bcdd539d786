/- Lemmas for ReachAbortsSaid, which YtfnobkfnohhmmaaGreatFinW8 proves. -/
import Derived.Test.YtfnobkfnohhmmaaGreatCode2
namespace Go.Lift
open IntKind renaming wrap → wI
set_option maxRecDepth 10000
open Go.RowKit
open Go.Proofs
theorem F0 (N : Nat) (p0 : List Ae) (p1 : Int) (p2 : Int) (p3 : Int) (p4 : (Ae × Ae) → Option Int) (r : Int × Bool × (List Ae)) (h : Gs.partition N p0 p1 p2 p3 p4 = some r) : By Tryz.prog 88 [oD (.own 90000), iD p1, iD p2, iD p3, oD (.clo (BM (DW true Af true Af) Cr p4))] [(.vec 3 (p0.map Af), .vec 3 (r.2.2.map Af))] [] (.tup [.one (iC r.1), .one (.pure (.val (.bool r.2.1)))]) := by
 unfold Gs.partition at h
 refine Br (n := 178) (rs := [.tmp 10, .tmp 11]) Tryz.func88 rfl rfl rfl (A5 rfl) (A5 rfl) rfl rfl (A5 rfl) rfl (A5 rfl) fun w0 S0 GL => ?_
 refine Al (sm [] [(0, oD (.own 90000)), (1, iD p1), (2, iD p2), (3, iD p3), (4, oD (.clo (BM (DW true Af true Af) Cr p4)))] [(90000, .vec 3 (p0.map Af))] rfl rfl) (Ab (Aa Ac rfl (qa rfl (qa rfl (Ad (Ab (Aa Ac rfl (qm rfl (qm rfl (qm rfl (qm rfl (qm rfl (qm rfl ?_)))))))))))))
 obtain ⟨v1, a1, b1, h⟩ := Ak h
 refine qI AR Ax a1 (Ah b1) rfl (qJ A0 Ax (Ah b1) rfl (qm rfl (qm rfl ?_)))
 obtain ⟨v2, a2, b2, h⟩ := Ak h
 refine qI AR Ax a2 (Ah b2) rfl (qJ A0 Ax (Ah b2) rfl ?_)
 obtain ⟨v3, a3, b3, h⟩ := Ak h
 refine qI AR Ax a3 (Ah b3) rfl ?_
 refine A8 rfl rfl rfl rfl (Ah b3) rfl Ax rfl (A5 rfl) (A6 Af p0 _ v1) ?_
 obtain ⟨v4, a4, b4, h⟩ := Ak h
 refine qI AR Ax a4 (Ah b4) rfl ?_
 refine A8 rfl rfl rfl rfl (Ah b4) rfl Ax rfl (A5 rfl) (A6 Af (p0.set ((p1).toNat) v1) _ v2) ?_
 refine AM (by kernel_rfl) (Ab (Aa Ac rfl (qm rfl (AX rfl (qm rfl (Cp rfl (qa rfl (qa rfl (Ad (Ab ?_))))))))))
 refine AJ (L := Gs.partition_L5 N p0 p1 p2 p3 p4 v1 v2) h (fun v5 => mk [(0, oD (.own 90000)), (1, iD p1), (4, oD (.clo (BM (DW true Af true Af) Cr p4))), (12, iD v5), (13, iD ((wI .i64 (p2 - 1))))] [(90000, .vec 3 (((p0.set ((p1).toNat) v1).set ((p3).toNat) v2).map Af))]) (fun v6 => mk [(0, oD (.own 90000)), (1, iD p1), (4, oD (.clo (BM (DW true Af true Af) Cr p4))), (12, iD v6), (13, iD ((wI .i64 (p2 - 1))))] [(90000, .vec 3 (((p0.set ((p1).toNat) v1).set ((p3).toNat) v2).map Af))]) (fun _ _ => rfl) (sm [] _ _ rfl rfl) (fun j5 n5 v5 h => ?_) (fun v6 s h hs => ?_)
 ·unfold Gs.partition_L5 at h
  refine Ab ?_
  refine AQ h (fun v7 => mk [(0, oD (.own 90000)), (1, iD p1), (4, oD (.clo (BM (DW true Af true Af) Cr p4))), (12, iD v5), (13, iD ((wI .i64 (p2 - 1)))), (47, bD v7)] [(90000, .vec 3 (((p0.set ((p1).toNat) v1).set ((p3).toNat) v2).map Af))]) (fun j7 h => ?_) (fun v7 h => ?_)
  ·refine Aa Ac rfl (qm rfl (qm rfl (JH rfl (qm rfl ?_))))
   refine AC (t := 35) rfl (fun c8 => ?_) (fun c8 => ?_)
   ·have h := An c8 h
    refine qm rfl (qm rfl (qm rfl ?_))
    obtain ⟨v9, a9, b9, h⟩ := Ak h
    refine qI AR Ax a9 (Ah b9) rfl (qJ A0 Ax (Ah b9) rfl (qm rfl (qm rfl ?_)))
    obtain ⟨v10, a10, b10, h⟩ := Ak h
    refine qI AR Ax a10 (Ah b10) rfl (qJ A0 Ax (Ah b10) rfl ?_)
    obtain ⟨v11, a11, h⟩ := bind_some h
    refine D0 (ds0 := [_, _]) (ar := (DW true Af true Af) ((v9, v10))) (.g rfl rfl) rfl rfl ⟨rfl, rfl, tv⟩ rfl rfl rfl (DZ (Ep _ _ _ _ Bp Bp) a11) ?_
    refine AZ rfl (qp rfl (AM (by kernel_rfl) ?_))
    exact Av _ h (sm [] _ _ rfl rfl)
   ·have h := Am c8 h
    refine qn rfl (qn rfl (qn rfl (qn rfl (qn rfl (qn rfl (qn rfl (qn rfl (qn rfl (qn rfl (qn rfl (qp rfl (AM (by kernel_rfl) ?_))))))))))))
    exact Av _ h (sm [] _ _ rfl rfl)
  ·refine Ap rfl (fun c12 => ?_) (fun c12 => ?_)
   ·have h := An c12 h
    refine Aq (AP (Aa Ac rfl (qm rfl (AX rfl (qa rfl (Ad ?_))))))
    exact Av _ h (sm [] _ _ rfl rfl)
   ·have h := Am c12 h
    refine AY ?_
    exact Av _ h (sm [] _ _ rfl rfl)
 ·refine Al hs (Ab ?_)
  refine AJ (L := Gs.partition_L13 N p0 p1 p3 p4 v1 v2 v6) h (fun v13 => mk [(0, oD (.own 90000)), (1, iD p1), (4, oD (.clo (BM (DW true Af true Af) Cr p4))), (12, iD v6), (13, iD v13)] [(90000, .vec 3 (((p0.set ((p1).toNat) v1).set ((p3).toNat) v2).map Af))]) (fun v14 => mk [(0, oD (.own 90000)), (1, iD p1), (4, oD (.clo (BM (DW true Af true Af) Cr p4))), (12, iD v6), (13, iD v14)] [(90000, .vec 3 (((p0.set ((p1).toNat) v1).set ((p3).toNat) v2).map Af))]) (fun _ _ => rfl) (sm [] _ _ rfl rfl) (fun j13 n13 v13 h => ?_) (fun v14 s h hs => ?_)
  ·unfold Gs.partition_L13 at h
   refine Ab ?_
   refine AQ h (fun v15 => mk [(0, oD (.own 90000)), (1, iD p1), (4, oD (.clo (BM (DW true Af true Af) Cr p4))), (12, iD v6), (13, iD v13), (66, bD v15)] [(90000, .vec 3 (((p0.set ((p1).toNat) v1).set ((p3).toNat) v2).map Af))]) (fun j15 h => ?_) (fun v15 h => ?_)
   ·refine Aa Ac rfl (qm rfl (qm rfl (JH rfl (qm rfl ?_))))
    refine AC (t := 53) rfl (fun c16 => ?_) (fun c16 => ?_)
    ·have h := An c16 h
     refine qm rfl (qm rfl (qm rfl ?_))
     obtain ⟨v17, a17, b17, h⟩ := Ak h
     refine qI AR Ax a17 (Ah b17) rfl (qJ A0 Ax (Ah b17) rfl (qm rfl (qm rfl ?_)))
     obtain ⟨v18, a18, b18, h⟩ := Ak h
     refine qI AR Ax a18 (Ah b18) rfl (qJ A0 Ax (Ah b18) rfl ?_)
     obtain ⟨v19, a19, h⟩ := bind_some h
     refine D0 (ds0 := [_, _]) (ar := (DW true Af true Af) ((v17, v18))) (.g rfl rfl) rfl rfl ⟨rfl, rfl, tv⟩ rfl rfl rfl (DZ (Ep _ _ _ _ Bp Bp) a19) ?_
     refine AZ rfl (Cq rfl (qp rfl (AM (by kernel_rfl) ?_)))
     exact Av _ h (sm [] _ _ rfl rfl)
    ·have h := Am c16 h
     refine qn rfl (qn rfl (qn rfl (qn rfl (qn rfl (qn rfl (qn rfl (qn rfl (qn rfl (qn rfl (qn rfl (qn rfl (qp rfl (AM (by kernel_rfl) ?_)))))))))))))
     exact Av _ h (sm [] _ _ rfl rfl)
   ·refine Ap rfl (fun c20 => ?_) (fun c20 => ?_)
    ·have h := An c20 h
     refine Aq (AP (Aa Ac rfl (qm rfl (Cp rfl (qa rfl (Ad ?_))))))
     exact Av _ h (sm [] _ _ rfl rfl)
    ·have h := Am c20 h
     refine AY ?_
     exact Av _ h (sm [] _ _ rfl rfl)
  ·refine Al hs (Ab (Ab (Aa Ac rfl (qm rfl (qm rfl (Ey rfl (Ad ?_)))))))
   refine Ap rfl (fun c21 => ?_) (fun c21 => ?_)
   ·have h := An c21 h
    refine Ab (Aa Ac rfl (qm rfl (qm rfl (qm rfl (qm rfl (qm rfl (qm rfl ?_)))))))
    obtain ⟨v22, a22, b22, h⟩ := Ak h
    refine qI AR Ax a22 (Ah b22) rfl (qJ A0 Ax (Ah b22) rfl (qm rfl (qm rfl ?_)))
    obtain ⟨v23, a23, b23, h⟩ := Ak h
    refine qI AR Ax a23 (Ah b23) rfl (qJ A0 Ax (Ah b23) rfl ?_)
    obtain ⟨v24, a24, b24, h⟩ := Ak h
    refine qI AR Ax a24 (Ah b24) rfl ?_
    refine A8 rfl rfl rfl rfl (Ah b24) rfl Ax rfl (A5 rfl) (A6 Af ((p0.set ((p1).toNat) v1).set ((p3).toNat) v2) _ v22) ?_
    obtain ⟨v25, a25, b25, h⟩ := Ak h
    refine qI AR Ax a25 (Ah b25) rfl ?_
    refine A8 rfl rfl rfl rfl (Ah b25) rfl Ax rfl (A5 rfl) (A6 Af (((p0.set ((p1).toNat) v1).set ((p3).toNat) v2).set ((v14).toNat) v22) _ v23) ?_
    refine AM (by kernel_rfl) (Ab (Aa Ac rfl (qm rfl (qa rfl (qa rfl (Ad ?_))))))
    obtain rfl := sj h
    refine Al (sm [] [(10, iD v14), (11, bD true)] [(90000, .vec 3 (((((p0.set ((p1).toNat) v1).set ((p3).toNat) v2).set ((v14).toNat) v22).set ((p1).toNat) v23).map Af))] rfl rfl) (Az ?_)
    exact ⟨⟨[_, _], ⟨.tmp _ _ rfl, ⟨.tmp _ _ rfl, tv⟩⟩, rfl⟩, ⟨rfl, tv⟩, tv⟩
   ·have h := Am c21 h
    refine Aq (Ab (Aa Ac rfl (qm rfl (qm rfl (qm rfl (qm rfl (qm rfl (qm rfl ?_))))))))
    obtain ⟨v26, a26, b26, h⟩ := Ak h
    refine qI AR Ax a26 (Ah b26) rfl (qJ A0 Ax (Ah b26) rfl (qm rfl (qm rfl ?_)))
    obtain ⟨v27, a27, b27, h⟩ := Ak h
    refine qI AR Ax a27 (Ah b27) rfl (qJ A0 Ax (Ah b27) rfl ?_)
    obtain ⟨v28, a28, b28, h⟩ := Ak h
    refine qI AR Ax a28 (Ah b28) rfl ?_
    refine A8 rfl rfl rfl rfl (Ah b28) rfl Ax rfl (A5 rfl) (A6 Af ((p0.set ((p1).toNat) v1).set ((p3).toNat) v2) _ v26) ?_
    obtain ⟨v29, a29, b29, h⟩ := Ak h
    refine qI AR Ax a29 (Ah b29) rfl ?_
    refine A8 rfl rfl rfl rfl (Ah b29) rfl Ax rfl (A5 rfl) (A6 Af (((p0.set ((p1).toNat) v1).set ((p3).toNat) v2).set ((v6).toNat) v26) _ v27) ?_
    refine AM (by kernel_rfl) (Ab (Aa Ac rfl (qm rfl (AX rfl (qa rfl (Ad (Ab (Aa Ac rfl (qm rfl (Cp rfl (qa rfl (Ad (Ab ?_)))))))))))))
    refine AJ (L := Gs.partition_L30 N p1 p4) h (fun v30 => mk [(0, oD (.own 90000)), (1, iD p1), (4, oD (.clo (BM (DW true Af true Af) Cr p4))), (12, iD v30.2.1), (13, iD v30.2.2)] [(90000, .vec 3 (v30.1.map Af))]) (fun v31 => mk [(0, oD (.own 90000)), (1, iD p1), (13, iD v31.2)] [(90000, .vec 3 (v31.1.map Af))]) (fun _ _ => rfl) (sm [] _ _ rfl rfl) (fun j30 n30 v30 h => ?_) (fun v31 s h hs => ?_)
    ·unfold Gs.partition_L30 at h
     refine AP (Ab ?_)
     refine AJ (L := Gs.partition_L32 N p1 p4 v30) h (fun v32 => mk [(0, oD (.own 90000)), (1, iD p1), (4, oD (.clo (BM (DW true Af true Af) Cr p4))), (12, iD v32), (13, iD v30.2.2)] [(90000, .vec 3 (v30.1.map Af))]) (fun v33 => mk [(0, oD (.own 90000)), (1, iD p1), (4, oD (.clo (BM (DW true Af true Af) Cr p4))), (12, iD v33), (13, iD v30.2.2)] [(90000, .vec 3 (v30.1.map Af))]) (fun _ _ => rfl) (sm [] _ _ rfl rfl) (fun j32 n32 v32 h => ?_) (fun v33 s h hs => ?_)
     ·unfold Gs.partition_L32 at h
      refine Ab ?_
      refine AQ h (fun v34 => mk [(0, oD (.own 90000)), (1, iD p1), (4, oD (.clo (BM (DW true Af true Af) Cr p4))), (12, iD v32), (13, iD v30.2.2), (120, bD v34)] [(90000, .vec 3 (v30.1.map Af))]) (fun j34 h => ?_) (fun v34 h => ?_)
      ·refine Aa Ac rfl (qm rfl (qm rfl (JH rfl (qm rfl ?_))))
       refine AC (t := 108) rfl (fun c35 => ?_) (fun c35 => ?_)
       ·have h := An c35 h
        refine qm rfl (qm rfl (qm rfl ?_))
        obtain ⟨v36, a36, b36, h⟩ := Ak h
        refine qI AR Ax a36 (Ah b36) rfl (qJ A0 Ax (Ah b36) rfl (qm rfl (qm rfl ?_)))
        obtain ⟨v37, a37, b37, h⟩ := Ak h
        refine qI AR Ax a37 (Ah b37) rfl (qJ A0 Ax (Ah b37) rfl ?_)
        obtain ⟨v38, a38, h⟩ := bind_some h
        refine D0 (ds0 := [_, _]) (ar := (DW true Af true Af) ((v36, v37))) (.g rfl rfl) rfl rfl ⟨rfl, rfl, tv⟩ rfl rfl rfl (DZ (Ep _ _ _ _ Bp Bp) a38) ?_
        refine AZ rfl (qp rfl (AM (by kernel_rfl) ?_))
        exact Av _ h (sm [] _ _ rfl rfl)
       ·have h := Am c35 h
        refine qn rfl (qn rfl (qn rfl (qn rfl (qn rfl (qn rfl (qn rfl (qn rfl (qn rfl (qn rfl (qn rfl (qp rfl (AM (by kernel_rfl) ?_))))))))))))
        exact Av _ h (sm [] _ _ rfl rfl)
      ·refine Ap rfl (fun c39 => ?_) (fun c39 => ?_)
       ·have h := An c39 h
        refine Aq (AP (Aa Ac rfl (qm rfl (AX rfl (qa rfl (Ad ?_))))))
        exact Av _ h (sm [] _ _ rfl rfl)
       ·have h := Am c39 h
        refine AY ?_
        exact Av _ h (sm [] _ _ rfl rfl)
     ·refine Al hs (Ab ?_)
      refine AJ (L := Gs.partition_L40 N p1 p4 v30 v33) h (fun v40 => mk [(0, oD (.own 90000)), (1, iD p1), (4, oD (.clo (BM (DW true Af true Af) Cr p4))), (12, iD v33), (13, iD v40)] [(90000, .vec 3 (v30.1.map Af))]) (fun v41 => mk [(0, oD (.own 90000)), (1, iD p1), (4, oD (.clo (BM (DW true Af true Af) Cr p4))), (12, iD v33), (13, iD v41)] [(90000, .vec 3 (v30.1.map Af))]) (fun _ _ => rfl) (sm [] _ _ rfl rfl) (fun j40 n40 v40 h => ?_) (fun v41 s h hs => ?_)
      ·unfold Gs.partition_L40 at h
       refine Ab ?_
       refine AQ h (fun v42 => mk [(0, oD (.own 90000)), (1, iD p1), (4, oD (.clo (BM (DW true Af true Af) Cr p4))), (12, iD v33), (13, iD v40), (139, bD v42)] [(90000, .vec 3 (v30.1.map Af))]) (fun j42 h => ?_) (fun v42 h => ?_)
       ·refine Aa Ac rfl (qm rfl (qm rfl (JH rfl (qm rfl ?_))))
        refine AC (t := 126) rfl (fun c43 => ?_) (fun c43 => ?_)
        ·have h := An c43 h
         refine qm rfl (qm rfl (qm rfl ?_))
         obtain ⟨v44, a44, b44, h⟩ := Ak h
         refine qI AR Ax a44 (Ah b44) rfl (qJ A0 Ax (Ah b44) rfl (qm rfl (qm rfl ?_)))
         obtain ⟨v45, a45, b45, h⟩ := Ak h
         refine qI AR Ax a45 (Ah b45) rfl (qJ A0 Ax (Ah b45) rfl ?_)
         obtain ⟨v46, a46, h⟩ := bind_some h
         refine D0 (ds0 := [_, _]) (ar := (DW true Af true Af) ((v44, v45))) (.g rfl rfl) rfl rfl ⟨rfl, rfl, tv⟩ rfl rfl rfl (DZ (Ep _ _ _ _ Bp Bp) a46) ?_
         refine AZ rfl (Cq rfl (qp rfl (AM (by kernel_rfl) ?_)))
         exact Av _ h (sm [] _ _ rfl rfl)
        ·have h := Am c43 h
         refine qn rfl (qn rfl (qn rfl (qn rfl (qn rfl (qn rfl (qn rfl (qn rfl (qn rfl (qn rfl (qn rfl (qn rfl (qp rfl (AM (by kernel_rfl) ?_)))))))))))))
         exact Av _ h (sm [] _ _ rfl rfl)
       ·refine Ap rfl (fun c47 => ?_) (fun c47 => ?_)
        ·have h := An c47 h
         refine Aq (AP (Aa Ac rfl (qm rfl (Cp rfl (qa rfl (Ad ?_))))))
         exact Av _ h (sm [] _ _ rfl rfl)
        ·have h := Am c47 h
         refine AY ?_
         exact Av _ h (sm [] _ _ rfl rfl)
      ·refine Al hs (Ab (Ab (Aa Ac rfl (qm rfl (qm rfl (Ey rfl (Ad ?_)))))))
       refine Ap rfl (fun c48 => ?_) (fun c48 => ?_)
       ·have h := An c48 h
        refine AY ?_
        exact Av _ h (sm [] _ _ rfl rfl)
       ·have h := Am c48 h
        refine Aq (Ab (Aa Ac rfl (qm rfl (qm rfl (qm rfl (qm rfl (qm rfl (qm rfl ?_))))))))
        obtain ⟨v49, a49, b49, h⟩ := Ak h
        refine qI AR Ax a49 (Ah b49) rfl (qJ A0 Ax (Ah b49) rfl (qm rfl (qm rfl ?_)))
        obtain ⟨v50, a50, b50, h⟩ := Ak h
        refine qI AR Ax a50 (Ah b50) rfl (qJ A0 Ax (Ah b50) rfl ?_)
        obtain ⟨v51, a51, b51, h⟩ := Ak h
        refine qI AR Ax a51 (Ah b51) rfl ?_
        refine A8 rfl rfl rfl rfl (Ah b51) rfl Ax rfl (A5 rfl) (A6 Af v30.1 _ v49) ?_
        obtain ⟨v52, a52, b52, h⟩ := Ak h
        refine qI AR Ax a52 (Ah b52) rfl ?_
        refine A8 rfl rfl rfl rfl (Ah b52) rfl Ax rfl (A5 rfl) (A6 Af (v30.1.set ((v33).toNat) v49) _ v50) ?_
        refine AM (by kernel_rfl) (Ab (Aa Ac rfl (qm rfl (AX rfl (qa rfl (Ad (Aa Ac rfl (qm rfl (Cp rfl (qa rfl (Ad ?_)))))))))))
        exact Av _ h (sm [] _ _ rfl rfl)
    ·refine Al hs (Ab (Aa Ac rfl (qm rfl (qm rfl (qm rfl (qm rfl (qm rfl (qm rfl ?_))))))))
     obtain ⟨v53, a53, b53, h⟩ := Ak h
     refine qI AR Ax a53 (Ah b53) rfl (qJ A0 Ax (Ah b53) rfl (qm rfl (qm rfl ?_)))
     obtain ⟨v54, a54, b54, h⟩ := Ak h
     refine qI AR Ax a54 (Ah b54) rfl (qJ A0 Ax (Ah b54) rfl ?_)
     obtain ⟨v55, a55, b55, h⟩ := Ak h
     refine qI AR Ax a55 (Ah b55) rfl ?_
     refine A8 rfl rfl rfl rfl (Ah b55) rfl Ax rfl (A5 rfl) (A6 Af v31.1 _ v53) ?_
     obtain ⟨v56, a56, b56, h⟩ := Ak h
     refine qI AR Ax a56 (Ah b56) rfl ?_
     refine A8 rfl rfl rfl rfl (Ah b56) rfl Ax rfl (A5 rfl) (A6 Af (v31.1.set ((v31.2).toNat) v53) _ v54) ?_
     refine AM (by kernel_rfl) (Ab (Aa Ac rfl (qm rfl (qa rfl (qa rfl (Ad ?_))))))
     obtain rfl := sj h
     refine Al (sm [] [(10, iD v31.2), (11, bD false)] [(90000, .vec 3 (((v31.1.set ((v31.2).toNat) v53).set ((p1).toNat) v54).map Af))] rfl rfl) (Az ?_)
     exact ⟨⟨[_, _], ⟨.tmp _ _ rfl, ⟨.tmp _ _ rfl, tv⟩⟩, rfl⟩, ⟨rfl, tv⟩, tv⟩
theorem FY (N : Nat) (rc : (List Ae) → Int → Int → Int → ((Ae × Ae) → Option Int) → Option ((List Ae))) (hrc : ∀ (p0 : List Ae) (p1 : Int) (p2 : Int) (p3 : Int) (p4 : (Ae × Ae) → Option Int) (r : (List Ae)), rc p0 p1 p2 p3 p4 = some r → By Tryz.prog 60 [oD (.own 90000), iD p1, iD p2, iD p3, oD (.clo (BM (DW true Af true Af) Cr p4))] [(.vec 3 (p0.map Af), .vec 3 (r.map Af))] [] (.tup [])) (p0 : List Ae) (p1 : Int) (p2 : Int) (p3 : Int) (p4 : (Ae × Ae) → Option Int) (r : (List Ae)) (h : Gs.pdqsort_B N rc p0 p1 p2 p3 p4 = some r) : By Tryz.prog 60 [oD (.own 90000), iD p1, iD p2, iD p3, oD (.clo (BM (DW true Af true Af) Cr p4))] [(.vec 3 (p0.map Af), .vec 3 (r.map Af))] [] (.tup []) := by
 unfold Gs.pdqsort_B at h
 refine Br (n := 148) (rs := []) Tryz.func60 rfl rfl rfl (A5 rfl) (A5 rfl) rfl rfl (A5 rfl) rfl (A5 rfl) fun w0 S0 GL => ME ?_
 refine Al (sm [] [(0, oD (.own 90000)), (1, iD p1), (2, iD p2), (3, iD p3), (4, oD (.clo (BM (DW true Af true Af) Cr p4)))] [(90000, .vec 3 (p0.map Af))] rfl rfl) (Ab (Aa Ac rfl (qa rfl (Ad (Ab (Aa Ac rfl (qa rfl (Ad ?_))))))))
 refine AJ (L := Gs.pdqsort_L1 N p4 rc) h (fun v1 => mk [(0, oD (.own 90000)), (1, iD v1.2.1), (2, iD v1.2.2.1), (3, iD v1.2.2.2.1), (4, oD (.clo (BM (DW true Af true Af) Cr p4))), (10, bD v1.2.2.2.2.1), (11, bD v1.2.2.2.2.2)] [(90000, .vec 3 (v1.1.map Af))]) (fun v2 => mk [] []) (fun _ _ => rfl) (sm [] _ _ rfl rfl) (fun j1 n1 v1 h => ?_) (fun v2 s h hs => ?_)
 ·unfold Gs.pdqsort_L1 at h
  refine AP (Ab (Aa Ac rfl (qm rfl (qm rfl (Cp rfl (qa rfl (Ad (Ab (Ab (Aa Ac rfl (qm rfl (JH rfl (Ad ?_)))))))))))))
  refine Ap rfl (fun c3 => ?_) (fun c3 => ?_)
  ·have h := An c3 h
   refine Ab (Aa Ac rfl (qm rfl (qm rfl (qm rfl (qm rfl ?_)))))
   obtain ⟨v4, a4, h⟩ := bind_some h
   refine CP (ds0 := [_, _, _, _]) [90000] [] [true] (Fl N v1.1 v1.2.1 v1.2.2.1 p4 v4 a4) (.p rfl) W1 rfl ⟨rfl, rfl, rfl, rfl, tv⟩ rfl rfl (by decide) ⟨rfl, tv⟩ rfl (Bf rfl) tv ⟨(fun h => by cases h), tv⟩ rfl rfl rfl ?_
   refine Ad ?_
   obtain rfl := sj h
   refine Az ⟨_, (sm [] [] [(90000, .vec 3 (v4.map Af))] rfl rfl), ?_⟩
   exact ⟨⟨[], tv, rfl⟩, ⟨rfl, tv⟩, tv⟩
  ·have h := Am c3 h
   refine Aq (Ab (Ab (Aa Ac rfl (qm rfl (BD rfl (Ad ?_))))))
   refine Ap rfl (fun c5 => ?_) (fun c5 => ?_)
   ·have h := An c5 h
    refine Ab (Aa Ac rfl (qm rfl (qm rfl (qm rfl (qm rfl ?_)))))
    obtain ⟨v6, a6, h⟩ := bind_some h
    refine CP (ds0 := [_, _, _, _]) [90000] [] [true] (Gj N v1.1 v1.2.1 v1.2.2.1 p4 v6 a6) (.p rfl) Xb rfl ⟨rfl, rfl, rfl, rfl, tv⟩ rfl rfl (by decide) ⟨rfl, tv⟩ rfl (Bf rfl) tv ⟨(fun h => by cases h), tv⟩ rfl rfl rfl ?_
    refine Ad ?_
    obtain rfl := sj h
    refine Az ⟨_, (sm [] [] [(90000, .vec 3 (v6.map Af))] rfl rfl), ?_⟩
    exact ⟨⟨[], tv, rfl⟩, ⟨rfl, tv⟩, tv⟩
   ·have h := Am c5 h
    refine Aq ?_
    refine AQ h (fun v7 => mk [(0, oD (.own 90000)), (1, iD v1.2.1), (2, iD v1.2.2.1), (3, iD v7.2), (4, oD (.clo (BM (DW true Af true Af) Cr p4))), (10, bD v1.2.2.2.2.1), (11, bD v1.2.2.2.2.2), (12, iD ((wI .i64 (v1.2.2.1 - v1.2.1))))] [(90000, .vec 3 (v7.1.map Af))]) (fun j7 h => ?_) (fun v7 h => ?_)
    ·refine Ab (Aa Ac rfl (qm rfl (Cq rfl (Ad ?_))))
     refine Ap rfl (fun c8 => ?_) (fun c8 => ?_)
     ·have h := An c8 h
      refine Ab (Aa Ac rfl (qm rfl (qm rfl (qm rfl (qm rfl ?_)))))
      obtain ⟨v9, a9, h⟩ := bind_some h
      refine CP (ds0 := [_, _, _, _]) [90000] [] [true] (Fg N v1.1 v1.2.1 v1.2.2.1 p4 v9 a9) (.p rfl) Xh rfl ⟨rfl, rfl, rfl, rfl, tv⟩ rfl rfl (by decide) ⟨rfl, tv⟩ rfl (Bf rfl) tv ⟨(fun h => by cases h), tv⟩ rfl rfl rfl ?_
      refine Ad (Aa Ac rfl (qm rfl (Cp rfl (qa rfl (Ad ?_)))))
      exact Av _ h (sm [] _ _ rfl rfl)
     ·have h := Am c8 h
      refine Aq ?_
      exact Av _ h (sm [] _ _ rfl rfl)
    ·refine Ab (Aa Ac rfl (qm rfl (qm rfl (qm rfl (qm rfl ?_)))))
     obtain ⟨v10, a10, h⟩ := bind_some h
     refine FG [] [90000] (FA N v7.1 v1.2.1 v1.2.2.1 p4 v10 a10) WW Ef rfl (qm rfl (qx rfl (qx rfl (qa rfl (qa rfl (Ad ?_))))))
     refine AQ h (fun v11 => mk [(0, oD (.own 90000)), (1, iD v1.2.1), (2, iD v1.2.2.1), (3, iD v7.2), (4, oD (.clo (BM (DW true Af true Af) Cr p4))), (10, bD v1.2.2.2.2.1), (11, bD v1.2.2.2.2.2), (12, iD ((wI .i64 (v1.2.2.1 - v1.2.1)))), (13, iD v11.2.1), (14, iD v11.2.2)] [(90000, .vec 3 (v11.1.map Af))]) (fun j11 h => ?_) (fun v11 h => ?_)
     ·refine Ab (Aa Ac rfl (qm rfl (BD rfl (Ad ?_))))
      refine Ap rfl (fun c12 => ?_) (fun c12 => ?_)
      ·have h := An c12 h
       refine Ab (Aa Ac rfl (qm rfl (qm rfl (qm rfl (qm rfl ?_)))))
       obtain ⟨v13, a13, h⟩ := bind_some h
       refine CP (ds0 := [_, _, _, _]) [90000] [] [true] (Fp N v7.1 v1.2.1 v1.2.2.1 p4 v13 a13) (.p rfl) W2 rfl ⟨rfl, rfl, rfl, rfl, tv⟩ rfl rfl (by decide) ⟨rfl, tv⟩ rfl (Bf rfl) tv ⟨(fun h => by cases h), tv⟩ rfl rfl rfl ?_
       refine Ad (Ab (Aa Ac rfl (qm rfl (Cp rfl (qm rfl (qm rfl (Cp rfl (Cp rfl (qa rfl (Ad (Aa Ac rfl (qa rfl (Ad ?_)))))))))))))
       exact Av _ h (sm [] _ _ rfl rfl)
      ·have h := Am c12 h
       refine Aq ?_
       exact Av _ h (sm [] _ _ rfl rfl)
     ·refine AQ h (fun v14 => mk [(0, oD (.own 90000)), (1, iD v1.2.1), (2, iD v1.2.2.1), (3, iD v7.2), (4, oD (.clo (BM (DW true Af true Af) Cr p4))), (10, bD v1.2.2.2.2.1), (11, bD v1.2.2.2.2.2), (12, iD ((wI .i64 (v1.2.2.1 - v1.2.1)))), (13, iD v11.2.1)] [(90000, .vec 3 (v14.map Af))]) (fun j14 h => ?_) (fun v14 h => ?_)
      ·refine AQ h (fun v15 => mk [(0, oD (.own 90000)), (1, iD v1.2.1), (2, iD v1.2.2.1), (3, iD v7.2), (4, oD (.clo (BM (DW true Af true Af) Cr p4))), (10, bD v1.2.2.2.2.1), (11, bD v1.2.2.2.2.2), (12, iD ((wI .i64 (v1.2.2.1 - v1.2.1)))), (13, iD v11.2.1), (75, bD v15)] [(90000, .vec 3 (v11.1.map Af))]) (fun j15 h => ?_) (fun v15 h => ?_)
       ·refine Aa Ac rfl (qm rfl (qm rfl ?_))
        refine AC (t := 69) rfl (fun c16 => ?_) (fun c16 => ?_)
        ·have h := An c16 h
         refine qm rfl (qp rfl (qm rfl ?_))
         refine AC (t := 72) rfl (fun c17 => ?_) (fun c17 => ?_)
         ·have h := An c17 h
          refine qm rfl (BD rfl (qp rfl (Ad ?_)))
          exact Av _ h (sm [] _ _ rfl rfl)
         ·have h := Am c17 h
          refine qn rfl (qn rfl (qp rfl (Ad ?_)))
          exact Av _ h (sm [] _ _ rfl rfl)
        ·have h := Am c16 h
         refine qn rfl (qp rfl (qm rfl (qn rfl (qn rfl (qp rfl (Ad ?_))))))
         exact Av _ h (sm [] _ _ rfl rfl)
       ·refine Ap rfl (fun c18 => ?_) (fun c18 => ?_)
        ·have h := An c18 h
         refine Ab (Aa Ac rfl (qm rfl (qm rfl (qm rfl (qm rfl ?_)))))
         obtain ⟨v19, a19, h⟩ := bind_some h
         refine CP (ds0 := [_, _, _, _]) [90000] [] [true] (Eu N v11.1 v1.2.1 v1.2.2.1 p4 v19 a19) (.p rfl) W8 rfl ⟨rfl, rfl, rfl, rfl, tv⟩ rfl rfl (by decide) ⟨rfl, tv⟩ rfl (Bf rfl) tv ⟨(fun h => by cases h), tv⟩ rfl rfl rfl ?_
         refine Ad ?_
         refine Ap rfl (fun c20 => ?_) (fun c20 => ?_)
         ·have h := An c20 h
          obtain rfl := sj h
          refine Az ⟨_, (sm [] [] [(90000, .vec 3 (v19.2.map Af))] rfl rfl), ?_⟩
          exact ⟨⟨[], tv, rfl⟩, ⟨rfl, tv⟩, tv⟩
         ·have h := Am c20 h
          refine Aq ?_
          exact Av _ h (sm [] _ _ rfl rfl)
        ·have h := Am c18 h
         refine Aq ?_
         exact Av _ h (sm [] _ _ rfl rfl)
      ·refine Ab ?_
       refine AQ h (fun v21 => mk [(0, oD (.own 90000)), (1, iD v1.2.1), (2, iD v1.2.2.1), (3, iD v7.2), (4, oD (.clo (BM (DW true Af true Af) Cr p4))), (10, bD v1.2.2.2.2.1), (11, bD v1.2.2.2.2.2), (12, iD ((wI .i64 (v1.2.2.1 - v1.2.1)))), (13, iD v11.2.1), (97, bD v21)] [(90000, .vec 3 (v14.map Af))]) (fun j21 h => ?_) (fun v21 h => ?_)
       ·refine Aa Ac rfl (qm rfl (Ey rfl (qm rfl ?_)))
        refine AC (t := 83) rfl (fun c22 => ?_) (fun c22 => ?_)
        ·have h := An c22 h
         refine qm rfl (qm rfl (qm rfl (Cp rfl ?_)))
         obtain ⟨v23, a23, b23, h⟩ := Ak h
         refine qI AR Ax a23 (Ah b23) rfl (qJ A0 Ax (Ah b23) rfl (qm rfl (qm rfl ?_)))
         obtain ⟨v24, a24, b24, h⟩ := Ak h
         refine qI AR Ax a24 (Ah b24) rfl (qJ A0 Ax (Ah b24) rfl ?_)
         obtain ⟨v25, a25, h⟩ := bind_some h
         refine D0 (ds0 := [_, _]) (ar := (DW true Af true Af) ((v23, v24))) (.g rfl rfl) rfl rfl ⟨rfl, rfl, tv⟩ rfl rfl rfl (DZ (Ep _ _ _ _ Bp Bp) a25) ?_
         refine AZ rfl (Cq rfl (qp rfl (AM (by kernel_rfl) ?_)))
         exact Av _ h (sm [] _ _ rfl rfl)
        ·have h := Am c22 h
         refine qn rfl (qn rfl (qn rfl (qn rfl (qn rfl (qn rfl (qn rfl (qn rfl (qn rfl (qn rfl (qn rfl (qn rfl (qn rfl (qp rfl (AM (by kernel_rfl) ?_))))))))))))))
         exact Av _ h (sm [] _ _ rfl rfl)
       ·refine Ap rfl (fun c26 => ?_) (fun c26 => ?_)
        ·have h := An c26 h
         refine Ab (Aa Ac rfl (qm rfl (qm rfl (qm rfl (qm rfl (qm rfl ?_))))))
         obtain ⟨v27, a27, h⟩ := bind_some h
         refine CP (ds0 := [_, _, _, _, _]) [90000] [] [true] (E8 N v14 v1.2.1 v1.2.2.1 v11.2.1 p4 v27 a27) (.p rfl) Xd rfl ⟨rfl, rfl, rfl, rfl, rfl, tv⟩ rfl rfl (by decide) ⟨rfl, tv⟩ rfl (Bf rfl) tv ⟨(fun h => by cases h), tv⟩ rfl rfl rfl ?_
         refine qa rfl (Ad (Ab (Aa Ac rfl (qm rfl (qa rfl (Ad (AY ?_)))))))
         exact Av _ h (sm [] _ _ rfl rfl)
        ·have h := Am c26 h
         refine Aq (Ab (Aa Ac rfl (qm rfl (qm rfl (qm rfl (qm rfl (qm rfl ?_)))))))
         obtain ⟨v28, a28, h⟩ := bind_some h
         refine CP (ds0 := [_, _, _, _, _]) [90000] [] [true] (F0 N v14 v1.2.1 v1.2.2.1 v11.2.1 p4 v28 a28) (.p rfl) Xo rfl ⟨rfl, rfl, rfl, rfl, rfl, tv⟩ rfl rfl (by decide) ⟨rfl, tv⟩ rfl (Bf rfl) tv ⟨(fun h => by cases h), tv⟩ rfl rfl rfl ?_
         refine qm rfl (qx rfl (qx rfl (qa rfl (qa rfl (Ad (Ab (Aa Ac rfl (qm rfl (qa rfl (Ad (Ab (Aa Ac rfl (qm rfl (qm rfl (Cp rfl (qm rfl (qm rfl (Cp rfl (qa rfl (qa rfl (Ad (Ab (Aa Ac rfl (qm rfl (L5 rfl (by decide) (qa rfl (Ad (Ab (Aa Ac rfl (qm rfl (qm rfl (AZ rfl (Ad ?_)))))))))))))))))))))))))))))))))
         refine Ap rfl (fun c29 => ?_) (fun c29 => ?_)
         ·have h := An c29 h
          refine Ab (Aa Ac rfl (qm rfl (qm rfl (CW rfl (qa rfl (Ad (Ab (Aa Ac rfl (qm rfl (qm rfl (qm rfl (qm rfl (qm rfl ?_)))))))))))))
          obtain ⟨v30, a30, h⟩ := bind_some h
          refine CP (ds0 := [_, _, _, _, _]) [90000] [] [true] (hrc v28.2.2 v1.2.1 v28.1 v7.2 p4 v30 a30) (.p rfl) Uy rfl ⟨rfl, rfl, rfl, rfl, rfl, tv⟩ rfl rfl (by decide) ⟨rfl, tv⟩ rfl (Bf rfl) tv ⟨(fun h => by cases h), tv⟩ rfl rfl rfl ?_
          refine Ad (Aa Ac rfl (qm rfl (AX rfl (qa rfl (Ad ?_)))))
          exact Av _ h (sm [] _ _ rfl rfl)
         ·have h := Am c29 h
          refine Ab (Aa Ac rfl (qm rfl (qm rfl (CW rfl (qa rfl (Ad (Ab (Aa Ac rfl (qm rfl (qm rfl (AX rfl (qm rfl (qm rfl (qm rfl ?_))))))))))))))
          obtain ⟨v31, a31, h⟩ := bind_some h
          refine CP (ds0 := [_, _, _, _, _]) [90000] [] [true] (hrc v28.2.2 ((wI .i64 (v28.1 + 1))) v1.2.2.1 v7.2 p4 v31 a31) (.p rfl) Uy rfl ⟨rfl, rfl, rfl, rfl, rfl, tv⟩ rfl rfl (by decide) ⟨rfl, tv⟩ rfl (Bf rfl) tv ⟨(fun h => by cases h), tv⟩ rfl rfl rfl ?_
          refine Ad (Aa Ac rfl (qm rfl (qa rfl (Ad ?_))))
          exact Av _ h (sm [] _ _ rfl rfl)
 ·cases h
theorem Ec (N : Nat) : ∀ (k : Nat) (p0 : List Ae) (p1 : Int) (p2 : Int) (p3 : Int) (p4 : (Ae × Ae) → Option Int) (r : (List Ae)), Gs.pdqsort_R N k p0 p1 p2 p3 p4 = some r → By Tryz.prog 60 [oD (.own 90000), iD p1, iD p2, iD p3, oD (.clo (BM (DW true Af true Af) Cr p4))] [(.vec 3 (p0.map Af), .vec 3 (r.map Af))] [] (.tup [])
 | 0, _, _, _, _, _, _, h => by cases h
 | k + 1, p0, p1, p2, p3, p4, r, h => FY N (Gs.pdqsort_R N k) (Ec N k) p0 p1 p2 p3 p4 r h
theorem Gn (N : Nat) (p0 : List Ae) (p1 : Int) (p2 : Int) (p3 : Int) (p4 : (Ae × Ae) → Option Int) (r : (List Ae)) (h : Gs.pdqsort N p0 p1 p2 p3 p4 = some r) : By Tryz.prog 60 [oD (.own 90000), iD p1, iD p2, iD p3, oD (.clo (BM (DW true Af true Af) Cr p4))] [(.vec 3 (p0.map Af), .vec 3 (r.map Af))] [] (.tup []) := Ec N N p0 p1 p2 p3 p4 r h
theorem Ed (N : Nat) (p0 : List Ae) (p1 : (Ae × Ae) → Option Int) (r : (List Ae)) (h : Bd N p0 p1 = some r) : By Tryz.prog 38 [oD (.own 90000), oD (.clo (BM (DW true Af true Af) Cr p1))] [(.vec 3 (p0.map Af), .vec 3 (r.map Af))] [] (.tup []) := by
 unfold Bd at h
 refine Br (n := 14) (rs := []) Tryz.func38 rfl rfl rfl (A5 rfl) (A5 rfl) rfl rfl (A5 rfl) rfl (A5 rfl) fun w0 S0 GL => ME ?_
 refine Al (sm [] [(0, oD (.own 90000)), (1, oD (.clo (BM (DW true Af true Af) Cr p1)))] [(90000, .vec 3 (p0.map Af))] rfl rfl) (Ab (Aa Ac rfl (qm rfl (Dz AR rfl (qa rfl (Ad (Aa Ac rfl (qm rfl (qm rfl (qm rfl (FO UI M6 rfl ?_)))))))))))
 obtain ⟨v1, a1, h⟩ := bind_some h
 refine AG [] (ID N ((wI .u64 ((p0.length : Int)))) v1 a1) Vs rfl (qm rfl ?_)
 obtain ⟨v2, a2, h⟩ := bind_some h
 refine CP (ds0 := [_, _, _, _, _]) [90000] [] [true] (Gn N p0 0 ((p0.length : Int)) v1 p1 v2 a2) (.p rfl) Uy rfl ⟨rfl, rfl, rfl, rfl, rfl, tv⟩ rfl rfl (by decide) ⟨rfl, tv⟩ rfl (Bf rfl) tv ⟨(fun h => by cases h), tv⟩ rfl rfl rfl ?_
 refine Ad ?_
 obtain rfl := sj h
 refine ⟨_, (sm [] [] [(90000, .vec 3 (v2.map Af))] rfl rfl), ?_⟩
 exact ⟨⟨[], tv, rfl⟩, ⟨rfl, tv⟩, tv⟩
theorem IF (N : Nat) (p0 : Int) (r : Bool) (h : EA N p0 = some r) : AB Tryz.prog 110 [iD p0] [] (bD r) := by
 unfold EA at h
 refine Au (n := 6) (rs := [.tmp 2]) Tryz.func110 rfl rfl rfl (A5 rfl) (A5 rfl) rfl fun w0 S0 => ?_
 refine Ab (Aa Ac rfl (qa rfl (Ad (Ab (Aa Ac rfl (qm rfl (qm rfl (B6 rfl (qa rfl (Ad ?_))))))))))
 obtain rfl := sj h
 refine Al (sm [] [(2, bD ((p0 != p0)))] [] rfl rfl) (Az ?_)
 exact ⟨⟨[_], ⟨.tmp _ _ rfl, tv⟩, rfl⟩, tv⟩
theorem Kg (N : Nat) (p0 : Int) (p1 : Int) (r : Int) (h : D9 N p0 p1 = some r) : AB Tryz.prog 91 [iD p0, iD p1] [] (iD r) := by
 unfold D9 at h
 refine Au (n := 20) (rs := [.tmp 4]) Tryz.func91 rfl rfl rfl (A5 rfl) (A5 rfl) rfl fun w0 S0 => ?_
 refine Ab (Aa Ac rfl (qa rfl (Ad (Ab (Aa Ac rfl (qm rfl ?_))))))
 obtain ⟨v1, a1, h⟩ := bind_some h
 refine AG [] (IF N p0 v1 a1) T7 rfl (qa rfl (Ad (Ab (Aa Ac rfl (qm rfl ?_)))))
 obtain ⟨v2, a2, h⟩ := bind_some h
 refine AG [] (IF N p1 v2 a2) T7 rfl (qa rfl (Ad (Ab (Ab (Aa Ac rfl (qm rfl (Ad ?_)))))))
 refine Ap rfl (fun c3 => ?_) (fun c3 => ?_)
 ·have h := An c3 h
  refine Ab (Ab (Aa Ac rfl (qm rfl (Ad ?_))))
  refine Ap rfl (fun c4 => ?_) (fun c4 => ?_)
  ·have h := An c4 h
   refine Ab (Aa Ac rfl (qa rfl (Ad ?_)))
   obtain rfl := sj h
   refine Al (sm [] [(4, iD 0)] [] rfl rfl) (Az ?_)
   exact ⟨⟨[_], ⟨.tmp _ _ rfl, tv⟩, rfl⟩, tv⟩
  ·have h := Am c4 h
   refine Aq (Ab (Aa Ac rfl (qa rfl (Ad ?_))))
   obtain rfl := sj h
   refine Al (sm [] [(4, iD ((-1)))] [] rfl rfl) (Az ?_)
   exact ⟨⟨[_], ⟨.tmp _ _ rfl, tv⟩, rfl⟩, tv⟩
 ·have h := Am c3 h
  refine Aq (Ab (Ab (Aa Ac rfl (qm rfl (Ad ?_)))))
  refine Ap rfl (fun c5 => ?_) (fun c5 => ?_)
  ·have h := An c5 h
   refine Ab (Aa Ac rfl (qa rfl (Ad ?_)))
   obtain rfl := sj h
   refine Al (sm [] [(4, iD 1)] [] rfl rfl) (Az ?_)
   exact ⟨⟨[_], ⟨.tmp _ _ rfl, tv⟩, rfl⟩, tv⟩
  ·have h := Am c5 h
   refine Aq (Ab (Ab (Aa Ac rfl (qm rfl (qm rfl (AZ rfl (Ad ?_)))))))
   refine Ap rfl (fun c6 => ?_) (fun c6 => ?_)
   ·have h := An c6 h
    refine Ab (Aa Ac rfl (qa rfl (Ad ?_)))
    obtain rfl := sj h
    refine Al (sm [] [(4, iD ((-1)))] [] rfl rfl) (Az ?_)
    exact ⟨⟨[_], ⟨.tmp _ _ rfl, tv⟩, rfl⟩, tv⟩
   ·have h := Am c6 h
    refine Aq (Ab (Ab (Aa Ac rfl (qm rfl (qm rfl (Ey rfl (Ad ?_)))))))
    refine Ap rfl (fun c7 => ?_) (fun c7 => ?_)
    ·have h := An c7 h
     refine Ab (Aa Ac rfl (qa rfl (Ad ?_)))
     obtain rfl := sj h
     refine Al (sm [] [(4, iD 1)] [] rfl rfl) (Az ?_)
     exact ⟨⟨[_], ⟨.tmp _ _ rfl, tv⟩, rfl⟩, tv⟩
    ·have h := Am c7 h
     refine Aq (Ab (Aa Ac rfl (qa rfl (Ad ?_))))
     obtain rfl := sj h
     refine Al (sm [] [(4, iD 0)] [] rfl rfl) (Az ?_)
     exact ⟨⟨[_], ⟨.tmp _ _ rfl, tv⟩, rfl⟩, tv⟩
theorem Fz (N : Nat) (p0 : List Int) (p1 : List Int) (r : Int) (h : Cm N p0 p1 = some r) : AB Tryz.prog 63 [pD (.sl (p0.map Ai)), pD (.sl (p1.map Ai))] [] (iD r) := by
 unfold Cm at h
 refine Au (n := 36) (rs := [.tmp 4]) Tryz.func63 rfl rfl rfl (A5 rfl) (A5 rfl) rfl fun w0 S0 => ?_
 refine Ab (Aa Ac rfl (qa rfl (Ad (Ab (Ab (Aa Ac rfl (qm rfl (AV AH rfl (qm rfl (Ad ?_))))))))))
 refine AJ (L := B1 N p0 p1) h (fun v1 => mk [(0, pD (.sl (p0.map Ai))), (1, pD (.sl (p1.map Ai))), (9, pD (.sl (p0.map Ai))), (10, iD ((p0.length : Int))), (11, iD v1)] []) (fun v2 => mk [(0, pD (.sl (p0.map Ai))), (1, pD (.sl (p1.map Ai)))] []) (fun _ _ => rfl) (sm [] _ _ rfl rfl) (fun j1 n1 v1 h => ?_) (fun v2 s h hs => ?_)
 ·unfold B1 at h
  refine Ab (Aa Ac rfl (AZ rfl (Ad (Ab ?_))))
  refine Ap rfl (fun c3 => ?_) (fun c3 => ?_)
  ·have h := An c3 h
   refine Aq (Ab (AP (Ab (Aa Ac rfl (qm rfl ?_)))))
   obtain ⟨v4, a4, b4, h⟩ := Ak h
   refine qi AH Df a4 (Ah b4) rfl (qk Cc rfl (qa rfl (qa rfl (Ad (Ab (Ab (Aa Ac rfl (qm rfl (qm rfl (AV AH rfl (CW rfl (Ad ?_))))))))))))
   refine Ap rfl (fun c5 => ?_) (fun c5 => ?_)
   ·have h := An c5 h
    refine Ab (Aa Ac rfl (qa rfl (Ad ?_)))
    obtain rfl := sj h
    refine Al (sm [] [(4, iD 1)] [] rfl rfl) (Az ?_)
    exact ⟨⟨[_], ⟨.tmp _ _ rfl, tv⟩, rfl⟩, tv⟩
   ·have h := Am c5 h
    refine Aq (Ab (Aa Ac rfl (qm rfl (qm rfl ?_))))
    obtain ⟨v6, a6, b6, h⟩ := Ak h
    refine qi AH Df a6 (Ah b6) rfl (qk Cc rfl (qa rfl (Ad (Ab (Aa Ac rfl (qm rfl (qm rfl ?_)))))))
    obtain ⟨v7, a7, h⟩ := bind_some h
    refine AG [] (Kg N v4 v6 v7 a7) Xu rfl (qa rfl (Ad (Ab (Aa Ac rfl (qm rfl (B6 rfl (Ad ?_)))))))
    refine Ap rfl (fun c8 => ?_) (fun c8 => ?_)
    ·have h := An c8 h
     refine Ab (Aa Ac rfl (qm rfl (qa rfl (Ad ?_))))
     obtain rfl := sj h
     refine Al (sm [] [(4, iD v7)] [] rfl rfl) (Az ?_)
     exact ⟨⟨[_], ⟨.tmp _ _ rfl, tv⟩, rfl⟩, tv⟩
    ·have h := Am c8 h
     refine Aq (Aa Ac rfl (AX rfl (qm rfl (Ad ?_))))
     exact Av _ h (sm [] _ _ rfl rfl)
  ·have h := Am c3 h
   refine AY ?_
   exact Av _ h (sm [] _ _ rfl rfl)
 ·refine Al hs (Ab (Ab (Aa Ac rfl (qm rfl (AV AH rfl (qm rfl (AV AH rfl (AZ rfl (Ad ?_)))))))))
  refine Ap rfl (fun c9 => ?_) (fun c9 => ?_)
  ·have h := An c9 h
   refine Ab (Aa Ac rfl (qa rfl (Ad ?_)))
   obtain rfl := sj h
   refine Al (sm [] [(4, iD ((-1)))] [] rfl rfl) (Az ?_)
   exact ⟨⟨[_], ⟨.tmp _ _ rfl, tv⟩, rfl⟩, tv⟩
  ·have h := Am c9 h
   refine Aq (Ab (Aa Ac rfl (qa rfl (Ad ?_))))
   obtain rfl := sj h
   refine Al (sm [] [(4, iD 0)] [] rfl rfl) (Az ?_)
   exact ⟨⟨[_], ⟨.tmp _ _ rfl, tv⟩, rfl⟩, tv⟩
theorem G5 (N : Nat) (p0 : Int) (r : Bool) (h : DK N p0 = some r) : AB Tryz.prog 111 [pD (.val (.int .u8 p0))] [] (bD r) := by
 unfold DK at h
 refine Au (n := 6) (rs := [.tmp 2]) Tryz.func111 rfl rfl rfl (A5 rfl) (A5 rfl) rfl fun w0 S0 => ?_
 refine Ab (Aa Ac rfl (qa rfl (Ad (Ab (Aa Ac rfl (qm rfl (qm rfl (B6 rfl (qa rfl (Ad ?_))))))))))
 obtain rfl := sj h
 refine Al (sm [] [(2, bD ((p0 != p0)))] [] rfl rfl) (Az ?_)
 exact ⟨⟨[_], ⟨.tmp _ _ rfl, tv⟩, rfl⟩, tv⟩
theorem IG (N : Nat) (p0 : Int) (p1 : Int) (r : Int) (h : Dk N p0 p1 = some r) : AB Tryz.prog 92 [pD (.val (.int .u8 p0)), pD (.val (.int .u8 p1))] [] (iD r) := by
 unfold Dk at h
 refine Au (n := 20) (rs := [.tmp 4]) Tryz.func92 rfl rfl rfl (A5 rfl) (A5 rfl) rfl fun w0 S0 => ?_
 refine Ab (Aa Ac rfl (qa rfl (Ad (Ab (Aa Ac rfl (qm rfl ?_))))))
 obtain ⟨v1, a1, h⟩ := bind_some h
 refine AG [] (G5 N p0 v1 a1) Um rfl (qa rfl (Ad (Ab (Aa Ac rfl (qm rfl ?_)))))
 obtain ⟨v2, a2, h⟩ := bind_some h
 refine AG [] (G5 N p1 v2 a2) Um rfl (qa rfl (Ad (Ab (Ab (Aa Ac rfl (qm rfl (Ad ?_)))))))
 refine Ap rfl (fun c3 => ?_) (fun c3 => ?_)
 ·have h := An c3 h
  refine Ab (Ab (Aa Ac rfl (qm rfl (Ad ?_))))
  refine Ap rfl (fun c4 => ?_) (fun c4 => ?_)
  ·have h := An c4 h
   refine Ab (Aa Ac rfl (qa rfl (Ad ?_)))
   obtain rfl := sj h
   refine Al (sm [] [(4, iD 0)] [] rfl rfl) (Az ?_)
   exact ⟨⟨[_], ⟨.tmp _ _ rfl, tv⟩, rfl⟩, tv⟩
  ·have h := Am c4 h
   refine Aq (Ab (Aa Ac rfl (qa rfl (Ad ?_))))
   obtain rfl := sj h
   refine Al (sm [] [(4, iD ((-1)))] [] rfl rfl) (Az ?_)
   exact ⟨⟨[_], ⟨.tmp _ _ rfl, tv⟩, rfl⟩, tv⟩
 ·have h := Am c3 h
  refine Aq (Ab (Ab (Aa Ac rfl (qm rfl (Ad ?_)))))
  refine Ap rfl (fun c5 => ?_) (fun c5 => ?_)
  ·have h := An c5 h
   refine Ab (Aa Ac rfl (qa rfl (Ad ?_)))
   obtain rfl := sj h
   refine Al (sm [] [(4, iD 1)] [] rfl rfl) (Az ?_)
   exact ⟨⟨[_], ⟨.tmp _ _ rfl, tv⟩, rfl⟩, tv⟩
  ·have h := Am c5 h
   refine Aq (Ab (Ab (Aa Ac rfl (qm rfl (qm rfl (AZ rfl (Ad ?_)))))))
   refine Ap rfl (fun c6 => ?_) (fun c6 => ?_)
   ·have h := An c6 h
    refine Ab (Aa Ac rfl (qa rfl (Ad ?_)))
    obtain rfl := sj h
    refine Al (sm [] [(4, iD ((-1)))] [] rfl rfl) (Az ?_)
    exact ⟨⟨[_], ⟨.tmp _ _ rfl, tv⟩, rfl⟩, tv⟩
   ·have h := Am c6 h
    refine Aq (Ab (Ab (Aa Ac rfl (qm rfl (qm rfl (Ey rfl (Ad ?_)))))))
    refine Ap rfl (fun c7 => ?_) (fun c7 => ?_)
    ·have h := An c7 h
     refine Ab (Aa Ac rfl (qa rfl (Ad ?_)))
     obtain rfl := sj h
     refine Al (sm [] [(4, iD 1)] [] rfl rfl) (Az ?_)
     exact ⟨⟨[_], ⟨.tmp _ _ rfl, tv⟩, rfl⟩, tv⟩
    ·have h := Am c7 h
     refine Aq (Ab (Aa Ac rfl (qa rfl (Ad ?_))))
     obtain rfl := sj h
     refine Al (sm [] [(4, iD 0)] [] rfl rfl) (Az ?_)
     exact ⟨⟨[_], ⟨.tmp _ _ rfl, tv⟩, rfl⟩, tv⟩
theorem F9 (N : Nat) (p0 : List Int) (p1 : List Int) (r : Int) (h : BZ N p0 p1 = some r) : AB Tryz.prog 64 [pD (.sl (p0.map A9)), pD (.sl (p1.map A9))] [] (iD r) := by
 unfold BZ at h
 refine Au (n := 36) (rs := [.tmp 4]) Tryz.func64 rfl rfl rfl (A5 rfl) (A5 rfl) rfl fun w0 S0 => ?_
 refine Ab (Aa Ac rfl (qa rfl (Ad (Ab (Ab (Aa Ac rfl (qm rfl (AV C3 rfl (qm rfl (Ad ?_))))))))))
 refine AJ (L := Bm N p0 p1) h (fun v1 => mk [(0, pD (.sl (p0.map A9))), (1, pD (.sl (p1.map A9))), (9, pD (.sl (p0.map A9))), (10, iD ((p0.length : Int))), (11, iD v1)] []) (fun v2 => mk [(0, pD (.sl (p0.map A9))), (1, pD (.sl (p1.map A9)))] []) (fun _ _ => rfl) (sm [] _ _ rfl rfl) (fun j1 n1 v1 h => ?_) (fun v2 s h hs => ?_)
 ·unfold Bm at h
  refine Ab (Aa Ac rfl (AZ rfl (Ad (Ab ?_))))
  refine Ap rfl (fun c3 => ?_) (fun c3 => ?_)
  ·have h := An c3 h
   refine Aq (Ab (AP (Ab (Aa Ac rfl (qm rfl ?_)))))
   obtain ⟨v4, a4, b4, h⟩ := Ak h
   refine qi C3 Fa a4 (Ah b4) rfl (qk IK rfl (qa rfl (qa rfl (Ad (Ab (Ab (Aa Ac rfl (qm rfl (qm rfl (AV C3 rfl (CW rfl (Ad ?_))))))))))))
   refine Ap rfl (fun c5 => ?_) (fun c5 => ?_)
   ·have h := An c5 h
    refine Ab (Aa Ac rfl (qa rfl (Ad ?_)))
    obtain rfl := sj h
    refine Al (sm [] [(4, iD 1)] [] rfl rfl) (Az ?_)
    exact ⟨⟨[_], ⟨.tmp _ _ rfl, tv⟩, rfl⟩, tv⟩
   ·have h := Am c5 h
    refine Aq (Ab (Aa Ac rfl (qm rfl (qm rfl ?_))))
    obtain ⟨v6, a6, b6, h⟩ := Ak h
    refine qi C3 Fa a6 (Ah b6) rfl (qk IK rfl (qa rfl (Ad (Ab (Aa Ac rfl (qm rfl (qm rfl ?_)))))))
    obtain ⟨v7, a7, h⟩ := bind_some h
    refine AG [] (IG N v4 v6 v7 a7) Xe rfl (qa rfl (Ad (Ab (Aa Ac rfl (qm rfl (B6 rfl (Ad ?_)))))))
    refine Ap rfl (fun c8 => ?_) (fun c8 => ?_)
    ·have h := An c8 h
     refine Ab (Aa Ac rfl (qm rfl (qa rfl (Ad ?_))))
     obtain rfl := sj h
     refine Al (sm [] [(4, iD v7)] [] rfl rfl) (Az ?_)
     exact ⟨⟨[_], ⟨.tmp _ _ rfl, tv⟩, rfl⟩, tv⟩
    ·have h := Am c8 h
     refine Aq (Aa Ac rfl (AX rfl (qm rfl (Ad ?_))))
     exact Av _ h (sm [] _ _ rfl rfl)
  ·have h := Am c3 h
   refine AY ?_
   exact Av _ h (sm [] _ _ rfl rfl)
 ·refine Al hs (Ab (Ab (Aa Ac rfl (qm rfl (AV C3 rfl (qm rfl (AV C3 rfl (AZ rfl (Ad ?_)))))))))
  refine Ap rfl (fun c9 => ?_) (fun c9 => ?_)
  ·have h := An c9 h
   refine Ab (Aa Ac rfl (qa rfl (Ad ?_)))
   obtain rfl := sj h
   refine Al (sm [] [(4, iD ((-1)))] [] rfl rfl) (Az ?_)
   exact ⟨⟨[_], ⟨.tmp _ _ rfl, tv⟩, rfl⟩, tv⟩
  ·have h := Am c9 h
   refine Aq (Ab (Aa Ac rfl (qa rfl (Ad ?_))))
   obtain rfl := sj h
   refine Al (sm [] [(4, iD 0)] [] rfl rfl) (Az ?_)
   exact ⟨⟨[_], ⟨.tmp _ _ rfl, tv⟩, rfl⟩, tv⟩
theorem NM (N : Nat) (p0 : List Int) (r : Int) (h : Fx N p0 = some r) : AB Tryz.prog 62 [pD (.sl (p0.map Ai))] [] (iD r) := by
 unfold Fx at h
 refine Au (n := 18) (rs := [.tmp 2]) Tryz.func62 rfl rfl rfl (A5 rfl) (A5 rfl) rfl fun w0 S0 => ?_
 refine Ab (Aa Ac rfl (qa rfl (Ad (Ab (Aa Ac rfl (qa rfl (Ad (Ab (Ab (Aa Ac rfl (qm rfl (AV AH rfl (qm rfl (Ad ?_))))))))))))))
 refine AJ (L := D4 N p0) h (fun v1 => mk [(3, iD 0), (6, pD (.sl (p0.map Ai))), (7, iD ((p0.length : Int))), (8, iD v1)] []) (fun v2 => mk [(3, iD 0)] []) (fun _ _ => rfl) (sm [] _ _ rfl rfl) (fun j1 n1 v1 h => ?_) (fun v2 s h hs => ?_)
 ·unfold D4 at h
  refine Ab (Aa Ac rfl (AZ rfl (Ad (Ab ?_))))
  refine Ap rfl (fun c3 => ?_) (fun c3 => ?_)
  ·have h := An c3 h
   refine Aq (Ab (AP (Ab (Aa Ac rfl ?_))))
   obtain ⟨v4, a4, b4, h⟩ := Ak h
   refine qi AH Df a4 (Ah b4) rfl (qk Cc rfl (qa rfl (Ad (Ab (Aa Ac rfl (qm rfl (qm rfl (B6 rfl (Ad ?_)))))))))
   refine Ap rfl (fun c5 => ?_) (fun c5 => ?_)
   ·have h := An c5 h
    refine Ab (Aa Ac rfl (qm rfl (qa rfl (Ad ?_))))
    obtain rfl := sj h
    refine Al (sm [] [(2, iD v4)] [] rfl rfl) (Az ?_)
    exact ⟨⟨[_], ⟨.tmp _ _ rfl, tv⟩, rfl⟩, tv⟩
   ·have h := Am c5 h
    refine Aq (Aa Ac rfl (AX rfl (qm rfl (Ad ?_))))
    exact Av _ h (sm [] _ _ rfl rfl)
  ·have h := Am c3 h
   refine AY ?_
   exact Av _ h (sm [] _ _ rfl rfl)
 ·refine Al hs (Ab (Aa Ac rfl (qm rfl (qa rfl (Ad ?_)))))
  obtain rfl := sj h
  refine Al (sm [] [(2, iD 0)] [] rfl rfl) (Az ?_)
  exact ⟨⟨[_], ⟨.tmp _ _ rfl, tv⟩, rfl⟩, tv⟩
theorem HL (N : Nat) (p0 : Ae) (p1 : Ae) (r : Int) (h : Cf N p0 p1 = some r) : AB Tryz.prog 39 [.e (.agg [sC (p0.fBase.map Ai), sC (p0.fNext.map Ai), sC (p0.fHeld.map A9)]), .e (.agg [sC (p1.fBase.map Ai), sC (p1.fNext.map Ai), sC (p1.fHeld.map A9)])] [] (iD r) := by
 unfold Cf at h
 refine Au (n := 22) (rs := [.tmp 4]) Tryz.func39 rfl rfl rfl (A5 rfl) (A5 rfl) rfl fun w0 S0 => ?_
 refine Ab (Aa Ac rfl (qb rfl (qb rfl (qa rfl (Ad (Ab (Aa Ac rfl (qf Cz rfl (ql Bg rfl (qf Cz rfl (ql Bg rfl ?_)))))))))))
 obtain ⟨v1, a1, h⟩ := bind_some h
 refine AG [] (Fz N p0.fBase p1.fBase v1 a1) Vk rfl (qf BG rfl (ql Bg rfl (qf BG rfl (ql Bg rfl ?_))))
 obtain ⟨v2, a2, h⟩ := bind_some h
 refine AG [] (Fz N p0.fNext p1.fNext v2 a2) Vk rfl (qf Cs rfl (ql Ga rfl (qf Cs rfl (ql Ga rfl ?_))))
 obtain ⟨v3, a3, h⟩ := bind_some h
 refine AG [] (F9 N p0.fHeld p1.fHeld v3 a3) WL rfl (DT AH Df KT rfl ?_)
 obtain ⟨v4, a4, h⟩ := bind_some h
 refine FG [] [20] (NM N (([v1, v2, v3] : List Int)) v4 a4) W0 Ef rfl (qa rfl (AM (by kernel_rfl) ?_))
 obtain rfl := sj h
 refine Al (sm [] [(4, iD v4)] [] rfl rfl) (Az ?_)
 exact ⟨⟨[_], ⟨.tmp _ _ rfl, tv⟩, rfl⟩, tv⟩
theorem IR (N : Nat) (p0 : Ag) (r : (List Ae) × Int) (h : FF N p0 = some r) : AB Tryz.prog 18 [.e (.agg [sC (p0.fVersions.map Ai), sC (p0.fNow.map Ai), sC (p0.fTarget.map Ai), sC (p0.fTables.map Ao)])] [(3, r.1.map Af)] (.tup [.one (.own 0), .one (iC r.2)]) := by
 unfold FF at h
 refine Au (n := 73) (rs := [.tmp 2, .tmp 3]) Tryz.func18 rfl rfl rfl (A5 rfl) (A5 rfl) rfl fun w0 S0 => ?_
 refine Ab (Aa Ac rfl (qb rfl (qa rfl (qa rfl (Ad (Ab (Aa Ac rfl (qL DP Dr rfl ?_))))))))
 obtain ⟨v1, a1, h⟩ := bind_some h
 refine AG [2001, 2002, 2003] (JA N p0 v1 a1) VA rfl (qm rfl (qx rfl (qx rfl (qx rfl (qz Cv rfl (qs Ax rfl (qa rfl (qa rfl (Ad (Ab ?_))))))))))
 refine AQ h (fun v2 => mk [(1, oD (.ptr 1 0)), (4, oD (.ptr 4 0)), (6, iD v1.2.2), (25, bD v2)] [(1, .box [sC (p0.fVersions.map Ai), sC (p0.fNow.map Ai), sC (p0.fTarget.map Ai), sC (p0.fTables.map Ao)]), (4, .box [.own 2004, .own 2005, .own 2006]), (2004, .vec 1 (v1.1.fBase.map Ai)), (2005, .vec 1 (v1.1.fNext.map Ai)), (2006, .vec 1 (v1.1.fHeld.map A9))]) (fun j2 h => ?_) (fun v2 h => ?_)
 ·refine Aa Ac rfl (qm rfl (B6 rfl (qm rfl ?_)))
  refine AC (t := 22) rfl (fun c3 => ?_) (fun c3 => ?_)
  ·have h := An c3 h
   refine qn rfl (qn rfl (qp rfl (Ad ?_)))
   exact Av _ h (sm [(2004, 2001), (2005, 2002), (2006, 2003)] _ _ rfl rfl)
  ·have h := Am c3 h
   refine qm rfl (Cq rfl (qp rfl (Ad ?_)))
   exact Av _ h (sm [(2004, 2001), (2005, 2002), (2006, 2003)] _ _ rfl rfl)
 ·refine Ap rfl (fun c4 => ?_) (fun c4 => ?_)
  ·have h := An c4 h
   refine Ab (Aa Ac rfl (qm rfl (qa rfl (qa rfl (Ad ?_)))))
   obtain rfl := sj h
   refine Al ((Bn 2 2007 3 rfl rfl rfl).trans (sm [(1000, 2007)] [(2, oD (.own 1000)), (3, iD v1.2.2)] [(1000, .vec 3 ((([] : List Ae)).map Af))] rfl rfl)) (Az ?_)
   exact ⟨⟨[_, _], ⟨.tmp _ _ rfl, ⟨.tmp _ _ rfl, tv⟩⟩, rfl⟩, ⟨rfl, tv⟩⟩
  ·have h := Am c4 h
   refine Aq (Ab (Aa Ac rfl (qL A0 Ax rfl (CC (A1 2004 _ _ rfl rfl) (CC (A1 2005 _ _ rfl rfl) (CC (A1 2006 _ _ rfl rfl) (DT AR Ax Cv rfl (qa rfl (Ad (Ab (Aa Ac rfl ?_)))))))))))
   refine QO (.p rfl) rfl ?_
   refine qL A0 Ax rfl ?_
   obtain ⟨v5, a5, h⟩ := bind_some h
   refine AG [] (I3 N v1.1 v5 a5) UX rfl ?_
   refine Pm (kv := Value.string) (vt := tB) (m := ([] : List (ByteArray × Bool))) (k := v5) (v := true) rfl (.inr rfl) rfl rfl rfl rfl (KK Qh UT) rfl ?_
   refine qm rfl (qa rfl (Ad (Ab (Ab (Aa Ac rfl (qa rfl (Ad ?_)))))))
   refine AJ (L := EJ N p0) h (fun v6 => mk [(1, oD (.ptr 1 0)), (7, oD (.own 2008)), (8, oD (.mref 2009)), (9, iD v6.2.2)] [(1, .box [sC (p0.fVersions.map Ai), sC (p0.fNow.map Ai), sC (p0.fTarget.map Ai), sC (p0.fTables.map Ao)]), (2008, .vec 3 (v6.1.map Af)), (2009, .mp (H6 Value.string tB v6.2.1))]) (fun v7 => mk [(7, oD (.own 2010))] [(2010, .vec 3 (v7.map Af))]) (fun _ _ => rfl) (sm [(2008, 28), (2009, 29)] _ _ rfl rfl) (fun j6 n6 v6 h => ?_) (fun v7 s h hs => ?_)
   ·unfold EJ at h
    refine Ab (Ab (Aa Ac rfl (qm rfl (qm rfl (Dz AR rfl (AZ rfl (Ad ?_)))))))
    refine Ap rfl (fun c8 => ?_) (fun c8 => ?_)
    ·have h := An c8 h
     refine Aq (Ab (AP (Ab (Aa Ac rfl (qL DP Dr rfl (qm rfl (qm rfl ?_)))))))
     obtain ⟨v9, a9, b9, h⟩ := Ak h
     refine qI AR Ax a9 (Ah b9) rfl (qJ A0 Ax (Ah b9) rfl ?_)
     obtain ⟨v10, a10, h⟩ := bind_some h
     refine AG [2011, 2012] (JX N p0 v9 v10 a10) VU rfl (qm rfl (qx rfl (qx rfl (qa rfl (qa rfl (AM (by kernel_rfl) (Ab (Ab (Aa Ac rfl (qm rfl (Dz AR rfl (qm rfl (Ad ?_)))))))))))))
     refine AJ (L := Es N v10) h (fun v11 => mk [(1, oD (.ptr 1 0)), (7, oD (.own 2013)), (8, oD (.mref 2014)), (9, iD v6.2.2), (48, oD (.own 2015)), (49, iD ((v10.2.length : Int))), (50, iD v11.2.2)] [(1, .box [sC (p0.fVersions.map Ai), sC (p0.fNow.map Ai), sC (p0.fTarget.map Ai), sC (p0.fTables.map Ao)]), (2013, .vec 3 (v11.1.map Af)), (2014, .mp (H6 Value.string tB v11.2.1)), (2015, .vec 3 (v10.2.map Af))]) (fun v12 => mk [(1, oD (.ptr 1 0)), (7, oD (.own 2016)), (8, oD (.mref 2017)), (9, iD v6.2.2)] [(1, .box [sC (p0.fVersions.map Ai), sC (p0.fNow.map Ai), sC (p0.fTarget.map Ai), sC (p0.fTables.map Ao)]), (2016, .vec 3 (v12.1.map Af)), (2017, .mp (H6 Value.string tB v12.2))]) (fun _ _ => rfl) (sm [(2013, 2008), (2014, 2009), (2015, 2012)] _ _ rfl rfl) (fun j11 n11 v11 h => ?_) (fun v12 s h hs => ?_)
     ·unfold Es at h
      refine Ab (Aa Ac rfl (AZ rfl (Ad (Ab ?_))))
      refine Ap rfl (fun c13 => ?_) (fun c13 => ?_)
      ·have h := An c13 h
       refine Aq ?_
       refine AQ h (fun v14 => mk [(1, oD (.ptr 1 0)), (7, oD (.own 2018)), (8, oD (.mref 2019)), (9, iD v6.2.2), (48, oD (.own 2020)), (49, iD ((v10.2.length : Int))), (50, iD v11.2.2)] [(1, .box [sC (p0.fVersions.map Ai), sC (p0.fNow.map Ai), sC (p0.fTarget.map Ai), sC (p0.fTables.map Ao)]), (2018, .vec 3 (v14.1.map Af)), (2019, .mp (H6 Value.string tB v14.2)), (2020, .vec 3 (v10.2.map Af))]) (fun j14 h => ?_) (fun v14 h => ?_)
       ·refine AP (Ab (Aa Ac rfl ?_))
        obtain ⟨v15, a15, b15, h⟩ := Ak h
        refine qI AR Ax a15 (Ah b15) rfl (qJ A0 Ax (Ah b15) rfl (qz Cv rfl (qs Ax rfl (Ad (Ab (Aa Ac rfl (qm rfl (qL A0 Ax rfl ?_))))))))
        obtain ⟨v16, a16, h⟩ := bind_some h
        refine AG [] (I3 N v15 v16 a16) UX rfl ?_
        refine SH (kv := Value.string) (vt := tB) (m := v11.2.1) (dv := false) (.p rfl) rfl rfl rfl (KK Qh UT) (by rw [Qh]; rfl) TJ rfl rfl rfl ?_
        refine Cq rfl (Ad ?_)
        refine Ap rfl (fun c17 => ?_) (fun c17 => ?_)
        ·have h := An c17 h
         refine Ab (Aa Ac rfl (qm rfl (qL A0 Ax rfl ?_)))
         obtain ⟨v18, a18, h⟩ := bind_some h
         refine AG [] (I3 N v15 v18 a18) UX rfl ?_
         refine Pm (kv := Value.string) (vt := tB) (m := v11.2.1) (k := v18) (v := true) rfl (.inl rfl) rfl rfl rfl rfl (KK Qh UT) rfl ?_
         refine Ad (Aa Ac rfl (qm rfl (qL A0 Ax rfl (DT AR Ax Cv rfl ?_))))
         obtain ⟨c19, h⟩ := AL h
         refine CQ (f := Af) AR AR Ax OF Cv c19 rfl (qa rfl (Ad ?_))
         exact Av _ h (sm [(2018, 65), (2019, 2014), (2020, 2015)] _ _ rfl rfl)
        ·have h := Am c17 h
         refine Aq ?_
         exact Av _ h (sm [(2018, 2013), (2019, 2014), (2020, 2015)] _ _ rfl rfl)
       ·refine Aa Ac rfl (AX rfl (qm rfl (Ad ?_)))
        exact Av _ h (sm [(2013, 2018), (2014, 2019), (2015, 2020)] _ _ rfl rfl)
      ·have h := Am c13 h
       refine AY ?_
       exact Av _ h (sm [(2016, 2013), (2017, 2014)] _ _ rfl rfl)
     ·refine Al hs (Ab (Aa Ac rfl (qm rfl (Dz AR rfl (Ey rfl (Ad ?_))))))
      refine Ap rfl (fun c20 => ?_) (fun c20 => ?_)
      ·have h := An c20 h
       refine Ab (Aa Ac rfl (qa rfl (qa rfl (Ad ?_))))
       obtain rfl := sj h
       refine Al ((Bn 2 2021 3 rfl rfl rfl).trans (sm [(1000, 2021)] [(2, oD (.own 1000)), (3, iD 3)] [(1000, .vec 3 ((([] : List Ae)).map Af))] rfl rfl)) (Az ?_)
       exact ⟨⟨[_, _], ⟨.tmp _ _ rfl, ⟨.tmp _ _ rfl, tv⟩⟩, rfl⟩, ⟨rfl, tv⟩⟩
      ·have h := Am c20 h
       refine Aq (Aa Ac rfl (qm rfl (AX rfl (qa rfl (Ad ?_)))))
       exact Av _ h (sm [(2008, 2016), (2009, 2017)] _ _ rfl rfl)
    ·have h := Am c8 h
     refine AY ?_
     exact Av _ h (sm [(2010, 2008)] _ _ rfl rfl)
   ·refine Al hs (Ab (Aa Ac rfl (qm rfl ?_)))
    obtain ⟨v21, a21, h⟩ := bind_some h
    refine CP (ds0 := [_, _]) [2010] [] [true] (By.weak (ds' := [_, oD (.fnc 39)]) (Ed N v7 ((fun (x : Ae × Ae) => Cf N x.1 x.2)) v21 a21) ⟨(fun _ _ _ hh => hh), (fun _ _ _ hh => Mz U1 (fun ar t ht => by obtain ⟨x, r, rfl, hq, rfl⟩ := H0 ht; exact HL N x.1 x.2 r hq) hh), tv⟩) (.p rfl) Vr rfl ⟨rfl, rfl, tv⟩ rfl rfl (by decide) ⟨rfl, tv⟩ rfl (Bf rfl) tv ⟨(fun h => by cases h), tv⟩ rfl rfl rfl ?_
    refine Ad (Ab (Aa Ac rfl (qm rfl (qa rfl (qa rfl (Ad ?_))))))
    obtain rfl := sj h
    refine Al (sm [(1000, 2010)] [(2, oD (.own 1000)), (3, iD 0)] [(1000, .vec 3 (v21.map Af))] rfl rfl) (Az ?_)
    exact ⟨⟨[_, _], ⟨.tmp _ _ rfl, ⟨.tmp _ _ rfl, tv⟩⟩, rfl⟩, ⟨rfl, tv⟩⟩
theorem NN (N : Nat) (p0 : Ag) (p1 : List Int) (r : (List Aj) × Int) (h : HK N p0 p1 = some r) : AB Tryz.prog 20 [.e (.agg [sC (p0.fVersions.map Ai), sC (p0.fNow.map Ai), sC (p0.fTarget.map Ai), sC (p0.fTables.map Ao)]), pD (.sl (p1.map A9))] [(3, r.1.map Ay)] (.tup [.one (.own 0), .one (iC r.2)]) := by
 unfold HK at h
 refine Au (n := 61) (rs := [.tmp 4, .tmp 5]) Tryz.func20 rfl rfl rfl (A5 rfl) (A5 rfl) rfl fun w0 S0 => ?_
 refine Ab (Aa Ac rfl (qb rfl (qa rfl (qa rfl (Ad (Ab (Aa Ac rfl (qL DP Dr rfl ?_))))))))
 obtain ⟨v1, a1, h⟩ := bind_some h
 refine AG [2001, 2002, 2003] (JA N p0 v1 a1) VA rfl (qm rfl (qx rfl (qx rfl (qx rfl (qz Cv rfl (qs Ax rfl (qa rfl (qa rfl (Ad (Ab ?_))))))))))
 refine AQ h (fun v2 => mk [(1, pD (.sl (p1.map A9))), (2, oD (.ptr 2 0)), (6, oD (.ptr 6 0)), (8, iD v1.2.2), (26, bD v2)] [(2, .box [sC (p0.fVersions.map Ai), sC (p0.fNow.map Ai), sC (p0.fTarget.map Ai), sC (p0.fTables.map Ao)]), (6, .box [.own 2004, .own 2005, .own 2006]), (2004, .vec 1 (v1.1.fBase.map Ai)), (2005, .vec 1 (v1.1.fNext.map Ai)), (2006, .vec 1 (v1.1.fHeld.map A9))]) (fun j2 h => ?_) (fun v2 h => ?_)
 ·refine Aa Ac rfl (qm rfl (B6 rfl (qm rfl ?_)))
  refine AC (t := 23) rfl (fun c3 => ?_) (fun c3 => ?_)
  ·have h := An c3 h
   refine qn rfl (qn rfl (qp rfl (Ad ?_)))
   exact Av _ h (sm [(2004, 2001), (2005, 2002), (2006, 2003)] _ _ rfl rfl)
  ·have h := Am c3 h
   refine qm rfl (Cq rfl (qp rfl (Ad ?_)))
   exact Av _ h (sm [(2004, 2001), (2005, 2002), (2006, 2003)] _ _ rfl rfl)
 ·refine Ap rfl (fun c4 => ?_) (fun c4 => ?_)
  ·have h := An c4 h
   refine Ab (Aa Ac rfl (qm rfl (qa rfl (qa rfl (Ad ?_)))))
   obtain rfl := sj h
   refine Al ((Bn 4 2007 3 rfl rfl rfl).trans (sm [(1000, 2007)] [(4, oD (.own 1000)), (5, iD v1.2.2)] [(1000, .vec 3 ((([] : List Aj)).map Ay))] rfl rfl)) (Az ?_)
   exact ⟨⟨[_, _], ⟨.tmp _ _ rfl, ⟨.tmp _ _ rfl, tv⟩⟩, rfl⟩, ⟨rfl, tv⟩⟩
  ·have h := Am c4 h
   refine Aq (Ab (Aa Ac rfl (qa rfl (Ad (Ab (Ab (Aa Ac rfl (qm rfl (AV Gl rfl (qm rfl (Ad ?_)))))))))))
   refine AJ (L := Fn N p0 p1) h (fun v5 => mk [(2, oD (.ptr 2 0)), (6, oD (.ptr 6 0)), (9, oD (.own 2008)), (28, pD (.sl (p1.map A9))), (29, iD ((p1.length : Int))), (30, iD v5.2.2.2.2)] [(2, .box [sC (p0.fVersions.map Ai), sC (p0.fNow.map Ai), sC (p0.fTarget.map Ai), sC (p0.fTables.map Ao)]), (6, .box [sC (v5.1.map Ai), sC (v5.2.1.map Ai), sC (v5.2.2.1.map A9)]), (2008, .vec 3 (v5.2.2.2.1.map Ay))]) (fun v6 => mk [(9, oD (.own 2009))] [(2009, .vec 3 (v6.map Ay))]) (fun _ _ => rfl) ((Bn 9 2012 3 rfl rfl rfl).trans ((A1 2004 _ _ rfl rfl).trans ((A1 2005 _ _ rfl rfl).trans ((A1 2006 _ _ rfl rfl).trans (sm [(2008, 2012)] _ _ rfl rfl))))) (fun j5 n5 v5 h => ?_) (fun v6 s h hs => ?_)
   ·unfold Fn at h
    refine Ab (Aa Ac rfl (AZ rfl (Ad (Ab ?_))))
    refine Ap rfl (fun c7 => ?_) (fun c7 => ?_)
    ·have h := An c7 h
     refine Aq (Ab (AP (Ab (Aa Ac rfl ?_))))
     obtain ⟨v8, a8, b8, h⟩ := Ak h
     refine qi Gl SO a8 (Ah b8) rfl (qk Un rfl (qa rfl (Ad (Ab (Aa Ac rfl (qL DP Dr rfl (qL A0 Ax rfl ?_)))))))
     obtain ⟨v9, a9, h⟩ := bind_some h
     refine AG [2010, 2011] (JX N p0 ((Ae.mk v5.1 v5.2.1 v5.2.2.1)) v9 a9) VU rfl (qm rfl (qx rfl (qx rfl (qa rfl (qa rfl (Ad (Ab (Ab (Aa Ac rfl (qm rfl (Dz BX rfl (BD rfl (Ad ?_)))))))))))))
     refine Ap rfl (fun c10 => ?_) (fun c10 => ?_)
     ·have h := An c10 h
      refine AY ?_
      exact Av _ h (sm [(2009, 2008)] _ _ rfl rfl)
     ·have h := Am c10 h
      refine Aq (Ab (Aa Ac rfl (qm rfl (FO SP QU rfl (qm rfl (Dz BX rfl ?_))))))
      obtain ⟨c11, h⟩ := AL h
      refine Jv rfl c11 (qa rfl (Ad (Aa Ac rfl (qm rfl (qm rfl (qm rfl ?_))))))
      obtain ⟨v12, a12, b12, h⟩ := Ak h
      refine qI BX CT a12 (Ah b12) rfl (qJ GS CT (Ah b12) rfl (DT BX CT EQ rfl ?_))
      obtain ⟨c13, h⟩ := AL h
      refine CQ (f := Ay) BX BX CT IC EQ c13 rfl (qm rfl (qm rfl ?_))
      obtain ⟨v14, a14, b14, h⟩ := Ak h
      refine qI AR Ax a14 (Ah b14) rfl (qJ A0 Ax (Ah b14) rfl (qa rfl (qs Ax rfl (AM (by kernel_rfl) (Aa Ac rfl (AX rfl (qm rfl (Ad ?_))))))))
      exact Av _ h (sm [(2008, 54)] _ _ rfl rfl)
    ·have h := Am c7 h
     refine AY ?_
     exact Av _ h (sm [(2009, 2008)] _ _ rfl rfl)
   ·refine Al hs (Ab (Aa Ac rfl (qm rfl (qa rfl (qa rfl (Ad ?_))))))
    obtain rfl := sj h
    refine Al (sm [(1000, 2009)] [(4, oD (.own 1000)), (5, iD 0)] [(1000, .vec 3 (v6.map Ay))] rfl rfl) (Az ?_)
    exact ⟨⟨[_, _], ⟨.tmp _ _ rfl, ⟨.tmp _ _ rfl, tv⟩⟩, rfl⟩, ⟨rfl, tv⟩⟩
theorem PY (N : Nat) (p0 : Ag) (p1 : Ae) (p2 : List Aj) (r : (List Ae) × Int × Int) (h : FW N p0 p1 p2 = some r) : AB Tryz.prog 56 [.e (.agg [sC (p0.fVersions.map Ai), sC (p0.fNow.map Ai), sC (p0.fTarget.map Ai), sC (p0.fTables.map Ao)]), .e (.agg [sC (p1.fBase.map Ai), sC (p1.fNext.map Ai), sC (p1.fHeld.map A9)]), pD (.sl (p2.map Ay))] [(3, r.1.map Af)] (.tup [.one (.own 0), .one (iC r.2.1), .one (iC r.2.2)]) := by
 unfold FW at h
 refine Au (n := 53) (rs := [.tmp 6, .tmp 7, .tmp 8]) Tryz.func56 rfl rfl rfl (A5 rfl) (A5 rfl) rfl fun w0 S0 => ?_
 refine Ab (Aa Ac rfl (qb rfl (qb rfl (qa rfl (qa rfl (qa rfl (Ad (Ab (Ab (Aa Ac rfl (qL DP Dr rfl (qL A0 Ax rfl ?_))))))))))))
 obtain ⟨v1, a1, h⟩ := bind_some h
 refine AG [] (HE N p0 p1 v1 a1) To rfl (qa rfl (Ad (Ab (Aa Ac rfl (qm rfl (B6 rfl (Ad ?_)))))))
 refine Ap rfl (fun c2 => ?_) (fun c2 => ?_)
 ·have h := An c2 h
  refine Ab (Aa Ac rfl (qm rfl (qa rfl (qa rfl (qa rfl (Ad ?_))))))
  obtain rfl := sj h
  refine Al ((Bn 6 2001 3 rfl rfl rfl).trans (sm [(1000, 2001)] [(6, oD (.own 1000)), (7, iD 0), (8, iD v1)] [(1000, .vec 3 ((([] : List Ae)).map Af))] rfl rfl)) (Az ?_)
  exact ⟨⟨[_, _, _], ⟨.tmp _ _ rfl, ⟨.tmp _ _ rfl, ⟨.tmp _ _ rfl, tv⟩⟩⟩, rfl⟩, ⟨rfl, tv⟩⟩
 ·have h := Am c2 h
  refine Aq (Ab (Aa Ac rfl (qL A0 Ax rfl ?_)))
  obtain ⟨v3, a3, h⟩ := bind_some h
  refine AG [2002, 2003, 2004] (JE N p1 v3 a3) Ww rfl (CC (A1 2002 _ _ rfl rfl) (CC (A1 2003 _ _ rfl rfl) (CC (A1 2004 _ _ rfl rfl) (DT AR Ax Cv rfl (qa rfl (Ad (Ab (Ab (Aa Ac rfl (qm rfl (AV BX rfl (qm rfl (Ad ?_)))))))))))))
  refine AJ (L := D7 N p0 p2) h (fun v4 => mk [(2, pD (.sl (p2.map Ay))), (3, oD (.ptr 3 0)), (10, oD (.own 2005)), (24, pD (.sl (p2.map Ay))), (25, iD ((p2.length : Int))), (26, iD v4.2)] [(3, .box [sC (p0.fVersions.map Ai), sC (p0.fNow.map Ai), sC (p0.fTarget.map Ai), sC (p0.fTables.map Ao)]), (2005, .vec 3 (v4.1.map Af))]) (fun v5 => mk [(2, pD (.sl (p2.map Ay))), (10, oD (.own 2006))] [(2006, .vec 3 (v5.map Af))]) (fun _ _ => rfl) (sm [(2005, 23)] _ _ rfl rfl) (fun j4 n4 v4 h => ?_) (fun v5 s h hs => ?_)
  ·unfold D7 at h
   refine Ab (Aa Ac rfl (AZ rfl (Ad (Ab ?_))))
   refine Ap rfl (fun c6 => ?_) (fun c6 => ?_)
   ·have h := An c6 h
    refine Aq (Ab (AP (Ab (Aa Ac rfl (qm rfl ?_)))))
    obtain ⟨v7, a7, b7, h⟩ := Ak h
    refine qi BX CT a7 (Ah b7) rfl (qK GS CT rfl (qz EQ rfl (qa rfl (qs CT rfl (Ad (Ab (Aa Ac rfl (qL DP Dr rfl (qm rfl (qm rfl ?_))))))))))
    obtain ⟨v8, a8, b8, h⟩ := Ak h
    refine qI AR Ax a8 (Ah b8) rfl (qJ A0 Ax (Ah b8) rfl (qL GS CT rfl ?_))
    obtain ⟨v9, a9, h⟩ := bind_some h
    refine AG [2007, 2008, 2009] (J0 N p0 v8 v7 v9 a9) VK rfl (qm rfl (qx rfl (qx rfl (qz Cv rfl (qs Ax rfl (qa rfl (AM (by kernel_rfl) (Ab (Ab (Aa Ac rfl (qm rfl (B6 rfl (Ad ?_)))))))))))))
    refine Ap rfl (fun c10 => ?_) (fun c10 => ?_)
    ·have h := An c10 h
     refine Ab (Aa Ac rfl (qm rfl (qm rfl (qa rfl (qa rfl (qa rfl (Ad ?_)))))))
     obtain rfl := sj h
     refine Al ((Bn 6 2010 3 rfl rfl rfl).trans (sm [(1000, 2010)] [(6, oD (.own 1000)), (7, iD v4.2), (8, iD v9.2)] [(1000, .vec 3 ((([] : List Ae)).map Af))] rfl rfl)) (Az ?_)
     exact ⟨⟨[_, _, _], ⟨.tmp _ _ rfl, ⟨.tmp _ _ rfl, ⟨.tmp _ _ rfl, tv⟩⟩⟩, rfl⟩, ⟨rfl, tv⟩⟩
    ·have h := Am c10 h
     refine Aq (Aa Ac rfl (qm rfl (qL A0 Ax rfl (CC (A1 2007 _ _ rfl rfl) (CC (A1 2008 _ _ rfl rfl) (CC (A1 2009 _ _ rfl rfl) (DT AR Ax Cv rfl ?_)))))))
     obtain ⟨c11, h⟩ := AL h
     refine CQ (f := Af) AR AR Ax OF Cv c11 rfl (qa rfl (Ad (Aa Ac rfl (AX rfl (qm rfl (Ad ?_))))))
     exact Av _ h (sm [(2005, 48)] _ _ rfl rfl)
   ·have h := Am c6 h
    refine AY ?_
    exact Av _ h (sm [(2006, 2005)] _ _ rfl rfl)
  ·refine Al hs (Ab (Aa Ac rfl (qm rfl (qm rfl (AV BX rfl (qa rfl (qa rfl (qa rfl (Ad ?_)))))))))
   obtain rfl := sj h
   refine Al (sm [(1000, 2006)] [(6, oD (.own 1000)), (7, iD ((p2.length : Int))), (8, iD 0)] [(1000, .vec 3 (v5.map Af))] rfl rfl) (Az ?_)
   exact ⟨⟨[_, _, _], ⟨.tmp _ _ rfl, ⟨.tmp _ _ rfl, ⟨.tmp _ _ rfl, tv⟩⟩⟩, rfl⟩, ⟨rfl, tv⟩⟩
theorem IZ (N : Nat) (p0 : Ag) (p1 : List Aj) (r : (List Ae) × Int × Int) (h : DX N p0 p1 = some r) : AB Tryz.prog 36 [.e (.agg [sC (p0.fVersions.map Ai), sC (p0.fNow.map Ai), sC (p0.fTarget.map Ai), sC (p0.fTables.map Ao)]), pD (.sl (p1.map Ay))] [(3, r.1.map Af)] (.tup [.one (.own 0), .one (iC r.2.1), .one (iC r.2.2)]) := by
 unfold DX at h
 refine Au (n := 24) (rs := [.tmp 4, .tmp 5, .tmp 6]) Tryz.func36 rfl rfl rfl (A5 rfl) (A5 rfl) rfl fun w0 S0 => ?_
 refine Ab (Aa Ac rfl (qb rfl (qa rfl (qa rfl (qa rfl (Ad (Ab (Aa Ac rfl (qL DP Dr rfl ?_)))))))))
 obtain ⟨v1, a1, h⟩ := bind_some h
 refine AG [2001, 2002, 2003] (KY N p0 v1 a1) Vl rfl (qm rfl (qx rfl (qx rfl (qz Cv rfl (qs Ax rfl (qa rfl (Ad (Ab (Ab (Aa Ac rfl (qm rfl (B6 rfl (Ad ?_)))))))))))))
 refine Ap rfl (fun c2 => ?_) (fun c2 => ?_)
 ·have h := An c2 h
  refine Ab (Aa Ac rfl (qm rfl (qa rfl (qa rfl (qa rfl (Ad ?_))))))
  obtain rfl := sj h
  refine Al ((Bn 4 2004 3 rfl rfl rfl).trans (sm [(1000, 2004)] [(4, oD (.own 1000)), (5, iD 0), (6, iD v1.2)] [(1000, .vec 3 ((([] : List Ae)).map Af))] rfl rfl)) (Az ?_)
  exact ⟨⟨[_, _, _], ⟨.tmp _ _ rfl, ⟨.tmp _ _ rfl, ⟨.tmp _ _ rfl, tv⟩⟩⟩, rfl⟩, ⟨rfl, tv⟩⟩
 ·have h := Am c2 h
  refine Aq (Ab (Aa Ac rfl (qL DP Dr rfl (qL A0 Ax rfl (qm rfl (CC (A1 2001 _ _ rfl rfl) (CC (A1 2002 _ _ rfl rfl) (CC (A1 2003 _ _ rfl rfl) ?_))))))))
  obtain ⟨v3, a3, h⟩ := bind_some h
  refine AG [2005] (PY N p0 v1.1 p1 v3 a3) WO rfl (qx rfl (qx rfl (qx rfl (qa rfl (qa rfl (qa rfl (Ad ?_)))))))
  obtain rfl := sj h
  refine Al (sm [(1000, 2005)] [(4, oD (.own 1000)), (5, iD v3.2.1), (6, iD v3.2.2)] [(1000, .vec 3 (v3.1.map Af))] rfl rfl) (Az ?_)
  exact ⟨⟨[_, _, _], ⟨.tmp _ _ rfl, ⟨.tmp _ _ rfl, ⟨.tmp _ _ rfl, tv⟩⟩⟩, rfl⟩, ⟨rfl, tv⟩⟩
theorem Fr (N : Nat) (p0 : List Ae) (p1 : (Ae × Ae) → Option Bool) (r : Nat × (List Ae)) (h : BB N p0 p1 = some r) : By Tryz.prog 40 [oD (.own 90000), oD (.clo (BM (DW true Af true Af) tB p1))] [(.vec 3 (p0.map Af), .vec 3 (r.2.map Af))] [] (oD (.view 90000 3 0 r.1)) := by
 unfold BB at h
 refine Br (n := 66) (rs := [.tmp 4]) Tryz.func40 rfl rfl rfl (A5 rfl) (A5 rfl) rfl rfl (A5 rfl) rfl (A5 rfl) fun w0 S0 GL => ?_
 refine Al (sm [] [(0, oD (.own 90000)), (1, oD (.clo (BM (DW true Af true Af) tB p1)))] [(90000, .vec 3 (p0.map Af))] rfl rfl) (Ab (Aa Ac rfl (qa rfl (Ad (Ab (Ab (Aa Ac rfl (qm rfl (Dz AR rfl (AZ rfl (Ad ?_)))))))))))
 refine Ap rfl (fun c1 => ?_) (fun c1 => ?_)
 ·have h := An c1 h
  refine Ab (Aa Ac rfl (qm rfl (qa rfl (Ad ?_))))
  obtain rfl := sj h
  refine Al ((NZ Af p0 4 90000 3 rfl rfl).trans (sm [] [(4, oD (.view 90000 3 0 p0.length))] [(90000, .vec 3 (p0.map Af))] rfl rfl)) (Az ?_)
  exact ⟨⟨[_], ⟨.tmp _ _ rfl, tv⟩, rfl⟩, ⟨rfl, tv⟩, tv⟩
 ·have h := Am c1 h
  refine Aq (Ab (Ab (Aa Ac rfl (qa rfl (Ad ?_)))))
  refine AJ (L := BQ N p0 p1) h (fun v2 => mk [(0, oD (.own 90000)), (1, oD (.clo (BM (DW true Af true Af) tB p1))), (5, iD v2)] [(90000, .vec 3 (p0.map Af))]) (fun v3 => mk [(0, oD (.own 90000))] [(90000, .vec 3 (p0.map Af))]) (fun _ _ => rfl) (sm [] _ _ rfl rfl) (fun j2 n2 v2 h => ?_) (fun v3 s h hs => ?_)
  ·unfold BQ at h
   refine Ab (Ab (Aa Ac rfl (qm rfl (qm rfl (Dz AR rfl (AZ rfl (Ad ?_)))))))
   refine Ap rfl (fun c4 => ?_) (fun c4 => ?_)
   ·have h := An c4 h
    refine Aq (Ab (AP (Ab (Aa Ac rfl (qm rfl (qm rfl (qm rfl ?_)))))))
    obtain ⟨v5, a5, b5, h⟩ := Ak h
    refine qI AR Ax a5 (Ah b5) rfl (qJ A0 Ax (Ah b5) rfl (qm rfl (qm rfl (Cp rfl ?_))))
    obtain ⟨v6, a6, b6, h⟩ := Ak h
    refine qI AR Ax a6 (Ah b6) rfl (qJ A0 Ax (Ah b6) rfl ?_)
    obtain ⟨v7, a7, h⟩ := bind_some h
    refine D0 (ds0 := [_, _]) (ar := (DW true Af true Af) ((v5, v6))) (.p rfl) rfl rfl ⟨rfl, rfl, tv⟩ rfl rfl rfl (DZ (Ep _ _ _ _ Bp Bp) a7) ?_
    refine AM (by kernel_rfl) ?_
    refine Ap rfl (fun c8 => ?_) (fun c8 => ?_)
    ·have h := An c8 h
     refine Ab (Aa Ac rfl (qm rfl (qm rfl ?_)))
     obtain ⟨c9, h⟩ := AL h
     have w10 : ((v2).toNat) + ((p0.length - (v2).toNat)) ≤ p0.length := by have := c9.2.1; have := c9.2.2; omega
     refine Hv Af p0 (.p rfl) rfl (GM Af _ _ p0) rfl AR Ax (.some _ _ _ _ c9.1) (.none _) ⟨rfl, tv⟩ tv c9.2.1 (by rw [Nat.zero_add]; exact c9.2.2) (Nat.zero_add _) rfl ?_
     refine qa rfl (Ad (Ab (Ab (Aa Ac rfl (qa rfl (Ad ?_))))))
     refine AJ (L := BN N p0 p1 v2) h (fun v11 => mk [(0, oD (.own 90000)), (1, oD (.clo (BM (DW true Af true Af) tB p1))), (5, iD v11.2.1), (6, oD (.view 90000 3 ((v2).toNat) ((p0.length - (v2).toNat)))), (7, iD v11.2.2)] [(90000, .vec 3 (v11.1.map Af))]) (fun v12 => mk [(0, oD (.own 90000)), (5, iD v12.2)] [(90000, .vec 3 (v12.1.map Af))]) (fun _ _ => rfl) (sm [] _ _ rfl rfl) (fun j11 n11 v11 h => ?_) (fun v12 s h hs => ?_)
     ·unfold BN at h
      refine Ab (Ab (Aa Ac rfl (qm rfl (qm rfl ?_))))
      refine TD (.p rfl) rfl AR ?_
      refine AZ rfl (Ad ?_)
      refine Ap rfl (fun c13 => ?_) (fun c13 => ?_)
      ·have h := An c13 h
       refine Aq ?_
       refine AQ h (fun v14 => mk [(0, oD (.own 90000)), (1, oD (.clo (BM (DW true Af true Af) tB p1))), (5, iD v14.2), (6, oD (.view 90000 3 ((v2).toNat) ((p0.length - (v2).toNat)))), (7, iD v11.2.2)] [(90000, .vec 3 (v14.1.map Af))]) (fun j14 h => ?_) (fun v14 h => ?_)
       ·refine AP (Ab (Aa Ac rfl (qm rfl (qm rfl (qm rfl ?_)))))
        obtain ⟨c16, h⟩ := AL h
        obtain ⟨v15, a15, b15, h⟩ := Ak h
        refine KU Af v11.1 (.p rfl) rfl c16 rfl rfl AR Ax a15 (Ie b15).1 rfl ?_
        refine Km (.p rfl) rfl A0 Ax rfl (Ah (Ie b15).2) ?_
        refine qm rfl (qm rfl (Cp rfl ?_))
        obtain ⟨v17, a17, b17, h⟩ := Ak h
        refine KU Af v11.1 (.p rfl) rfl c16 rfl rfl AR Ax a17 (Ie b17).1 rfl ?_
        refine Km (.p rfl) rfl A0 Ax rfl (Ah (Ie b17).2) ?_
        obtain ⟨v18, a18, h⟩ := bind_some h
        refine D0 (ds0 := [_, _]) (ar := (DW true Af true Af) ((v15, v17))) (.p rfl) rfl rfl ⟨rfl, rfl, tv⟩ rfl rfl rfl (DZ (Ep _ _ _ _ Bp Bp) a18) ?_
        refine Cq rfl (AM (by kernel_rfl) ?_)
        refine Ap rfl (fun c19 => ?_) (fun c19 => ?_)
        ·have h := An c19 h
         refine Ab (Aa Ac rfl (qm rfl (qm rfl (qm rfl (qm rfl ?_)))))
         obtain ⟨v20, a20, b20, h⟩ := Ak h
         refine KU Af v11.1 (.p rfl) rfl c16 rfl rfl AR Ax a20 (Ie b20).1 rfl ?_
         refine Km (.p rfl) rfl A0 Ax rfl (Ah (Ie b20).2) ?_
         obtain ⟨v21, a21, b21, h⟩ := Ak h
         refine qI AR Ax a21 (Ah b21) rfl ?_
         refine A8 rfl rfl rfl rfl (Ah b21) rfl Ax rfl (A5 rfl) (A6 Af v11.1 _ v20) ?_
         refine Ad (Aa Ac rfl (qm rfl (AX rfl (qa rfl (Ad ?_)))))
         exact Av _ h (sm [] _ _ rfl rfl)
        ·have h := Am c19 h
         refine Aq ?_
         exact Av _ h (sm [] _ _ rfl rfl)
       ·refine Aa Ac rfl (qm rfl (AX rfl (qa rfl (Ad ?_))))
        exact Av _ h (sm [] _ _ rfl rfl)
      ·have h := Am c13 h
       refine AY ?_
       exact Av _ h (sm [] _ _ rfl rfl)
     ·refine Al hs (Ab (Aa Ac rfl (qm rfl (qm rfl ?_))))
      obtain ⟨c22, h⟩ := AL h
      have w23 : ((v12.2).toNat) + ((v12.1.length - (v12.2).toNat)) ≤ v12.1.length := by have := c22.2.1; have := c22.2.2; omega
      refine Hv Af v12.1 (.p rfl) rfl (GM Af _ _ v12.1) rfl AR Ax (.some _ _ _ _ c22.1) (.none _) ⟨rfl, tv⟩ tv c22.2.1 (by rw [Nat.zero_add]; exact c22.2.2) (Nat.zero_add _) rfl ?_
      have w24 : (Hb v12.1 ((v12.2).toNat) (List.replicate ((v12.1.length - (v12.2).toNat)) ((Ae.mk (([] : List Int)) (([] : List Int)) (([] : List Int)))))).length = v12.1.length := Ix (by rw [List.length_replicate]; exact w23)
      refine O4 Af v12.1 ((Ae.mk (([] : List Int)) (([] : List Int)) (([] : List Int)))) rfl rfl (KS Af _ _ ((v12.2).toNat) ((v12.1.length - (v12.2).toNat)) v12.1 w23) rfl AR Cv rfl rfl rfl rfl ?_
      refine Ad (Ab (Aa Ac rfl (qm rfl (qm rfl ?_))))
      obtain ⟨c25, h⟩ := AL h
      have w26 : 0 + ((v12.2).toNat) ≤ (Hb v12.1 ((v12.2).toNat) (List.replicate ((v12.1.length - (v12.2).toNat)) ((Ae.mk (([] : List Int)) (([] : List Int)) (([] : List Int)))))).length := by have := c25.2.1; have := c25.2.2; omega
      refine Hv Af (Hb v12.1 ((v12.2).toNat) (List.replicate ((v12.1.length - (v12.2).toNat)) ((Ae.mk (([] : List Int)) (([] : List Int)) (([] : List Int)))))) (.p rfl) rfl (GM Af _ _ (Hb v12.1 ((v12.2).toNat) (List.replicate ((v12.1.length - (v12.2).toNat)) ((Ae.mk (([] : List Int)) (([] : List Int)) (([] : List Int))))))) rfl AR Ax (.none _) (.some _ _ _ _ c25.1) tv ⟨rfl, tv⟩ c25.2.1 (by rw [Nat.zero_add]; exact c25.2.2) (Nat.zero_add _) rfl ?_
      refine qa rfl (Ad ?_)
      obtain rfl := sj h
      refine Al (sm [] [(4, oD (.view 90000 3 0 ((v12.2).toNat)))] [(90000, .vec 3 ((Hb v12.1 ((v12.2).toNat) (List.replicate ((v12.1.length - (v12.2).toNat)) ((Ae.mk (([] : List Int)) (([] : List Int)) (([] : List Int)))))).map Af))] rfl rfl) (Az ?_)
      exact ⟨⟨[_], ⟨.tmp _ _ rfl, tv⟩, rfl⟩, ⟨rfl, tv⟩, tv⟩
    ·have h := Am c8 h
     refine Aq (Aa Ac rfl (qm rfl (AX rfl (qa rfl (Ad ?_)))))
     exact Av _ h (sm [] _ _ rfl rfl)
   ·have h := Am c4 h
    refine AY ?_
    exact Av _ h (sm [] _ _ rfl rfl)
  ·refine Al hs (Ab (Aa Ac rfl (qm rfl (qa rfl (Ad ?_)))))
   obtain rfl := sj h
   refine Al ((NZ Af p0 4 90000 3 rfl rfl).trans (sm [] [(4, oD (.view 90000 3 0 p0.length))] [(90000, .vec 3 (p0.map Af))] rfl rfl)) (Az ?_)
   exact ⟨⟨[_], ⟨.tmp _ _ rfl, tv⟩, rfl⟩, ⟨rfl, tv⟩, tv⟩
theorem Lk (N : Nat) (p0 : Ae) (p1 : Ae) (r : Bool) (h : CM N p0 p1 = some r) : AB Tryz.prog 41 [.e (.agg [sC (p0.fBase.map Ai), sC (p0.fNext.map Ai), sC (p0.fHeld.map A9)]), .e (.agg [sC (p1.fBase.map Ai), sC (p1.fNext.map Ai), sC (p1.fHeld.map A9)])] [] (bD r) := by
 unfold CM at h
 refine Au (n := 9) (rs := [.tmp 4]) Tryz.func41 rfl rfl rfl (A5 rfl) (A5 rfl) rfl fun w0 S0 => ?_
 refine Ab (Aa Ac rfl (qb rfl (qb rfl (qa rfl (Ad (Ab (Aa Ac rfl (qL A0 Ax rfl (qL A0 Ax rfl ?_)))))))))
 obtain ⟨v1, a1, h⟩ := bind_some h
 refine AG [] (HL N p0 p1 v1 a1) U1 rfl (BD rfl (qa rfl (Ad ?_)))
 obtain rfl := sj h
 refine Al (sm [] [(4, bD ((v1 == 0)))] [] rfl rfl) (Az ?_)
 exact ⟨⟨[_], ⟨.tmp _ _ rfl, tv⟩, rfl⟩, tv⟩
theorem JC (N : Nat) (p0 : Ag) (p1 : List Aj) (r : (List Ae) × Int) (h : Ex N p0 p1 = some r) : AB Tryz.prog 11 [.e (.agg [sC (p0.fVersions.map Ai), sC (p0.fNow.map Ai), sC (p0.fTarget.map Ai), sC (p0.fTables.map Ao)]), pD (.sl (p1.map Ay))] [(3, r.1.map Af)] (.tup [.one (.own 0), .one (iC r.2)]) := by
 unfold Ex at h
 refine Au (n := 47) (rs := [.tmp 4, .tmp 5]) Tryz.func11 rfl rfl rfl (A5 rfl) (A5 rfl) rfl fun w0 S0 => ?_
 refine Ab (Aa Ac rfl (qb rfl (qa rfl (qa rfl (Ad (Ab (Aa Ac rfl (qL DP Dr rfl (qm rfl ?_)))))))))
 obtain ⟨v1, a1, h⟩ := bind_some h
 refine AG [2001] (IZ N p0 p1 v1 a1) UP rfl (qm rfl (qx rfl (qx rfl (qx rfl (qa rfl (qa rfl (qa rfl (Ad (Ab (Ab (Aa Ac rfl (qm rfl (B6 rfl (Ad ?_))))))))))))))
 refine Ap rfl (fun c2 => ?_) (fun c2 => ?_)
 ·have h := An c2 h
  refine Ab (Aa Ac rfl (qm rfl (qa rfl (qa rfl (Ad ?_)))))
  obtain rfl := sj h
  refine Al ((Bn 4 2002 3 rfl rfl rfl).trans (sm [(1000, 2002)] [(4, oD (.own 1000)), (5, iD v1.2.2)] [(1000, .vec 3 ((([] : List Ae)).map Af))] rfl rfl)) (Az ?_)
  exact ⟨⟨[_, _], ⟨.tmp _ _ rfl, ⟨.tmp _ _ rfl, tv⟩⟩, rfl⟩, ⟨rfl, tv⟩⟩
 ·have h := Am c2 h
  refine Aq (Ab (Aa Ac rfl (qa rfl (Ad (Ab (Ab (Aa Ac rfl (qm rfl (Dz AR rfl (qm rfl (Ad ?_)))))))))))
  refine AJ (L := DQ N p0 v1) h (fun v3 => mk [(2, oD (.ptr 2 0)), (9, oD (.own 2003)), (24, oD (.own 2004)), (25, iD ((v1.1.length : Int))), (26, iD v3.2)] [(2, .box [sC (p0.fVersions.map Ai), sC (p0.fNow.map Ai), sC (p0.fTarget.map Ai), sC (p0.fTables.map Ao)]), (2003, .vec 3 (v3.1.map Af)), (2004, .vec 3 (v1.1.map Af))]) (fun v4 => mk [(9, oD (.own 2005))] [(2005, .vec 3 (v4.map Af))]) (fun _ _ => rfl) ((Bn 9 2008 3 rfl rfl rfl).trans (sm [(2003, 2008), (2004, 2001)] _ _ rfl rfl)) (fun j3 n3 v3 h => ?_) (fun v4 s h hs => ?_)
  ·unfold DQ at h
   refine Ab (Aa Ac rfl (AZ rfl (Ad (Ab ?_))))
   refine Ap rfl (fun c5 => ?_) (fun c5 => ?_)
   ·have h := An c5 h
    refine Aq (Ab (AP (Ab (Aa Ac rfl ?_))))
    obtain ⟨v6, a6, b6, h⟩ := Ak h
    refine qI AR Ax a6 (Ah b6) rfl (qJ A0 Ax (Ah b6) rfl (qz Cv rfl (qs Ax rfl (Ad (Ab (Aa Ac rfl (qL DP Dr rfl (qL A0 Ax rfl ?_))))))))
    obtain ⟨v7, a7, h⟩ := bind_some h
    refine AG [2006] (J9 N p0 v6 v7 a7) Wx rfl (qm rfl (qx rfl (qx rfl (qa rfl (qa rfl (Ad (Ab (Ab (Aa Ac rfl (qm rfl (B6 rfl (Ad ?_))))))))))))
    refine Ap rfl (fun c8 => ?_) (fun c8 => ?_)
    ·have h := An c8 h
     refine Ab (Aa Ac rfl (qm rfl (qa rfl (qa rfl (Ad ?_)))))
     obtain rfl := sj h
     refine Al ((Bn 4 2007 3 rfl rfl rfl).trans (sm [(1000, 2007)] [(4, oD (.own 1000)), (5, iD v7.2)] [(1000, .vec 3 ((([] : List Ae)).map Af))] rfl rfl)) (Az ?_)
     exact ⟨⟨[_, _], ⟨.tmp _ _ rfl, ⟨.tmp _ _ rfl, tv⟩⟩, rfl⟩, ⟨rfl, tv⟩⟩
    ·have h := Am c8 h
     refine Aq (Aa Ac rfl (qm rfl (qm rfl ?_)))
     obtain ⟨c9, h⟩ := AL h
     refine CQ (f := Af) AR AR Ax OF Cv c9 rfl (qa rfl (Ad (Aa Ac rfl (AX rfl (qm rfl (Ad ?_))))))
     exact Av _ h (sm [(2003, 41)] _ _ rfl rfl)
   ·have h := Am c5 h
    refine AY ?_
    exact Av _ h (sm [(2005, 2003)] _ _ rfl rfl)
  ·refine Al hs (Ab (Aa Ac rfl (qm rfl ?_)))
   obtain ⟨v10, a10, h⟩ := bind_some h
   refine CP (ds0 := [_, _]) [2005] [] [true] (By.weak (ds' := [_, oD (.fnc 39)]) (Ed N v4 ((fun (x : Ae × Ae) => Cf N x.1 x.2)) v10 a10) ⟨(fun _ _ _ hh => hh), (fun _ _ _ hh => Mz U1 (fun ar t ht => by obtain ⟨x, r, rfl, hq, rfl⟩ := H0 ht; exact HL N x.1 x.2 r hq) hh), tv⟩) (.p rfl) Vr rfl ⟨rfl, rfl, tv⟩ rfl rfl (by decide) ⟨rfl, tv⟩ rfl (Bf rfl) tv ⟨(fun h => by cases h), tv⟩ rfl rfl rfl ?_
   refine Ad (Ab (Aa Ac rfl (qm rfl ?_)))
   obtain ⟨v11, a11, h⟩ := bind_some h
   obtain ⟨c12, h⟩ := AL h
   have w13 : 0 + v11.1 ≤ v11.2.length := by rw [Nat.zero_add]; exact c12
   refine CP (ds0 := [_, _]) [2005] [] [true] (By.weak (ds' := [_, oD (.fnc 41)]) (Fr N v10 ((fun (x : Ae × Ae) => CM N x.1 x.2)) v11 a11) ⟨(fun _ _ _ hh => hh), (fun _ _ _ hh => Mz Xc (fun ar t ht => by obtain ⟨x, r, rfl, hq, rfl⟩ := H0 ht; exact Lk N x.1 x.2 r hq) hh), tv⟩) (.p rfl) WK rfl ⟨rfl, rfl, tv⟩ rfl rfl (by decide) ⟨rfl, tv⟩ rfl (Bf rfl) tv ⟨(fun h => by cases h), tv⟩ rfl rfl rfl ?_
   refine CC (So Af v11.2 46 2005 2009 3 v11.1 rfl rfl rfl rfl rfl c12) (qa rfl (qa rfl (Ad ?_)))
   obtain rfl := sj h
   refine Al (sm [(1000, 2009)] [(4, oD (.own 1000)), (5, iD 0)] [(1000, .vec 3 ((v11.2.take v11.1).map Af))] rfl rfl) (Az ?_)
   exact ⟨⟨[_, _], ⟨.tmp _ _ rfl, ⟨.tmp _ _ rfl, tv⟩⟩, rfl⟩, ⟨rfl, tv⟩⟩
theorem NT (N : Nat) (p0 : Ag) (p1 : List Aj) (r : Bool × Int) (h : HQ N p0 p1 = some r) : AB Tryz.prog 14 [.e (.agg [sC (p0.fVersions.map Ai), sC (p0.fNow.map Ai), sC (p0.fTarget.map Ai), sC (p0.fTables.map Ao)]), pD (.sl (p1.map Ay))] [] (.tup [.one (.pure (.val (.bool r.1))), .one (iC r.2)]) := by
 unfold HQ at h
 refine Au (n := 43) (rs := [.tmp 4, .tmp 5]) Tryz.func14 rfl rfl rfl (A5 rfl) (A5 rfl) rfl fun w0 S0 => ?_
 refine Ab (Aa Ac rfl (qb rfl (qa rfl (qa rfl (Ad (Ab (Aa Ac rfl (qL DP Dr rfl (qm rfl ?_)))))))))
 obtain ⟨v1, a1, h⟩ := bind_some h
 refine AG [2001] (IZ N p0 p1 v1 a1) UP rfl (qm rfl (qx rfl (qx rfl (qx rfl (qa rfl (qa rfl (qa rfl (Ad (Ab (Ab (Aa Ac rfl (qm rfl (B6 rfl (Ad ?_))))))))))))))
 refine Ap rfl (fun c2 => ?_) (fun c2 => ?_)
 ·have h := An c2 h
  refine Ab (Aa Ac rfl (qm rfl (qa rfl (qa rfl (Ad ?_)))))
  obtain rfl := sj h
  refine Al (sm [] [(4, bD false), (5, iD v1.2.2)] [] rfl rfl) (Az ?_)
  exact ⟨⟨[_, _], ⟨.tmp _ _ rfl, ⟨.tmp _ _ rfl, tv⟩⟩, rfl⟩, tv⟩
 ·have h := Am c2 h
  refine Aq (Ab (Ab (Aa Ac rfl (qm rfl (Dz AR rfl (qm rfl (Ad ?_)))))))
  refine AJ (L := Fh N p0 v1) h (fun v3 => mk [(2, oD (.ptr 2 0)), (23, oD (.own 2002)), (24, iD ((v1.1.length : Int))), (25, iD v3)] [(2, .box [sC (p0.fVersions.map Ai), sC (p0.fNow.map Ai), sC (p0.fTarget.map Ai), sC (p0.fTables.map Ao)]), (2002, .vec 3 (v1.1.map Af))]) (fun v4 => mk [] []) (fun _ _ => rfl) (sm [(2002, 2001)] _ _ rfl rfl) (fun j3 n3 v3 h => ?_) (fun v4 s h hs => ?_)
  ·unfold Fh at h
   refine Ab (Aa Ac rfl (AZ rfl (Ad (Ab ?_))))
   refine Ap rfl (fun c5 => ?_) (fun c5 => ?_)
   ·have h := An c5 h
    refine Aq (Ab (AP (Ab (Aa Ac rfl ?_))))
    obtain ⟨v6, a6, b6, h⟩ := Ak h
    refine qI AR Ax a6 (Ah b6) rfl (qJ A0 Ax (Ah b6) rfl (qz Cv rfl (qs Ax rfl (Ad (Ab (Aa Ac rfl (qL DP Dr rfl (qL A0 Ax rfl ?_))))))))
    obtain ⟨v7, a7, h⟩ := bind_some h
    refine AG [] (Ih N p0 v6 v7 a7) UU rfl (qm rfl (qx rfl (qx rfl (qa rfl (qa rfl (Ad ?_))))))
    refine AQ h (fun v8 => mk [(2, oD (.ptr 2 0)), (12, iD v7.2), (23, oD (.own 2003)), (24, iD ((v1.1.length : Int))), (25, iD v3), (40, bD v8)] [(2, .box [sC (p0.fVersions.map Ai), sC (p0.fNow.map Ai), sC (p0.fTarget.map Ai), sC (p0.fTables.map Ao)]), (2003, .vec 3 (v1.1.map Af))]) (fun j8 h => ?_) (fun v8 h => ?_)
    ·refine Aa Ac rfl (qm rfl (B6 rfl (qm rfl ?_)))
     refine AC (t := 37) rfl (fun c9 => ?_) (fun c9 => ?_)
     ·have h := An c9 h
      refine qn rfl (qn rfl (qp rfl (Ad ?_)))
      exact Av _ h (sm [(2003, 2002)] _ _ rfl rfl)
     ·have h := Am c9 h
      refine qm rfl (Cq rfl (qp rfl (Ad ?_)))
      exact Av _ h (sm [(2003, 2002)] _ _ rfl rfl)
    ·refine Ap rfl (fun c10 => ?_) (fun c10 => ?_)
     ·have h := An c10 h
      refine Ab (Aa Ac rfl (qm rfl (qa rfl (qa rfl (Ad ?_)))))
      obtain rfl := sj h
      refine Al (sm [] [(4, bD false), (5, iD v7.2)] [] rfl rfl) (Az ?_)
      exact ⟨⟨[_, _], ⟨.tmp _ _ rfl, ⟨.tmp _ _ rfl, tv⟩⟩, rfl⟩, tv⟩
     ·have h := Am c10 h
      refine Aq (Aa Ac rfl (AX rfl (qm rfl (Ad ?_))))
      exact Av _ h (sm [(2002, 2003)] _ _ rfl rfl)
   ·have h := Am c5 h
    refine AY ?_
    exact Av _ h (sm [] _ _ rfl rfl)
  ·refine Al hs (Ab (Aa Ac rfl (qa rfl (qa rfl (Ad ?_)))))
   obtain rfl := sj h
   refine Al (sm [] [(4, bD true), (5, iD 0)] [] rfl rfl) (Az ?_)
   exact ⟨⟨[_, _], ⟨.tmp _ _ rfl, ⟨.tmp _ _ rfl, tv⟩⟩, rfl⟩, tv⟩
theorem G1 (N : Nat) (r : Bool) (h : DE N = some r) : AB Tryz.prog 10 [] [] (bD r) := by
 unfold DE at h
 refine Au (n := 84) (rs := [.tmp 0]) Tryz.func10 rfl rfl rfl (A5 rfl) (A5 rfl) rfl fun w0 S0 => ?_
 refine Ab (Aa Ac rfl (qa rfl (Ad (Ab (Aa Ac rfl ?_)))))
 obtain ⟨v1, a1, h⟩ := bind_some h
 refine AG [2001, 2002, 2003, 2004] (Dt N false v1 a1) SB rfl (CC (A1 2001 _ _ rfl rfl) (CC (A1 2002 _ _ rfl rfl) (CC (A1 2003 _ _ rfl rfl) (CC (A1 2004 _ _ rfl rfl) ?_))))
 obtain ⟨v2, a2, h⟩ := bind_some h
 refine AG [2005] (IR N v1 v2 a2) Vq rfl (qm rfl (qx rfl (qx rfl (qa rfl (qa rfl (Ad (Ab (Aa Ac rfl ?_))))))))
 obtain ⟨v3, a3, h⟩ := bind_some h
 refine AG [2006, 2007, 2008, 2009] (Dt N true v3 a3) SB rfl (CC (A1 2006 _ _ rfl rfl) (CC (A1 2007 _ _ rfl rfl) (CC (A1 2008 _ _ rfl rfl) (CC (A1 2009 _ _ rfl rfl) ?_))))
 obtain ⟨v4, a4, h⟩ := bind_some h
 refine AG [2010] (IR N v3 v4 a4) Vq rfl (qm rfl (qx rfl (qx rfl (qa rfl (qa rfl (Ad (Ab (Aa Ac rfl ?_))))))))
 obtain ⟨v5, a5, h⟩ := bind_some h
 refine AG [2011, 2012, 2013, 2014] (Dt N false v5 a5) SB rfl (DT Gl SO Vm rfl ?_)
 obtain ⟨v6, a6, h⟩ := bind_some h
 refine FG [2015] [2011, 2012, 2013, 2014, 24] (NN N v5 (([1, 2, 3] : List Int)) v6 a6) WV (Hm (fun _ => rfl) Ef) rfl (qm rfl (qx rfl (qx rfl (qa rfl (qa rfl (Ad (Ab (Aa Ac rfl (Bz EQ OO rfl (DT BX CT EQ rfl (qa rfl (Ad (Ab (Aa Ac rfl ?_))))))))))))))
 obtain ⟨v7, a7, h⟩ := bind_some h
 refine AG [2016, 2017, 2018, 2019] (Dt N false v7 a7) SB rfl (qm rfl (CC (A1 2016 _ _ rfl rfl) (CC (A1 2017 _ _ rfl rfl) (CC (A1 2018 _ _ rfl rfl) (CC (A1 2019 _ _ rfl rfl) (CC (A1 29 _ _ rfl rfl) ?_))))))
 obtain ⟨v8, a8, h⟩ := bind_some h
 refine AG [2020] (JC N v7 (([(Aj.mk 1 0 1)] : List Aj)) v8 a8) Wr rfl (qm rfl (qx rfl (qx rfl (qa rfl (qa rfl (Ad (Ab (Aa Ac rfl ?_))))))))
 obtain ⟨v9, a9, h⟩ := bind_some h
 refine AG [2021, 2022, 2023, 2024] (Dt N false v9 a9) SB rfl (qm rfl ?_)
 obtain ⟨v10, a10, h⟩ := bind_some h
 refine FG [] [2021, 2022, 2023, 2024] (NT N v9 (([(Aj.mk 1 0 1)] : List Aj)) v10 a10) Xn Ef rfl (qm rfl (qx rfl (qx rfl (qa rfl (qa rfl (Ad ?_))))))
 refine AQ h (fun v11 => mk [(0, bD v11)] []) (fun j11 h => ?_) (fun v11 h => ?_)
 ·refine Aa Ac rfl (qm rfl (BD rfl (qm rfl ?_)))
  refine AC (t := 44) rfl (fun c12 => ?_) (fun c12 => ?_)
  ·have h := An c12 h
   refine qm rfl (BD rfl (qp rfl (qm rfl ?_)))
   refine AC (t := 48) rfl (fun c13 => ?_) (fun c13 => ?_)
   ·have h := An c13 h
    refine qm rfl (BD rfl (qp rfl (qm rfl ?_)))
    refine AC (t := 52) rfl (fun c14 => ?_) (fun c14 => ?_)
    ·have h := An c14 h
     refine qm rfl (BD rfl (qp rfl (qm rfl ?_)))
     refine AC (t := 56) rfl (fun c15 => ?_) (fun c15 => ?_)
     ·have h := An c15 h
      refine qm rfl (BD rfl (qp rfl (qm rfl ?_)))
      refine AC (t := 60) rfl (fun c16 => ?_) (fun c16 => ?_)
      ·have h := An c16 h
       refine qm rfl (Dz AR rfl (BD rfl (qp rfl (qm rfl ?_))))
       refine AC (t := 65) rfl (fun c17 => ?_) (fun c17 => ?_)
       ·have h := An c17 h
        refine qm rfl (Dz AR rfl (BD rfl (qp rfl (qm rfl ?_))))
        refine AC (t := 70) rfl (fun c18 => ?_) (fun c18 => ?_)
        ·have h := An c18 h
         refine qm rfl (Dz BX rfl (BD rfl (qp rfl (qm rfl ?_))))
         refine AC (t := 75) rfl (fun c19 => ?_) (fun c19 => ?_)
         ·have h := An c19 h
          refine qm rfl (Dz AR rfl (BD rfl (qp rfl (qm rfl ?_))))
          refine AC (t := 80) rfl (fun c20 => ?_) (fun c20 => ?_)
          ·have h := An c20 h
           refine qm rfl (Cq rfl (qp rfl (qa rfl (Ad ?_))))
           exact Av _ h (sm [] _ _ rfl rfl)
          ·have h := Am c20 h
           refine qn rfl (qn rfl (qp rfl (qa rfl (Ad ?_))))
           exact Av _ h (sm [] _ _ rfl rfl)
         ·have h := Am c19 h
          refine qn rfl (qn rfl (qn rfl (qp rfl (qm rfl (qn rfl (qn rfl (qp rfl (qa rfl (Ad ?_)))))))))
          exact Av _ h (sm [] _ _ rfl rfl)
        ·have h := Am c18 h
         refine qn rfl (qn rfl (qn rfl (qp rfl (qm rfl (qn rfl (qn rfl (qn rfl (qp rfl (qm rfl (qn rfl (qn rfl (qp rfl (qa rfl (Ad ?_))))))))))))))
         exact Av _ h (sm [] _ _ rfl rfl)
       ·have h := Am c17 h
        refine qn rfl (qn rfl (qn rfl (qp rfl (qm rfl (qn rfl (qn rfl (qn rfl (qp rfl (qm rfl (qn rfl (qn rfl (qn rfl (qp rfl (qm rfl (qn rfl (qn rfl (qp rfl (qa rfl (Ad ?_)))))))))))))))))))
        exact Av _ h (sm [] _ _ rfl rfl)
      ·have h := Am c16 h
       refine qn rfl (qn rfl (qn rfl (qp rfl (qm rfl (qn rfl (qn rfl (qn rfl (qp rfl (qm rfl (qn rfl (qn rfl (qn rfl (qp rfl (qm rfl (qn rfl (qn rfl (qn rfl (qp rfl (qm rfl (qn rfl (qn rfl (qp rfl (qa rfl (Ad ?_))))))))))))))))))))))))
       exact Av _ h (sm [] _ _ rfl rfl)
     ·have h := Am c15 h
      refine qn rfl (qn rfl (qp rfl (qm rfl (qn rfl (qn rfl (qn rfl (qp rfl (qm rfl (qn rfl (qn rfl (qn rfl (qp rfl (qm rfl (qn rfl (qn rfl (qn rfl (qp rfl (qm rfl (qn rfl (qn rfl (qn rfl (qp rfl (qm rfl (qn rfl (qn rfl (qp rfl (qa rfl (Ad ?_))))))))))))))))))))))))))))
      exact Av _ h (sm [] _ _ rfl rfl)
    ·have h := Am c14 h
     refine qn rfl (qn rfl (qp rfl (qm rfl (qn rfl (qn rfl (qp rfl (qm rfl (qn rfl (qn rfl (qn rfl (qp rfl (qm rfl (qn rfl (qn rfl (qn rfl (qp rfl (qm rfl (qn rfl (qn rfl (qn rfl (qp rfl (qm rfl (qn rfl (qn rfl (qn rfl (qp rfl (qm rfl (qn rfl (qn rfl (qp rfl (qa rfl (Ad ?_))))))))))))))))))))))))))))))))
     exact Av _ h (sm [] _ _ rfl rfl)
   ·have h := Am c13 h
    refine qn rfl (qn rfl (qp rfl (qm rfl (qn rfl (qn rfl (qp rfl (qm rfl (qn rfl (qn rfl (qp rfl (qm rfl (qn rfl (qn rfl (qn rfl (qp rfl (qm rfl (qn rfl (qn rfl (qn rfl (qp rfl (qm rfl (qn rfl (qn rfl (qn rfl (qp rfl (qm rfl (qn rfl (qn rfl (qn rfl (qp rfl (qm rfl (qn rfl (qn rfl (qp rfl (qa rfl (Ad ?_))))))))))))))))))))))))))))))))))))
    exact Av _ h (sm [] _ _ rfl rfl)
  ·have h := Am c12 h
   refine qn rfl (qn rfl (qp rfl (qm rfl (qn rfl (qn rfl (qp rfl (qm rfl (qn rfl (qn rfl (qp rfl (qm rfl (qn rfl (qn rfl (qp rfl (qm rfl (qn rfl (qn rfl (qn rfl (qp rfl (qm rfl (qn rfl (qn rfl (qn rfl (qp rfl (qm rfl (qn rfl (qn rfl (qn rfl (qp rfl (qm rfl (qn rfl (qn rfl (qn rfl (qp rfl (qm rfl (qn rfl (qn rfl (qp rfl (qa rfl ?_)))))))))))))))))))))))))))))))))))))))
   refine Ad ?_
   exact Av _ h (sm [] _ _ rfl rfl)
 ·obtain rfl := sj h
  refine Al (sm [] [(0, bD v11)] [] rfl rfl) (Az ?_)
  exact ⟨⟨[_], ⟨.tmp _ _ rfl, tv⟩, rfl⟩, tv⟩
theorem GO (N : Nat) (p0 : List (List Bool)) (p1 : Int) (p2 : Int) (r : Bool) (h : CZ N p0 p1 p2 = some r) : AB Tryz.prog 99 [pD (.sl (p0.map (EP eB))), iD p1, iD p2] [] (bD r) := by
 unfold CZ at h
 refine Au (n := 24) (rs := [.tmp 6]) Tryz.func99 rfl rfl rfl (A5 rfl) (A5 rfl) rfl fun w0 S0 => ?_
 refine Ab (Aa Ac rfl (qa rfl (Ad (Ab (Ab (Aa Ac rfl (qm rfl (AV FU rfl (qm rfl (B6 rfl (Ad ?_)))))))))))
 refine Ap rfl (fun c1 => ?_) (fun c1 => ?_)
 ·have h := An c1 h
  refine Ab (Aa Ac rfl (qa rfl (Ad ?_)))
  obtain rfl := sj h
  refine Al (sm [] [(6, bD false)] [] rfl rfl) (Az ?_)
  exact ⟨⟨[_], ⟨.tmp _ _ rfl, tv⟩, rfl⟩, tv⟩
 ·have h := Am c1 h
  refine Aq (Ab (Ab (Aa Ac rfl (qa rfl (Ad ?_)))))
  refine AJ (L := B7 N p0 p1 p2) h (fun v2 => mk [(0, pD (.sl (p0.map (EP eB)))), (1, iD p1), (2, iD p2), (7, iD v2)] []) (fun v3 => mk [] []) (fun _ _ => rfl) (sm [] _ _ rfl rfl) (fun j2 n2 v2 h => ?_) (fun v3 s h hs => ?_)
  ·unfold B7 at h
   refine Ab (Ab (Aa Ac rfl (qm rfl (qm rfl (AZ rfl (Ad ?_))))))
   refine Ap rfl (fun c4 => ?_) (fun c4 => ?_)
   ·have h := An c4 h
    refine Aq (Ab (AP (Ab (Aa Ac rfl (qm rfl (qm rfl ?_))))))
    obtain ⟨v5, a5, b5, h⟩ := Ak h
    refine qi FU Jz a5 (Ah b5) rfl (qk Mt rfl (AV EI rfl (qm rfl (B6 rfl (Ad ?_)))))
    refine Ap rfl (fun c6 => ?_) (fun c6 => ?_)
    ·have h := An c6 h
     refine Ab (Aa Ac rfl (qa rfl (Ad ?_)))
     obtain rfl := sj h
     refine Al (sm [] [(6, bD false)] [] rfl rfl) (Az ?_)
     exact ⟨⟨[_], ⟨.tmp _ _ rfl, tv⟩, rfl⟩, tv⟩
    ·have h := Am c6 h
     refine Aq (Aa Ac rfl (qm rfl (AX rfl (qa rfl (Ad ?_)))))
     exact Av _ h (sm [] _ _ rfl rfl)
   ·have h := Am c4 h
    refine AY ?_
    exact Av _ h (sm [] _ _ rfl rfl)
  ·refine Al hs (Ab (Aa Ac rfl (qa rfl (Ad ?_))))
   obtain rfl := sj h
   refine Al (sm [] [(6, bD true)] [] rfl rfl) (Az ?_)
   exact ⟨⟨[_], ⟨.tmp _ _ rfl, tv⟩, rfl⟩, tv⟩
theorem Js (N : Nat) (p0 : Ag) (p1 : AO) (r : Int) (h : DF N p0 p1 = some r) : AB Tryz.prog 72 [.e (.agg [sC (p0.fVersions.map Ai), sC (p0.fNow.map Ai), sC (p0.fTarget.map Ai), sC (p0.fTables.map Ao)]), .e (.agg [iC p1.fKind, iC p1.fFrom, iC p1.fTo, .pure (.val (.bool p1.fAware)), sC (p1.fOK.map (EP eB)), sC (p1.fRewrite.map (EP eB))])] [] (iD r) := by
 unfold DF at h
 refine Au (n := 101) (rs := [.tmp 4]) Tryz.func72 rfl rfl rfl (A5 rfl) (A5 rfl) rfl fun w0 S0 => ?_
 refine Ab (Aa Ac rfl (qb rfl (qb rfl (qa rfl (Ad (Ab ?_))))))
 refine AQ h (fun v1 => mk [(2, oD (.ptr 2 0)), (3, oD (.ptr 3 0)), (22, bD v1)] [(2, .box [sC (p0.fVersions.map Ai), sC (p0.fNow.map Ai), sC (p0.fTarget.map Ai), sC (p0.fTables.map Ao)]), (3, .box [iC p1.fKind, iC p1.fFrom, iC p1.fTo, .pure (.val (.bool p1.fAware)), sC (p1.fOK.map (EP eB)), sC (p1.fRewrite.map (EP eB))])]) (fun j1 h => ?_) (fun v1 h => ?_)
 ·refine Aa Ac rfl (qf E3 rfl (ql Cc rfl (AZ rfl (qm rfl ?_))))
  refine AC (t := 10) rfl (fun c2 => ?_) (fun c2 => ?_)
  ·have h := An c2 h
   refine qn rfl (qn rfl (qn rfl (qp rfl (qm rfl (qn rfl (qn rfl (qn rfl (qu rfl (qu rfl (qn rfl (qp rfl (Ad ?_))))))))))))
   exact Av _ h (sm [] _ _ rfl rfl)
  ·have h := Am c2 h
   refine qf E3 rfl (ql Cc rfl (Ey rfl (qp rfl (qm rfl ?_))))
   refine AC (t := 15) rfl (fun c3 => ?_) (fun c3 => ?_)
   ·have h := An c3 h
    refine qn rfl (qn rfl (qn rfl (qu rfl (qu rfl (qn rfl (qp rfl (Ad ?_)))))))
    exact Av _ h (sm [] _ _ rfl rfl)
   ·have h := Am c3 h
    refine qf Ji rfl (ql SN rfl (qm rfl ?_))
    refine AC (t := 18) rfl (fun c4 => ?_) (fun c4 => ?_)
    ·have h := An c4 h
     refine qL GI DO rfl ?_
     obtain ⟨v5, a5, h⟩ := bind_some h
     refine AG [] (Ck N p1 v5 a5) Po rfl (qp rfl (qp rfl (Ad ?_)))
     exact Av _ h (sm [] _ _ rfl rfl)
    ·have h := Am c4 h
     refine qn rfl (qn rfl (qp rfl (qp rfl (Ad ?_))))
     exact Av _ h (sm [] _ _ rfl rfl)
 ·refine Ap rfl (fun c6 => ?_) (fun c6 => ?_)
  ·have h := An c6 h
   refine Ab (Aa Ac rfl (qa rfl (Ad ?_)))
   obtain rfl := sj h
   refine Al (sm [] [(4, iD 1)] [] rfl rfl) (Az ?_)
   exact ⟨⟨[_], ⟨.tmp _ _ rfl, tv⟩, rfl⟩, tv⟩
  ·have h := Am c6 h
   refine Aq (Ab (Aa Ac rfl (qf Bt rfl (ql Bg rfl (AV AH rfl (qa rfl (Ad (Ab ?_))))))))
   refine AQ h (fun v7 => mk [(2, oD (.ptr 2 0)), (3, oD (.ptr 3 0)), (45, bD v7)] [(2, .box [sC (p0.fVersions.map Ai), sC (p0.fNow.map Ai), sC (p0.fTarget.map Ai), sC (p0.fTables.map Ao)]), (3, .box [iC p1.fKind, iC p1.fFrom, iC p1.fTo, .pure (.val (.bool p1.fAware)), sC (p1.fOK.map (EP eB)), sC (p1.fRewrite.map (EP eB))])]) (fun j7 h => ?_) (fun v7 h => ?_)
   ·refine Aa Ac rfl (qf C2 rfl (ql Cc rfl (AZ rfl (qm rfl ?_))))
    refine AC (t := 29) rfl (fun c8 => ?_) (fun c8 => ?_)
    ·have h := An c8 h
     refine qn rfl (qn rfl (qn rfl (qn rfl (qp rfl (qm rfl (qn rfl (qn rfl (qn rfl (qp rfl (qm rfl (qn rfl (qn rfl (qn rfl (qn rfl (qp rfl (Ad ?_))))))))))))))))
     exact Av _ h (sm [] _ _ rfl rfl)
    ·have h := Am c8 h
     refine qf C2 rfl (ql Cc rfl (qm rfl (CW rfl (qp rfl (qm rfl ?_)))))
     refine AC (t := 35) rfl (fun c9 => ?_) (fun c9 => ?_)
     ·have h := An c9 h
      refine qn rfl (qn rfl (qn rfl (qp rfl (qm rfl (qn rfl (qn rfl (qn rfl (qn rfl (qp rfl (Ad ?_))))))))))
      exact Av _ h (sm [] _ _ rfl rfl)
     ·have h := Am c9 h
      refine qf Ip rfl (ql Cc rfl (AZ rfl (qp rfl (qm rfl ?_))))
      refine AC (t := 40) rfl (fun c10 => ?_) (fun c10 => ?_)
      ·have h := An c10 h
       refine qn rfl (qn rfl (qn rfl (qn rfl (qp rfl (Ad ?_)))))
       exact Av _ h (sm [] _ _ rfl rfl)
      ·have h := Am c10 h
       refine qf Ip rfl (ql Cc rfl (qm rfl (CW rfl (qp rfl (Ad ?_)))))
       exact Av _ h (sm [] _ _ rfl rfl)
   ·refine Ap rfl (fun c11 => ?_) (fun c11 => ?_)
    ·have h := An c11 h
     refine Ab (Aa Ac rfl (qa rfl (Ad ?_)))
     obtain rfl := sj h
     refine Al (sm [] [(4, iD 4)] [] rfl rfl) (Az ?_)
     exact ⟨⟨[_], ⟨.tmp _ _ rfl, tv⟩, rfl⟩, tv⟩
    ·have h := Am c11 h
     refine Aq (Ab (Ab (Aa Ac rfl (qf J1 rfl (ql JI rfl (qf Bt rfl (ql Bg rfl (qf C2 rfl (ql Cc rfl ?_)))))))))
     obtain ⟨v12, a12, b12, h⟩ := Ak h
     refine qi AH Df a12 (Ah b12) rfl (qk Cc rfl (qf Bt rfl (ql Bg rfl (qf Ip rfl (ql Cc rfl ?_)))))
     obtain ⟨v13, a13, b13, h⟩ := Ak h
     refine qi AH Df a13 (Ah b13) rfl (qk Cc rfl ?_)
     obtain ⟨v14, a14, h⟩ := bind_some h
     refine AG [] (GO N p1.fOK v12 v13 v14 a14) VN rfl (Cq rfl (AM (by kernel_rfl) ?_))
     refine Ap rfl (fun c15 => ?_) (fun c15 => ?_)
     ·have h := An c15 h
      refine Ab (Aa Ac rfl (qa rfl (Ad ?_)))
      obtain rfl := sj h
      refine Al (sm [] [(4, iD 6)] [] rfl rfl) (Az ?_)
      exact ⟨⟨[_], ⟨.tmp _ _ rfl, tv⟩, rfl⟩, tv⟩
     ·have h := Am c15 h
      refine Aq (Ab (Ab (Aa Ac rfl (qf E3 rfl (ql Cc rfl (B6 rfl (Ad ?_)))))))
      refine Ap rfl (fun c16 => ?_) (fun c16 => ?_)
      ·have h := An c16 h
       refine Ab (Ab (Aa Ac rfl (qf FK rfl (ql JI rfl (AV FU rfl (B6 rfl (Ad ?_)))))))
       refine Ap rfl (fun c17 => ?_) (fun c17 => ?_)
       ·have h := An c17 h
        refine Ab (Aa Ac rfl (qa rfl (Ad ?_)))
        obtain rfl := sj h
        refine Al (sm [] [(4, iD 6)] [] rfl rfl) (Az ?_)
        exact ⟨⟨[_], ⟨.tmp _ _ rfl, tv⟩, rfl⟩, tv⟩
       ·have h := Am c17 h
        refine Aq (Ab (Aa Ac rfl (qa rfl (Ad ?_))))
        obtain rfl := sj h
        refine Al (sm [] [(4, iD 0)] [] rfl rfl) (Az ?_)
        exact ⟨⟨[_], ⟨.tmp _ _ rfl, tv⟩, rfl⟩, tv⟩
      ·have h := Am c16 h
       refine Aq (Ab (Ab (Aa Ac rfl (qf FK rfl (ql JI rfl (qf Bt rfl (ql Bg rfl (qf C2 rfl (ql Cc rfl ?_)))))))))
       obtain ⟨v18, a18, b18, h⟩ := Ak h
       refine qi AH Df a18 (Ah b18) rfl (qk Cc rfl (qf Bt rfl (ql Bg rfl (qf C2 rfl (ql Cc rfl ?_)))))
       obtain ⟨v19, a19, b19, h⟩ := Ak h
       refine qi AH Df a19 (Ah b19) rfl (qk Cc rfl ?_)
       obtain ⟨v20, a20, h⟩ := bind_some h
       refine AG [] (GO N p1.fRewrite v18 v19 v20 a20) VN rfl (Cq rfl (AM (by kernel_rfl) ?_))
       refine Ap rfl (fun c21 => ?_) (fun c21 => ?_)
       ·have h := An c21 h
        refine Ab (Aa Ac rfl (qa rfl (Ad ?_)))
        obtain rfl := sj h
        refine Al (sm [] [(4, iD 6)] [] rfl rfl) (Az ?_)
        exact ⟨⟨[_], ⟨.tmp _ _ rfl, tv⟩, rfl⟩, tv⟩
       ·have h := Am c21 h
        refine Aq (Ab (Ab (Aa Ac rfl (qa rfl (Ad ?_)))))
        refine AJ (L := BK N p1) h (fun v22 => mk [(3, oD (.ptr 3 0)), (6, iD v22)] [(3, .box [iC p1.fKind, iC p1.fFrom, iC p1.fTo, .pure (.val (.bool p1.fAware)), sC (p1.fOK.map (EP eB)), sC (p1.fRewrite.map (EP eB))])]) (fun v23 => mk [] []) (fun _ _ => rfl) (sm [] _ _ rfl rfl) (fun j22 n22 v22 h => ?_) (fun v23 s h hs => ?_)
        ·unfold BK at h
         refine Ab (Ab (Aa Ac rfl (qm rfl (qf FK rfl (ql JI rfl (AV FU rfl (AZ rfl (Ad ?_))))))))
         refine Ap rfl (fun c24 => ?_) (fun c24 => ?_)
         ·have h := An c24 h
          refine Aq (Ab (AP (Ab (Aa Ac rfl (qf FK rfl (ql JI rfl (qm rfl ?_)))))))
          obtain ⟨v25, a25, b25, h⟩ := Ak h
          refine qi FU Jz a25 (Ah b25) rfl (qk Mt rfl (qm rfl ?_))
          obtain ⟨v26, a26, b26, h⟩ := Ak h
          refine qi EI PX a26 (Ah b26) rfl (qk SN rfl (Cq rfl (Ad ?_)))
          refine Ap rfl (fun c27 => ?_) (fun c27 => ?_)
          ·have h := An c27 h
           refine Ab (Aa Ac rfl (qa rfl (Ad ?_)))
           obtain rfl := sj h
           refine Al (sm [] [(4, iD 1)] [] rfl rfl) (Az ?_)
           exact ⟨⟨[_], ⟨.tmp _ _ rfl, tv⟩, rfl⟩, tv⟩
          ·have h := Am c27 h
           refine Aq (Aa Ac rfl (qm rfl (AX rfl (qa rfl (Ad ?_)))))
           exact Av _ h (sm [] _ _ rfl rfl)
         ·have h := Am c24 h
          refine AY ?_
          exact Av _ h (sm [] _ _ rfl rfl)
        ·refine Al hs (Ab (Aa Ac rfl (qa rfl (Ad ?_))))
         obtain rfl := sj h
         refine Al (sm [] [(4, iD 0)] [] rfl rfl) (Az ?_)
         exact ⟨⟨[_], ⟨.tmp _ _ rfl, tv⟩, rfl⟩, tv⟩
theorem Fc (N : Nat) (p0 : Ag) (r : Int) (h : B8 N p0 = some r) : AB Tryz.prog 50 [.e (.agg [sC (p0.fVersions.map Ai), sC (p0.fNow.map Ai), sC (p0.fTarget.map Ai), sC (p0.fTables.map Ao)])] [] (iD r) := by
 unfold B8 at h
 refine Au (n := 102) (rs := [.tmp 2]) Tryz.func50 rfl rfl rfl (A5 rfl) (A5 rfl) rfl fun w0 S0 => ?_
 refine Ab (Aa Ac rfl (qb rfl (qa rfl (Ad (Ab ?_)))))
 refine AQ h (fun v1 => mk [(1, oD (.ptr 1 0)), (16, bD v1)] [(1, .box [sC (p0.fVersions.map Ai), sC (p0.fNow.map Ai), sC (p0.fTarget.map Ai), sC (p0.fTables.map Ao)])]) (fun j1 h => ?_) (fun v1 h => ?_)
 ·refine Aa Ac rfl (qf Bt rfl (ql Bg rfl (AV AH rfl (Ey rfl (qm rfl ?_)))))
  refine AC (t := 11) rfl (fun c2 => ?_) (fun c2 => ?_)
  ·have h := An c2 h
   refine qn rfl (qn rfl (qn rfl (qn rfl (qp rfl (Ad ?_)))))
   exact Av _ h (sm [] _ _ rfl rfl)
  ·have h := Am c2 h
   refine qf CA rfl (ql Gu rfl (AV DN rfl (Ey rfl (qp rfl (Ad ?_)))))
   exact Av _ h (sm [] _ _ rfl rfl)
 ·refine Ap rfl (fun c3 => ?_) (fun c3 => ?_)
  ·have h := An c3 h
   refine Ab (Aa Ac rfl (qa rfl (Ad ?_)))
   obtain rfl := sj h
   refine Al (sm [] [(2, iD 3)] [] rfl rfl) (Az ?_)
   exact ⟨⟨[_], ⟨.tmp _ _ rfl, tv⟩, rfl⟩, tv⟩
  ·have h := Am c3 h
   refine Aq (Ab ?_)
   refine AQ h (fun v4 => mk [(1, oD (.ptr 1 0)), (32, bD v4)] [(1, .box [sC (p0.fVersions.map Ai), sC (p0.fNow.map Ai), sC (p0.fTarget.map Ai), sC (p0.fTables.map Ao)])]) (fun j4 h => ?_) (fun v4 h => ?_)
   ·refine Aa Ac rfl (qf FJ rfl (ql Bg rfl (AV AH rfl (qf Bt rfl (ql Bg rfl (AV AH rfl (B6 rfl (qm rfl ?_))))))))
    refine AC (t := 24) rfl (fun c5 => ?_) (fun c5 => ?_)
    ·have h := An c5 h
     refine qn rfl (qn rfl (qn rfl (qn rfl (qn rfl (qn rfl (qn rfl (qp rfl (Ad ?_))))))))
     exact Av _ h (sm [] _ _ rfl rfl)
    ·have h := Am c5 h
     refine qf Is rfl (ql Bg rfl (AV AH rfl (qf Bt rfl (ql Bg rfl (AV AH rfl (B6 rfl (qp rfl (Ad ?_))))))))
     exact Av _ h (sm [] _ _ rfl rfl)
   ·refine Ap rfl (fun c6 => ?_) (fun c6 => ?_)
    ·have h := An c6 h
     refine Ab (Aa Ac rfl (qa rfl (Ad ?_)))
     obtain rfl := sj h
     refine Al (sm [] [(2, iD 6)] [] rfl rfl) (Az ?_)
     exact ⟨⟨[_], ⟨.tmp _ _ rfl, tv⟩, rfl⟩, tv⟩
    ·have h := Am c6 h
     refine Aq (Ab (Ab (Aa Ac rfl (qa rfl (Ad ?_)))))
     refine AJ (L := Be N p0) h (fun v7 => mk [(1, oD (.ptr 1 0)), (3, iD v7)] [(1, .box [sC (p0.fVersions.map Ai), sC (p0.fNow.map Ai), sC (p0.fTarget.map Ai), sC (p0.fTables.map Ao)])]) (fun v8 => mk [(1, oD (.ptr 1 0))] [(1, .box [sC (p0.fVersions.map Ai), sC (p0.fNow.map Ai), sC (p0.fTarget.map Ai), sC (p0.fTables.map Ao)])]) (fun _ _ => rfl) (sm [] _ _ rfl rfl) (fun j7 n7 v7 h => ?_) (fun v8 s h hs => ?_)
     ·unfold Be at h
      refine Ab (Ab (Aa Ac rfl (qm rfl (qf Bt rfl (ql Bg rfl (AV AH rfl (AZ rfl (Ad ?_))))))))
      refine Ap rfl (fun c9 => ?_) (fun c9 => ?_)
      ·have h := An c9 h
       refine Aq (Ab (AP (Ab (Aa Ac rfl (qf Bt rfl (ql Bg rfl (qm rfl ?_)))))))
       obtain ⟨v10, a10, b10, h⟩ := Ak h
       refine qi AH Df a10 (Ah b10) rfl (qk Cc rfl (qa rfl (Ad ?_)))
       refine AQ h (fun v11 => mk [(1, oD (.ptr 1 0)), (3, iD v7), (84, bD v11)] [(1, .box [sC (p0.fVersions.map Ai), sC (p0.fNow.map Ai), sC (p0.fTarget.map Ai), sC (p0.fTables.map Ao)])]) (fun j11 h => ?_) (fun v11 h => ?_)
       ·refine Aa Ac rfl (qm rfl (AZ rfl (qm rfl ?_)))
        refine AC (t := 47) rfl (fun c12 => ?_) (fun c12 => ?_)
        ·have h := An c12 h
         refine qn rfl (qn rfl (qp rfl (qm rfl (qn rfl (qn rfl (qn rfl (qn rfl (qn rfl (qn rfl (qp rfl (qm rfl (qn rfl (qn rfl (qn rfl (qn rfl (qn rfl (qn rfl (qn rfl (qp rfl (qm rfl (qn rfl (qn rfl (qn rfl (qn rfl (qn rfl (qn rfl (qp rfl (qm rfl (qn rfl (qn rfl (qn rfl (qn rfl (qn rfl (qn rfl (qn rfl (qp rfl (Ad ?_)))))))))))))))))))))))))))))))))))))
         exact Av _ h (sm [] _ _ rfl rfl)
        ·have h := Am c12 h
         refine qm rfl (Ey rfl (qp rfl (qm rfl ?_)))
         refine AC (t := 51) rfl (fun c13 => ?_) (fun c13 => ?_)
         ·have h := An c13 h
          refine qn rfl (qn rfl (qn rfl (qn rfl (qn rfl (qn rfl (qp rfl (qm rfl (qn rfl (qn rfl (qn rfl (qn rfl (qn rfl (qn rfl (qn rfl (qp rfl (qm rfl (qn rfl (qn rfl (qn rfl (qn rfl (qn rfl (qn rfl (qp rfl (qm rfl (qn rfl (qn rfl (qn rfl (qn rfl (qn rfl (qn rfl (qn rfl (qp rfl (Ad ?_)))))))))))))))))))))))))))))))))
          exact Av _ h (sm [] _ _ rfl rfl)
         ·have h := Am c13 h
          refine qf FJ rfl (ql Bg rfl (qm rfl ?_))
          obtain ⟨v14, a14, b14, h⟩ := Ak h
          refine qi AH Df a14 (Ah b14) rfl (qk Cc rfl (AZ rfl (qp rfl (qm rfl ?_))))
          refine AC (t := 59) rfl (fun c15 => ?_) (fun c15 => ?_)
          ·have h := An c15 h
           refine qn rfl (qn rfl (qn rfl (qn rfl (qn rfl (qn rfl (qn rfl (qp rfl (qm rfl (qn rfl (qn rfl (qn rfl (qn rfl (qn rfl (qn rfl (qp rfl (qm rfl (qn rfl (qn rfl (qn rfl (qn rfl (qn rfl (qn rfl (qn rfl (qp rfl (Ad ?_)))))))))))))))))))))))))
           exact Av _ h (sm [] _ _ rfl rfl)
          ·have h := Am c15 h
           refine qf FJ rfl (ql Bg rfl (qm rfl ?_))
           obtain ⟨v16, a16, b16, h⟩ := Ak h
           refine qi AH Df a16 (Ah b16) rfl (qk Cc rfl (qm rfl (CW rfl (qp rfl (qm rfl ?_)))))
           refine AC (t := 68) rfl (fun c17 => ?_) (fun c17 => ?_)
           ·have h := An c17 h
            refine qn rfl (qn rfl (qn rfl (qn rfl (qn rfl (qn rfl (qp rfl (qm rfl (qn rfl (qn rfl (qn rfl (qn rfl (qn rfl (qn rfl (qn rfl (qp rfl (Ad ?_))))))))))))))))
            exact Av _ h (sm [] _ _ rfl rfl)
           ·have h := Am c17 h
            refine qf Is rfl (ql Bg rfl (qm rfl ?_))
            obtain ⟨v18, a18, b18, h⟩ := Ak h
            refine qi AH Df a18 (Ah b18) rfl (qk Cc rfl (AZ rfl (qp rfl (qm rfl ?_))))
            refine AC (t := 76) rfl (fun c19 => ?_) (fun c19 => ?_)
            ·have h := An c19 h
             refine qn rfl (qn rfl (qn rfl (qn rfl (qn rfl (qn rfl (qn rfl (qp rfl (Ad ?_))))))))
             exact Av _ h (sm [] _ _ rfl rfl)
            ·have h := Am c19 h
             refine qf Is rfl (ql Bg rfl (qm rfl ?_))
             obtain ⟨v20, a20, b20, h⟩ := Ak h
             refine qi AH Df a20 (Ah b20) rfl (qk Cc rfl (qm rfl (CW rfl (qp rfl (Ad ?_)))))
             exact Av _ h (sm [] _ _ rfl rfl)
       ·refine Ap rfl (fun c21 => ?_) (fun c21 => ?_)
        ·have h := An c21 h
         refine Ab (Aa Ac rfl (qa rfl (Ad ?_)))
         obtain rfl := sj h
         refine Al (sm [] [(2, iD 7)] [] rfl rfl) (Az ?_)
         exact ⟨⟨[_], ⟨.tmp _ _ rfl, tv⟩, rfl⟩, tv⟩
        ·have h := Am c21 h
         refine Aq (Aa Ac rfl (qm rfl (AX rfl (qa rfl (Ad ?_)))))
         exact Av _ h (sm [] _ _ rfl rfl)
      ·have h := Am c9 h
       refine AY ?_
       exact Av _ h (sm [] _ _ rfl rfl)
     ·refine Al hs (Ab (Ab (Aa Ac rfl (qa rfl (Ad ?_)))))
      refine AJ (L := Bc N p0) h (fun v22 => mk [(1, oD (.ptr 1 0)), (5, iD v22)] [(1, .box [sC (p0.fVersions.map Ai), sC (p0.fNow.map Ai), sC (p0.fTarget.map Ai), sC (p0.fTables.map Ao)])]) (fun v23 => mk [] []) (fun _ _ => rfl) (sm [] _ _ rfl rfl) (fun j22 n22 v22 h => ?_) (fun v23 s h hs => ?_)
      ·unfold Bc at h
       refine Ab (Ab (Aa Ac rfl (qm rfl (qf CA rfl (ql Gu rfl (AV DN rfl (AZ rfl (Ad ?_))))))))
       refine Ap rfl (fun c24 => ?_) (fun c24 => ?_)
       ·have h := An c24 h
        refine Aq (Ab (AP (Ab (Aa Ac rfl (qL DP Dr rfl (qf CA rfl (ql Gu rfl (qm rfl ?_))))))))
        obtain ⟨v25, a25, b25, h⟩ := Ak h
        refine qi DN DO a25 (Ah b25) rfl (qK GI DO rfl ?_)
        obtain ⟨v26, a26, h⟩ := bind_some h
        refine AG [] (Js N p0 v25 v26 a26) Xx rfl (qa rfl (AM (by kernel_rfl) (Ab (Aa Ac rfl (qm rfl (B6 rfl (Ad ?_)))))))
        refine Ap rfl (fun c27 => ?_) (fun c27 => ?_)
        ·have h := An c27 h
         refine Ab (Aa Ac rfl (qm rfl (qa rfl (Ad ?_))))
         obtain rfl := sj h
         refine Al (sm [] [(2, iD v26)] [] rfl rfl) (Az ?_)
         exact ⟨⟨[_], ⟨.tmp _ _ rfl, tv⟩, rfl⟩, tv⟩
        ·have h := Am c27 h
         refine Aq (Aa Ac rfl (qm rfl (AX rfl (qa rfl (Ad ?_)))))
         exact Av _ h (sm [] _ _ rfl rfl)
       ·have h := Am c24 h
        refine AY ?_
        exact Av _ h (sm [] _ _ rfl rfl)
      ·refine Al hs (Ab (Aa Ac rfl (qa rfl (Ad ?_))))
       obtain rfl := sj h
       refine Al (sm [] [(2, iD 0)] [] rfl rfl) (Az ?_)
       exact ⟨⟨[_], ⟨.tmp _ _ rfl, tv⟩, rfl⟩, tv⟩
theorem Jn (N : Nat) (p0 : Ag) (r : Ae × Int) (h : DJ N p0 = some r) : AB Tryz.prog 24 [.e (.agg [sC (p0.fVersions.map Ai), sC (p0.fNow.map Ai), sC (p0.fTarget.map Ai), sC (p0.fTables.map Ao)])] [(1, r.1.fBase.map Ai), (1, r.1.fNext.map Ai), (1, r.1.fHeld.map A9)] (.tup [.agg [.own 0, .own 1, .own 2], .one (iC r.2)]) := by
 unfold DJ at h
 refine Au (n := 68) (rs := [.cell 2 50, .tmp 3]) Tryz.func24 rfl rfl rfl (A5 rfl) (A5 rfl) rfl fun w0 S0 => ?_
 refine Ab (Aa Ac rfl (qb rfl (qz Cv rfl (qa rfl (Ad (Ab (Ab (Aa Ac rfl (qL DP Dr rfl ?_)))))))))
 obtain ⟨v1, a1, h⟩ := bind_some h
 refine AG [] (Fc N p0 v1 a1) Ws rfl (qa rfl (Ad (Ab (Aa Ac rfl (qm rfl (B6 rfl (Ad ?_)))))))
 refine Ap rfl (fun c2 => ?_) (fun c2 => ?_)
 ·have h := An c2 h
  refine Ab (Aa Ac rfl (Bz Cv GR rfl (qm rfl (qs Ax rfl (qa rfl (Ad ?_))))))
  obtain rfl := sj h
  refine Al ((AA 2 0 2001 1 _ rfl rfl rfl rfl).trans ((AA 2 1 2002 1 _ rfl rfl rfl rfl).trans ((AA 2 2 2003 1 _ rfl rfl rfl rfl).trans (sm [(1000, 2001), (1001, 2002), (1002, 2003)] [(2, oD (.ptr 2 0)), (3, iD v1)] [(2, .box [.own 1000, .own 1001, .own 1002]), (1000, .vec 1 ((([] : List Int)).map Ai)), (1001, .vec 1 ((([] : List Int)).map Ai)), (1002, .vec 1 ((([] : List Int)).map A9))] rfl rfl)))) (Az ?_)
  exact ⟨⟨[_, _], ⟨.cellN _ _ _ _ _ _ _ rfl rfl A0 Ax rfl rfl (HR rfl), ⟨.tmp _ _ rfl, tv⟩⟩, rfl⟩, ⟨rfl, rfl, rfl, tv⟩⟩
 ·have h := Am c2 h
  refine Aq (Ab (Aa Ac rfl (qz Cv rfl (Ad (Ab (Ab (Aa Ac rfl (qa rfl (Ad ?_)))))))))
  refine AJ (L := BS N p0) h (fun v3 => mk [(1, oD (.ptr 1 0)), (2, oD (.ptr 2 0)), (5, oD (.ptr 5 0)), (6, iD v3.2.2)] [(1, .box [sC (p0.fVersions.map Ai), sC (p0.fNow.map Ai), sC (p0.fTarget.map Ai), sC (p0.fTables.map Ao)]), (2, .box [.pure (.nil0), .pure (.nil0), .pure (.nil0)]), (5, .box [.own 2004, .own 2005, .pure (.nil0)]), (2004, .vec 1 (v3.1.map Ai)), (2005, .vec 1 (v3.2.1.map Ai))]) (fun v4 => mk [(1, oD (.ptr 1 0)), (2, oD (.ptr 2 0)), (5, oD (.ptr 5 0))] [(1, .box [sC (p0.fVersions.map Ai), sC (p0.fNow.map Ai), sC (p0.fTarget.map Ai), sC (p0.fTables.map Ao)]), (2, .box [.pure (.nil0), .pure (.nil0), .pure (.nil0)]), (5, .box [.own 2006, .own 2007, .pure (.nil0)]), (2006, .vec 1 (v4.1.map Ai)), (2007, .vec 1 (v4.2.map Ai))]) (fun _ _ => rfl) ((AA 5 0 2008 1 _ rfl rfl rfl rfl).trans ((AA 5 1 2009 1 _ rfl rfl rfl rfl).trans (sm [(2004, 2008), (2005, 2009)] _ _ rfl rfl))) (fun j3 n3 v3 h => ?_) (fun v4 s h hs => ?_)
  ·unfold BS at h
   refine Ab (Ab (Aa Ac rfl (qm rfl (qf Bt rfl (ql Bg rfl (AV AH rfl (AZ rfl (Ad ?_))))))))
   refine Ap rfl (fun c5 => ?_) (fun c5 => ?_)
   ·have h := An c5 h
    refine Aq (Ab (AP (Ab (Aa Ac rfl (qf Cz rfl (ql Bg rfl (qf FJ rfl (ql Bg rfl (qm rfl ?_)))))))))
    obtain ⟨v6, a6, b6, h⟩ := Ak h
    refine qi AH Df a6 (Ah b6) rfl (qk Cc rfl (DT AH Df KT rfl ?_))
    obtain ⟨c7, h⟩ := AL h
    refine CQ (f := Ai) AH AH Df LB KT c7 rfl (qf Cz rfl (qs Rj rfl (AM (by kernel_rfl) (Aa Ac rfl (qf BG rfl (ql Bg rfl (DT AH Df KT rfl ?_)))))))
    obtain ⟨c8, h⟩ := AL h
    refine CQ (f := Ai) AH AH Df LB KT c8 rfl (qf BG rfl (qs Rj rfl (Ad (Aa Ac rfl (qm rfl (AX rfl (qa rfl (Ad ?_))))))))
    exact Av _ h (sm [(2004, 30), (2005, 35)] _ _ rfl rfl)
   ·have h := Am c5 h
    refine AY ?_
    exact Av _ h (sm [(2006, 2004), (2007, 2005)] _ _ rfl rfl)
  ·refine Al hs (Ab (Ab (Aa Ac rfl (qa rfl (Ad ?_)))))
   refine AJ (L := Bh N p0) h (fun v9 => mk [(1, oD (.ptr 1 0)), (2, oD (.ptr 2 0)), (5, oD (.ptr 5 0)), (7, iD v9.2)] [(1, .box [sC (p0.fVersions.map Ai), sC (p0.fNow.map Ai), sC (p0.fTarget.map Ai), sC (p0.fTables.map Ao)]), (2, .box [.pure (.nil0), .pure (.nil0), .pure (.nil0)]), (5, .box [.own 2010, .own 2011, .own 2012]), (2010, .vec 1 (v4.1.map Ai)), (2011, .vec 1 (v4.2.map Ai)), (2012, .vec 1 (v9.1.map A9))]) (fun v10 => mk [(2, oD (.ptr 2 0)), (5, oD (.ptr 5 0))] [(2, .box [.pure (.nil0), .pure (.nil0), .pure (.nil0)]), (5, .box [.own 2013, .own 2014, .own 2015]), (2013, .vec 1 (v4.1.map Ai)), (2014, .vec 1 (v4.2.map Ai)), (2015, .vec 1 (v10.map A9))]) (fun _ _ => rfl) ((AA 5 2 2019 1 _ rfl rfl rfl rfl).trans (sm [(2010, 2006), (2011, 2007), (2012, 2019)] _ _ rfl rfl)) (fun j9 n9 v9 h => ?_) (fun v10 s h hs => ?_)
   ·unfold Bh at h
    refine Ab (Ab (Aa Ac rfl (qm rfl (qf CA rfl (ql Gu rfl (AV DN rfl (AZ rfl (Ad ?_))))))))
    refine Ap rfl (fun c11 => ?_) (fun c11 => ?_)
    ·have h := An c11 h
     refine Aq (Ab (AP (Ab (Aa Ac rfl (qa rfl (Ad ?_))))))
     refine AQ h (fun v12 => mk [(1, oD (.ptr 1 0)), (2, oD (.ptr 2 0)), (5, oD (.ptr 5 0)), (7, iD v9.2), (8, pD (.val (.int .u8 v12)))] [(1, .box [sC (p0.fVersions.map Ai), sC (p0.fNow.map Ai), sC (p0.fTarget.map Ai), sC (p0.fTables.map Ao)]), (2, .box [.pure (.nil0), .pure (.nil0), .pure (.nil0)]), (5, .box [.own 2016, .own 2017, .own 2018]), (2016, .vec 1 (v4.1.map Ai)), (2017, .vec 1 (v4.2.map Ai)), (2018, .vec 1 (v9.1.map A9))]) (fun j12 h => ?_) (fun v12 h => ?_)
     ·refine Ab (Aa Ac rfl (qf CA rfl (ql Gu rfl (qm rfl ?_))))
      obtain ⟨v13, a13, b13, h⟩ := Ak h
      refine qi DN DO a13 (Ah b13) rfl (qK GI DO rfl ?_)
      obtain ⟨v14, a14, h⟩ := bind_some h
      refine AG [] (Ck N v13 v14 a14) Po rfl (Ad ?_)
      refine Ap rfl (fun c15 => ?_) (fun c15 => ?_)
      ·have h := An c15 h
       refine Aa Ac rfl (qf FJ rfl (ql Bg rfl (qf CA rfl (ql Gu rfl (qm rfl ?_)))))
       obtain ⟨v16, a16, b16, h⟩ := Ak h
       refine qi DN DO a16 (Ah b16) rfl (qg C2 rfl (qk Cc rfl ?_))
       obtain ⟨v17, a17, b17, h⟩ := Ak h
       refine qi AH Df a17 (Ah b17) rfl (qk Cc rfl ?_)
       obtain ⟨c18, h⟩ := AL h
       refine G6 rfl c18 (qa rfl (AM (by kernel_rfl) ?_))
       exact Av _ h (sm [(2016, 2010), (2017, 2011), (2018, 2012)] _ _ rfl rfl)
      ·have h := Am c15 h
       refine Aq ?_
       exact Av _ h (sm [(2016, 2010), (2017, 2011), (2018, 2012)] _ _ rfl rfl)
     ·refine Aa Ac rfl (qf Cs rfl (ql Ga rfl (qm rfl (DT C3 Fa PJ rfl ?_))))
      obtain ⟨c19, h⟩ := AL h
      refine CQ (f := A9) C3 C3 Fa Qf PJ c19 rfl (qf Cs rfl (qs WY rfl (Ad (Aa Ac rfl (qm rfl (AX rfl (qa rfl (Ad ?_))))))))
      exact Av _ h (sm [(2010, 2016), (2011, 2017), (2012, 65)] _ _ rfl rfl)
    ·have h := Am c11 h
     refine AY ?_
     exact Av _ h (sm [(2013, 2010), (2014, 2011), (2015, 2012)] _ _ rfl rfl)
   ·refine Al hs (Ab (Aa Ac rfl (qL A0 Ax rfl (qs Ax rfl (qa rfl (Ad ?_))))))
    obtain rfl := sj h
    refine Al (sm [(1000, 2013), (1001, 2014), (1002, 2015)] [(2, oD (.ptr 2 0)), (3, iD 0)] [(2, .box [.own 1000, .own 1001, .own 1002]), (1000, .vec 1 (v4.1.map Ai)), (1001, .vec 1 (v4.2.map Ai)), (1002, .vec 1 (v10.map A9))] rfl rfl) (Az ?_)
    exact ⟨⟨[_, _], ⟨.cellN _ _ _ _ _ _ _ rfl rfl A0 Ax rfl rfl (HR rfl), ⟨.tmp _ _ rfl, tv⟩⟩, rfl⟩, ⟨rfl, rfl, rfl, tv⟩⟩
theorem EW (N : Nat) (p0 : Ae) (p1 : Int) (r : Int) (h : Cn N p0 p1 = some r) : AB Tryz.prog 52 [.e (.agg [sC (p0.fBase.map Ai), sC (p0.fNext.map Ai), sC (p0.fHeld.map A9)]), iD p1] [] (pD (.val (.int .u8 r))) := by
 unfold Cn at h
 refine Au (n := 27) (rs := [.tmp 4]) Tryz.func52 rfl rfl rfl (A5 rfl) (A5 rfl) rfl fun w0 S0 => ?_
 refine Ab (Aa Ac rfl (qb rfl (qa rfl (Ad (Ab (Aa Ac rfl (qf Cz rfl (ql Bg rfl (qm rfl ?_)))))))))
 obtain ⟨v1, a1, b1, h⟩ := Ak h
 refine qi AH Df a1 (Ah b1) rfl (qk Cc rfl ?_)
 obtain ⟨c2, h⟩ := AL h
 refine G6 rfl c2 (qa rfl (Ad ?_))
 refine AQ h (fun v3 => mk [(5, pD (.val (.int .u8 v3)))] []) (fun j3 h => ?_) (fun v3 h => ?_)
 ·refine Ab (Aa Ac rfl (qf BG rfl (ql Bg rfl (qm rfl ?_))))
  obtain ⟨v4, a4, b4, h⟩ := Ak h
  refine qi AH Df a4 (Ah b4) rfl (qk Cc rfl (CW rfl (Ad ?_)))
  refine Ap rfl (fun c5 => ?_) (fun c5 => ?_)
  ·have h := An c5 h
   refine Aa Ac rfl (qm rfl (qf BG rfl (ql Bg rfl (qm rfl ?_))))
   obtain ⟨v6, a6, b6, h⟩ := Ak h
   refine qi AH Df a6 (Ah b6) rfl (qk Cc rfl ?_)
   obtain ⟨c7, h⟩ := AL h
   refine G6 rfl c7 (Ss rfl (qa rfl (Ad ?_)))
   exact Av _ h (sm [] _ _ rfl rfl)
  ·have h := Am c5 h
   refine Aq ?_
   exact Av _ h (sm [] _ _ rfl rfl)
 ·refine Ab (Aa Ac rfl (qm rfl (qa rfl (Ad ?_))))
  obtain rfl := sj h
  refine Al (sm [] [(4, pD (.val (.int .u8 v3)))] [] rfl rfl) (Az ?_)
  exact ⟨⟨[_], ⟨.tmp _ _ rfl, tv⟩, rfl⟩, tv⟩
theorem Jo (N : Nat) (p0 : Ag) (p1 : Ae) (r : Int) (h : DM N p0 p1 = some r) : AB Tryz.prog 65 [.e (.agg [sC (p0.fVersions.map Ai), sC (p0.fNow.map Ai), sC (p0.fTarget.map Ai), sC (p0.fTables.map Ao)]), .e (.agg [sC (p1.fBase.map Ai), sC (p1.fNext.map Ai), sC (p1.fHeld.map A9)])] [] (iD r) := by
 unfold DM at h
 refine Au (n := 154) (rs := [.tmp 4]) Tryz.func65 rfl rfl rfl (A5 rfl) (A5 rfl) rfl fun w0 S0 => ?_
 refine Ab (Aa Ac rfl (qb rfl (qb rfl (qa rfl (Ad (Ab (Ab (Aa Ac rfl (qL DP Dr rfl ?_)))))))))
 obtain ⟨v1, a1, h⟩ := bind_some h
 refine AG [] (Fc N p0 v1 a1) Ws rfl (qa rfl (Ad (Ab (Aa Ac rfl (qm rfl (B6 rfl (Ad ?_)))))))
 refine Ap rfl (fun c2 => ?_) (fun c2 => ?_)
 ·have h := An c2 h
  refine Ab (Aa Ac rfl (qm rfl (qa rfl (Ad ?_))))
  obtain rfl := sj h
  refine Al (sm [] [(4, iD v1)] [] rfl rfl) (Az ?_)
  exact ⟨⟨[_], ⟨.tmp _ _ rfl, tv⟩, rfl⟩, tv⟩
 ·have h := Am c2 h
  refine Aq (Ab (Aa Ac rfl (qf Bt rfl (ql Bg rfl (AV AH rfl (qa rfl (Ad (Ab ?_))))))))
  refine AQ h (fun v3 => mk [(2, oD (.ptr 2 0)), (3, oD (.ptr 3 0)), (6, iD ((p0.fVersions.length : Int))), (39, bD v3)] [(2, .box [sC (p0.fVersions.map Ai), sC (p0.fNow.map Ai), sC (p0.fTarget.map Ai), sC (p0.fTables.map Ao)]), (3, .box [sC (p1.fBase.map Ai), sC (p1.fNext.map Ai), sC (p1.fHeld.map A9)])]) (fun j3 h => ?_) (fun v3 h => ?_)
  ·refine Aa Ac rfl (qf Cz rfl (ql Bg rfl (AV AH rfl (qm rfl (B6 rfl (qm rfl ?_))))))
   refine AC (t := 24) rfl (fun c4 => ?_) (fun c4 => ?_)
   ·have h := An c4 h
    refine qn rfl (qn rfl (qn rfl (qn rfl (qn rfl (qp rfl (qm rfl (qn rfl (qn rfl (qn rfl (qn rfl (qn rfl (qn rfl (qn rfl (qp rfl (Ad ?_)))))))))))))))
    exact Av _ h (sm [] _ _ rfl rfl)
   ·have h := Am c4 h
    refine qf BG rfl (ql Bg rfl (AV AH rfl (qm rfl (B6 rfl (qp rfl (qm rfl ?_))))))
    refine AC (t := 31) rfl (fun c5 => ?_) (fun c5 => ?_)
    ·have h := An c5 h
     refine qn rfl (qn rfl (qn rfl (qn rfl (qn rfl (qn rfl (qn rfl (qp rfl (Ad ?_))))))))
     exact Av _ h (sm [] _ _ rfl rfl)
    ·have h := Am c5 h
     refine qf Cs rfl (ql Ga rfl (AV C3 rfl (qf CA rfl (ql Gu rfl (AV DN rfl (B6 rfl (qp rfl (Ad ?_))))))))
     exact Av _ h (sm [] _ _ rfl rfl)
  ·refine Ap rfl (fun c6 => ?_) (fun c6 => ?_)
   ·have h := An c6 h
    refine Ab (Aa Ac rfl (qa rfl (Ad ?_)))
    obtain rfl := sj h
    refine Al (sm [] [(4, iD 6)] [] rfl rfl) (Az ?_)
    exact ⟨⟨[_], ⟨.tmp _ _ rfl, tv⟩, rfl⟩, tv⟩
   ·have h := Am c6 h
    refine Aq (Ab (Ab (Aa Ac rfl (qa rfl (Ad ?_)))))
    refine AJ (L := BU N p0 p1) h (fun v7 => mk [(2, oD (.ptr 2 0)), (3, oD (.ptr 3 0)), (6, iD ((p0.fVersions.length : Int))), (7, iD v7)] [(2, .box [sC (p0.fVersions.map Ai), sC (p0.fNow.map Ai), sC (p0.fTarget.map Ai), sC (p0.fTables.map Ao)]), (3, .box [sC (p1.fBase.map Ai), sC (p1.fNext.map Ai), sC (p1.fHeld.map A9)])]) (fun v8 => mk [(2, oD (.ptr 2 0)), (3, oD (.ptr 3 0))] [(2, .box [sC (p0.fVersions.map Ai), sC (p0.fNow.map Ai), sC (p0.fTarget.map Ai), sC (p0.fTables.map Ao)]), (3, .box [sC (p1.fBase.map Ai), sC (p1.fNext.map Ai), sC (p1.fHeld.map A9)])]) (fun _ _ => rfl) (sm [] _ _ rfl rfl) (fun j7 n7 v7 h => ?_) (fun v8 s h hs => ?_)
    ·unfold BU at h
     refine Ab (Ab (Aa Ac rfl (qm rfl (qm rfl (AZ rfl (Ad ?_))))))
     refine Ap rfl (fun c9 => ?_) (fun c9 => ?_)
     ·have h := An c9 h
      refine Aq (Ab (AP (Ab ?_)))
      refine AQ h (fun v10 => mk [(2, oD (.ptr 2 0)), (3, oD (.ptr 3 0)), (6, iD ((p0.fVersions.length : Int))), (7, iD v7), (84, bD v10)] [(2, .box [sC (p0.fVersions.map Ai), sC (p0.fNow.map Ai), sC (p0.fTarget.map Ai), sC (p0.fTables.map Ao)]), (3, .box [sC (p1.fBase.map Ai), sC (p1.fNext.map Ai), sC (p1.fHeld.map A9)])]) (fun j10 h => ?_) (fun v10 h => ?_)
      ·refine Aa Ac rfl (qf Cz rfl (ql Bg rfl (qm rfl ?_)))
       obtain ⟨v11, a11, b11, h⟩ := Ak h
       refine qi AH Df a11 (Ah b11) rfl (qk Cc rfl (AZ rfl (qm rfl ?_)))
       refine AC (t := 51) rfl (fun c12 => ?_) (fun c12 => ?_)
       ·have h := An c12 h
        refine qn rfl (qn rfl (qn rfl (qn rfl (qn rfl (qn rfl (qn rfl (qn rfl (qn rfl (qn rfl (qn rfl (qp rfl (qm rfl (qn rfl (qn rfl (qn rfl (qn rfl (qn rfl (qn rfl (qp rfl (qm rfl (qn rfl (qn rfl (qn rfl (qn rfl (qn rfl (qn rfl (qn rfl (qn rfl (qn rfl (qn rfl (qn rfl (qp rfl (AM (by kernel_rfl) ?_)))))))))))))))))))))))))))))))))
        exact Av _ h (sm [] _ _ rfl rfl)
       ·have h := Am c12 h
        refine qf Cz rfl (ql Bg rfl (qm rfl ?_))
        obtain ⟨v13, a13, b13, h⟩ := Ak h
        refine qi AH Df a13 (Ah b13) rfl (qk Cc rfl (qf Bt rfl (ql Bg rfl (qm rfl ?_))))
        obtain ⟨v14, a14, b14, h⟩ := Ak h
        refine qi AH Df a14 (Ah b14) rfl (qk Cc rfl (CW rfl (qp rfl (qm rfl ?_))))
        refine AC (t := 64) rfl (fun c15 => ?_) (fun c15 => ?_)
        ·have h := An c15 h
         refine qn rfl (qn rfl (qn rfl (qn rfl (qn rfl (qn rfl (qp rfl (qm rfl (qn rfl (qn rfl (qn rfl (qn rfl (qn rfl (qn rfl (qn rfl (qn rfl (qn rfl (qn rfl (qn rfl (qp rfl (AM (by kernel_rfl) ?_))))))))))))))))))))
         exact Av _ h (sm [] _ _ rfl rfl)
        ·have h := Am c15 h
         refine qf BG rfl (ql Bg rfl (qm rfl ?_))
         obtain ⟨v16, a16, b16, h⟩ := Ak h
         refine qi AH Df a16 (Ah b16) rfl (qk Cc rfl (AZ rfl (qp rfl (qm rfl ?_))))
         refine AC (t := 72) rfl (fun c17 => ?_) (fun c17 => ?_)
         ·have h := An c17 h
          refine qn rfl (qn rfl (qn rfl (qn rfl (qn rfl (qn rfl (qn rfl (qn rfl (qn rfl (qn rfl (qn rfl (qp rfl (AM (by kernel_rfl) ?_))))))))))))
          exact Av _ h (sm [] _ _ rfl rfl)
         ·have h := Am c17 h
          refine qf BG rfl (ql Bg rfl (qm rfl ?_))
          obtain ⟨v18, a18, b18, h⟩ := Ak h
          refine qi AH Df a18 (Ah b18) rfl (qk Cc rfl (qf Bt rfl (ql Bg rfl (qm rfl ?_))))
          obtain ⟨v19, a19, b19, h⟩ := Ak h
          refine qi AH Df a19 (Ah b19) rfl (qk Cc rfl (CW rfl (qp rfl (AM (by kernel_rfl) ?_))))
          exact Av _ h (sm [] _ _ rfl rfl)
      ·refine Ap rfl (fun c20 => ?_) (fun c20 => ?_)
       ·have h := An c20 h
        refine Ab (Aa Ac rfl (qa rfl (Ad ?_)))
        obtain rfl := sj h
        refine Al (sm [] [(4, iD 7)] [] rfl rfl) (Az ?_)
        exact ⟨⟨[_], ⟨.tmp _ _ rfl, tv⟩, rfl⟩, tv⟩
       ·have h := Am c20 h
        refine Aq (Ab (Aa Ac rfl (qf Cz rfl (ql Bg rfl (qm rfl ?_)))))
        obtain ⟨v21, a21, b21, h⟩ := Ak h
        refine qi AH Df a21 (Ah b21) rfl (qk Cc rfl (qf BG rfl (ql Bg rfl (qm rfl ?_))))
        obtain ⟨v22, a22, b22, h⟩ := Ak h
        refine qi AH Df a22 (Ah b22) rfl (qk Cc rfl (BD rfl (AM (by kernel_rfl) ?_)))
        refine Ap rfl (fun c23 => ?_) (fun c23 => ?_)
        ·have h := An c23 h
         refine Ab (Aa Ac rfl (qa rfl (Ad ?_)))
         obtain rfl := sj h
         refine Al (sm [] [(4, iD 1)] [] rfl rfl) (Az ?_)
         exact ⟨⟨[_], ⟨.tmp _ _ rfl, tv⟩, rfl⟩, tv⟩
        ·have h := Am c23 h
         refine Aq (Aa Ac rfl (qm rfl (AX rfl (qa rfl (Ad ?_)))))
         exact Av _ h (sm [] _ _ rfl rfl)
     ·have h := Am c9 h
      refine AY ?_
      exact Av _ h (sm [] _ _ rfl rfl)
    ·refine Al hs (Ab (Ab (Aa Ac rfl (qa rfl (Ad ?_)))))
     refine AJ (L := BL N p0 p1) h (fun v24 => mk [(2, oD (.ptr 2 0)), (3, oD (.ptr 3 0)), (8, iD v24)] [(2, .box [sC (p0.fVersions.map Ai), sC (p0.fNow.map Ai), sC (p0.fTarget.map Ai), sC (p0.fTables.map Ao)]), (3, .box [sC (p1.fBase.map Ai), sC (p1.fNext.map Ai), sC (p1.fHeld.map A9)])]) (fun v25 => mk [] []) (fun _ _ => rfl) (sm [] _ _ rfl rfl) (fun j24 n24 v24 h => ?_) (fun v25 s h hs => ?_)
     ·unfold BL at h
      refine Ab (Ab (Aa Ac rfl (qm rfl (qf CA rfl (ql Gu rfl (AV DN rfl (AZ rfl (Ad ?_))))))))
      refine Ap rfl (fun c26 => ?_) (fun c26 => ?_)
      ·have h := An c26 h
       refine Aq (Ab (AP (Ab (Aa Ac rfl (qf CA rfl (ql Gu rfl (qm rfl ?_)))))))
       obtain ⟨v27, a27, b27, h⟩ := Ak h
       refine qi DN DO a27 (Ah b27) rfl (qK GI DO rfl (qz JU rfl (qs DO rfl (Ad (Ab (Aa Ac rfl (qf Bt rfl (ql Bg rfl (qf C2 rfl (ql Cc rfl ?_))))))))))
       obtain ⟨v28, a28, b28, h⟩ := Ak h
       refine qi AH Df a28 (Ah b28) rfl (qk Cc rfl ?_)
       obtain ⟨c29, h⟩ := AL h
       refine G6 rfl c29 (Cp rfl (qa rfl (Ad ?_)))
       refine AQ h (fun v30 => mk [(2, oD (.ptr 2 0)), (3, oD (.ptr 3 0)), (8, iD v24), (153, bD v30)] [(2, .box [sC (p0.fVersions.map Ai), sC (p0.fNow.map Ai), sC (p0.fTarget.map Ai), sC (p0.fTables.map Ao)]), (3, .box [sC (p1.fBase.map Ai), sC (p1.fNext.map Ai), sC (p1.fHeld.map A9)])]) (fun j30 h => ?_) (fun v30 h => ?_)
       ·refine Aa Ac rfl (qL GI DO rfl ?_)
        obtain ⟨v31, a31, h⟩ := bind_some h
        refine AG [] (Ck N v27 v31 a31) Po rfl (Cq rfl (qm rfl ?_))
        refine AC (t := 119) rfl (fun c32 => ?_) (fun c32 => ?_)
        ·have h := An c32 h
         refine qf Cs rfl (ql Ga rfl (qm rfl ?_))
         obtain ⟨v33, a33, b33, h⟩ := Ak h
         refine qi C3 Fa a33 (Ah b33) rfl (qk IK rfl (B6 rfl (qp rfl (qm rfl ?_))))
         refine AC (t := 127) rfl (fun c34 => ?_) (fun c34 => ?_)
         ·have h := An c34 h
          refine qn rfl (qn rfl (qn rfl (qu rfl (qu rfl (qu rfl (qu rfl (qu rfl (qu rfl (qu rfl (qu rfl (qu rfl (qu rfl (qu rfl (qu rfl (qu rfl (qu rfl (qu rfl (qu rfl (qu rfl (qu rfl (qu rfl (qu rfl (qu rfl (qn rfl (qp rfl (AM (by kernel_rfl) ?_))))))))))))))))))))))))))
          exact Av _ h (sm [] _ _ rfl rfl)
         ·have h := Am c34 h
          refine qL GI DO rfl ?_
          obtain ⟨v35, a35, h⟩ := bind_some h
          refine AG [] (Ck N v27 v35 a35) Po rfl (qm rfl ?_)
          refine AC (t := 130) rfl (fun c36 => ?_) (fun c36 => ?_)
          ·have h := An c36 h
           refine qf Cs rfl (ql Ga rfl (qm rfl ?_))
           obtain ⟨v37, a37, b37, h⟩ := Ak h
           refine qi C3 Fa a37 (Ah b37) rfl (qk IK rfl (qm rfl (Hw rfl (B6 rfl (qm rfl ?_)))))
           refine AC (t := 139) rfl (fun c38 => ?_) (fun c38 => ?_)
           ·have h := An c38 h
            refine qn rfl (qn rfl (qn rfl (qn rfl (qn rfl (qn rfl (qn rfl (qn rfl (qn rfl (qn rfl (qn rfl (qp rfl (qp rfl (qp rfl (AM (by kernel_rfl) ?_))))))))))))))
            exact Av _ h (sm [] _ _ rfl rfl)
           ·have h := Am c38 h
            refine qL A0 Ax rfl (qf C2 rfl (ql Cc rfl ?_))
            obtain ⟨v39, a39, h⟩ := bind_some h
            refine AG [] (EW N p1 v27.fFrom v39 a39) U4 rfl (qf Cs rfl (ql Ga rfl (qm rfl ?_)))
            obtain ⟨v40, a40, b40, h⟩ := Ak h
            refine qi C3 Fa a40 (Ah b40) rfl (qk IK rfl (Hw rfl (B6 rfl (qp rfl (qp rfl (qp rfl (AM (by kernel_rfl) ?_)))))))
            exact Av _ h (sm [] _ _ rfl rfl)
          ·have h := Am c36 h
           refine qn rfl (qn rfl (qn rfl (qn rfl (qn rfl (qn rfl (qn rfl (qn rfl (qn rfl (qu rfl (qu rfl (qu rfl (qu rfl (qu rfl (qu rfl (qu rfl (qu rfl (qu rfl (qu rfl (qu rfl (qn rfl (qp rfl (qp rfl (AM (by kernel_rfl) ?_)))))))))))))))))))))))
           exact Av _ h (sm [] _ _ rfl rfl)
        ·have h := Am c32 h
         refine qn rfl (qn rfl (qn rfl (qn rfl (qn rfl (qn rfl (qp rfl (qm rfl (qL GI DO rfl ?_))))))))
         obtain ⟨v41, a41, h⟩ := bind_some h
         refine AG [] (Ck N v27 v41 a41) Po rfl (qm rfl ?_)
         refine AC (t := 130) rfl (fun c42 => ?_) (fun c42 => ?_)
         ·have h := An c42 h
          refine qf Cs rfl (ql Ga rfl (qm rfl ?_))
          obtain ⟨v43, a43, b43, h⟩ := Ak h
          refine qi C3 Fa a43 (Ah b43) rfl (qk IK rfl (qm rfl (Hw rfl (B6 rfl (qm rfl ?_)))))
          refine AC (t := 139) rfl (fun c44 => ?_) (fun c44 => ?_)
          ·have h := An c44 h
           refine qn rfl (qn rfl (qn rfl (qn rfl (qn rfl (qn rfl (qn rfl (qn rfl (qn rfl (qn rfl (qn rfl (qp rfl (qp rfl (qp rfl (AM (by kernel_rfl) ?_))))))))))))))
           exact Av _ h (sm [] _ _ rfl rfl)
          ·have h := Am c44 h
           refine qL A0 Ax rfl (qf C2 rfl (ql Cc rfl ?_))
           obtain ⟨v45, a45, h⟩ := bind_some h
           refine AG [] (EW N p1 v27.fFrom v45 a45) U4 rfl (qf Cs rfl (ql Ga rfl (qm rfl ?_)))
           obtain ⟨v46, a46, b46, h⟩ := Ak h
           refine qi C3 Fa a46 (Ah b46) rfl (qk IK rfl (Hw rfl (B6 rfl (qp rfl (qp rfl (qp rfl (AM (by kernel_rfl) ?_)))))))
           exact Av _ h (sm [] _ _ rfl rfl)
         ·have h := Am c42 h
          refine qn rfl (qn rfl (qn rfl (qn rfl (qn rfl (qn rfl (qn rfl (qn rfl (qn rfl (qu rfl (qu rfl (qu rfl (qu rfl (qu rfl (qu rfl (qu rfl (qu rfl (qu rfl (qu rfl (qu rfl (qn rfl (qp rfl (qp rfl (AM (by kernel_rfl) ?_)))))))))))))))))))))))
          exact Av _ h (sm [] _ _ rfl rfl)
       ·refine Ap rfl (fun c47 => ?_) (fun c47 => ?_)
        ·have h := An c47 h
         refine Ab (Aa Ac rfl (qa rfl (Ad ?_)))
         obtain rfl := sj h
         refine Al (sm [] [(4, iD 1)] [] rfl rfl) (Az ?_)
         exact ⟨⟨[_], ⟨.tmp _ _ rfl, tv⟩, rfl⟩, tv⟩
        ·have h := Am c47 h
         refine Aq (Aa Ac rfl (qm rfl (AX rfl (qa rfl (Ad ?_)))))
         exact Av _ h (sm [] _ _ rfl rfl)
      ·have h := Am c26 h
       refine AY ?_
       exact Av _ h (sm [] _ _ rfl rfl)
     ·refine Al hs (Ab (Aa Ac rfl (qa rfl (Ad ?_))))
      obtain rfl := sj h
      refine Al (sm [] [(4, iD 0)] [] rfl rfl) (Az ?_)
      exact ⟨⟨[_], ⟨.tmp _ _ rfl, tv⟩, rfl⟩, tv⟩
theorem Jq (N : Nat) (p0 : Aj) (r : Bool) (h : DG N p0 = some r) : AB Tryz.prog 93 [.e (.agg [iC p0.fKind, iC p0.fIndex, iC p0.fVersion])] [] (bD r) := by
 unfold DG at h
 refine Au (n := 31) (rs := [.tmp 2]) Tryz.func93 rfl rfl rfl (A5 rfl) (A5 rfl) rfl fun w0 S0 => ?_
 refine Ab (Aa Ac rfl (qb rfl (qa rfl (Ad ?_))))
 refine AQ h (fun v1 => mk [(2, bD v1)] []) (fun j1 h => ?_) (fun v1 h => ?_)
 ·refine Aa Ac rfl (qf EK rfl (ql Cc rfl (CW rfl (qm rfl ?_))))
  refine AC (t := 6) rfl (fun c2 => ?_) (fun c2 => ?_)
  ·have h := An c2 h
   refine qf EK rfl (ql Cc rfl (JH rfl (qp rfl (qm rfl ?_))))
   refine AC (t := 11) rfl (fun c3 => ?_) (fun c3 => ?_)
   ·have h := An c3 h
    refine qf Eb rfl (ql Cc rfl (CW rfl (qp rfl (qm rfl ?_))))
    refine AC (t := 16) rfl (fun c4 => ?_) (fun c4 => ?_)
    ·have h := An c4 h
     refine qf FH rfl (ql Cc rfl (CW rfl (qp rfl (qm rfl ?_))))
     refine AC (t := 21) rfl (fun c5 => ?_) (fun c5 => ?_)
     ·have h := An c5 h
      refine qf EK rfl (ql Cc rfl (BD rfl (qm rfl ?_)))
      refine AC (t := 25) rfl (fun c6 => ?_) (fun c6 => ?_)
      ·have h := An c6 h
       refine qn rfl (qn rfl (qn rfl (qp rfl (qp rfl (qa rfl (Ad ?_))))))
       exact Av _ h (sm [] _ _ rfl rfl)
      ·have h := Am c6 h
       refine qf FH rfl (ql Cc rfl (BD rfl (qp rfl (qp rfl (qa rfl (Ad ?_))))))
       exact Av _ h (sm [] _ _ rfl rfl)
     ·have h := Am c5 h
      refine qn rfl (qn rfl (qn rfl (qn rfl (qu rfl (qu rfl (qu rfl (qn rfl (qp rfl (qa rfl (Ad ?_))))))))))
      exact Av _ h (sm [] _ _ rfl rfl)
    ·have h := Am c4 h
     refine qn rfl (qn rfl (qn rfl (qp rfl (qm rfl (qn rfl (qn rfl (qn rfl (qn rfl (qu rfl (qu rfl (qu rfl (qn rfl (qp rfl (qa rfl (Ad ?_)))))))))))))))
     exact Av _ h (sm [] _ _ rfl rfl)
   ·have h := Am c3 h
    refine qn rfl (qn rfl (qn rfl (qp rfl (qm rfl (qn rfl (qn rfl (qn rfl (qp rfl (qm rfl (qn rfl (qn rfl (qn rfl (qn rfl (qu rfl (qu rfl (qu rfl (qn rfl (qp rfl (qa rfl (Ad ?_))))))))))))))))))))
    exact Av _ h (sm [] _ _ rfl rfl)
  ·have h := Am c2 h
   refine qn rfl (qn rfl (qn rfl (qp rfl (qm rfl (qn rfl (qn rfl (qn rfl (qp rfl (qm rfl (qn rfl (qn rfl (qn rfl (qp rfl (qm rfl (qn rfl (qn rfl (qn rfl (qn rfl (qu rfl (qu rfl (qu rfl (qn rfl (qp rfl (qa rfl (Ad ?_)))))))))))))))))))))))))
   exact Av _ h (sm [] _ _ rfl rfl)
 ·obtain rfl := sj h
  refine Al (sm [] [(2, bD v1)] [] rfl rfl) (Az ?_)
  exact ⟨⟨[_], ⟨.tmp _ _ rfl, tv⟩, rfl⟩, tv⟩
theorem HF (N : Nat) (p0 : Int) (p1 : Int) (r : Bool) (h : Dv N p0 p1 = some r) : AB Tryz.prog 53 [pD (.val (.int .u8 p0)), iD p1] [] (bD r) := by
 unfold Dv at h
 refine Au (n := 10) (rs := [.tmp 4]) Tryz.func53 rfl rfl rfl (A5 rfl) (A5 rfl) rfl fun w0 S0 => ?_
 refine Ab (Aa Ac rfl (qa rfl (Ad (Ab (Aa Ac rfl (qm rfl (qm rfl ?_)))))))
 obtain ⟨c1, h⟩ := AL h
 refine Gb rfl c1 (Jx rfl (BD rfl (qa rfl (Ad ?_))))
 obtain rfl := sj h
 refine Al (sm [] [(4, bD (((EC .u8 ((Dx .u8 p0 p1)) 1) == 1)))] [] rfl rfl) (Az ?_)
 exact ⟨⟨[_], ⟨.tmp _ _ rfl, tv⟩, rfl⟩, tv⟩
theorem Fs (N : Nat) (p0 : Ag) (p1 : Ae) (p2 : Aj) (r : Ae × Bool) (h : B4 N p0 p1 p2 = some r) : AB Tryz.prog 27 [.e (.agg [sC (p0.fVersions.map Ai), sC (p0.fNow.map Ai), sC (p0.fTarget.map Ai), sC (p0.fTables.map Ao)]), .e (.agg [sC (p1.fBase.map Ai), sC (p1.fNext.map Ai), sC (p1.fHeld.map A9)]), .e (.agg [iC p2.fKind, iC p2.fIndex, iC p2.fVersion])] [(1, r.1.fBase.map Ai), (1, r.1.fNext.map Ai), (1, r.1.fHeld.map A9)] (.tup [.agg [.own 0, .own 1, .own 2], .one (.pure (.val (.bool r.2)))]) := by
 unfold B4 at h
 refine Au (n := 201) (rs := [.cell 6 50, .tmp 7]) Tryz.func27 rfl rfl rfl (A5 rfl) (A5 rfl) rfl fun w0 S0 => ?_
 refine Ab (Aa Ac rfl (qb rfl (qb rfl (qb rfl (qz Cv rfl (qa rfl (Ad (Ab (Aa Ac rfl (DT AH Df KT rfl (qf Cz rfl (ql Bg rfl ?_))))))))))))
 obtain ⟨c1, h⟩ := AL h
 refine Mw (f := Ai) AH AH Df LB KT (fun _ => rfl) c1 rfl (DT AH Df KT rfl (qf BG rfl (ql Bg rfl ?_)))
 obtain ⟨c2, h⟩ := AL h
 refine Mw (f := Ai) AH AH Df LB KT (fun _ => rfl) c2 rfl (DT C3 Fa PJ rfl (qf Cs rfl (ql Ga rfl ?_)))
 obtain ⟨c3, h⟩ := AL h
 refine Mw (f := A9) C3 C3 Fa Qf PJ (fun _ => rfl) c3 rfl (Bz Cv GR rfl (qz Cv rfl (qs Ax rfl (AM (by kernel_rfl) (Ab (Aa Ac rfl (qf Eb rfl (ql Cc rfl (qa rfl (Ad ?_))))))))))
 refine AQ h (fun v4 => mk [(6, oD (.ptr 6 0)), (8, oD (.ptr 8 0))] [(6, .box [.pure (.nil0), .pure (.nil0), .pure (.nil0)]), (8, .box [.own 2001, .own 2002, .own 2003]), (2001, .vec 1 (v4.1.map Ai)), (2002, .vec 1 (v4.2.1.map Ai)), (2003, .vec 1 (v4.2.2.map A9))]) (fun j4 h => ?_) (fun v4 h => ?_)
 ·refine Ab (Aa Ac rfl (qf EK rfl (ql Cc rfl (Ad (AP (Ab (Aa Ac rfl (BD rfl (qa rfl (Ad ?_))))))))))
  refine Ap rfl (fun c5 => ?_) (fun c5 => ?_)
  ·have h := An c5 h
   refine Ab ?_
   refine AQ h (fun v6 => mk [(3, oD (.ptr 3 0)), (5, oD (.ptr 5 0)), (6, oD (.ptr 6 0)), (8, oD (.ptr 8 0)), (9, iD p2.fIndex), (60, bD v6)] [(3, .box [sC (p0.fVersions.map Ai), sC (p0.fNow.map Ai), sC (p0.fTarget.map Ai), sC (p0.fTables.map Ao)]), (5, .box [iC p2.fKind, iC p2.fIndex, iC p2.fVersion]), (6, .box [.pure (.nil0), .pure (.nil0), .pure (.nil0)]), (8, .box [.own 2004, .own 2005, .own 2006]), (2004, .vec 1 (((([] : List Int)) ++ p1.fBase).map Ai)), (2005, .vec 1 (((([] : List Int)) ++ p1.fNext).map Ai)), (2006, .vec 1 (((([] : List Int)) ++ p1.fHeld).map A9))]) (fun j6 h => ?_) (fun v6 h => ?_)
   ·refine Aa Ac rfl (qf BG rfl (ql Bg rfl (qm rfl ?_)))
    obtain ⟨v7, a7, b7, h⟩ := Ak h
    refine qi AH Df a7 (Ah b7) rfl (qk Cc rfl (CW rfl (qm rfl ?_)))
    refine AC (t := 51) rfl (fun c8 => ?_) (fun c8 => ?_)
    ·have h := An c8 h
     refine qn rfl (qn rfl (qn rfl (qn rfl (qn rfl (qn rfl (qn rfl (qn rfl (qp rfl (AM (by kernel_rfl) ?_)))))))))
     exact Av _ h (sm [(2004, 18), (2005, 22), (2006, 26)] _ _ rfl rfl)
    ·have h := Am c8 h
     refine qf FH rfl (ql Cc rfl (qf Cz rfl (ql Bg rfl (qm rfl ?_))))
     obtain ⟨v9, a9, b9, h⟩ := Ak h
     refine qi AH Df a9 (Ah b9) rfl (qk Cc rfl (BD rfl (qp rfl (AM (by kernel_rfl) ?_))))
     exact Av _ h (sm [(2004, 18), (2005, 22), (2006, 26)] _ _ rfl rfl)
   ·refine Ap rfl (fun c10 => ?_) (fun c10 => ?_)
    ·have h := An c10 h
     refine Ab (Aa Ac rfl (Bz Cv GR rfl (qs Ax rfl (qa rfl (Ad ?_)))))
     obtain rfl := sj h
     refine Al ((AA 6 0 2007 1 _ rfl rfl rfl rfl).trans ((AA 6 1 2008 1 _ rfl rfl rfl rfl).trans ((AA 6 2 2009 1 _ rfl rfl rfl rfl).trans (sm [(1000, 2007), (1001, 2008), (1002, 2009)] [(6, oD (.ptr 6 0)), (7, bD false)] [(6, .box [.own 1000, .own 1001, .own 1002]), (1000, .vec 1 ((([] : List Int)).map Ai)), (1001, .vec 1 ((([] : List Int)).map Ai)), (1002, .vec 1 ((([] : List Int)).map A9))] rfl rfl)))) (Az ?_)
     exact ⟨⟨[_, _], ⟨.cellN _ _ _ _ _ _ _ rfl rfl A0 Ax rfl rfl (HR rfl), ⟨.tmp _ _ rfl, tv⟩⟩, rfl⟩, ⟨rfl, rfl, rfl, tv⟩⟩
    ·have h := Am c10 h
     refine Aq (Ab (Aa Ac rfl (qf BG rfl (ql Bg rfl (qm rfl (qf FH rfl (ql Cc rfl ?_)))))))
     obtain ⟨v11, a11, b11, h⟩ := Ak h
     refine qI AH Df a11 (Ah b11) rfl ?_
     refine A8 rfl rfl rfl rfl (Ah b11) rfl Df rfl (A5 rfl) (A6 Ai ((([] : List Int)) ++ p1.fNext) _ p2.fVersion) ?_
     refine Ad (Ab (Aa Ac rfl (qa rfl (Ad ?_))))
     refine AJ (L := BJ N p0 p2) h (fun v12 => mk [(3, oD (.ptr 3 0)), (5, oD (.ptr 5 0)), (6, oD (.ptr 6 0)), (8, oD (.ptr 8 0)), (9, iD p2.fIndex), (10, iD v12.2)] [(3, .box [sC (p0.fVersions.map Ai), sC (p0.fNow.map Ai), sC (p0.fTarget.map Ai), sC (p0.fTables.map Ao)]), (5, .box [iC p2.fKind, iC p2.fIndex, iC p2.fVersion]), (6, .box [.pure (.nil0), .pure (.nil0), .pure (.nil0)]), (8, .box [.own 2010, .own 2011, .own 2012]), (2010, .vec 1 (((([] : List Int)) ++ p1.fBase).map Ai)), (2011, .vec 1 ((((([] : List Int)) ++ p1.fNext).set ((p2.fIndex).toNat) p2.fVersion).map Ai)), (2012, .vec 1 (v12.1.map A9))]) (fun v13 => mk [(6, oD (.ptr 6 0)), (8, oD (.ptr 8 0))] [(6, .box [.pure (.nil0), .pure (.nil0), .pure (.nil0)]), (8, .box [.own 2013, .own 2014, .own 2015]), (2013, .vec 1 (((([] : List Int)) ++ p1.fBase).map Ai)), (2014, .vec 1 ((((([] : List Int)) ++ p1.fNext).set ((p2.fIndex).toNat) p2.fVersion).map Ai)), (2015, .vec 1 (v13.map A9))]) (fun _ _ => rfl) (sm [(2010, 2004), (2011, 2005), (2012, 2006)] _ _ rfl rfl) (fun j12 n12 v12 h => ?_) (fun v13 s h hs => ?_)
     ·unfold BJ at h
      refine Ab (Ab (Aa Ac rfl (qm rfl (qf CA rfl (ql Gu rfl (AV DN rfl (AZ rfl (Ad ?_))))))))
      refine Ap rfl (fun c14 => ?_) (fun c14 => ?_)
      ·have h := An c14 h
       refine Aq ?_
       refine AQ h (fun v15 => mk [(3, oD (.ptr 3 0)), (5, oD (.ptr 5 0)), (6, oD (.ptr 6 0)), (8, oD (.ptr 8 0)), (9, iD p2.fIndex), (10, iD v12.2)] [(3, .box [sC (p0.fVersions.map Ai), sC (p0.fNow.map Ai), sC (p0.fTarget.map Ai), sC (p0.fTables.map Ao)]), (5, .box [iC p2.fKind, iC p2.fIndex, iC p2.fVersion]), (6, .box [.pure (.nil0), .pure (.nil0), .pure (.nil0)]), (8, .box [.own 2016, .own 2017, .own 2018]), (2016, .vec 1 (((([] : List Int)) ++ p1.fBase).map Ai)), (2017, .vec 1 ((((([] : List Int)) ++ p1.fNext).set ((p2.fIndex).toNat) p2.fVersion).map Ai)), (2018, .vec 1 (v15.map A9))]) (fun j15 h => ?_) (fun v15 h => ?_)
       ·refine AP ?_
        refine AQ h (fun v16 => mk [(3, oD (.ptr 3 0)), (5, oD (.ptr 5 0)), (6, oD (.ptr 6 0)), (8, oD (.ptr 8 0)), (9, iD p2.fIndex), (10, iD v12.2), (90, bD v16)] [(3, .box [sC (p0.fVersions.map Ai), sC (p0.fNow.map Ai), sC (p0.fTarget.map Ai), sC (p0.fTables.map Ao)]), (5, .box [iC p2.fKind, iC p2.fIndex, iC p2.fVersion]), (6, .box [.pure (.nil0), .pure (.nil0), .pure (.nil0)]), (8, .box [.own 2019, .own 2020, .own 2021]), (2019, .vec 1 (((([] : List Int)) ++ p1.fBase).map Ai)), (2020, .vec 1 ((((([] : List Int)) ++ p1.fNext).set ((p2.fIndex).toNat) p2.fVersion).map Ai)), (2021, .vec 1 (v12.1.map A9))]) (fun j16 h => ?_) (fun v16 h => ?_)
        ·refine Aa Ac rfl (qf CA rfl (ql Gu rfl (qm rfl ?_)))
         obtain ⟨v17, a17, b17, h⟩ := Ak h
         refine qi DN DO a17 (Ah b17) rfl (qg C2 rfl (qk Cc rfl (qm rfl (BD rfl (qm rfl ?_)))))
         refine AC (t := 83) rfl (fun c18 => ?_) (fun c18 => ?_)
         ·have h := An c18 h
          refine qf CA rfl (ql Gu rfl (qm rfl ?_))
          obtain ⟨v19, a19, b19, h⟩ := Ak h
          refine qi DN DO a19 (Ah b19) rfl (qK GI DO rfl ?_)
          obtain ⟨v20, a20, h⟩ := bind_some h
          refine AG [] (Ck N v19 v20 a20) Po rfl (qp rfl (Ad ?_))
          exact Av _ h (sm [(2019, 2010), (2020, 2011), (2021, 2012)] _ _ rfl rfl)
         ·have h := Am c18 h
          refine qn rfl (qn rfl (qn rfl (qn rfl (qn rfl (qn rfl (qp rfl (Ad ?_)))))))
          exact Av _ h (sm [(2019, 2010), (2020, 2011), (2021, 2012)] _ _ rfl rfl)
        ·refine Ap rfl (fun c21 => ?_) (fun c21 => ?_)
         ·have h := An c21 h
          refine Aa Ac rfl (qf Cs rfl (ql Ga rfl (qm rfl (qf Cs rfl (ql Ga rfl (qm rfl ?_))))))
          obtain ⟨v22, a22, b22, h⟩ := Ak h
          refine qI C3 Fa a22 (Ah b22) rfl (qj IK (Ah b22) rfl (qf FH rfl (ql Cc rfl ?_)))
          obtain ⟨c23, h⟩ := AL h
          refine G6 rfl c23 (Ss rfl ?_)
          obtain ⟨v24, a24, b24, h⟩ := Ak h
          refine qI C3 Fa a24 (Ah b24) rfl ?_
          refine A8 rfl rfl rfl rfl (Ah b24) rfl Fa rfl (A5 rfl) (A6 A9 v12.1 _ ((Ls .u8 v22 ((B3 .u8 1 p2.fVersion))))) ?_
          refine AM (by kernel_rfl) ?_
          exact Av _ h (sm [(2016, 2019), (2017, 2020), (2018, 2021)] _ _ rfl rfl)
         ·have h := Am c21 h
          refine Aq ?_
          exact Av _ h (sm [(2016, 2019), (2017, 2020), (2018, 2021)] _ _ rfl rfl)
       ·refine Aa Ac rfl (qm rfl (AX rfl (qa rfl (Ad ?_))))
        exact Av _ h (sm [(2010, 2016), (2011, 2017), (2012, 2018)] _ _ rfl rfl)
      ·have h := Am c14 h
       refine AY ?_
       exact Av _ h (sm [(2013, 2010), (2014, 2011), (2015, 2012)] _ _ rfl rfl)
     ·exact Av _ h (hs.trans (sm [(2001, 2013), (2002, 2014), (2003, 2015)] _ _ rfl rfl))
  ·have h := Am c5 h
   refine Ab (Aa Ac rfl (BD rfl (qa rfl (Ad ?_))))
   refine Ap rfl (fun c25 => ?_) (fun c25 => ?_)
   ·have h := An c25 h
    refine Ab (Ab (Aa Ac rfl (qf BG rfl (ql Bg rfl (qm rfl ?_)))))
    obtain ⟨v26, a26, b26, h⟩ := Ak h
    refine qi AH Df a26 (Ah b26) rfl (qk Cc rfl (AZ rfl (Ad ?_)))
    refine Ap rfl (fun c27 => ?_) (fun c27 => ?_)
    ·have h := An c27 h
     refine Ab (Aa Ac rfl (Bz Cv GR rfl (qs Ax rfl (qa rfl (Ad ?_)))))
     obtain rfl := sj h
     refine Al ((AA 6 0 2022 1 _ rfl rfl rfl rfl).trans ((AA 6 1 2023 1 _ rfl rfl rfl rfl).trans ((AA 6 2 2024 1 _ rfl rfl rfl rfl).trans (sm [(1000, 2022), (1001, 2023), (1002, 2024)] [(6, oD (.ptr 6 0)), (7, bD false)] [(6, .box [.own 1000, .own 1001, .own 1002]), (1000, .vec 1 ((([] : List Int)).map Ai)), (1001, .vec 1 ((([] : List Int)).map Ai)), (1002, .vec 1 ((([] : List Int)).map A9))] rfl rfl)))) (Az ?_)
     exact ⟨⟨[_, _], ⟨.cellN _ _ _ _ _ _ _ rfl rfl A0 Ax rfl rfl (HR rfl), ⟨.tmp _ _ rfl, tv⟩⟩, rfl⟩, ⟨rfl, rfl, rfl, tv⟩⟩
    ·have h := Am c27 h
     refine Aq (Aa Ac rfl (qf Cz rfl (ql Bg rfl (qm rfl (qf BG rfl (ql Bg rfl (qm rfl (qf BG rfl (ql Bg rfl (qm rfl ?_))))))))))
     obtain ⟨v28, a28, b28, h⟩ := Ak h
     refine qi AH Df a28 (Ah b28) rfl (qk Cc rfl ?_)
     obtain ⟨v29, a29, b29, h⟩ := Ak h
     refine qI AH Df a29 (Ah b29) rfl ?_
     refine A8 rfl rfl rfl rfl (Ah b29) rfl Df rfl (A5 rfl) (A6 Ai ((([] : List Int)) ++ p1.fBase) _ v28) ?_
     obtain ⟨v30, a30, b30, h⟩ := Ak h
     refine qI AH Df a30 (Ah b30) rfl ?_
     refine A8 rfl rfl rfl rfl (Ah b30) rfl Df rfl (A5 rfl) (A6 Ai ((([] : List Int)) ++ p1.fNext) _ ((-1))) ?_
     refine AM (by kernel_rfl) ?_
     exact Av _ h (sm [(2001, 18), (2002, 22), (2003, 26)] _ _ rfl rfl)
   ·have h := Am c25 h
    refine Ab (Aa Ac rfl (BD rfl (qa rfl (Ad ?_))))
    refine Ap rfl (fun c31 => ?_) (fun c31 => ?_)
    ·have h := An c31 h
     refine Ab (Aa Ac rfl (qf CA rfl (ql Gu rfl (qm rfl ?_))))
     obtain ⟨v32, a32, b32, h⟩ := Ak h
     refine qi DN DO a32 (Ah b32) rfl (qK GI DO rfl (qz JU rfl (qs DO rfl (Ad (Ab (Ab (Aa Ac rfl (qL GI DO rfl ?_))))))))
     obtain ⟨v33, a33, h⟩ := bind_some h
     refine AG [] (Ck N v32 v33 a33) Po rfl (Cq rfl (Ad ?_))
     refine Ap rfl (fun c34 => ?_) (fun c34 => ?_)
     ·have h := An c34 h
      refine Ab (Aa Ac rfl (Bz Cv GR rfl (qs Ax rfl (qa rfl (Ad ?_)))))
      obtain rfl := sj h
      refine Al ((AA 6 0 2025 1 _ rfl rfl rfl rfl).trans ((AA 6 1 2026 1 _ rfl rfl rfl rfl).trans ((AA 6 2 2027 1 _ rfl rfl rfl rfl).trans (sm [(1000, 2025), (1001, 2026), (1002, 2027)] [(6, oD (.ptr 6 0)), (7, bD false)] [(6, .box [.own 1000, .own 1001, .own 1002]), (1000, .vec 1 ((([] : List Int)).map Ai)), (1001, .vec 1 ((([] : List Int)).map Ai)), (1002, .vec 1 ((([] : List Int)).map A9))] rfl rfl)))) (Az ?_)
      exact ⟨⟨[_, _], ⟨.cellN _ _ _ _ _ _ _ rfl rfl A0 Ax rfl rfl (HR rfl), ⟨.tmp _ _ rfl, tv⟩⟩, rfl⟩, ⟨rfl, rfl, rfl, tv⟩⟩
     ·have h := Am c34 h
      refine Aq (Ab (Aa Ac rfl (qL A0 Ax rfl (qf C2 rfl (ql Cc rfl ?_)))))
      obtain ⟨v35, a35, h⟩ := bind_some h
      refine AG [] (EW N p1 v32.fFrom v35 a35) U4 rfl (qa rfl (Ad (Ab (Ab (Aa Ac rfl (qf Cs rfl (ql Ga rfl (qm rfl ?_))))))))
      obtain ⟨v36, a36, b36, h⟩ := Ak h
      refine qi C3 Fa a36 (Ah b36) rfl (qk IK rfl (qm rfl (BD rfl (Ad ?_))))
      refine Ap rfl (fun c37 => ?_) (fun c37 => ?_)
      ·have h := An c37 h
       refine Ab (Aa Ac rfl (Bz Cv GR rfl (qs Ax rfl (qa rfl (Ad ?_)))))
       obtain rfl := sj h
       refine Al ((AA 6 0 2028 1 _ rfl rfl rfl rfl).trans ((AA 6 1 2029 1 _ rfl rfl rfl rfl).trans ((AA 6 2 2030 1 _ rfl rfl rfl rfl).trans (sm [(1000, 2028), (1001, 2029), (1002, 2030)] [(6, oD (.ptr 6 0)), (7, bD false)] [(6, .box [.own 1000, .own 1001, .own 1002]), (1000, .vec 1 ((([] : List Int)).map Ai)), (1001, .vec 1 ((([] : List Int)).map Ai)), (1002, .vec 1 ((([] : List Int)).map A9))] rfl rfl)))) (Az ?_)
       exact ⟨⟨[_, _], ⟨.cellN _ _ _ _ _ _ _ rfl rfl A0 Ax rfl rfl (HR rfl), ⟨.tmp _ _ rfl, tv⟩⟩, rfl⟩, ⟨rfl, rfl, rfl, tv⟩⟩
      ·have h := Am c37 h
       refine Aq (Ab (Ab (Aa Ac rfl (qa rfl (Ad ?_)))))
       refine AJ (L := Bw N p0 p1 p2 v32 v35) h (fun v38 => mk [(3, oD (.ptr 3 0)), (4, oD (.ptr 4 0)), (6, oD (.ptr 6 0)), (8, oD (.ptr 8 0)), (9, iD p2.fIndex), (11, oD (.ptr 11 0)), (12, pD (.val (.int .u8 v35))), (13, iD v38)] [(3, .box [sC (p0.fVersions.map Ai), sC (p0.fNow.map Ai), sC (p0.fTarget.map Ai), sC (p0.fTables.map Ao)]), (4, .box [sC (p1.fBase.map Ai), sC (p1.fNext.map Ai), sC (p1.fHeld.map A9)]), (6, .box [.pure (.nil0), .pure (.nil0), .pure (.nil0)]), (8, .box [.own 2031, .own 2032, .own 2033]), (11, .box [iC v32.fKind, iC v32.fFrom, iC v32.fTo, .pure (.val (.bool v32.fAware)), sC (v32.fOK.map (EP eB)), sC (v32.fRewrite.map (EP eB))]), (2031, .vec 1 (((([] : List Int)) ++ p1.fBase).map Ai)), (2032, .vec 1 (((([] : List Int)) ++ p1.fNext).map Ai)), (2033, .vec 1 (((([] : List Int)) ++ p1.fHeld).map A9))]) (fun v39 => mk [(6, oD (.ptr 6 0)), (8, oD (.ptr 8 0)), (9, iD p2.fIndex), (12, pD (.val (.int .u8 v35)))] [(6, .box [.pure (.nil0), .pure (.nil0), .pure (.nil0)]), (8, .box [.own 2034, .own 2035, .own 2036]), (2034, .vec 1 (((([] : List Int)) ++ p1.fBase).map Ai)), (2035, .vec 1 (((([] : List Int)) ++ p1.fNext).map Ai)), (2036, .vec 1 (((([] : List Int)) ++ p1.fHeld).map A9))]) (fun _ _ => rfl) (sm [(2031, 18), (2032, 22), (2033, 26)] _ _ rfl rfl) (fun j38 n38 v38 h => ?_) (fun v39 s h hs => ?_)
       ·unfold Bw at h
        refine Ab (Ab (Aa Ac rfl (qm rfl (qf Bt rfl (ql Bg rfl (qf C2 rfl (ql Cc rfl ?_)))))))
        obtain ⟨v40, a40, b40, h⟩ := Ak h
        refine qi AH Df a40 (Ah b40) rfl (qk Cc rfl (AZ rfl (Ad ?_)))
        refine Ap rfl (fun c41 => ?_) (fun c41 => ?_)
        ·have h := An c41 h
         refine Aq (Ab (AP ?_))
         refine AQ h (fun v42 => mk [(3, oD (.ptr 3 0)), (4, oD (.ptr 4 0)), (6, oD (.ptr 6 0)), (8, oD (.ptr 8 0)), (9, iD p2.fIndex), (11, oD (.ptr 11 0)), (12, pD (.val (.int .u8 v35))), (13, iD v38), (14, bD v42)] [(3, .box [sC (p0.fVersions.map Ai), sC (p0.fNow.map Ai), sC (p0.fTarget.map Ai), sC (p0.fTables.map Ao)]), (4, .box [sC (p1.fBase.map Ai), sC (p1.fNext.map Ai), sC (p1.fHeld.map A9)]), (6, .box [.pure (.nil0), .pure (.nil0), .pure (.nil0)]), (8, .box [.own 2037, .own 2038, .own 2039]), (11, .box [iC v32.fKind, iC v32.fFrom, iC v32.fTo, .pure (.val (.bool v32.fAware)), sC (v32.fOK.map (EP eB)), sC (v32.fRewrite.map (EP eB))]), (2037, .vec 1 (((([] : List Int)) ++ p1.fBase).map Ai)), (2038, .vec 1 (((([] : List Int)) ++ p1.fNext).map Ai)), (2039, .vec 1 (((([] : List Int)) ++ p1.fHeld).map A9))]) (fun j42 h => ?_) (fun v42 h => ?_)
         ·refine Aa Ac rfl (qf Cs rfl (ql Ga rfl (qm rfl ?_)))
          obtain ⟨v43, a43, b43, h⟩ := Ak h
          refine qi C3 Fa a43 (Ah b43) rfl (qk IK rfl (qm rfl ?_))
          obtain ⟨v44, a44, h⟩ := bind_some h
          refine AG [] (HF N v43 v38 v44 a44) VL rfl (qm rfl ?_)
          refine AC (t := 166) rfl (fun c45 => ?_) (fun c45 => ?_)
          ·have h := An c45 h
           refine qm rfl (qm rfl ?_)
           obtain ⟨v46, a46, h⟩ := bind_some h
           refine AG [] (HF N v35 v38 v46 a46) VL rfl (Cq rfl (qp rfl (qa rfl (Ad ?_))))
           exact Av _ h (sm [(2037, 2031), (2038, 2032), (2039, 2033)] _ _ rfl rfl)
          ·have h := Am c45 h
           refine qn rfl (qn rfl (qn rfl (qn rfl (qp rfl (qa rfl (Ad ?_))))))
           exact Av _ h (sm [(2037, 2031), (2038, 2032), (2039, 2033)] _ _ rfl rfl)
         ·refine AQ h (fun v47 => mk [(3, oD (.ptr 3 0)), (4, oD (.ptr 4 0)), (6, oD (.ptr 6 0)), (8, oD (.ptr 8 0)), (9, iD p2.fIndex), (11, oD (.ptr 11 0)), (12, pD (.val (.int .u8 v35))), (13, iD v38), (193, bD v47)] [(3, .box [sC (p0.fVersions.map Ai), sC (p0.fNow.map Ai), sC (p0.fTarget.map Ai), sC (p0.fTables.map Ao)]), (4, .box [sC (p1.fBase.map Ai), sC (p1.fNext.map Ai), sC (p1.fHeld.map A9)]), (6, .box [.pure (.nil0), .pure (.nil0), .pure (.nil0)]), (8, .box [.own 2040, .own 2041, .own 2042]), (11, .box [iC v32.fKind, iC v32.fFrom, iC v32.fTo, .pure (.val (.bool v32.fAware)), sC (v32.fOK.map (EP eB)), sC (v32.fRewrite.map (EP eB))]), (2040, .vec 1 (((([] : List Int)) ++ p1.fBase).map Ai)), (2041, .vec 1 (((([] : List Int)) ++ p1.fNext).map Ai)), (2042, .vec 1 (((([] : List Int)) ++ p1.fHeld).map A9))]) (fun j47 h => ?_) (fun v47 h => ?_)
          ·refine Aa Ac rfl (qm rfl (qm rfl ?_))
           refine AC (t := 173) rfl (fun c48 => ?_) (fun c48 => ?_)
           ·have h := An c48 h
            refine qf E3 rfl (ql Cc rfl (BD rfl (qp rfl (qm rfl ?_))))
            refine AC (t := 178) rfl (fun c49 => ?_) (fun c49 => ?_)
            ·have h := An c49 h
             refine qf FK rfl (ql JI rfl (qm rfl ?_))
             obtain ⟨v50, a50, b50, h⟩ := Ak h
             refine qi FU Jz a50 (Ah b50) rfl (qk Mt rfl (qf Cz rfl (ql Bg rfl (qf C2 rfl (ql Cc rfl ?_)))))
             obtain ⟨v51, a51, b51, h⟩ := Ak h
             refine qi AH Df a51 (Ah b51) rfl (qk Cc rfl ?_)
             obtain ⟨v52, a52, b52, h⟩ := Ak h
             refine qi EI PX a52 (Ah b52) rfl (qk SN rfl (Cq rfl (qp rfl (AM (by kernel_rfl) ?_))))
             exact Av _ h (sm [(2040, 2037), (2041, 2038), (2042, 2039)] _ _ rfl rfl)
            ·have h := Am c49 h
             refine qn rfl (qn rfl (qn rfl (qn rfl (qn rfl (qn rfl (qn rfl (qn rfl (qn rfl (qn rfl (qn rfl (qn rfl (qn rfl (qn rfl (qp rfl (AM (by kernel_rfl) ?_)))))))))))))))
             exact Av _ h (sm [(2040, 2037), (2041, 2038), (2042, 2039)] _ _ rfl rfl)
           ·have h := Am c48 h
            refine qn rfl (qn rfl (qn rfl (qp rfl (qm rfl (qn rfl (qn rfl (qn rfl (qn rfl (qn rfl (qn rfl (qn rfl (qn rfl (qn rfl (qn rfl (qn rfl (qn rfl (qn rfl (qn rfl (qp rfl (AM (by kernel_rfl) ?_))))))))))))))))))))
            exact Av _ h (sm [(2040, 2037), (2041, 2038), (2042, 2039)] _ _ rfl rfl)
          ·refine Ap rfl (fun c53 => ?_) (fun c53 => ?_)
           ·have h := An c53 h
            refine Ab (Aa Ac rfl (Bz Cv GR rfl (qs Ax rfl (qa rfl (Ad ?_)))))
            obtain rfl := sj h
            refine Al ((AA 6 0 2043 1 _ rfl rfl rfl rfl).trans ((AA 6 1 2044 1 _ rfl rfl rfl rfl).trans ((AA 6 2 2045 1 _ rfl rfl rfl rfl).trans (sm [(1000, 2043), (1001, 2044), (1002, 2045)] [(6, oD (.ptr 6 0)), (7, bD false)] [(6, .box [.own 1000, .own 1001, .own 1002]), (1000, .vec 1 ((([] : List Int)).map Ai)), (1001, .vec 1 ((([] : List Int)).map Ai)), (1002, .vec 1 ((([] : List Int)).map A9))] rfl rfl)))) (Az ?_)
            exact ⟨⟨[_, _], ⟨.cellN _ _ _ _ _ _ _ rfl rfl A0 Ax rfl rfl (HR rfl), ⟨.tmp _ _ rfl, tv⟩⟩, rfl⟩, ⟨rfl, rfl, rfl, tv⟩⟩
           ·have h := Am c53 h
            refine Aq (Aa Ac rfl (qm rfl (AX rfl (qa rfl (Ad ?_)))))
            exact Av _ h (sm [(2031, 2040), (2032, 2041), (2033, 2042)] _ _ rfl rfl)
        ·have h := Am c41 h
         refine AY ?_
         exact Av _ h (sm [(2034, 2031), (2035, 2032), (2036, 2033)] _ _ rfl rfl)
       ·refine Al hs (Aa Ac rfl (qf Cs rfl (ql Ga rfl (qm rfl (qm rfl ?_)))))
        obtain ⟨v54, a54, b54, h⟩ := Ak h
        refine qI C3 Fa a54 (Ah b54) rfl ?_
        refine A8 rfl rfl rfl rfl (Ah b54) rfl Fa rfl (A5 rfl) (A6 A9 ((([] : List Int)) ++ p1.fHeld) _ v35) ?_
        refine Ad ?_
        exact Av _ h (sm [(2001, 2034), (2002, 2035), (2003, 2036)] _ _ rfl rfl)
    ·have h := Am c31 h
     refine Ab (Ab (Aa Ac rfl (qf BG rfl (ql Bg rfl (qm rfl ?_)))))
     obtain ⟨v55, a55, b55, h⟩ := Ak h
     refine qi AH Df a55 (Ah b55) rfl (qk Cc rfl (AZ rfl (Ad ?_)))
     refine Ap rfl (fun c56 => ?_) (fun c56 => ?_)
     ·have h := An c56 h
      refine Ab (Aa Ac rfl (Bz Cv GR rfl (qs Ax rfl (qa rfl (Ad ?_)))))
      obtain rfl := sj h
      refine Al ((AA 6 0 2046 1 _ rfl rfl rfl rfl).trans ((AA 6 1 2047 1 _ rfl rfl rfl rfl).trans ((AA 6 2 2048 1 _ rfl rfl rfl rfl).trans (sm [(1000, 2046), (1001, 2047), (1002, 2048)] [(6, oD (.ptr 6 0)), (7, bD false)] [(6, .box [.own 1000, .own 1001, .own 1002]), (1000, .vec 1 ((([] : List Int)).map Ai)), (1001, .vec 1 ((([] : List Int)).map Ai)), (1002, .vec 1 ((([] : List Int)).map A9))] rfl rfl)))) (Az ?_)
      exact ⟨⟨[_, _], ⟨.cellN _ _ _ _ _ _ _ rfl rfl A0 Ax rfl rfl (HR rfl), ⟨.tmp _ _ rfl, tv⟩⟩, rfl⟩, ⟨rfl, rfl, rfl, tv⟩⟩
     ·have h := Am c56 h
      refine Aq (Aa Ac rfl (qf BG rfl (ql Bg rfl (qm rfl ?_))))
      obtain ⟨v57, a57, b57, h⟩ := Ak h
      refine qI AH Df a57 (Ah b57) rfl ?_
      refine A8 rfl rfl rfl rfl (Ah b57) rfl Df rfl (A5 rfl) (A6 Ai ((([] : List Int)) ++ p1.fNext) _ ((-1))) ?_
      refine Ad ?_
      exact Av _ h (sm [(2001, 18), (2002, 22), (2003, 26)] _ _ rfl rfl)
 ·refine Ab (Aa Ac rfl (qL A0 Ax rfl (qs Ax rfl (qa rfl (Ad ?_)))))
  obtain rfl := sj h
  refine Al (sm [(1000, 2001), (1001, 2002), (1002, 2003)] [(6, oD (.ptr 6 0)), (7, bD true)] [(6, .box [.own 1000, .own 1001, .own 1002]), (1000, .vec 1 (v4.1.map Ai)), (1001, .vec 1 (v4.2.1.map Ai)), (1002, .vec 1 (v4.2.2.map A9))] rfl rfl) (Az ?_)
  exact ⟨⟨[_, _], ⟨.cellN _ _ _ _ _ _ _ rfl rfl A0 Ax rfl rfl (HR rfl), ⟨.tmp _ _ rfl, tv⟩⟩, rfl⟩, ⟨rfl, rfl, rfl, tv⟩⟩
theorem Jl (N : Nat) (p0 : Ag) (p1 : Ae) (p2 : Aj) (r : Ae × Int) (h : DH N p0 p1 p2 = some r) : AB Tryz.prog 66 [.e (.agg [sC (p0.fVersions.map Ai), sC (p0.fNow.map Ai), sC (p0.fTarget.map Ai), sC (p0.fTables.map Ao)]), .e (.agg [sC (p1.fBase.map Ai), sC (p1.fNext.map Ai), sC (p1.fHeld.map A9)]), .e (.agg [iC p2.fKind, iC p2.fIndex, iC p2.fVersion])] [(1, r.1.fBase.map Ai), (1, r.1.fNext.map Ai), (1, r.1.fHeld.map A9)] (.tup [.agg [.own 0, .own 1, .own 2], .one (iC r.2)]) := by
 unfold DH at h
 refine Au (n := 73) (rs := [.cell 6 50, .tmp 7]) Tryz.func66 rfl rfl rfl (A5 rfl) (A5 rfl) rfl fun w0 S0 => ?_
 refine Ab (Aa Ac rfl (qb rfl (qb rfl (qb rfl (qz Cv rfl (qa rfl (Ad (Ab (Ab (Aa Ac rfl (qL DP Dr rfl (qL A0 Ax rfl ?_))))))))))))
 obtain ⟨v1, a1, h⟩ := bind_some h
 refine AG [] (Jo N p0 p1 v1 a1) Xz rfl (qa rfl (Ad (Ab (Aa Ac rfl (qm rfl (B6 rfl (Ad ?_)))))))
 refine Ap rfl (fun c2 => ?_) (fun c2 => ?_)
 ·have h := An c2 h
  refine Ab (Aa Ac rfl (Bz Cv GR rfl (qm rfl (qs Ax rfl (qa rfl (Ad ?_))))))
  obtain rfl := sj h
  refine Al ((AA 6 0 2001 1 _ rfl rfl rfl rfl).trans ((AA 6 1 2002 1 _ rfl rfl rfl rfl).trans ((AA 6 2 2003 1 _ rfl rfl rfl rfl).trans (sm [(1000, 2001), (1001, 2002), (1002, 2003)] [(6, oD (.ptr 6 0)), (7, iD v1)] [(6, .box [.own 1000, .own 1001, .own 1002]), (1000, .vec 1 ((([] : List Int)).map Ai)), (1001, .vec 1 ((([] : List Int)).map Ai)), (1002, .vec 1 ((([] : List Int)).map A9))] rfl rfl)))) (Az ?_)
  exact ⟨⟨[_, _], ⟨.cellN _ _ _ _ _ _ _ rfl rfl A0 Ax rfl rfl (HR rfl), ⟨.tmp _ _ rfl, tv⟩⟩, rfl⟩, ⟨rfl, rfl, rfl, tv⟩⟩
 ·have h := Am c2 h
  refine Aq (Ab (Ab (Aa Ac rfl (qL GS CT rfl ?_))))
  obtain ⟨v3, a3, h⟩ := bind_some h
  refine AG [] (Jq N p2 v3 a3) Xw rfl (Cq rfl (Ad ?_))
  refine Ap rfl (fun c4 => ?_) (fun c4 => ?_)
  ·have h := An c4 h
   refine Ab (Aa Ac rfl (Bz Cv GR rfl (qs Ax rfl (qa rfl (Ad ?_)))))
   obtain rfl := sj h
   refine Al ((AA 6 0 2004 1 _ rfl rfl rfl rfl).trans ((AA 6 1 2005 1 _ rfl rfl rfl rfl).trans ((AA 6 2 2006 1 _ rfl rfl rfl rfl).trans (sm [(1000, 2004), (1001, 2005), (1002, 2006)] [(6, oD (.ptr 6 0)), (7, iD 1)] [(6, .box [.own 1000, .own 1001, .own 1002]), (1000, .vec 1 ((([] : List Int)).map Ai)), (1001, .vec 1 ((([] : List Int)).map Ai)), (1002, .vec 1 ((([] : List Int)).map A9))] rfl rfl)))) (Az ?_)
   exact ⟨⟨[_, _], ⟨.cellN _ _ _ _ _ _ _ rfl rfl A0 Ax rfl rfl (HR rfl), ⟨.tmp _ _ rfl, tv⟩⟩, rfl⟩, ⟨rfl, rfl, rfl, tv⟩⟩
  ·have h := Am c4 h
   refine Aq (Ab ?_)
   refine AQ h (fun v5 => mk [(3, oD (.ptr 3 0)), (4, oD (.ptr 4 0)), (5, oD (.ptr 5 0)), (6, oD (.ptr 6 0)), (45, bD v5)] [(3, .box [sC (p0.fVersions.map Ai), sC (p0.fNow.map Ai), sC (p0.fTarget.map Ai), sC (p0.fTables.map Ao)]), (4, .box [sC (p1.fBase.map Ai), sC (p1.fNext.map Ai), sC (p1.fHeld.map A9)]), (5, .box [iC p2.fKind, iC p2.fIndex, iC p2.fVersion]), (6, .box [.pure (.nil0), .pure (.nil0), .pure (.nil0)])]) (fun j5 h => ?_) (fun v5 h => ?_)
   ·refine Aa Ac rfl (qf EK rfl (ql Cc rfl (BD rfl (qm rfl ?_))))
    refine AC (t := 25) rfl (fun c6 => ?_) (fun c6 => ?_)
    ·have h := An c6 h
     refine qf Eb rfl (ql Cc rfl (qf CA rfl (ql Gu rfl (AV DN rfl (CW rfl (qp rfl (qm rfl ?_)))))))
     refine AC (t := 33) rfl (fun c7 => ?_) (fun c7 => ?_)
     ·have h := An c7 h
      refine qn rfl (qn rfl (qn rfl (qn rfl (qu rfl (qu rfl (qu rfl (qu rfl (qu rfl (qu rfl (qn rfl (qp rfl (Ad ?_))))))))))))
      exact Av _ h (sm [] _ _ rfl rfl)
     ·have h := Am c7 h
      refine qf EK rfl (ql Cc rfl (B6 rfl (qm rfl ?_)))
      refine AC (t := 37) rfl (fun c8 => ?_) (fun c8 => ?_)
      ·have h := An c8 h
       refine qf Eb rfl (ql Cc rfl (qf Bt rfl (ql Bg rfl (AV AH rfl (CW rfl (qp rfl (qp rfl (Ad ?_))))))))
       exact Av _ h (sm [] _ _ rfl rfl)
      ·have h := Am c8 h
       refine qn rfl (qn rfl (qn rfl (qn rfl (qn rfl (qn rfl (qp rfl (qp rfl (Ad ?_))))))))
       exact Av _ h (sm [] _ _ rfl rfl)
    ·have h := Am c6 h
     refine qn rfl (qn rfl (qn rfl (qn rfl (qn rfl (qn rfl (qp rfl (qm rfl (qf EK rfl (ql Cc rfl (B6 rfl (qm rfl ?_)))))))))))
     refine AC (t := 37) rfl (fun c9 => ?_) (fun c9 => ?_)
     ·have h := An c9 h
      refine qf Eb rfl (ql Cc rfl (qf Bt rfl (ql Bg rfl (AV AH rfl (CW rfl (qp rfl (qp rfl (Ad ?_))))))))
      exact Av _ h (sm [] _ _ rfl rfl)
     ·have h := Am c9 h
      refine qn rfl (qn rfl (qn rfl (qn rfl (qn rfl (qn rfl (qp rfl (qp rfl (Ad ?_))))))))
      exact Av _ h (sm [] _ _ rfl rfl)
   ·refine Ap rfl (fun c10 => ?_) (fun c10 => ?_)
    ·have h := An c10 h
     refine Ab (Aa Ac rfl (Bz Cv GR rfl (qs Ax rfl (qa rfl (Ad ?_)))))
     obtain rfl := sj h
     refine Al ((AA 6 0 2007 1 _ rfl rfl rfl rfl).trans ((AA 6 1 2008 1 _ rfl rfl rfl rfl).trans ((AA 6 2 2009 1 _ rfl rfl rfl rfl).trans (sm [(1000, 2007), (1001, 2008), (1002, 2009)] [(6, oD (.ptr 6 0)), (7, iD 4)] [(6, .box [.own 1000, .own 1001, .own 1002]), (1000, .vec 1 ((([] : List Int)).map Ai)), (1001, .vec 1 ((([] : List Int)).map Ai)), (1002, .vec 1 ((([] : List Int)).map A9))] rfl rfl)))) (Az ?_)
     exact ⟨⟨[_, _], ⟨.cellN _ _ _ _ _ _ _ rfl rfl A0 Ax rfl rfl (HR rfl), ⟨.tmp _ _ rfl, tv⟩⟩, rfl⟩, ⟨rfl, rfl, rfl, tv⟩⟩
    ·have h := Am c10 h
     refine Aq (Ab ?_)
     refine AQ h (fun v11 => mk [(3, oD (.ptr 3 0)), (4, oD (.ptr 4 0)), (5, oD (.ptr 5 0)), (6, oD (.ptr 6 0)), (60, bD v11)] [(3, .box [sC (p0.fVersions.map Ai), sC (p0.fNow.map Ai), sC (p0.fTarget.map Ai), sC (p0.fTables.map Ao)]), (4, .box [sC (p1.fBase.map Ai), sC (p1.fNext.map Ai), sC (p1.fHeld.map A9)]), (5, .box [iC p2.fKind, iC p2.fIndex, iC p2.fVersion]), (6, .box [.pure (.nil0), .pure (.nil0), .pure (.nil0)])]) (fun j11 h => ?_) (fun v11 h => ?_)
     ·refine Aa Ac rfl (qf EK rfl (ql Cc rfl (BD rfl (qm rfl ?_))))
      refine AC (t := 50) rfl (fun c12 => ?_) (fun c12 => ?_)
      ·have h := An c12 h
       refine qf FH rfl (ql Cc rfl (qf Bt rfl (ql Bg rfl (qf Eb rfl (ql Cc rfl ?_)))))
       obtain ⟨v13, a13, b13, h⟩ := Ak h
       refine qi AH Df a13 (Ah b13) rfl (qk Cc rfl (CW rfl (qp rfl (AM (by kernel_rfl) ?_))))
       exact Av _ h (sm [] _ _ rfl rfl)
      ·have h := Am c12 h
       refine qn rfl (qn rfl (qn rfl (qn rfl (qn rfl (qn rfl (qn rfl (qn rfl (qn rfl (qp rfl (AM (by kernel_rfl) ?_))))))))))
       exact Av _ h (sm [] _ _ rfl rfl)
     ·refine Ap rfl (fun c14 => ?_) (fun c14 => ?_)
      ·have h := An c14 h
       refine Ab (Aa Ac rfl (Bz Cv GR rfl (qs Ax rfl (qa rfl (Ad ?_)))))
       obtain rfl := sj h
       refine Al ((AA 6 0 2010 1 _ rfl rfl rfl rfl).trans ((AA 6 1 2011 1 _ rfl rfl rfl rfl).trans ((AA 6 2 2012 1 _ rfl rfl rfl rfl).trans (sm [(1000, 2010), (1001, 2011), (1002, 2012)] [(6, oD (.ptr 6 0)), (7, iD 4)] [(6, .box [.own 1000, .own 1001, .own 1002]), (1000, .vec 1 ((([] : List Int)).map Ai)), (1001, .vec 1 ((([] : List Int)).map Ai)), (1002, .vec 1 ((([] : List Int)).map A9))] rfl rfl)))) (Az ?_)
       exact ⟨⟨[_, _], ⟨.cellN _ _ _ _ _ _ _ rfl rfl A0 Ax rfl rfl (HR rfl), ⟨.tmp _ _ rfl, tv⟩⟩, rfl⟩, ⟨rfl, rfl, rfl, tv⟩⟩
      ·have h := Am c14 h
       refine Aq (Ab (Aa Ac rfl (qL DP Dr rfl (qL A0 Ax rfl (qL GS CT rfl ?_)))))
       obtain ⟨v15, a15, h⟩ := bind_some h
       refine AG [2013, 2014, 2015] (Fs N p0 p1 p2 v15 a15) UY rfl (qm rfl (qx rfl (qx rfl (qz Cv rfl (qs Ax rfl (qa rfl (Ad (Ab (Ab (Aa Ac rfl (qm rfl (Cq rfl (Ad ?_)))))))))))))
       refine Ap rfl (fun c16 => ?_) (fun c16 => ?_)
       ·have h := An c16 h
        refine Ab (Aa Ac rfl (Bz Cv GR rfl (qs Ax rfl (qa rfl (Ad ?_)))))
        obtain rfl := sj h
        refine Al ((AA 6 0 2016 1 _ rfl rfl rfl rfl).trans ((AA 6 1 2017 1 _ rfl rfl rfl rfl).trans ((AA 6 2 2018 1 _ rfl rfl rfl rfl).trans (sm [(1000, 2016), (1001, 2017), (1002, 2018)] [(6, oD (.ptr 6 0)), (7, iD 11)] [(6, .box [.own 1000, .own 1001, .own 1002]), (1000, .vec 1 ((([] : List Int)).map Ai)), (1001, .vec 1 ((([] : List Int)).map Ai)), (1002, .vec 1 ((([] : List Int)).map A9))] rfl rfl)))) (Az ?_)
        exact ⟨⟨[_, _], ⟨.cellN _ _ _ _ _ _ _ rfl rfl A0 Ax rfl rfl (HR rfl), ⟨.tmp _ _ rfl, tv⟩⟩, rfl⟩, ⟨rfl, rfl, rfl, tv⟩⟩
       ·have h := Am c16 h
        refine Aq (Ab (Aa Ac rfl (qL A0 Ax rfl (qs Ax rfl (qa rfl (Ad ?_))))))
        obtain rfl := sj h
        refine Al (sm [(1000, 2013), (1001, 2014), (1002, 2015)] [(6, oD (.ptr 6 0)), (7, iD 0)] [(6, .box [.own 1000, .own 1001, .own 1002]), (1000, .vec 1 (v15.1.fBase.map Ai)), (1001, .vec 1 (v15.1.fNext.map Ai)), (1002, .vec 1 (v15.1.fHeld.map A9))] rfl rfl) (Az ?_)
        exact ⟨⟨[_, _], ⟨.cellN _ _ _ _ _ _ _ rfl rfl A0 Ax rfl rfl (HR rfl), ⟨.tmp _ _ rfl, tv⟩⟩, rfl⟩, ⟨rfl, rfl, rfl, tv⟩⟩
theorem Jr (N : Nat) (p0 : Ag) (p1 : Ae) (r : (List Aj)) (h : DL N p0 p1 = some r) : AB Tryz.prog 51 [.e (.agg [sC (p0.fVersions.map Ai), sC (p0.fNow.map Ai), sC (p0.fTarget.map Ai), sC (p0.fTables.map Ao)]), .e (.agg [sC (p1.fBase.map Ai), sC (p1.fNext.map Ai), sC (p1.fHeld.map A9)])] [(3, r.map Ay)] (oD (.own 0)) := by
 unfold DL at h
 refine Au (n := 49) (rs := [.tmp 4]) Tryz.func51 rfl rfl rfl (A5 rfl) (A5 rfl) rfl fun w0 S0 => ?_
 refine Ab (Aa Ac rfl (qb rfl (qb rfl (qa rfl (Ad (Ab (Aa Ac rfl (qa rfl (Ad (Ab (Ab (Aa Ac rfl (qa rfl (Ad ?_))))))))))))))
 refine AJ (L := Bo N p0 p1) h (fun v1 => mk [(2, oD (.ptr 2 0)), (3, oD (.ptr 3 0)), (5, oD (.own 2001)), (6, iD v1.2)] [(2, .box [sC (p0.fVersions.map Ai), sC (p0.fNow.map Ai), sC (p0.fTarget.map Ai), sC (p0.fTables.map Ao)]), (3, .box [sC (p1.fBase.map Ai), sC (p1.fNext.map Ai), sC (p1.fHeld.map A9)]), (2001, .vec 3 (v1.1.map Ay))]) (fun v2 => mk [(5, oD (.own 2002))] [(2002, .vec 3 (v2.map Ay))]) (fun _ _ => rfl) ((Bn 5 2011 3 rfl rfl rfl).trans (sm [(2001, 2011)] _ _ rfl rfl)) (fun j1 n1 v1 h => ?_) (fun v2 s h hs => ?_)
 ·unfold Bo at h
  refine Ab (Ab (Aa Ac rfl (qm rfl (JH rfl (Ad ?_)))))
  refine Ap rfl (fun c3 => ?_) (fun c3 => ?_)
  ·have h := An c3 h
   refine Aq (Ab (AP (Ab (Aa Ac rfl (qa rfl (Ad ?_))))))
   refine AJ (L := BW N p0 p1 v1) h (fun v4 => mk [(2, oD (.ptr 2 0)), (3, oD (.ptr 3 0)), (5, oD (.own 2003)), (6, iD v1.2), (7, iD v4.2)] [(2, .box [sC (p0.fVersions.map Ai), sC (p0.fNow.map Ai), sC (p0.fTarget.map Ai), sC (p0.fTables.map Ao)]), (3, .box [sC (p1.fBase.map Ai), sC (p1.fNext.map Ai), sC (p1.fHeld.map A9)]), (2003, .vec 3 (v4.1.map Ay))]) (fun v5 => mk [(2, oD (.ptr 2 0)), (3, oD (.ptr 3 0)), (5, oD (.own 2004)), (6, iD v1.2)] [(2, .box [sC (p0.fVersions.map Ai), sC (p0.fNow.map Ai), sC (p0.fTarget.map Ai), sC (p0.fTables.map Ao)]), (3, .box [sC (p1.fBase.map Ai), sC (p1.fNext.map Ai), sC (p1.fHeld.map A9)]), (2004, .vec 3 (v5.map Ay))]) (fun _ _ => rfl) (sm [(2003, 2001)] _ _ rfl rfl) (fun j4 n4 v4 h => ?_) (fun v5 s h hs => ?_)
   ·unfold BW at h
    refine Ab (Ab (Aa Ac rfl (qm rfl (qf Bt rfl (ql Bg rfl (AV AH rfl (qf CA rfl (ql Gu rfl (AV DN rfl ?_)))))))))
    refine Wv (.p rfl) rfl rfl ?_
    refine AZ rfl (Ad ?_)
    refine Ap rfl (fun c6 => ?_) (fun c6 => ?_)
    ·have h := An c6 h
     refine Aq (Ab (AP (Ab (Aa Ac rfl (qa rfl (Ad ?_))))))
     refine AJ (L := BV N p0 p1 v1 v4) h (fun v7 => mk [(2, oD (.ptr 2 0)), (3, oD (.ptr 3 0)), (5, oD (.own 2005)), (6, iD v1.2), (7, iD v4.2), (8, iD v7.2)] [(2, .box [sC (p0.fVersions.map Ai), sC (p0.fNow.map Ai), sC (p0.fTarget.map Ai), sC (p0.fTables.map Ao)]), (3, .box [sC (p1.fBase.map Ai), sC (p1.fNext.map Ai), sC (p1.fHeld.map A9)]), (2005, .vec 3 (v7.1.map Ay))]) (fun v8 => mk [(2, oD (.ptr 2 0)), (3, oD (.ptr 3 0)), (5, oD (.own 2006)), (6, iD v1.2), (7, iD v4.2)] [(2, .box [sC (p0.fVersions.map Ai), sC (p0.fNow.map Ai), sC (p0.fTarget.map Ai), sC (p0.fTables.map Ao)]), (3, .box [sC (p1.fBase.map Ai), sC (p1.fNext.map Ai), sC (p1.fHeld.map A9)]), (2006, .vec 3 (v8.map Ay))]) (fun _ _ => rfl) (sm [(2005, 2003)] _ _ rfl rfl) (fun j7 n7 v7 h => ?_) (fun v8 s h hs => ?_)
     ·unfold BV at h
      refine Ab (Ab (Aa Ac rfl (qm rfl (AZ rfl (Ad ?_)))))
      refine Ap rfl (fun c9 => ?_) (fun c9 => ?_)
      ·have h := An c9 h
       refine Aq ?_
       refine AQ h (fun v10 => mk [(2, oD (.ptr 2 0)), (3, oD (.ptr 3 0)), (5, oD (.own 2007)), (6, iD v1.2), (7, iD v4.2), (8, iD v7.2)] [(2, .box [sC (p0.fVersions.map Ai), sC (p0.fNow.map Ai), sC (p0.fTarget.map Ai), sC (p0.fTables.map Ao)]), (3, .box [sC (p1.fBase.map Ai), sC (p1.fNext.map Ai), sC (p1.fHeld.map A9)]), (2007, .vec 3 (v10.map Ay))]) (fun j10 h => ?_) (fun v10 h => ?_)
       ·refine AP (Ab (Aa Ac rfl (qm rfl (qm rfl (qm rfl (Bz EQ OO rfl (qz EQ rfl (qs CT rfl (Ad (Ab (Aa Ac rfl (qL DP Dr rfl (qL A0 Ax rfl (qL GS CT rfl ?_))))))))))))))
        obtain ⟨v11, a11, h⟩ := bind_some h
        refine AG [2008, 2009, 2010] (Jl N p0 p1 ((Aj.mk v1.2 v4.2 v7.2)) v11 a11) XB rfl (qm rfl (qx rfl (qx rfl (qz Cv rfl (qs Ax rfl (qa rfl (Ad (Ab (Aa Ac rfl (qm rfl (BD rfl (Ad ?_))))))))))))
        refine Ap rfl (fun c12 => ?_) (fun c12 => ?_)
        ·have h := An c12 h
         refine Aa Ac rfl (qm rfl (qL GS CT rfl (DT BX CT EQ rfl ?_)))
         obtain ⟨c13, h⟩ := AL h
         refine CQ (f := Ay) BX BX CT IC EQ c13 rfl (qa rfl (Ad ?_))
         exact Av _ h (sm [(2007, 47)] _ _ rfl rfl)
        ·have h := Am c12 h
         refine Aq ?_
         exact Av _ h (sm [(2007, 2005)] _ _ rfl rfl)
       ·refine Aa Ac rfl (qm rfl (AX rfl (qa rfl (Ad ?_))))
        exact Av _ h (sm [(2005, 2007)] _ _ rfl rfl)
      ·have h := Am c9 h
       refine AY ?_
       exact Av _ h (sm [(2006, 2005)] _ _ rfl rfl)
     ·refine Al hs (Aa Ac rfl (qm rfl (AX rfl (qa rfl (Ad ?_)))))
      exact Av _ h (sm [(2003, 2006)] _ _ rfl rfl)
    ·have h := Am c6 h
     refine AY ?_
     exact Av _ h (sm [(2004, 2003)] _ _ rfl rfl)
   ·refine Al hs (Aa Ac rfl (qm rfl (AX rfl (qa rfl (Ad ?_)))))
    exact Av _ h (sm [(2001, 2004)] _ _ rfl rfl)
  ·have h := Am c3 h
   refine AY ?_
   exact Av _ h (sm [(2002, 2001)] _ _ rfl rfl)
 ·refine Al hs (Ab (Aa Ac rfl (qm rfl (qa rfl (Ad ?_)))))
  obtain rfl := sj h
  refine Al (sm [(1000, 2002)] [(4, oD (.own 1000))] [(1000, .vec 3 (v2.map Ay))] rfl rfl) (Az ?_)
  exact ⟨⟨[_], ⟨.tmp _ _ rfl, tv⟩, rfl⟩, ⟨rfl, tv⟩⟩
theorem JT (N : Nat) (p0 : Ag) (p1 : Ae) (p2 : List Int) (p3 : Bool) (r : (List Aj) × Ae) (h : DV N p0 p1 p2 p3 = some r) : AB Tryz.prog 31 [.e (.agg [sC (p0.fVersions.map Ai), sC (p0.fNow.map Ai), sC (p0.fTarget.map Ai), sC (p0.fTables.map Ao)]), .e (.agg [sC (p1.fBase.map Ai), sC (p1.fNext.map Ai), sC (p1.fHeld.map A9)]), pD (.sl (p2.map A9)), bD p3] [(3, r.1.map Ay)] (.tup [.one (.own 0), .agg [sC (r.2.fBase.map Ai), sC (r.2.fNext.map Ai), sC (r.2.fHeld.map A9)]]) := by
 unfold DV at h
 refine Au (n := 72) (rs := [.tmp 8, .cell 9 50]) Tryz.func31 rfl rfl rfl (A5 rfl) (A5 rfl) rfl fun w0 S0 => ?_
 refine Ab (Aa Ac rfl (qb rfl (qb rfl (qa rfl (qz Cv rfl (Ad (Ab (Aa Ac rfl (qa rfl (Ad (Ab (Ab (Aa Ac rfl (qa rfl (Ad ?_)))))))))))))))
 refine AJ (L := CI N p0 p2 p3) h (fun v1 => mk [(2, pD (.sl (p2.map A9))), (3, bD p3), (4, oD (.ptr 4 0)), (5, oD (.ptr 5 0)), (9, oD (.ptr 9 0)), (10, oD (.own 2001)), (11, iD v1.2.2.2.2)] [(4, .box [sC (p0.fVersions.map Ai), sC (p0.fNow.map Ai), sC (p0.fTarget.map Ai), sC (p0.fTables.map Ao)]), (5, .box [sC (v1.1.map Ai), sC (v1.2.1.map Ai), sC (v1.2.2.1.map A9)]), (9, .box [.pure (.nil0), .pure (.nil0), .pure (.nil0)]), (2001, .vec 3 (v1.2.2.2.1.map Ay))]) (fun v2 => mk [(5, oD (.ptr 5 0)), (9, oD (.ptr 9 0)), (10, oD (.own 2002))] [(5, .box [sC (v2.1.fBase.map Ai), sC (v2.1.fNext.map Ai), sC (v2.1.fHeld.map A9)]), (9, .box [.pure (.nil0), .pure (.nil0), .pure (.nil0)]), (2002, .vec 3 (v2.2.map Ay))]) (fun _ _ => rfl) ((Bn 10 2015 3 rfl rfl rfl).trans (sm [(2001, 2015)] _ _ rfl rfl)) (fun j1 n1 v1 h => ?_) (fun v2 s h hs => ?_)
 ·unfold CI at h
  refine Ab (Ab (Aa Ac rfl (qm rfl (qm rfl (AV Gl rfl (AZ rfl (Ad ?_)))))))
  refine Ap rfl (fun c3 => ?_) (fun c3 => ?_)
  ·have h := An c3 h
   refine Aq (Ab (AP (Ab (Aa Ac rfl (qL DP Dr rfl (qL A0 Ax rfl ?_))))))
   obtain ⟨v4, a4, h⟩ := bind_some h
   refine AG [2003] (Jr N p0 ((Ae.mk v1.1 v1.2.1 v1.2.2.1)) v4 a4) Xa rfl (qa rfl (Ad (Ab (Ab (Aa Ac rfl (qa rfl (Ad ?_)))))))
   refine AJ (L := CO N p0 p3 v1) h (fun v5 => mk [(2, pD (.sl (p2.map A9))), (3, bD p3), (4, oD (.ptr 4 0)), (5, oD (.ptr 5 0)), (9, oD (.ptr 9 0)), (10, oD (.own 2004)), (11, iD v1.2.2.2.2), (12, oD (.own 2005)), (13, iD v5.2)] [(4, .box [sC (p0.fVersions.map Ai), sC (p0.fNow.map Ai), sC (p0.fTarget.map Ai), sC (p0.fTables.map Ao)]), (5, .box [sC (v1.1.map Ai), sC (v1.2.1.map Ai), sC (v1.2.2.1.map A9)]), (9, .box [.pure (.nil0), .pure (.nil0), .pure (.nil0)]), (2004, .vec 3 (v1.2.2.2.1.map Ay)), (2005, .vec 3 (v5.1.map Ay))]) (fun v6 => mk [(2, pD (.sl (p2.map A9))), (3, bD p3), (4, oD (.ptr 4 0)), (5, oD (.ptr 5 0)), (9, oD (.ptr 9 0)), (10, oD (.own 2006)), (11, iD v1.2.2.2.2), (12, oD (.own 2007))] [(4, .box [sC (p0.fVersions.map Ai), sC (p0.fNow.map Ai), sC (p0.fTarget.map Ai), sC (p0.fTables.map Ao)]), (5, .box [sC (v1.1.map Ai), sC (v1.2.1.map Ai), sC (v1.2.2.1.map A9)]), (9, .box [.pure (.nil0), .pure (.nil0), .pure (.nil0)]), (2006, .vec 3 (v1.2.2.2.1.map Ay)), (2007, .vec 3 (v6.map Ay))]) (fun _ _ => rfl) (sm [(2004, 2001), (2005, 2003)] _ _ rfl rfl) (fun j5 n5 v5 h => ?_) (fun v6 s h hs => ?_)
   ·unfold CO at h
    refine Ab ?_
    refine AQ h (fun v7 => mk [(2, pD (.sl (p2.map A9))), (3, bD p3), (4, oD (.ptr 4 0)), (5, oD (.ptr 5 0)), (9, oD (.ptr 9 0)), (10, oD (.own 2008)), (11, iD v1.2.2.2.2), (12, oD (.own 2009)), (13, iD v5.2), (31, bD v7)] [(4, .box [sC (p0.fVersions.map Ai), sC (p0.fNow.map Ai), sC (p0.fTarget.map Ai), sC (p0.fTables.map Ao)]), (5, .box [sC (v1.1.map Ai), sC (v1.2.1.map Ai), sC (v1.2.2.1.map A9)]), (9, .box [.pure (.nil0), .pure (.nil0), .pure (.nil0)]), (2008, .vec 3 (v1.2.2.2.1.map Ay)), (2009, .vec 3 (v5.1.map Ay))]) (fun j7 h => ?_) (fun v7 h => ?_)
    ·refine Aa Ac rfl (qm rfl (qf Bt rfl (ql Bg rfl (AV AH rfl (AZ rfl (qm rfl ?_))))))
     refine AC (t := 29) rfl (fun c8 => ?_) (fun c8 => ?_)
     ·have h := An c8 h
      refine qm rfl (qp rfl (Ad ?_))
      exact Av _ h (sm [(2008, 2004), (2009, 2005)] _ _ rfl rfl)
     ·have h := Am c8 h
      refine qn rfl (qp rfl (Ad ?_))
      exact Av _ h (sm [(2008, 2004), (2009, 2005)] _ _ rfl rfl)
    ·refine Ap rfl (fun c9 => ?_) (fun c9 => ?_)
     ·have h := An c9 h
      refine Aq ?_
      refine AQ h (fun v10 => mk [(2, pD (.sl (p2.map A9))), (3, bD p3), (4, oD (.ptr 4 0)), (5, oD (.ptr 5 0)), (9, oD (.ptr 9 0)), (10, oD (.own 2010)), (11, iD v1.2.2.2.2), (12, oD (.own 2011)), (13, iD v5.2)] [(4, .box [sC (p0.fVersions.map Ai), sC (p0.fNow.map Ai), sC (p0.fTarget.map Ai), sC (p0.fTables.map Ao)]), (5, .box [sC (v1.1.map Ai), sC (v1.2.1.map Ai), sC (v1.2.2.1.map A9)]), (9, .box [.pure (.nil0), .pure (.nil0), .pure (.nil0)]), (2010, .vec 3 (v1.2.2.2.1.map Ay)), (2011, .vec 3 (v10.map Ay))]) (fun j10 h => ?_) (fun v10 h => ?_)
      ·refine AP (Ab (Aa Ac rfl (qf BG rfl (ql Bg rfl (qm rfl ?_)))))
       obtain ⟨v11, a11, b11, h⟩ := Ak h
       refine qi AH Df a11 (Ah b11) rfl (qk Cc rfl (CW rfl (Ad ?_)))
       refine Ap rfl (fun c12 => ?_) (fun c12 => ?_)
       ·have h := An c12 h
        refine Aa Ac rfl (qm rfl (qm rfl (Bz EQ OO rfl (DT BX CT EQ rfl ?_))))
        obtain ⟨c13, h⟩ := AL h
        refine CQ (f := Ay) BX BX CT IC EQ c13 rfl (qa rfl (Ad ?_))
        exact Av _ h (sm [(2010, 2008), (2011, 44)] _ _ rfl rfl)
       ·have h := Am c12 h
        refine Aq ?_
        exact Av _ h (sm [(2010, 2008), (2011, 2009)] _ _ rfl rfl)
      ·refine Aa Ac rfl (qm rfl (AX rfl (qa rfl (Ad ?_))))
       exact Av _ h (sm [(2004, 2010), (2005, 2011)] _ _ rfl rfl)
     ·have h := Am c9 h
      refine AY ?_
      exact Av _ h (sm [(2006, 2008), (2007, 2009)] _ _ rfl rfl)
   ·refine Al hs (Ab (Ab (Aa Ac rfl (qm rfl (Dz BX rfl (BD rfl (Ad ?_)))))))
    refine Ap rfl (fun c14 => ?_) (fun c14 => ?_)
    ·have h := An c14 h
     refine AY ?_
     exact Av _ h (sm [(2002, 2006)] _ _ rfl rfl)
    ·have h := Am c14 h
     refine Aq (Ab (Aa Ac rfl (qm rfl (qm rfl (qm rfl ?_)))))
     obtain ⟨v15, a15, b15, h⟩ := Ak h
     refine qi Gl SO a15 (Ah b15) rfl (qk Un rfl (FO SP QU rfl (qm rfl (Dz BX rfl ?_))))
     obtain ⟨c16, h⟩ := AL h
     refine Jv rfl c16 ?_
     obtain ⟨v17, a17, b17, h⟩ := Ak h
     refine qI BX CT a17 (Ah b17) rfl (qJ GS CT (Ah b17) rfl (qz EQ rfl (qs CT rfl (Ad (Ab (Aa Ac rfl (qL DP Dr rfl (qL A0 Ax rfl (qL GS CT rfl ?_)))))))))
     obtain ⟨v18, a18, h⟩ := bind_some h
     refine AG [2012, 2013, 2014] (Fs N p0 ((Ae.mk v1.1 v1.2.1 v1.2.2.1)) v17 v18 a18) UY rfl (qm rfl (qx rfl (qx rfl (qs Ax rfl (Ad (Aa Ac rfl (qm rfl (qL GS CT rfl (DT BX CT EQ rfl ?_)))))))))
     obtain ⟨c19, h⟩ := AL h
     refine CQ (f := Ay) BX BX CT IC EQ c19 rfl (qa rfl (Ad (Aa Ac rfl (qm rfl (AX rfl (qa rfl (Ad ?_)))))))
     exact Av _ h ((A1 2012 _ _ rfl rfl).trans ((A1 2013 _ _ rfl rfl).trans ((A1 2014 _ _ rfl rfl).trans (sm [(2001, 69)] _ _ rfl rfl))))
  ·have h := Am c3 h
   refine AY ?_
   exact Av _ h (sm [(2002, 2001)] _ _ rfl rfl)
 ·refine Al hs (Ab (Aa Ac rfl (qm rfl (qL A0 Ax rfl (qa rfl (qs Ax rfl (AM (by kernel_rfl) ?_)))))))
  obtain rfl := sj h
  refine Al (sm [(1000, 2002)] [(8, oD (.own 1000)), (9, oD (.ptr 9 0))] [(9, .box [sC (v2.1.fBase.map Ai), sC (v2.1.fNext.map Ai), sC (v2.1.fHeld.map A9)]), (1000, .vec 3 (v2.2.map Ay))] rfl rfl) (Az ?_)
  exact ⟨⟨[_, _], ⟨.tmp _ _ rfl, ⟨.cellN _ _ _ _ _ _ _ rfl rfl A0 Ax rfl rfl (HR rfl), tv⟩⟩, rfl⟩, ⟨rfl, tv⟩⟩
theorem J2 (N : Nat) (p0 : Ag) (p1 : List Aj) (r : Ae × Int × Int) (h : D1 N p0 p1 = some r) : AB Tryz.prog 28 [.e (.agg [sC (p0.fVersions.map Ai), sC (p0.fNow.map Ai), sC (p0.fTarget.map Ai), sC (p0.fTables.map Ao)]), pD (.sl (p1.map Ay))] [] (.tup [.agg [sC (r.1.fBase.map Ai), sC (r.1.fNext.map Ai), sC (r.1.fHeld.map A9)], .one (iC r.2.1), .one (iC r.2.2)]) := by
 unfold D1 at h
 refine Au (n := 27) (rs := [.cell 4 50, .tmp 5, .tmp 6]) Tryz.func28 rfl rfl rfl (A5 rfl) (A5 rfl) rfl fun w0 S0 => ?_
 refine Ab (Aa Ac rfl (qb rfl (qz Cv rfl (qa rfl (qa rfl (Ad (Ab (Aa Ac rfl (qL DP Dr rfl (qm rfl ?_))))))))))
 obtain ⟨v1, a1, h⟩ := bind_some h
 refine AG [2001] (IZ N p0 p1 v1 a1) UP rfl (qm rfl (qx rfl (qx rfl (qx rfl (qa rfl (qa rfl (qa rfl (Ad (Ab (Ab (Aa Ac rfl (qm rfl (B6 rfl (Ad ?_))))))))))))))
 refine Ap rfl (fun c2 => ?_) (fun c2 => ?_)
 ·have h := An c2 h
  refine Ab (Aa Ac rfl (Bz Cv GR rfl (qm rfl (qm rfl (qs Ax rfl (qa rfl (qa rfl (Ad ?_))))))))
  obtain rfl := sj h
  refine Al ((KA 4 _ rfl).trans (sm [] [(4, oD (.ptr 4 0)), (5, iD v1.2.1), (6, iD v1.2.2)] [(4, .box [sC ((([] : List Int)).map Ai), sC ((([] : List Int)).map Ai), sC ((([] : List Int)).map A9)])] rfl rfl)) (Az ?_)
  exact ⟨⟨[_, _, _], ⟨.cellN _ _ _ _ _ _ _ rfl rfl A0 Ax rfl rfl (HR rfl), ⟨.tmp _ _ rfl, ⟨.tmp _ _ rfl, tv⟩⟩⟩, rfl⟩, tv⟩
 ·have h := Am c2 h
  refine Aq (Ab (Aa Ac rfl (qm rfl (qm rfl ?_))))
  obtain ⟨v3, a3, b3, h⟩ := Ak h
  refine qI AR Ax a3 (Ah b3) rfl (qJ A0 Ax (Ah b3) rfl (qm rfl (qs Ax rfl (qa rfl (qa rfl (Ad ?_))))))
  obtain rfl := sj h
  refine Al (sm [] [(4, oD (.ptr 4 0)), (5, iD v1.2.1), (6, iD 0)] [(4, .box [sC (v3.fBase.map Ai), sC (v3.fNext.map Ai), sC (v3.fHeld.map A9)])] rfl rfl) (Az ?_)
  exact ⟨⟨[_, _, _], ⟨.cellN _ _ _ _ _ _ _ rfl rfl A0 Ax rfl rfl (HR rfl), ⟨.tmp _ _ rfl, ⟨.tmp _ _ rfl, tv⟩⟩⟩, rfl⟩, tv⟩
theorem FP (N : Nat) (p0 : List Int) (p1 : List Int) (r : Int) (h : CS N p0 p1 = some r) : AB Tryz.prog 73 [pD (.sl (p0.map Ai)), pD (.sl (p1.map Ai))] [] (iD r) := by
 unfold CS at h
 refine Au (n := 46) (rs := [.tmp 4]) Tryz.func73 rfl rfl rfl (A5 rfl) (A5 rfl) rfl fun w0 S0 => ?_
 refine Ab (Aa Ac rfl (qa rfl (Ad (Ab (Ab (Aa Ac rfl (qa rfl (Ad ?_))))))))
 refine AJ (L := CK N p0 p1) h (fun v1 => mk [(0, pD (.sl (p0.map Ai))), (1, pD (.sl (p1.map Ai))), (5, iD v1)] []) (fun v2 => mk [(0, pD (.sl (p0.map Ai))), (1, pD (.sl (p1.map Ai)))] []) (fun _ _ => rfl) (sm [] _ _ rfl rfl) (fun j1 n1 v1 h => ?_) (fun v2 s h hs => ?_)
 ·unfold CK at h
  refine Ab ?_
  refine AQ h (fun v3 => mk [(0, pD (.sl (p0.map Ai))), (1, pD (.sl (p1.map Ai))), (5, iD v1), (15, bD v3)] []) (fun j3 h => ?_) (fun v3 h => ?_)
  ·refine Aa Ac rfl (qm rfl (qm rfl (AV AH rfl (AZ rfl (qm rfl ?_)))))
   refine AC (t := 10) rfl (fun c4 => ?_) (fun c4 => ?_)
   ·have h := An c4 h
    refine qm rfl (qm rfl (AV AH rfl (AZ rfl (qp rfl (Ad ?_)))))
    exact Av _ h (sm [] _ _ rfl rfl)
   ·have h := Am c4 h
    refine qn rfl (qn rfl (qn rfl (qn rfl (qp rfl (Ad ?_)))))
    exact Av _ h (sm [] _ _ rfl rfl)
  ·refine Ap rfl (fun c5 => ?_) (fun c5 => ?_)
   ·have h := An c5 h
    refine Aq (Ab (AP (Ab (Ab (Aa Ac rfl (qm rfl (qm rfl ?_)))))))
    obtain ⟨v6, a6, b6, h⟩ := Ak h
    refine qi AH Df a6 (Ah b6) rfl (qk Cc rfl (qm rfl (qm rfl ?_)))
    obtain ⟨v7, a7, b7, h⟩ := Ak h
    refine qi AH Df a7 (Ah b7) rfl (qk Cc rfl (AZ rfl (AM (by kernel_rfl) ?_)))
    refine Ap rfl (fun c8 => ?_) (fun c8 => ?_)
    ·have h := An c8 h
     refine Ab (Aa Ac rfl (qa rfl (Ad ?_)))
     obtain rfl := sj h
     refine Al (sm [] [(4, iD ((-1)))] [] rfl rfl) (Az ?_)
     exact ⟨⟨[_], ⟨.tmp _ _ rfl, tv⟩, rfl⟩, tv⟩
    ·have h := Am c8 h
     refine Aq (Ab (Aa Ac rfl (qm rfl (qm rfl ?_))))
     obtain ⟨v9, a9, b9, h⟩ := Ak h
     refine qi AH Df a9 (Ah b9) rfl (qk Cc rfl (qm rfl (qm rfl ?_)))
     obtain ⟨v10, a10, b10, h⟩ := Ak h
     refine qi AH Df a10 (Ah b10) rfl (qk Cc rfl (Ey rfl (AM (by kernel_rfl) ?_)))
     refine Ap rfl (fun c11 => ?_) (fun c11 => ?_)
     ·have h := An c11 h
      refine Ab (Aa Ac rfl (qa rfl (Ad ?_)))
      obtain rfl := sj h
      refine Al (sm [] [(4, iD 1)] [] rfl rfl) (Az ?_)
      exact ⟨⟨[_], ⟨.tmp _ _ rfl, tv⟩, rfl⟩, tv⟩
     ·have h := Am c11 h
      refine Aq (Aa Ac rfl (qm rfl (AX rfl (qa rfl (Ad ?_)))))
      exact Av _ h (sm [] _ _ rfl rfl)
   ·have h := Am c5 h
    refine AY ?_
    exact Av _ h (sm [] _ _ rfl rfl)
 ·refine Al hs (Ab (Ab (Aa Ac rfl (qm rfl (AV AH rfl (qm rfl (AV AH rfl (AZ rfl (Ad ?_)))))))))
  refine Ap rfl (fun c12 => ?_) (fun c12 => ?_)
  ·have h := An c12 h
   refine Ab (Aa Ac rfl (qa rfl (Ad ?_)))
   obtain rfl := sj h
   refine Al (sm [] [(4, iD ((-1)))] [] rfl rfl) (Az ?_)
   exact ⟨⟨[_], ⟨.tmp _ _ rfl, tv⟩, rfl⟩, tv⟩
  ·have h := Am c12 h
   refine Aq (Ab (Ab (Aa Ac rfl (qm rfl (AV AH rfl (qm rfl (AV AH rfl (Ey rfl (Ad ?_)))))))))
   refine Ap rfl (fun c13 => ?_) (fun c13 => ?_)
   ·have h := An c13 h
    refine Ab (Aa Ac rfl (qa rfl (Ad ?_)))
    obtain rfl := sj h
    refine Al (sm [] [(4, iD 1)] [] rfl rfl) (Az ?_)
    exact ⟨⟨[_], ⟨.tmp _ _ rfl, tv⟩, rfl⟩, tv⟩
   ·have h := Am c13 h
    refine Aq (Ab (Aa Ac rfl (qa rfl (Ad ?_))))
    obtain rfl := sj h
    refine Al (sm [] [(4, iD 0)] [] rfl rfl) (Az ?_)
    exact ⟨⟨[_], ⟨.tmp _ _ rfl, tv⟩, rfl⟩, tv⟩
theorem Gr (N : Nat) (p0 : List Int) (r : (List Int)) (h : CL N p0 = some r) : AB Tryz.prog 74 [pD (.sl (p0.map A9))] [(1, r.map Ai)] (oD (.own 0)) := by
 unfold CL at h
 refine Au (n := 20) (rs := [.tmp 2]) Tryz.func74 rfl rfl rfl (A5 rfl) (A5 rfl) rfl fun w0 S0 => ?_
 refine Ab (Aa Ac rfl (qa rfl (Ad (Ab (Aa Ac rfl (qa rfl (Ad (Ab (Ab (Aa Ac rfl (qa rfl (Ad ?_))))))))))))
 refine AJ (L := Cl N p0) h (fun v1 => mk [(0, pD (.sl (p0.map A9))), (3, oD (.own 2001)), (4, iD v1.2)] [(2001, .vec 1 (v1.1.map Ai))]) (fun v2 => mk [(3, oD (.own 2002))] [(2002, .vec 1 (v2.map Ai))]) (fun _ _ => rfl) ((Bn 3 2003 1 rfl rfl rfl).trans (sm [(2001, 2003)] _ _ rfl rfl)) (fun j1 n1 v1 h => ?_) (fun v2 s h hs => ?_)
 ·unfold Cl at h
  refine Ab (Ab (Aa Ac rfl (qm rfl (qm rfl (AV C3 rfl (AZ rfl (Ad ?_)))))))
  refine Ap rfl (fun c3 => ?_) (fun c3 => ?_)
  ·have h := An c3 h
   refine Aq (Ab (AP (Aa Ac rfl (qm rfl (qm rfl (qm rfl ?_))))))
   obtain ⟨v4, a4, b4, h⟩ := Ak h
   refine qi C3 Fa a4 (Ah b4) rfl (qk IK rfl (FO Xv QU rfl (DT AH Df KT rfl ?_)))
   obtain ⟨c5, h⟩ := AL h
   refine CQ (f := Ai) AH AH Df LB KT c5 rfl (qa rfl (Ad (Aa Ac rfl (qm rfl (AX rfl (qa rfl (Ad ?_)))))))
   exact Av _ h (sm [(2001, 18)] _ _ rfl rfl)
  ·have h := Am c3 h
   refine AY ?_
   exact Av _ h (sm [(2002, 2001)] _ _ rfl rfl)
 ·refine Al hs (Ab (Aa Ac rfl (qm rfl (qa rfl (Ad ?_)))))
  obtain rfl := sj h
  refine Al (sm [(1000, 2002)] [(2, oD (.own 1000))] [(1000, .vec 1 (v2.map Ai))] rfl rfl) (Az ?_)
  exact ⟨⟨[_], ⟨.tmp _ _ rfl, tv⟩, rfl⟩, ⟨rfl, tv⟩⟩
theorem IL (N : Nat) (p0 : Ae) (p1 : Ae) (r : Int) (h : Dh N p0 p1 = some r) : AB Tryz.prog 54 [.e (.agg [sC (p0.fBase.map Ai), sC (p0.fNext.map Ai), sC (p0.fHeld.map A9)]), .e (.agg [sC (p1.fBase.map Ai), sC (p1.fNext.map Ai), sC (p1.fHeld.map A9)])] [] (iD r) := by
 unfold Dh at h
 refine Au (n := 30) (rs := [.tmp 4]) Tryz.func54 rfl rfl rfl (A5 rfl) (A5 rfl) rfl fun w0 S0 => ?_
 refine Ab (Aa Ac rfl (qb rfl (qb rfl (qa rfl (Ad (Ab (Ab (Aa Ac rfl (qf Cz rfl (ql Bg rfl (qf Cz rfl (ql Bg rfl ?_))))))))))))
 obtain ⟨v1, a1, h⟩ := bind_some h
 refine AG [] (FP N p0.fBase p1.fBase v1 a1) Uv rfl (qa rfl (Ad (Ab (Aa Ac rfl (qm rfl (B6 rfl (Ad ?_)))))))
 refine Ap rfl (fun c2 => ?_) (fun c2 => ?_)
 ·have h := An c2 h
  refine Ab (Aa Ac rfl (qm rfl (qa rfl (Ad ?_))))
  obtain rfl := sj h
  refine Al (sm [] [(4, iD v1)] [] rfl rfl) (Az ?_)
  exact ⟨⟨[_], ⟨.tmp _ _ rfl, tv⟩, rfl⟩, tv⟩
 ·have h := Am c2 h
  refine Aq (Ab (Ab (Aa Ac rfl (qf BG rfl (ql Bg rfl (qf BG rfl (ql Bg rfl ?_)))))))
  obtain ⟨v3, a3, h⟩ := bind_some h
  refine AG [] (FP N p0.fNext p1.fNext v3 a3) Uv rfl (qa rfl (Ad (Ab (Aa Ac rfl (qm rfl (B6 rfl (Ad ?_)))))))
  refine Ap rfl (fun c4 => ?_) (fun c4 => ?_)
  ·have h := An c4 h
   refine Ab (Aa Ac rfl (qm rfl (qa rfl (Ad ?_))))
   obtain rfl := sj h
   refine Al (sm [] [(4, iD v3)] [] rfl rfl) (Az ?_)
   exact ⟨⟨[_], ⟨.tmp _ _ rfl, tv⟩, rfl⟩, tv⟩
  ·have h := Am c4 h
   refine Aq (Ab (Aa Ac rfl (qf Cs rfl (ql Ga rfl ?_))))
   obtain ⟨v5, a5, h⟩ := bind_some h
   refine AG [2001] (Gr N p0.fHeld v5 a5) VZ rfl (qf Cs rfl (ql Ga rfl ?_))
   obtain ⟨v6, a6, h⟩ := bind_some h
   refine AG [2002] (Gr N p1.fHeld v6 a6) VZ rfl ?_
   obtain ⟨v7, a7, h⟩ := bind_some h
   refine FG [] [2001, 2002] (FP N v5 v6 v7 a7) Uv Ef rfl (qa rfl (AM (by kernel_rfl) ?_))
   obtain rfl := sj h
   refine Al (sm [] [(4, iD v7)] [] rfl rfl) (Az ?_)
   exact ⟨⟨[_], ⟨.tmp _ _ rfl, tv⟩, rfl⟩, tv⟩
theorem GZ (N : Nat) (p0 : Ae) (p1 : Ae) (r : Bool) (h : Ci N p0 p1 = some r) : AB Tryz.prog 30 [.e (.agg [sC (p0.fBase.map Ai), sC (p0.fNext.map Ai), sC (p0.fHeld.map A9)]), .e (.agg [sC (p1.fBase.map Ai), sC (p1.fNext.map Ai), sC (p1.fHeld.map A9)])] [] (bD r) := by
 unfold Ci at h
 refine Au (n := 9) (rs := [.tmp 4]) Tryz.func30 rfl rfl rfl (A5 rfl) (A5 rfl) rfl fun w0 S0 => ?_
 refine Ab (Aa Ac rfl (qb rfl (qb rfl (qa rfl (Ad (Ab (Aa Ac rfl (qL A0 Ax rfl (qL A0 Ax rfl ?_)))))))))
 obtain ⟨v1, a1, h⟩ := bind_some h
 refine AG [] (IL N p0 p1 v1 a1) W5 rfl (BD rfl (qa rfl (Ad ?_)))
 obtain rfl := sj h
 refine Al (sm [] [(4, bD ((v1 == 0)))] [] rfl rfl) (Az ?_)
 exact ⟨⟨[_], ⟨.tmp _ _ rfl, tv⟩, rfl⟩, tv⟩
theorem KE (N : Nat) (p0 : List Ae) (p1 : Ae) (r : Bool) (h : E1 N p0 p1 = some r) : AB Tryz.prog 25 [pD (.sl (p0.map Af)), .e (.agg [sC (p1.fBase.map Ai), sC (p1.fNext.map Ai), sC (p1.fHeld.map A9)])] [] (bD r) := by
 unfold E1 at h
 refine Au (n := 18) (rs := [.tmp 4]) Tryz.func25 rfl rfl rfl (A5 rfl) (A5 rfl) rfl fun w0 S0 => ?_
 refine Ab (Aa Ac rfl (qb rfl (qa rfl (Ad (Ab (Ab (Aa Ac rfl (qa rfl (Ad ?_)))))))))
 refine AJ (L := CD N p0 p1) h (fun v1 => mk [(0, pD (.sl (p0.map Af))), (3, oD (.ptr 3 0)), (5, iD v1)] [(3, .box [sC (p1.fBase.map Ai), sC (p1.fNext.map Ai), sC (p1.fHeld.map A9)])]) (fun v2 => mk [] []) (fun _ _ => rfl) (sm [] _ _ rfl rfl) (fun j1 n1 v1 h => ?_) (fun v2 s h hs => ?_)
 ·unfold CD at h
  refine Ab (Ab (Aa Ac rfl (qm rfl (qm rfl (AV AR rfl (AZ rfl (Ad ?_)))))))
  refine Ap rfl (fun c3 => ?_) (fun c3 => ?_)
  ·have h := An c3 h
   refine Aq (Ab (AP (Ab (Aa Ac rfl (qm rfl (qm rfl ?_))))))
   obtain ⟨v4, a4, b4, h⟩ := Ak h
   refine qi AR Ax a4 (Ah b4) rfl (qK A0 Ax rfl (qL A0 Ax rfl ?_))
   obtain ⟨v5, a5, h⟩ := bind_some h
   refine AG [] (GZ N v4 p1 v5 a5) VM rfl (AM (by kernel_rfl) ?_)
   refine Ap rfl (fun c6 => ?_) (fun c6 => ?_)
   ·have h := An c6 h
    refine Ab (Aa Ac rfl (qa rfl (Ad ?_)))
    obtain rfl := sj h
    refine Al (sm [] [(4, bD true)] [] rfl rfl) (Az ?_)
    exact ⟨⟨[_], ⟨.tmp _ _ rfl, tv⟩, rfl⟩, tv⟩
   ·have h := Am c6 h
    refine Aq (Aa Ac rfl (qm rfl (AX rfl (qa rfl (Ad ?_)))))
    exact Av _ h (sm [] _ _ rfl rfl)
  ·have h := Am c3 h
   refine AY ?_
   exact Av _ h (sm [] _ _ rfl rfl)
 ·refine Al hs (Ab (Aa Ac rfl (qa rfl (Ad ?_))))
  obtain rfl := sj h
  refine Al (sm [] [(4, bD false)] [] rfl rfl) (Az ?_)
  exact ⟨⟨[_], ⟨.tmp _ _ rfl, tv⟩, rfl⟩, tv⟩
theorem Hx (N : Nat) (p0 : Cd) (p1 : List Int) (p2 : List Int) (r : Bool) (h : CF N p0 p1 p2 = some r) : AB Tryz.prog 8 [.e (.agg [sC (p0.fVersions.map A9), sC (p0.fNow.map A9), sC (p0.fTarget.map A9), sC (p0.fLinks.map B0)]), pD (.sl (p1.map A9)), pD (.sl (p2.map A9))] [] (bD r) := by
 unfold CF at h
 refine Au (n := 178) (rs := [.tmp 6]) Tryz.func8 rfl rfl rfl (A5 rfl) (A5 rfl) rfl fun w0 S0 => ?_
 refine Ab (Aa Ac rfl (qb rfl (qa rfl (Ad (Ab (Aa Ac rfl (qL Xl WU rfl ?_)))))))
 obtain ⟨v1, a1, h⟩ := bind_some h
 refine AG [2001, 2002, 2003, 2004] (KG N p0 v1 a1) XF rfl (qm rfl (qx rfl (qx rfl (qz QZ rfl (qs Dr rfl (qa rfl (Ad (Ab ?_))))))))
 refine AQ h (fun v2 => mk [(1, pD (.sl (p1.map A9))), (2, pD (.sl (p2.map A9))), (7, oD (.ptr 7 0)), (43, bD v2)] [(7, .box [.own 2005, .own 2006, .own 2007, .own 2008]), (2005, .vec 1 (v1.1.fVersions.map Ai)), (2006, .vec 1 (v1.1.fNow.map Ai)), (2007, .vec 1 (v1.1.fTarget.map Ai)), (2008, .vec 6 (v1.1.fTables.map Ao))]) (fun j2 h => ?_) (fun v2 h => ?_)
 ·refine Aa Ac rfl ?_
  obtain ⟨v3, a3, h⟩ := bind_some h
  refine AG [] (G1 N v3 a3) VI rfl (Cq rfl (qm rfl ?_))
  refine AC (t := 35) rfl (fun c4 => ?_) (fun c4 => ?_)
  ·have h := An c4 h
   refine qn rfl (qn rfl (qp rfl (qm rfl (qn rfl (qn rfl (qn rfl (qp rfl (Ad ?_))))))))
   exact Av _ h (sm [(2005, 2001), (2006, 2002), (2007, 2003), (2008, 2004)] _ _ rfl rfl)
  ·have h := Am c4 h
   refine qm rfl (Cq rfl (qp rfl (qm rfl ?_)))
   refine AC (t := 39) rfl (fun c5 => ?_) (fun c5 => ?_)
   ·have h := An c5 h
    refine qn rfl (qn rfl (qn rfl (qp rfl (Ad ?_))))
    exact Av _ h (sm [(2005, 2001), (2006, 2002), (2007, 2003), (2008, 2004)] _ _ rfl rfl)
   ·have h := Am c5 h
    refine qm rfl (AV Gl rfl (Ey rfl (qp rfl (Ad ?_))))
    exact Av _ h (sm [(2005, 2001), (2006, 2002), (2007, 2003), (2008, 2004)] _ _ rfl rfl)
 ·refine Ap rfl (fun c6 => ?_) (fun c6 => ?_)
  ·have h := An c6 h
   refine Ab (Aa Ac rfl ?_)
   obtain ⟨v7, a7, h⟩ := bind_some h
   refine AG [] (G1 N v7 a7) VI rfl (qa rfl (Ad ?_))
   obtain rfl := sj h
   refine Al (sm [] [(6, bD v7)] [] rfl rfl) (Az ?_)
   exact ⟨⟨[_], ⟨.tmp _ _ rfl, tv⟩, rfl⟩, tv⟩
  ·have h := Am c6 h
   refine Aq (Ab (Aa Ac rfl (qL DP Dr rfl ?_)))
   obtain ⟨v8, a8, h⟩ := bind_some h
   refine FG [2009, 2010, 2011] [2005, 2006, 2007, 2008] (Jn N v1.1 v8 a8) Xj (Hm (fun _ => rfl) (Hm (fun _ => rfl) (Hm (fun _ => rfl) Ef))) rfl (qm rfl (qx rfl (qx rfl (qz Cv rfl (qs Ax rfl (qa rfl (Ad (Ab (Aa Ac rfl (qL DP Dr rfl (qL A0 Ax rfl (qm rfl (CC (A1 2005 _ _ rfl rfl) (CC (A1 2006 _ _ rfl rfl) (CC (A1 2007 _ _ rfl rfl) (CC (A1 2008 _ _ rfl rfl) (CC (A1 2009 _ _ rfl rfl) (CC (A1 2010 _ _ rfl rfl) (CC (A1 2011 _ _ rfl rfl) ?_)))))))))))))))))))
   obtain ⟨v9, a9, h⟩ := bind_some h
   refine AG [2012] (JT N v1.1 v8.1 p1 false v9 a9) Xy rfl (qm rfl (qx rfl (qx rfl (qz Cv rfl (qa rfl (qs Ax rfl (Ad (Ab (Aa Ac rfl (qL DP Dr rfl (qm rfl (CC (A1 2012 _ _ rfl rfl) ?_))))))))))))
   obtain ⟨v10, a10, h⟩ := bind_some h
   refine AG [2013] (JC N v1.1 v9.1 v10 a10) Wr rfl (qm rfl (qx rfl (qx rfl (qa rfl (qa rfl (Ad (Ab (Ab (Aa Ac rfl (qm rfl (B6 rfl (Ad ?_))))))))))))
   refine Ap rfl (fun c11 => ?_) (fun c11 => ?_)
   ·have h := An c11 h
    refine Ab (Aa Ac rfl (qa rfl (Ad ?_)))
    obtain rfl := sj h
    refine Al (sm [] [(6, bD false)] [] rfl rfl) (Az ?_)
    exact ⟨⟨[_], ⟨.tmp _ _ rfl, tv⟩, rfl⟩, tv⟩
   ·have h := Am c11 h
    refine Aq (Ab (Aa Ac rfl (qa rfl (Ad (Ab (Aa Ac rfl (qL A0 Ax rfl (qz Cv rfl (qs Ax rfl (Ad (Ab (Ab (Aa Ac rfl (qm rfl (AV BX rfl (AX rfl (qm rfl (Ad ?_))))))))))))))))))
    refine AJ (L := Bu N p2 v1 v9) h (fun v12 => mk [(2, pD (.sl (p2.map A9))), (7, oD (.ptr 7 0)), (11, pD (.sl (v9.1.map Ay))), (13, oD (.own 2014)), (15, oD (.own 2015)), (16, oD (.ptr 16 0)), (68, iD ((wI .i64 ((v9.1.length : Int) + 1)))), (69, iD v12.2.2)] [(7, .box [sC (v1.1.fVersions.map Ai), sC (v1.1.fNow.map Ai), sC (v1.1.fTarget.map Ai), sC (v1.1.fTables.map Ao)]), (16, .box [sC (v12.1.fBase.map Ai), sC (v12.1.fNext.map Ai), sC (v12.1.fHeld.map A9)]), (2014, .vec 3 (v10.1.map Af)), (2015, .vec 3 (v12.2.1.map Ay))]) (fun v13 => mk [(7, oD (.ptr 7 0)), (13, oD (.own 2016)), (15, oD (.own 2017)), (16, oD (.ptr 16 0))] [(7, .box [sC (v1.1.fVersions.map Ai), sC (v1.1.fNow.map Ai), sC (v1.1.fTarget.map Ai), sC (v1.1.fTables.map Ao)]), (16, .box [sC (v13.1.fBase.map Ai), sC (v13.1.fNext.map Ai), sC (v13.1.fHeld.map A9)]), (2016, .vec 3 (v10.1.map Af)), (2017, .vec 3 (v13.2.map Ay))]) (fun _ _ => rfl) ((Bn 15 2036 3 rfl rfl rfl).trans (sm [(2014, 2013), (2015, 2036)] _ _ rfl rfl)) (fun j12 n12 v12 h => ?_) (fun v13 s h hs => ?_)
    ·unfold Bu at h
     refine Ab (Aa Ac rfl (AZ rfl (Ad (Ab ?_))))
     refine Ap rfl (fun c14 => ?_) (fun c14 => ?_)
     ·have h := An c14 h
      refine Aq ?_
      refine AQ h (fun v15 => mk [(2, pD (.sl (p2.map A9))), (7, oD (.ptr 7 0)), (11, pD (.sl (v9.1.map Ay))), (13, oD (.own 2018)), (15, oD (.own 2019)), (16, oD (.ptr 16 0)), (68, iD ((wI .i64 ((v9.1.length : Int) + 1)))), (69, iD v12.2.2)] [(7, .box [sC (v1.1.fVersions.map Ai), sC (v1.1.fNow.map Ai), sC (v1.1.fTarget.map Ai), sC (v1.1.fTables.map Ao)]), (16, .box [sC (v15.1.map Ai), sC (v15.2.1.map Ai), sC (v15.2.2.1.map A9)]), (2018, .vec 3 (v10.1.map Af)), (2019, .vec 3 (v15.2.2.2.map Ay))]) (fun j15 h => ?_) (fun v15 h => ?_)
      ·refine AP (Ab (Aa Ac rfl (qm rfl (qa rfl (Ad (Ab (Aa Ac rfl (qa rfl (Ad (Ab (Ab (Aa Ac rfl (qf BG rfl (ql Bg rfl (AV AH rfl (qm rfl (Ad ?_)))))))))))))))))
       refine AJ (L := A3 N p2 v12) h (fun v16 => mk [(2, pD (.sl (p2.map A9))), (7, oD (.ptr 7 0)), (11, pD (.sl (v9.1.map Ay))), (13, oD (.own 2020)), (15, oD (.own 2021)), (16, oD (.ptr 16 0)), (17, iD v12.2.2), (18, oD (.own 2022)), (68, iD ((wI .i64 ((v9.1.length : Int) + 1)))), (69, iD v12.2.2), (73, pD (.sl (v12.1.fNext.map Ai))), (74, iD ((v12.1.fNext.length : Int))), (75, iD v16.2.2)] [(7, .box [sC (v1.1.fVersions.map Ai), sC (v1.1.fNow.map Ai), sC (v1.1.fTarget.map Ai), sC (v1.1.fTables.map Ao)]), (16, .box [sC (v12.1.fBase.map Ai), sC (v12.1.fNext.map Ai), sC (v12.1.fHeld.map A9)]), (2020, .vec 3 (v10.1.map Af)), (2021, .vec 3 (v16.1.map Ay)), (2022, .vec 3 (v16.2.1.map Ay))]) (fun v17 => mk [(2, pD (.sl (p2.map A9))), (7, oD (.ptr 7 0)), (11, pD (.sl (v9.1.map Ay))), (13, oD (.own 2023)), (15, oD (.own 2024)), (16, oD (.ptr 16 0)), (17, iD v12.2.2), (18, oD (.own 2025)), (68, iD ((wI .i64 ((v9.1.length : Int) + 1)))), (69, iD v12.2.2)] [(7, .box [sC (v1.1.fVersions.map Ai), sC (v1.1.fNow.map Ai), sC (v1.1.fTarget.map Ai), sC (v1.1.fTables.map Ao)]), (16, .box [sC (v12.1.fBase.map Ai), sC (v12.1.fNext.map Ai), sC (v12.1.fHeld.map A9)]), (2023, .vec 3 (v10.1.map Af)), (2024, .vec 3 (v17.1.map Ay)), (2025, .vec 3 (v17.2.map Ay))]) (fun _ _ => rfl) ((Bn 18 2032 3 rfl rfl rfl).trans (sm [(2020, 2014), (2021, 2015), (2022, 2032)] _ _ rfl rfl)) (fun j16 n16 v16 h => ?_) (fun v17 s h hs => ?_)
       ·unfold A3 at h
        refine Ab (Aa Ac rfl (AZ rfl (Ad (Ab ?_))))
        refine Ap rfl (fun c18 => ?_) (fun c18 => ?_)
        ·have h := An c18 h
         refine Aq ?_
         refine AQ h (fun v19 => mk [(2, pD (.sl (p2.map A9))), (7, oD (.ptr 7 0)), (11, pD (.sl (v9.1.map Ay))), (13, oD (.own 2026)), (15, oD (.own 2027)), (16, oD (.ptr 16 0)), (17, iD v12.2.2), (18, oD (.own 2028)), (68, iD ((wI .i64 ((v9.1.length : Int) + 1)))), (69, iD v12.2.2), (73, pD (.sl (v12.1.fNext.map Ai))), (74, iD ((v12.1.fNext.length : Int))), (75, iD v16.2.2)] [(7, .box [sC (v1.1.fVersions.map Ai), sC (v1.1.fNow.map Ai), sC (v1.1.fTarget.map Ai), sC (v1.1.fTables.map Ao)]), (16, .box [sC (v12.1.fBase.map Ai), sC (v12.1.fNext.map Ai), sC (v12.1.fHeld.map A9)]), (2026, .vec 3 (v10.1.map Af)), (2027, .vec 3 (v19.1.map Ay)), (2028, .vec 3 (v19.2.map Ay))]) (fun j19 h => ?_) (fun v19 h => ?_)
         ·refine AP (Ab (Aa Ac rfl (qm rfl ?_)))
          obtain ⟨v20, a20, b20, h⟩ := Ak h
          refine qi AH Df a20 (Ah b20) rfl (qk Cc rfl (qa rfl (qa rfl (Ad ?_))))
          refine AQ h (fun v21 => mk [(2, pD (.sl (p2.map A9))), (7, oD (.ptr 7 0)), (11, pD (.sl (v9.1.map Ay))), (13, oD (.own 2029)), (15, oD (.own 2030)), (16, oD (.ptr 16 0)), (17, iD v12.2.2), (18, oD (.own 2031)), (19, iD v16.2.2), (20, iD v20), (68, iD ((wI .i64 ((v9.1.length : Int) + 1)))), (69, iD v12.2.2), (73, pD (.sl (v12.1.fNext.map Ai))), (74, iD ((v12.1.fNext.length : Int))), (75, iD v16.2.2), (97, bD v21)] [(7, .box [sC (v1.1.fVersions.map Ai), sC (v1.1.fNow.map Ai), sC (v1.1.fTarget.map Ai), sC (v1.1.fTables.map Ao)]), (16, .box [sC (v12.1.fBase.map Ai), sC (v12.1.fNext.map Ai), sC (v12.1.fHeld.map A9)]), (2029, .vec 3 (v10.1.map Af)), (2030, .vec 3 (v16.1.map Ay)), (2031, .vec 3 (v16.2.1.map Ay))]) (fun j21 h => ?_) (fun v21 h => ?_)
          ·refine Aa Ac rfl (qm rfl (CW rfl (qm rfl ?_)))
           refine AC (t := 82) rfl (fun c22 => ?_) (fun c22 => ?_)
           ·have h := An c22 h
            refine qm rfl (qm rfl (AV Gl rfl (AZ rfl (qp rfl (qm rfl ?_)))))
            refine AC (t := 88) rfl (fun c23 => ?_) (fun c23 => ?_)
            ·have h := An c23 h
             refine qm rfl (qm rfl ?_)
             obtain ⟨v24, a24, b24, h⟩ := Ak h
             refine qi Gl SO a24 (Ah b24) rfl (qk Un rfl (qm rfl ?_))
             obtain ⟨c25, h⟩ := AL h
             refine Gb rfl c25 (Jx rfl (BD rfl (qp rfl (Ad ?_))))
             exact Av _ h (sm [(2029, 2020), (2030, 2021), (2031, 2022)] _ _ rfl rfl)
            ·have h := Am c23 h
             refine qn rfl (qn rfl (qn rfl (qn rfl (qn rfl (qn rfl (qn rfl (qn rfl (qp rfl (Ad ?_)))))))))
             exact Av _ h (sm [(2029, 2020), (2030, 2021), (2031, 2022)] _ _ rfl rfl)
           ·have h := Am c22 h
            refine qn rfl (qn rfl (qn rfl (qn rfl (qp rfl (qm rfl (qn rfl (qn rfl (qn rfl (qn rfl (qn rfl (qn rfl (qn rfl (qn rfl (qp rfl (Ad ?_)))))))))))))))
            exact Av _ h (sm [(2029, 2020), (2030, 2021), (2031, 2022)] _ _ rfl rfl)
          ·refine Ap rfl (fun c26 => ?_) (fun c26 => ?_)
           ·have h := An c26 h
            refine Ab (Aa Ac rfl (qm rfl (qm rfl (Bz EQ OO rfl (DT BX CT EQ rfl ?_)))))
            obtain ⟨c27, h⟩ := AL h
            refine CQ (f := Ay) BX BX CT IC EQ c27 rfl (qa rfl (Ad (Aa Ac rfl (qm rfl (qm rfl (qm rfl (Bz EQ OO rfl (DT BX CT EQ rfl ?_))))))))
            obtain ⟨c28, h⟩ := AL h
            refine CQ (f := Ay) BX BX CT IC EQ c28 rfl (qa rfl (Ad ?_))
            exact Av _ h (sm [(2026, 2029), (2027, 102), (2028, 108)] _ _ rfl rfl)
           ·have h := Am c26 h
            refine Aq ?_
            exact Av _ h (sm [(2026, 2029), (2027, 2030), (2028, 2031)] _ _ rfl rfl)
         ·refine Aa Ac rfl (AX rfl (qm rfl (Ad ?_)))
          exact Av _ h (sm [(2020, 2026), (2021, 2027), (2022, 2028)] _ _ rfl rfl)
        ·have h := Am c18 h
         refine AY ?_
         exact Av _ h (sm [(2023, 2020), (2024, 2021), (2025, 2022)] _ _ rfl rfl)
       ·refine Al hs (Ab (Aa Ac rfl (qm rfl (qm rfl ?_))))
        obtain ⟨c29, h⟩ := AL h
        refine CQ (f := Ay) BX BX CT IC EQ c29 rfl (qa rfl (Ad (Ab (Aa Ac rfl (qm rfl (qm rfl (AV BX rfl (AZ rfl (Ad ?_)))))))))
        refine Ap rfl (fun c30 => ?_) (fun c30 => ?_)
        ·have h := An c30 h
         refine Ab (Aa Ac rfl (qm rfl (qm rfl (qm rfl ?_))))
         obtain ⟨v31, a31, b31, h⟩ := Ak h
         refine qi BX CT a31 (Ah b31) rfl (qK GS CT rfl (DT BX CT EQ rfl ?_))
         obtain ⟨c32, h⟩ := AL h
         refine CQ (f := Ay) BX BX CT IC EQ c32 rfl (qa rfl (Ad (Aa Ac rfl (qL DP Dr rfl (qL A0 Ax rfl (qm rfl (qm rfl ?_)))))))
         obtain ⟨v33, a33, b33, h⟩ := Ak h
         refine qi BX CT a33 (Ah b33) rfl (qK GS CT rfl ?_)
         obtain ⟨v34, a34, h⟩ := bind_some h
         refine AG [2033, 2034, 2035] (Fs N v1.1 v12.1 v33 v34 a34) UY rfl (qm rfl (qx rfl (qx rfl (qs Ax rfl (AM (by kernel_rfl) ?_)))))
         exact Av _ h ((A1 2033 _ _ rfl rfl).trans ((A1 2034 _ _ rfl rfl).trans ((A1 2035 _ _ rfl rfl).trans (sm [(2018, 2023), (2019, 123)] _ _ rfl rfl))))
        ·have h := Am c30 h
         refine Aq ?_
         exact Av _ h (sm [(2018, 2023), (2019, 112)] _ _ rfl rfl)
      ·refine Aa Ac rfl (AX rfl (qm rfl (Ad ?_)))
       exact Av _ h (sm [(2014, 2018), (2015, 2019)] _ _ rfl rfl)
     ·have h := Am c14 h
      refine AY ?_
      exact Av _ h (sm [(2016, 2014), (2017, 2015)] _ _ rfl rfl)
    ·refine Al hs (Ab (Ab (Aa Ac rfl (qm rfl (Dz BX rfl (AX rfl (qm rfl (Ad ?_))))))))
     refine AJ (L := Bv N v1 v10 v13) h (fun v35 => mk [(7, oD (.ptr 7 0)), (13, oD (.own 2037)), (15, pD (.sl (v35.1.map Ay))), (16, oD (.ptr 16 0)), (137, iD ((wI .i64 ((v13.2.length : Int) + 1)))), (138, iD v35.2)] [(7, .box [sC (v1.1.fVersions.map Ai), sC (v1.1.fNow.map Ai), sC (v1.1.fTarget.map Ai), sC (v1.1.fTables.map Ao)]), (16, .box [sC (v13.1.fBase.map Ai), sC (v13.1.fNext.map Ai), sC (v13.1.fHeld.map A9)]), (2037, .vec 3 (v10.1.map Af))]) (fun v36 => mk [(7, oD (.ptr 7 0)), (15, pD (.sl (v36.map Ay))), (16, oD (.ptr 16 0))] [(7, .box [sC (v1.1.fVersions.map Ai), sC (v1.1.fNow.map Ai), sC (v1.1.fTarget.map Ai), sC (v1.1.fTables.map Ao)]), (16, .box [sC (v13.1.fBase.map Ai), sC (v13.1.fNext.map Ai), sC (v13.1.fHeld.map A9)])]) (fun _ _ => rfl) ((A1 2017 _ _ rfl rfl).trans (sm [(2037, 2016)] _ _ rfl rfl)) (fun j35 n35 v35 h => ?_) (fun v36 s h hs => ?_)
     ·unfold Bv at h
      refine Ab (Aa Ac rfl (AZ rfl (Ad (Ab ?_))))
      refine Ap rfl (fun c37 => ?_) (fun c37 => ?_)
      ·have h := An c37 h
       refine Aq (Ab (AP (Ab (Aa Ac rfl (qm rfl (qa rfl (Ad (Ab (Aa Ac rfl (qL DP Dr rfl (qm rfl (qm rfl ?_))))))))))))
       obtain ⟨c38, h⟩ := AL h
       refine Tc (.p rfl) rfl BX CT (My (f := Ay) (n := 3) (fun _ => rfl) _) (.none _) (.some _ _ _ _ c38.1) tv ⟨rfl, tv⟩ (by have := c38.2.1; (try simp only [List.length_map]); omega) (by have := c38.2.2; (try simp only [List.length_map]); omega) (Rr Ay v35.1 _ _ ((v35.2).toNat - 0) rfl) ?_
       obtain ⟨v39, a39, h⟩ := bind_some h
       refine AG [] (J2 N v1.1 (((v35.1.drop 0).take ((v35.2).toNat - 0))) v39 a39) Wq rfl (qm rfl (qx rfl (qx rfl (qx rfl (qz Cv rfl (qs Ax rfl (qa rfl (qa rfl (AM (by kernel_rfl) ?_)))))))))
       refine AQ h (fun v40 => mk [(7, oD (.ptr 7 0)), (13, oD (.own 2038)), (15, pD (.sl (v35.1.map Ay))), (16, oD (.ptr 16 0)), (137, iD ((wI .i64 ((v13.2.length : Int) + 1)))), (138, iD v35.2), (162, bD v40)] [(7, .box [sC (v1.1.fVersions.map Ai), sC (v1.1.fNow.map Ai), sC (v1.1.fTarget.map Ai), sC (v1.1.fTables.map Ao)]), (16, .box [sC (v13.1.fBase.map Ai), sC (v13.1.fNext.map Ai), sC (v13.1.fHeld.map A9)]), (2038, .vec 3 (v10.1.map Af))]) (fun j40 h => ?_) (fun v40 h => ?_)
       ·refine Aa Ac rfl (qm rfl (B6 rfl (qm rfl ?_)))
        refine AC (t := 152) rfl (fun c41 => ?_) (fun c41 => ?_)
        ·have h := An c41 h
         refine qn rfl (qn rfl (qn rfl (qp rfl (qm rfl (qn rfl (qn rfl (qn rfl (qn rfl (qp rfl (Ad ?_))))))))))
         exact Av _ h (sm [(2038, 2037)] _ _ rfl rfl)
        ·have h := Am c41 h
         refine qm rfl (qm rfl (B6 rfl (qp rfl (qm rfl ?_))))
         refine AC (t := 157) rfl (fun c42 => ?_) (fun c42 => ?_)
         ·have h := An c42 h
          refine qn rfl (qn rfl (qn rfl (qn rfl (qp rfl (Ad ?_)))))
          exact Av _ h (sm [(2038, 2037)] _ _ rfl rfl)
         ·have h := Am c42 h
          refine qm rfl (qL A0 Ax rfl ?_)
          obtain ⟨v43, a43, h⟩ := bind_some h
          refine FG [] [2037] (KE N v10.1 v39.1 v43 a43) WQ Ef rfl (Cq rfl (qp rfl (Ad ?_)))
          exact Av _ h (sm [(2038, 2037)] _ _ rfl rfl)
       ·refine Ap rfl (fun c44 => ?_) (fun c44 => ?_)
        ·have h := An c44 h
         refine Ab (Aa Ac rfl (qa rfl (Ad ?_)))
         obtain rfl := sj h
         refine Al (sm [] [(6, bD false)] [] rfl rfl) (Az ?_)
         exact ⟨⟨[_], ⟨.tmp _ _ rfl, tv⟩, rfl⟩, tv⟩
        ·have h := Am c44 h
         refine Aq (Aa Ac rfl (AX rfl (qm rfl (Ad ?_))))
         exact Av _ h (sm [(2037, 2038)] _ _ rfl rfl)
      ·have h := Am c37 h
       refine AY ?_
       exact Av _ h (sm [] _ _ rfl rfl)
     ·refine Al hs (Ab (Aa Ac rfl (qL DP Dr rfl (qm rfl ?_))))
      obtain ⟨v45, a45, h⟩ := bind_some h
      refine AG [] (J2 N v1.1 v36 v45 a45) Wq rfl (qm rfl (qx rfl (qx rfl (qx rfl (qz Cv rfl (qs Ax rfl (qa rfl (qa rfl (Ad ?_)))))))))
      refine AQ h (fun v46 => mk [(6, bD v46)] []) (fun j46 h => ?_) (fun v46 h => ?_)
      ·refine Aa Ac rfl (qm rfl (BD rfl (qm rfl ?_)))
       refine AC (t := 173) rfl (fun c47 => ?_) (fun c47 => ?_)
       ·have h := An c47 h
        refine qL A0 Ax rfl (qL A0 Ax rfl ?_)
        obtain ⟨v48, a48, h⟩ := bind_some h
        refine AG [] (GZ N v45.1 v13.1 v48 a48) VM rfl (qp rfl (qa rfl (Ad ?_)))
        exact Av _ h (sm [] _ _ rfl rfl)
       ·have h := Am c47 h
        refine qn rfl (qn rfl (qn rfl (qp rfl (qa rfl (Ad ?_)))))
        exact Av _ h (sm [] _ _ rfl rfl)
      ·obtain rfl := sj h
       refine Al (sm [] [(6, bD v46)] [] rfl rfl) (Az ?_)
       exact ⟨⟨[_], ⟨.tmp _ _ rfl, tv⟩, rfl⟩, tv⟩
end Go.Lift
