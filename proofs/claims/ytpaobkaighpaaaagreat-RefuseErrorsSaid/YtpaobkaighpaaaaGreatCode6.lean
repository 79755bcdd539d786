/- Lemmas for RefuseErrorsSaid, which YtpaobkaighpaaaaGreatFinR8 proves. -/
import Derived.Test.YtpaobkaighpaaaaGreatCode3
namespace Go.Lift
open IntKind renaming wrap → wI
set_option maxRecDepth 10000
open Go.RowKit
open Go.Proofs
theorem Gx (N : Nat) (p0 : List Ah) (p1 : Int) (p2 : Int) (p3 : Int) (p4 : (Ah × Ah) → Option Int) (r : Int × Bool × (List Ah)) (h : Gs.partition N p0 p1 p2 p3 p4 = some r) : Bh Tryz.prog 139 [oD (.own 90000), iD p1, iD p2, iD p3, oD (.clo (Bb (Cg true Ad true Ad) Bg p4))] [(.vec 3 (p0.map Ad), .vec 3 (r.2.2.map Ad))] [] (.tup [.one (iC r.1), .one (.pure (.val (.bool r.2.1)))]) := by
 unfold Gs.partition at h
 refine A9 (n := 178) (rs := [.tmp 10, .tmp 11]) Tryz.func139 rfl rfl rfl (A5 rfl) (A5 rfl) rfl rfl (A5 rfl) rfl (A5 rfl) fun w0 S0 GL => ?_
 refine Am (sm [] [(0, oD (.own 90000)), (1, iD p1), (2, iD p2), (3, iD p3), (4, oD (.clo (Bb (Cg true Ad true Ad) Bg p4)))] [(90000, .vec 3 (p0.map Ad))] rfl rfl) (Ab (Aa Ac rfl (qa rfl (qa rfl (Ae (Ab (Aa Ac rfl (qm rfl (qm rfl (qm rfl (qm rfl (qm rfl (qm rfl ?_)))))))))))))
 obtain ⟨v1, a1, b1, h⟩ := Ak h
 refine qI A8 AU a1 (Af b1) rfl (qJ CP AU (Af b1) rfl (qm rfl (qm rfl ?_)))
 obtain ⟨v2, a2, b2, h⟩ := Ak h
 refine qI A8 AU a2 (Af b2) rfl (qJ CP AU (Af b2) rfl ?_)
 obtain ⟨v3, a3, b3, h⟩ := Ak h
 refine qI A8 AU a3 (Af b3) rfl ?_
 refine AX rfl rfl rfl rfl (Af b3) rfl AU rfl (A5 rfl) (AW Ad p0 _ v1) ?_
 obtain ⟨v4, a4, b4, h⟩ := Ak h
 refine qI A8 AU a4 (Af b4) rfl ?_
 refine AX rfl rfl rfl rfl (Af b4) rfl AU rfl (A5 rfl) (AW Ad (p0.set ((p1).toNat) v1) _ v2) ?_
 refine AC (by kernel_rfl) (Ab (Aa Ac rfl (qm rfl (AP rfl (qm rfl (Bm rfl (qa rfl (qa rfl (Ae (Ab ?_))))))))))
 refine AE (L := Gs.partition_L5 N p0 p1 p2 p3 p4 v1 v2) h (fun v5 => mk [(0, oD (.own 90000)), (1, iD p1), (4, oD (.clo (Bb (Cg true Ad true Ad) Bg p4))), (12, iD v5), (13, iD ((wI .i64 (p2 - 1))))] [(90000, .vec 3 (((p0.set ((p1).toNat) v1).set ((p3).toNat) v2).map Ad))]) (fun v6 => mk [(0, oD (.own 90000)), (1, iD p1), (4, oD (.clo (Bb (Cg true Ad true Ad) Bg p4))), (12, iD v6), (13, iD ((wI .i64 (p2 - 1))))] [(90000, .vec 3 (((p0.set ((p1).toNat) v1).set ((p3).toNat) v2).map Ad))]) (fun _ _ => rfl) (sm [] _ _ rfl rfl) (fun j5 n5 v5 h => ?_) (fun v6 s h hs => ?_)
 ·unfold Gs.partition_L5 at h
  refine Ab ?_
  refine AL h (fun v7 => mk [(0, oD (.own 90000)), (1, iD p1), (4, oD (.clo (Bb (Cg true Ad true Ad) Bg p4))), (12, iD v5), (13, iD ((wI .i64 (p2 - 1)))), (47, bD v7)] [(90000, .vec 3 (((p0.set ((p1).toNat) v1).set ((p3).toNat) v2).map Ad))]) (fun j7 h => ?_) (fun v7 h => ?_)
  ·refine Aa Ac rfl (qm rfl (qm rfl (GU rfl (qm rfl ?_))))
   refine AB (t := 35) rfl (fun c8 => ?_) (fun c8 => ?_)
   ·have h := An c8 h
    refine qm rfl (qm rfl (qm rfl ?_))
    obtain ⟨v9, a9, b9, h⟩ := Ak h
    refine qI A8 AU a9 (Af b9) rfl (qJ CP AU (Af b9) rfl (qm rfl (qm rfl ?_)))
    obtain ⟨v10, a10, b10, h⟩ := Ak h
    refine qI A8 AU a10 (Af b10) rfl (qJ CP AU (Af b10) rfl ?_)
    obtain ⟨v11, a11, h⟩ := bind_some h
    refine Cx (ds0 := [_, _]) (ar := (Cg true Ad true Ad) ((v9, v10))) (.g rfl rfl) rfl rfl ⟨rfl, rfl, tv⟩ rfl rfl rfl (Cw (CX _ _ _ _ Bd Bd) a11) ?_
    refine AY rfl (qp rfl (AC (by kernel_rfl) ?_))
    exact As _ h (sm [] _ _ rfl rfl)
   ·have h := Ao c8 h
    refine qn rfl (qn rfl (qn rfl (qn rfl (qn rfl (qn rfl (qn rfl (qn rfl (qn rfl (qn rfl (qn rfl (qp rfl (AC (by kernel_rfl) ?_))))))))))))
    exact As _ h (sm [] _ _ rfl rfl)
  ·refine Ap rfl (fun c12 => ?_) (fun c12 => ?_)
   ·have h := An c12 h
    refine Aq (AJ (Aa Ac rfl (qm rfl (AP rfl (qa rfl (Ae ?_))))))
    exact As _ h (sm [] _ _ rfl rfl)
   ·have h := Ao c12 h
    refine AQ ?_
    exact As _ h (sm [] _ _ rfl rfl)
 ·refine Am hs (Ab ?_)
  refine AE (L := Gs.partition_L13 N p0 p1 p3 p4 v1 v2 v6) h (fun v13 => mk [(0, oD (.own 90000)), (1, iD p1), (4, oD (.clo (Bb (Cg true Ad true Ad) Bg p4))), (12, iD v6), (13, iD v13)] [(90000, .vec 3 (((p0.set ((p1).toNat) v1).set ((p3).toNat) v2).map Ad))]) (fun v14 => mk [(0, oD (.own 90000)), (1, iD p1), (4, oD (.clo (Bb (Cg true Ad true Ad) Bg p4))), (12, iD v6), (13, iD v14)] [(90000, .vec 3 (((p0.set ((p1).toNat) v1).set ((p3).toNat) v2).map Ad))]) (fun _ _ => rfl) (sm [] _ _ rfl rfl) (fun j13 n13 v13 h => ?_) (fun v14 s h hs => ?_)
  ·unfold Gs.partition_L13 at h
   refine Ab ?_
   refine AL h (fun v15 => mk [(0, oD (.own 90000)), (1, iD p1), (4, oD (.clo (Bb (Cg true Ad true Ad) Bg p4))), (12, iD v6), (13, iD v13), (66, bD v15)] [(90000, .vec 3 (((p0.set ((p1).toNat) v1).set ((p3).toNat) v2).map Ad))]) (fun j15 h => ?_) (fun v15 h => ?_)
   ·refine Aa Ac rfl (qm rfl (qm rfl (GU rfl (qm rfl ?_))))
    refine AB (t := 53) rfl (fun c16 => ?_) (fun c16 => ?_)
    ·have h := An c16 h
     refine qm rfl (qm rfl (qm rfl ?_))
     obtain ⟨v17, a17, b17, h⟩ := Ak h
     refine qI A8 AU a17 (Af b17) rfl (qJ CP AU (Af b17) rfl (qm rfl (qm rfl ?_)))
     obtain ⟨v18, a18, b18, h⟩ := Ak h
     refine qI A8 AU a18 (Af b18) rfl (qJ CP AU (Af b18) rfl ?_)
     obtain ⟨v19, a19, h⟩ := bind_some h
     refine Cx (ds0 := [_, _]) (ar := (Cg true Ad true Ad) ((v17, v18))) (.g rfl rfl) rfl rfl ⟨rfl, rfl, tv⟩ rfl rfl rfl (Cw (CX _ _ _ _ Bd Bd) a19) ?_
     refine AY rfl (BS rfl (qp rfl (AC (by kernel_rfl) ?_)))
     exact As _ h (sm [] _ _ rfl rfl)
    ·have h := Ao c16 h
     refine qn rfl (qn rfl (qn rfl (qn rfl (qn rfl (qn rfl (qn rfl (qn rfl (qn rfl (qn rfl (qn rfl (qn rfl (qp rfl (AC (by kernel_rfl) ?_)))))))))))))
     exact As _ h (sm [] _ _ rfl rfl)
   ·refine Ap rfl (fun c20 => ?_) (fun c20 => ?_)
    ·have h := An c20 h
     refine Aq (AJ (Aa Ac rfl (qm rfl (Bm rfl (qa rfl (Ae ?_))))))
     exact As _ h (sm [] _ _ rfl rfl)
    ·have h := Ao c20 h
     refine AQ ?_
     exact As _ h (sm [] _ _ rfl rfl)
  ·refine Am hs (Ab (Ab (Aa Ac rfl (qm rfl (qm rfl (DC rfl (Ae ?_)))))))
   refine Ap rfl (fun c21 => ?_) (fun c21 => ?_)
   ·have h := An c21 h
    refine Ab (Aa Ac rfl (qm rfl (qm rfl (qm rfl (qm rfl (qm rfl (qm rfl ?_)))))))
    obtain ⟨v22, a22, b22, h⟩ := Ak h
    refine qI A8 AU a22 (Af b22) rfl (qJ CP AU (Af b22) rfl (qm rfl (qm rfl ?_)))
    obtain ⟨v23, a23, b23, h⟩ := Ak h
    refine qI A8 AU a23 (Af b23) rfl (qJ CP AU (Af b23) rfl ?_)
    obtain ⟨v24, a24, b24, h⟩ := Ak h
    refine qI A8 AU a24 (Af b24) rfl ?_
    refine AX rfl rfl rfl rfl (Af b24) rfl AU rfl (A5 rfl) (AW Ad ((p0.set ((p1).toNat) v1).set ((p3).toNat) v2) _ v22) ?_
    obtain ⟨v25, a25, b25, h⟩ := Ak h
    refine qI A8 AU a25 (Af b25) rfl ?_
    refine AX rfl rfl rfl rfl (Af b25) rfl AU rfl (A5 rfl) (AW Ad (((p0.set ((p1).toNat) v1).set ((p3).toNat) v2).set ((v14).toNat) v22) _ v23) ?_
    refine AC (by kernel_rfl) (Ab (Aa Ac rfl (qm rfl (qa rfl (qa rfl (Ae ?_))))))
    obtain rfl := sj h
    refine Am (sm [] [(10, iD v14), (11, bD true)] [(90000, .vec 3 (((((p0.set ((p1).toNat) v1).set ((p3).toNat) v2).set ((v14).toNat) v22).set ((p1).toNat) v23).map Ad))] rfl rfl) (AA ?_)
    exact ⟨⟨[_, _], ⟨.tmp _ _ rfl, ⟨.tmp _ _ rfl, tv⟩⟩, rfl⟩, ⟨rfl, tv⟩, tv⟩
   ·have h := Ao c21 h
    refine Aq (Ab (Aa Ac rfl (qm rfl (qm rfl (qm rfl (qm rfl (qm rfl (qm rfl ?_))))))))
    obtain ⟨v26, a26, b26, h⟩ := Ak h
    refine qI A8 AU a26 (Af b26) rfl (qJ CP AU (Af b26) rfl (qm rfl (qm rfl ?_)))
    obtain ⟨v27, a27, b27, h⟩ := Ak h
    refine qI A8 AU a27 (Af b27) rfl (qJ CP AU (Af b27) rfl ?_)
    obtain ⟨v28, a28, b28, h⟩ := Ak h
    refine qI A8 AU a28 (Af b28) rfl ?_
    refine AX rfl rfl rfl rfl (Af b28) rfl AU rfl (A5 rfl) (AW Ad ((p0.set ((p1).toNat) v1).set ((p3).toNat) v2) _ v26) ?_
    obtain ⟨v29, a29, b29, h⟩ := Ak h
    refine qI A8 AU a29 (Af b29) rfl ?_
    refine AX rfl rfl rfl rfl (Af b29) rfl AU rfl (A5 rfl) (AW Ad (((p0.set ((p1).toNat) v1).set ((p3).toNat) v2).set ((v6).toNat) v26) _ v27) ?_
    refine AC (by kernel_rfl) (Ab (Aa Ac rfl (qm rfl (AP rfl (qa rfl (Ae (Ab (Aa Ac rfl (qm rfl (Bm rfl (qa rfl (Ae (Ab ?_)))))))))))))
    refine AE (L := Gs.partition_L30 N p1 p4) h (fun v30 => mk [(0, oD (.own 90000)), (1, iD p1), (4, oD (.clo (Bb (Cg true Ad true Ad) Bg p4))), (12, iD v30.2.1), (13, iD v30.2.2)] [(90000, .vec 3 (v30.1.map Ad))]) (fun v31 => mk [(0, oD (.own 90000)), (1, iD p1), (13, iD v31.2)] [(90000, .vec 3 (v31.1.map Ad))]) (fun _ _ => rfl) (sm [] _ _ rfl rfl) (fun j30 n30 v30 h => ?_) (fun v31 s h hs => ?_)
    ·unfold Gs.partition_L30 at h
     refine AJ (Ab ?_)
     refine AE (L := Gs.partition_L32 N p1 p4 v30) h (fun v32 => mk [(0, oD (.own 90000)), (1, iD p1), (4, oD (.clo (Bb (Cg true Ad true Ad) Bg p4))), (12, iD v32), (13, iD v30.2.2)] [(90000, .vec 3 (v30.1.map Ad))]) (fun v33 => mk [(0, oD (.own 90000)), (1, iD p1), (4, oD (.clo (Bb (Cg true Ad true Ad) Bg p4))), (12, iD v33), (13, iD v30.2.2)] [(90000, .vec 3 (v30.1.map Ad))]) (fun _ _ => rfl) (sm [] _ _ rfl rfl) (fun j32 n32 v32 h => ?_) (fun v33 s h hs => ?_)
     ·unfold Gs.partition_L32 at h
      refine Ab ?_
      refine AL h (fun v34 => mk [(0, oD (.own 90000)), (1, iD p1), (4, oD (.clo (Bb (Cg true Ad true Ad) Bg p4))), (12, iD v32), (13, iD v30.2.2), (120, bD v34)] [(90000, .vec 3 (v30.1.map Ad))]) (fun j34 h => ?_) (fun v34 h => ?_)
      ·refine Aa Ac rfl (qm rfl (qm rfl (GU rfl (qm rfl ?_))))
       refine AB (t := 108) rfl (fun c35 => ?_) (fun c35 => ?_)
       ·have h := An c35 h
        refine qm rfl (qm rfl (qm rfl ?_))
        obtain ⟨v36, a36, b36, h⟩ := Ak h
        refine qI A8 AU a36 (Af b36) rfl (qJ CP AU (Af b36) rfl (qm rfl (qm rfl ?_)))
        obtain ⟨v37, a37, b37, h⟩ := Ak h
        refine qI A8 AU a37 (Af b37) rfl (qJ CP AU (Af b37) rfl ?_)
        obtain ⟨v38, a38, h⟩ := bind_some h
        refine Cx (ds0 := [_, _]) (ar := (Cg true Ad true Ad) ((v36, v37))) (.g rfl rfl) rfl rfl ⟨rfl, rfl, tv⟩ rfl rfl rfl (Cw (CX _ _ _ _ Bd Bd) a38) ?_
        refine AY rfl (qp rfl (AC (by kernel_rfl) ?_))
        exact As _ h (sm [] _ _ rfl rfl)
       ·have h := Ao c35 h
        refine qn rfl (qn rfl (qn rfl (qn rfl (qn rfl (qn rfl (qn rfl (qn rfl (qn rfl (qn rfl (qn rfl (qp rfl (AC (by kernel_rfl) ?_))))))))))))
        exact As _ h (sm [] _ _ rfl rfl)
      ·refine Ap rfl (fun c39 => ?_) (fun c39 => ?_)
       ·have h := An c39 h
        refine Aq (AJ (Aa Ac rfl (qm rfl (AP rfl (qa rfl (Ae ?_))))))
        exact As _ h (sm [] _ _ rfl rfl)
       ·have h := Ao c39 h
        refine AQ ?_
        exact As _ h (sm [] _ _ rfl rfl)
     ·refine Am hs (Ab ?_)
      refine AE (L := Gs.partition_L40 N p1 p4 v30 v33) h (fun v40 => mk [(0, oD (.own 90000)), (1, iD p1), (4, oD (.clo (Bb (Cg true Ad true Ad) Bg p4))), (12, iD v33), (13, iD v40)] [(90000, .vec 3 (v30.1.map Ad))]) (fun v41 => mk [(0, oD (.own 90000)), (1, iD p1), (4, oD (.clo (Bb (Cg true Ad true Ad) Bg p4))), (12, iD v33), (13, iD v41)] [(90000, .vec 3 (v30.1.map Ad))]) (fun _ _ => rfl) (sm [] _ _ rfl rfl) (fun j40 n40 v40 h => ?_) (fun v41 s h hs => ?_)
      ·unfold Gs.partition_L40 at h
       refine Ab ?_
       refine AL h (fun v42 => mk [(0, oD (.own 90000)), (1, iD p1), (4, oD (.clo (Bb (Cg true Ad true Ad) Bg p4))), (12, iD v33), (13, iD v40), (139, bD v42)] [(90000, .vec 3 (v30.1.map Ad))]) (fun j42 h => ?_) (fun v42 h => ?_)
       ·refine Aa Ac rfl (qm rfl (qm rfl (GU rfl (qm rfl ?_))))
        refine AB (t := 126) rfl (fun c43 => ?_) (fun c43 => ?_)
        ·have h := An c43 h
         refine qm rfl (qm rfl (qm rfl ?_))
         obtain ⟨v44, a44, b44, h⟩ := Ak h
         refine qI A8 AU a44 (Af b44) rfl (qJ CP AU (Af b44) rfl (qm rfl (qm rfl ?_)))
         obtain ⟨v45, a45, b45, h⟩ := Ak h
         refine qI A8 AU a45 (Af b45) rfl (qJ CP AU (Af b45) rfl ?_)
         obtain ⟨v46, a46, h⟩ := bind_some h
         refine Cx (ds0 := [_, _]) (ar := (Cg true Ad true Ad) ((v44, v45))) (.g rfl rfl) rfl rfl ⟨rfl, rfl, tv⟩ rfl rfl rfl (Cw (CX _ _ _ _ Bd Bd) a46) ?_
         refine AY rfl (BS rfl (qp rfl (AC (by kernel_rfl) ?_)))
         exact As _ h (sm [] _ _ rfl rfl)
        ·have h := Ao c43 h
         refine qn rfl (qn rfl (qn rfl (qn rfl (qn rfl (qn rfl (qn rfl (qn rfl (qn rfl (qn rfl (qn rfl (qn rfl (qp rfl (AC (by kernel_rfl) ?_)))))))))))))
         exact As _ h (sm [] _ _ rfl rfl)
       ·refine Ap rfl (fun c47 => ?_) (fun c47 => ?_)
        ·have h := An c47 h
         refine Aq (AJ (Aa Ac rfl (qm rfl (Bm rfl (qa rfl (Ae ?_))))))
         exact As _ h (sm [] _ _ rfl rfl)
        ·have h := Ao c47 h
         refine AQ ?_
         exact As _ h (sm [] _ _ rfl rfl)
      ·refine Am hs (Ab (Ab (Aa Ac rfl (qm rfl (qm rfl (DC rfl (Ae ?_)))))))
       refine Ap rfl (fun c48 => ?_) (fun c48 => ?_)
       ·have h := An c48 h
        refine AQ ?_
        exact As _ h (sm [] _ _ rfl rfl)
       ·have h := Ao c48 h
        refine Aq (Ab (Aa Ac rfl (qm rfl (qm rfl (qm rfl (qm rfl (qm rfl (qm rfl ?_))))))))
        obtain ⟨v49, a49, b49, h⟩ := Ak h
        refine qI A8 AU a49 (Af b49) rfl (qJ CP AU (Af b49) rfl (qm rfl (qm rfl ?_)))
        obtain ⟨v50, a50, b50, h⟩ := Ak h
        refine qI A8 AU a50 (Af b50) rfl (qJ CP AU (Af b50) rfl ?_)
        obtain ⟨v51, a51, b51, h⟩ := Ak h
        refine qI A8 AU a51 (Af b51) rfl ?_
        refine AX rfl rfl rfl rfl (Af b51) rfl AU rfl (A5 rfl) (AW Ad v30.1 _ v49) ?_
        obtain ⟨v52, a52, b52, h⟩ := Ak h
        refine qI A8 AU a52 (Af b52) rfl ?_
        refine AX rfl rfl rfl rfl (Af b52) rfl AU rfl (A5 rfl) (AW Ad (v30.1.set ((v33).toNat) v49) _ v50) ?_
        refine AC (by kernel_rfl) (Ab (Aa Ac rfl (qm rfl (AP rfl (qa rfl (Ae (Aa Ac rfl (qm rfl (Bm rfl (qa rfl (Ae ?_)))))))))))
        exact As _ h (sm [] _ _ rfl rfl)
    ·refine Am hs (Ab (Aa Ac rfl (qm rfl (qm rfl (qm rfl (qm rfl (qm rfl (qm rfl ?_))))))))
     obtain ⟨v53, a53, b53, h⟩ := Ak h
     refine qI A8 AU a53 (Af b53) rfl (qJ CP AU (Af b53) rfl (qm rfl (qm rfl ?_)))
     obtain ⟨v54, a54, b54, h⟩ := Ak h
     refine qI A8 AU a54 (Af b54) rfl (qJ CP AU (Af b54) rfl ?_)
     obtain ⟨v55, a55, b55, h⟩ := Ak h
     refine qI A8 AU a55 (Af b55) rfl ?_
     refine AX rfl rfl rfl rfl (Af b55) rfl AU rfl (A5 rfl) (AW Ad v31.1 _ v53) ?_
     obtain ⟨v56, a56, b56, h⟩ := Ak h
     refine qI A8 AU a56 (Af b56) rfl ?_
     refine AX rfl rfl rfl rfl (Af b56) rfl AU rfl (A5 rfl) (AW Ad (v31.1.set ((v31.2).toNat) v53) _ v54) ?_
     refine AC (by kernel_rfl) (Ab (Aa Ac rfl (qm rfl (qa rfl (qa rfl (Ae ?_))))))
     obtain rfl := sj h
     refine Am (sm [] [(10, iD v31.2), (11, bD false)] [(90000, .vec 3 (((v31.1.set ((v31.2).toNat) v53).set ((p1).toNat) v54).map Ad))] rfl rfl) (AA ?_)
     exact ⟨⟨[_, _], ⟨.tmp _ _ rfl, ⟨.tmp _ _ rfl, tv⟩⟩, rfl⟩, ⟨rfl, tv⟩, tv⟩
theorem Gr (N : Nat) (rc : (List Ah) → Int → Int → Int → ((Ah × Ah) → Option Int) → Option ((List Ah))) (hrc : ∀ (p0 : List Ah) (p1 : Int) (p2 : Int) (p3 : Int) (p4 : (Ah × Ah) → Option Int) (r : (List Ah)), rc p0 p1 p2 p3 p4 = some r → Bh Tryz.prog 104 [oD (.own 90000), iD p1, iD p2, iD p3, oD (.clo (Bb (Cg true Ad true Ad) Bg p4))] [(.vec 3 (p0.map Ad), .vec 3 (r.map Ad))] [] (.tup [])) (p0 : List Ah) (p1 : Int) (p2 : Int) (p3 : Int) (p4 : (Ah × Ah) → Option Int) (r : (List Ah)) (h : Gs.pdqsort_B N rc p0 p1 p2 p3 p4 = some r) : Bh Tryz.prog 104 [oD (.own 90000), iD p1, iD p2, iD p3, oD (.clo (Bb (Cg true Ad true Ad) Bg p4))] [(.vec 3 (p0.map Ad), .vec 3 (r.map Ad))] [] (.tup []) := by
 unfold Gs.pdqsort_B at h
 refine A9 (n := 148) (rs := []) Tryz.func104 rfl rfl rfl (A5 rfl) (A5 rfl) rfl rfl (A5 rfl) rfl (A5 rfl) fun w0 S0 GL => Jh ?_
 refine Am (sm [] [(0, oD (.own 90000)), (1, iD p1), (2, iD p2), (3, iD p3), (4, oD (.clo (Bb (Cg true Ad true Ad) Bg p4)))] [(90000, .vec 3 (p0.map Ad))] rfl rfl) (Ab (Aa Ac rfl (qa rfl (Ae (Ab (Aa Ac rfl (qa rfl (Ae ?_))))))))
 refine AE (L := Gs.pdqsort_L1 N p4 rc) h (fun v1 => mk [(0, oD (.own 90000)), (1, iD v1.2.1), (2, iD v1.2.2.1), (3, iD v1.2.2.2.1), (4, oD (.clo (Bb (Cg true Ad true Ad) Bg p4))), (10, bD v1.2.2.2.2.1), (11, bD v1.2.2.2.2.2)] [(90000, .vec 3 (v1.1.map Ad))]) (fun v2 => mk [] []) (fun _ _ => rfl) (sm [] _ _ rfl rfl) (fun j1 n1 v1 h => ?_) (fun v2 s h hs => ?_)
 ·unfold Gs.pdqsort_L1 at h
  refine AJ (Ab (Aa Ac rfl (qm rfl (qm rfl (Bm rfl (qa rfl (Ae (Ab (Ab (Aa Ac rfl (qm rfl (GU rfl (Ae ?_)))))))))))))
  refine Ap rfl (fun c3 => ?_) (fun c3 => ?_)
  ·have h := An c3 h
   refine Ab (Aa Ac rfl (qm rfl (qm rfl (qm rfl (qm rfl ?_)))))
   obtain ⟨v4, a4, h⟩ := bind_some h
   refine BD (ds0 := [_, _, _, _]) [90000] [] [true] (FK N v1.1 v1.2.1 v1.2.2.1 p4 v4 a4) (.p rfl) YF rfl ⟨rfl, rfl, rfl, rfl, tv⟩ rfl rfl (by decide) ⟨rfl, tv⟩ rfl (A1 rfl) tv ⟨(fun h => by cases h), tv⟩ rfl rfl rfl ?_
   refine Ae ?_
   obtain rfl := sj h
   refine AA ⟨_, (sm [] [] [(90000, .vec 3 (v4.map Ad))] rfl rfl), ?_⟩
   exact ⟨⟨[], tv, rfl⟩, ⟨rfl, tv⟩, tv⟩
  ·have h := Ao c3 h
   refine Aq (Ab (Ab (Aa Ac rfl (qm rfl (BQ rfl (Ae ?_))))))
   refine Ap rfl (fun c5 => ?_) (fun c5 => ?_)
   ·have h := An c5 h
    refine Ab (Aa Ac rfl (qm rfl (qm rfl (qm rfl (qm rfl ?_)))))
    obtain ⟨v6, a6, h⟩ := bind_some h
    refine BD (ds0 := [_, _, _, _]) [90000] [] [true] (GJ N v1.1 v1.2.1 v1.2.2.1 p4 v6 a6) (.p rfl) Xu rfl ⟨rfl, rfl, rfl, rfl, tv⟩ rfl rfl (by decide) ⟨rfl, tv⟩ rfl (A1 rfl) tv ⟨(fun h => by cases h), tv⟩ rfl rfl rfl ?_
    refine Ae ?_
    obtain rfl := sj h
    refine AA ⟨_, (sm [] [] [(90000, .vec 3 (v6.map Ad))] rfl rfl), ?_⟩
    exact ⟨⟨[], tv, rfl⟩, ⟨rfl, tv⟩, tv⟩
   ·have h := Ao c5 h
    refine Aq ?_
    refine AL h (fun v7 => mk [(0, oD (.own 90000)), (1, iD v1.2.1), (2, iD v1.2.2.1), (3, iD v7.2), (4, oD (.clo (Bb (Cg true Ad true Ad) Bg p4))), (10, bD v1.2.2.2.2.1), (11, bD v1.2.2.2.2.2), (12, iD ((wI .i64 (v1.2.2.1 - v1.2.1))))] [(90000, .vec 3 (v7.1.map Ad))]) (fun j7 h => ?_) (fun v7 h => ?_)
    ·refine Ab (Aa Ac rfl (qm rfl (BS rfl (Ae ?_))))
     refine Ap rfl (fun c8 => ?_) (fun c8 => ?_)
     ·have h := An c8 h
      refine Ab (Aa Ac rfl (qm rfl (qm rfl (qm rfl (qm rfl ?_)))))
      obtain ⟨v9, a9, h⟩ := bind_some h
      refine BD (ds0 := [_, _, _, _]) [90000] [] [true] (FQ N v1.1 v1.2.1 v1.2.2.1 p4 v9 a9) (.p rfl) Xt rfl ⟨rfl, rfl, rfl, rfl, tv⟩ rfl rfl (by decide) ⟨rfl, tv⟩ rfl (A1 rfl) tv ⟨(fun h => by cases h), tv⟩ rfl rfl rfl ?_
      refine Ae (Aa Ac rfl (qm rfl (Bm rfl (qa rfl (Ae ?_)))))
      exact As _ h (sm [] _ _ rfl rfl)
     ·have h := Ao c8 h
      refine Aq ?_
      exact As _ h (sm [] _ _ rfl rfl)
    ·refine Ab (Aa Ac rfl (qm rfl (qm rfl (qm rfl (qm rfl ?_)))))
     obtain ⟨v10, a10, h⟩ := bind_some h
     refine DI [] [90000] (F7 N v7.1 v1.2.1 v1.2.2.1 p4 v10 a10) Ym Cr rfl (qm rfl (qx rfl (qx rfl (qa rfl (qa rfl (Ae ?_))))))
     refine AL h (fun v11 => mk [(0, oD (.own 90000)), (1, iD v1.2.1), (2, iD v1.2.2.1), (3, iD v7.2), (4, oD (.clo (Bb (Cg true Ad true Ad) Bg p4))), (10, bD v1.2.2.2.2.1), (11, bD v1.2.2.2.2.2), (12, iD ((wI .i64 (v1.2.2.1 - v1.2.1)))), (13, iD v11.2.1), (14, iD v11.2.2)] [(90000, .vec 3 (v11.1.map Ad))]) (fun j11 h => ?_) (fun v11 h => ?_)
     ·refine Ab (Aa Ac rfl (qm rfl (BQ rfl (Ae ?_))))
      refine Ap rfl (fun c12 => ?_) (fun c12 => ?_)
      ·have h := An c12 h
       refine Ab (Aa Ac rfl (qm rfl (qm rfl (qm rfl (qm rfl ?_)))))
       obtain ⟨v13, a13, h⟩ := bind_some h
       refine BD (ds0 := [_, _, _, _]) [90000] [] [true] (FZ N v7.1 v1.2.1 v1.2.2.1 p4 v13 a13) (.p rfl) Yv rfl ⟨rfl, rfl, rfl, rfl, tv⟩ rfl rfl (by decide) ⟨rfl, tv⟩ rfl (A1 rfl) tv ⟨(fun h => by cases h), tv⟩ rfl rfl rfl ?_
       refine Ae (Ab (Aa Ac rfl (qm rfl (Bm rfl (qm rfl (qm rfl (Bm rfl (Bm rfl (qa rfl (Ae (Aa Ac rfl (qa rfl (Ae ?_)))))))))))))
       exact As _ h (sm [] _ _ rfl rfl)
      ·have h := Ao c12 h
       refine Aq ?_
       exact As _ h (sm [] _ _ rfl rfl)
     ·refine AL h (fun v14 => mk [(0, oD (.own 90000)), (1, iD v1.2.1), (2, iD v1.2.2.1), (3, iD v7.2), (4, oD (.clo (Bb (Cg true Ad true Ad) Bg p4))), (10, bD v1.2.2.2.2.1), (11, bD v1.2.2.2.2.2), (12, iD ((wI .i64 (v1.2.2.1 - v1.2.1)))), (13, iD v11.2.1)] [(90000, .vec 3 (v14.map Ad))]) (fun j14 h => ?_) (fun v14 h => ?_)
      ·refine AL h (fun v15 => mk [(0, oD (.own 90000)), (1, iD v1.2.1), (2, iD v1.2.2.1), (3, iD v7.2), (4, oD (.clo (Bb (Cg true Ad true Ad) Bg p4))), (10, bD v1.2.2.2.2.1), (11, bD v1.2.2.2.2.2), (12, iD ((wI .i64 (v1.2.2.1 - v1.2.1)))), (13, iD v11.2.1), (75, bD v15)] [(90000, .vec 3 (v11.1.map Ad))]) (fun j15 h => ?_) (fun v15 h => ?_)
       ·refine Aa Ac rfl (qm rfl (qm rfl ?_))
        refine AB (t := 69) rfl (fun c16 => ?_) (fun c16 => ?_)
        ·have h := An c16 h
         refine qm rfl (qp rfl (qm rfl ?_))
         refine AB (t := 72) rfl (fun c17 => ?_) (fun c17 => ?_)
         ·have h := An c17 h
          refine qm rfl (BQ rfl (qp rfl (Ae ?_)))
          exact As _ h (sm [] _ _ rfl rfl)
         ·have h := Ao c17 h
          refine qn rfl (qn rfl (qp rfl (Ae ?_)))
          exact As _ h (sm [] _ _ rfl rfl)
        ·have h := Ao c16 h
         refine qn rfl (qp rfl (qm rfl (qn rfl (qn rfl (qp rfl (Ae ?_))))))
         exact As _ h (sm [] _ _ rfl rfl)
       ·refine Ap rfl (fun c18 => ?_) (fun c18 => ?_)
        ·have h := An c18 h
         refine Ab (Aa Ac rfl (qm rfl (qm rfl (qm rfl (qm rfl ?_)))))
         obtain ⟨v19, a19, h⟩ := bind_some h
         refine BD (ds0 := [_, _, _, _]) [90000] [] [true] (E8 N v11.1 v1.2.1 v1.2.2.1 p4 v19 a19) (.p rfl) YJ rfl ⟨rfl, rfl, rfl, rfl, tv⟩ rfl rfl (by decide) ⟨rfl, tv⟩ rfl (A1 rfl) tv ⟨(fun h => by cases h), tv⟩ rfl rfl rfl ?_
         refine Ae ?_
         refine Ap rfl (fun c20 => ?_) (fun c20 => ?_)
         ·have h := An c20 h
          obtain rfl := sj h
          refine AA ⟨_, (sm [] [] [(90000, .vec 3 (v19.2.map Ad))] rfl rfl), ?_⟩
          exact ⟨⟨[], tv, rfl⟩, ⟨rfl, tv⟩, tv⟩
         ·have h := Ao c20 h
          refine Aq ?_
          exact As _ h (sm [] _ _ rfl rfl)
        ·have h := Ao c18 h
         refine Aq ?_
         exact As _ h (sm [] _ _ rfl rfl)
      ·refine Ab ?_
       refine AL h (fun v21 => mk [(0, oD (.own 90000)), (1, iD v1.2.1), (2, iD v1.2.2.1), (3, iD v7.2), (4, oD (.clo (Bb (Cg true Ad true Ad) Bg p4))), (10, bD v1.2.2.2.2.1), (11, bD v1.2.2.2.2.2), (12, iD ((wI .i64 (v1.2.2.1 - v1.2.1)))), (13, iD v11.2.1), (97, bD v21)] [(90000, .vec 3 (v14.map Ad))]) (fun j21 h => ?_) (fun v21 h => ?_)
       ·refine Aa Ac rfl (qm rfl (DC rfl (qm rfl ?_)))
        refine AB (t := 83) rfl (fun c22 => ?_) (fun c22 => ?_)
        ·have h := An c22 h
         refine qm rfl (qm rfl (qm rfl (Bm rfl ?_)))
         obtain ⟨v23, a23, b23, h⟩ := Ak h
         refine qI A8 AU a23 (Af b23) rfl (qJ CP AU (Af b23) rfl (qm rfl (qm rfl ?_)))
         obtain ⟨v24, a24, b24, h⟩ := Ak h
         refine qI A8 AU a24 (Af b24) rfl (qJ CP AU (Af b24) rfl ?_)
         obtain ⟨v25, a25, h⟩ := bind_some h
         refine Cx (ds0 := [_, _]) (ar := (Cg true Ad true Ad) ((v23, v24))) (.g rfl rfl) rfl rfl ⟨rfl, rfl, tv⟩ rfl rfl rfl (Cw (CX _ _ _ _ Bd Bd) a25) ?_
         refine AY rfl (BS rfl (qp rfl (AC (by kernel_rfl) ?_)))
         exact As _ h (sm [] _ _ rfl rfl)
        ·have h := Ao c22 h
         refine qn rfl (qn rfl (qn rfl (qn rfl (qn rfl (qn rfl (qn rfl (qn rfl (qn rfl (qn rfl (qn rfl (qn rfl (qn rfl (qp rfl (AC (by kernel_rfl) ?_))))))))))))))
         exact As _ h (sm [] _ _ rfl rfl)
       ·refine Ap rfl (fun c26 => ?_) (fun c26 => ?_)
        ·have h := An c26 h
         refine Ab (Aa Ac rfl (qm rfl (qm rfl (qm rfl (qm rfl (qm rfl ?_))))))
         obtain ⟨v27, a27, h⟩ := bind_some h
         refine BD (ds0 := [_, _, _, _, _]) [90000] [] [true] (FE N v14 v1.2.1 v1.2.2.1 v11.2.1 p4 v27 a27) (.p rfl) Yd rfl ⟨rfl, rfl, rfl, rfl, rfl, tv⟩ rfl rfl (by decide) ⟨rfl, tv⟩ rfl (A1 rfl) tv ⟨(fun h => by cases h), tv⟩ rfl rfl rfl ?_
         refine qa rfl (Ae (Ab (Aa Ac rfl (qm rfl (qa rfl (Ae (AQ ?_)))))))
         exact As _ h (sm [] _ _ rfl rfl)
        ·have h := Ao c26 h
         refine Aq (Ab (Aa Ac rfl (qm rfl (qm rfl (qm rfl (qm rfl (qm rfl ?_)))))))
         obtain ⟨v28, a28, h⟩ := bind_some h
         refine BD (ds0 := [_, _, _, _, _]) [90000] [] [true] (Gx N v14 v1.2.1 v1.2.2.1 v11.2.1 p4 v28 a28) (.p rfl) Xr rfl ⟨rfl, rfl, rfl, rfl, rfl, tv⟩ rfl rfl (by decide) ⟨rfl, tv⟩ rfl (A1 rfl) tv ⟨(fun h => by cases h), tv⟩ rfl rfl rfl ?_
         refine qm rfl (qx rfl (qx rfl (qa rfl (qa rfl (Ae (Ab (Aa Ac rfl (qm rfl (qa rfl (Ae (Ab (Aa Ac rfl (qm rfl (qm rfl (Bm rfl (qm rfl (qm rfl (Bm rfl (qa rfl (qa rfl (Ae (Ab (Aa Ac rfl (qm rfl (Jc rfl (by decide) (qa rfl (Ae (Ab (Aa Ac rfl (qm rfl (qm rfl (AY rfl (Ae ?_)))))))))))))))))))))))))))))))))
         refine Ap rfl (fun c29 => ?_) (fun c29 => ?_)
         ·have h := An c29 h
          refine Ab (Aa Ac rfl (qm rfl (qm rfl (Cv rfl (qa rfl (Ae (Ab (Aa Ac rfl (qm rfl (qm rfl (qm rfl (qm rfl (qm rfl ?_)))))))))))))
          obtain ⟨v30, a30, h⟩ := bind_some h
          refine BD (ds0 := [_, _, _, _, _]) [90000] [] [true] (hrc v28.2.2 v1.2.1 v28.1 v7.2 p4 v30 a30) (.p rfl) US rfl ⟨rfl, rfl, rfl, rfl, rfl, tv⟩ rfl rfl (by decide) ⟨rfl, tv⟩ rfl (A1 rfl) tv ⟨(fun h => by cases h), tv⟩ rfl rfl rfl ?_
          refine Ae (Aa Ac rfl (qm rfl (AP rfl (qa rfl (Ae ?_)))))
          exact As _ h (sm [] _ _ rfl rfl)
         ·have h := Ao c29 h
          refine Ab (Aa Ac rfl (qm rfl (qm rfl (Cv rfl (qa rfl (Ae (Ab (Aa Ac rfl (qm rfl (qm rfl (AP rfl (qm rfl (qm rfl (qm rfl ?_))))))))))))))
          obtain ⟨v31, a31, h⟩ := bind_some h
          refine BD (ds0 := [_, _, _, _, _]) [90000] [] [true] (hrc v28.2.2 ((wI .i64 (v28.1 + 1))) v1.2.2.1 v7.2 p4 v31 a31) (.p rfl) US rfl ⟨rfl, rfl, rfl, rfl, rfl, tv⟩ rfl rfl (by decide) ⟨rfl, tv⟩ rfl (A1 rfl) tv ⟨(fun h => by cases h), tv⟩ rfl rfl rfl ?_
          refine Ae (Aa Ac rfl (qm rfl (qa rfl (Ae ?_))))
          exact As _ h (sm [] _ _ rfl rfl)
 ·cases h
theorem Ep (N : Nat) : ∀ (k : Nat) (p0 : List Ah) (p1 : Int) (p2 : Int) (p3 : Int) (p4 : (Ah × Ah) → Option Int) (r : (List Ah)), Gs.pdqsort_R N k p0 p1 p2 p3 p4 = some r → Bh Tryz.prog 104 [oD (.own 90000), iD p1, iD p2, iD p3, oD (.clo (Bb (Cg true Ad true Ad) Bg p4))] [(.vec 3 (p0.map Ad), .vec 3 (r.map Ad))] [] (.tup [])
 | 0, _, _, _, _, _, _, h => by cases h
 | k + 1, p0, p1, p2, p3, p4, r, h => Gr N (Gs.pdqsort_R N k) (Ep N k) p0 p1 p2 p3 p4 r h
theorem GM (N : Nat) (p0 : List Ah) (p1 : Int) (p2 : Int) (p3 : Int) (p4 : (Ah × Ah) → Option Int) (r : (List Ah)) (h : Gs.pdqsort N p0 p1 p2 p3 p4 = some r) : Bh Tryz.prog 104 [oD (.own 90000), iD p1, iD p2, iD p3, oD (.clo (Bb (Cg true Ad true Ad) Bg p4))] [(.vec 3 (p0.map Ad), .vec 3 (r.map Ad))] [] (.tup []) := Ep N N p0 p1 p2 p3 p4 r h
theorem FD (N : Nat) (p0 : List Ah) (p1 : (Ah × Ah) → Option Int) (r : (List Ah)) (h : Bn N p0 p1 = some r) : Bh Tryz.prog 59 [oD (.own 90000), oD (.clo (Bb (Cg true Ad true Ad) Bg p1))] [(.vec 3 (p0.map Ad), .vec 3 (r.map Ad))] [] (.tup []) := by
 unfold Bn at h
 refine A9 (n := 14) (rs := []) Tryz.func59 rfl rfl rfl (A5 rfl) (A5 rfl) rfl rfl (A5 rfl) rfl (A5 rfl) fun w0 S0 GL => Jh ?_
 refine Am (sm [] [(0, oD (.own 90000)), (1, oD (.clo (Bb (Cg true Ad true Ad) Bg p1)))] [(90000, .vec 3 (p0.map Ad))] rfl rfl) (Ab (Aa Ac rfl (qm rfl (EP A8 rfl (qa rfl (Ae (Aa Ac rfl (qm rfl (qm rfl (qm rfl (HI UW MH rfl ?_)))))))))))
 obtain ⟨v1, a1, h⟩ := bind_some h
 refine AG [] (Ig N ((wI .u64 ((p0.length : Int)))) v1 a1) UF rfl (qm rfl ?_)
 obtain ⟨v2, a2, h⟩ := bind_some h
 refine BD (ds0 := [_, _, _, _, _]) [90000] [] [true] (GM N p0 0 ((p0.length : Int)) v1 p1 v2 a2) (.p rfl) US rfl ⟨rfl, rfl, rfl, rfl, rfl, tv⟩ rfl rfl (by decide) ⟨rfl, tv⟩ rfl (A1 rfl) tv ⟨(fun h => by cases h), tv⟩ rfl rfl rfl ?_
 refine Ae ?_
 obtain rfl := sj h
 refine ⟨_, (sm [] [] [(90000, .vec 3 (v2.map Ad))] rfl rfl), ?_⟩
 exact ⟨⟨[], tv, rfl⟩, ⟨rfl, tv⟩, tv⟩
theorem Lj (N : Nat) (p0 : Ah) (p1 : Ah) (r : Int) (h : Cp N p0 p1 = some r) : AD Tryz.prog 60 [.e (.agg [iC p0.fTable, iC p0.fWriter, iC p0.fReader]), .e (.agg [iC p1.fTable, iC p1.fWriter, iC p1.fReader])] [] (iD r) := by
 unfold Cp at h
 refine Au (n := 22) (rs := [.tmp 4]) Tryz.func60 rfl rfl rfl (A5 rfl) (A5 rfl) rfl fun w0 S0 => ?_
 refine Ab (Aa Ac rfl (qb rfl (qb rfl (qa rfl (Ae (Ab (Aa Ac rfl (qf Sv rfl (ql Cz rfl (qf Sv rfl (ql Cz rfl ?_)))))))))))
 obtain ⟨v1, a1, h⟩ := bind_some h
 refine AG [] (Gi N p0.fTable p1.fTable v1 a1) Vf rfl (qf R6 rfl (ql Cz rfl (qf R6 rfl (ql Cz rfl ?_))))
 obtain ⟨v2, a2, h⟩ := bind_some h
 refine AG [] (Gi N p0.fWriter p1.fWriter v2 a2) Vf rfl (qf SE rfl (ql Cz rfl (qf SE rfl (ql Cz rfl ?_))))
 obtain ⟨v3, a3, h⟩ := bind_some h
 refine AG [] (Gi N p0.fReader p1.fReader v3 a3) Vf rfl (EX AN DJ Mt rfl ?_)
 obtain ⟨v4, a4, h⟩ := bind_some h
 refine DI [] [20] (Lz N (([v1, v2, v3] : List Int)) v4 a4) YP Cr rfl (qa rfl (AC (by kernel_rfl) ?_))
 obtain rfl := sj h
 refine Am (sm [] [(4, iD v4)] [] rfl rfl) (AA ?_)
 exact ⟨⟨[_], ⟨.tmp _ _ rfl, tv⟩, rfl⟩, tv⟩
theorem FR (N : Nat) (p0 : List Ah) (r : Nat × (List Ah)) (h : Bq N p0 = some r) : Bh Tryz.prog 63 [oD (.own 90000)] [(.vec 3 (p0.map Ad), .vec 3 (r.2.map Ad))] [] (oD (.view 90000 3 0 r.1)) := by
 unfold Bq at h
 refine A9 (n := 61) (rs := [.tmp 2]) Tryz.func63 rfl rfl rfl (A5 rfl) (A5 rfl) rfl rfl (A5 rfl) rfl (A5 rfl) fun w0 S0 GL => ?_
 refine Am (sm [] [(0, oD (.own 90000))] [(90000, .vec 3 (p0.map Ad))] rfl rfl) (Ab (Aa Ac rfl (qa rfl (Ae (Ab (Ab (Aa Ac rfl (qm rfl (EP A8 rfl (AY rfl (Ae ?_)))))))))))
 refine Ap rfl (fun c1 => ?_) (fun c1 => ?_)
 ·have h := An c1 h
  refine Ab (Aa Ac rfl (qm rfl (qa rfl (Ae ?_))))
  obtain rfl := sj h
  refine Am ((PL Ad p0 2 90000 3 rfl rfl).trans (sm [] [(2, oD (.view 90000 3 0 p0.length))] [(90000, .vec 3 (p0.map Ad))] rfl rfl)) (AA ?_)
  exact ⟨⟨[_], ⟨.tmp _ _ rfl, tv⟩, rfl⟩, ⟨rfl, tv⟩, tv⟩
 ·have h := Ao c1 h
  refine Aq (Ab (Ab (Aa Ac rfl (qa rfl (Ae ?_)))))
  refine AE (L := BU N p0) h (fun v2 => mk [(0, oD (.own 90000)), (3, iD v2)] [(90000, .vec 3 (p0.map Ad))]) (fun v3 => mk [(0, oD (.own 90000))] [(90000, .vec 3 (p0.map Ad))]) (fun _ _ => rfl) (sm [] _ _ rfl rfl) (fun j2 n2 v2 h => ?_) (fun v3 s h hs => ?_)
  ·unfold BU at h
   refine Ab (Ab (Aa Ac rfl (qm rfl (qm rfl (EP A8 rfl (AY rfl (Ae ?_)))))))
   refine Ap rfl (fun c4 => ?_) (fun c4 => ?_)
   ·have h := An c4 h
    refine Aq (Ab (AJ (Ab (Aa Ac rfl (qm rfl (qm rfl ?_))))))
    obtain ⟨v5, a5, b5, h⟩ := Ak h
    refine qI A8 AU a5 (Af b5) rfl (qJ CP AU (Af b5) rfl (qm rfl (qm rfl (Bm rfl ?_))))
    obtain ⟨v6, a6, b6, h⟩ := Ak h
    refine qI A8 AU a6 (Af b6) rfl (qJ CP AU (Af b6) rfl ?_)
    refine UA [.int .i64 v5.fTable, .int .i64 v5.fWriter, .int .i64 v5.fReader] [.int .i64 v6.fTable, .int .i64 v6.fWriter, .int .i64 v6.fReader] (.p rfl) rfl rfl QL rfl ?_
    refine AC (by kernel_rfl) ?_
    refine Ap rfl (fun c7 => ?_) (fun c7 => ?_)
    ·have h := An c7 h
     refine Ab (Aa Ac rfl (qm rfl (qm rfl ?_)))
     obtain ⟨c8, h⟩ := Ba h
     have w9 : ((v2).toNat) + ((p0.length - (v2).toNat)) ≤ p0.length := by have := c8.2.1; have := c8.2.2; omega
     refine IS Ad p0 (.p rfl) rfl (H7 Ad _ _ p0) rfl A8 AU (.some _ _ _ _ c8.1) (.none _) ⟨rfl, tv⟩ tv c8.2.1 (by rw [Nat.zero_add]; exact c8.2.2) (Nat.zero_add _) rfl ?_
     refine qa rfl (Ae (Ab (Ab (Aa Ac rfl (qa rfl (Ae ?_))))))
     refine AE (L := BO N p0 v2) h (fun v10 => mk [(0, oD (.own 90000)), (3, iD v10.2.1), (4, oD (.view 90000 3 ((v2).toNat) ((p0.length - (v2).toNat)))), (5, iD v10.2.2)] [(90000, .vec 3 (v10.1.map Ad))]) (fun v11 => mk [(0, oD (.own 90000)), (3, iD v11.2)] [(90000, .vec 3 (v11.1.map Ad))]) (fun _ _ => rfl) (sm [] _ _ rfl rfl) (fun j10 n10 v10 h => ?_) (fun v11 s h hs => ?_)
     ·unfold BO at h
      refine Ab (Ab (Aa Ac rfl (qm rfl (qm rfl ?_))))
      refine Vo (.p rfl) rfl A8 ?_
      refine AY rfl (Ae ?_)
      refine Ap rfl (fun c12 => ?_) (fun c12 => ?_)
      ·have h := An c12 h
       refine Aq ?_
       refine AL h (fun v13 => mk [(0, oD (.own 90000)), (3, iD v13.2), (4, oD (.view 90000 3 ((v2).toNat) ((p0.length - (v2).toNat)))), (5, iD v10.2.2)] [(90000, .vec 3 (v13.1.map Ad))]) (fun j13 h => ?_) (fun v13 h => ?_)
       ·refine AJ (Ab (Aa Ac rfl (qm rfl (qm rfl ?_))))
        obtain ⟨c15, h⟩ := Ba h
        obtain ⟨v14, a14, b14, h⟩ := Ak h
        refine Mq Ad v10.1 (.p rfl) rfl c15 rfl rfl A8 AU a14 (JJ b14).1 rfl ?_
        refine L2 (.p rfl) rfl CP AU rfl (Af (JJ b14).2) ?_
        refine qm rfl (qm rfl (Bm rfl ?_))
        obtain ⟨v16, a16, b16, h⟩ := Ak h
        refine Mq Ad v10.1 (.p rfl) rfl c15 rfl rfl A8 AU a16 (JJ b16).1 rfl ?_
        refine L2 (.p rfl) rfl CP AU rfl (Af (JJ b16).2) ?_
        refine Se [.int .i64 v14.fTable, .int .i64 v14.fWriter, .int .i64 v14.fReader] [.int .i64 v16.fTable, .int .i64 v16.fWriter, .int .i64 v16.fReader] (.p rfl) rfl rfl QL rfl ?_
        refine AC (by kernel_rfl) ?_
        refine Ap rfl (fun c17 => ?_) (fun c17 => ?_)
        ·have h := An c17 h
         refine Ab (Aa Ac rfl (qm rfl (qm rfl (qm rfl (qm rfl ?_)))))
         obtain ⟨v18, a18, b18, h⟩ := Ak h
         refine Mq Ad v10.1 (.p rfl) rfl c15 rfl rfl A8 AU a18 (JJ b18).1 rfl ?_
         refine L2 (.p rfl) rfl CP AU rfl (Af (JJ b18).2) ?_
         obtain ⟨v19, a19, b19, h⟩ := Ak h
         refine qI A8 AU a19 (Af b19) rfl ?_
         refine AX rfl rfl rfl rfl (Af b19) rfl AU rfl (A5 rfl) (AW Ad v10.1 _ v18) ?_
         refine Ae (Aa Ac rfl (qm rfl (AP rfl (qa rfl (Ae ?_)))))
         exact As _ h (sm [] _ _ rfl rfl)
        ·have h := Ao c17 h
         refine Aq ?_
         exact As _ h (sm [] _ _ rfl rfl)
       ·refine Aa Ac rfl (qm rfl (AP rfl (qa rfl (Ae ?_))))
        exact As _ h (sm [] _ _ rfl rfl)
      ·have h := Ao c12 h
       refine AQ ?_
       exact As _ h (sm [] _ _ rfl rfl)
     ·refine Am hs (Ab (Aa Ac rfl (qm rfl (qm rfl ?_))))
      obtain ⟨c20, h⟩ := Ba h
      have w21 : ((v11.2).toNat) + ((v11.1.length - (v11.2).toNat)) ≤ v11.1.length := by have := c20.2.1; have := c20.2.2; omega
      refine IS Ad v11.1 (.p rfl) rfl (H7 Ad _ _ v11.1) rfl A8 AU (.some _ _ _ _ c20.1) (.none _) ⟨rfl, tv⟩ tv c20.2.1 (by rw [Nat.zero_add]; exact c20.2.2) (Nat.zero_add _) rfl ?_
      have w22 : (HQ v11.1 ((v11.2).toNat) (List.replicate ((v11.1.length - (v11.2).toNat)) ((Ah.mk 0 0 0)))).length = v11.1.length := IR (by rw [List.length_replicate]; exact w21)
      refine P3 Ad v11.1 ((Ah.mk 0 0 0)) rfl rfl (Ma Ad _ _ ((v11.2).toNat) ((v11.1.length - (v11.2).toNat)) v11.1 w21) rfl A8 HW rfl rfl rfl rfl ?_
      refine Ae (Ab (Aa Ac rfl (qm rfl (qm rfl ?_))))
      obtain ⟨c23, h⟩ := Ba h
      have w24 : 0 + ((v11.2).toNat) ≤ (HQ v11.1 ((v11.2).toNat) (List.replicate ((v11.1.length - (v11.2).toNat)) ((Ah.mk 0 0 0)))).length := by have := c23.2.1; have := c23.2.2; omega
      refine IS Ad (HQ v11.1 ((v11.2).toNat) (List.replicate ((v11.1.length - (v11.2).toNat)) ((Ah.mk 0 0 0)))) (.p rfl) rfl (H7 Ad _ _ (HQ v11.1 ((v11.2).toNat) (List.replicate ((v11.1.length - (v11.2).toNat)) ((Ah.mk 0 0 0))))) rfl A8 AU (.none _) (.some _ _ _ _ c23.1) tv ⟨rfl, tv⟩ c23.2.1 (by rw [Nat.zero_add]; exact c23.2.2) (Nat.zero_add _) rfl ?_
      refine qa rfl (Ae ?_)
      obtain rfl := sj h
      refine Am (sm [] [(2, oD (.view 90000 3 0 ((v11.2).toNat)))] [(90000, .vec 3 ((HQ v11.1 ((v11.2).toNat) (List.replicate ((v11.1.length - (v11.2).toNat)) ((Ah.mk 0 0 0)))).map Ad))] rfl rfl) (AA ?_)
      exact ⟨⟨[_], ⟨.tmp _ _ rfl, tv⟩, rfl⟩, ⟨rfl, tv⟩, tv⟩
    ·have h := Ao c7 h
     refine Aq (Aa Ac rfl (qm rfl (AP rfl (qa rfl (Ae ?_)))))
     exact As _ h (sm [] _ _ rfl rfl)
   ·have h := Ao c4 h
    refine AQ ?_
    exact As _ h (sm [] _ _ rfl rfl)
  ·refine Am hs (Ab (Aa Ac rfl (qm rfl (qa rfl (Ae ?_)))))
   obtain rfl := sj h
   refine Am ((PL Ad p0 2 90000 3 rfl rfl).trans (sm [] [(2, oD (.view 90000 3 0 p0.length))] [(90000, .vec 3 (p0.map Ad))] rfl rfl)) (AA ?_)
   exact ⟨⟨[_], ⟨.tmp _ _ rfl, tv⟩, rfl⟩, ⟨rfl, tv⟩, tv⟩
theorem Jv (N : Nat) (p0 : Aj) (p1 : List Ag) (r : (List Ah) × Int) (h : EF N p0 p1 = some r) : AD Tryz.prog 22 [.e (.agg [sC (p0.fVersions.map Al), sC (p0.fNow.map Al), sC (p0.fTarget.map Al), sC (p0.fTables.map Ar)]), pD (.sl (p1.map Ai))] [(3, r.1.map Ad)] (.tup [.one (.own 0), .one (iC r.2)]) := by
 unfold EF at h
 refine Au (n := 36) (rs := [.tmp 4, .tmp 5]) Tryz.func22 rfl rfl rfl (A5 rfl) (A5 rfl) rfl fun w0 S0 => ?_
 refine Ab (Aa Ac rfl (qb rfl (qa rfl (qa rfl (Ae (Ab (Aa Ac rfl (qL Di Da rfl (qm rfl ?_)))))))))
 obtain ⟨v1, a1, h⟩ := bind_some h
 refine AG [2001] (Ii N p0 p1 v1 a1) W7 rfl (qm rfl (qx rfl (qx rfl (qa rfl (qa rfl (Ae (Ab (Ab (Aa Ac rfl (qm rfl (BP rfl (Ae ?_))))))))))))
 refine Ap rfl (fun c2 => ?_) (fun c2 => ?_)
 ·have h := An c2 h
  refine Ab (Aa Ac rfl (qm rfl (qa rfl (qa rfl (Ae ?_)))))
  obtain rfl := sj h
  refine Am ((BB 4 2002 3 rfl rfl rfl).trans (sm [(1000, 2002)] [(4, oD (.own 1000)), (5, iD v1.2)] [(1000, .vec 3 ((([] : List Ah)).map Ad))] rfl rfl)) (AA ?_)
  exact ⟨⟨[_, _], ⟨.tmp _ _ rfl, ⟨.tmp _ _ rfl, tv⟩⟩, rfl⟩, ⟨rfl, tv⟩⟩
 ·have h := Ao c2 h
  refine Aq (Ab (Aa Ac rfl (qa rfl (Ae (Ab (Ab (Aa Ac rfl (qm rfl (EP zFS rfl (qm rfl (Ae ?_)))))))))))
  refine AE (L := Dg N v1) h (fun v3 => mk [(8, oD (.own 2003)), (20, oD (.own 2004)), (21, iD ((v1.1.length : Int))), (22, iD v3.2)] [(2003, .vec 3 (v3.1.map Ad)), (2004, .vec 9 (v1.1.map Bx))]) (fun v4 => mk [(8, oD (.own 2005))] [(2005, .vec 3 (v4.map Ad))]) (fun _ _ => rfl) ((BB 8 2006 3 rfl rfl rfl).trans (sm [(2003, 2006), (2004, 2001)] _ _ rfl rfl)) (fun j3 n3 v3 h => ?_) (fun v4 s h hs => ?_)
  ·unfold Dg at h
   refine Ab (Aa Ac rfl (AY rfl (Ae (Ab ?_))))
   refine Ap rfl (fun c5 => ?_) (fun c5 => ?_)
   ·have h := An c5 h
    refine Aq (Ab (AJ (Ab (Aa Ac rfl ?_))))
    obtain ⟨v6, a6, b6, h⟩ := Ak h
    refine qI zFS Kg a6 (Af b6) rfl (qJ Ze Kg (Af b6) rfl (qz Pw rfl (qs Kg rfl (Ae (Aa Ac rfl (qm rfl (qf M7 rfl (qL CP AU rfl (EX A8 AU HW rfl ?_)))))))))
    obtain ⟨c7, h⟩ := Ba h
    refine Fb (f := Ad) A8 A8 AU Qn HW c7 rfl (qa rfl (Ae (Aa Ac rfl (AP rfl (qm rfl (Ae ?_))))))
    exact As _ h (sm [(2003, 30)] _ _ rfl rfl)
   ·have h := Ao c5 h
    refine AQ ?_
    exact As _ h (sm [(2005, 2003)] _ _ rfl rfl)
  ·refine Am hs (Ab (Aa Ac rfl (qm rfl ?_)))
   obtain ⟨v8, a8, h⟩ := bind_some h
   refine BD (ds0 := [_, _]) [2005] [] [true] (Bh.weak (ds' := [_, oD (.fnc 60)]) (FD N v4 ((fun (x : Ah × Ah) => Cp N x.1 x.2)) v8 a8) ⟨(fun _ _ _ hh => hh), (fun _ _ _ hh => Rc Zb (fun ar t ht => by obtain ⟨x, r, rfl, hq, rfl⟩ := Hl ht; exact Lj N x.1 x.2 r hq) hh), tv⟩) (.p rfl) Zi rfl ⟨rfl, rfl, tv⟩ rfl rfl (by decide) ⟨rfl, tv⟩ rfl (A1 rfl) tv ⟨(fun h => by cases h), tv⟩ rfl rfl rfl ?_
   refine Ae (Ab (Aa Ac rfl (qm rfl ?_)))
   obtain ⟨v9, a9, h⟩ := bind_some h
   obtain ⟨c10, h⟩ := Ba h
   have w11 : 0 + v9.1 ≤ v9.2.length := by rw [Nat.zero_add]; exact c10
   refine BD (ds0 := [_]) [2005] [] [true] (FR N v8 v9 a9) (.p rfl) Zw rfl ⟨rfl, tv⟩ rfl rfl (by decide) ⟨rfl, tv⟩ rfl (A1 rfl) tv ⟨(fun h => by cases h), tv⟩ rfl rfl rfl ?_
   refine EM (UQ Ad v9.2 35 2005 2007 3 v9.1 rfl rfl rfl rfl rfl c10) (qa rfl (qa rfl (Ae ?_)))
   obtain rfl := sj h
   refine Am (sm [(1000, 2007)] [(4, oD (.own 1000)), (5, iD 0)] [(1000, .vec 3 ((v9.2.take v9.1).map Ad))] rfl rfl) (AA ?_)
   exact ⟨⟨[_, _], ⟨.tmp _ _ rfl, ⟨.tmp _ _ rfl, tv⟩⟩, rfl⟩, ⟨rfl, tv⟩⟩
theorem JF (N : Nat) (p0 : Aj) (p1 : List Ag) (r : Int × Ag × Int) (h : EE N p0 p1 = some r) : AD Tryz.prog 25 [.e (.agg [sC (p0.fVersions.map Al), sC (p0.fNow.map Al), sC (p0.fTarget.map Al), sC (p0.fTables.map Ar)]), pD (.sl (p1.map Ai))] [(1, r.2.1.fBase.map Al), (1, r.2.1.fNext.map Al), (1, r.2.1.fHeld.map Bw)] (.tup [.one (iC r.1), .agg [.own 0, .own 1, .own 2], .one (iC r.2.2)]) := by
 unfold EE at h
 refine Au (n := 88) (rs := [.tmp 4, .cell 5 46, .tmp 6]) Tryz.func25 rfl rfl rfl (A5 rfl) (A5 rfl) rfl fun w0 S0 => ?_
 refine Ab (Aa Ac rfl (qb rfl (qa rfl (qz Cs rfl (qa rfl (Ae (Ab (Ab (Aa Ac rfl (qL Di Da rfl ?_))))))))))
 obtain ⟨v1, a1, h⟩ := bind_some h
 refine AG [] (Fj N p0 v1 a1) U8 rfl (qa rfl (Ae (Ab (Aa Ac rfl (qm rfl (BP rfl (Ae ?_)))))))
 refine Ap rfl (fun c2 => ?_) (fun c2 => ?_)
 ·have h := An c2 h
  refine Ab (Aa Ac rfl (Br Cs Gt rfl (qm rfl (qa rfl (qs Az rfl (qa rfl (Ae ?_)))))))
  obtain rfl := sj h
  refine Am ((AO 5 0 2001 1 _ rfl rfl rfl rfl).trans ((AO 5 1 2002 1 _ rfl rfl rfl rfl).trans ((AO 5 2 2003 1 _ rfl rfl rfl rfl).trans (sm [(1000, 2001), (1001, 2002), (1002, 2003)] [(4, iD 0), (5, oD (.ptr 5 0)), (6, iD v1)] [(5, .box [.own 1000, .own 1001, .own 1002]), (1000, .vec 1 ((([] : List Int)).map Al)), (1001, .vec 1 ((([] : List Int)).map Al)), (1002, .vec 1 ((([] : List Int)).map Bw))] rfl rfl)))) (AA ?_)
  exact ⟨⟨[_, _, _], ⟨.tmp _ _ rfl, ⟨.cellN _ _ _ _ _ _ _ rfl rfl A4 Az rfl rfl (Iq rfl), ⟨.tmp _ _ rfl, tv⟩⟩⟩, rfl⟩, ⟨rfl, rfl, rfl, tv⟩⟩
 ·have h := Ao c2 h
  refine Aq (Ab (Ab (Aa Ac rfl (qm rfl (AR A0 rfl (BQ rfl (Ae ?_)))))))
  refine Ap rfl (fun c3 => ?_) (fun c3 => ?_)
  ·have h := An c3 h
   refine Ab (Aa Ac rfl (Br Cs Gt rfl (qa rfl (qs Az rfl (qa rfl (Ae ?_))))))
   obtain rfl := sj h
   refine Am ((AO 5 0 2004 1 _ rfl rfl rfl rfl).trans ((AO 5 1 2005 1 _ rfl rfl rfl rfl).trans ((AO 5 2 2006 1 _ rfl rfl rfl rfl).trans (sm [(1000, 2004), (1001, 2005), (1002, 2006)] [(4, iD 0), (5, oD (.ptr 5 0)), (6, iD 10)] [(5, .box [.own 1000, .own 1001, .own 1002]), (1000, .vec 1 ((([] : List Int)).map Al)), (1001, .vec 1 ((([] : List Int)).map Al)), (1002, .vec 1 ((([] : List Int)).map Bw))] rfl rfl)))) (AA ?_)
   exact ⟨⟨[_, _, _], ⟨.tmp _ _ rfl, ⟨.cellN _ _ _ _ _ _ _ rfl rfl A4 Az rfl rfl (Iq rfl), ⟨.tmp _ _ rfl, tv⟩⟩⟩, rfl⟩, ⟨rfl, rfl, rfl, tv⟩⟩
  ·have h := Ao c3 h
   refine Aq (Ab (Aa Ac rfl (qa rfl (qa rfl (Ae (Ab (Ab (Aa Ac rfl (qm rfl (AR A0 rfl (qm rfl (Ae ?_))))))))))))
   refine AE (L := DT N p0 p1) h (fun v4 => mk [(1, pD (.sl (p1.map Ai))), (2, oD (.ptr 2 0)), (5, oD (.ptr 5 0)), (8, iD v4.1), (9, iD v4.2.1), (27, pD (.sl (p1.map Ai))), (28, iD ((p1.length : Int))), (29, iD v4.2.2)] [(2, .box [sC (p0.fVersions.map Al), sC (p0.fNow.map Al), sC (p0.fTarget.map Al), sC (p0.fTables.map Ar)]), (5, .box [.pure (.nil0), .pure (.nil0), .pure (.nil0)])]) (fun v5 => mk [(1, pD (.sl (p1.map Ai))), (5, oD (.ptr 5 0)), (8, iD v5.1), (9, iD v5.2)] [(5, .box [.pure (.nil0), .pure (.nil0), .pure (.nil0)])]) (fun _ _ => rfl) (sm [] _ _ rfl rfl) (fun j4 n4 v4 h => ?_) (fun v5 s h hs => ?_)
   ·unfold DT at h
    refine Ab (Aa Ac rfl (AY rfl (Ae (Ab ?_))))
    refine Ap rfl (fun c6 => ?_) (fun c6 => ?_)
    ·have h := An c6 h
     refine Aq ?_
     refine AL h (fun v7 => mk [(1, pD (.sl (p1.map Ai))), (2, oD (.ptr 2 0)), (5, oD (.ptr 5 0)), (8, iD v7.1), (9, iD v7.2), (27, pD (.sl (p1.map Ai))), (28, iD ((p1.length : Int))), (29, iD v4.2.2)] [(2, .box [sC (p0.fVersions.map Al), sC (p0.fNow.map Al), sC (p0.fTarget.map Al), sC (p0.fTables.map Ar)]), (5, .box [.pure (.nil0), .pure (.nil0), .pure (.nil0)])]) (fun j7 h => ?_) (fun v7 h => ?_)
     ·refine AJ (Ab (Aa Ac rfl (qm rfl ?_)))
      obtain ⟨v8, a8, b8, h⟩ := Ak h
      refine qi A0 Az a8 (Af b8) rfl (qK A4 Az rfl (qz Cs rfl (qa rfl (qs Az rfl (Ae (Ab (Ab (Aa Ac rfl (qL Di Da rfl (qL A4 Az rfl ?_))))))))))
      obtain ⟨v9, a9, h⟩ := bind_some h
      refine AG [] (H8 N p0 v8 v9 a9) Ub rfl (qa rfl (Ae (Ab (Aa Ac rfl (qm rfl (BP rfl (Ae ?_)))))))
      refine Ap rfl (fun c10 => ?_) (fun c10 => ?_)
      ·have h := An c10 h
       refine Ab (Aa Ac rfl (Br Cs Gt rfl (qm rfl (qa rfl (qs Az rfl (qa rfl (Ae ?_)))))))
       obtain rfl := sj h
       refine Am ((AO 5 0 2007 1 _ rfl rfl rfl rfl).trans ((AO 5 1 2008 1 _ rfl rfl rfl rfl).trans ((AO 5 2 2009 1 _ rfl rfl rfl rfl).trans (sm [(1000, 2007), (1001, 2008), (1002, 2009)] [(4, iD 0), (5, oD (.ptr 5 0)), (6, iD v9)] [(5, .box [.own 1000, .own 1001, .own 1002]), (1000, .vec 1 ((([] : List Int)).map Al)), (1001, .vec 1 ((([] : List Int)).map Al)), (1002, .vec 1 ((([] : List Int)).map Bw))] rfl rfl)))) (AA ?_)
       exact ⟨⟨[_, _, _], ⟨.tmp _ _ rfl, ⟨.cellN _ _ _ _ _ _ _ rfl rfl A4 Az rfl rfl (Iq rfl), ⟨.tmp _ _ rfl, tv⟩⟩⟩, rfl⟩, ⟨rfl, rfl, rfl, tv⟩⟩
      ·have h := Ao c10 h
       refine Aq (Ab (Aa Ac rfl (qa rfl (Ae (Ab (Ab (Aa Ac rfl (qf H3 rfl (ql Bs rfl (AR AN rfl (qm rfl (Ae ?_))))))))))))
       refine AE (L := Ch N p0 v8) h (fun v11 => mk [(1, pD (.sl (p1.map Ai))), (2, oD (.ptr 2 0)), (5, oD (.ptr 5 0)), (8, iD v4.1), (9, iD v4.2.1), (10, iD v4.2.2), (11, oD (.ptr 11 0)), (13, iD v11.1), (27, pD (.sl (p1.map Ai))), (28, iD ((p1.length : Int))), (29, iD v4.2.2), (42, pD (.sl (p0.fTarget.map Al))), (43, iD ((p0.fTarget.length : Int))), (44, iD v11.2)] [(2, .box [sC (p0.fVersions.map Al), sC (p0.fNow.map Al), sC (p0.fTarget.map Al), sC (p0.fTables.map Ar)]), (5, .box [.pure (.nil0), .pure (.nil0), .pure (.nil0)]), (11, .box [sC (v8.fBase.map Al), sC (v8.fNext.map Al), sC (v8.fHeld.map Bw)])]) (fun v12 => mk [(1, pD (.sl (p1.map Ai))), (2, oD (.ptr 2 0)), (5, oD (.ptr 5 0)), (8, iD v4.1), (9, iD v4.2.1), (10, iD v4.2.2), (13, iD v12), (27, pD (.sl (p1.map Ai))), (28, iD ((p1.length : Int))), (29, iD v4.2.2)] [(2, .box [sC (p0.fVersions.map Al), sC (p0.fNow.map Al), sC (p0.fTarget.map Al), sC (p0.fTables.map Ar)]), (5, .box [.pure (.nil0), .pure (.nil0), .pure (.nil0)])]) (fun _ _ => rfl) (sm [] _ _ rfl rfl) (fun j11 n11 v11 h => ?_) (fun v12 s h hs => ?_)
       ·unfold Ch at h
        refine Ab (Aa Ac rfl (AY rfl (Ae (Ab ?_))))
        refine Ap rfl (fun c13 => ?_) (fun c13 => ?_)
        ·have h := An c13 h
         refine Aq ?_
         refine AL h (fun v14 => mk [(1, pD (.sl (p1.map Ai))), (2, oD (.ptr 2 0)), (5, oD (.ptr 5 0)), (8, iD v4.1), (9, iD v4.2.1), (10, iD v4.2.2), (11, oD (.ptr 11 0)), (13, iD v14), (27, pD (.sl (p1.map Ai))), (28, iD ((p1.length : Int))), (29, iD v4.2.2), (42, pD (.sl (p0.fTarget.map Al))), (43, iD ((p0.fTarget.length : Int))), (44, iD v11.2)] [(2, .box [sC (p0.fVersions.map Al), sC (p0.fNow.map Al), sC (p0.fTarget.map Al), sC (p0.fTables.map Ar)]), (5, .box [.pure (.nil0), .pure (.nil0), .pure (.nil0)]), (11, .box [sC (v8.fBase.map Al), sC (v8.fNext.map Al), sC (v8.fHeld.map Bw)])]) (fun j14 h => ?_) (fun v14 h => ?_)
         ·refine AJ (Ab (Aa Ac rfl (qm rfl ?_)))
          obtain ⟨v15, a15, b15, h⟩ := Ak h
          refine qi AN DJ a15 (Af b15) rfl (qk Cz rfl (qa rfl (qa rfl (Ae ?_))))
          refine AL h (fun v16 => mk [(1, pD (.sl (p1.map Ai))), (2, oD (.ptr 2 0)), (5, oD (.ptr 5 0)), (8, iD v4.1), (9, iD v4.2.1), (10, iD v4.2.2), (11, oD (.ptr 11 0)), (13, iD v11.1), (27, pD (.sl (p1.map Ai))), (28, iD ((p1.length : Int))), (29, iD v4.2.2), (42, pD (.sl (p0.fTarget.map Al))), (43, iD ((p0.fTarget.length : Int))), (44, iD v11.2), (63, bD v16)] [(2, .box [sC (p0.fVersions.map Al), sC (p0.fNow.map Al), sC (p0.fTarget.map Al), sC (p0.fTables.map Ar)]), (5, .box [.pure (.nil0), .pure (.nil0), .pure (.nil0)]), (11, .box [sC (v8.fBase.map Al), sC (v8.fNext.map Al), sC (v8.fHeld.map Bw)])]) (fun j16 h => ?_) (fun v16 h => ?_)
          ·refine Aa Ac rfl (qf CO rfl (ql Bs rfl (qm rfl ?_)))
           obtain ⟨v17, a17, b17, h⟩ := Ak h
           refine qi AN DJ a17 (Af b17) rfl (qk Cz rfl (qm rfl (BQ rfl (qm rfl ?_))))
           refine AB (t := 56) rfl (fun c18 => ?_) (fun c18 => ?_)
           ·have h := An c18 h
            refine qf BK rfl (ql Bs rfl (qm rfl ?_))
            obtain ⟨v19, a19, b19, h⟩ := Ak h
            refine qi AN DJ a19 (Af b19) rfl (qk Cz rfl (AY rfl (qp rfl (Ae ?_))))
            exact As _ h (sm [] _ _ rfl rfl)
           ·have h := Ao c18 h
            refine qn rfl (qn rfl (qn rfl (qn rfl (qn rfl (qn rfl (qp rfl (Ae ?_)))))))
            exact As _ h (sm [] _ _ rfl rfl)
          ·refine Ap rfl (fun c20 => ?_) (fun c20 => ?_)
           ·have h := An c20 h
            refine Aa Ac rfl (qm rfl (AP rfl (qa rfl (Ae ?_))))
            exact As _ h (sm [] _ _ rfl rfl)
           ·have h := Ao c20 h
            refine Aq ?_
            exact As _ h (sm [] _ _ rfl rfl)
         ·refine Aa Ac rfl (AP rfl (qm rfl (Ae ?_)))
          exact As _ h (sm [] _ _ rfl rfl)
        ·have h := Ao c13 h
         refine AQ ?_
         exact As _ h (sm [] _ _ rfl rfl)
       ·refine Am hs (Ab (Aa Ac rfl (qm rfl (qm rfl (DC rfl (Ae ?_))))))
        refine Ap rfl (fun c21 => ?_) (fun c21 => ?_)
        ·have h := An c21 h
         refine Aa Ac rfl (qm rfl (qm rfl (qa rfl (qa rfl (Ae ?_)))))
         exact As _ h (sm [] _ _ rfl rfl)
        ·have h := Ao c21 h
         refine Aq ?_
         exact As _ h (sm [] _ _ rfl rfl)
     ·refine Aa Ac rfl (AP rfl (qm rfl (Ae ?_)))
      exact As _ h (sm [] _ _ rfl rfl)
    ·have h := Ao c6 h
     refine AQ ?_
     exact As _ h (sm [] _ _ rfl rfl)
   ·refine Am hs (Ab (Aa Ac rfl (qm rfl (qm rfl ?_))))
    obtain ⟨v22, a22, b22, h⟩ := Ak h
    refine qi A0 Az a22 (Af b22) rfl (qK A4 Az rfl (qz Cs rfl (qs Az rfl (Ae (Ab (Aa Ac rfl (qm rfl (qf CO rfl (ql Bs rfl ?_)))))))))
    obtain ⟨v23, a23, h⟩ := bind_some h
    refine AG [2010] (CV N v22.fBase v23 a23) RD rfl (qf BK rfl (ql Bs rfl ?_))
    obtain ⟨v24, a24, h⟩ := bind_some h
    refine AG [2011] (CV N v22.fNext v24 a24) RD rfl (qf CM rfl (ql G5 rfl ?_))
    obtain ⟨v25, a25, h⟩ := bind_some h
    refine AG [2012] (Ei N v22.fHeld v25 a25) WP rfl (Br Cs Gt rfl (qa rfl (qs Az rfl (qa rfl (AC (by kernel_rfl) ?_)))))
    obtain rfl := sj h
    refine Am (sm [(1000, 2010), (1001, 2011), (1002, 2012)] [(4, iD v5.1), (5, oD (.ptr 5 0)), (6, iD 0)] [(5, .box [.own 1000, .own 1001, .own 1002]), (1000, .vec 1 (v23.map Al)), (1001, .vec 1 (v24.map Al)), (1002, .vec 1 (v25.map Bw))] rfl rfl) (AA ?_)
    exact ⟨⟨[_, _, _], ⟨.tmp _ _ rfl, ⟨.cellN _ _ _ _ _ _ _ rfl rfl A4 Az rfl rfl (Iq rfl), ⟨.tmp _ _ rfl, tv⟩⟩⟩, rfl⟩, ⟨rfl, rfl, rfl, tv⟩⟩
theorem Hc (N : Nat) (p0 : List Int) (p1 : List Int) (r : Int) (h : Dt N p0 p1 = some r) : AD Tryz.prog 108 [pD (.sl (p0.map Al)), pD (.sl (p1.map Al))] [] (iD r) := by
 unfold Dt at h
 refine Au (n := 46) (rs := [.tmp 4]) Tryz.func108 rfl rfl rfl (A5 rfl) (A5 rfl) rfl fun w0 S0 => ?_
 refine Ab (Aa Ac rfl (qa rfl (Ae (Ab (Ab (Aa Ac rfl (qa rfl (Ae ?_))))))))
 refine AE (L := Dn N p0 p1) h (fun v1 => mk [(0, pD (.sl (p0.map Al))), (1, pD (.sl (p1.map Al))), (5, iD v1)] []) (fun v2 => mk [(0, pD (.sl (p0.map Al))), (1, pD (.sl (p1.map Al)))] []) (fun _ _ => rfl) (sm [] _ _ rfl rfl) (fun j1 n1 v1 h => ?_) (fun v2 s h hs => ?_)
 ·unfold Dn at h
  refine Ab ?_
  refine AL h (fun v3 => mk [(0, pD (.sl (p0.map Al))), (1, pD (.sl (p1.map Al))), (5, iD v1), (15, bD v3)] []) (fun j3 h => ?_) (fun v3 h => ?_)
  ·refine Aa Ac rfl (qm rfl (qm rfl (AR AN rfl (AY rfl (qm rfl ?_)))))
   refine AB (t := 10) rfl (fun c4 => ?_) (fun c4 => ?_)
   ·have h := An c4 h
    refine qm rfl (qm rfl (AR AN rfl (AY rfl (qp rfl (Ae ?_)))))
    exact As _ h (sm [] _ _ rfl rfl)
   ·have h := Ao c4 h
    refine qn rfl (qn rfl (qn rfl (qn rfl (qp rfl (Ae ?_)))))
    exact As _ h (sm [] _ _ rfl rfl)
  ·refine Ap rfl (fun c5 => ?_) (fun c5 => ?_)
   ·have h := An c5 h
    refine Aq (Ab (AJ (Ab (Ab (Aa Ac rfl (qm rfl (qm rfl ?_)))))))
    obtain ⟨v6, a6, b6, h⟩ := Ak h
    refine qi AN DJ a6 (Af b6) rfl (qk Cz rfl (qm rfl (qm rfl ?_)))
    obtain ⟨v7, a7, b7, h⟩ := Ak h
    refine qi AN DJ a7 (Af b7) rfl (qk Cz rfl (AY rfl (AC (by kernel_rfl) ?_)))
    refine Ap rfl (fun c8 => ?_) (fun c8 => ?_)
    ·have h := An c8 h
     refine Ab (Aa Ac rfl (qa rfl (Ae ?_)))
     obtain rfl := sj h
     refine Am (sm [] [(4, iD ((-1)))] [] rfl rfl) (AA ?_)
     exact ⟨⟨[_], ⟨.tmp _ _ rfl, tv⟩, rfl⟩, tv⟩
    ·have h := Ao c8 h
     refine Aq (Ab (Aa Ac rfl (qm rfl (qm rfl ?_))))
     obtain ⟨v9, a9, b9, h⟩ := Ak h
     refine qi AN DJ a9 (Af b9) rfl (qk Cz rfl (qm rfl (qm rfl ?_)))
     obtain ⟨v10, a10, b10, h⟩ := Ak h
     refine qi AN DJ a10 (Af b10) rfl (qk Cz rfl (DC rfl (AC (by kernel_rfl) ?_)))
     refine Ap rfl (fun c11 => ?_) (fun c11 => ?_)
     ·have h := An c11 h
      refine Ab (Aa Ac rfl (qa rfl (Ae ?_)))
      obtain rfl := sj h
      refine Am (sm [] [(4, iD 1)] [] rfl rfl) (AA ?_)
      exact ⟨⟨[_], ⟨.tmp _ _ rfl, tv⟩, rfl⟩, tv⟩
     ·have h := Ao c11 h
      refine Aq (Aa Ac rfl (qm rfl (AP rfl (qa rfl (Ae ?_)))))
      exact As _ h (sm [] _ _ rfl rfl)
   ·have h := Ao c5 h
    refine AQ ?_
    exact As _ h (sm [] _ _ rfl rfl)
 ·refine Am hs (Ab (Ab (Aa Ac rfl (qm rfl (AR AN rfl (qm rfl (AR AN rfl (AY rfl (Ae ?_)))))))))
  refine Ap rfl (fun c12 => ?_) (fun c12 => ?_)
  ·have h := An c12 h
   refine Ab (Aa Ac rfl (qa rfl (Ae ?_)))
   obtain rfl := sj h
   refine Am (sm [] [(4, iD ((-1)))] [] rfl rfl) (AA ?_)
   exact ⟨⟨[_], ⟨.tmp _ _ rfl, tv⟩, rfl⟩, tv⟩
  ·have h := Ao c12 h
   refine Aq (Ab (Ab (Aa Ac rfl (qm rfl (AR AN rfl (qm rfl (AR AN rfl (DC rfl (Ae ?_)))))))))
   refine Ap rfl (fun c13 => ?_) (fun c13 => ?_)
   ·have h := An c13 h
    refine Ab (Aa Ac rfl (qa rfl (Ae ?_)))
    obtain rfl := sj h
    refine Am (sm [] [(4, iD 1)] [] rfl rfl) (AA ?_)
    exact ⟨⟨[_], ⟨.tmp _ _ rfl, tv⟩, rfl⟩, tv⟩
   ·have h := Ao c13 h
    refine Aq (Ab (Aa Ac rfl (qa rfl (Ae ?_))))
    obtain rfl := sj h
    refine Am (sm [] [(4, iD 0)] [] rfl rfl) (AA ?_)
    exact ⟨⟨[_], ⟨.tmp _ _ rfl, tv⟩, rfl⟩, tv⟩
theorem HP (N : Nat) (p0 : List Int) (r : (List Int)) (h : Dl N p0 = some r) : AD Tryz.prog 109 [pD (.sl (p0.map Bw))] [(1, r.map Al)] (oD (.own 0)) := by
 unfold Dl at h
 refine Au (n := 20) (rs := [.tmp 2]) Tryz.func109 rfl rfl rfl (A5 rfl) (A5 rfl) rfl fun w0 S0 => ?_
 refine Ab (Aa Ac rfl (qa rfl (Ae (Ab (Aa Ac rfl (qa rfl (Ae (Ab (Ab (Aa Ac rfl (qa rfl (Ae ?_))))))))))))
 refine AE (L := CT N p0) h (fun v1 => mk [(0, pD (.sl (p0.map Bw))), (3, oD (.own 2001)), (4, iD v1.2)] [(2001, .vec 1 (v1.1.map Al))]) (fun v2 => mk [(3, oD (.own 2002))] [(2002, .vec 1 (v2.map Al))]) (fun _ _ => rfl) ((BB 3 2003 1 rfl rfl rfl).trans (sm [(2001, 2003)] _ _ rfl rfl)) (fun j1 n1 v1 h => ?_) (fun v2 s h hs => ?_)
 ·unfold CT at h
  refine Ab (Ab (Aa Ac rfl (qm rfl (qm rfl (AR Dj rfl (AY rfl (Ae ?_)))))))
  refine Ap rfl (fun c3 => ?_) (fun c3 => ?_)
  ·have h := An c3 h
   refine Aq (Ab (AJ (Aa Ac rfl (qm rfl (qm rfl (qm rfl ?_))))))
   obtain ⟨v4, a4, b4, h⟩ := Ak h
   refine qi Dj FW a4 (Af b4) rfl (qk JZ rfl (HI ZA Wp rfl (EX AN DJ Mt rfl ?_)))
   obtain ⟨c5, h⟩ := Ba h
   refine Fb (f := Al) AN AN DJ Qf Mt c5 rfl (qa rfl (Ae (Aa Ac rfl (qm rfl (AP rfl (qa rfl (Ae ?_)))))))
   exact As _ h (sm [(2001, 18)] _ _ rfl rfl)
  ·have h := Ao c3 h
   refine AQ ?_
   exact As _ h (sm [(2002, 2001)] _ _ rfl rfl)
 ·refine Am hs (Ab (Aa Ac rfl (qm rfl (qa rfl (Ae ?_)))))
  obtain rfl := sj h
  refine Am (sm [(1000, 2002)] [(2, oD (.own 1000))] [(1000, .vec 1 (v2.map Al))] rfl rfl) (AA ?_)
  exact ⟨⟨[_], ⟨.tmp _ _ rfl, tv⟩, rfl⟩, ⟨rfl, tv⟩⟩
theorem J8 (N : Nat) (p0 : Ag) (p1 : Ag) (r : Int) (h : D3 N p0 p1 = some r) : AD Tryz.prog 68 [.e (.agg [sC (p0.fBase.map Al), sC (p0.fNext.map Al), sC (p0.fHeld.map Bw)]), .e (.agg [sC (p1.fBase.map Al), sC (p1.fNext.map Al), sC (p1.fHeld.map Bw)])] [] (iD r) := by
 unfold D3 at h
 refine Au (n := 30) (rs := [.tmp 4]) Tryz.func68 rfl rfl rfl (A5 rfl) (A5 rfl) rfl fun w0 S0 => ?_
 refine Ab (Aa Ac rfl (qb rfl (qb rfl (qa rfl (Ae (Ab (Ab (Aa Ac rfl (qf CO rfl (ql Bs rfl (qf CO rfl (ql Bs rfl ?_))))))))))))
 obtain ⟨v1, a1, h⟩ := bind_some h
 refine AG [] (Hc N p0.fBase p1.fBase v1 a1) Tj rfl (qa rfl (Ae (Ab (Aa Ac rfl (qm rfl (BP rfl (Ae ?_)))))))
 refine Ap rfl (fun c2 => ?_) (fun c2 => ?_)
 ·have h := An c2 h
  refine Ab (Aa Ac rfl (qm rfl (qa rfl (Ae ?_))))
  obtain rfl := sj h
  refine Am (sm [] [(4, iD v1)] [] rfl rfl) (AA ?_)
  exact ⟨⟨[_], ⟨.tmp _ _ rfl, tv⟩, rfl⟩, tv⟩
 ·have h := Ao c2 h
  refine Aq (Ab (Ab (Aa Ac rfl (qf BK rfl (ql Bs rfl (qf BK rfl (ql Bs rfl ?_)))))))
  obtain ⟨v3, a3, h⟩ := bind_some h
  refine AG [] (Hc N p0.fNext p1.fNext v3 a3) Tj rfl (qa rfl (Ae (Ab (Aa Ac rfl (qm rfl (BP rfl (Ae ?_)))))))
  refine Ap rfl (fun c4 => ?_) (fun c4 => ?_)
  ·have h := An c4 h
   refine Ab (Aa Ac rfl (qm rfl (qa rfl (Ae ?_))))
   obtain rfl := sj h
   refine Am (sm [] [(4, iD v3)] [] rfl rfl) (AA ?_)
   exact ⟨⟨[_], ⟨.tmp _ _ rfl, tv⟩, rfl⟩, tv⟩
  ·have h := Ao c4 h
   refine Aq (Ab (Aa Ac rfl (qf CM rfl (ql G5 rfl ?_))))
   obtain ⟨v5, a5, h⟩ := bind_some h
   refine AG [2001] (HP N p0.fHeld v5 a5) Wr rfl (qf CM rfl (ql G5 rfl ?_))
   obtain ⟨v6, a6, h⟩ := bind_some h
   refine AG [2002] (HP N p1.fHeld v6 a6) Wr rfl ?_
   obtain ⟨v7, a7, h⟩ := bind_some h
   refine DI [] [2001, 2002] (Hc N v5 v6 v7 a7) Tj Cr rfl (qa rfl (AC (by kernel_rfl) ?_))
   obtain rfl := sj h
   refine Am (sm [] [(4, iD v7)] [] rfl rfl) (AA ?_)
   exact ⟨⟨[_], ⟨.tmp _ _ rfl, tv⟩, rfl⟩, tv⟩
theorem Ft (N : Nat) (p0 : Ag) (p1 : Ag) (r : Bool) (h : BW N p0 p1 = some r) : AD Tryz.prog 27 [.e (.agg [sC (p0.fBase.map Al), sC (p0.fNext.map Al), sC (p0.fHeld.map Bw)]), .e (.agg [sC (p1.fBase.map Al), sC (p1.fNext.map Al), sC (p1.fHeld.map Bw)])] [] (bD r) := by
 unfold BW at h
 refine Au (n := 9) (rs := [.tmp 4]) Tryz.func27 rfl rfl rfl (A5 rfl) (A5 rfl) rfl fun w0 S0 => ?_
 refine Ab (Aa Ac rfl (qb rfl (qb rfl (qa rfl (Ae (Ab (Aa Ac rfl (qL A4 Az rfl (qL A4 Az rfl ?_)))))))))
 obtain ⟨v1, a1, h⟩ := bind_some h
 refine AG [] (J8 N p0 p1 v1 a1) ZK rfl (BQ rfl (qa rfl (Ae ?_)))
 obtain rfl := sj h
 refine Am (sm [] [(4, bD ((v1 == 0)))] [] rfl rfl) (AA ?_)
 exact ⟨⟨[_], ⟨.tmp _ _ rfl, tv⟩, rfl⟩, tv⟩
theorem Lv (N : Nat) (p0 : List Ag) (p1 : List Ag) (r : Bool) (h : GS N p0 p1 = some r) : AD Tryz.prog 14 [pD (.sl (p0.map Ai)), pD (.sl (p1.map Ai))] [] (bD r) := by
 unfold GS at h
 refine Au (n := 27) (rs := [.tmp 4]) Tryz.func14 rfl rfl rfl (A5 rfl) (A5 rfl) rfl fun w0 S0 => ?_
 refine Ab (Aa Ac rfl (qa rfl (Ae (Ab (Ab (Aa Ac rfl (qm rfl (AR A0 rfl (qm rfl (AR A0 rfl (BP rfl (Ae ?_))))))))))))
 refine Ap rfl (fun c1 => ?_) (fun c1 => ?_)
 ·have h := An c1 h
  refine Ab (Aa Ac rfl (qa rfl (Ae ?_)))
  obtain rfl := sj h
  refine Am (sm [] [(4, bD false)] [] rfl rfl) (AA ?_)
  exact ⟨⟨[_], ⟨.tmp _ _ rfl, tv⟩, rfl⟩, tv⟩
 ·have h := Ao c1 h
  refine Aq (Ab (Ab (Aa Ac rfl (qa rfl (Ae ?_)))))
  refine AE (L := EN N p0 p1) h (fun v2 => mk [(0, pD (.sl (p0.map Ai))), (1, pD (.sl (p1.map Ai))), (5, iD v2)] []) (fun v3 => mk [] []) (fun _ _ => rfl) (sm [] _ _ rfl rfl) (fun j2 n2 v2 h => ?_) (fun v3 s h hs => ?_)
  ·unfold EN at h
   refine Ab (Ab (Aa Ac rfl (qm rfl (qm rfl (AR A0 rfl (AY rfl (Ae ?_)))))))
   refine Ap rfl (fun c4 => ?_) (fun c4 => ?_)
   ·have h := An c4 h
    refine Aq (Ab (AJ (Ab (Aa Ac rfl (qm rfl (qm rfl ?_))))))
    obtain ⟨v5, a5, b5, h⟩ := Ak h
    refine qi A0 Az a5 (Af b5) rfl (qK A4 Az rfl (qm rfl (qm rfl ?_)))
    obtain ⟨v6, a6, b6, h⟩ := Ak h
    refine qi A0 Az a6 (Af b6) rfl (qK A4 Az rfl ?_)
    obtain ⟨v7, a7, h⟩ := bind_some h
    refine AG [] (Ft N v5 v6 v7 a7) U6 rfl (BS rfl (AC (by kernel_rfl) ?_))
    refine Ap rfl (fun c8 => ?_) (fun c8 => ?_)
    ·have h := An c8 h
     refine Ab (Aa Ac rfl (qa rfl (Ae ?_)))
     obtain rfl := sj h
     refine Am (sm [] [(4, bD false)] [] rfl rfl) (AA ?_)
     exact ⟨⟨[_], ⟨.tmp _ _ rfl, tv⟩, rfl⟩, tv⟩
    ·have h := Ao c8 h
     refine Aq (Aa Ac rfl (qm rfl (AP rfl (qa rfl (Ae ?_)))))
     exact As _ h (sm [] _ _ rfl rfl)
   ·have h := Ao c4 h
    refine AQ ?_
    exact As _ h (sm [] _ _ rfl rfl)
  ·refine Am hs (Ab (Aa Ac rfl (qa rfl (Ae ?_))))
   obtain rfl := sj h
   refine Am (sm [] [(4, bD true)] [] rfl rfl) (AA ?_)
   exact ⟨⟨[_], ⟨.tmp _ _ rfl, tv⟩, rfl⟩, tv⟩
theorem E7 (N : Nat) (p0 : List Ag) (p1 : Ag) (p2 : (Ag × Ag) → Option Int) (r : Int × Bool) (h : Cf N p0 p1 p2 = some r) : AD Tryz.prog 78 [pD (.sl (p0.map Ai)), .e (.agg [sC (p1.fBase.map Al), sC (p1.fNext.map Al), sC (p1.fHeld.map Bw)]), oD (.clo (Bb (Cg true Ai true Ai) Bg p2))] [] (.tup [.one (iC r.1), .one (.pure (.val (.bool r.2)))]) := by
 unfold Cf at h
 refine Au (n := 49) (rs := [.tmp 6, .tmp 7]) Tryz.func78 rfl rfl rfl (A5 rfl) (A5 rfl) rfl fun w0 S0 => ?_
 refine Ab (Aa Ac rfl (qb rfl (qa rfl (qa rfl (Ae (Ab (Aa Ac rfl (qm rfl (AR A0 rfl (qa rfl (Ae (Ab (Aa Ac rfl (qm rfl (qa rfl (qa rfl (Ae (Ab ?_))))))))))))))))))
 refine AE (L := Bj N p0 p1 p2) h (fun v1 => mk [(0, pD (.sl (p0.map Ai))), (2, oD (.clo (Bb (Cg true Ai true Ai) Bg p2))), (4, oD (.ptr 4 0)), (8, iD ((p0.length : Int))), (9, iD v1.1), (10, iD v1.2)] [(4, .box [sC (p1.fBase.map Al), sC (p1.fNext.map Al), sC (p1.fHeld.map Bw)])]) (fun v2 => mk [(0, pD (.sl (p0.map Ai))), (2, oD (.clo (Bb (Cg true Ai true Ai) Bg p2))), (4, oD (.ptr 4 0)), (8, iD ((p0.length : Int))), (9, iD v2)] [(4, .box [sC (p1.fBase.map Al), sC (p1.fNext.map Al), sC (p1.fHeld.map Bw)])]) (fun _ _ => rfl) (sm [] _ _ rfl rfl) (fun j1 n1 v1 h => ?_) (fun v2 s h hs => ?_)
 ·unfold Bj at h
  refine Ab (Ab (Aa Ac rfl (qm rfl (qm rfl (AY rfl (Ae ?_))))))
  refine Ap rfl (fun c3 => ?_) (fun c3 => ?_)
  ·have h := An c3 h
   refine Aq (AJ (Ab (Aa Ac rfl (qm rfl (qm rfl (AP rfl (HI UW MH rfl (HN rfl (by decide) (HI N9 Wp rfl (qa rfl (Ae (Ab (Aa Ac rfl (qm rfl (qm rfl (qm rfl ?_))))))))))))))))
   obtain ⟨v4, a4, b4, h⟩ := Ak h
   refine qi A0 Az a4 (Af b4) rfl (qK A4 Az rfl (qL A4 Az rfl ?_))
   obtain ⟨v5, a5, h⟩ := bind_some h
   refine Cx (ds0 := [_, _]) (ar := (Cg true Ai true Ai) ((v4, p1))) (.p rfl) rfl rfl ⟨rfl, rfl, tv⟩ rfl rfl rfl (Cw (CX _ _ _ _ BJ BJ) a5) ?_
   refine AY rfl (AC (by kernel_rfl) ?_)
   refine Ap rfl (fun c6 => ?_) (fun c6 => ?_)
   ·have h := An c6 h
    refine Aa Ac rfl (qm rfl (AP rfl (qa rfl (Ae ?_))))
    exact As _ h (sm [] _ _ rfl rfl)
   ·have h := Ao c6 h
    refine Aa Ac rfl (qm rfl (qa rfl (Ae ?_)))
    exact As _ h (sm [] _ _ rfl rfl)
  ·have h := Ao c3 h
   refine AQ ?_
   exact As _ h (sm [] _ _ rfl rfl)
 ·refine Am hs ?_
  refine AL h (fun v7 => mk [(6, iD v2), (7, bD v7)] []) (fun j7 h => ?_) (fun v7 h => ?_)
  ·refine Aa Ac rfl (qm rfl (qm rfl (qm rfl (AY rfl (qm rfl ?_)))))
   refine AB (t := 39) rfl (fun c8 => ?_) (fun c8 => ?_)
   ·have h := An c8 h
    refine qm rfl (qm rfl (qm rfl ?_))
    obtain ⟨v9, a9, b9, h⟩ := Ak h
    refine qi A0 Az a9 (Af b9) rfl (qK A4 Az rfl (qL A4 Az rfl ?_))
    obtain ⟨v10, a10, h⟩ := bind_some h
    refine Cx (ds0 := [_, _]) (ar := (Cg true Ai true Ai) ((v9, p1))) (.g rfl rfl) rfl rfl ⟨rfl, rfl, tv⟩ rfl rfl rfl (Cw (CX _ _ _ _ BJ BJ) a10) ?_
    refine BQ rfl (qp rfl (qa rfl (qa rfl (AC (by kernel_rfl) ?_))))
    exact As _ h (sm [] _ _ rfl rfl)
   ·have h := Ao c8 h
    refine qn rfl (qn rfl (qn rfl (qn rfl (qn rfl (qn rfl (qn rfl (qn rfl (qp rfl (qa rfl (qa rfl (AC (by kernel_rfl) ?_)))))))))))
    exact As _ h (sm [] _ _ rfl rfl)
  ·obtain rfl := sj h
   refine Am (sm [] [(6, iD v2), (7, bD v7)] [] rfl rfl) (AA ?_)
   exact ⟨⟨[_, _], ⟨.tmp _ _ rfl, ⟨.tmp _ _ rfl, tv⟩⟩, rfl⟩, tv⟩
theorem J6 (N : Nat) (p0 : List Ag) (p1 : Ag) (r : Bool) (h : GF N p0 p1 = some r) : AD Tryz.prog 47 [pD (.sl (p0.map Ai)), .e (.agg [sC (p1.fBase.map Al), sC (p1.fNext.map Al), sC (p1.fHeld.map Bw)])] [] (bD r) := by
 unfold GF at h
 refine Au (n := 14) (rs := [.tmp 4]) Tryz.func47 rfl rfl rfl (A5 rfl) (A5 rfl) rfl fun w0 S0 => ?_
 refine Ab (Aa Ac rfl (qb rfl (qa rfl (Ae (Ab (Aa Ac rfl (qm rfl (qL A4 Az rfl ?_))))))))
 obtain ⟨v1, a1, h⟩ := bind_some h
 refine AG [] (AD.weak (ds' := [pD (.sl (p0.map Ai)), .e (.agg [sC (p1.fBase.map Al), sC (p1.fNext.map Al), sC (p1.fHeld.map Bw)]), oD (.fnc 46)]) (E7 N p0 p1 ((fun (x : Ag × Ag) => E0 N x.1 x.2)) v1 a1) ⟨(fun _ _ _ hh => hh), (fun _ _ _ hh => hh), (fun _ _ _ hh => M3 WT (fun ar t ht => by obtain ⟨x, r, rfl, hq, rfl⟩ := Hl ht; exact Jp N x.1 x.2 r hq) hh), tv⟩) Zg rfl ?_
 refine qm rfl (qx rfl (qx rfl (qa rfl (qa rfl (Ae (Ab (Aa Ac rfl (qm rfl (qa rfl (Ae ?_))))))))))
 obtain rfl := sj h
 refine Am (sm [] [(4, bD v1.2)] [] rfl rfl) (AA ?_)
 exact ⟨⟨[_], ⟨.tmp _ _ rfl, tv⟩, rfl⟩, tv⟩
theorem HF (N : Nat) (p0 : Aj) (p1 : List Ag) (r : Bool) (h : DG N p0 p1 = some r) : AD Tryz.prog 15 [.e (.agg [sC (p0.fVersions.map Al), sC (p0.fNow.map Al), sC (p0.fTarget.map Al), sC (p0.fTables.map Ar)]), pD (.sl (p1.map Ai))] [] (bD r) := by
 unfold DG at h
 refine Au (n := 122) (rs := [.tmp 4]) Tryz.func15 rfl rfl rfl (A5 rfl) (A5 rfl) rfl fun w0 S0 => ?_
 refine Ab (Aa Ac rfl (qb rfl (qa rfl (Ae (Ab (Aa Ac rfl (qL Di Da rfl ?_)))))))
 obtain ⟨v1, a1, h⟩ := bind_some h
 refine AG [2001, 2002, 2003] (MG N p0 v1 a1) Yy rfl (qm rfl (qx rfl (qx rfl (qz Cs rfl (qs Az rfl (qa rfl (Ae (Ab (Ab (Aa Ac rfl (qm rfl (BP rfl (Ae ?_)))))))))))))
 refine Ap rfl (fun c2 => ?_) (fun c2 => ?_)
 ·have h := An c2 h
  refine Ab (Aa Ac rfl (qa rfl (Ae ?_)))
  obtain rfl := sj h
  refine Am (sm [] [(4, bD false)] [] rfl rfl) (AA ?_)
  exact ⟨⟨[_], ⟨.tmp _ _ rfl, tv⟩, rfl⟩, tv⟩
 ·have h := Ao c2 h
  refine Aq (Ab (Ab (Aa Ac rfl (qL Di Da rfl (qL A4 Az rfl ?_)))))
  obtain ⟨v3, a3, h⟩ := bind_some h
  refine DI [] [2001, 2002, 2003] (HD N p0 v1.1 v3 a3) TN Cr rfl (qm rfl (qx rfl (qx rfl (qa rfl (qa rfl (Ae (Ab (Aa Ac rfl (qm rfl (BS rfl (Ae ?_)))))))))))
  refine Ap rfl (fun c4 => ?_) (fun c4 => ?_)
  ·have h := An c4 h
   refine Ab (Aa Ac rfl (qm rfl (AR A0 rfl (BQ rfl (qa rfl (Ae ?_))))))
   obtain rfl := sj h
   refine Am (sm [] [(4, bD (((p1.length : Int) == 0)))] [] rfl rfl) (AA ?_)
   exact ⟨⟨[_], ⟨.tmp _ _ rfl, tv⟩, rfl⟩, tv⟩
  ·have h := Ao c4 h
   refine Aq (Ab (Ab (Aa Ac rfl (qm rfl (AR A0 rfl (qm rfl (Ae ?_)))))))
   refine AE (L := FN N p0 p1) h (fun v5 => mk [(1, pD (.sl (p1.map Ai))), (2, oD (.ptr 2 0)), (5, oD (.ptr 5 0)), (41, pD (.sl (p1.map Ai))), (42, iD ((p1.length : Int))), (43, iD v5)] [(2, .box [sC (p0.fVersions.map Al), sC (p0.fNow.map Al), sC (p0.fTarget.map Al), sC (p0.fTables.map Ar)]), (5, .box [.own 2004, .own 2005, .own 2006]), (2004, .vec 1 (v1.1.fBase.map Al)), (2005, .vec 1 (v1.1.fNext.map Al)), (2006, .vec 1 (v1.1.fHeld.map Bw))]) (fun v6 => mk [(1, pD (.sl (p1.map Ai))), (2, oD (.ptr 2 0)), (5, oD (.ptr 5 0))] [(2, .box [sC (p0.fVersions.map Al), sC (p0.fNow.map Al), sC (p0.fTarget.map Al), sC (p0.fTables.map Ar)]), (5, .box [.own 2007, .own 2008, .own 2009]), (2007, .vec 1 (v1.1.fBase.map Al)), (2008, .vec 1 (v1.1.fNext.map Al)), (2009, .vec 1 (v1.1.fHeld.map Bw))]) (fun _ _ => rfl) (sm [(2004, 2001), (2005, 2002), (2006, 2003)] _ _ rfl rfl) (fun j5 n5 v5 h => ?_) (fun v6 s h hs => ?_)
   ·unfold FN at h
    refine Ab (Aa Ac rfl (AY rfl (Ae (Ab ?_))))
    refine Ap rfl (fun c7 => ?_) (fun c7 => ?_)
    ·have h := An c7 h
     refine Aq (Ab (AJ (Ab (Aa Ac rfl (qm rfl ?_)))))
     obtain ⟨v8, a8, b8, h⟩ := Ak h
     refine qi A0 Az a8 (Af b8) rfl (qK A4 Az rfl (qz Cs rfl (qa rfl (qs Az rfl (Ae (Ab ?_))))))
     refine AL h (fun v9 => mk [(1, pD (.sl (p1.map Ai))), (2, oD (.ptr 2 0)), (5, oD (.ptr 5 0)), (10, oD (.ptr 10 0)), (41, pD (.sl (p1.map Ai))), (42, iD ((p1.length : Int))), (43, iD v5), (59, bD v9)] [(2, .box [sC (p0.fVersions.map Al), sC (p0.fNow.map Al), sC (p0.fTarget.map Al), sC (p0.fTables.map Ar)]), (5, .box [.own 2010, .own 2011, .own 2012]), (10, .box [sC (v8.fBase.map Al), sC (v8.fNext.map Al), sC (v8.fHeld.map Bw)]), (2010, .vec 1 (v1.1.fBase.map Al)), (2011, .vec 1 (v1.1.fNext.map Al)), (2012, .vec 1 (v1.1.fHeld.map Bw))]) (fun j9 h => ?_) (fun v9 h => ?_)
     ·refine Aa Ac rfl (qm rfl (DC rfl (qm rfl ?_)))
      refine AB (t := 50) rfl (fun c10 => ?_) (fun c10 => ?_)
      ·have h := An c10 h
       refine qm rfl (qm rfl (Bm rfl ?_))
       obtain ⟨v11, a11, b11, h⟩ := Ak h
       refine qi A0 Az a11 (Af b11) rfl (qK A4 Az rfl (qL A4 Az rfl ?_))
       obtain ⟨v12, a12, h⟩ := bind_some h
       refine AG [] (Jp N v11 v8 v12 a12) WT rfl (Cv rfl (qp rfl (AC (by kernel_rfl) ?_)))
       exact As _ h (sm [(2010, 2004), (2011, 2005), (2012, 2006)] _ _ rfl rfl)
      ·have h := Ao c10 h
       refine qn rfl (qn rfl (qn rfl (qn rfl (qn rfl (qn rfl (qn rfl (qn rfl (qp rfl (AC (by kernel_rfl) ?_)))))))))
       exact As _ h (sm [(2010, 2004), (2011, 2005), (2012, 2006)] _ _ rfl rfl)
     ·refine Ap rfl (fun c13 => ?_) (fun c13 => ?_)
      ·have h := An c13 h
       refine Ab (Aa Ac rfl (qa rfl (Ae ?_)))
       obtain rfl := sj h
       refine Am (sm [] [(4, bD false)] [] rfl rfl) (AA ?_)
       exact ⟨⟨[_], ⟨.tmp _ _ rfl, tv⟩, rfl⟩, tv⟩
      ·have h := Ao c13 h
       refine Aq (Ab (Aa Ac rfl (qL Di Da rfl (qL A4 Az rfl ?_))))
       obtain ⟨v14, a14, h⟩ := bind_some h
       refine AG [] (HD N p0 v8 v14 a14) TN rfl (qm rfl (qx rfl (qx rfl (qa rfl (qa rfl (Ae ?_))))))
       refine AL h (fun v15 => mk [(1, pD (.sl (p1.map Ai))), (2, oD (.ptr 2 0)), (5, oD (.ptr 5 0)), (41, pD (.sl (p1.map Ai))), (42, iD ((p1.length : Int))), (43, iD v5), (76, bD v15)] [(2, .box [sC (p0.fVersions.map Al), sC (p0.fNow.map Al), sC (p0.fTarget.map Al), sC (p0.fTables.map Ar)]), (5, .box [.own 2013, .own 2014, .own 2015]), (2013, .vec 1 (v1.1.fBase.map Al)), (2014, .vec 1 (v1.1.fNext.map Al)), (2015, .vec 1 (v1.1.fHeld.map Bw))]) (fun j15 h => ?_) (fun v15 h => ?_)
       ·refine Aa Ac rfl (qm rfl (BS rfl (qm rfl ?_)))
        refine AB (t := 68) rfl (fun c16 => ?_) (fun c16 => ?_)
        ·have h := An c16 h
         refine qn rfl (qn rfl (qp rfl (qm rfl (qn rfl (qn rfl (qn rfl (qp rfl (Ae ?_))))))))
         exact As _ h (sm [(2013, 2010), (2014, 2011), (2015, 2012)] _ _ rfl rfl)
        ·have h := Ao c16 h
         refine qm rfl (BP rfl (qp rfl (qm rfl ?_)))
         refine AB (t := 72) rfl (fun c17 => ?_) (fun c17 => ?_)
         ·have h := An c17 h
          refine qn rfl (qn rfl (qn rfl (qp rfl (Ae ?_))))
          exact As _ h (sm [(2013, 2010), (2014, 2011), (2015, 2012)] _ _ rfl rfl)
         ·have h := Ao c17 h
          refine qL Di Da rfl (qL A4 Az rfl ?_)
          obtain ⟨v18, a18, h⟩ := bind_some h
          refine AG [] (NN N p0 v8 v18 a18) X1 rfl (qp rfl (Ae ?_))
          exact As _ h (sm [(2013, 2010), (2014, 2011), (2015, 2012)] _ _ rfl rfl)
       ·refine Ap rfl (fun c19 => ?_) (fun c19 => ?_)
        ·have h := An c19 h
         refine Ab (Aa Ac rfl (qa rfl (Ae ?_)))
         obtain rfl := sj h
         refine Am (sm [] [(4, bD false)] [] rfl rfl) (AA ?_)
         exact ⟨⟨[_], ⟨.tmp _ _ rfl, tv⟩, rfl⟩, tv⟩
        ·have h := Ao c19 h
         refine Aq (Aa Ac rfl (AP rfl (qm rfl (Ae ?_))))
         exact As _ h (sm [(2004, 2013), (2005, 2014), (2006, 2015)] _ _ rfl rfl)
    ·have h := Ao c7 h
     refine AQ ?_
     exact As _ h (sm [(2007, 2004), (2008, 2005), (2009, 2006)] _ _ rfl rfl)
   ·refine Am hs (Ab (Ab (Aa Ac rfl (qm rfl (qL A4 Az rfl ?_)))))
    obtain ⟨v20, a20, h⟩ := bind_some h
    refine DI [] [2007, 2008, 2009] (J6 N p1 v1.1 v20 a20) XJ Cr rfl (BS rfl (Ae ?_))
    refine Ap rfl (fun c21 => ?_) (fun c21 => ?_)
    ·have h := An c21 h
     refine Ab (Aa Ac rfl (qa rfl (Ae ?_)))
     obtain rfl := sj h
     refine Am (sm [] [(4, bD false)] [] rfl rfl) (AA ?_)
     exact ⟨⟨[_], ⟨.tmp _ _ rfl, tv⟩, rfl⟩, tv⟩
    ·have h := Ao c21 h
     refine Aq (Ab (Ab (Aa Ac rfl (qm rfl (AR A0 rfl (qm rfl (Ae ?_)))))))
     refine AE (L := Fr N p0 p1) h (fun v22 => mk [(1, pD (.sl (p1.map Ai))), (2, oD (.ptr 2 0)), (82, pD (.sl (p1.map Ai))), (83, iD ((p1.length : Int))), (84, iD v22)] [(2, .box [sC (p0.fVersions.map Al), sC (p0.fNow.map Al), sC (p0.fTarget.map Al), sC (p0.fTables.map Ar)])]) (fun v23 => mk [] []) (fun _ _ => rfl) (sm [] _ _ rfl rfl) (fun j22 n22 v22 h => ?_) (fun v23 s h hs => ?_)
     ·unfold Fr at h
      refine Ab (Aa Ac rfl (AY rfl (Ae (Ab ?_))))
      refine Ap rfl (fun c24 => ?_) (fun c24 => ?_)
      ·have h := An c24 h
       refine Aq (Ab (AJ (Ab (Aa Ac rfl ?_))))
       obtain ⟨v25, a25, b25, h⟩ := Ak h
       refine qi A0 Az a25 (Af b25) rfl (qK A4 Az rfl (qz Cs rfl (qs Az rfl (Ae (Ab (Aa Ac rfl (qL Di Da rfl (qL A4 Az rfl ?_))))))))
       obtain ⟨v26, a26, h⟩ := bind_some h
       refine AG [2016] (IY N p0 v25 v26 a26) W8 rfl (qm rfl (qx rfl (qx rfl (qa rfl (qa rfl (Ae (Ab (Aa Ac rfl (qm rfl (EP EU rfl (qm rfl (Ae ?_))))))))))))
       refine AE (L := Fu N p0 p1 v25 v26) h (fun v27 => mk [(1, pD (.sl (p1.map Ai))), (2, oD (.ptr 2 0)), (14, oD (.ptr 14 0)), (82, pD (.sl (p1.map Ai))), (83, iD ((p1.length : Int))), (84, iD v22), (94, oD (.own 2017)), (95, iD ((v26.1.length : Int))), (96, iD v27)] [(2, .box [sC (p0.fVersions.map Al), sC (p0.fNow.map Al), sC (p0.fTarget.map Al), sC (p0.fTables.map Ar)]), (14, .box [sC (v25.fBase.map Al), sC (v25.fNext.map Al), sC (v25.fHeld.map Bw)]), (2017, .vec 3 (v26.1.map A2))]) (fun v28 => mk [(1, pD (.sl (p1.map Ai))), (2, oD (.ptr 2 0)), (82, pD (.sl (p1.map Ai))), (83, iD ((p1.length : Int))), (84, iD v22)] [(2, .box [sC (p0.fVersions.map Al), sC (p0.fNow.map Al), sC (p0.fTarget.map Al), sC (p0.fTables.map Ar)])]) (fun _ _ => rfl) (sm [(2017, 2016)] _ _ rfl rfl) (fun j27 n27 v27 h => ?_) (fun v28 s h hs => ?_)
       ·unfold Fu at h
        refine Ab (Aa Ac rfl (AY rfl (Ae (Ab ?_))))
        refine Ap rfl (fun c29 => ?_) (fun c29 => ?_)
        ·have h := An c29 h
         refine Aq (Ab (AJ (Ab (Aa Ac rfl ?_))))
         obtain ⟨v30, a30, b30, h⟩ := Ak h
         refine qI EU Es a30 (Af b30) rfl (qJ HR Es (Af b30) rfl (qz Jq rfl (qs Es rfl (Ae (Ab (Aa Ac rfl (qL Di Da rfl (qL A4 Az rfl (qL HR Es rfl ?_)))))))))
         obtain ⟨v31, a31, h⟩ := bind_some h
         refine AG [2018, 2019, 2020] (J4 N p0 v25 v30 v31 a31) WJ rfl (qm rfl (qx rfl (qx rfl (qz Cs rfl (qs Az rfl (qa rfl (Ae (Ab (Aa Ac rfl (qL Di Da rfl (qL A4 Az rfl ?_)))))))))))
         obtain ⟨v32, a32, h⟩ := bind_some h
         refine DI [] [2018, 2019, 2020] (HD N p0 v31.1 v32 a32) TN Cr rfl (qm rfl (qx rfl (qx rfl (qa rfl (qa rfl (Ae ?_))))))
         refine AL h (fun v33 => mk [(1, pD (.sl (p1.map Ai))), (2, oD (.ptr 2 0)), (14, oD (.ptr 14 0)), (82, pD (.sl (p1.map Ai))), (83, iD ((p1.length : Int))), (84, iD v22), (94, oD (.own 2021)), (95, iD ((v26.1.length : Int))), (96, iD v27), (119, bD v33)] [(2, .box [sC (p0.fVersions.map Al), sC (p0.fNow.map Al), sC (p0.fTarget.map Al), sC (p0.fTables.map Ar)]), (14, .box [sC (v25.fBase.map Al), sC (v25.fNext.map Al), sC (v25.fHeld.map Bw)]), (2021, .vec 3 (v26.1.map A2))]) (fun j33 h => ?_) (fun v33 h => ?_)
         ·refine Aa Ac rfl (qm rfl (qm rfl ?_))
          refine AB (t := 114) rfl (fun c34 => ?_) (fun c34 => ?_)
          ·have h := An c34 h
           refine qm rfl (qL A4 Az rfl ?_)
           obtain ⟨v35, a35, h⟩ := bind_some h
           refine DI [] [2018, 2019, 2020] (J6 N p1 v31.1 v35 a35) XJ Cr rfl (BS rfl (qp rfl (Ae ?_)))
           exact As _ h (sm [(2021, 2017)] _ _ rfl rfl)
          ·have h := Ao c34 h
           refine qn rfl (qn rfl (qn rfl (qn rfl (qp rfl (Ae ?_)))))
           exact As _ h (sm [(2021, 2017)] _ _ rfl rfl)
         ·refine Ap rfl (fun c36 => ?_) (fun c36 => ?_)
          ·have h := An c36 h
           refine Ab (Aa Ac rfl (qa rfl (Ae ?_)))
           obtain rfl := sj h
           refine Am (sm [] [(4, bD false)] [] rfl rfl) (AA ?_)
           exact ⟨⟨[_], ⟨.tmp _ _ rfl, tv⟩, rfl⟩, tv⟩
          ·have h := Ao c36 h
           refine Aq (Aa Ac rfl (AP rfl (qm rfl (Ae ?_))))
           exact As _ h (sm [(2017, 2021)] _ _ rfl rfl)
        ·have h := Ao c29 h
         refine AQ ?_
         exact As _ h (sm [] _ _ rfl rfl)
       ·refine Am hs (Aa Ac rfl (AP rfl (qm rfl (Ae ?_))))
        exact As _ h (sm [] _ _ rfl rfl)
      ·have h := Ao c24 h
       refine AQ ?_
       exact As _ h (sm [] _ _ rfl rfl)
     ·refine Am hs (Ab (Aa Ac rfl (qa rfl (Ae ?_))))
      obtain rfl := sj h
      refine Am (sm [] [(4, bD true)] [] rfl rfl) (AA ?_)
      exact ⟨⟨[_], ⟨.tmp _ _ rfl, tv⟩, rfl⟩, tv⟩
theorem Jn (N : Nat) (p0 : List Ah) (p1 : List Ah) (r : Bool) (h : Fd N p0 p1 = some r) : AD Tryz.prog 24 [pD (.sl (p0.map Ad)), pD (.sl (p1.map Ad))] [] (bD r) := by
 unfold Fd at h
 refine Au (n := 26) (rs := [.tmp 4]) Tryz.func24 rfl rfl rfl (A5 rfl) (A5 rfl) rfl fun w0 S0 => ?_
 refine Ab (Aa Ac rfl (qa rfl (Ae (Ab (Ab (Aa Ac rfl (qm rfl (AR A8 rfl (qm rfl (AR A8 rfl (BP rfl (Ae ?_))))))))))))
 refine Ap rfl (fun c1 => ?_) (fun c1 => ?_)
 ·have h := An c1 h
  refine Ab (Aa Ac rfl (qa rfl (Ae ?_)))
  obtain rfl := sj h
  refine Am (sm [] [(4, bD false)] [] rfl rfl) (AA ?_)
  exact ⟨⟨[_], ⟨.tmp _ _ rfl, tv⟩, rfl⟩, tv⟩
 ·have h := Ao c1 h
  refine Aq (Ab (Ab (Aa Ac rfl (qa rfl (Ae ?_)))))
  refine AE (L := DF N p0 p1) h (fun v2 => mk [(0, pD (.sl (p0.map Ad))), (1, pD (.sl (p1.map Ad))), (5, iD v2)] []) (fun v3 => mk [] []) (fun _ _ => rfl) (sm [] _ _ rfl rfl) (fun j2 n2 v2 h => ?_) (fun v3 s h hs => ?_)
  ·unfold DF at h
   refine Ab (Ab (Aa Ac rfl (qm rfl (qm rfl (AR A8 rfl (AY rfl (Ae ?_)))))))
   refine Ap rfl (fun c4 => ?_) (fun c4 => ?_)
   ·have h := An c4 h
    refine Aq (Ab (AJ (Ab (Aa Ac rfl (qm rfl (qm rfl ?_))))))
    obtain ⟨v5, a5, b5, h⟩ := Ak h
    refine qi A8 AU a5 (Af b5) rfl (qK CP AU rfl (qm rfl (qm rfl ?_)))
    obtain ⟨v6, a6, b6, h⟩ := Ak h
    refine qi A8 AU a6 (Af b6) rfl (qK CP AU rfl ?_)
    refine Se [.int .i64 v5.fTable, .int .i64 v5.fWriter, .int .i64 v5.fReader] [.int .i64 v6.fTable, .int .i64 v6.fWriter, .int .i64 v6.fReader] (.p rfl) rfl rfl QL rfl ?_
    refine AC (by kernel_rfl) ?_
    refine Ap rfl (fun c7 => ?_) (fun c7 => ?_)
    ·have h := An c7 h
     refine Ab (Aa Ac rfl (qa rfl (Ae ?_)))
     obtain rfl := sj h
     refine Am (sm [] [(4, bD false)] [] rfl rfl) (AA ?_)
     exact ⟨⟨[_], ⟨.tmp _ _ rfl, tv⟩, rfl⟩, tv⟩
    ·have h := Ao c7 h
     refine Aq (Aa Ac rfl (qm rfl (AP rfl (qa rfl (Ae ?_)))))
     exact As _ h (sm [] _ _ rfl rfl)
   ·have h := Ao c4 h
    refine AQ ?_
    exact As _ h (sm [] _ _ rfl rfl)
  ·refine Am hs (Ab (Aa Ac rfl (qa rfl (Ae ?_))))
   obtain rfl := sj h
   refine Am (sm [] [(4, bD true)] [] rfl rfl) (AA ?_)
   exact ⟨⟨[_], ⟨.tmp _ _ rfl, tv⟩, rfl⟩, tv⟩
theorem Ip (N : Nat) (r : Bool) (h : Ev N = some r) : AD Tryz.prog 11 [] [] (bD r) := by
 unfold Ev at h
 refine Au (n := 123) (rs := [.tmp 0]) Tryz.func11 rfl rfl rfl (A5 rfl) (A5 rfl) rfl fun w0 S0 => ?_
 refine Ab (Aa Ac rfl (qa rfl (Ae (Ab (Aa Ac rfl (EX AN DJ Mt rfl (EX AN DJ Mt rfl (EX Dj FW Pq rfl (Br Cs Gt rfl (qz Cs rfl (qs Az rfl (Ae (Ab (Aa Ac rfl (EX AN DJ Mt rfl (EX AN DJ Mt rfl (EX Dj FW Pq rfl (Br Cs Gt rfl (qz Cs rfl (qs Az rfl (Ae (Ab (Aa Ac rfl ?_)))))))))))))))))))))))
 obtain ⟨v1, a1, h⟩ := bind_some h
 refine AG [2001, 2002, 2003, 2004] (C1 N v1 a1) RL rfl (EM (BR 2001 _ _ rfl rfl) (EM (BR 2002 _ _ rfl rfl) (EM (BR 2003 _ _ rfl rfl) (EM (BR 2004 _ _ rfl rfl) ?_))))
 obtain ⟨v2, a2, h⟩ := bind_some h
 refine AG [2005] (Ks N v1 v2 a2) YI rfl (qm rfl (qx rfl (qx rfl (qa rfl (qa rfl (Ae (Ab (Aa Ac rfl ?_))))))))
 obtain ⟨v3, a3, h⟩ := bind_some h
 refine AG [2006, 2007, 2008, 2009] (C1 N v3 a3) RL rfl (qm rfl (EM (BR 2006 _ _ rfl rfl) (EM (BR 2007 _ _ rfl rfl) (EM (BR 2008 _ _ rfl rfl) (EM (BR 2009 _ _ rfl rfl) (EM (BR 2005 _ _ rfl rfl) ?_))))))
 obtain ⟨v4, a4, h⟩ := bind_some h
 refine AG [2010] (Ii N v3 v2.1 v4 a4) W7 rfl (qm rfl (qx rfl (qx rfl (qa rfl (qa rfl (Ae (Ab (Aa Ac rfl ?_))))))))
 obtain ⟨v5, a5, h⟩ := bind_some h
 refine AG [2011, 2012, 2013, 2014] (C1 N v5 a5) RL rfl (qm rfl ?_)
 obtain ⟨v6, a6, h⟩ := bind_some h
 refine DI [2015] [2011, 2012, 2013, 2014] (Jv N v5 v2.1 v6 a6) YD (IM (fun _ => rfl) Cr) rfl (qm rfl (qx rfl (qx rfl (qa rfl (qa rfl (Ae (Ab (Aa Ac rfl ?_))))))))
 obtain ⟨v7, a7, h⟩ := bind_some h
 refine AG [2016, 2017, 2018, 2019] (C1 N v7 a7) RL rfl (qm rfl ?_)
 obtain ⟨v8, a8, h⟩ := bind_some h
 refine DI [2020, 2021, 2022] [2016, 2017, 2018, 2019] (JF N v7 v2.1 v8 a8) X0 (IM (fun _ => rfl) (IM (fun _ => rfl) (IM (fun _ => rfl) Cr))) rfl (qm rfl (qx rfl (qx rfl (qx rfl (qz Cs rfl (qa rfl (qs Az rfl (qa rfl (Ae (Ab (Aa Ac rfl (Br HW PQ rfl (qz HW rfl (qs AU rfl (Ae ?_)))))))))))))))
 refine AL h (fun v9 => mk [(1, oD (.ptr 1 0)), (2, oD (.ptr 2 0)), (3, pD (.sl (v2.1.map Ai))), (5, oD (.own 2032)), (7, oD (.own 2033)), (9, iD v8.1), (10, oD (.ptr 10 0)), (12, oD (.ptr 12 0)), (13, bD v9)] [(1, .box [.own 2023, .own 2024, .own 2025]), (2, .box [.own 2026, .own 2027, .own 2028]), (10, .box [.own 2029, .own 2030, .own 2031]), (12, .box [iC 0, iC 1, iC 0]), (2023, .vec 1 ((([0] : List Int)).map Al)), (2024, .vec 1 ((([(-1)] : List Int)).map Al)), (2025, .vec 1 ((([0] : List Int)).map Bw)), (2026, .vec 1 ((([1] : List Int)).map Al)), (2027, .vec 1 ((([(-1)] : List Int)).map Al)), (2028, .vec 1 ((([0] : List Int)).map Bw)), (2029, .vec 1 (v8.2.1.fBase.map Al)), (2030, .vec 1 (v8.2.1.fNext.map Al)), (2031, .vec 1 (v8.2.1.fHeld.map Bw)), (2032, .vec 9 (v4.1.map Bx)), (2033, .vec 3 (v6.1.map Ad))]) (fun j9 h => ?_) (fun v9 h => ?_)
 ·refine Aa Ac rfl (qm rfl (BQ rfl (qm rfl ?_)))
  refine AB (t := 49) rfl (fun c10 => ?_) (fun c10 => ?_)
  ·have h := An c10 h
   refine qm rfl (BQ rfl (qp rfl (qm rfl ?_)))
   refine AB (t := 53) rfl (fun c11 => ?_) (fun c11 => ?_)
   ·have h := An c11 h
    refine qm rfl (BQ rfl (qp rfl (qm rfl ?_)))
    refine AB (t := 57) rfl (fun c12 => ?_) (fun c12 => ?_)
    ·have h := An c12 h
     refine qm rfl (BQ rfl (qp rfl (qa rfl (Ae ?_))))
     exact As _ h (sm [(2023, 14), (2024, 15), (2025, 16), (2026, 18), (2027, 19), (2028, 20), (2029, 2020), (2030, 2021), (2031, 2022), (2032, 2010), (2033, 2015)] _ _ rfl rfl)
    ·have h := Ao c12 h
     refine qn rfl (qn rfl (qp rfl (qa rfl (Ae ?_))))
     exact As _ h (sm [(2023, 14), (2024, 15), (2025, 16), (2026, 18), (2027, 19), (2028, 20), (2029, 2020), (2030, 2021), (2031, 2022), (2032, 2010), (2033, 2015)] _ _ rfl rfl)
   ·have h := Ao c11 h
    refine qn rfl (qn rfl (qp rfl (qm rfl (qn rfl (qn rfl (qp rfl (qa rfl (Ae ?_))))))))
    exact As _ h (sm [(2023, 14), (2024, 15), (2025, 16), (2026, 18), (2027, 19), (2028, 20), (2029, 2020), (2030, 2021), (2031, 2022), (2032, 2010), (2033, 2015)] _ _ rfl rfl)
  ·have h := Ao c10 h
   refine qn rfl (qn rfl (qp rfl (qm rfl (qn rfl (qn rfl (qp rfl (qm rfl (qn rfl (qn rfl (qp rfl (qa rfl (Ae ?_))))))))))))
   exact As _ h (sm [(2023, 14), (2024, 15), (2025, 16), (2026, 18), (2027, 19), (2028, 20), (2029, 2020), (2030, 2021), (2031, 2022), (2032, 2010), (2033, 2015)] _ _ rfl rfl)
 ·refine AL h (fun v13 => mk [(1, oD (.ptr 1 0)), (5, oD (.own 2037)), (7, oD (.own 2038)), (9, iD v8.1), (10, oD (.ptr 10 0)), (12, oD (.ptr 12 0)), (13, bD v13)] [(1, .box [sC ((([0] : List Int)).map Al), sC ((([(-1)] : List Int)).map Al), sC ((([0] : List Int)).map Bw)]), (10, .box [.own 2034, .own 2035, .own 2036]), (12, .box [iC 0, iC 1, iC 0]), (2034, .vec 1 (v8.2.1.fBase.map Al)), (2035, .vec 1 (v8.2.1.fNext.map Al)), (2036, .vec 1 (v8.2.1.fHeld.map Bw)), (2037, .vec 9 (v4.1.map Bx)), (2038, .vec 3 (v6.1.map Ad))]) (fun j13 h => ?_) (fun v13 h => ?_)
  ·refine Am (BR 2023 _ _ rfl rfl) (Am (BR 2024 _ _ rfl rfl) (Am (BR 2025 _ _ rfl rfl) (Am (BR 2026 _ _ rfl rfl) (Am (BR 2027 _ _ rfl rfl) (Am (BR 2028 _ _ rfl rfl) (Aa Ac rfl (qm rfl (qm rfl ?_))))))))
   refine AB (t := 62) rfl (fun c14 => ?_) (fun c14 => ?_)
   ·have h := An c14 h
    refine qm rfl (qL A4 Az rfl (EX A0 Az Cs rfl ?_))
    obtain ⟨v15, a15, h⟩ := bind_some h
    refine DI [] [65] (Lv N v2.1 (([(Ag.mk (([0] : List Int)) (([(-1)] : List Int)) (([0] : List Int)))] : List Ag)) v15 a15) Zs Cr rfl (qp rfl (qm rfl ?_))
    refine AB (t := 68) rfl (fun c16 => ?_) (fun c16 => ?_)
    ·have h := An c16 h
     obtain ⟨v17, a17, h⟩ := bind_some h
     refine AG [2039, 2040, 2041, 2042] (C1 N v17 a17) RL rfl (qm rfl ?_)
     obtain ⟨v18, a18, h⟩ := bind_some h
     refine DI [] [2039, 2040, 2041, 2042] (HF N v17 v2.1 v18 a18) Vr Cr rfl (qp rfl (qm rfl ?_))
     refine AB (t := 73) rfl (fun c19 => ?_) (fun c19 => ?_)
     ·have h := An c19 h
      obtain ⟨v20, a20, h⟩ := bind_some h
      refine AG [2043, 2044, 2045, 2046] (C1 N v20 a20) RL rfl ?_
      obtain ⟨v21, a21, h⟩ := bind_some h
      refine DI [] [2043, 2044, 2045, 2046] (HF N v20 (([] : List Ag)) v21 a21) Vr Cr rfl (BS rfl (qp rfl (qm rfl ?_)))
      refine AB (t := 78) rfl (fun c22 => ?_) (fun c22 => ?_)
      ·have h := An c22 h
       obtain ⟨v23, a23, h⟩ := bind_some h
       refine AG [2047, 2048, 2049, 2050] (C1 N v23 a23) RL rfl (qL A4 Az rfl (qL A4 Az rfl (EX A0 Az Cs rfl ?_)))
       obtain ⟨v24, a24, h⟩ := bind_some h
       refine DI [] [2047, 2048, 2049, 2050, 82] (HF N v23 (([(Ag.mk (([0] : List Int)) (([(-1)] : List Int)) (([0] : List Int))), (Ag.mk (([1] : List Int)) (([(-1)] : List Int)) (([0] : List Int)))] : List Ag)) v24 a24) Vr Cr rfl (BS rfl (qp rfl (qa rfl (AC (by kernel_rfl) ?_))))
       exact As _ h (sm [(2034, 2029), (2035, 2030), (2036, 2031), (2037, 2032), (2038, 2033)] _ _ rfl rfl)
      ·have h := Ao c22 h
       refine qn rfl (qn rfl (qn rfl (qn rfl (qn rfl (qn rfl (qp rfl (qa rfl (AC (by kernel_rfl) ?_))))))))
       exact As _ h (sm [(2034, 2029), (2035, 2030), (2036, 2031), (2037, 2032), (2038, 2033)] _ _ rfl rfl)
     ·have h := Ao c19 h
      refine qn rfl (qn rfl (qn rfl (qp rfl (qm rfl (qn rfl (qn rfl (qn rfl (qn rfl (qn rfl (qn rfl (qp rfl (qa rfl (AC (by kernel_rfl) ?_)))))))))))))
      exact As _ h (sm [(2034, 2029), (2035, 2030), (2036, 2031), (2037, 2032), (2038, 2033)] _ _ rfl rfl)
    ·have h := Ao c16 h
     refine qn rfl (qn rfl (qn rfl (qp rfl (qm rfl (qn rfl (qn rfl (qn rfl (qp rfl (qm rfl (qn rfl (qn rfl (qn rfl (qn rfl (qn rfl (qn rfl (qp rfl (qa rfl (AC (by kernel_rfl) ?_))))))))))))))))))
     exact As _ h (sm [(2034, 2029), (2035, 2030), (2036, 2031), (2037, 2032), (2038, 2033)] _ _ rfl rfl)
   ·have h := Ao c14 h
    refine qn rfl (qn rfl (qn rfl (qn rfl (qp rfl (qm rfl (qn rfl (qn rfl (qn rfl (qp rfl (qm rfl (qn rfl (qn rfl (qn rfl (qp rfl (qm rfl (qn rfl (qn rfl (qn rfl (qn rfl (qn rfl (qn rfl (qp rfl (qa rfl (AC (by kernel_rfl) ?_))))))))))))))))))))))))
    exact As _ h (sm [(2034, 2029), (2035, 2030), (2036, 2031), (2037, 2032), (2038, 2033)] _ _ rfl rfl)
  ·refine AL h (fun v25 => mk [(0, bD v25)] []) (fun j25 h => ?_) (fun v25 h => ?_)
   ·refine Aa Ac rfl (qm rfl (qm rfl ?_))
    refine AB (t := 87) rfl (fun c26 => ?_) (fun c26 => ?_)
    ·have h := An c26 h
     refine qm rfl (EP zFS rfl (BQ rfl (qp rfl (qm rfl ?_))))
     refine AB (t := 92) rfl (fun c27 => ?_) (fun c27 => ?_)
     ·have h := An c27 h
      refine qm rfl ?_
      obtain ⟨v28, a28, b28, h⟩ := Ak h
      refine qI zFS Kg a28 (Af b28) rfl (qh Pi rfl ?_)
      refine Re (.g rfl rfl) rfl HR Es rfl (Af b28) rfl rfl (by decide) ?_
      refine Br Jq UE rfl ?_
      refine UA [.int .i64 v28.fStep.fKind, .int .i64 v28.fStep.fIndex, .int .i64 v28.fStep.fVersion] [.int .i64 1, .int .i64 0, .int .i64 1] (.g rfl rfl) rfl rfl Wc rfl ?_
      refine qp rfl (qm rfl ?_)
      refine AB (t := 100) rfl (fun c29 => ?_) (fun c29 => ?_)
      ·have h := An c29 h
       refine qm rfl ?_
       obtain ⟨v30, a30, b30, h⟩ := Ak h
       refine qI zFS Kg a30 (Af b30) rfl (qh M7 rfl ?_)
       refine Re (.g rfl rfl) rfl CP AU rfl (Af b30) rfl rfl (by decide) ?_
       refine qL CP AU rfl ?_
       refine UA [.int .i64 v30.fConflict.fTable, .int .i64 v30.fConflict.fWriter, .int .i64 v30.fConflict.fReader] [.int .i64 0, .int .i64 1, .int .i64 0] (.g rfl rfl) rfl rfl QL rfl ?_
       refine qp rfl (qm rfl ?_)
       refine AB (t := 108) rfl (fun c31 => ?_) (fun c31 => ?_)
       ·have h := An c31 h
        refine qm rfl (qL CP AU rfl (EX A8 AU HW rfl ?_))
        obtain ⟨v32, a32, h⟩ := bind_some h
        refine DI [] [2038, 111] (Jn N v6.1 (([(Ah.mk 0 1 0)] : List Ah)) v32 a32) Zc Cr rfl (qp rfl (qm rfl ?_))
        refine AB (t := 114) rfl (fun c33 => ?_) (fun c33 => ?_)
        ·have h := An c33 h
         refine qm rfl (BQ rfl (qp rfl (qm rfl ?_)))
         refine AB (t := 118) rfl (fun c34 => ?_) (fun c34 => ?_)
         ·have h := An c34 h
          refine qL A4 Az rfl (qL A4 Az rfl ?_)
          obtain ⟨v35, a35, h⟩ := bind_some h
          refine DI [] [2034, 2035, 2036] (Ft N v8.2.1 ((Ag.mk (([0] : List Int)) (([(-1)] : List Int)) (([0] : List Int)))) v35 a35) U6 Cr rfl (qp rfl (qa rfl (AC (by kernel_rfl) ?_)))
          exact As _ h (sm [] _ _ rfl rfl)
         ·have h := Ao c34 h
          refine qn rfl (qn rfl (qn rfl (qp rfl (qa rfl (AC (by kernel_rfl) ?_)))))
          exact As _ h (sm [] _ _ rfl rfl)
        ·have h := Ao c33 h
         refine qn rfl (qn rfl (qp rfl (qm rfl (qn rfl (qn rfl (qn rfl (qp rfl (qa rfl (AC (by kernel_rfl) ?_)))))))))
         exact As _ h (sm [] _ _ rfl rfl)
       ·have h := Ao c31 h
        refine qn rfl (qn rfl (qn rfl (qn rfl (qp rfl (qm rfl (qn rfl (qn rfl (qp rfl (qm rfl (qn rfl (qn rfl (qn rfl (qp rfl (qa rfl (AC (by kernel_rfl) ?_)))))))))))))))
        exact As _ h (sm [] _ _ rfl rfl)
      ·have h := Ao c29 h
       refine qn rfl (qn rfl (qn rfl (qn rfl (qn rfl (qn rfl (qp rfl (qm rfl (qn rfl (qn rfl (qn rfl (qn rfl (qp rfl (qm rfl (qn rfl (qn rfl (qp rfl (qm rfl (qn rfl (qn rfl (qn rfl (qp rfl (qa rfl (AC (by kernel_rfl) ?_)))))))))))))))))))))))
       exact As _ h (sm [] _ _ rfl rfl)
     ·have h := Ao c27 h
      refine qn rfl (qn rfl (qn rfl (qn rfl (qn rfl (qn rfl (qp rfl (qm rfl (qn rfl (qn rfl (qn rfl (qn rfl (qn rfl (qn rfl (qp rfl (qm rfl (qn rfl (qn rfl (qn rfl (qn rfl (qp rfl (qm rfl (qn rfl (qn rfl (qp rfl (qm rfl (qn rfl (qn rfl (qn rfl (qp rfl (qa rfl (AC (by kernel_rfl) ?_)))))))))))))))))))))))))))))))
      exact As _ h (sm [] _ _ rfl rfl)
    ·have h := Ao c26 h
     refine qn rfl (qn rfl (qn rfl (qp rfl (qm rfl (qn rfl (qn rfl (qn rfl (qn rfl (qn rfl (qn rfl (qp rfl (qm rfl (qn rfl (qn rfl (qn rfl (qn rfl (qn rfl (qn rfl (qp rfl (qm rfl (qn rfl (qn rfl (qn rfl (qn rfl (qp rfl (qm rfl (qn rfl (qn rfl (qp rfl (qm rfl (qn rfl (qn rfl (qn rfl (qp rfl (qa rfl (AC (by kernel_rfl) ?_))))))))))))))))))))))))))))))))))))
     exact As _ h (sm [] _ _ rfl rfl)
   ·obtain rfl := sj h
    refine Am (sm [] [(0, bD v25)] [] rfl rfl) (AA ?_)
    exact ⟨⟨[_], ⟨.tmp _ _ rfl, tv⟩, rfl⟩, tv⟩
theorem LA (N : Nat) (p0 : Aj) (r : Bool) (h : E2 N p0 = some r) : AD Tryz.prog 32 [.e (.agg [sC (p0.fVersions.map Al), sC (p0.fNow.map Al), sC (p0.fTarget.map Al), sC (p0.fTables.map Ar)])] [] (bD r) := by
 unfold E2 at h
 refine Au (n := 97) (rs := [.tmp 2]) Tryz.func32 rfl rfl rfl (A5 rfl) (A5 rfl) rfl fun w0 S0 => ?_
 refine Ab (Aa Ac rfl (qb rfl (qa rfl (Ae (Ab ?_)))))
 refine AL h (fun v1 => mk [(1, oD (.ptr 1 0)), (27, bD v1)] [(1, .box [sC (p0.fVersions.map Al), sC (p0.fNow.map Al), sC (p0.fTarget.map Al), sC (p0.fTables.map Ar)])]) (fun j1 h => ?_) (fun v1 h => ?_)
 ·refine Aa Ac rfl (qf Cq rfl (ql Bs rfl (AR AN rfl (DC rfl (qm rfl ?_)))))
  refine AB (t := 10) rfl (fun c2 => ?_) (fun c2 => ?_)
  ·have h := An c2 h
   refine qn rfl (qn rfl (qn rfl (qn rfl (qp rfl (qm rfl (qn rfl (qn rfl (qn rfl (qn rfl (qp rfl (qm rfl (qn rfl (qn rfl (qn rfl (qn rfl (qp rfl (Ae ?_)))))))))))))))))
   exact As _ h (sm [] _ _ rfl rfl)
  ·have h := Ao c2 h
   refine qf Iv rfl (ql Bs rfl (AR AN rfl (DC rfl (qp rfl (qm rfl ?_)))))
   refine AB (t := 16) rfl (fun c3 => ?_) (fun c3 => ?_)
   ·have h := An c3 h
    refine qn rfl (qn rfl (qn rfl (qn rfl (qp rfl (qm rfl (qn rfl (qn rfl (qn rfl (qn rfl (qp rfl (Ae ?_)))))))))))
    exact As _ h (sm [] _ _ rfl rfl)
   ·have h := Ao c3 h
    refine qf H3 rfl (ql Bs rfl (AR AN rfl (DC rfl (qp rfl (qm rfl ?_)))))
    refine AB (t := 22) rfl (fun c4 => ?_) (fun c4 => ?_)
    ·have h := An c4 h
     refine qn rfl (qn rfl (qn rfl (qn rfl (qp rfl (Ae ?_)))))
     exact As _ h (sm [] _ _ rfl rfl)
    ·have h := Ao c4 h
     refine qf CI rfl (ql GQ rfl (AR D6 rfl (DC rfl (qp rfl (Ae ?_)))))
     exact As _ h (sm [] _ _ rfl rfl)
 ·refine Ap rfl (fun c5 => ?_) (fun c5 => ?_)
  ·have h := An c5 h
   refine Ab (Aa Ac rfl (qa rfl (Ae ?_)))
   obtain rfl := sj h
   refine Am (sm [] [(2, bD false)] [] rfl rfl) (AA ?_)
   exact ⟨⟨[_], ⟨.tmp _ _ rfl, tv⟩, rfl⟩, tv⟩
  ·have h := Ao c5 h
   refine Aq (Ab (Ab (Aa Ac rfl (qa rfl (Ae ?_)))))
   refine AE (L := Dx N p0) h (fun v6 => mk [(1, oD (.ptr 1 0)), (3, iD v6)] [(1, .box [sC (p0.fVersions.map Al), sC (p0.fNow.map Al), sC (p0.fTarget.map Al), sC (p0.fTables.map Ar)])]) (fun v7 => mk [] []) (fun _ _ => rfl) (sm [] _ _ rfl rfl) (fun j6 n6 v6 h => ?_) (fun v7 s h hs => ?_)
   ·unfold Dx at h
    refine Ab (Ab (Aa Ac rfl (qm rfl (qf CI rfl (ql GQ rfl (AR D6 rfl (AY rfl (Ae ?_))))))))
    refine Ap rfl (fun c8 => ?_) (fun c8 => ?_)
    ·have h := An c8 h
     refine Aq (Ab (AJ (Ab ?_)))
     refine AL h (fun v9 => mk [(1, oD (.ptr 1 0)), (3, iD v6), (52, bD v9)] [(1, .box [sC (p0.fVersions.map Al), sC (p0.fNow.map Al), sC (p0.fTarget.map Al), sC (p0.fTables.map Ar)])]) (fun j9 h => ?_) (fun v9 h => ?_)
     ·refine Aa Ac rfl (qf CI rfl (ql GQ rfl (qm rfl ?_)))
      obtain ⟨v10, a10, b10, h⟩ := Ak h
      refine qi D6 EB a10 (Af b10) rfl (qg IB rfl (qk IP rfl (AR F1 rfl (DC rfl (qm rfl ?_)))))
      refine AB (t := 43) rfl (fun c11 => ?_) (fun c11 => ?_)
      ·have h := An c11 h
       refine qn rfl (qn rfl (qn rfl (qn rfl (qn rfl (qn rfl (qn rfl (qn rfl (qp rfl (Ae ?_)))))))))
       exact As _ h (sm [] _ _ rfl rfl)
      ·have h := Ao c11 h
       refine qf CI rfl (ql GQ rfl (qm rfl ?_))
       obtain ⟨v12, a12, b12, h⟩ := Ak h
       refine qi D6 EB a12 (Af b12) rfl (qg Ge rfl (qk IP rfl (AR F1 rfl (DC rfl (qp rfl (Ae ?_))))))
       exact As _ h (sm [] _ _ rfl rfl)
     ·refine Ap rfl (fun c13 => ?_) (fun c13 => ?_)
      ·have h := An c13 h
       refine Ab (Aa Ac rfl (qa rfl (Ae ?_)))
       obtain rfl := sj h
       refine Am (sm [] [(2, bD false)] [] rfl rfl) (AA ?_)
       exact ⟨⟨[_], ⟨.tmp _ _ rfl, tv⟩, rfl⟩, tv⟩
      ·have h := Ao c13 h
       refine Aq (Ab (Ab (Aa Ac rfl (qa rfl (Ae ?_)))))
       refine AE (L := CB N p0 v6) h (fun v14 => mk [(1, oD (.ptr 1 0)), (3, iD v6), (4, iD v14)] [(1, .box [sC (p0.fVersions.map Al), sC (p0.fNow.map Al), sC (p0.fTarget.map Al), sC (p0.fTables.map Ar)])]) (fun v15 => mk [(1, oD (.ptr 1 0)), (3, iD v6)] [(1, .box [sC (p0.fVersions.map Al), sC (p0.fNow.map Al), sC (p0.fTarget.map Al), sC (p0.fTables.map Ar)])]) (fun _ _ => rfl) (sm [] _ _ rfl rfl) (fun j14 n14 v14 h => ?_) (fun v15 s h hs => ?_)
       ·unfold CB at h
        refine Ab (Ab (Aa Ac rfl (qm rfl (qf CI rfl (ql GQ rfl (qm rfl ?_))))))
        obtain ⟨v16, a16, b16, h⟩ := Ak h
        refine qi D6 EB a16 (Af b16) rfl (qg IB rfl (qk IP rfl (AR F1 rfl (AY rfl (Ae ?_)))))
        refine Ap rfl (fun c17 => ?_) (fun c17 => ?_)
        ·have h := An c17 h
         refine Aq (Ab (AJ (Ab (Aa Ac rfl (qf CI rfl (ql GQ rfl (qm rfl ?_)))))))
         obtain ⟨v18, a18, b18, h⟩ := Ak h
         refine qi D6 EB a18 (Af b18) rfl (qg IB rfl (qk IP rfl (qm rfl ?_)))
         obtain ⟨v19, a19, b19, h⟩ := Ak h
         refine qi F1 MZ a19 (Af b19) rfl (qk Ns rfl (AR Ji rfl (DC rfl (Ae ?_))))
         refine Ap rfl (fun c20 => ?_) (fun c20 => ?_)
         ·have h := An c20 h
          refine Ab (Aa Ac rfl (qa rfl (Ae ?_)))
          obtain rfl := sj h
          refine Am (sm [] [(2, bD false)] [] rfl rfl) (AA ?_)
          exact ⟨⟨[_], ⟨.tmp _ _ rfl, tv⟩, rfl⟩, tv⟩
         ·have h := Ao c20 h
          refine Aq (Aa Ac rfl (qm rfl (AP rfl (qa rfl (Ae ?_)))))
          exact As _ h (sm [] _ _ rfl rfl)
        ·have h := Ao c17 h
         refine AQ ?_
         exact As _ h (sm [] _ _ rfl rfl)
       ·refine Am hs (Ab (Aa Ac rfl (qa rfl (Ae ?_))))
        refine AE (L := Cy N p0 v6) h (fun v21 => mk [(1, oD (.ptr 1 0)), (3, iD v6), (5, iD v21)] [(1, .box [sC (p0.fVersions.map Al), sC (p0.fNow.map Al), sC (p0.fTarget.map Al), sC (p0.fTables.map Ar)])]) (fun v22 => mk [(1, oD (.ptr 1 0)), (3, iD v6)] [(1, .box [sC (p0.fVersions.map Al), sC (p0.fNow.map Al), sC (p0.fTarget.map Al), sC (p0.fTables.map Ar)])]) (fun _ _ => rfl) (sm [] _ _ rfl rfl) (fun j21 n21 v21 h => ?_) (fun v22 s h hs => ?_)
        ·unfold Cy at h
         refine Ab (Ab (Aa Ac rfl (qm rfl (qf CI rfl (ql GQ rfl (qm rfl ?_))))))
         obtain ⟨v23, a23, b23, h⟩ := Ak h
         refine qi D6 EB a23 (Af b23) rfl (qg Ge rfl (qk IP rfl (AR F1 rfl (AY rfl (Ae ?_)))))
         refine Ap rfl (fun c24 => ?_) (fun c24 => ?_)
         ·have h := An c24 h
          refine Aq (Ab (AJ (Ab (Aa Ac rfl (qf CI rfl (ql GQ rfl (qm rfl ?_)))))))
          obtain ⟨v25, a25, b25, h⟩ := Ak h
          refine qi D6 EB a25 (Af b25) rfl (qg Ge rfl (qk IP rfl (qm rfl ?_)))
          obtain ⟨v26, a26, b26, h⟩ := Ak h
          refine qi F1 MZ a26 (Af b26) rfl (qk Ns rfl (AR Ji rfl (DC rfl (Ae ?_))))
          refine Ap rfl (fun c27 => ?_) (fun c27 => ?_)
          ·have h := An c27 h
           refine Ab (Aa Ac rfl (qa rfl (Ae ?_)))
           obtain rfl := sj h
           refine Am (sm [] [(2, bD false)] [] rfl rfl) (AA ?_)
           exact ⟨⟨[_], ⟨.tmp _ _ rfl, tv⟩, rfl⟩, tv⟩
          ·have h := Ao c27 h
           refine Aq (Aa Ac rfl (qm rfl (AP rfl (qa rfl (Ae ?_)))))
           exact As _ h (sm [] _ _ rfl rfl)
         ·have h := Ao c24 h
          refine AQ ?_
          exact As _ h (sm [] _ _ rfl rfl)
        ·refine Am hs (Aa Ac rfl (qm rfl (AP rfl (qa rfl (Ae ?_)))))
         exact As _ h (sm [] _ _ rfl rfl)
    ·have h := Ao c8 h
     refine AQ ?_
     exact As _ h (sm [] _ _ rfl rfl)
   ·refine Am hs (Ab (Aa Ac rfl (qa rfl (Ae ?_))))
    obtain rfl := sj h
    refine Am (sm [] [(2, bD true)] [] rfl rfl) (AA ?_)
    exact ⟨⟨[_], ⟨.tmp _ _ rfl, tv⟩, rfl⟩, tv⟩
theorem LG (N : Nat) (p0 : Ag) (r : Bool) (h : E3 N p0 = some r) : AD Tryz.prog 34 [.e (.agg [sC (p0.fBase.map Al), sC (p0.fNext.map Al), sC (p0.fHeld.map Bw)])] [] (bD r) := by
 unfold E3 at h
 refine Au (n := 19) (rs := [.tmp 2]) Tryz.func34 rfl rfl rfl (A5 rfl) (A5 rfl) rfl fun w0 S0 => ?_
 refine Ab (Aa Ac rfl (qb rfl (qa rfl (Ae ?_))))
 refine AL h (fun v1 => mk [(2, bD v1)] []) (fun j1 h => ?_) (fun v1 h => ?_)
 ·refine Aa Ac rfl (qf CO rfl (ql Bs rfl (AR AN rfl (GU rfl (qm rfl ?_)))))
  refine AB (t := 7) rfl (fun c2 => ?_) (fun c2 => ?_)
  ·have h := An c2 h
   refine qf BK rfl (ql Bs rfl (AR AN rfl (GU rfl (qp rfl (qm rfl ?_)))))
   refine AB (t := 13) rfl (fun c3 => ?_) (fun c3 => ?_)
   ·have h := An c3 h
    refine qf CM rfl (ql G5 rfl (AR Dj rfl (GU rfl (qp rfl (qa rfl (Ae ?_))))))
    exact As _ h (sm [] _ _ rfl rfl)
   ·have h := Ao c3 h
    refine qn rfl (qn rfl (qn rfl (qn rfl (qp rfl (qa rfl (Ae ?_))))))
    exact As _ h (sm [] _ _ rfl rfl)
  ·have h := Ao c2 h
   refine qn rfl (qn rfl (qn rfl (qn rfl (qp rfl (qm rfl (qn rfl (qn rfl (qn rfl (qn rfl (qp rfl (qa rfl (Ae ?_))))))))))))
   exact As _ h (sm [] _ _ rfl rfl)
 ·obtain rfl := sj h
  refine Am (sm [] [(2, bD v1)] [] rfl rfl) (AA ?_)
  exact ⟨⟨[_], ⟨.tmp _ _ rfl, tv⟩, rfl⟩, tv⟩
theorem If (N : Nat) (p0 : Ag) (r : Bool) (h : Ci N p0 = some r) : AD Tryz.prog 33 [.e (.agg [sC (p0.fBase.map Al), sC (p0.fNext.map Al), sC (p0.fHeld.map Bw)])] [] (bD r) := by
 unfold Ci at h
 refine Au (n := 6) (rs := [.tmp 2]) Tryz.func33 rfl rfl rfl (A5 rfl) (A5 rfl) rfl fun w0 S0 => ?_
 refine Ab (Aa Ac rfl (qb rfl (qa rfl (Ae (Ab (Aa Ac rfl (qL A4 Az rfl ?_)))))))
 obtain ⟨v1, a1, h⟩ := bind_some h
 refine AG [] (LG N p0 v1 a1) Zh rfl (BS rfl (qa rfl (Ae ?_)))
 obtain rfl := sj h
 refine Am (sm [] [(2, bD ((!v1)))] [] rfl rfl) (AA ?_)
 exact ⟨⟨[_], ⟨.tmp _ _ rfl, tv⟩, rfl⟩, tv⟩
theorem C9 (N : Nat) (p0 : AV) (r : Bool) (h : BC N p0 = some r) : AD Tryz.prog 51 [.e (.agg [iC p0.fKind, iC p0.fFrom, iC p0.fTo, .pure (.val (.bool p0.fAware)), sC (p0.fOK.map (Fe eB)), sC (p0.fRewrite.map (Fe eB))])] [] (bD r) := by
 unfold BC at h
 refine Au (n := 11) (rs := [.tmp 2]) Tryz.func51 rfl rfl rfl (A5 rfl) (A5 rfl) rfl fun w0 S0 => ?_
 refine Ab (Aa Ac rfl (qb rfl (qa rfl (Ae ?_))))
 refine AL h (fun v1 => mk [(2, bD v1)] []) (fun j1 h => ?_) (fun v1 h => ?_)
 ·refine Aa Ac rfl (qf GG rfl (ql Cz rfl (BQ rfl (qm rfl ?_))))
  refine AB (t := 6) rfl (fun c2 => ?_) (fun c2 => ?_)
  ·have h := An c2 h
   refine qn rfl (qn rfl (qn rfl (qp rfl (qa rfl (Ae ?_)))))
   exact As _ h (sm [] _ _ rfl rfl)
  ·have h := Ao c2 h
   refine qf GG rfl (ql Cz rfl (BQ rfl (qp rfl (qa rfl (Ae ?_)))))
   exact As _ h (sm [] _ _ rfl rfl)
 ·obtain rfl := sj h
  refine Am (sm [] [(2, bD v1)] [] rfl rfl) (AA ?_)
  exact ⟨⟨[_], ⟨.tmp _ _ rfl, tv⟩, rfl⟩, tv⟩
theorem Id (N : Nat) (p0 : List (List Bool)) (p1 : Int) (p2 : Int) (r : Bool) (h : Dz N p0 p1 p2 = some r) : AD Tryz.prog 115 [pD (.sl (p0.map (Fe eB))), iD p1, iD p2] [] (bD r) := by
 unfold Dz at h
 refine Au (n := 24) (rs := [.tmp 6]) Tryz.func115 rfl rfl rfl (A5 rfl) (A5 rfl) rfl fun w0 S0 => ?_
 refine Ab (Aa Ac rfl (qa rfl (Ae (Ab (Ab (Aa Ac rfl (qm rfl (AR F1 rfl (qm rfl (BP rfl (Ae ?_)))))))))))
 refine Ap rfl (fun c1 => ?_) (fun c1 => ?_)
 ·have h := An c1 h
  refine Ab (Aa Ac rfl (qa rfl (Ae ?_)))
  obtain rfl := sj h
  refine Am (sm [] [(6, bD false)] [] rfl rfl) (AA ?_)
  exact ⟨⟨[_], ⟨.tmp _ _ rfl, tv⟩, rfl⟩, tv⟩
 ·have h := Ao c1 h
  refine Aq (Ab (Ab (Aa Ac rfl (qa rfl (Ae ?_)))))
  refine AE (L := CC N p0 p1 p2) h (fun v2 => mk [(0, pD (.sl (p0.map (Fe eB)))), (1, iD p1), (2, iD p2), (7, iD v2)] []) (fun v3 => mk [] []) (fun _ _ => rfl) (sm [] _ _ rfl rfl) (fun j2 n2 v2 h => ?_) (fun v3 s h hs => ?_)
  ·unfold CC at h
   refine Ab (Ab (Aa Ac rfl (qm rfl (qm rfl (AY rfl (Ae ?_))))))
   refine Ap rfl (fun c4 => ?_) (fun c4 => ?_)
   ·have h := An c4 h
    refine Aq (Ab (AJ (Ab (Aa Ac rfl (qm rfl (qm rfl ?_))))))
    obtain ⟨v5, a5, b5, h⟩ := Ak h
    refine qi F1 MZ a5 (Af b5) rfl (qk Ns rfl (AR Ji rfl (qm rfl (BP rfl (Ae ?_)))))
    refine Ap rfl (fun c6 => ?_) (fun c6 => ?_)
    ·have h := An c6 h
     refine Ab (Aa Ac rfl (qa rfl (Ae ?_)))
     obtain rfl := sj h
     refine Am (sm [] [(6, bD false)] [] rfl rfl) (AA ?_)
     exact ⟨⟨[_], ⟨.tmp _ _ rfl, tv⟩, rfl⟩, tv⟩
    ·have h := Ao c6 h
     refine Aq (Aa Ac rfl (qm rfl (AP rfl (qa rfl (Ae ?_)))))
     exact As _ h (sm [] _ _ rfl rfl)
   ·have h := Ao c4 h
    refine AQ ?_
    exact As _ h (sm [] _ _ rfl rfl)
  ·refine Am hs (Ab (Aa Ac rfl (qa rfl (Ae ?_))))
   obtain rfl := sj h
   refine Am (sm [] [(6, bD true)] [] rfl rfl) (AA ?_)
   exact ⟨⟨[_], ⟨.tmp _ _ rfl, tv⟩, rfl⟩, tv⟩
theorem KU (N : Nat) (p0 : Aj) (p1 : AV) (r : Int) (h : Ex N p0 p1 = some r) : AD Tryz.prog 76 [.e (.agg [sC (p0.fVersions.map Al), sC (p0.fNow.map Al), sC (p0.fTarget.map Al), sC (p0.fTables.map Ar)]), .e (.agg [iC p1.fKind, iC p1.fFrom, iC p1.fTo, .pure (.val (.bool p1.fAware)), sC (p1.fOK.map (Fe eB)), sC (p1.fRewrite.map (Fe eB))])] [] (iD r) := by
 unfold Ex at h
 refine Au (n := 101) (rs := [.tmp 4]) Tryz.func76 rfl rfl rfl (A5 rfl) (A5 rfl) rfl fun w0 S0 => ?_
 refine Ab (Aa Ac rfl (qb rfl (qb rfl (qa rfl (Ae (Ab ?_))))))
 refine AL h (fun v1 => mk [(2, oD (.ptr 2 0)), (3, oD (.ptr 3 0)), (22, bD v1)] [(2, .box [sC (p0.fVersions.map Al), sC (p0.fNow.map Al), sC (p0.fTarget.map Al), sC (p0.fTables.map Ar)]), (3, .box [iC p1.fKind, iC p1.fFrom, iC p1.fTo, .pure (.val (.bool p1.fAware)), sC (p1.fOK.map (Fe eB)), sC (p1.fRewrite.map (Fe eB))])]) (fun j1 h => ?_) (fun v1 h => ?_)
 ·refine Aa Ac rfl (qf GG rfl (ql Cz rfl (AY rfl (qm rfl ?_))))
  refine AB (t := 10) rfl (fun c2 => ?_) (fun c2 => ?_)
  ·have h := An c2 h
   refine qn rfl (qn rfl (qn rfl (qp rfl (qm rfl (qn rfl (qn rfl (qn rfl (qu rfl (qu rfl (qn rfl (qp rfl (Ae ?_))))))))))))
   exact As _ h (sm [] _ _ rfl rfl)
  ·have h := Ao c2 h
   refine qf GG rfl (ql Cz rfl (DC rfl (qp rfl (qm rfl ?_))))
   refine AB (t := 15) rfl (fun c3 => ?_) (fun c3 => ?_)
   ·have h := An c3 h
    refine qn rfl (qn rfl (qn rfl (qu rfl (qu rfl (qn rfl (qp rfl (Ae ?_)))))))
    exact As _ h (sm [] _ _ rfl rfl)
   ·have h := Ao c3 h
    refine qf KT rfl (ql SI rfl (qm rfl ?_))
    refine AB (t := 18) rfl (fun c4 => ?_) (fun c4 => ?_)
    ·have h := An c4 h
     refine qL Iy EB rfl ?_
     obtain ⟨v5, a5, h⟩ := bind_some h
     refine AG [] (C9 N p1 v5 a5) RA rfl (qp rfl (qp rfl (Ae ?_)))
     exact As _ h (sm [] _ _ rfl rfl)
    ·have h := Ao c4 h
     refine qn rfl (qn rfl (qp rfl (qp rfl (Ae ?_))))
     exact As _ h (sm [] _ _ rfl rfl)
 ·refine Ap rfl (fun c6 => ?_) (fun c6 => ?_)
  ·have h := An c6 h
   refine Ab (Aa Ac rfl (qa rfl (Ae ?_)))
   obtain rfl := sj h
   refine Am (sm [] [(4, iD 1)] [] rfl rfl) (AA ?_)
   exact ⟨⟨[_], ⟨.tmp _ _ rfl, tv⟩, rfl⟩, tv⟩
  ·have h := Ao c6 h
   refine Aq (Ab (Aa Ac rfl (qf Cq rfl (ql Bs rfl (AR AN rfl (qa rfl (Ae (Ab ?_))))))))
   refine AL h (fun v7 => mk [(2, oD (.ptr 2 0)), (3, oD (.ptr 3 0)), (45, bD v7)] [(2, .box [sC (p0.fVersions.map Al), sC (p0.fNow.map Al), sC (p0.fTarget.map Al), sC (p0.fTables.map Ar)]), (3, .box [iC p1.fKind, iC p1.fFrom, iC p1.fTo, .pure (.val (.bool p1.fAware)), sC (p1.fOK.map (Fe eB)), sC (p1.fRewrite.map (Fe eB))])]) (fun j7 h => ?_) (fun v7 h => ?_)
   ·refine Aa Ac rfl (qf DZ rfl (ql Cz rfl (AY rfl (qm rfl ?_))))
    refine AB (t := 29) rfl (fun c8 => ?_) (fun c8 => ?_)
    ·have h := An c8 h
     refine qn rfl (qn rfl (qn rfl (qn rfl (qp rfl (qm rfl (qn rfl (qn rfl (qn rfl (qp rfl (qm rfl (qn rfl (qn rfl (qn rfl (qn rfl (qp rfl (Ae ?_))))))))))))))))
     exact As _ h (sm [] _ _ rfl rfl)
    ·have h := Ao c8 h
     refine qf DZ rfl (ql Cz rfl (qm rfl (Cv rfl (qp rfl (qm rfl ?_)))))
     refine AB (t := 35) rfl (fun c9 => ?_) (fun c9 => ?_)
     ·have h := An c9 h
      refine qn rfl (qn rfl (qn rfl (qp rfl (qm rfl (qn rfl (qn rfl (qn rfl (qn rfl (qp rfl (Ae ?_))))))))))
      exact As _ h (sm [] _ _ rfl rfl)
     ·have h := Ao c9 h
      refine qf Jj rfl (ql Cz rfl (AY rfl (qp rfl (qm rfl ?_))))
      refine AB (t := 40) rfl (fun c10 => ?_) (fun c10 => ?_)
      ·have h := An c10 h
       refine qn rfl (qn rfl (qn rfl (qn rfl (qp rfl (Ae ?_)))))
       exact As _ h (sm [] _ _ rfl rfl)
      ·have h := Ao c10 h
       refine qf Jj rfl (ql Cz rfl (qm rfl (Cv rfl (qp rfl (Ae ?_)))))
       exact As _ h (sm [] _ _ rfl rfl)
   ·refine Ap rfl (fun c11 => ?_) (fun c11 => ?_)
    ·have h := An c11 h
     refine Ab (Aa Ac rfl (qa rfl (Ae ?_)))
     obtain rfl := sj h
     refine Am (sm [] [(4, iD 4)] [] rfl rfl) (AA ?_)
     exact ⟨⟨[_], ⟨.tmp _ _ rfl, tv⟩, rfl⟩, tv⟩
    ·have h := Ao c11 h
     refine Aq (Ab (Ab (Aa Ac rfl (qf IB rfl (ql IP rfl (qf Cq rfl (ql Bs rfl (qf DZ rfl (ql Cz rfl ?_)))))))))
     obtain ⟨v12, a12, b12, h⟩ := Ak h
     refine qi AN DJ a12 (Af b12) rfl (qk Cz rfl (qf Cq rfl (ql Bs rfl (qf Jj rfl (ql Cz rfl ?_)))))
     obtain ⟨v13, a13, b13, h⟩ := Ak h
     refine qi AN DJ a13 (Af b13) rfl (qk Cz rfl ?_)
     obtain ⟨v14, a14, h⟩ := bind_some h
     refine AG [] (Id N p1.fOK v12 v13 v14 a14) We rfl (BS rfl (AC (by kernel_rfl) ?_))
     refine Ap rfl (fun c15 => ?_) (fun c15 => ?_)
     ·have h := An c15 h
      refine Ab (Aa Ac rfl (qa rfl (Ae ?_)))
      obtain rfl := sj h
      refine Am (sm [] [(4, iD 6)] [] rfl rfl) (AA ?_)
      exact ⟨⟨[_], ⟨.tmp _ _ rfl, tv⟩, rfl⟩, tv⟩
     ·have h := Ao c15 h
      refine Aq (Ab (Ab (Aa Ac rfl (qf GG rfl (ql Cz rfl (BP rfl (Ae ?_)))))))
      refine Ap rfl (fun c16 => ?_) (fun c16 => ?_)
      ·have h := An c16 h
       refine Ab (Ab (Aa Ac rfl (qf Ge rfl (ql IP rfl (AR F1 rfl (BP rfl (Ae ?_)))))))
       refine Ap rfl (fun c17 => ?_) (fun c17 => ?_)
       ·have h := An c17 h
        refine Ab (Aa Ac rfl (qa rfl (Ae ?_)))
        obtain rfl := sj h
        refine Am (sm [] [(4, iD 6)] [] rfl rfl) (AA ?_)
        exact ⟨⟨[_], ⟨.tmp _ _ rfl, tv⟩, rfl⟩, tv⟩
       ·have h := Ao c17 h
        refine Aq (Ab (Aa Ac rfl (qa rfl (Ae ?_))))
        obtain rfl := sj h
        refine Am (sm [] [(4, iD 0)] [] rfl rfl) (AA ?_)
        exact ⟨⟨[_], ⟨.tmp _ _ rfl, tv⟩, rfl⟩, tv⟩
      ·have h := Ao c16 h
       refine Aq (Ab (Ab (Aa Ac rfl (qf Ge rfl (ql IP rfl (qf Cq rfl (ql Bs rfl (qf DZ rfl (ql Cz rfl ?_)))))))))
       obtain ⟨v18, a18, b18, h⟩ := Ak h
       refine qi AN DJ a18 (Af b18) rfl (qk Cz rfl (qf Cq rfl (ql Bs rfl (qf DZ rfl (ql Cz rfl ?_)))))
       obtain ⟨v19, a19, b19, h⟩ := Ak h
       refine qi AN DJ a19 (Af b19) rfl (qk Cz rfl ?_)
       obtain ⟨v20, a20, h⟩ := bind_some h
       refine AG [] (Id N p1.fRewrite v18 v19 v20 a20) We rfl (BS rfl (AC (by kernel_rfl) ?_))
       refine Ap rfl (fun c21 => ?_) (fun c21 => ?_)
       ·have h := An c21 h
        refine Ab (Aa Ac rfl (qa rfl (Ae ?_)))
        obtain rfl := sj h
        refine Am (sm [] [(4, iD 6)] [] rfl rfl) (AA ?_)
        exact ⟨⟨[_], ⟨.tmp _ _ rfl, tv⟩, rfl⟩, tv⟩
       ·have h := Ao c21 h
        refine Aq (Ab (Ab (Aa Ac rfl (qa rfl (Ae ?_)))))
        refine AE (L := Ca N p1) h (fun v22 => mk [(3, oD (.ptr 3 0)), (6, iD v22)] [(3, .box [iC p1.fKind, iC p1.fFrom, iC p1.fTo, .pure (.val (.bool p1.fAware)), sC (p1.fOK.map (Fe eB)), sC (p1.fRewrite.map (Fe eB))])]) (fun v23 => mk [] []) (fun _ _ => rfl) (sm [] _ _ rfl rfl) (fun j22 n22 v22 h => ?_) (fun v23 s h hs => ?_)
        ·unfold Ca at h
         refine Ab (Ab (Aa Ac rfl (qm rfl (qf Ge rfl (ql IP rfl (AR F1 rfl (AY rfl (Ae ?_))))))))
         refine Ap rfl (fun c24 => ?_) (fun c24 => ?_)
         ·have h := An c24 h
          refine Aq (Ab (AJ (Ab (Aa Ac rfl (qf Ge rfl (ql IP rfl (qm rfl ?_)))))))
          obtain ⟨v25, a25, b25, h⟩ := Ak h
          refine qi F1 MZ a25 (Af b25) rfl (qk Ns rfl (qm rfl ?_))
          obtain ⟨v26, a26, b26, h⟩ := Ak h
          refine qi Ji VM a26 (Af b26) rfl (qk SI rfl (BS rfl (Ae ?_)))
          refine Ap rfl (fun c27 => ?_) (fun c27 => ?_)
          ·have h := An c27 h
           refine Ab (Aa Ac rfl (qa rfl (Ae ?_)))
           obtain rfl := sj h
           refine Am (sm [] [(4, iD 1)] [] rfl rfl) (AA ?_)
           exact ⟨⟨[_], ⟨.tmp _ _ rfl, tv⟩, rfl⟩, tv⟩
          ·have h := Ao c27 h
           refine Aq (Aa Ac rfl (qm rfl (AP rfl (qa rfl (Ae ?_)))))
           exact As _ h (sm [] _ _ rfl rfl)
         ·have h := Ao c24 h
          refine AQ ?_
          exact As _ h (sm [] _ _ rfl rfl)
        ·refine Am hs (Ab (Aa Ac rfl (qa rfl (Ae ?_))))
         obtain rfl := sj h
         refine Am (sm [] [(4, iD 0)] [] rfl rfl) (AA ?_)
         exact ⟨⟨[_], ⟨.tmp _ _ rfl, tv⟩, rfl⟩, tv⟩
theorem D4 (N : Nat) (p0 : Aj) (r : Int) (h : BA N p0 = some r) : AD Tryz.prog 35 [.e (.agg [sC (p0.fVersions.map Al), sC (p0.fNow.map Al), sC (p0.fTarget.map Al), sC (p0.fTables.map Ar)])] [] (iD r) := by
 unfold BA at h
 refine Au (n := 102) (rs := [.tmp 2]) Tryz.func35 rfl rfl rfl (A5 rfl) (A5 rfl) rfl fun w0 S0 => ?_
 refine Ab (Aa Ac rfl (qb rfl (qa rfl (Ae (Ab ?_)))))
 refine AL h (fun v1 => mk [(1, oD (.ptr 1 0)), (16, bD v1)] [(1, .box [sC (p0.fVersions.map Al), sC (p0.fNow.map Al), sC (p0.fTarget.map Al), sC (p0.fTables.map Ar)])]) (fun j1 h => ?_) (fun v1 h => ?_)
 ·refine Aa Ac rfl (qf Cq rfl (ql Bs rfl (AR AN rfl (DC rfl (qm rfl ?_)))))
  refine AB (t := 11) rfl (fun c2 => ?_) (fun c2 => ?_)
  ·have h := An c2 h
   refine qn rfl (qn rfl (qn rfl (qn rfl (qp rfl (Ae ?_)))))
   exact As _ h (sm [] _ _ rfl rfl)
  ·have h := Ao c2 h
   refine qf CI rfl (ql GQ rfl (AR D6 rfl (DC rfl (qp rfl (Ae ?_)))))
   exact As _ h (sm [] _ _ rfl rfl)
 ·refine Ap rfl (fun c3 => ?_) (fun c3 => ?_)
  ·have h := An c3 h
   refine Ab (Aa Ac rfl (qa rfl (Ae ?_)))
   obtain rfl := sj h
   refine Am (sm [] [(2, iD 3)] [] rfl rfl) (AA ?_)
   exact ⟨⟨[_], ⟨.tmp _ _ rfl, tv⟩, rfl⟩, tv⟩
  ·have h := Ao c3 h
   refine Aq (Ab ?_)
   refine AL h (fun v4 => mk [(1, oD (.ptr 1 0)), (32, bD v4)] [(1, .box [sC (p0.fVersions.map Al), sC (p0.fNow.map Al), sC (p0.fTarget.map Al), sC (p0.fTables.map Ar)])]) (fun j4 h => ?_) (fun v4 h => ?_)
   ·refine Aa Ac rfl (qf Iv rfl (ql Bs rfl (AR AN rfl (qf Cq rfl (ql Bs rfl (AR AN rfl (BP rfl (qm rfl ?_))))))))
    refine AB (t := 24) rfl (fun c5 => ?_) (fun c5 => ?_)
    ·have h := An c5 h
     refine qn rfl (qn rfl (qn rfl (qn rfl (qn rfl (qn rfl (qn rfl (qp rfl (Ae ?_))))))))
     exact As _ h (sm [] _ _ rfl rfl)
    ·have h := Ao c5 h
     refine qf H3 rfl (ql Bs rfl (AR AN rfl (qf Cq rfl (ql Bs rfl (AR AN rfl (BP rfl (qp rfl (Ae ?_))))))))
     exact As _ h (sm [] _ _ rfl rfl)
   ·refine Ap rfl (fun c6 => ?_) (fun c6 => ?_)
    ·have h := An c6 h
     refine Ab (Aa Ac rfl (qa rfl (Ae ?_)))
     obtain rfl := sj h
     refine Am (sm [] [(2, iD 6)] [] rfl rfl) (AA ?_)
     exact ⟨⟨[_], ⟨.tmp _ _ rfl, tv⟩, rfl⟩, tv⟩
    ·have h := Ao c6 h
     refine Aq (Ab (Ab (Aa Ac rfl (qa rfl (Ae ?_)))))
     refine AE (L := By N p0) h (fun v7 => mk [(1, oD (.ptr 1 0)), (3, iD v7)] [(1, .box [sC (p0.fVersions.map Al), sC (p0.fNow.map Al), sC (p0.fTarget.map Al), sC (p0.fTables.map Ar)])]) (fun v8 => mk [(1, oD (.ptr 1 0))] [(1, .box [sC (p0.fVersions.map Al), sC (p0.fNow.map Al), sC (p0.fTarget.map Al), sC (p0.fTables.map Ar)])]) (fun _ _ => rfl) (sm [] _ _ rfl rfl) (fun j7 n7 v7 h => ?_) (fun v8 s h hs => ?_)
     ·unfold By at h
      refine Ab (Ab (Aa Ac rfl (qm rfl (qf Cq rfl (ql Bs rfl (AR AN rfl (AY rfl (Ae ?_))))))))
      refine Ap rfl (fun c9 => ?_) (fun c9 => ?_)
      ·have h := An c9 h
       refine Aq (Ab (AJ (Ab (Aa Ac rfl (qf Cq rfl (ql Bs rfl (qm rfl ?_)))))))
       obtain ⟨v10, a10, b10, h⟩ := Ak h
       refine qi AN DJ a10 (Af b10) rfl (qk Cz rfl (qa rfl (Ae ?_)))
       refine AL h (fun v11 => mk [(1, oD (.ptr 1 0)), (3, iD v7), (84, bD v11)] [(1, .box [sC (p0.fVersions.map Al), sC (p0.fNow.map Al), sC (p0.fTarget.map Al), sC (p0.fTables.map Ar)])]) (fun j11 h => ?_) (fun v11 h => ?_)
       ·refine Aa Ac rfl (qm rfl (AY rfl (qm rfl ?_)))
        refine AB (t := 47) rfl (fun c12 => ?_) (fun c12 => ?_)
        ·have h := An c12 h
         refine qn rfl (qn rfl (qp rfl (qm rfl (qn rfl (qn rfl (qn rfl (qn rfl (qn rfl (qn rfl (qp rfl (qm rfl (qn rfl (qn rfl (qn rfl (qn rfl (qn rfl (qn rfl (qn rfl (qp rfl (qm rfl (qn rfl (qn rfl (qn rfl (qn rfl (qn rfl (qn rfl (qp rfl (qm rfl (qn rfl (qn rfl (qn rfl (qn rfl (qn rfl (qn rfl (qn rfl (qp rfl (Ae ?_)))))))))))))))))))))))))))))))))))))
         exact As _ h (sm [] _ _ rfl rfl)
        ·have h := Ao c12 h
         refine qm rfl (DC rfl (qp rfl (qm rfl ?_)))
         refine AB (t := 51) rfl (fun c13 => ?_) (fun c13 => ?_)
         ·have h := An c13 h
          refine qn rfl (qn rfl (qn rfl (qn rfl (qn rfl (qn rfl (qp rfl (qm rfl (qn rfl (qn rfl (qn rfl (qn rfl (qn rfl (qn rfl (qn rfl (qp rfl (qm rfl (qn rfl (qn rfl (qn rfl (qn rfl (qn rfl (qn rfl (qp rfl (qm rfl (qn rfl (qn rfl (qn rfl (qn rfl (qn rfl (qn rfl (qn rfl (qp rfl (Ae ?_)))))))))))))))))))))))))))))))))
          exact As _ h (sm [] _ _ rfl rfl)
         ·have h := Ao c13 h
          refine qf Iv rfl (ql Bs rfl (qm rfl ?_))
          obtain ⟨v14, a14, b14, h⟩ := Ak h
          refine qi AN DJ a14 (Af b14) rfl (qk Cz rfl (AY rfl (qp rfl (qm rfl ?_))))
          refine AB (t := 59) rfl (fun c15 => ?_) (fun c15 => ?_)
          ·have h := An c15 h
           refine qn rfl (qn rfl (qn rfl (qn rfl (qn rfl (qn rfl (qn rfl (qp rfl (qm rfl (qn rfl (qn rfl (qn rfl (qn rfl (qn rfl (qn rfl (qp rfl (qm rfl (qn rfl (qn rfl (qn rfl (qn rfl (qn rfl (qn rfl (qn rfl (qp rfl (Ae ?_)))))))))))))))))))))))))
           exact As _ h (sm [] _ _ rfl rfl)
          ·have h := Ao c15 h
           refine qf Iv rfl (ql Bs rfl (qm rfl ?_))
           obtain ⟨v16, a16, b16, h⟩ := Ak h
           refine qi AN DJ a16 (Af b16) rfl (qk Cz rfl (qm rfl (Cv rfl (qp rfl (qm rfl ?_)))))
           refine AB (t := 68) rfl (fun c17 => ?_) (fun c17 => ?_)
           ·have h := An c17 h
            refine qn rfl (qn rfl (qn rfl (qn rfl (qn rfl (qn rfl (qp rfl (qm rfl (qn rfl (qn rfl (qn rfl (qn rfl (qn rfl (qn rfl (qn rfl (qp rfl (Ae ?_))))))))))))))))
            exact As _ h (sm [] _ _ rfl rfl)
           ·have h := Ao c17 h
            refine qf H3 rfl (ql Bs rfl (qm rfl ?_))
            obtain ⟨v18, a18, b18, h⟩ := Ak h
            refine qi AN DJ a18 (Af b18) rfl (qk Cz rfl (AY rfl (qp rfl (qm rfl ?_))))
            refine AB (t := 76) rfl (fun c19 => ?_) (fun c19 => ?_)
            ·have h := An c19 h
             refine qn rfl (qn rfl (qn rfl (qn rfl (qn rfl (qn rfl (qn rfl (qp rfl (Ae ?_))))))))
             exact As _ h (sm [] _ _ rfl rfl)
            ·have h := Ao c19 h
             refine qf H3 rfl (ql Bs rfl (qm rfl ?_))
             obtain ⟨v20, a20, b20, h⟩ := Ak h
             refine qi AN DJ a20 (Af b20) rfl (qk Cz rfl (qm rfl (Cv rfl (qp rfl (Ae ?_)))))
             exact As _ h (sm [] _ _ rfl rfl)
       ·refine Ap rfl (fun c21 => ?_) (fun c21 => ?_)
        ·have h := An c21 h
         refine Ab (Aa Ac rfl (qa rfl (Ae ?_)))
         obtain rfl := sj h
         refine Am (sm [] [(2, iD 7)] [] rfl rfl) (AA ?_)
         exact ⟨⟨[_], ⟨.tmp _ _ rfl, tv⟩, rfl⟩, tv⟩
        ·have h := Ao c21 h
         refine Aq (Aa Ac rfl (qm rfl (AP rfl (qa rfl (Ae ?_)))))
         exact As _ h (sm [] _ _ rfl rfl)
      ·have h := Ao c9 h
       refine AQ ?_
       exact As _ h (sm [] _ _ rfl rfl)
     ·refine Am hs (Ab (Ab (Aa Ac rfl (qa rfl (Ae ?_)))))
      refine AE (L := Bv N p0) h (fun v22 => mk [(1, oD (.ptr 1 0)), (5, iD v22)] [(1, .box [sC (p0.fVersions.map Al), sC (p0.fNow.map Al), sC (p0.fTarget.map Al), sC (p0.fTables.map Ar)])]) (fun v23 => mk [] []) (fun _ _ => rfl) (sm [] _ _ rfl rfl) (fun j22 n22 v22 h => ?_) (fun v23 s h hs => ?_)
      ·unfold Bv at h
       refine Ab (Ab (Aa Ac rfl (qm rfl (qf CI rfl (ql GQ rfl (AR D6 rfl (AY rfl (Ae ?_))))))))
       refine Ap rfl (fun c24 => ?_) (fun c24 => ?_)
       ·have h := An c24 h
        refine Aq (Ab (AJ (Ab (Aa Ac rfl (qL Di Da rfl (qf CI rfl (ql GQ rfl (qm rfl ?_))))))))
        obtain ⟨v25, a25, b25, h⟩ := Ak h
        refine qi D6 EB a25 (Af b25) rfl (qK Iy EB rfl ?_)
        obtain ⟨v26, a26, h⟩ := bind_some h
        refine AG [] (KU N p0 v25 v26 a26) ZF rfl (qa rfl (AC (by kernel_rfl) (Ab (Aa Ac rfl (qm rfl (BP rfl (Ae ?_)))))))
        refine Ap rfl (fun c27 => ?_) (fun c27 => ?_)
        ·have h := An c27 h
         refine Ab (Aa Ac rfl (qm rfl (qa rfl (Ae ?_))))
         obtain rfl := sj h
         refine Am (sm [] [(2, iD v26)] [] rfl rfl) (AA ?_)
         exact ⟨⟨[_], ⟨.tmp _ _ rfl, tv⟩, rfl⟩, tv⟩
        ·have h := Ao c27 h
         refine Aq (Aa Ac rfl (qm rfl (AP rfl (qa rfl (Ae ?_)))))
         exact As _ h (sm [] _ _ rfl rfl)
       ·have h := Ao c24 h
        refine AQ ?_
        exact As _ h (sm [] _ _ rfl rfl)
      ·refine Am hs (Ab (Aa Ac rfl (qa rfl (Ae ?_))))
       obtain rfl := sj h
       refine Am (sm [] [(2, iD 0)] [] rfl rfl) (AA ?_)
       exact ⟨⟨[_], ⟨.tmp _ _ rfl, tv⟩, rfl⟩, tv⟩
theorem Ec (N : Nat) (p0 : Ag) (p1 : Int) (r : Int) (h : B4 N p0 p1 = some r) : AD Tryz.prog 54 [.e (.agg [sC (p0.fBase.map Al), sC (p0.fNext.map Al), sC (p0.fHeld.map Bw)]), iD p1] [] (pD (.val (.int .u8 r))) := by
 unfold B4 at h
 refine Au (n := 27) (rs := [.tmp 4]) Tryz.func54 rfl rfl rfl (A5 rfl) (A5 rfl) rfl fun w0 S0 => ?_
 refine Ab (Aa Ac rfl (qb rfl (qa rfl (Ae (Ab (Aa Ac rfl (qf CO rfl (ql Bs rfl (qm rfl ?_)))))))))
 obtain ⟨v1, a1, b1, h⟩ := Ak h
 refine qi AN DJ a1 (Af b1) rfl (qk Cz rfl ?_)
 obtain ⟨c2, h⟩ := Ba h
 refine Ir rfl c2 (qa rfl (Ae ?_))
 refine AL h (fun v3 => mk [(5, pD (.val (.int .u8 v3)))] []) (fun j3 h => ?_) (fun v3 h => ?_)
 ·refine Ab (Aa Ac rfl (qf BK rfl (ql Bs rfl (qm rfl ?_))))
  obtain ⟨v4, a4, b4, h⟩ := Ak h
  refine qi AN DJ a4 (Af b4) rfl (qk Cz rfl (Cv rfl (Ae ?_)))
  refine Ap rfl (fun c5 => ?_) (fun c5 => ?_)
  ·have h := An c5 h
   refine Aa Ac rfl (qm rfl (qf BK rfl (ql Bs rfl (qm rfl ?_))))
   obtain ⟨v6, a6, b6, h⟩ := Ak h
   refine qi AN DJ a6 (Af b6) rfl (qk Cz rfl ?_)
   obtain ⟨c7, h⟩ := Ba h
   refine Ir rfl c7 (Ug rfl (qa rfl (Ae ?_)))
   exact As _ h (sm [] _ _ rfl rfl)
  ·have h := Ao c5 h
   refine Aq ?_
   exact As _ h (sm [] _ _ rfl rfl)
 ·refine Ab (Aa Ac rfl (qm rfl (qa rfl (Ae ?_))))
  obtain rfl := sj h
  refine Am (sm [] [(4, pD (.val (.int .u8 v3)))] [] rfl rfl) (AA ?_)
  exact ⟨⟨[_], ⟨.tmp _ _ rfl, tv⟩, rfl⟩, tv⟩
theorem GO (N : Nat) (p0 : Aj) (p1 : Ag) (r : Int) (h : Dc N p0 p1 = some r) : AD Tryz.prog 82 [.e (.agg [sC (p0.fVersions.map Al), sC (p0.fNow.map Al), sC (p0.fTarget.map Al), sC (p0.fTables.map Ar)]), .e (.agg [sC (p1.fBase.map Al), sC (p1.fNext.map Al), sC (p1.fHeld.map Bw)])] [] (iD r) := by
 unfold Dc at h
 refine Au (n := 154) (rs := [.tmp 4]) Tryz.func82 rfl rfl rfl (A5 rfl) (A5 rfl) rfl fun w0 S0 => ?_
 refine Ab (Aa Ac rfl (qb rfl (qb rfl (qa rfl (Ae (Ab (Ab (Aa Ac rfl (qL Di Da rfl ?_)))))))))
 obtain ⟨v1, a1, h⟩ := bind_some h
 refine AG [] (D4 N p0 v1 a1) Vp rfl (qa rfl (Ae (Ab (Aa Ac rfl (qm rfl (BP rfl (Ae ?_)))))))
 refine Ap rfl (fun c2 => ?_) (fun c2 => ?_)
 ·have h := An c2 h
  refine Ab (Aa Ac rfl (qm rfl (qa rfl (Ae ?_))))
  obtain rfl := sj h
  refine Am (sm [] [(4, iD v1)] [] rfl rfl) (AA ?_)
  exact ⟨⟨[_], ⟨.tmp _ _ rfl, tv⟩, rfl⟩, tv⟩
 ·have h := Ao c2 h
  refine Aq (Ab (Aa Ac rfl (qf Cq rfl (ql Bs rfl (AR AN rfl (qa rfl (Ae (Ab ?_))))))))
  refine AL h (fun v3 => mk [(2, oD (.ptr 2 0)), (3, oD (.ptr 3 0)), (6, iD ((p0.fVersions.length : Int))), (39, bD v3)] [(2, .box [sC (p0.fVersions.map Al), sC (p0.fNow.map Al), sC (p0.fTarget.map Al), sC (p0.fTables.map Ar)]), (3, .box [sC (p1.fBase.map Al), sC (p1.fNext.map Al), sC (p1.fHeld.map Bw)])]) (fun j3 h => ?_) (fun v3 h => ?_)
  ·refine Aa Ac rfl (qf CO rfl (ql Bs rfl (AR AN rfl (qm rfl (BP rfl (qm rfl ?_))))))
   refine AB (t := 24) rfl (fun c4 => ?_) (fun c4 => ?_)
   ·have h := An c4 h
    refine qn rfl (qn rfl (qn rfl (qn rfl (qn rfl (qp rfl (qm rfl (qn rfl (qn rfl (qn rfl (qn rfl (qn rfl (qn rfl (qn rfl (qp rfl (Ae ?_)))))))))))))))
    exact As _ h (sm [] _ _ rfl rfl)
   ·have h := Ao c4 h
    refine qf BK rfl (ql Bs rfl (AR AN rfl (qm rfl (BP rfl (qp rfl (qm rfl ?_))))))
    refine AB (t := 31) rfl (fun c5 => ?_) (fun c5 => ?_)
    ·have h := An c5 h
     refine qn rfl (qn rfl (qn rfl (qn rfl (qn rfl (qn rfl (qn rfl (qp rfl (Ae ?_))))))))
     exact As _ h (sm [] _ _ rfl rfl)
    ·have h := Ao c5 h
     refine qf CM rfl (ql G5 rfl (AR Dj rfl (qf CI rfl (ql GQ rfl (AR D6 rfl (BP rfl (qp rfl (Ae ?_))))))))
     exact As _ h (sm [] _ _ rfl rfl)
  ·refine Ap rfl (fun c6 => ?_) (fun c6 => ?_)
   ·have h := An c6 h
    refine Ab (Aa Ac rfl (qa rfl (Ae ?_)))
    obtain rfl := sj h
    refine Am (sm [] [(4, iD 6)] [] rfl rfl) (AA ?_)
    exact ⟨⟨[_], ⟨.tmp _ _ rfl, tv⟩, rfl⟩, tv⟩
   ·have h := Ao c6 h
    refine Aq (Ab (Ab (Aa Ac rfl (qa rfl (Ae ?_)))))
    refine AE (L := Cn N p0 p1) h (fun v7 => mk [(2, oD (.ptr 2 0)), (3, oD (.ptr 3 0)), (6, iD ((p0.fVersions.length : Int))), (7, iD v7)] [(2, .box [sC (p0.fVersions.map Al), sC (p0.fNow.map Al), sC (p0.fTarget.map Al), sC (p0.fTables.map Ar)]), (3, .box [sC (p1.fBase.map Al), sC (p1.fNext.map Al), sC (p1.fHeld.map Bw)])]) (fun v8 => mk [(2, oD (.ptr 2 0)), (3, oD (.ptr 3 0))] [(2, .box [sC (p0.fVersions.map Al), sC (p0.fNow.map Al), sC (p0.fTarget.map Al), sC (p0.fTables.map Ar)]), (3, .box [sC (p1.fBase.map Al), sC (p1.fNext.map Al), sC (p1.fHeld.map Bw)])]) (fun _ _ => rfl) (sm [] _ _ rfl rfl) (fun j7 n7 v7 h => ?_) (fun v8 s h hs => ?_)
    ·unfold Cn at h
     refine Ab (Ab (Aa Ac rfl (qm rfl (qm rfl (AY rfl (Ae ?_))))))
     refine Ap rfl (fun c9 => ?_) (fun c9 => ?_)
     ·have h := An c9 h
      refine Aq (Ab (AJ (Ab ?_)))
      refine AL h (fun v10 => mk [(2, oD (.ptr 2 0)), (3, oD (.ptr 3 0)), (6, iD ((p0.fVersions.length : Int))), (7, iD v7), (84, bD v10)] [(2, .box [sC (p0.fVersions.map Al), sC (p0.fNow.map Al), sC (p0.fTarget.map Al), sC (p0.fTables.map Ar)]), (3, .box [sC (p1.fBase.map Al), sC (p1.fNext.map Al), sC (p1.fHeld.map Bw)])]) (fun j10 h => ?_) (fun v10 h => ?_)
      ·refine Aa Ac rfl (qf CO rfl (ql Bs rfl (qm rfl ?_)))
       obtain ⟨v11, a11, b11, h⟩ := Ak h
       refine qi AN DJ a11 (Af b11) rfl (qk Cz rfl (AY rfl (qm rfl ?_)))
       refine AB (t := 51) rfl (fun c12 => ?_) (fun c12 => ?_)
       ·have h := An c12 h
        refine qn rfl (qn rfl (qn rfl (qn rfl (qn rfl (qn rfl (qn rfl (qn rfl (qn rfl (qn rfl (qn rfl (qp rfl (qm rfl (qn rfl (qn rfl (qn rfl (qn rfl (qn rfl (qn rfl (qp rfl (qm rfl (qn rfl (qn rfl (qn rfl (qn rfl (qn rfl (qn rfl (qn rfl (qn rfl (qn rfl (qn rfl (qn rfl (qp rfl (AC (by kernel_rfl) ?_)))))))))))))))))))))))))))))))))
        exact As _ h (sm [] _ _ rfl rfl)
       ·have h := Ao c12 h
        refine qf CO rfl (ql Bs rfl (qm rfl ?_))
        obtain ⟨v13, a13, b13, h⟩ := Ak h
        refine qi AN DJ a13 (Af b13) rfl (qk Cz rfl (qf Cq rfl (ql Bs rfl (qm rfl ?_))))
        obtain ⟨v14, a14, b14, h⟩ := Ak h
        refine qi AN DJ a14 (Af b14) rfl (qk Cz rfl (Cv rfl (qp rfl (qm rfl ?_))))
        refine AB (t := 64) rfl (fun c15 => ?_) (fun c15 => ?_)
        ·have h := An c15 h
         refine qn rfl (qn rfl (qn rfl (qn rfl (qn rfl (qn rfl (qp rfl (qm rfl (qn rfl (qn rfl (qn rfl (qn rfl (qn rfl (qn rfl (qn rfl (qn rfl (qn rfl (qn rfl (qn rfl (qp rfl (AC (by kernel_rfl) ?_))))))))))))))))))))
         exact As _ h (sm [] _ _ rfl rfl)
        ·have h := Ao c15 h
         refine qf BK rfl (ql Bs rfl (qm rfl ?_))
         obtain ⟨v16, a16, b16, h⟩ := Ak h
         refine qi AN DJ a16 (Af b16) rfl (qk Cz rfl (AY rfl (qp rfl (qm rfl ?_))))
         refine AB (t := 72) rfl (fun c17 => ?_) (fun c17 => ?_)
         ·have h := An c17 h
          refine qn rfl (qn rfl (qn rfl (qn rfl (qn rfl (qn rfl (qn rfl (qn rfl (qn rfl (qn rfl (qn rfl (qp rfl (AC (by kernel_rfl) ?_))))))))))))
          exact As _ h (sm [] _ _ rfl rfl)
         ·have h := Ao c17 h
          refine qf BK rfl (ql Bs rfl (qm rfl ?_))
          obtain ⟨v18, a18, b18, h⟩ := Ak h
          refine qi AN DJ a18 (Af b18) rfl (qk Cz rfl (qf Cq rfl (ql Bs rfl (qm rfl ?_))))
          obtain ⟨v19, a19, b19, h⟩ := Ak h
          refine qi AN DJ a19 (Af b19) rfl (qk Cz rfl (Cv rfl (qp rfl (AC (by kernel_rfl) ?_))))
          exact As _ h (sm [] _ _ rfl rfl)
      ·refine Ap rfl (fun c20 => ?_) (fun c20 => ?_)
       ·have h := An c20 h
        refine Ab (Aa Ac rfl (qa rfl (Ae ?_)))
        obtain rfl := sj h
        refine Am (sm [] [(4, iD 7)] [] rfl rfl) (AA ?_)
        exact ⟨⟨[_], ⟨.tmp _ _ rfl, tv⟩, rfl⟩, tv⟩
       ·have h := Ao c20 h
        refine Aq (Ab (Aa Ac rfl (qf CO rfl (ql Bs rfl (qm rfl ?_)))))
        obtain ⟨v21, a21, b21, h⟩ := Ak h
        refine qi AN DJ a21 (Af b21) rfl (qk Cz rfl (qf BK rfl (ql Bs rfl (qm rfl ?_))))
        obtain ⟨v22, a22, b22, h⟩ := Ak h
        refine qi AN DJ a22 (Af b22) rfl (qk Cz rfl (BQ rfl (AC (by kernel_rfl) ?_)))
        refine Ap rfl (fun c23 => ?_) (fun c23 => ?_)
        ·have h := An c23 h
         refine Ab (Aa Ac rfl (qa rfl (Ae ?_)))
         obtain rfl := sj h
         refine Am (sm [] [(4, iD 1)] [] rfl rfl) (AA ?_)
         exact ⟨⟨[_], ⟨.tmp _ _ rfl, tv⟩, rfl⟩, tv⟩
        ·have h := Ao c23 h
         refine Aq (Aa Ac rfl (qm rfl (AP rfl (qa rfl (Ae ?_)))))
         exact As _ h (sm [] _ _ rfl rfl)
     ·have h := Ao c9 h
      refine AQ ?_
      exact As _ h (sm [] _ _ rfl rfl)
    ·refine Am hs (Ab (Ab (Aa Ac rfl (qa rfl (Ae ?_)))))
     refine AE (L := B9 N p0 p1) h (fun v24 => mk [(2, oD (.ptr 2 0)), (3, oD (.ptr 3 0)), (8, iD v24)] [(2, .box [sC (p0.fVersions.map Al), sC (p0.fNow.map Al), sC (p0.fTarget.map Al), sC (p0.fTables.map Ar)]), (3, .box [sC (p1.fBase.map Al), sC (p1.fNext.map Al), sC (p1.fHeld.map Bw)])]) (fun v25 => mk [] []) (fun _ _ => rfl) (sm [] _ _ rfl rfl) (fun j24 n24 v24 h => ?_) (fun v25 s h hs => ?_)
     ·unfold B9 at h
      refine Ab (Ab (Aa Ac rfl (qm rfl (qf CI rfl (ql GQ rfl (AR D6 rfl (AY rfl (Ae ?_))))))))
      refine Ap rfl (fun c26 => ?_) (fun c26 => ?_)
      ·have h := An c26 h
       refine Aq (Ab (AJ (Ab (Aa Ac rfl (qf CI rfl (ql GQ rfl (qm rfl ?_)))))))
       obtain ⟨v27, a27, b27, h⟩ := Ak h
       refine qi D6 EB a27 (Af b27) rfl (qK Iy EB rfl (qz NA rfl (qs EB rfl (Ae (Ab (Aa Ac rfl (qf Cq rfl (ql Bs rfl (qf DZ rfl (ql Cz rfl ?_))))))))))
       obtain ⟨v28, a28, b28, h⟩ := Ak h
       refine qi AN DJ a28 (Af b28) rfl (qk Cz rfl ?_)
       obtain ⟨c29, h⟩ := Ba h
       refine Ir rfl c29 (Bm rfl (qa rfl (Ae ?_)))
       refine AL h (fun v30 => mk [(2, oD (.ptr 2 0)), (3, oD (.ptr 3 0)), (8, iD v24), (153, bD v30)] [(2, .box [sC (p0.fVersions.map Al), sC (p0.fNow.map Al), sC (p0.fTarget.map Al), sC (p0.fTables.map Ar)]), (3, .box [sC (p1.fBase.map Al), sC (p1.fNext.map Al), sC (p1.fHeld.map Bw)])]) (fun j30 h => ?_) (fun v30 h => ?_)
       ·refine Aa Ac rfl (qL Iy EB rfl ?_)
        obtain ⟨v31, a31, h⟩ := bind_some h
        refine AG [] (C9 N v27 v31 a31) RA rfl (BS rfl (qm rfl ?_))
        refine AB (t := 119) rfl (fun c32 => ?_) (fun c32 => ?_)
        ·have h := An c32 h
         refine qf CM rfl (ql G5 rfl (qm rfl ?_))
         obtain ⟨v33, a33, b33, h⟩ := Ak h
         refine qi Dj FW a33 (Af b33) rfl (qk JZ rfl (BP rfl (qp rfl (qm rfl ?_))))
         refine AB (t := 127) rfl (fun c34 => ?_) (fun c34 => ?_)
         ·have h := An c34 h
          refine qn rfl (qn rfl (qn rfl (qu rfl (qu rfl (qu rfl (qu rfl (qu rfl (qu rfl (qu rfl (qu rfl (qu rfl (qu rfl (qu rfl (qu rfl (qu rfl (qu rfl (qu rfl (qu rfl (qu rfl (qu rfl (qu rfl (qu rfl (qu rfl (qn rfl (qp rfl (AC (by kernel_rfl) ?_))))))))))))))))))))))))))
          exact As _ h (sm [] _ _ rfl rfl)
         ·have h := Ao c34 h
          refine qL Iy EB rfl ?_
          obtain ⟨v35, a35, h⟩ := bind_some h
          refine AG [] (C9 N v27 v35 a35) RA rfl (qm rfl ?_)
          refine AB (t := 130) rfl (fun c36 => ?_) (fun c36 => ?_)
          ·have h := An c36 h
           refine qf CM rfl (ql G5 rfl (qm rfl ?_))
           obtain ⟨v37, a37, b37, h⟩ := Ak h
           refine qi Dj FW a37 (Af b37) rfl (qk JZ rfl (qm rfl (IN rfl (BP rfl (qm rfl ?_)))))
           refine AB (t := 139) rfl (fun c38 => ?_) (fun c38 => ?_)
           ·have h := An c38 h
            refine qn rfl (qn rfl (qn rfl (qn rfl (qn rfl (qn rfl (qn rfl (qn rfl (qn rfl (qn rfl (qn rfl (qp rfl (qp rfl (qp rfl (AC (by kernel_rfl) ?_))))))))))))))
            exact As _ h (sm [] _ _ rfl rfl)
           ·have h := Ao c38 h
            refine qL A4 Az rfl (qf DZ rfl (ql Cz rfl ?_))
            obtain ⟨v39, a39, h⟩ := bind_some h
            refine AG [] (Ec N p1 v27.fFrom v39 a39) Uz rfl (qf CM rfl (ql G5 rfl (qm rfl ?_)))
            obtain ⟨v40, a40, b40, h⟩ := Ak h
            refine qi Dj FW a40 (Af b40) rfl (qk JZ rfl (IN rfl (BP rfl (qp rfl (qp rfl (qp rfl (AC (by kernel_rfl) ?_)))))))
            exact As _ h (sm [] _ _ rfl rfl)
          ·have h := Ao c36 h
           refine qn rfl (qn rfl (qn rfl (qn rfl (qn rfl (qn rfl (qn rfl (qn rfl (qn rfl (qu rfl (qu rfl (qu rfl (qu rfl (qu rfl (qu rfl (qu rfl (qu rfl (qu rfl (qu rfl (qu rfl (qn rfl (qp rfl (qp rfl (AC (by kernel_rfl) ?_)))))))))))))))))))))))
           exact As _ h (sm [] _ _ rfl rfl)
        ·have h := Ao c32 h
         refine qn rfl (qn rfl (qn rfl (qn rfl (qn rfl (qn rfl (qp rfl (qm rfl (qL Iy EB rfl ?_))))))))
         obtain ⟨v41, a41, h⟩ := bind_some h
         refine AG [] (C9 N v27 v41 a41) RA rfl (qm rfl ?_)
         refine AB (t := 130) rfl (fun c42 => ?_) (fun c42 => ?_)
         ·have h := An c42 h
          refine qf CM rfl (ql G5 rfl (qm rfl ?_))
          obtain ⟨v43, a43, b43, h⟩ := Ak h
          refine qi Dj FW a43 (Af b43) rfl (qk JZ rfl (qm rfl (IN rfl (BP rfl (qm rfl ?_)))))
          refine AB (t := 139) rfl (fun c44 => ?_) (fun c44 => ?_)
          ·have h := An c44 h
           refine qn rfl (qn rfl (qn rfl (qn rfl (qn rfl (qn rfl (qn rfl (qn rfl (qn rfl (qn rfl (qn rfl (qp rfl (qp rfl (qp rfl (AC (by kernel_rfl) ?_))))))))))))))
           exact As _ h (sm [] _ _ rfl rfl)
          ·have h := Ao c44 h
           refine qL A4 Az rfl (qf DZ rfl (ql Cz rfl ?_))
           obtain ⟨v45, a45, h⟩ := bind_some h
           refine AG [] (Ec N p1 v27.fFrom v45 a45) Uz rfl (qf CM rfl (ql G5 rfl (qm rfl ?_)))
           obtain ⟨v46, a46, b46, h⟩ := Ak h
           refine qi Dj FW a46 (Af b46) rfl (qk JZ rfl (IN rfl (BP rfl (qp rfl (qp rfl (qp rfl (AC (by kernel_rfl) ?_)))))))
           exact As _ h (sm [] _ _ rfl rfl)
         ·have h := Ao c42 h
          refine qn rfl (qn rfl (qn rfl (qn rfl (qn rfl (qn rfl (qn rfl (qn rfl (qn rfl (qu rfl (qu rfl (qu rfl (qu rfl (qu rfl (qu rfl (qu rfl (qu rfl (qu rfl (qu rfl (qu rfl (qn rfl (qp rfl (qp rfl (AC (by kernel_rfl) ?_)))))))))))))))))))))))
          exact As _ h (sm [] _ _ rfl rfl)
       ·refine Ap rfl (fun c47 => ?_) (fun c47 => ?_)
        ·have h := An c47 h
         refine Ab (Aa Ac rfl (qa rfl (Ae ?_)))
         obtain rfl := sj h
         refine Am (sm [] [(4, iD 1)] [] rfl rfl) (AA ?_)
         exact ⟨⟨[_], ⟨.tmp _ _ rfl, tv⟩, rfl⟩, tv⟩
        ·have h := Ao c47 h
         refine Aq (Aa Ac rfl (qm rfl (AP rfl (qa rfl (Ae ?_)))))
         exact As _ h (sm [] _ _ rfl rfl)
      ·have h := Ao c26 h
       refine AQ ?_
       exact As _ h (sm [] _ _ rfl rfl)
     ·refine Am hs (Ab (Aa Ac rfl (qa rfl (Ae ?_))))
      obtain rfl := sj h
      refine Am (sm [] [(4, iD 0)] [] rfl rfl) (AA ?_)
      exact ⟨⟨[_], ⟨.tmp _ _ rfl, tv⟩, rfl⟩, tv⟩
theorem Is (N : Nat) (p0 : Aj) (p1 : List Ag) (r : Int) (h : DV N p0 p1 = some r) : AD Tryz.prog 56 [.e (.agg [sC (p0.fVersions.map Al), sC (p0.fNow.map Al), sC (p0.fTarget.map Al), sC (p0.fTables.map Ar)]), pD (.sl (p1.map Ai))] [] (iD r) := by
 unfold DV at h
 refine Au (n := 28) (rs := [.tmp 4]) Tryz.func56 rfl rfl rfl (A5 rfl) (A5 rfl) rfl fun w0 S0 => ?_
 refine Ab (Aa Ac rfl (qb rfl (qa rfl (Ae (Ab (Ab (Aa Ac rfl (qL Di Da rfl ?_))))))))
 obtain ⟨v1, a1, h⟩ := bind_some h
 refine AG [] (D4 N p0 v1 a1) Vp rfl (qa rfl (Ae (Ab (Aa Ac rfl (qm rfl (BP rfl (Ae ?_)))))))
 refine Ap rfl (fun c2 => ?_) (fun c2 => ?_)
 ·have h := An c2 h
  refine Ab (Aa Ac rfl (qm rfl (qa rfl (Ae ?_))))
  obtain rfl := sj h
  refine Am (sm [] [(4, iD v1)] [] rfl rfl) (AA ?_)
  exact ⟨⟨[_], ⟨.tmp _ _ rfl, tv⟩, rfl⟩, tv⟩
 ·have h := Ao c2 h
  refine Aq (Ab (Ab (Aa Ac rfl (qa rfl (Ae ?_)))))
  refine AE (L := Cm N p0 p1) h (fun v3 => mk [(1, pD (.sl (p1.map Ai))), (2, oD (.ptr 2 0)), (6, iD v3)] [(2, .box [sC (p0.fVersions.map Al), sC (p0.fNow.map Al), sC (p0.fTarget.map Al), sC (p0.fTables.map Ar)])]) (fun v4 => mk [] []) (fun _ _ => rfl) (sm [] _ _ rfl rfl) (fun j3 n3 v3 h => ?_) (fun v4 s h hs => ?_)
  ·unfold Cm at h
   refine Ab (Ab (Aa Ac rfl (qm rfl (qm rfl (AR A0 rfl (AY rfl (Ae ?_)))))))
   refine Ap rfl (fun c5 => ?_) (fun c5 => ?_)
   ·have h := An c5 h
    refine Aq (Ab (AJ (Ab (Aa Ac rfl (qL Di Da rfl (qm rfl (qm rfl ?_)))))))
    obtain ⟨v6, a6, b6, h⟩ := Ak h
    refine qi A0 Az a6 (Af b6) rfl (qK A4 Az rfl ?_)
    obtain ⟨v7, a7, h⟩ := bind_some h
    refine AG [] (GO N p0 v6 v7 a7) Wz rfl (qa rfl (AC (by kernel_rfl) (Ab (Aa Ac rfl (qm rfl (BP rfl (Ae ?_)))))))
    refine Ap rfl (fun c8 => ?_) (fun c8 => ?_)
    ·have h := An c8 h
     refine Ab (Aa Ac rfl (qm rfl (qa rfl (Ae ?_))))
     obtain rfl := sj h
     refine Am (sm [] [(4, iD v7)] [] rfl rfl) (AA ?_)
     exact ⟨⟨[_], ⟨.tmp _ _ rfl, tv⟩, rfl⟩, tv⟩
    ·have h := Ao c8 h
     refine Aq (Aa Ac rfl (qm rfl (AP rfl (qa rfl (Ae ?_)))))
     exact As _ h (sm [] _ _ rfl rfl)
   ·have h := Ao c5 h
    refine AQ ?_
    exact As _ h (sm [] _ _ rfl rfl)
  ·refine Am hs (Ab (Aa Ac rfl (qa rfl (Ae ?_))))
   obtain rfl := sj h
   refine Am (sm [] [(4, iD 0)] [] rfl rfl) (AA ?_)
   exact ⟨⟨[_], ⟨.tmp _ _ rfl, tv⟩, rfl⟩, tv⟩
theorem KY (N : Nat) (p0 : Aw) (r : Bool) (h : Ew N p0 = some r) : AD Tryz.prog 143 [.e (.agg [iC p0.fKind, iC p0.fIndex, iC p0.fVersion])] [] (bD r) := by
 unfold Ew at h
 refine Au (n := 31) (rs := [.tmp 2]) Tryz.func143 rfl rfl rfl (A5 rfl) (A5 rfl) rfl fun w0 S0 => ?_
 refine Ab (Aa Ac rfl (qb rfl (qa rfl (Ae ?_))))
 refine AL h (fun v1 => mk [(2, bD v1)] []) (fun j1 h => ?_) (fun v1 h => ?_)
 ·refine Aa Ac rfl (qf FO rfl (ql Cz rfl (Cv rfl (qm rfl ?_))))
  refine AB (t := 6) rfl (fun c2 => ?_) (fun c2 => ?_)
  ·have h := An c2 h
   refine qf FO rfl (ql Cz rfl (GU rfl (qp rfl (qm rfl ?_))))
   refine AB (t := 11) rfl (fun c3 => ?_) (fun c3 => ?_)
   ·have h := An c3 h
    refine qf E6 rfl (ql Cz rfl (Cv rfl (qp rfl (qm rfl ?_))))
    refine AB (t := 16) rfl (fun c4 => ?_) (fun c4 => ?_)
    ·have h := An c4 h
     refine qf Ha rfl (ql Cz rfl (Cv rfl (qp rfl (qm rfl ?_))))
     refine AB (t := 21) rfl (fun c5 => ?_) (fun c5 => ?_)
     ·have h := An c5 h
      refine qf FO rfl (ql Cz rfl (BQ rfl (qm rfl ?_)))
      refine AB (t := 25) rfl (fun c6 => ?_) (fun c6 => ?_)
      ·have h := An c6 h
       refine qn rfl (qn rfl (qn rfl (qp rfl (qp rfl (qa rfl (Ae ?_))))))
       exact As _ h (sm [] _ _ rfl rfl)
      ·have h := Ao c6 h
       refine qf Ha rfl (ql Cz rfl (BQ rfl (qp rfl (qp rfl (qa rfl (Ae ?_))))))
       exact As _ h (sm [] _ _ rfl rfl)
     ·have h := Ao c5 h
      refine qn rfl (qn rfl (qn rfl (qn rfl (qu rfl (qu rfl (qu rfl (qn rfl (qp rfl (qa rfl (Ae ?_))))))))))
      exact As _ h (sm [] _ _ rfl rfl)
    ·have h := Ao c4 h
     refine qn rfl (qn rfl (qn rfl (qp rfl (qm rfl (qn rfl (qn rfl (qn rfl (qn rfl (qu rfl (qu rfl (qu rfl (qn rfl (qp rfl (qa rfl (Ae ?_)))))))))))))))
     exact As _ h (sm [] _ _ rfl rfl)
   ·have h := Ao c3 h
    refine qn rfl (qn rfl (qn rfl (qp rfl (qm rfl (qn rfl (qn rfl (qn rfl (qp rfl (qm rfl (qn rfl (qn rfl (qn rfl (qn rfl (qu rfl (qu rfl (qu rfl (qn rfl (qp rfl (qa rfl (Ae ?_))))))))))))))))))))
    exact As _ h (sm [] _ _ rfl rfl)
  ·have h := Ao c2 h
   refine qn rfl (qn rfl (qn rfl (qp rfl (qm rfl (qn rfl (qn rfl (qn rfl (qp rfl (qm rfl (qn rfl (qn rfl (qn rfl (qp rfl (qm rfl (qn rfl (qn rfl (qn rfl (qn rfl (qu rfl (qu rfl (qu rfl (qn rfl (qp rfl (qa rfl (Ae ?_)))))))))))))))))))))))))
   exact As _ h (sm [] _ _ rfl rfl)
 ·obtain rfl := sj h
  refine Am (sm [] [(2, bD v1)] [] rfl rfl) (AA ?_)
  exact ⟨⟨[_], ⟨.tmp _ _ rfl, tv⟩, rfl⟩, tv⟩
theorem Gf (N : Nat) (p0 : Int) (p1 : Int) (r : Bool) (h : CD N p0 p1 = some r) : AD Tryz.prog 114 [pD (.val (.int .u8 p0)), iD p1] [] (bD r) := by
 unfold CD at h
 refine Au (n := 10) (rs := [.tmp 4]) Tryz.func114 rfl rfl rfl (A5 rfl) (A5 rfl) rfl fun w0 S0 => ?_
 refine Ab (Aa Ac rfl (qa rfl (Ae (Ab (Aa Ac rfl (qm rfl (qm rfl ?_)))))))
 obtain ⟨c1, h⟩ := Ba h
 refine HN rfl c1 (K8 rfl (BQ rfl (qa rfl (Ae ?_))))
 obtain rfl := sj h
 refine Am (sm [] [(4, bD (((FT .u8 ((EA .u8 p0 p1)) 1) == 1)))] [] rfl rfl) (AA ?_)
 exact ⟨⟨[_], ⟨.tmp _ _ rfl, tv⟩, rfl⟩, tv⟩
theorem Ik (N : Nat) (p0 : Aj) (p1 : Ag) (p2 : Aw) (r : Ag × Bool) (h : CS N p0 p1 p2 = some r) : AD Tryz.prog 73 [.e (.agg [sC (p0.fVersions.map Al), sC (p0.fNow.map Al), sC (p0.fTarget.map Al), sC (p0.fTables.map Ar)]), .e (.agg [sC (p1.fBase.map Al), sC (p1.fNext.map Al), sC (p1.fHeld.map Bw)]), .e (.agg [iC p2.fKind, iC p2.fIndex, iC p2.fVersion])] [(1, r.1.fBase.map Al), (1, r.1.fNext.map Al), (1, r.1.fHeld.map Bw)] (.tup [.agg [.own 0, .own 1, .own 2], .one (.pure (.val (.bool r.2)))]) := by
 unfold CS at h
 refine Au (n := 201) (rs := [.cell 6 46, .tmp 7]) Tryz.func73 rfl rfl rfl (A5 rfl) (A5 rfl) rfl fun w0 S0 => ?_
 refine Ab (Aa Ac rfl (qb rfl (qb rfl (qb rfl (qz Cs rfl (qa rfl (Ae (Ab (Aa Ac rfl (EX AN DJ Mt rfl (qf CO rfl (ql Bs rfl ?_))))))))))))
 obtain ⟨c1, h⟩ := Ba h
 refine Kd (f := Al) AN AN DJ Qf Mt (fun _ => rfl) c1 rfl (EX AN DJ Mt rfl (qf BK rfl (ql Bs rfl ?_)))
 obtain ⟨c2, h⟩ := Ba h
 refine Kd (f := Al) AN AN DJ Qf Mt (fun _ => rfl) c2 rfl (EX Dj FW Pq rfl (qf CM rfl (ql G5 rfl ?_)))
 obtain ⟨c3, h⟩ := Ba h
 refine Kd (f := Bw) Dj Dj FW R3 Pq (fun _ => rfl) c3 rfl (Br Cs Gt rfl (qz Cs rfl (qs Az rfl (AC (by kernel_rfl) (Ab (Aa Ac rfl (qf E6 rfl (ql Cz rfl (qa rfl (Ae ?_))))))))))
 refine AL h (fun v4 => mk [(6, oD (.ptr 6 0)), (8, oD (.ptr 8 0))] [(6, .box [.pure (.nil0), .pure (.nil0), .pure (.nil0)]), (8, .box [.own 2001, .own 2002, .own 2003]), (2001, .vec 1 (v4.1.map Al)), (2002, .vec 1 (v4.2.1.map Al)), (2003, .vec 1 (v4.2.2.map Bw))]) (fun j4 h => ?_) (fun v4 h => ?_)
 ·refine Ab (Aa Ac rfl (qf FO rfl (ql Cz rfl (Ae (AJ (Ab (Aa Ac rfl (BQ rfl (qa rfl (Ae ?_))))))))))
  refine Ap rfl (fun c5 => ?_) (fun c5 => ?_)
  ·have h := An c5 h
   refine Ab ?_
   refine AL h (fun v6 => mk [(3, oD (.ptr 3 0)), (5, oD (.ptr 5 0)), (6, oD (.ptr 6 0)), (8, oD (.ptr 8 0)), (9, iD p2.fIndex), (60, bD v6)] [(3, .box [sC (p0.fVersions.map Al), sC (p0.fNow.map Al), sC (p0.fTarget.map Al), sC (p0.fTables.map Ar)]), (5, .box [iC p2.fKind, iC p2.fIndex, iC p2.fVersion]), (6, .box [.pure (.nil0), .pure (.nil0), .pure (.nil0)]), (8, .box [.own 2004, .own 2005, .own 2006]), (2004, .vec 1 (((([] : List Int)) ++ p1.fBase).map Al)), (2005, .vec 1 (((([] : List Int)) ++ p1.fNext).map Al)), (2006, .vec 1 (((([] : List Int)) ++ p1.fHeld).map Bw))]) (fun j6 h => ?_) (fun v6 h => ?_)
   ·refine Aa Ac rfl (qf BK rfl (ql Bs rfl (qm rfl ?_)))
    obtain ⟨v7, a7, b7, h⟩ := Ak h
    refine qi AN DJ a7 (Af b7) rfl (qk Cz rfl (Cv rfl (qm rfl ?_)))
    refine AB (t := 51) rfl (fun c8 => ?_) (fun c8 => ?_)
    ·have h := An c8 h
     refine qn rfl (qn rfl (qn rfl (qn rfl (qn rfl (qn rfl (qn rfl (qn rfl (qp rfl (AC (by kernel_rfl) ?_)))))))))
     exact As _ h (sm [(2004, 18), (2005, 22), (2006, 26)] _ _ rfl rfl)
    ·have h := Ao c8 h
     refine qf Ha rfl (ql Cz rfl (qf CO rfl (ql Bs rfl (qm rfl ?_))))
     obtain ⟨v9, a9, b9, h⟩ := Ak h
     refine qi AN DJ a9 (Af b9) rfl (qk Cz rfl (BQ rfl (qp rfl (AC (by kernel_rfl) ?_))))
     exact As _ h (sm [(2004, 18), (2005, 22), (2006, 26)] _ _ rfl rfl)
   ·refine Ap rfl (fun c10 => ?_) (fun c10 => ?_)
    ·have h := An c10 h
     refine Ab (Aa Ac rfl (Br Cs Gt rfl (qs Az rfl (qa rfl (Ae ?_)))))
     obtain rfl := sj h
     refine Am ((AO 6 0 2007 1 _ rfl rfl rfl rfl).trans ((AO 6 1 2008 1 _ rfl rfl rfl rfl).trans ((AO 6 2 2009 1 _ rfl rfl rfl rfl).trans (sm [(1000, 2007), (1001, 2008), (1002, 2009)] [(6, oD (.ptr 6 0)), (7, bD false)] [(6, .box [.own 1000, .own 1001, .own 1002]), (1000, .vec 1 ((([] : List Int)).map Al)), (1001, .vec 1 ((([] : List Int)).map Al)), (1002, .vec 1 ((([] : List Int)).map Bw))] rfl rfl)))) (AA ?_)
     exact ⟨⟨[_, _], ⟨.cellN _ _ _ _ _ _ _ rfl rfl A4 Az rfl rfl (Iq rfl), ⟨.tmp _ _ rfl, tv⟩⟩, rfl⟩, ⟨rfl, rfl, rfl, tv⟩⟩
    ·have h := Ao c10 h
     refine Aq (Ab (Aa Ac rfl (qf BK rfl (ql Bs rfl (qm rfl (qf Ha rfl (ql Cz rfl ?_)))))))
     obtain ⟨v11, a11, b11, h⟩ := Ak h
     refine qI AN DJ a11 (Af b11) rfl ?_
     refine AX rfl rfl rfl rfl (Af b11) rfl DJ rfl (A5 rfl) (AW Al ((([] : List Int)) ++ p1.fNext) _ p2.fVersion) ?_
     refine Ae (Ab (Aa Ac rfl (qa rfl (Ae ?_))))
     refine AE (L := Cb N p0 p2) h (fun v12 => mk [(3, oD (.ptr 3 0)), (5, oD (.ptr 5 0)), (6, oD (.ptr 6 0)), (8, oD (.ptr 8 0)), (9, iD p2.fIndex), (10, iD v12.2)] [(3, .box [sC (p0.fVersions.map Al), sC (p0.fNow.map Al), sC (p0.fTarget.map Al), sC (p0.fTables.map Ar)]), (5, .box [iC p2.fKind, iC p2.fIndex, iC p2.fVersion]), (6, .box [.pure (.nil0), .pure (.nil0), .pure (.nil0)]), (8, .box [.own 2010, .own 2011, .own 2012]), (2010, .vec 1 (((([] : List Int)) ++ p1.fBase).map Al)), (2011, .vec 1 ((((([] : List Int)) ++ p1.fNext).set ((p2.fIndex).toNat) p2.fVersion).map Al)), (2012, .vec 1 (v12.1.map Bw))]) (fun v13 => mk [(6, oD (.ptr 6 0)), (8, oD (.ptr 8 0))] [(6, .box [.pure (.nil0), .pure (.nil0), .pure (.nil0)]), (8, .box [.own 2013, .own 2014, .own 2015]), (2013, .vec 1 (((([] : List Int)) ++ p1.fBase).map Al)), (2014, .vec 1 ((((([] : List Int)) ++ p1.fNext).set ((p2.fIndex).toNat) p2.fVersion).map Al)), (2015, .vec 1 (v13.map Bw))]) (fun _ _ => rfl) (sm [(2010, 2004), (2011, 2005), (2012, 2006)] _ _ rfl rfl) (fun j12 n12 v12 h => ?_) (fun v13 s h hs => ?_)
     ·unfold Cb at h
      refine Ab (Ab (Aa Ac rfl (qm rfl (qf CI rfl (ql GQ rfl (AR D6 rfl (AY rfl (Ae ?_))))))))
      refine Ap rfl (fun c14 => ?_) (fun c14 => ?_)
      ·have h := An c14 h
       refine Aq ?_
       refine AL h (fun v15 => mk [(3, oD (.ptr 3 0)), (5, oD (.ptr 5 0)), (6, oD (.ptr 6 0)), (8, oD (.ptr 8 0)), (9, iD p2.fIndex), (10, iD v12.2)] [(3, .box [sC (p0.fVersions.map Al), sC (p0.fNow.map Al), sC (p0.fTarget.map Al), sC (p0.fTables.map Ar)]), (5, .box [iC p2.fKind, iC p2.fIndex, iC p2.fVersion]), (6, .box [.pure (.nil0), .pure (.nil0), .pure (.nil0)]), (8, .box [.own 2016, .own 2017, .own 2018]), (2016, .vec 1 (((([] : List Int)) ++ p1.fBase).map Al)), (2017, .vec 1 ((((([] : List Int)) ++ p1.fNext).set ((p2.fIndex).toNat) p2.fVersion).map Al)), (2018, .vec 1 (v15.map Bw))]) (fun j15 h => ?_) (fun v15 h => ?_)
       ·refine AJ ?_
        refine AL h (fun v16 => mk [(3, oD (.ptr 3 0)), (5, oD (.ptr 5 0)), (6, oD (.ptr 6 0)), (8, oD (.ptr 8 0)), (9, iD p2.fIndex), (10, iD v12.2), (90, bD v16)] [(3, .box [sC (p0.fVersions.map Al), sC (p0.fNow.map Al), sC (p0.fTarget.map Al), sC (p0.fTables.map Ar)]), (5, .box [iC p2.fKind, iC p2.fIndex, iC p2.fVersion]), (6, .box [.pure (.nil0), .pure (.nil0), .pure (.nil0)]), (8, .box [.own 2019, .own 2020, .own 2021]), (2019, .vec 1 (((([] : List Int)) ++ p1.fBase).map Al)), (2020, .vec 1 ((((([] : List Int)) ++ p1.fNext).set ((p2.fIndex).toNat) p2.fVersion).map Al)), (2021, .vec 1 (v12.1.map Bw))]) (fun j16 h => ?_) (fun v16 h => ?_)
        ·refine Aa Ac rfl (qf CI rfl (ql GQ rfl (qm rfl ?_)))
         obtain ⟨v17, a17, b17, h⟩ := Ak h
         refine qi D6 EB a17 (Af b17) rfl (qg DZ rfl (qk Cz rfl (qm rfl (BQ rfl (qm rfl ?_)))))
         refine AB (t := 83) rfl (fun c18 => ?_) (fun c18 => ?_)
         ·have h := An c18 h
          refine qf CI rfl (ql GQ rfl (qm rfl ?_))
          obtain ⟨v19, a19, b19, h⟩ := Ak h
          refine qi D6 EB a19 (Af b19) rfl (qK Iy EB rfl ?_)
          obtain ⟨v20, a20, h⟩ := bind_some h
          refine AG [] (C9 N v19 v20 a20) RA rfl (qp rfl (Ae ?_))
          exact As _ h (sm [(2019, 2010), (2020, 2011), (2021, 2012)] _ _ rfl rfl)
         ·have h := Ao c18 h
          refine qn rfl (qn rfl (qn rfl (qn rfl (qn rfl (qn rfl (qp rfl (Ae ?_)))))))
          exact As _ h (sm [(2019, 2010), (2020, 2011), (2021, 2012)] _ _ rfl rfl)
        ·refine Ap rfl (fun c21 => ?_) (fun c21 => ?_)
         ·have h := An c21 h
          refine Aa Ac rfl (qf CM rfl (ql G5 rfl (qm rfl (qf CM rfl (ql G5 rfl (qm rfl ?_))))))
          obtain ⟨v22, a22, b22, h⟩ := Ak h
          refine qI Dj FW a22 (Af b22) rfl (qj JZ (Af b22) rfl (qf Ha rfl (ql Cz rfl ?_)))
          obtain ⟨c23, h⟩ := Ba h
          refine Ir rfl c23 (Ug rfl ?_)
          obtain ⟨v24, a24, b24, h⟩ := Ak h
          refine qI Dj FW a24 (Af b24) rfl ?_
          refine AX rfl rfl rfl rfl (Af b24) rfl FW rfl (A5 rfl) (AW Bw v12.1 _ ((Oi .u8 v22 ((CF .u8 1 p2.fVersion))))) ?_
          refine AC (by kernel_rfl) ?_
          exact As _ h (sm [(2016, 2019), (2017, 2020), (2018, 2021)] _ _ rfl rfl)
         ·have h := Ao c21 h
          refine Aq ?_
          exact As _ h (sm [(2016, 2019), (2017, 2020), (2018, 2021)] _ _ rfl rfl)
       ·refine Aa Ac rfl (qm rfl (AP rfl (qa rfl (Ae ?_))))
        exact As _ h (sm [(2010, 2016), (2011, 2017), (2012, 2018)] _ _ rfl rfl)
      ·have h := Ao c14 h
       refine AQ ?_
       exact As _ h (sm [(2013, 2010), (2014, 2011), (2015, 2012)] _ _ rfl rfl)
     ·exact As _ h (hs.trans (sm [(2001, 2013), (2002, 2014), (2003, 2015)] _ _ rfl rfl))
  ·have h := Ao c5 h
   refine Ab (Aa Ac rfl (BQ rfl (qa rfl (Ae ?_))))
   refine Ap rfl (fun c25 => ?_) (fun c25 => ?_)
   ·have h := An c25 h
    refine Ab (Ab (Aa Ac rfl (qf BK rfl (ql Bs rfl (qm rfl ?_)))))
    obtain ⟨v26, a26, b26, h⟩ := Ak h
    refine qi AN DJ a26 (Af b26) rfl (qk Cz rfl (AY rfl (Ae ?_)))
    refine Ap rfl (fun c27 => ?_) (fun c27 => ?_)
    ·have h := An c27 h
     refine Ab (Aa Ac rfl (Br Cs Gt rfl (qs Az rfl (qa rfl (Ae ?_)))))
     obtain rfl := sj h
     refine Am ((AO 6 0 2022 1 _ rfl rfl rfl rfl).trans ((AO 6 1 2023 1 _ rfl rfl rfl rfl).trans ((AO 6 2 2024 1 _ rfl rfl rfl rfl).trans (sm [(1000, 2022), (1001, 2023), (1002, 2024)] [(6, oD (.ptr 6 0)), (7, bD false)] [(6, .box [.own 1000, .own 1001, .own 1002]), (1000, .vec 1 ((([] : List Int)).map Al)), (1001, .vec 1 ((([] : List Int)).map Al)), (1002, .vec 1 ((([] : List Int)).map Bw))] rfl rfl)))) (AA ?_)
     exact ⟨⟨[_, _], ⟨.cellN _ _ _ _ _ _ _ rfl rfl A4 Az rfl rfl (Iq rfl), ⟨.tmp _ _ rfl, tv⟩⟩, rfl⟩, ⟨rfl, rfl, rfl, tv⟩⟩
    ·have h := Ao c27 h
     refine Aq (Aa Ac rfl (qf CO rfl (ql Bs rfl (qm rfl (qf BK rfl (ql Bs rfl (qm rfl (qf BK rfl (ql Bs rfl (qm rfl ?_))))))))))
     obtain ⟨v28, a28, b28, h⟩ := Ak h
     refine qi AN DJ a28 (Af b28) rfl (qk Cz rfl ?_)
     obtain ⟨v29, a29, b29, h⟩ := Ak h
     refine qI AN DJ a29 (Af b29) rfl ?_
     refine AX rfl rfl rfl rfl (Af b29) rfl DJ rfl (A5 rfl) (AW Al ((([] : List Int)) ++ p1.fBase) _ v28) ?_
     obtain ⟨v30, a30, b30, h⟩ := Ak h
     refine qI AN DJ a30 (Af b30) rfl ?_
     refine AX rfl rfl rfl rfl (Af b30) rfl DJ rfl (A5 rfl) (AW Al ((([] : List Int)) ++ p1.fNext) _ ((-1))) ?_
     refine AC (by kernel_rfl) ?_
     exact As _ h (sm [(2001, 18), (2002, 22), (2003, 26)] _ _ rfl rfl)
   ·have h := Ao c25 h
    refine Ab (Aa Ac rfl (BQ rfl (qa rfl (Ae ?_))))
    refine Ap rfl (fun c31 => ?_) (fun c31 => ?_)
    ·have h := An c31 h
     refine Ab (Aa Ac rfl (qf CI rfl (ql GQ rfl (qm rfl ?_))))
     obtain ⟨v32, a32, b32, h⟩ := Ak h
     refine qi D6 EB a32 (Af b32) rfl (qK Iy EB rfl (qz NA rfl (qs EB rfl (Ae (Ab (Ab (Aa Ac rfl (qL Iy EB rfl ?_))))))))
     obtain ⟨v33, a33, h⟩ := bind_some h
     refine AG [] (C9 N v32 v33 a33) RA rfl (BS rfl (Ae ?_))
     refine Ap rfl (fun c34 => ?_) (fun c34 => ?_)
     ·have h := An c34 h
      refine Ab (Aa Ac rfl (Br Cs Gt rfl (qs Az rfl (qa rfl (Ae ?_)))))
      obtain rfl := sj h
      refine Am ((AO 6 0 2025 1 _ rfl rfl rfl rfl).trans ((AO 6 1 2026 1 _ rfl rfl rfl rfl).trans ((AO 6 2 2027 1 _ rfl rfl rfl rfl).trans (sm [(1000, 2025), (1001, 2026), (1002, 2027)] [(6, oD (.ptr 6 0)), (7, bD false)] [(6, .box [.own 1000, .own 1001, .own 1002]), (1000, .vec 1 ((([] : List Int)).map Al)), (1001, .vec 1 ((([] : List Int)).map Al)), (1002, .vec 1 ((([] : List Int)).map Bw))] rfl rfl)))) (AA ?_)
      exact ⟨⟨[_, _], ⟨.cellN _ _ _ _ _ _ _ rfl rfl A4 Az rfl rfl (Iq rfl), ⟨.tmp _ _ rfl, tv⟩⟩, rfl⟩, ⟨rfl, rfl, rfl, tv⟩⟩
     ·have h := Ao c34 h
      refine Aq (Ab (Aa Ac rfl (qL A4 Az rfl (qf DZ rfl (ql Cz rfl ?_)))))
      obtain ⟨v35, a35, h⟩ := bind_some h
      refine AG [] (Ec N p1 v32.fFrom v35 a35) Uz rfl (qa rfl (Ae (Ab (Ab (Aa Ac rfl (qf CM rfl (ql G5 rfl (qm rfl ?_))))))))
      obtain ⟨v36, a36, b36, h⟩ := Ak h
      refine qi Dj FW a36 (Af b36) rfl (qk JZ rfl (qm rfl (BQ rfl (Ae ?_))))
      refine Ap rfl (fun c37 => ?_) (fun c37 => ?_)
      ·have h := An c37 h
       refine Ab (Aa Ac rfl (Br Cs Gt rfl (qs Az rfl (qa rfl (Ae ?_)))))
       obtain rfl := sj h
       refine Am ((AO 6 0 2028 1 _ rfl rfl rfl rfl).trans ((AO 6 1 2029 1 _ rfl rfl rfl rfl).trans ((AO 6 2 2030 1 _ rfl rfl rfl rfl).trans (sm [(1000, 2028), (1001, 2029), (1002, 2030)] [(6, oD (.ptr 6 0)), (7, bD false)] [(6, .box [.own 1000, .own 1001, .own 1002]), (1000, .vec 1 ((([] : List Int)).map Al)), (1001, .vec 1 ((([] : List Int)).map Al)), (1002, .vec 1 ((([] : List Int)).map Bw))] rfl rfl)))) (AA ?_)
       exact ⟨⟨[_, _], ⟨.cellN _ _ _ _ _ _ _ rfl rfl A4 Az rfl rfl (Iq rfl), ⟨.tmp _ _ rfl, tv⟩⟩, rfl⟩, ⟨rfl, rfl, rfl, tv⟩⟩
      ·have h := Ao c37 h
       refine Aq (Ab (Ab (Aa Ac rfl (qa rfl (Ae ?_)))))
       refine AE (L := BV N p0 p1 p2 v32 v35) h (fun v38 => mk [(3, oD (.ptr 3 0)), (4, oD (.ptr 4 0)), (6, oD (.ptr 6 0)), (8, oD (.ptr 8 0)), (9, iD p2.fIndex), (11, oD (.ptr 11 0)), (12, pD (.val (.int .u8 v35))), (13, iD v38)] [(3, .box [sC (p0.fVersions.map Al), sC (p0.fNow.map Al), sC (p0.fTarget.map Al), sC (p0.fTables.map Ar)]), (4, .box [sC (p1.fBase.map Al), sC (p1.fNext.map Al), sC (p1.fHeld.map Bw)]), (6, .box [.pure (.nil0), .pure (.nil0), .pure (.nil0)]), (8, .box [.own 2031, .own 2032, .own 2033]), (11, .box [iC v32.fKind, iC v32.fFrom, iC v32.fTo, .pure (.val (.bool v32.fAware)), sC (v32.fOK.map (Fe eB)), sC (v32.fRewrite.map (Fe eB))]), (2031, .vec 1 (((([] : List Int)) ++ p1.fBase).map Al)), (2032, .vec 1 (((([] : List Int)) ++ p1.fNext).map Al)), (2033, .vec 1 (((([] : List Int)) ++ p1.fHeld).map Bw))]) (fun v39 => mk [(6, oD (.ptr 6 0)), (8, oD (.ptr 8 0)), (9, iD p2.fIndex), (12, pD (.val (.int .u8 v35)))] [(6, .box [.pure (.nil0), .pure (.nil0), .pure (.nil0)]), (8, .box [.own 2034, .own 2035, .own 2036]), (2034, .vec 1 (((([] : List Int)) ++ p1.fBase).map Al)), (2035, .vec 1 (((([] : List Int)) ++ p1.fNext).map Al)), (2036, .vec 1 (((([] : List Int)) ++ p1.fHeld).map Bw))]) (fun _ _ => rfl) (sm [(2031, 18), (2032, 22), (2033, 26)] _ _ rfl rfl) (fun j38 n38 v38 h => ?_) (fun v39 s h hs => ?_)
       ·unfold BV at h
        refine Ab (Ab (Aa Ac rfl (qm rfl (qf Cq rfl (ql Bs rfl (qf DZ rfl (ql Cz rfl ?_)))))))
        obtain ⟨v40, a40, b40, h⟩ := Ak h
        refine qi AN DJ a40 (Af b40) rfl (qk Cz rfl (AY rfl (Ae ?_)))
        refine Ap rfl (fun c41 => ?_) (fun c41 => ?_)
        ·have h := An c41 h
         refine Aq (Ab (AJ ?_))
         refine AL h (fun v42 => mk [(3, oD (.ptr 3 0)), (4, oD (.ptr 4 0)), (6, oD (.ptr 6 0)), (8, oD (.ptr 8 0)), (9, iD p2.fIndex), (11, oD (.ptr 11 0)), (12, pD (.val (.int .u8 v35))), (13, iD v38), (14, bD v42)] [(3, .box [sC (p0.fVersions.map Al), sC (p0.fNow.map Al), sC (p0.fTarget.map Al), sC (p0.fTables.map Ar)]), (4, .box [sC (p1.fBase.map Al), sC (p1.fNext.map Al), sC (p1.fHeld.map Bw)]), (6, .box [.pure (.nil0), .pure (.nil0), .pure (.nil0)]), (8, .box [.own 2037, .own 2038, .own 2039]), (11, .box [iC v32.fKind, iC v32.fFrom, iC v32.fTo, .pure (.val (.bool v32.fAware)), sC (v32.fOK.map (Fe eB)), sC (v32.fRewrite.map (Fe eB))]), (2037, .vec 1 (((([] : List Int)) ++ p1.fBase).map Al)), (2038, .vec 1 (((([] : List Int)) ++ p1.fNext).map Al)), (2039, .vec 1 (((([] : List Int)) ++ p1.fHeld).map Bw))]) (fun j42 h => ?_) (fun v42 h => ?_)
         ·refine Aa Ac rfl (qf CM rfl (ql G5 rfl (qm rfl ?_)))
          obtain ⟨v43, a43, b43, h⟩ := Ak h
          refine qi Dj FW a43 (Af b43) rfl (qk JZ rfl (qm rfl ?_))
          obtain ⟨v44, a44, h⟩ := bind_some h
          refine AG [] (Gf N v43 v38 v44 a44) Su rfl (qm rfl ?_)
          refine AB (t := 166) rfl (fun c45 => ?_) (fun c45 => ?_)
          ·have h := An c45 h
           refine qm rfl (qm rfl ?_)
           obtain ⟨v46, a46, h⟩ := bind_some h
           refine AG [] (Gf N v35 v38 v46 a46) Su rfl (BS rfl (qp rfl (qa rfl (Ae ?_))))
           exact As _ h (sm [(2037, 2031), (2038, 2032), (2039, 2033)] _ _ rfl rfl)
          ·have h := Ao c45 h
           refine qn rfl (qn rfl (qn rfl (qn rfl (qp rfl (qa rfl (Ae ?_))))))
           exact As _ h (sm [(2037, 2031), (2038, 2032), (2039, 2033)] _ _ rfl rfl)
         ·refine AL h (fun v47 => mk [(3, oD (.ptr 3 0)), (4, oD (.ptr 4 0)), (6, oD (.ptr 6 0)), (8, oD (.ptr 8 0)), (9, iD p2.fIndex), (11, oD (.ptr 11 0)), (12, pD (.val (.int .u8 v35))), (13, iD v38), (193, bD v47)] [(3, .box [sC (p0.fVersions.map Al), sC (p0.fNow.map Al), sC (p0.fTarget.map Al), sC (p0.fTables.map Ar)]), (4, .box [sC (p1.fBase.map Al), sC (p1.fNext.map Al), sC (p1.fHeld.map Bw)]), (6, .box [.pure (.nil0), .pure (.nil0), .pure (.nil0)]), (8, .box [.own 2040, .own 2041, .own 2042]), (11, .box [iC v32.fKind, iC v32.fFrom, iC v32.fTo, .pure (.val (.bool v32.fAware)), sC (v32.fOK.map (Fe eB)), sC (v32.fRewrite.map (Fe eB))]), (2040, .vec 1 (((([] : List Int)) ++ p1.fBase).map Al)), (2041, .vec 1 (((([] : List Int)) ++ p1.fNext).map Al)), (2042, .vec 1 (((([] : List Int)) ++ p1.fHeld).map Bw))]) (fun j47 h => ?_) (fun v47 h => ?_)
          ·refine Aa Ac rfl (qm rfl (qm rfl ?_))
           refine AB (t := 173) rfl (fun c48 => ?_) (fun c48 => ?_)
           ·have h := An c48 h
            refine qf GG rfl (ql Cz rfl (BQ rfl (qp rfl (qm rfl ?_))))
            refine AB (t := 178) rfl (fun c49 => ?_) (fun c49 => ?_)
            ·have h := An c49 h
             refine qf Ge rfl (ql IP rfl (qm rfl ?_))
             obtain ⟨v50, a50, b50, h⟩ := Ak h
             refine qi F1 MZ a50 (Af b50) rfl (qk Ns rfl (qf CO rfl (ql Bs rfl (qf DZ rfl (ql Cz rfl ?_)))))
             obtain ⟨v51, a51, b51, h⟩ := Ak h
             refine qi AN DJ a51 (Af b51) rfl (qk Cz rfl ?_)
             obtain ⟨v52, a52, b52, h⟩ := Ak h
             refine qi Ji VM a52 (Af b52) rfl (qk SI rfl (BS rfl (qp rfl (AC (by kernel_rfl) ?_))))
             exact As _ h (sm [(2040, 2037), (2041, 2038), (2042, 2039)] _ _ rfl rfl)
            ·have h := Ao c49 h
             refine qn rfl (qn rfl (qn rfl (qn rfl (qn rfl (qn rfl (qn rfl (qn rfl (qn rfl (qn rfl (qn rfl (qn rfl (qn rfl (qn rfl (qp rfl (AC (by kernel_rfl) ?_)))))))))))))))
             exact As _ h (sm [(2040, 2037), (2041, 2038), (2042, 2039)] _ _ rfl rfl)
           ·have h := Ao c48 h
            refine qn rfl (qn rfl (qn rfl (qp rfl (qm rfl (qn rfl (qn rfl (qn rfl (qn rfl (qn rfl (qn rfl (qn rfl (qn rfl (qn rfl (qn rfl (qn rfl (qn rfl (qn rfl (qn rfl (qp rfl (AC (by kernel_rfl) ?_))))))))))))))))))))
            exact As _ h (sm [(2040, 2037), (2041, 2038), (2042, 2039)] _ _ rfl rfl)
          ·refine Ap rfl (fun c53 => ?_) (fun c53 => ?_)
           ·have h := An c53 h
            refine Ab (Aa Ac rfl (Br Cs Gt rfl (qs Az rfl (qa rfl (Ae ?_)))))
            obtain rfl := sj h
            refine Am ((AO 6 0 2043 1 _ rfl rfl rfl rfl).trans ((AO 6 1 2044 1 _ rfl rfl rfl rfl).trans ((AO 6 2 2045 1 _ rfl rfl rfl rfl).trans (sm [(1000, 2043), (1001, 2044), (1002, 2045)] [(6, oD (.ptr 6 0)), (7, bD false)] [(6, .box [.own 1000, .own 1001, .own 1002]), (1000, .vec 1 ((([] : List Int)).map Al)), (1001, .vec 1 ((([] : List Int)).map Al)), (1002, .vec 1 ((([] : List Int)).map Bw))] rfl rfl)))) (AA ?_)
            exact ⟨⟨[_, _], ⟨.cellN _ _ _ _ _ _ _ rfl rfl A4 Az rfl rfl (Iq rfl), ⟨.tmp _ _ rfl, tv⟩⟩, rfl⟩, ⟨rfl, rfl, rfl, tv⟩⟩
           ·have h := Ao c53 h
            refine Aq (Aa Ac rfl (qm rfl (AP rfl (qa rfl (Ae ?_)))))
            exact As _ h (sm [(2031, 2040), (2032, 2041), (2033, 2042)] _ _ rfl rfl)
        ·have h := Ao c41 h
         refine AQ ?_
         exact As _ h (sm [(2034, 2031), (2035, 2032), (2036, 2033)] _ _ rfl rfl)
       ·refine Am hs (Aa Ac rfl (qf CM rfl (ql G5 rfl (qm rfl (qm rfl ?_)))))
        obtain ⟨v54, a54, b54, h⟩ := Ak h
        refine qI Dj FW a54 (Af b54) rfl ?_
        refine AX rfl rfl rfl rfl (Af b54) rfl FW rfl (A5 rfl) (AW Bw ((([] : List Int)) ++ p1.fHeld) _ v35) ?_
        refine Ae ?_
        exact As _ h (sm [(2001, 2034), (2002, 2035), (2003, 2036)] _ _ rfl rfl)
    ·have h := Ao c31 h
     refine Ab (Ab (Aa Ac rfl (qf BK rfl (ql Bs rfl (qm rfl ?_)))))
     obtain ⟨v55, a55, b55, h⟩ := Ak h
     refine qi AN DJ a55 (Af b55) rfl (qk Cz rfl (AY rfl (Ae ?_)))
     refine Ap rfl (fun c56 => ?_) (fun c56 => ?_)
     ·have h := An c56 h
      refine Ab (Aa Ac rfl (Br Cs Gt rfl (qs Az rfl (qa rfl (Ae ?_)))))
      obtain rfl := sj h
      refine Am ((AO 6 0 2046 1 _ rfl rfl rfl rfl).trans ((AO 6 1 2047 1 _ rfl rfl rfl rfl).trans ((AO 6 2 2048 1 _ rfl rfl rfl rfl).trans (sm [(1000, 2046), (1001, 2047), (1002, 2048)] [(6, oD (.ptr 6 0)), (7, bD false)] [(6, .box [.own 1000, .own 1001, .own 1002]), (1000, .vec 1 ((([] : List Int)).map Al)), (1001, .vec 1 ((([] : List Int)).map Al)), (1002, .vec 1 ((([] : List Int)).map Bw))] rfl rfl)))) (AA ?_)
      exact ⟨⟨[_, _], ⟨.cellN _ _ _ _ _ _ _ rfl rfl A4 Az rfl rfl (Iq rfl), ⟨.tmp _ _ rfl, tv⟩⟩, rfl⟩, ⟨rfl, rfl, rfl, tv⟩⟩
     ·have h := Ao c56 h
      refine Aq (Aa Ac rfl (qf BK rfl (ql Bs rfl (qm rfl ?_))))
      obtain ⟨v57, a57, b57, h⟩ := Ak h
      refine qI AN DJ a57 (Af b57) rfl ?_
      refine AX rfl rfl rfl rfl (Af b57) rfl DJ rfl (A5 rfl) (AW Al ((([] : List Int)) ++ p1.fNext) _ ((-1))) ?_
      refine Ae ?_
      exact As _ h (sm [(2001, 18), (2002, 22), (2003, 26)] _ _ rfl rfl)
 ·refine Ab (Aa Ac rfl (qL A4 Az rfl (qs Az rfl (qa rfl (Ae ?_)))))
  obtain rfl := sj h
  refine Am (sm [(1000, 2001), (1001, 2002), (1002, 2003)] [(6, oD (.ptr 6 0)), (7, bD true)] [(6, .box [.own 1000, .own 1001, .own 1002]), (1000, .vec 1 (v4.1.map Al)), (1001, .vec 1 (v4.2.1.map Al)), (1002, .vec 1 (v4.2.2.map Bw))] rfl rfl) (AA ?_)
  exact ⟨⟨[_, _], ⟨.cellN _ _ _ _ _ _ _ rfl rfl A4 Az rfl rfl (Iq rfl), ⟨.tmp _ _ rfl, tv⟩⟩, rfl⟩, ⟨rfl, rfl, rfl, tv⟩⟩
theorem K0 (N : Nat) (p0 : Aj) (p1 : Ag) (p2 : Aw) (r : Ag × Int) (h : Eo N p0 p1 p2 = some r) : AD Tryz.prog 113 [.e (.agg [sC (p0.fVersions.map Al), sC (p0.fNow.map Al), sC (p0.fTarget.map Al), sC (p0.fTables.map Ar)]), .e (.agg [sC (p1.fBase.map Al), sC (p1.fNext.map Al), sC (p1.fHeld.map Bw)]), .e (.agg [iC p2.fKind, iC p2.fIndex, iC p2.fVersion])] [(1, r.1.fBase.map Al), (1, r.1.fNext.map Al), (1, r.1.fHeld.map Bw)] (.tup [.agg [.own 0, .own 1, .own 2], .one (iC r.2)]) := by
 unfold Eo at h
 refine Au (n := 73) (rs := [.cell 6 46, .tmp 7]) Tryz.func113 rfl rfl rfl (A5 rfl) (A5 rfl) rfl fun w0 S0 => ?_
 refine Ab (Aa Ac rfl (qb rfl (qb rfl (qb rfl (qz Cs rfl (qa rfl (Ae (Ab (Ab (Aa Ac rfl (qL Di Da rfl (qL A4 Az rfl ?_))))))))))))
 obtain ⟨v1, a1, h⟩ := bind_some h
 refine AG [] (GO N p0 p1 v1 a1) Wz rfl (qa rfl (Ae (Ab (Aa Ac rfl (qm rfl (BP rfl (Ae ?_)))))))
 refine Ap rfl (fun c2 => ?_) (fun c2 => ?_)
 ·have h := An c2 h
  refine Ab (Aa Ac rfl (Br Cs Gt rfl (qm rfl (qs Az rfl (qa rfl (Ae ?_))))))
  obtain rfl := sj h
  refine Am ((AO 6 0 2001 1 _ rfl rfl rfl rfl).trans ((AO 6 1 2002 1 _ rfl rfl rfl rfl).trans ((AO 6 2 2003 1 _ rfl rfl rfl rfl).trans (sm [(1000, 2001), (1001, 2002), (1002, 2003)] [(6, oD (.ptr 6 0)), (7, iD v1)] [(6, .box [.own 1000, .own 1001, .own 1002]), (1000, .vec 1 ((([] : List Int)).map Al)), (1001, .vec 1 ((([] : List Int)).map Al)), (1002, .vec 1 ((([] : List Int)).map Bw))] rfl rfl)))) (AA ?_)
  exact ⟨⟨[_, _], ⟨.cellN _ _ _ _ _ _ _ rfl rfl A4 Az rfl rfl (Iq rfl), ⟨.tmp _ _ rfl, tv⟩⟩, rfl⟩, ⟨rfl, rfl, rfl, tv⟩⟩
 ·have h := Ao c2 h
  refine Aq (Ab (Ab (Aa Ac rfl (qL HR Es rfl ?_))))
  obtain ⟨v3, a3, h⟩ := bind_some h
  refine AG [] (KY N p2 v3 a3) Xv rfl (BS rfl (Ae ?_))
  refine Ap rfl (fun c4 => ?_) (fun c4 => ?_)
  ·have h := An c4 h
   refine Ab (Aa Ac rfl (Br Cs Gt rfl (qs Az rfl (qa rfl (Ae ?_)))))
   obtain rfl := sj h
   refine Am ((AO 6 0 2004 1 _ rfl rfl rfl rfl).trans ((AO 6 1 2005 1 _ rfl rfl rfl rfl).trans ((AO 6 2 2006 1 _ rfl rfl rfl rfl).trans (sm [(1000, 2004), (1001, 2005), (1002, 2006)] [(6, oD (.ptr 6 0)), (7, iD 1)] [(6, .box [.own 1000, .own 1001, .own 1002]), (1000, .vec 1 ((([] : List Int)).map Al)), (1001, .vec 1 ((([] : List Int)).map Al)), (1002, .vec 1 ((([] : List Int)).map Bw))] rfl rfl)))) (AA ?_)
   exact ⟨⟨[_, _], ⟨.cellN _ _ _ _ _ _ _ rfl rfl A4 Az rfl rfl (Iq rfl), ⟨.tmp _ _ rfl, tv⟩⟩, rfl⟩, ⟨rfl, rfl, rfl, tv⟩⟩
  ·have h := Ao c4 h
   refine Aq (Ab ?_)
   refine AL h (fun v5 => mk [(3, oD (.ptr 3 0)), (4, oD (.ptr 4 0)), (5, oD (.ptr 5 0)), (6, oD (.ptr 6 0)), (45, bD v5)] [(3, .box [sC (p0.fVersions.map Al), sC (p0.fNow.map Al), sC (p0.fTarget.map Al), sC (p0.fTables.map Ar)]), (4, .box [sC (p1.fBase.map Al), sC (p1.fNext.map Al), sC (p1.fHeld.map Bw)]), (5, .box [iC p2.fKind, iC p2.fIndex, iC p2.fVersion]), (6, .box [.pure (.nil0), .pure (.nil0), .pure (.nil0)])]) (fun j5 h => ?_) (fun v5 h => ?_)
   ·refine Aa Ac rfl (qf FO rfl (ql Cz rfl (BQ rfl (qm rfl ?_))))
    refine AB (t := 25) rfl (fun c6 => ?_) (fun c6 => ?_)
    ·have h := An c6 h
     refine qf E6 rfl (ql Cz rfl (qf CI rfl (ql GQ rfl (AR D6 rfl (Cv rfl (qp rfl (qm rfl ?_)))))))
     refine AB (t := 33) rfl (fun c7 => ?_) (fun c7 => ?_)
     ·have h := An c7 h
      refine qn rfl (qn rfl (qn rfl (qn rfl (qu rfl (qu rfl (qu rfl (qu rfl (qu rfl (qu rfl (qn rfl (qp rfl (Ae ?_))))))))))))
      exact As _ h (sm [] _ _ rfl rfl)
     ·have h := Ao c7 h
      refine qf FO rfl (ql Cz rfl (BP rfl (qm rfl ?_)))
      refine AB (t := 37) rfl (fun c8 => ?_) (fun c8 => ?_)
      ·have h := An c8 h
       refine qf E6 rfl (ql Cz rfl (qf Cq rfl (ql Bs rfl (AR AN rfl (Cv rfl (qp rfl (qp rfl (Ae ?_))))))))
       exact As _ h (sm [] _ _ rfl rfl)
      ·have h := Ao c8 h
       refine qn rfl (qn rfl (qn rfl (qn rfl (qn rfl (qn rfl (qp rfl (qp rfl (Ae ?_))))))))
       exact As _ h (sm [] _ _ rfl rfl)
    ·have h := Ao c6 h
     refine qn rfl (qn rfl (qn rfl (qn rfl (qn rfl (qn rfl (qp rfl (qm rfl (qf FO rfl (ql Cz rfl (BP rfl (qm rfl ?_)))))))))))
     refine AB (t := 37) rfl (fun c9 => ?_) (fun c9 => ?_)
     ·have h := An c9 h
      refine qf E6 rfl (ql Cz rfl (qf Cq rfl (ql Bs rfl (AR AN rfl (Cv rfl (qp rfl (qp rfl (Ae ?_))))))))
      exact As _ h (sm [] _ _ rfl rfl)
     ·have h := Ao c9 h
      refine qn rfl (qn rfl (qn rfl (qn rfl (qn rfl (qn rfl (qp rfl (qp rfl (Ae ?_))))))))
      exact As _ h (sm [] _ _ rfl rfl)
   ·refine Ap rfl (fun c10 => ?_) (fun c10 => ?_)
    ·have h := An c10 h
     refine Ab (Aa Ac rfl (Br Cs Gt rfl (qs Az rfl (qa rfl (Ae ?_)))))
     obtain rfl := sj h
     refine Am ((AO 6 0 2007 1 _ rfl rfl rfl rfl).trans ((AO 6 1 2008 1 _ rfl rfl rfl rfl).trans ((AO 6 2 2009 1 _ rfl rfl rfl rfl).trans (sm [(1000, 2007), (1001, 2008), (1002, 2009)] [(6, oD (.ptr 6 0)), (7, iD 4)] [(6, .box [.own 1000, .own 1001, .own 1002]), (1000, .vec 1 ((([] : List Int)).map Al)), (1001, .vec 1 ((([] : List Int)).map Al)), (1002, .vec 1 ((([] : List Int)).map Bw))] rfl rfl)))) (AA ?_)
     exact ⟨⟨[_, _], ⟨.cellN _ _ _ _ _ _ _ rfl rfl A4 Az rfl rfl (Iq rfl), ⟨.tmp _ _ rfl, tv⟩⟩, rfl⟩, ⟨rfl, rfl, rfl, tv⟩⟩
    ·have h := Ao c10 h
     refine Aq (Ab ?_)
     refine AL h (fun v11 => mk [(3, oD (.ptr 3 0)), (4, oD (.ptr 4 0)), (5, oD (.ptr 5 0)), (6, oD (.ptr 6 0)), (60, bD v11)] [(3, .box [sC (p0.fVersions.map Al), sC (p0.fNow.map Al), sC (p0.fTarget.map Al), sC (p0.fTables.map Ar)]), (4, .box [sC (p1.fBase.map Al), sC (p1.fNext.map Al), sC (p1.fHeld.map Bw)]), (5, .box [iC p2.fKind, iC p2.fIndex, iC p2.fVersion]), (6, .box [.pure (.nil0), .pure (.nil0), .pure (.nil0)])]) (fun j11 h => ?_) (fun v11 h => ?_)
     ·refine Aa Ac rfl (qf FO rfl (ql Cz rfl (BQ rfl (qm rfl ?_))))
      refine AB (t := 50) rfl (fun c12 => ?_) (fun c12 => ?_)
      ·have h := An c12 h
       refine qf Ha rfl (ql Cz rfl (qf Cq rfl (ql Bs rfl (qf E6 rfl (ql Cz rfl ?_)))))
       obtain ⟨v13, a13, b13, h⟩ := Ak h
       refine qi AN DJ a13 (Af b13) rfl (qk Cz rfl (Cv rfl (qp rfl (AC (by kernel_rfl) ?_))))
       exact As _ h (sm [] _ _ rfl rfl)
      ·have h := Ao c12 h
       refine qn rfl (qn rfl (qn rfl (qn rfl (qn rfl (qn rfl (qn rfl (qn rfl (qn rfl (qp rfl (AC (by kernel_rfl) ?_))))))))))
       exact As _ h (sm [] _ _ rfl rfl)
     ·refine Ap rfl (fun c14 => ?_) (fun c14 => ?_)
      ·have h := An c14 h
       refine Ab (Aa Ac rfl (Br Cs Gt rfl (qs Az rfl (qa rfl (Ae ?_)))))
       obtain rfl := sj h
       refine Am ((AO 6 0 2010 1 _ rfl rfl rfl rfl).trans ((AO 6 1 2011 1 _ rfl rfl rfl rfl).trans ((AO 6 2 2012 1 _ rfl rfl rfl rfl).trans (sm [(1000, 2010), (1001, 2011), (1002, 2012)] [(6, oD (.ptr 6 0)), (7, iD 4)] [(6, .box [.own 1000, .own 1001, .own 1002]), (1000, .vec 1 ((([] : List Int)).map Al)), (1001, .vec 1 ((([] : List Int)).map Al)), (1002, .vec 1 ((([] : List Int)).map Bw))] rfl rfl)))) (AA ?_)
       exact ⟨⟨[_, _], ⟨.cellN _ _ _ _ _ _ _ rfl rfl A4 Az rfl rfl (Iq rfl), ⟨.tmp _ _ rfl, tv⟩⟩, rfl⟩, ⟨rfl, rfl, rfl, tv⟩⟩
      ·have h := Ao c14 h
       refine Aq (Ab (Aa Ac rfl (qL Di Da rfl (qL A4 Az rfl (qL HR Es rfl ?_)))))
       obtain ⟨v15, a15, h⟩ := bind_some h
       refine AG [2013, 2014, 2015] (Ik N p0 p1 p2 v15 a15) Yc rfl (qm rfl (qx rfl (qx rfl (qz Cs rfl (qs Az rfl (qa rfl (Ae (Ab (Ab (Aa Ac rfl (qm rfl (BS rfl (Ae ?_)))))))))))))
       refine Ap rfl (fun c16 => ?_) (fun c16 => ?_)
       ·have h := An c16 h
        refine Ab (Aa Ac rfl (Br Cs Gt rfl (qs Az rfl (qa rfl (Ae ?_)))))
        obtain rfl := sj h
        refine Am ((AO 6 0 2016 1 _ rfl rfl rfl rfl).trans ((AO 6 1 2017 1 _ rfl rfl rfl rfl).trans ((AO 6 2 2018 1 _ rfl rfl rfl rfl).trans (sm [(1000, 2016), (1001, 2017), (1002, 2018)] [(6, oD (.ptr 6 0)), (7, iD 11)] [(6, .box [.own 1000, .own 1001, .own 1002]), (1000, .vec 1 ((([] : List Int)).map Al)), (1001, .vec 1 ((([] : List Int)).map Al)), (1002, .vec 1 ((([] : List Int)).map Bw))] rfl rfl)))) (AA ?_)
        exact ⟨⟨[_, _], ⟨.cellN _ _ _ _ _ _ _ rfl rfl A4 Az rfl rfl (Iq rfl), ⟨.tmp _ _ rfl, tv⟩⟩, rfl⟩, ⟨rfl, rfl, rfl, tv⟩⟩
       ·have h := Ao c16 h
        refine Aq (Ab (Aa Ac rfl (qL A4 Az rfl (qs Az rfl (qa rfl (Ae ?_))))))
        obtain rfl := sj h
        refine Am (sm [(1000, 2013), (1001, 2014), (1002, 2015)] [(6, oD (.ptr 6 0)), (7, iD 0)] [(6, .box [.own 1000, .own 1001, .own 1002]), (1000, .vec 1 (v15.1.fBase.map Al)), (1001, .vec 1 (v15.1.fNext.map Al)), (1002, .vec 1 (v15.1.fHeld.map Bw))] rfl rfl) (AA ?_)
        exact ⟨⟨[_, _], ⟨.cellN _ _ _ _ _ _ _ rfl rfl A4 Az rfl rfl (Iq rfl), ⟨.tmp _ _ rfl, tv⟩⟩, rfl⟩, ⟨rfl, rfl, rfl, tv⟩⟩
theorem KZ (N : Nat) (p0 : Aj) (p1 : Ag) (r : (List Aw)) (h : Ez N p0 p1 = some r) : AD Tryz.prog 72 [.e (.agg [sC (p0.fVersions.map Al), sC (p0.fNow.map Al), sC (p0.fTarget.map Al), sC (p0.fTables.map Ar)]), .e (.agg [sC (p1.fBase.map Al), sC (p1.fNext.map Al), sC (p1.fHeld.map Bw)])] [(3, r.map A2)] (oD (.own 0)) := by
 unfold Ez at h
 refine Au (n := 49) (rs := [.tmp 4]) Tryz.func72 rfl rfl rfl (A5 rfl) (A5 rfl) rfl fun w0 S0 => ?_
 refine Ab (Aa Ac rfl (qb rfl (qb rfl (qa rfl (Ae (Ab (Aa Ac rfl (qa rfl (Ae (Ab (Ab (Aa Ac rfl (qa rfl (Ae ?_))))))))))))))
 refine AE (L := BM N p0 p1) h (fun v1 => mk [(2, oD (.ptr 2 0)), (3, oD (.ptr 3 0)), (5, oD (.own 2001)), (6, iD v1.2)] [(2, .box [sC (p0.fVersions.map Al), sC (p0.fNow.map Al), sC (p0.fTarget.map Al), sC (p0.fTables.map Ar)]), (3, .box [sC (p1.fBase.map Al), sC (p1.fNext.map Al), sC (p1.fHeld.map Bw)]), (2001, .vec 3 (v1.1.map A2))]) (fun v2 => mk [(5, oD (.own 2002))] [(2002, .vec 3 (v2.map A2))]) (fun _ _ => rfl) ((BB 5 2011 3 rfl rfl rfl).trans (sm [(2001, 2011)] _ _ rfl rfl)) (fun j1 n1 v1 h => ?_) (fun v2 s h hs => ?_)
 ·unfold BM at h
  refine Ab (Ab (Aa Ac rfl (qm rfl (GU rfl (Ae ?_)))))
  refine Ap rfl (fun c3 => ?_) (fun c3 => ?_)
  ·have h := An c3 h
   refine Aq (Ab (AJ (Ab (Aa Ac rfl (qa rfl (Ae ?_))))))
   refine AE (L := Cj N p0 p1 v1) h (fun v4 => mk [(2, oD (.ptr 2 0)), (3, oD (.ptr 3 0)), (5, oD (.own 2003)), (6, iD v1.2), (7, iD v4.2)] [(2, .box [sC (p0.fVersions.map Al), sC (p0.fNow.map Al), sC (p0.fTarget.map Al), sC (p0.fTables.map Ar)]), (3, .box [sC (p1.fBase.map Al), sC (p1.fNext.map Al), sC (p1.fHeld.map Bw)]), (2003, .vec 3 (v4.1.map A2))]) (fun v5 => mk [(2, oD (.ptr 2 0)), (3, oD (.ptr 3 0)), (5, oD (.own 2004)), (6, iD v1.2)] [(2, .box [sC (p0.fVersions.map Al), sC (p0.fNow.map Al), sC (p0.fTarget.map Al), sC (p0.fTables.map Ar)]), (3, .box [sC (p1.fBase.map Al), sC (p1.fNext.map Al), sC (p1.fHeld.map Bw)]), (2004, .vec 3 (v5.map A2))]) (fun _ _ => rfl) (sm [(2003, 2001)] _ _ rfl rfl) (fun j4 n4 v4 h => ?_) (fun v5 s h hs => ?_)
   ·unfold Cj at h
    refine Ab (Ab (Aa Ac rfl (qm rfl (qf Cq rfl (ql Bs rfl (AR AN rfl (qf CI rfl (ql GQ rfl (AR D6 rfl ?_)))))))))
    refine XB (.p rfl) rfl rfl ?_
    refine AY rfl (Ae ?_)
    refine Ap rfl (fun c6 => ?_) (fun c6 => ?_)
    ·have h := An c6 h
     refine Aq (Ab (AJ (Ab (Aa Ac rfl (qa rfl (Ae ?_))))))
     refine AE (L := Cl N p0 p1 v1 v4) h (fun v7 => mk [(2, oD (.ptr 2 0)), (3, oD (.ptr 3 0)), (5, oD (.own 2005)), (6, iD v1.2), (7, iD v4.2), (8, iD v7.2)] [(2, .box [sC (p0.fVersions.map Al), sC (p0.fNow.map Al), sC (p0.fTarget.map Al), sC (p0.fTables.map Ar)]), (3, .box [sC (p1.fBase.map Al), sC (p1.fNext.map Al), sC (p1.fHeld.map Bw)]), (2005, .vec 3 (v7.1.map A2))]) (fun v8 => mk [(2, oD (.ptr 2 0)), (3, oD (.ptr 3 0)), (5, oD (.own 2006)), (6, iD v1.2), (7, iD v4.2)] [(2, .box [sC (p0.fVersions.map Al), sC (p0.fNow.map Al), sC (p0.fTarget.map Al), sC (p0.fTables.map Ar)]), (3, .box [sC (p1.fBase.map Al), sC (p1.fNext.map Al), sC (p1.fHeld.map Bw)]), (2006, .vec 3 (v8.map A2))]) (fun _ _ => rfl) (sm [(2005, 2003)] _ _ rfl rfl) (fun j7 n7 v7 h => ?_) (fun v8 s h hs => ?_)
     ·unfold Cl at h
      refine Ab (Ab (Aa Ac rfl (qm rfl (AY rfl (Ae ?_)))))
      refine Ap rfl (fun c9 => ?_) (fun c9 => ?_)
      ·have h := An c9 h
       refine Aq ?_
       refine AL h (fun v10 => mk [(2, oD (.ptr 2 0)), (3, oD (.ptr 3 0)), (5, oD (.own 2007)), (6, iD v1.2), (7, iD v4.2), (8, iD v7.2)] [(2, .box [sC (p0.fVersions.map Al), sC (p0.fNow.map Al), sC (p0.fTarget.map Al), sC (p0.fTables.map Ar)]), (3, .box [sC (p1.fBase.map Al), sC (p1.fNext.map Al), sC (p1.fHeld.map Bw)]), (2007, .vec 3 (v10.map A2))]) (fun j10 h => ?_) (fun v10 h => ?_)
       ·refine AJ (Ab (Aa Ac rfl (qm rfl (qm rfl (qm rfl (Br Jq UE rfl (qz Jq rfl (qs Es rfl (Ae (Ab (Aa Ac rfl (qL Di Da rfl (qL A4 Az rfl (qL HR Es rfl ?_))))))))))))))
        obtain ⟨v11, a11, h⟩ := bind_some h
        refine AG [2008, 2009, 2010] (K0 N p0 p1 ((Aw.mk v1.2 v4.2 v7.2)) v11 a11) YG rfl (qm rfl (qx rfl (qx rfl (qz Cs rfl (qs Az rfl (qa rfl (Ae (Ab (Aa Ac rfl (qm rfl (BQ rfl (Ae ?_))))))))))))
        refine Ap rfl (fun c12 => ?_) (fun c12 => ?_)
        ·have h := An c12 h
         refine Aa Ac rfl (qm rfl (qL HR Es rfl (EX EU Es Jq rfl ?_)))
         obtain ⟨c13, h⟩ := Ba h
         refine Fb (f := A2) EU EU Es Qb Jq c13 rfl (qa rfl (Ae ?_))
         exact As _ h (sm [(2007, 47)] _ _ rfl rfl)
        ·have h := Ao c12 h
         refine Aq ?_
         exact As _ h (sm [(2007, 2005)] _ _ rfl rfl)
       ·refine Aa Ac rfl (qm rfl (AP rfl (qa rfl (Ae ?_))))
        exact As _ h (sm [(2005, 2007)] _ _ rfl rfl)
      ·have h := Ao c9 h
       refine AQ ?_
       exact As _ h (sm [(2006, 2005)] _ _ rfl rfl)
     ·refine Am hs (Aa Ac rfl (qm rfl (AP rfl (qa rfl (Ae ?_)))))
      exact As _ h (sm [(2003, 2006)] _ _ rfl rfl)
    ·have h := Ao c6 h
     refine AQ ?_
     exact As _ h (sm [(2004, 2003)] _ _ rfl rfl)
   ·refine Am hs (Aa Ac rfl (qm rfl (AP rfl (qa rfl (Ae ?_)))))
    exact As _ h (sm [(2001, 2004)] _ _ rfl rfl)
  ·have h := Ao c3 h
   refine AQ ?_
   exact As _ h (sm [(2002, 2001)] _ _ rfl rfl)
 ·refine Am hs (Ab (Aa Ac rfl (qm rfl (qa rfl (Ae ?_)))))
  obtain rfl := sj h
  refine Am (sm [(1000, 2002)] [(4, oD (.own 1000))] [(1000, .vec 3 (v2.map A2))] rfl rfl) (AA ?_)
  exact ⟨⟨[_], ⟨.tmp _ _ rfl, tv⟩, rfl⟩, ⟨rfl, tv⟩⟩
theorem Ky (N : Nat) (p0 : Ag) (r : Ag) (h : Ed N p0 = some r) : AD Tryz.prog 142 [.e (.agg [sC (p0.fBase.map Al), sC (p0.fNext.map Al), sC (p0.fHeld.map Bw)])] [(1, r.fBase.map Al), (1, r.fNext.map Al), (1, r.fHeld.map Bw)] (.e (.agg [.own 0, .own 1, .own 2])) := by
 unfold Ed at h
 refine Au (n := 16) (rs := [.cell 2 46]) Tryz.func142 rfl rfl rfl (A5 rfl) (A5 rfl) rfl fun w0 S0 => ?_
 refine Ab (Aa Ac rfl (qb rfl (qz Cs rfl (Ae (Ab (Aa Ac rfl (EX AN DJ Mt rfl (qf CO rfl (ql Bs rfl ?_)))))))))
 obtain ⟨c1, h⟩ := Ba h
 refine Kd (f := Al) AN AN DJ Qf Mt (fun _ => rfl) c1 rfl (EX AN DJ Mt rfl (qf BK rfl (ql Bs rfl ?_)))
 obtain ⟨c2, h⟩ := Ba h
 refine Kd (f := Al) AN AN DJ Qf Mt (fun _ => rfl) c2 rfl (EX Dj FW Pq rfl (qf CM rfl (ql G5 rfl ?_)))
 obtain ⟨c3, h⟩ := Ba h
 refine Kd (f := Bw) Dj Dj FW R3 Pq (fun _ => rfl) c3 rfl (Br Cs Gt rfl (qs Az rfl (AC (by kernel_rfl) ?_)))
 obtain rfl := sj h
 refine Am (sm [(1000, 6), (1001, 10), (1002, 14)] [(2, oD (.ptr 2 0))] [(2, .box [.own 1000, .own 1001, .own 1002]), (1000, .vec 1 (((([] : List Int)) ++ p0.fBase).map Al)), (1001, .vec 1 (((([] : List Int)) ++ p0.fNext).map Al)), (1002, .vec 1 (((([] : List Int)) ++ p0.fHeld).map Bw))] rfl rfl) (AA ?_)
 exact ⟨⟨[_], ⟨.cellN _ _ _ _ _ _ _ rfl rfl A4 Az rfl rfl (Iq rfl), tv⟩, rfl⟩, ⟨rfl, rfl, rfl, tv⟩⟩
theorem Lx (N : Nat) (p0 : Ag) (r : (List Ag)) (h : Ek N p0 = some r) : AD Tryz.prog 111 [.e (.agg [sC (p0.fBase.map Al), sC (p0.fNext.map Al), sC (p0.fHeld.map Bw)])] [(3, r.map Ai)] (oD (.own 0)) := by
 unfold Ek at h
 refine Au (n := 62) (rs := [.tmp 2]) Tryz.func111 rfl rfl rfl (A5 rfl) (A5 rfl) rfl fun w0 S0 => ?_
 refine Ab (Aa Ac rfl (qb rfl (qa rfl (Ae (Ab (Aa Ac rfl (qa rfl (Ae (Ab (Ab (Aa Ac rfl (qa rfl (Ae ?_)))))))))))))
 refine AE (L := CG N p0) h (fun v1 => mk [(1, oD (.ptr 1 0)), (3, iD v1.1), (4, iD v1.2)] [(1, .box [sC (p0.fBase.map Al), sC (p0.fNext.map Al), sC (p0.fHeld.map Bw)])]) (fun v2 => mk [(1, oD (.ptr 1 0)), (3, iD v2)] [(1, .box [sC (p0.fBase.map Al), sC (p0.fNext.map Al), sC (p0.fHeld.map Bw)])]) (fun _ _ => rfl) (sm [] _ _ rfl rfl) (fun j1 n1 v1 h => ?_) (fun v2 s h hs => ?_)
 ·unfold CG at h
  refine Ab (Ab (Aa Ac rfl (qm rfl (qf BK rfl (ql Bs rfl (AR AN rfl (AY rfl (Ae ?_))))))))
  refine Ap rfl (fun c3 => ?_) (fun c3 => ?_)
  ·have h := An c3 h
   refine Aq ?_
   refine AL h (fun v4 => mk [(1, oD (.ptr 1 0)), (3, iD v4), (4, iD v1.2)] [(1, .box [sC (p0.fBase.map Al), sC (p0.fNext.map Al), sC (p0.fHeld.map Bw)])]) (fun j4 h => ?_) (fun v4 h => ?_)
   ·refine AJ (Ab (Aa Ac rfl (qf BK rfl (ql Bs rfl (qm rfl ?_)))))
    obtain ⟨v5, a5, b5, h⟩ := Ak h
    refine qi AN DJ a5 (Af b5) rfl (qk Cz rfl (Cv rfl (Ae ?_)))
    refine Ap rfl (fun c6 => ?_) (fun c6 => ?_)
    ·have h := An c6 h
     refine Aa Ac rfl (qm rfl (AP rfl (qa rfl (Ae ?_))))
     exact As _ h (sm [] _ _ rfl rfl)
    ·have h := Ao c6 h
     refine Aq ?_
     exact As _ h (sm [] _ _ rfl rfl)
   ·refine Aa Ac rfl (qm rfl (AP rfl (qa rfl (Ae ?_))))
    exact As _ h (sm [] _ _ rfl rfl)
  ·have h := Ao c3 h
   refine AQ ?_
   exact As _ h (sm [] _ _ rfl rfl)
 ·refine Am hs (Ab (Aa Ac rfl (qa rfl (Ae (Ab (Ab (Aa Ac rfl (qa rfl (Ae ?_)))))))))
  refine AE (L := BN N p0 v2) h (fun v7 => mk [(1, oD (.ptr 1 0)), (3, iD v2), (5, oD (.own 2001)), (6, iD v7.2)] [(1, .box [sC (p0.fBase.map Al), sC (p0.fNext.map Al), sC (p0.fHeld.map Bw)]), (2001, .vec 3 (v7.1.map Ai))]) (fun v8 => mk [(5, oD (.own 2002))] [(2002, .vec 3 (v8.map Ai))]) (fun _ _ => rfl) ((BB 5 2022 3 rfl rfl rfl).trans (sm [(2001, 2022)] _ _ rfl rfl)) (fun j7 n7 v7 h => ?_) (fun v8 s h hs => ?_)
  ·unfold BN at h
   refine Ab (Ab (Aa Ac rfl (qm rfl (qm rfl ?_))))
   obtain ⟨c9, h⟩ := Ba h
   refine Ir rfl c9 (AY rfl (Ae ?_))
   refine Ap rfl (fun c10 => ?_) (fun c10 => ?_)
   ·have h := An c10 h
    refine Aq (Ab (AJ (Ab (Aa Ac rfl (qL A4 Az rfl ?_)))))
    obtain ⟨v11, a11, h⟩ := bind_some h
    refine AG [2003, 2004, 2005] (Ky N p0 v11 a11) X7 rfl (qz Cs rfl (qs Az rfl (Ae (Ab (Aa Ac rfl (qa rfl (Ae (Ab (Ab (Aa Ac rfl (qa rfl (Ae ?_))))))))))))
    refine AE (L := B3 N p0 v7) h (fun v12 => mk [(1, oD (.ptr 1 0)), (3, iD v2), (5, oD (.own 2009)), (6, iD v7.2), (7, oD (.ptr 7 0)), (8, iD v12.2.1), (9, iD v12.2.2)] [(1, .box [sC (p0.fBase.map Al), sC (p0.fNext.map Al), sC (p0.fHeld.map Bw)]), (7, .box [.own 2006, .own 2007, .own 2008]), (2006, .vec 1 (v11.fBase.map Al)), (2007, .vec 1 (v12.1.map Al)), (2008, .vec 1 (v11.fHeld.map Bw)), (2009, .vec 3 (v7.1.map Ai))]) (fun v13 => mk [(1, oD (.ptr 1 0)), (3, iD v2), (5, oD (.own 2013)), (6, iD v7.2), (7, oD (.ptr 7 0))] [(1, .box [sC (p0.fBase.map Al), sC (p0.fNext.map Al), sC (p0.fHeld.map Bw)]), (7, .box [.own 2010, .own 2011, .own 2012]), (2010, .vec 1 (v11.fBase.map Al)), (2011, .vec 1 (v13.map Al)), (2012, .vec 1 (v11.fHeld.map Bw)), (2013, .vec 3 (v7.1.map Ai))]) (fun _ _ => rfl) (sm [(2006, 2003), (2007, 2004), (2008, 2005), (2009, 2001)] _ _ rfl rfl) (fun j12 n12 v12 h => ?_) (fun v13 s h hs => ?_)
    ·unfold B3 at h
     refine Ab (Ab (Aa Ac rfl (qm rfl (qf BK rfl (ql Bs rfl (AR AN rfl (AY rfl (Ae ?_))))))))
     refine Ap rfl (fun c14 => ?_) (fun c14 => ?_)
     ·have h := An c14 h
      refine Aq ?_
      refine AL h (fun v15 => mk [(1, oD (.ptr 1 0)), (3, iD v2), (5, oD (.own 2017)), (6, iD v7.2), (7, oD (.ptr 7 0)), (8, iD v15.2), (9, iD v12.2.2)] [(1, .box [sC (p0.fBase.map Al), sC (p0.fNext.map Al), sC (p0.fHeld.map Bw)]), (7, .box [.own 2014, .own 2015, .own 2016]), (2014, .vec 1 (v11.fBase.map Al)), (2015, .vec 1 (v15.1.map Al)), (2016, .vec 1 (v11.fHeld.map Bw)), (2017, .vec 3 (v7.1.map Ai))]) (fun j15 h => ?_) (fun v15 h => ?_)
      ·refine AJ (Ab (Ab (Aa Ac rfl (qf BK rfl (ql Bs rfl (qm rfl ?_))))))
       obtain ⟨v16, a16, b16, h⟩ := Ak h
       refine qi AN DJ a16 (Af b16) rfl (qk Cz rfl (AY rfl (Ae ?_)))
       refine Ap rfl (fun c17 => ?_) (fun c17 => ?_)
       ·have h := An c17 h
        refine AQ ?_
        exact As _ h (sm [(2014, 2006), (2015, 2007), (2016, 2008), (2017, 2009)] _ _ rfl rfl)
       ·have h := Ao c17 h
        refine Aq ?_
        refine AL h (fun v18 => mk [(1, oD (.ptr 1 0)), (3, iD v2), (5, oD (.own 2021)), (6, iD v7.2), (7, oD (.ptr 7 0)), (8, iD v12.2.1), (9, iD v12.2.2)] [(1, .box [sC (p0.fBase.map Al), sC (p0.fNext.map Al), sC (p0.fHeld.map Bw)]), (7, .box [.own 2018, .own 2019, .own 2020]), (2018, .vec 1 (v11.fBase.map Al)), (2019, .vec 1 (v18.map Al)), (2020, .vec 1 (v11.fHeld.map Bw)), (2021, .vec 3 (v7.1.map Ai))]) (fun j18 h => ?_) (fun v18 h => ?_)
        ·refine Ab (Aa Ac rfl (qm rfl (qm rfl ?_)))
         obtain ⟨c19, h⟩ := Ba h
         refine HN rfl c19 (X5 rfl (by decide) (BQ rfl (Ae ?_)))
         refine Ap rfl (fun c20 => ?_) (fun c20 => ?_)
         ·have h := An c20 h
          refine Aa Ac rfl (qf BK rfl (ql Bs rfl (qm rfl ?_)))
          obtain ⟨v21, a21, b21, h⟩ := Ak h
          refine qI AN DJ a21 (Af b21) rfl ?_
          refine AX rfl rfl rfl rfl (Af b21) rfl DJ rfl (A5 rfl) (AW Al v12.1 _ ((-1))) ?_
          refine Ae ?_
          exact As _ h (sm [(2018, 2006), (2019, 2007), (2020, 2008), (2021, 2009)] _ _ rfl rfl)
         ·have h := Ao c20 h
          refine Aq ?_
          exact As _ h (sm [(2018, 2006), (2019, 2007), (2020, 2008), (2021, 2009)] _ _ rfl rfl)
        ·refine Aa Ac rfl (qm rfl (AP rfl (qa rfl (Ae ?_))))
         exact As _ h (sm [(2014, 2018), (2015, 2019), (2016, 2020), (2017, 2021)] _ _ rfl rfl)
      ·refine Aa Ac rfl (qm rfl (AP rfl (qa rfl (Ae ?_))))
       exact As _ h (sm [(2006, 2014), (2007, 2015), (2008, 2016), (2009, 2017)] _ _ rfl rfl)
     ·have h := Ao c14 h
      refine AQ ?_
      exact As _ h (sm [(2010, 2006), (2011, 2007), (2012, 2008), (2013, 2009)] _ _ rfl rfl)
    ·refine Am hs (Aa Ac rfl (qm rfl (qL A4 Az rfl (EM (BR 2010 _ _ rfl rfl) (EM (BR 2011 _ _ rfl rfl) (EM (BR 2012 _ _ rfl rfl) (EX A0 Az Cs rfl ?_)))))))
     obtain ⟨c22, h⟩ := Ba h
     refine Fb (f := Ai) A0 A0 Az SD Cs c22 rfl (qa rfl (Ae (Aa Ac rfl (qm rfl (AP rfl (qa rfl (Ae ?_)))))))
     exact As _ h (sm [(2001, 60)] _ _ rfl rfl)
   ·have h := Ao c10 h
    refine AQ ?_
    exact As _ h (sm [(2002, 2001)] _ _ rfl rfl)
  ·refine Am hs (Ab (Aa Ac rfl (qm rfl (qa rfl (Ae ?_)))))
   obtain rfl := sj h
   refine Am (sm [(1000, 2002)] [(2, oD (.own 1000))] [(1000, .vec 3 (v8.map Ai))] rfl rfl) (AA ?_)
   exact ⟨⟨[_], ⟨.tmp _ _ rfl, tv⟩, rfl⟩, ⟨rfl, tv⟩⟩
theorem KD (N : Nat) (p0 : Aj) (p1 : Ag) (r : (List Ag) × Int) (h : E5 N p0 p1 = some r) : AD Tryz.prog 128 [.e (.agg [sC (p0.fVersions.map Al), sC (p0.fNow.map Al), sC (p0.fTarget.map Al), sC (p0.fTables.map Ar)]), .e (.agg [sC (p1.fBase.map Al), sC (p1.fNext.map Al), sC (p1.fHeld.map Bw)])] [(3, r.1.map Ai)] (.tup [.one (.own 0), .one (iC r.2)]) := by
 unfold E5 at h
 refine Au (n := 15) (rs := [.tmp 4, .tmp 5]) Tryz.func128 rfl rfl rfl (A5 rfl) (A5 rfl) rfl fun w0 S0 => ?_
 refine Ab (Aa Ac rfl (qb rfl (qb rfl (qa rfl (qa rfl (Ae (Ab (Ab (Aa Ac rfl (qL Di Da rfl (qL A4 Az rfl ?_)))))))))))
 obtain ⟨v1, a1, h⟩ := bind_some h
 refine AG [] (GO N p0 p1 v1 a1) Wz rfl (qa rfl (Ae (Ab (Aa Ac rfl (qm rfl (BP rfl (Ae ?_)))))))
 refine Ap rfl (fun c2 => ?_) (fun c2 => ?_)
 ·have h := An c2 h
  refine Ab (Aa Ac rfl (qm rfl (qa rfl (qa rfl (Ae ?_)))))
  obtain rfl := sj h
  refine Am ((BB 4 2001 3 rfl rfl rfl).trans (sm [(1000, 2001)] [(4, oD (.own 1000)), (5, iD v1)] [(1000, .vec 3 ((([] : List Ag)).map Ai))] rfl rfl)) (AA ?_)
  exact ⟨⟨[_, _], ⟨.tmp _ _ rfl, ⟨.tmp _ _ rfl, tv⟩⟩, rfl⟩, ⟨rfl, tv⟩⟩
 ·have h := Ao c2 h
  refine Aq (Ab (Aa Ac rfl (qL A4 Az rfl ?_)))
  obtain ⟨v3, a3, h⟩ := bind_some h
  refine AG [2002] (Lx N p1 v3 a3) XE rfl (qa rfl (qa rfl (Ae ?_)))
  obtain rfl := sj h
  refine Am (sm [(1000, 2002)] [(4, oD (.own 1000)), (5, iD 0)] [(1000, .vec 3 (v3.map Ai))] rfl rfl) (AA ?_)
  exact ⟨⟨[_, _], ⟨.tmp _ _ rfl, ⟨.tmp _ _ rfl, tv⟩⟩, rfl⟩, ⟨rfl, tv⟩⟩
theorem KX (N : Nat) (p0 : Aj) (p1 : Ag) (r : (List Ah)) (h : Et N p0 p1 = some r) : AD Tryz.prog 129 [.e (.agg [sC (p0.fVersions.map Al), sC (p0.fNow.map Al), sC (p0.fTarget.map Al), sC (p0.fTables.map Ar)]), .e (.agg [sC (p1.fBase.map Al), sC (p1.fNext.map Al), sC (p1.fHeld.map Bw)])] [(3, r.map Ad)] (oD (.own 0)) := by
 unfold Et at h
 refine Au (n := 111) (rs := [.tmp 4]) Tryz.func129 rfl rfl rfl (A5 rfl) (A5 rfl) rfl fun w0 S0 => ?_
 refine Ab (Aa Ac rfl (qb rfl (qb rfl (qa rfl (Ae (Ab (Aa Ac rfl (qa rfl (Ae (Ab (Ab (Aa Ac rfl (qa rfl (Ae ?_))))))))))))))
 refine AE (L := CK N p0 p1) h (fun v1 => mk [(2, oD (.ptr 2 0)), (3, oD (.ptr 3 0)), (5, oD (.own 2001)), (6, iD v1.2)] [(2, .box [sC (p0.fVersions.map Al), sC (p0.fNow.map Al), sC (p0.fTarget.map Al), sC (p0.fTables.map Ar)]), (3, .box [sC (p1.fBase.map Al), sC (p1.fNext.map Al), sC (p1.fHeld.map Bw)]), (2001, .vec 3 (v1.1.map Ad))]) (fun v2 => mk [(5, oD (.own 2002))] [(2002, .vec 3 (v2.map Ad))]) (fun _ _ => rfl) ((BB 5 2013 3 rfl rfl rfl).trans (sm [(2001, 2013)] _ _ rfl rfl)) (fun j1 n1 v1 h => ?_) (fun v2 s h hs => ?_)
 ·unfold CK at h
  refine Ab (Ab (Aa Ac rfl (qm rfl (qf CI rfl (ql GQ rfl (AR D6 rfl (AY rfl (Ae ?_))))))))
  refine Ap rfl (fun c3 => ?_) (fun c3 => ?_)
  ·have h := An c3 h
   refine Aq (Ab (AJ (Ab (Aa Ac rfl (qf CI rfl (ql GQ rfl (qm rfl ?_)))))))
   obtain ⟨v4, a4, b4, h⟩ := Ak h
   refine qi D6 EB a4 (Af b4) rfl (qK Iy EB rfl (qz NA rfl (qs EB rfl (Ae (Ab (Aa Ac rfl (qL A4 Az rfl (qf DZ rfl (ql Cz rfl ?_)))))))))
   obtain ⟨v5, a5, h⟩ := bind_some h
   refine AG [] (Ec N p1 v4.fFrom v5 a5) Uz rfl (qa rfl (Ae ?_))
   refine AL h (fun v6 => mk [(2, oD (.ptr 2 0)), (3, oD (.ptr 3 0)), (5, oD (.own 2003)), (6, iD v1.2), (7, oD (.ptr 7 0)), (8, pD (.val (.int .u8 v6)))] [(2, .box [sC (p0.fVersions.map Al), sC (p0.fNow.map Al), sC (p0.fTarget.map Al), sC (p0.fTables.map Ar)]), (3, .box [sC (p1.fBase.map Al), sC (p1.fNext.map Al), sC (p1.fHeld.map Bw)]), (7, .box [iC v4.fKind, iC v4.fFrom, iC v4.fTo, .pure (.val (.bool v4.fAware)), sC (v4.fOK.map (Fe eB)), sC (v4.fRewrite.map (Fe eB))]), (2003, .vec 3 (v1.1.map Ad))]) (fun j6 h => ?_) (fun v6 h => ?_)
   ·refine Ab (Aa Ac rfl (qL Iy EB rfl ?_))
    obtain ⟨v7, a7, h⟩ := bind_some h
    refine AG [] (C9 N v4 v7 a7) RA rfl (Ae ?_)
    refine Ap rfl (fun c8 => ?_) (fun c8 => ?_)
    ·have h := An c8 h
     refine Aa Ac rfl (qf CM rfl (ql G5 rfl (qm rfl ?_)))
     obtain ⟨v9, a9, b9, h⟩ := Ak h
     refine qi Dj FW a9 (Af b9) rfl (qk JZ rfl (qa rfl (Ae ?_)))
     exact As _ h (sm [(2003, 2001)] _ _ rfl rfl)
    ·have h := Ao c8 h
     refine Aq ?_
     exact As _ h (sm [(2003, 2001)] _ _ rfl rfl)
   ·refine Ab (Aa Ac rfl (qa rfl (Ae ?_)))
    refine AE (L := BT N p0 p1 v1 v4 v6) h (fun v10 => mk [(2, oD (.ptr 2 0)), (3, oD (.ptr 3 0)), (5, oD (.own 2004)), (6, iD v1.2), (7, oD (.ptr 7 0)), (8, pD (.val (.int .u8 v6))), (9, iD v10.2)] [(2, .box [sC (p0.fVersions.map Al), sC (p0.fNow.map Al), sC (p0.fTarget.map Al), sC (p0.fTables.map Ar)]), (3, .box [sC (p1.fBase.map Al), sC (p1.fNext.map Al), sC (p1.fHeld.map Bw)]), (7, .box [iC v4.fKind, iC v4.fFrom, iC v4.fTo, .pure (.val (.bool v4.fAware)), sC (v4.fOK.map (Fe eB)), sC (v4.fRewrite.map (Fe eB))]), (2004, .vec 3 (v10.1.map Ad))]) (fun v11 => mk [(2, oD (.ptr 2 0)), (3, oD (.ptr 3 0)), (5, oD (.own 2005)), (6, iD v1.2)] [(2, .box [sC (p0.fVersions.map Al), sC (p0.fNow.map Al), sC (p0.fTarget.map Al), sC (p0.fTables.map Ar)]), (3, .box [sC (p1.fBase.map Al), sC (p1.fNext.map Al), sC (p1.fHeld.map Bw)]), (2005, .vec 3 (v11.map Ad))]) (fun _ _ => rfl) (sm [(2004, 2003)] _ _ rfl rfl) (fun j10 n10 v10 h => ?_) (fun v11 s h hs => ?_)
    ·unfold BT at h
     refine Ab (Ab (Aa Ac rfl (qm rfl (qf Cq rfl (ql Bs rfl (qf DZ rfl (ql Cz rfl ?_)))))))
     obtain ⟨v12, a12, b12, h⟩ := Ak h
     refine qi AN DJ a12 (Af b12) rfl (qk Cz rfl (AY rfl (Ae ?_)))
     refine Ap rfl (fun c13 => ?_) (fun c13 => ?_)
     ·have h := An c13 h
      refine Aq ?_
      refine AL h (fun v14 => mk [(2, oD (.ptr 2 0)), (3, oD (.ptr 3 0)), (5, oD (.own 2006)), (6, iD v1.2), (7, oD (.ptr 7 0)), (8, pD (.val (.int .u8 v6))), (9, iD v10.2)] [(2, .box [sC (p0.fVersions.map Al), sC (p0.fNow.map Al), sC (p0.fTarget.map Al), sC (p0.fTables.map Ar)]), (3, .box [sC (p1.fBase.map Al), sC (p1.fNext.map Al), sC (p1.fHeld.map Bw)]), (7, .box [iC v4.fKind, iC v4.fFrom, iC v4.fTo, .pure (.val (.bool v4.fAware)), sC (v4.fOK.map (Fe eB)), sC (v4.fRewrite.map (Fe eB))]), (2006, .vec 3 (v14.map Ad))]) (fun j14 h => ?_) (fun v14 h => ?_)
      ·refine AJ (Ab (Ab (Aa Ac rfl (qm rfl (qm rfl ?_)))))
       obtain ⟨v15, a15, h⟩ := bind_some h
       refine AG [] (Gf N v6 v10.2 v15 a15) Su rfl (BS rfl (Ae ?_))
       refine Ap rfl (fun c16 => ?_) (fun c16 => ?_)
       ·have h := An c16 h
        refine AQ ?_
        exact As _ h (sm [(2006, 2004)] _ _ rfl rfl)
       ·have h := Ao c16 h
        refine Aq (Ab (Aa Ac rfl (qa rfl (Ae (Ab (Ab (Aa Ac rfl (qa rfl (Ae ?_)))))))))
        refine AE (L := BE N p0 p1 v1 v4 v10) h (fun v17 => mk [(2, oD (.ptr 2 0)), (3, oD (.ptr 3 0)), (5, oD (.own 2007)), (6, iD v1.2), (7, oD (.ptr 7 0)), (8, pD (.val (.int .u8 v6))), (9, iD v10.2), (10, bD v17.2.1), (11, iD v17.2.2)] [(2, .box [sC (p0.fVersions.map Al), sC (p0.fNow.map Al), sC (p0.fTarget.map Al), sC (p0.fTables.map Ar)]), (3, .box [sC (p1.fBase.map Al), sC (p1.fNext.map Al), sC (p1.fHeld.map Bw)]), (7, .box [iC v4.fKind, iC v4.fFrom, iC v4.fTo, .pure (.val (.bool v4.fAware)), sC (v4.fOK.map (Fe eB)), sC (v4.fRewrite.map (Fe eB))]), (2007, .vec 3 (v17.1.map Ad))]) (fun v18 => mk [(2, oD (.ptr 2 0)), (3, oD (.ptr 3 0)), (5, oD (.own 2008)), (6, iD v1.2), (7, oD (.ptr 7 0)), (8, pD (.val (.int .u8 v6))), (9, iD v10.2), (10, bD v18.2)] [(2, .box [sC (p0.fVersions.map Al), sC (p0.fNow.map Al), sC (p0.fTarget.map Al), sC (p0.fTables.map Ar)]), (3, .box [sC (p1.fBase.map Al), sC (p1.fNext.map Al), sC (p1.fHeld.map Bw)]), (7, .box [iC v4.fKind, iC v4.fFrom, iC v4.fTo, .pure (.val (.bool v4.fAware)), sC (v4.fOK.map (Fe eB)), sC (v4.fRewrite.map (Fe eB))]), (2008, .vec 3 (v18.1.map Ad))]) (fun _ _ => rfl) (sm [(2007, 2004)] _ _ rfl rfl) (fun j17 n17 v17 h => ?_) (fun v18 s h hs => ?_)
        ·unfold BE at h
         refine Ab (Ab (Aa Ac rfl (qm rfl (qf Cq rfl (ql Bs rfl (qf Jj rfl (ql Cz rfl ?_)))))))
         obtain ⟨v19, a19, b19, h⟩ := Ak h
         refine qi AN DJ a19 (Af b19) rfl (qk Cz rfl (AY rfl (Ae ?_)))
         refine Ap rfl (fun c20 => ?_) (fun c20 => ?_)
         ·have h := An c20 h
          refine Aq ?_
          refine AL h (fun v21 => mk [(2, oD (.ptr 2 0)), (3, oD (.ptr 3 0)), (5, oD (.own 2009)), (6, iD v1.2), (7, oD (.ptr 7 0)), (8, pD (.val (.int .u8 v6))), (9, iD v10.2), (10, bD v21.2), (11, iD v17.2.2)] [(2, .box [sC (p0.fVersions.map Al), sC (p0.fNow.map Al), sC (p0.fTarget.map Al), sC (p0.fTables.map Ar)]), (3, .box [sC (p1.fBase.map Al), sC (p1.fNext.map Al), sC (p1.fHeld.map Bw)]), (7, .box [iC v4.fKind, iC v4.fFrom, iC v4.fTo, .pure (.val (.bool v4.fAware)), sC (v4.fOK.map (Fe eB)), sC (v4.fRewrite.map (Fe eB))]), (2009, .vec 3 (v21.1.map Ad))]) (fun j21 h => ?_) (fun v21 h => ?_)
          ·refine AJ (Ab (Ab (Aa Ac rfl (qL A4 Az rfl (qf Jj rfl (ql Cz rfl ?_))))))
           obtain ⟨v22, a22, h⟩ := bind_some h
           refine AG [] (Ec N p1 v4.fTo v22 a22) Uz rfl (qm rfl ?_)
           obtain ⟨v23, a23, h⟩ := bind_some h
           refine AG [] (Gf N v22 v17.2.2 v23 a23) Su rfl (BS rfl (Ae ?_))
           refine Ap rfl (fun c24 => ?_) (fun c24 => ?_)
           ·have h := An c24 h
            refine AQ ?_
            exact As _ h (sm [(2009, 2007)] _ _ rfl rfl)
           ·have h := Ao c24 h
            refine Aq ?_
            refine AL h (fun v25 => mk [(2, oD (.ptr 2 0)), (3, oD (.ptr 3 0)), (5, oD (.own 2010)), (6, iD v1.2), (7, oD (.ptr 7 0)), (8, pD (.val (.int .u8 v6))), (9, iD v10.2), (10, bD v25), (11, iD v17.2.2)] [(2, .box [sC (p0.fVersions.map Al), sC (p0.fNow.map Al), sC (p0.fTarget.map Al), sC (p0.fTables.map Ar)]), (3, .box [sC (p1.fBase.map Al), sC (p1.fNext.map Al), sC (p1.fHeld.map Bw)]), (7, .box [iC v4.fKind, iC v4.fFrom, iC v4.fTo, .pure (.val (.bool v4.fAware)), sC (v4.fOK.map (Fe eB)), sC (v4.fRewrite.map (Fe eB))]), (2010, .vec 3 (v17.1.map Ad))]) (fun j25 h => ?_) (fun v25 h => ?_)
            ·refine Aa Ac rfl (qm rfl (qm rfl ?_))
             refine AB (t := 67) rfl (fun c26 => ?_) (fun c26 => ?_)
             ·have h := An c26 h
              refine qn rfl (qn rfl (qn rfl (qn rfl (qn rfl (qn rfl (qn rfl (qn rfl (qp rfl (qa rfl (Ae ?_))))))))))
              exact As _ h (sm [(2010, 2007)] _ _ rfl rfl)
             ·have h := Ao c26 h
              refine qf IB rfl (ql IP rfl (qm rfl ?_))
              obtain ⟨v27, a27, b27, h⟩ := Ak h
              refine qi F1 MZ a27 (Af b27) rfl (qk Ns rfl (qm rfl ?_))
              obtain ⟨v28, a28, b28, h⟩ := Ak h
              refine qi Ji VM a28 (Af b28) rfl (qk SI rfl (qp rfl (qa rfl (Ae ?_))))
              exact As _ h (sm [(2010, 2007)] _ _ rfl rfl)
            ·refine AL h (fun v29 => mk [(2, oD (.ptr 2 0)), (3, oD (.ptr 3 0)), (5, oD (.own 2011)), (6, iD v1.2), (7, oD (.ptr 7 0)), (8, pD (.val (.int .u8 v6))), (9, iD v10.2), (10, bD v25), (11, iD v17.2.2), (90, bD v29)] [(2, .box [sC (p0.fVersions.map Al), sC (p0.fNow.map Al), sC (p0.fTarget.map Al), sC (p0.fTables.map Ar)]), (3, .box [sC (p1.fBase.map Al), sC (p1.fNext.map Al), sC (p1.fHeld.map Bw)]), (7, .box [iC v4.fKind, iC v4.fFrom, iC v4.fTo, .pure (.val (.bool v4.fAware)), sC (v4.fOK.map (Fe eB)), sC (v4.fRewrite.map (Fe eB))]), (2011, .vec 3 (v17.1.map Ad))]) (fun j29 h => ?_) (fun v29 h => ?_)
             ·refine Aa Ac rfl (qf KT rfl (ql SI rfl (BS rfl (qm rfl ?_))))
              refine AB (t := 80) rfl (fun c30 => ?_) (fun c30 => ?_)
              ·have h := An c30 h
               refine qf IB rfl (ql IP rfl (qm rfl ?_))
               obtain ⟨v31, a31, b31, h⟩ := Ak h
               refine qi F1 MZ a31 (Af b31) rfl (qk Ns rfl (qm rfl ?_))
               obtain ⟨v32, a32, b32, h⟩ := Ak h
               refine qi Ji VM a32 (Af b32) rfl (qk SI rfl (BS rfl (qp rfl (Ae ?_))))
               exact As _ h (sm [(2011, 2010)] _ _ rfl rfl)
              ·have h := Ao c30 h
               refine qn rfl (qn rfl (qn rfl (qn rfl (qn rfl (qn rfl (qn rfl (qn rfl (qn rfl (qp rfl (Ae ?_))))))))))
               exact As _ h (sm [(2011, 2010)] _ _ rfl rfl)
             ·refine Ap rfl (fun c33 => ?_) (fun c33 => ?_)
              ·have h := An c33 h
               refine Aa Ac rfl (qm rfl (qm rfl (qm rfl (qm rfl (Br HW PQ rfl (EX A8 AU HW rfl ?_))))))
               obtain ⟨c34, h⟩ := Ba h
               refine Fb (f := Ad) A8 A8 AU Qn HW c34 rfl (qa rfl (Ae ?_))
               exact As _ h (sm [(2009, 97)] _ _ rfl rfl)
              ·have h := Ao c33 h
               refine Aq ?_
               exact As _ h (sm [(2009, 2011)] _ _ rfl rfl)
          ·refine Aa Ac rfl (qm rfl (AP rfl (qa rfl (Ae ?_))))
           exact As _ h (sm [(2007, 2009)] _ _ rfl rfl)
         ·have h := Ao c20 h
          refine AQ ?_
          exact As _ h (sm [(2008, 2007)] _ _ rfl rfl)
        ·refine Am hs ?_
         refine AL h (fun v35 => mk [(2, oD (.ptr 2 0)), (3, oD (.ptr 3 0)), (5, oD (.own 2012)), (6, iD v1.2), (7, oD (.ptr 7 0)), (8, pD (.val (.int .u8 v6))), (9, iD v10.2), (103, bD v35)] [(2, .box [sC (p0.fVersions.map Al), sC (p0.fNow.map Al), sC (p0.fTarget.map Al), sC (p0.fTables.map Ar)]), (3, .box [sC (p1.fBase.map Al), sC (p1.fNext.map Al), sC (p1.fHeld.map Bw)]), (7, .box [iC v4.fKind, iC v4.fFrom, iC v4.fTo, .pure (.val (.bool v4.fAware)), sC (v4.fOK.map (Fe eB)), sC (v4.fRewrite.map (Fe eB))]), (2012, .vec 3 (v18.1.map Ad))]) (fun j35 h => ?_) (fun v35 h => ?_)
         ·refine Aa Ac rfl (qf KT rfl (ql SI rfl (qm rfl ?_)))
          refine AB (t := 100) rfl (fun c36 => ?_) (fun c36 => ?_)
          ·have h := An c36 h
           refine qm rfl (BS rfl (qp rfl (Ae ?_)))
           exact As _ h (sm [(2012, 2008)] _ _ rfl rfl)
          ·have h := Ao c36 h
           refine qn rfl (qn rfl (qp rfl (Ae ?_)))
           exact As _ h (sm [(2012, 2008)] _ _ rfl rfl)
         ·refine Ap rfl (fun c37 => ?_) (fun c37 => ?_)
          ·have h := An c37 h
           refine Aa Ac rfl (qm rfl (qm rfl (qm rfl (Br HW PQ rfl (EX A8 AU HW rfl ?_)))))
           obtain ⟨c38, h⟩ := Ba h
           refine Fb (f := Ad) A8 A8 AU Qn HW c38 rfl (qa rfl (Ae ?_))
           exact As _ h (sm [(2006, 109)] _ _ rfl rfl)
          ·have h := Ao c37 h
           refine Aq ?_
           exact As _ h (sm [(2006, 2012)] _ _ rfl rfl)
      ·refine Aa Ac rfl (qm rfl (AP rfl (qa rfl (Ae ?_))))
       exact As _ h (sm [(2004, 2006)] _ _ rfl rfl)
     ·have h := Ao c13 h
      refine AQ ?_
      exact As _ h (sm [(2005, 2004)] _ _ rfl rfl)
    ·refine Am hs (Aa Ac rfl (qm rfl (AP rfl (qa rfl (Ae ?_)))))
     exact As _ h (sm [(2001, 2005)] _ _ rfl rfl)
  ·have h := Ao c3 h
   refine AQ ?_
   exact As _ h (sm [(2002, 2001)] _ _ rfl rfl)
 ·refine Am hs (Ab (Aa Ac rfl (qm rfl (qa rfl (Ae ?_)))))
  obtain rfl := sj h
  refine Am (sm [(1000, 2002)] [(4, oD (.own 1000))] [(1000, .vec 3 (v2.map Ad))] rfl rfl) (AA ?_)
  exact ⟨⟨[_], ⟨.tmp _ _ rfl, tv⟩, rfl⟩, ⟨rfl, tv⟩⟩
theorem KW (N : Nat) (p0 : Aj) (p1 : Ag) (r : Ag × Ah × Int) (h : Ey N p0 p1 = some r) : AD Tryz.prog 101 [.e (.agg [sC (p0.fVersions.map Al), sC (p0.fNow.map Al), sC (p0.fTarget.map Al), sC (p0.fTables.map Ar)]), .e (.agg [sC (p1.fBase.map Al), sC (p1.fNext.map Al), sC (p1.fHeld.map Bw)])] [] (.tup [.agg [sC (r.1.fBase.map Al), sC (r.1.fNext.map Al), sC (r.1.fHeld.map Bw)], .agg [iC r.2.1.fTable, iC r.2.1.fWriter, iC r.2.1.fReader], .one (iC r.2.2)]) := by
 unfold Ey at h
 refine Au (n := 46) (rs := [.cell 4 46, .cell 5 66, .tmp 6]) Tryz.func101 rfl rfl rfl (A5 rfl) (A5 rfl) rfl fun w0 S0 => ?_
 refine Ab (Aa Ac rfl (qb rfl (qb rfl (qz Cs rfl (qz HW rfl (qa rfl (Ae (Ab (Aa Ac rfl (qL Di Da rfl (qL A4 Az rfl ?_)))))))))))
 obtain ⟨v1, a1, h⟩ := bind_some h
 refine AG [2001] (KD N p0 p1 v1 a1) XW rfl (qm rfl (qx rfl (qx rfl (qa rfl (qa rfl (Ae (Ab (Ab (Aa Ac rfl (qm rfl (BP rfl (Ae ?_))))))))))))
 refine Ap rfl (fun c2 => ?_) (fun c2 => ?_)
 ·have h := An c2 h
  refine Ab (Aa Ac rfl (Br Cs Gt rfl (Br HW PQ rfl (qm rfl (qs Az rfl (qs AU rfl (qa rfl (Ae ?_))))))))
  obtain rfl := sj h
  refine Am ((HT 4 _ rfl).trans (sm [] [(4, oD (.ptr 4 0)), (5, oD (.ptr 5 0)), (6, iD v1.2)] [(4, .box [sC ((([] : List Int)).map Al), sC ((([] : List Int)).map Al), sC ((([] : List Int)).map Bw)]), (5, .box [iC 0, iC 0, iC 0])] rfl rfl)) (AA ?_)
  exact ⟨⟨[_, _, _], ⟨.cellN _ _ _ _ _ _ _ rfl rfl A4 Az rfl rfl (Iq rfl), ⟨.cellN _ _ _ _ _ _ _ rfl rfl CP AU rfl rfl (Iq rfl), ⟨.tmp _ _ rfl, tv⟩⟩⟩, rfl⟩, tv⟩
 ·have h := Ao c2 h
  refine Aq (Ab (Ab (Aa Ac rfl (qa rfl (Ae ?_)))))
  refine AE (L := CL N p0 v1) h (fun v3 => mk [(2, oD (.ptr 2 0)), (4, oD (.ptr 4 0)), (5, oD (.ptr 5 0)), (7, oD (.own 2002)), (9, iD v3)] [(2, .box [sC (p0.fVersions.map Al), sC (p0.fNow.map Al), sC (p0.fTarget.map Al), sC (p0.fTables.map Ar)]), (4, .box [.pure (.nil0), .pure (.nil0), .pure (.nil0)]), (5, .box [iC 0, iC 0, iC 0]), (2002, .vec 3 (v1.1.map Ai))]) (fun v4 => mk [(4, oD (.ptr 4 0)), (5, oD (.ptr 5 0))] [(4, .box [.pure (.nil0), .pure (.nil0), .pure (.nil0)]), (5, .box [iC 0, iC 0, iC 0])]) (fun _ _ => rfl) (sm [(2002, 2001)] _ _ rfl rfl) (fun j3 n3 v3 h => ?_) (fun v4 s h hs => ?_)
  ·unfold CL at h
   refine Ab (Ab (Aa Ac rfl (qm rfl (qm rfl (EP A0 rfl (AY rfl (Ae ?_)))))))
   refine Ap rfl (fun c5 => ?_) (fun c5 => ?_)
   ·have h := An c5 h
    refine Aq (Ab (AJ (Ab (Aa Ac rfl (qL Di Da rfl (qm rfl (qm rfl ?_)))))))
    obtain ⟨v6, a6, b6, h⟩ := Ak h
    refine qI A0 Az a6 (Af b6) rfl (qJ A4 Az (Af b6) rfl ?_)
    obtain ⟨v7, a7, h⟩ := bind_some h
    refine AG [2003] (KX N p0 v6 v7 a7) XR rfl (qa rfl (AC (by kernel_rfl) (Ab (Aa Ac rfl (qm rfl (EP A8 rfl (DC rfl (Ae ?_))))))))
    refine Ap rfl (fun c8 => ?_) (fun c8 => ?_)
    ·have h := An c8 h
     refine Ab (Aa Ac rfl (qm rfl (qm rfl ?_)))
     obtain ⟨v9, a9, b9, h⟩ := Ak h
     refine qI A0 Az a9 (Af b9) rfl (qJ A4 Az (Af b9) rfl (qm rfl ?_))
     obtain ⟨v10, a10, b10, h⟩ := Ak h
     refine qI A8 AU a10 (Af b10) rfl (qJ CP AU (Af b10) rfl (qs Az rfl (qs AU rfl (qa rfl (AC (by kernel_rfl) ?_)))))
     obtain rfl := sj h
     refine Am (sm [] [(4, oD (.ptr 4 0)), (5, oD (.ptr 5 0)), (6, iD 0)] [(4, .box [sC (v9.fBase.map Al), sC (v9.fNext.map Al), sC (v9.fHeld.map Bw)]), (5, .box [iC v10.fTable, iC v10.fWriter, iC v10.fReader])] rfl rfl) (AA ?_)
     exact ⟨⟨[_, _, _], ⟨.cellN _ _ _ _ _ _ _ rfl rfl A4 Az rfl rfl (Iq rfl), ⟨.cellN _ _ _ _ _ _ _ rfl rfl CP AU rfl rfl (Iq rfl), ⟨.tmp _ _ rfl, tv⟩⟩⟩, rfl⟩, tv⟩
    ·have h := Ao c8 h
     refine Aq (Aa Ac rfl (qm rfl (AP rfl (qa rfl (Ae ?_)))))
     exact As _ h (sm [] _ _ rfl rfl)
   ·have h := Ao c5 h
    refine AQ ?_
    exact As _ h (sm [] _ _ rfl rfl)
  ·refine Am hs (Ab (Aa Ac rfl (Br Cs Gt rfl (Br HW PQ rfl (qs Az rfl (qs AU rfl (qa rfl (Ae ?_))))))))
   obtain rfl := sj h
   refine Am ((HT 4 _ rfl).trans (sm [] [(4, oD (.ptr 4 0)), (5, oD (.ptr 5 0)), (6, iD 15)] [(4, .box [sC ((([] : List Int)).map Al), sC ((([] : List Int)).map Al), sC ((([] : List Int)).map Bw)]), (5, .box [iC 0, iC 0, iC 0])] rfl rfl)) (AA ?_)
   exact ⟨⟨[_, _, _], ⟨.cellN _ _ _ _ _ _ _ rfl rfl A4 Az rfl rfl (Iq rfl), ⟨.cellN _ _ _ _ _ _ _ rfl rfl CP AU rfl rfl (Iq rfl), ⟨.tmp _ _ rfl, tv⟩⟩⟩, rfl⟩, tv⟩
theorem Ke (N : Nat) (p0 : Aj) (p1 : Ag) (r : (List A3)) (h : Ee N p0 p1 = some r) : AD Tryz.prog 57 [.e (.agg [sC (p0.fVersions.map Al), sC (p0.fNow.map Al), sC (p0.fTarget.map Al), sC (p0.fTables.map Ar)]), .e (.agg [sC (p1.fBase.map Al), sC (p1.fNext.map Al), sC (p1.fHeld.map Bw)])] [(9, r.map Bx)] (oD (.own 0)) := by
 unfold Ee at h
 refine Au (n := 52) (rs := [.tmp 4]) Tryz.func57 rfl rfl rfl (A5 rfl) (A5 rfl) rfl fun w0 S0 => ?_
 refine Ab (Aa Ac rfl (qb rfl (qb rfl (qa rfl (Ae (Ab (Aa Ac rfl (qa rfl (Ae (Ab (Aa Ac rfl (qL Di Da rfl (qL A4 Az rfl ?_)))))))))))))
 obtain ⟨v1, a1, h⟩ := bind_some h
 refine AG [2001] (KZ N p0 p1 v1 a1) Zd rfl (qa rfl (Ae (Ab (Ab (Aa Ac rfl (qa rfl (Ae ?_)))))))
 refine AE (L := B7 N p0 p1 v1) h (fun v2 => mk [(2, oD (.ptr 2 0)), (3, oD (.ptr 3 0)), (5, oD (.own 2002)), (6, oD (.own 2003)), (7, iD v2.2)] [(2, .box [sC (p0.fVersions.map Al), sC (p0.fNow.map Al), sC (p0.fTarget.map Al), sC (p0.fTables.map Ar)]), (3, .box [sC (p1.fBase.map Al), sC (p1.fNext.map Al), sC (p1.fHeld.map Bw)]), (2002, .vec 9 (v2.1.map Bx)), (2003, .vec 3 (v1.map A2))]) (fun v3 => mk [(5, oD (.own 2004))] [(2004, .vec 9 (v3.map Bx))]) (fun _ _ => rfl) ((BB 5 2010 9 rfl rfl rfl).trans (sm [(2002, 2010), (2003, 2001)] _ _ rfl rfl)) (fun j2 n2 v2 h => ?_) (fun v3 s h hs => ?_)
 ·unfold B7 at h
  refine Ab (Ab (Aa Ac rfl (qm rfl (qm rfl (EP EU rfl (AY rfl (Ae ?_)))))))
  refine Ap rfl (fun c4 => ?_) (fun c4 => ?_)
  ·have h := An c4 h
   refine Aq ?_
   refine AL h (fun v5 => mk [(2, oD (.ptr 2 0)), (3, oD (.ptr 3 0)), (5, oD (.own 2005)), (6, oD (.own 2006)), (7, iD v2.2)] [(2, .box [sC (p0.fVersions.map Al), sC (p0.fNow.map Al), sC (p0.fTarget.map Al), sC (p0.fTables.map Ar)]), (3, .box [sC (p1.fBase.map Al), sC (p1.fNext.map Al), sC (p1.fHeld.map Bw)]), (2005, .vec 9 (v5.map Bx)), (2006, .vec 3 (v1.map A2))]) (fun j5 h => ?_) (fun v5 h => ?_)
   ·refine AJ (Ab (Aa Ac rfl (qL Di Da rfl (qL A4 Az rfl (qm rfl (qm rfl ?_))))))
    obtain ⟨v6, a6, b6, h⟩ := Ak h
    refine qI EU Es a6 (Af b6) rfl (qJ HR Es (Af b6) rfl ?_)
    obtain ⟨v7, a7, h⟩ := bind_some h
    refine AG [2007, 2008, 2009] (Ik N p0 p1 v6 v7 a7) Yc rfl (qm rfl (qx rfl (qx rfl (qz Cs rfl (qs Az rfl (qa rfl (AC (by kernel_rfl) (Ab (Aa Ac rfl (qL Di Da rfl (qL A4 Az rfl (EM (BR 2007 _ _ rfl rfl) (EM (BR 2008 _ _ rfl rfl) (EM (BR 2009 _ _ rfl rfl) ?_))))))))))))))
    obtain ⟨v8, a8, h⟩ := bind_some h
    refine AG [] (KW N p0 v7.1 v8 a8) Xs rfl (qm rfl (qx rfl (qx rfl (qx rfl (qz Cs rfl (qz HW rfl (qs Az rfl (qs AU rfl (qa rfl (Ae (Ab (Aa Ac rfl (qm rfl (BQ rfl (Ae ?_)))))))))))))))
    refine Ap rfl (fun c9 => ?_) (fun c9 => ?_)
    ·have h := An c9 h
     refine Aa Ac rfl (qm rfl (qm rfl (qm rfl ?_)))
     obtain ⟨v10, a10, b10, h⟩ := Ak h
     refine qI EU Es a10 (Af b10) rfl (qJ HR Es (Af b10) rfl (qL A4 Az rfl (qL CP AU rfl (Br Pw Ya rfl (EX zFS Kg Pw rfl ?_)))))
     obtain ⟨c11, h⟩ := Ba h
     refine Fb (f := Bx) zFS zFS Kg RY Pw c11 rfl (qa rfl (AC (by kernel_rfl) ?_))
     exact As _ h (sm [(2005, 50), (2006, 2003)] _ _ rfl rfl)
    ·have h := Ao c9 h
     refine Aq ?_
     exact As _ h (sm [(2005, 2002), (2006, 2003)] _ _ rfl rfl)
   ·refine Aa Ac rfl (qm rfl (AP rfl (qa rfl (Ae ?_))))
    exact As _ h (sm [(2002, 2005), (2003, 2006)] _ _ rfl rfl)
  ·have h := Ao c4 h
   refine AQ ?_
   exact As _ h (sm [(2004, 2002)] _ _ rfl rfl)
 ·refine Am hs (Ab (Aa Ac rfl (qm rfl (qa rfl (Ae ?_)))))
  obtain rfl := sj h
  refine Am (sm [(1000, 2004)] [(4, oD (.own 1000))] [(1000, .vec 9 (v3.map Bx))] rfl rfl) (AA ?_)
  exact ⟨⟨[_], ⟨.tmp _ _ rfl, tv⟩, rfl⟩, ⟨rfl, tv⟩⟩
theorem H6 (N : Nat) (p0 : Aj) (p1 : List Ag) (r : (List A3) × Int) (h : C0 N p0 p1 = some r) : AD Tryz.prog 19 [.e (.agg [sC (p0.fVersions.map Al), sC (p0.fNow.map Al), sC (p0.fTarget.map Al), sC (p0.fTables.map Ar)]), pD (.sl (p1.map Ai))] [(9, r.1.map Bx)] (.tup [.one (.own 0), .one (iC r.2)]) := by
 unfold C0 at h
 refine Au (n := 30) (rs := [.tmp 4, .tmp 5]) Tryz.func19 rfl rfl rfl (A5 rfl) (A5 rfl) rfl fun w0 S0 => ?_
 refine Ab (Aa Ac rfl (qb rfl (qa rfl (qa rfl (Ae (Ab (Ab (Aa Ac rfl (qL Di Da rfl (qm rfl ?_))))))))))
 obtain ⟨v1, a1, h⟩ := bind_some h
 refine AG [] (Is N p0 p1 v1 a1) XG rfl (qa rfl (Ae (Ab (Aa Ac rfl (qm rfl (BP rfl (Ae ?_)))))))
 refine Ap rfl (fun c2 => ?_) (fun c2 => ?_)
 ·have h := An c2 h
  refine Ab (Aa Ac rfl (qm rfl (qa rfl (qa rfl (Ae ?_)))))
  obtain rfl := sj h
  refine Am ((BB 4 2001 9 rfl rfl rfl).trans (sm [(1000, 2001)] [(4, oD (.own 1000)), (5, iD v1)] [(1000, .vec 9 ((([] : List A3)).map Bx))] rfl rfl)) (AA ?_)
  exact ⟨⟨[_, _], ⟨.tmp _ _ rfl, ⟨.tmp _ _ rfl, tv⟩⟩, rfl⟩, ⟨rfl, tv⟩⟩
 ·have h := Ao c2 h
  refine Aq (Ab (Aa Ac rfl (qa rfl (Ae (Ab (Ab (Aa Ac rfl (qa rfl (Ae ?_)))))))))
  refine AE (L := B8 N p0 p1) h (fun v3 => mk [(1, pD (.sl (p1.map Ai))), (2, oD (.ptr 2 0)), (7, oD (.own 2002)), (8, iD v3.2)] [(2, .box [sC (p0.fVersions.map Al), sC (p0.fNow.map Al), sC (p0.fTarget.map Al), sC (p0.fTables.map Ar)]), (2002, .vec 9 (v3.1.map Bx))]) (fun v4 => mk [(7, oD (.own 2003))] [(2003, .vec 9 (v4.map Bx))]) (fun _ _ => rfl) ((BB 7 2005 9 rfl rfl rfl).trans (sm [(2002, 2005)] _ _ rfl rfl)) (fun j3 n3 v3 h => ?_) (fun v4 s h hs => ?_)
  ·unfold B8 at h
   refine Ab (Ab (Aa Ac rfl (qm rfl (qm rfl (AR A0 rfl (AY rfl (Ae ?_)))))))
   refine Ap rfl (fun c5 => ?_) (fun c5 => ?_)
   ·have h := An c5 h
    refine Aq (Ab (AJ (Aa Ac rfl (qm rfl (qL Di Da rfl (qm rfl (qm rfl ?_)))))))
    obtain ⟨v6, a6, b6, h⟩ := Ak h
    refine qi A0 Az a6 (Af b6) rfl (qK A4 Az rfl ?_)
    obtain ⟨v7, a7, h⟩ := bind_some h
    refine AG [2004] (Ke N p0 v6 v7 a7) Zl rfl ?_
    obtain ⟨c8, h⟩ := Ba h
    refine Fb (f := Bx) zFS zFS Kg RY Pw c8 rfl (qa rfl (AC (by kernel_rfl) (Aa Ac rfl (qm rfl (AP rfl (qa rfl (Ae ?_)))))))
    exact As _ h (sm [(2002, 28)] _ _ rfl rfl)
   ·have h := Ao c5 h
    refine AQ ?_
    exact As _ h (sm [(2003, 2002)] _ _ rfl rfl)
  ·refine Am hs (Ab (Aa Ac rfl (qm rfl (qa rfl (qa rfl (Ae ?_))))))
   obtain rfl := sj h
   refine Am (sm [(1000, 2003)] [(4, oD (.own 1000)), (5, iD 0)] [(1000, .vec 9 (v4.map Bx))] rfl rfl) (AA ?_)
   exact ⟨⟨[_, _], ⟨.tmp _ _ rfl, ⟨.tmp _ _ rfl, tv⟩⟩, rfl⟩, ⟨rfl, tv⟩⟩
theorem J9 (N : Nat) (p0 : Aj) (p1 : List Ag) (r : Int × Ag × Int) (h : D2 N p0 p1 = some r) : AD Tryz.prog 26 [.e (.agg [sC (p0.fVersions.map Al), sC (p0.fNow.map Al), sC (p0.fTarget.map Al), sC (p0.fTables.map Ar)]), pD (.sl (p1.map Ai))] [] (.tup [.one (iC r.1), .agg [sC (r.2.1.fBase.map Al), sC (r.2.1.fNext.map Al), sC (r.2.1.fHeld.map Bw)], .one (iC r.2.2)]) := by
 unfold D2 at h
 refine Au (n := 81) (rs := [.tmp 4, .cell 5 46, .tmp 6]) Tryz.func26 rfl rfl rfl (A5 rfl) (A5 rfl) rfl fun w0 S0 => ?_
 refine Ab (Aa Ac rfl (qb rfl (qa rfl (qz Cs rfl (qa rfl (Ae (Ab (Ab (Aa Ac rfl (qL Di Da rfl ?_))))))))))
 obtain ⟨v1, a1, h⟩ := bind_some h
 refine AG [] (D4 N p0 v1 a1) Vp rfl (qa rfl (Ae (Ab (Aa Ac rfl (qm rfl (BP rfl (Ae ?_)))))))
 refine Ap rfl (fun c2 => ?_) (fun c2 => ?_)
 ·have h := An c2 h
  refine Ab (Aa Ac rfl (Br Cs Gt rfl (qm rfl (qa rfl (qs Az rfl (qa rfl (Ae ?_)))))))
  obtain rfl := sj h
  refine Am ((HT 5 _ rfl).trans (sm [] [(4, iD 0), (5, oD (.ptr 5 0)), (6, iD v1)] [(5, .box [sC ((([] : List Int)).map Al), sC ((([] : List Int)).map Al), sC ((([] : List Int)).map Bw)])] rfl rfl)) (AA ?_)
  exact ⟨⟨[_, _, _], ⟨.tmp _ _ rfl, ⟨.cellN _ _ _ _ _ _ _ rfl rfl A4 Az rfl rfl (Iq rfl), ⟨.tmp _ _ rfl, tv⟩⟩⟩, rfl⟩, tv⟩
 ·have h := Ao c2 h
  refine Aq (Ab (Ab (Aa Ac rfl (qm rfl (AR A0 rfl (BQ rfl (Ae ?_)))))))
  refine Ap rfl (fun c3 => ?_) (fun c3 => ?_)
  ·have h := An c3 h
   refine Ab (Aa Ac rfl (Br Cs Gt rfl (qa rfl (qs Az rfl (qa rfl (Ae ?_))))))
   obtain rfl := sj h
   refine Am ((HT 5 _ rfl).trans (sm [] [(4, iD 0), (5, oD (.ptr 5 0)), (6, iD 10)] [(5, .box [sC ((([] : List Int)).map Al), sC ((([] : List Int)).map Al), sC ((([] : List Int)).map Bw)])] rfl rfl)) (AA ?_)
   exact ⟨⟨[_, _, _], ⟨.tmp _ _ rfl, ⟨.cellN _ _ _ _ _ _ _ rfl rfl A4 Az rfl rfl (Iq rfl), ⟨.tmp _ _ rfl, tv⟩⟩⟩, rfl⟩, tv⟩
  ·have h := Ao c3 h
   refine Aq (Ab (Ab (Aa Ac rfl (qL Di Da rfl (qm rfl ?_)))))
   obtain ⟨v4, a4, h⟩ := bind_some h
   refine AG [] (Is N p0 p1 v4 a4) XG rfl (qa rfl (Ae (Ab (Aa Ac rfl (qm rfl (BP rfl (Ae ?_)))))))
   refine Ap rfl (fun c5 => ?_) (fun c5 => ?_)
   ·have h := An c5 h
    refine Ab (Aa Ac rfl (Br Cs Gt rfl (qm rfl (qa rfl (qs Az rfl (qa rfl (Ae ?_)))))))
    obtain rfl := sj h
    refine Am ((HT 5 _ rfl).trans (sm [] [(4, iD 0), (5, oD (.ptr 5 0)), (6, iD v4)] [(5, .box [sC ((([] : List Int)).map Al), sC ((([] : List Int)).map Al), sC ((([] : List Int)).map Bw)])] rfl rfl)) (AA ?_)
    exact ⟨⟨[_, _, _], ⟨.tmp _ _ rfl, ⟨.cellN _ _ _ _ _ _ _ rfl rfl A4 Az rfl rfl (Iq rfl), ⟨.tmp _ _ rfl, tv⟩⟩⟩, rfl⟩, tv⟩
   ·have h := Ao c5 h
    refine Aq (Ab (Aa Ac rfl (qa rfl (qa rfl (Ae (Ab (Ab (Aa Ac rfl (qa rfl (Ae ?_))))))))))
    refine AE (L := CU N p0 p1) h (fun v6 => mk [(1, pD (.sl (p1.map Ai))), (2, oD (.ptr 2 0)), (5, oD (.ptr 5 0)), (9, iD v6.1), (10, iD v6.2.1), (11, iD v6.2.2)] [(2, .box [sC (p0.fVersions.map Al), sC (p0.fNow.map Al), sC (p0.fTarget.map Al), sC (p0.fTables.map Ar)]), (5, .box [.pure (.nil0), .pure (.nil0), .pure (.nil0)])]) (fun v7 => mk [(1, pD (.sl (p1.map Ai))), (5, oD (.ptr 5 0)), (9, iD v7.1), (10, iD v7.2)] [(5, .box [.pure (.nil0), .pure (.nil0), .pure (.nil0)])]) (fun _ _ => rfl) (sm [] _ _ rfl rfl) (fun j6 n6 v6 h => ?_) (fun v7 s h hs => ?_)
    ·unfold CU at h
     refine Ab (Ab (Aa Ac rfl (qm rfl (qm rfl (AR A0 rfl (AY rfl (Ae ?_)))))))
     refine Ap rfl (fun c8 => ?_) (fun c8 => ?_)
     ·have h := An c8 h
      refine Aq ?_
      refine AL h (fun v9 => mk [(1, pD (.sl (p1.map Ai))), (2, oD (.ptr 2 0)), (5, oD (.ptr 5 0)), (9, iD v9.1), (10, iD v9.2), (11, iD v6.2.2)] [(2, .box [sC (p0.fVersions.map Al), sC (p0.fNow.map Al), sC (p0.fTarget.map Al), sC (p0.fTables.map Ar)]), (5, .box [.pure (.nil0), .pure (.nil0), .pure (.nil0)])]) (fun j9 h => ?_) (fun v9 h => ?_)
      ·refine AJ (Ab (Aa Ac rfl (qa rfl (Ae (Ab (Ab (Aa Ac rfl (qa rfl (Ae ?_)))))))))
       refine AE (L := BH N p0 p1 v6) h (fun v10 => mk [(1, pD (.sl (p1.map Ai))), (2, oD (.ptr 2 0)), (5, oD (.ptr 5 0)), (9, iD v6.1), (10, iD v6.2.1), (11, iD v6.2.2), (12, iD v10.1), (13, iD v10.2)] [(2, .box [sC (p0.fVersions.map Al), sC (p0.fNow.map Al), sC (p0.fTarget.map Al), sC (p0.fTables.map Ar)]), (5, .box [.pure (.nil0), .pure (.nil0), .pure (.nil0)])]) (fun v11 => mk [(1, pD (.sl (p1.map Ai))), (2, oD (.ptr 2 0)), (5, oD (.ptr 5 0)), (9, iD v6.1), (10, iD v6.2.1), (11, iD v6.2.2), (12, iD v11)] [(2, .box [sC (p0.fVersions.map Al), sC (p0.fNow.map Al), sC (p0.fTarget.map Al), sC (p0.fTables.map Ar)]), (5, .box [.pure (.nil0), .pure (.nil0), .pure (.nil0)])]) (fun _ _ => rfl) (sm [] _ _ rfl rfl) (fun j10 n10 v10 h => ?_) (fun v11 s h hs => ?_)
       ·unfold BH at h
        refine Ab (Ab (Aa Ac rfl (qm rfl (qf H3 rfl (ql Bs rfl (AR AN rfl (AY rfl (Ae ?_))))))))
        refine Ap rfl (fun c12 => ?_) (fun c12 => ?_)
        ·have h := An c12 h
         refine Aq ?_
         refine AL h (fun v13 => mk [(1, pD (.sl (p1.map Ai))), (2, oD (.ptr 2 0)), (5, oD (.ptr 5 0)), (9, iD v6.1), (10, iD v6.2.1), (11, iD v6.2.2), (12, iD v13), (13, iD v10.2)] [(2, .box [sC (p0.fVersions.map Al), sC (p0.fNow.map Al), sC (p0.fTarget.map Al), sC (p0.fTables.map Ar)]), (5, .box [.pure (.nil0), .pure (.nil0), .pure (.nil0)])]) (fun j13 h => ?_) (fun v13 h => ?_)
         ·refine AJ ?_
          refine AL h (fun v14 => mk [(1, pD (.sl (p1.map Ai))), (2, oD (.ptr 2 0)), (5, oD (.ptr 5 0)), (9, iD v6.1), (10, iD v6.2.1), (11, iD v6.2.2), (12, iD v10.1), (13, iD v10.2), (68, bD v14)] [(2, .box [sC (p0.fVersions.map Al), sC (p0.fNow.map Al), sC (p0.fTarget.map Al), sC (p0.fTables.map Ar)]), (5, .box [.pure (.nil0), .pure (.nil0), .pure (.nil0)])]) (fun j14 h => ?_) (fun v14 h => ?_)
          ·refine Aa Ac rfl (qm rfl (qm rfl ?_))
           obtain ⟨v15, a15, b15, h⟩ := Ak h
           refine qi A0 Az a15 (Af b15) rfl (qg BK rfl (qk Bs rfl (qm rfl ?_)))
           obtain ⟨v16, a16, b16, h⟩ := Ak h
           refine qi AN DJ a16 (Af b16) rfl (qk Cz rfl (AY rfl (qm rfl ?_)))
           refine AB (t := 53) rfl (fun c17 => ?_) (fun c17 => ?_)
           ·have h := An c17 h
            refine qm rfl (qm rfl ?_)
            obtain ⟨v18, a18, b18, h⟩ := Ak h
            refine qi A0 Az a18 (Af b18) rfl (qg CO rfl (qk Bs rfl (qm rfl ?_)))
            obtain ⟨v19, a19, b19, h⟩ := Ak h
            refine qi AN DJ a19 (Af b19) rfl (qk Cz rfl (qf H3 rfl (ql Bs rfl (qm rfl ?_))))
            obtain ⟨v20, a20, b20, h⟩ := Ak h
            refine qi AN DJ a20 (Af b20) rfl (qk Cz rfl (BQ rfl (qp rfl (AC (by kernel_rfl) ?_))))
            exact As _ h (sm [] _ _ rfl rfl)
           ·have h := Ao c17 h
            refine qn rfl (qn rfl (qn rfl (qn rfl (qn rfl (qn rfl (qn rfl (qn rfl (qn rfl (qn rfl (qn rfl (qn rfl (qn rfl (qn rfl (qp rfl (AC (by kernel_rfl) ?_)))))))))))))))
            exact As _ h (sm [] _ _ rfl rfl)
          ·refine Ap rfl (fun c21 => ?_) (fun c21 => ?_)
           ·have h := An c21 h
            refine Aa Ac rfl (qm rfl (AP rfl (qa rfl (Ae ?_))))
            exact As _ h (sm [] _ _ rfl rfl)
           ·have h := Ao c21 h
            refine Aq ?_
            exact As _ h (sm [] _ _ rfl rfl)
         ·refine Aa Ac rfl (qm rfl (AP rfl (qa rfl (Ae ?_))))
          exact As _ h (sm [] _ _ rfl rfl)
        ·have h := Ao c12 h
         refine AQ ?_
         exact As _ h (sm [] _ _ rfl rfl)
       ·refine Am hs (Ab (Aa Ac rfl (qm rfl (qm rfl (DC rfl (Ae ?_))))))
        refine Ap rfl (fun c22 => ?_) (fun c22 => ?_)
        ·have h := An c22 h
         refine Aa Ac rfl (qm rfl (qm rfl (qa rfl (qa rfl (Ae ?_)))))
         exact As _ h (sm [] _ _ rfl rfl)
        ·have h := Ao c22 h
         refine Aq ?_
         exact As _ h (sm [] _ _ rfl rfl)
      ·refine Aa Ac rfl (qm rfl (AP rfl (qa rfl (Ae ?_))))
       exact As _ h (sm [] _ _ rfl rfl)
     ·have h := Ao c8 h
      refine AQ ?_
      exact As _ h (sm [] _ _ rfl rfl)
    ·refine Am hs (Ab (Aa Ac rfl (qm rfl (qm rfl (qm rfl ?_)))))
     obtain ⟨v23, a23, b23, h⟩ := Ak h
     refine qi A0 Az a23 (Af b23) rfl (qK A4 Az rfl (qa rfl (qs Az rfl (qa rfl (AC (by kernel_rfl) ?_)))))
     obtain rfl := sj h
     refine Am (sm [] [(4, iD v7.1), (5, oD (.ptr 5 0)), (6, iD 0)] [(5, .box [sC (v23.fBase.map Al), sC (v23.fNext.map Al), sC (v23.fHeld.map Bw)])] rfl rfl) (AA ?_)
     exact ⟨⟨[_, _, _], ⟨.tmp _ _ rfl, ⟨.cellN _ _ _ _ _ _ _ rfl rfl A4 Az rfl rfl (Iq rfl), ⟨.tmp _ _ rfl, tv⟩⟩⟩, rfl⟩, tv⟩
theorem Lp (N : Nat) (p0 : List A3) (p1 : List A3) (r : Bool) (h : CZ N p0 p1 = some r) : AD Tryz.prog 20 [pD (.sl (p0.map Bx)), pD (.sl (p1.map Bx))] [] (bD r) := by
 unfold CZ at h
 refine Au (n := 55) (rs := [.tmp 4]) Tryz.func20 rfl rfl rfl (A5 rfl) (A5 rfl) rfl fun w0 S0 => ?_
 refine Ab (Aa Ac rfl (qa rfl (Ae (Ab (Ab (Aa Ac rfl (qm rfl (AR zFS rfl (qm rfl (AR zFS rfl (BP rfl (Ae ?_))))))))))))
 refine Ap rfl (fun c1 => ?_) (fun c1 => ?_)
 ·have h := An c1 h
  refine Ab (Aa Ac rfl (qa rfl (Ae ?_)))
  obtain rfl := sj h
  refine Am (sm [] [(4, bD false)] [] rfl rfl) (AA ?_)
  exact ⟨⟨[_], ⟨.tmp _ _ rfl, tv⟩, rfl⟩, tv⟩
 ·have h := Ao c1 h
  refine Aq (Ab (Ab (Aa Ac rfl (qa rfl (Ae ?_)))))
  refine AE (L := Ct N p0 p1) h (fun v2 => mk [(0, pD (.sl (p0.map Bx))), (1, pD (.sl (p1.map Bx))), (5, iD v2)] []) (fun v3 => mk [] []) (fun _ _ => rfl) (sm [] _ _ rfl rfl) (fun j2 n2 v2 h => ?_) (fun v3 s h hs => ?_)
  ·unfold Ct at h
   refine Ab (Ab (Aa Ac rfl (qm rfl (qm rfl (AR zFS rfl (AY rfl (Ae ?_)))))))
   refine Ap rfl (fun c4 => ?_) (fun c4 => ?_)
   ·have h := An c4 h
    refine Aq (Ab (AJ ?_))
    refine AL h (fun v5 => mk [(0, pD (.sl (p0.map Bx))), (1, pD (.sl (p1.map Bx))), (5, iD v2), (54, bD v5)] []) (fun j5 h => ?_) (fun v5 h => ?_)
    ·refine Aa Ac rfl (qm rfl (qm rfl ?_))
     obtain ⟨v6, a6, b6, h⟩ := Ak h
     refine qi zFS Kg a6 (Af b6) rfl (qg Pi rfl (qK HR Es rfl (qm rfl (qm rfl ?_))))
     obtain ⟨v7, a7, b7, h⟩ := Ak h
     refine qi zFS Kg a7 (Af b7) rfl (qg Pi rfl (qK HR Es rfl ?_))
     refine Se [.int .i64 v6.fStep.fKind, .int .i64 v6.fStep.fIndex, .int .i64 v6.fStep.fVersion] [.int .i64 v7.fStep.fKind, .int .i64 v7.fStep.fIndex, .int .i64 v7.fStep.fVersion] (.p rfl) rfl rfl Wc rfl ?_
     refine qm rfl ?_
     refine AB (t := 28) rfl (fun c8 => ?_) (fun c8 => ?_)
     ·have h := An c8 h
      refine qn rfl (qn rfl (qn rfl (qn rfl (qn rfl (qn rfl (qn rfl (qn rfl (qn rfl (qn rfl (qn rfl (qp rfl (qm rfl (qn rfl (qn rfl (qn rfl (qn rfl (qn rfl (qn rfl (qn rfl (qn rfl (qn rfl (qn rfl (qn rfl (qn rfl (qp rfl (AC (by kernel_rfl) ?_))))))))))))))))))))))))))
      exact As _ h (sm [] _ _ rfl rfl)
     ·have h := Ao c8 h
      refine qm rfl (qm rfl ?_)
      obtain ⟨v9, a9, b9, h⟩ := Ak h
      refine qi zFS Kg a9 (Af b9) rfl (qg M7 rfl (qK CP AU rfl (qm rfl (qm rfl ?_))))
      obtain ⟨v10, a10, b10, h⟩ := Ak h
      refine qi zFS Kg a10 (Af b10) rfl (qg M7 rfl (qK CP AU rfl ?_))
      refine Se [.int .i64 v9.fConflict.fTable, .int .i64 v9.fConflict.fWriter, .int .i64 v9.fConflict.fReader] [.int .i64 v10.fConflict.fTable, .int .i64 v10.fConflict.fWriter, .int .i64 v10.fConflict.fReader] (.g rfl rfl) rfl rfl QL rfl ?_
      refine qp rfl (qm rfl ?_)
      refine AB (t := 41) rfl (fun c11 => ?_) (fun c11 => ?_)
      ·have h := An c11 h
       refine qn rfl (qn rfl (qn rfl (qn rfl (qn rfl (qn rfl (qn rfl (qn rfl (qn rfl (qn rfl (qn rfl (qn rfl (qp rfl (AC (by kernel_rfl) ?_)))))))))))))
       exact As _ h (sm [] _ _ rfl rfl)
      ·have h := Ao c11 h
       refine qm rfl (qm rfl ?_)
       obtain ⟨v12, a12, b12, h⟩ := Ak h
       refine qi zFS Kg a12 (Af b12) rfl (qg R1 rfl (qK A4 Az rfl (qm rfl (qm rfl ?_))))
       obtain ⟨v13, a13, b13, h⟩ := Ak h
       refine qi zFS Kg a13 (Af b13) rfl (qg R1 rfl (qK A4 Az rfl ?_))
       obtain ⟨v14, a14, h⟩ := bind_some h
       refine AG [] (Ft N ((Ag.mk v12.fMix.fBase v12.fMix.fNext v12.fMix.fHeld)) ((Ag.mk v13.fMix.fBase v13.fMix.fNext v13.fMix.fHeld)) v14 a14) U6 rfl (BS rfl (qp rfl (AC (by kernel_rfl) ?_)))
       exact As _ h (sm [] _ _ rfl rfl)
    ·refine Ap rfl (fun c15 => ?_) (fun c15 => ?_)
     ·have h := An c15 h
      refine Ab (Aa Ac rfl (qa rfl (Ae ?_)))
      obtain rfl := sj h
      refine Am (sm [] [(4, bD false)] [] rfl rfl) (AA ?_)
      exact ⟨⟨[_], ⟨.tmp _ _ rfl, tv⟩, rfl⟩, tv⟩
     ·have h := Ao c15 h
      refine Aq (Aa Ac rfl (qm rfl (AP rfl (qa rfl (Ae ?_)))))
      exact As _ h (sm [] _ _ rfl rfl)
   ·have h := Ao c4 h
    refine AQ ?_
    exact As _ h (sm [] _ _ rfl rfl)
  ·refine Am hs (Ab (Aa Ac rfl (qa rfl (Ae ?_))))
   obtain rfl := sj h
   refine Am (sm [] [(4, bD true)] [] rfl rfl) (AA ?_)
   exact ⟨⟨[_], ⟨.tmp _ _ rfl, tv⟩, rfl⟩, tv⟩
theorem I6 (N : Nat) (p0 : Aj) (p1 : List Ag) (r : Bool) (h : C6 N p0 p1 = some r) : AD Tryz.prog 8 [.e (.agg [sC (p0.fVersions.map Al), sC (p0.fNow.map Al), sC (p0.fTarget.map Al), sC (p0.fTables.map Ar)]), pD (.sl (p1.map Ai))] [] (bD r) := by
 unfold C6 at h
 refine Au (n := 159) (rs := [.tmp 4]) Tryz.func8 rfl rfl rfl (A5 rfl) (A5 rfl) rfl fun w0 S0 => ?_
 refine Ab (Aa Ac rfl (qb rfl (qa rfl (Ae (Ab ?_)))))
 refine AL h (fun v1 => mk [(1, pD (.sl (p1.map Ai))), (2, oD (.ptr 2 0)), (39, bD v1)] [(2, .box [sC (p0.fVersions.map Al), sC (p0.fNow.map Al), sC (p0.fTarget.map Al), sC (p0.fTables.map Ar)])]) (fun j1 h => ?_) (fun v1 h => ?_)
 ·refine Aa Ac rfl ?_
  obtain ⟨v2, a2, h⟩ := bind_some h
  refine AG [] (Ip N v2 a2) Yj rfl (BS rfl (qm rfl ?_))
  refine AB (t := 26) rfl (fun c3 => ?_) (fun c3 => ?_)
  ·have h := An c3 h
   refine qn rfl (qn rfl (qn rfl (qp rfl (qm rfl (qn rfl (qn rfl (qn rfl (qp rfl (qm rfl (qn rfl (qn rfl (qp rfl (Ae ?_)))))))))))))
   exact As _ h (sm [] _ _ rfl rfl)
  ·have h := Ao c3 h
   refine qL Di Da rfl ?_
   obtain ⟨v4, a4, h⟩ := bind_some h
   refine AG [] (LA N p0 v4 a4) Zn rfl (BS rfl (qp rfl (qm rfl ?_)))
   refine AB (t := 31) rfl (fun c5 => ?_) (fun c5 => ?_)
   ·have h := An c5 h
    refine qn rfl (qn rfl (qn rfl (qp rfl (qm rfl (qn rfl (qn rfl (qp rfl (Ae ?_))))))))
    exact As _ h (sm [] _ _ rfl rfl)
   ·have h := Ao c5 h
    refine qm rfl (AR A0 rfl (DC rfl (qp rfl (qm rfl ?_))))
    refine AB (t := 36) rfl (fun c6 => ?_) (fun c6 => ?_)
    ·have h := An c6 h
     refine qn rfl (qn rfl (qp rfl (Ae ?_)))
     exact As _ h (sm [] _ _ rfl rfl)
    ·have h := Ao c6 h
     refine qm rfl ?_
     obtain ⟨v7, a7, h⟩ := bind_some h
     refine AG [] (AD.weak (ds' := [pD (.sl (p1.map Ai)), oD (.fnc 33)]) (EC N p1 ((fun (x : Ag) => Ci N x)) v7 a7) ⟨(fun _ _ _ hh => hh), (fun _ _ _ hh => M3 ZC (fun ar t ht => by obtain ⟨x, r, rfl, hq, rfl⟩ := Hl ht; exact If N x r hq) hh), tv⟩) YB rfl ?_
     refine qp rfl (Ae ?_)
     exact As _ h (sm [] _ _ rfl rfl)
 ·refine Ap rfl (fun c8 => ?_) (fun c8 => ?_)
  ·have h := An c8 h
   refine Ab (Aa Ac rfl ?_)
   obtain ⟨v9, a9, h⟩ := bind_some h
   refine AG [] (Ip N v9 a9) Yj rfl (qa rfl (Ae ?_))
   obtain rfl := sj h
   refine Am (sm [] [(4, bD v9)] [] rfl rfl) (AA ?_)
   exact ⟨⟨[_], ⟨.tmp _ _ rfl, tv⟩, rfl⟩, tv⟩
  ·have h := Ao c8 h
   refine Aq (Ab (Aa Ac rfl (qL Di Da rfl (qm rfl ?_))))
   obtain ⟨v10, a10, h⟩ := bind_some h
   refine AG [2001] (H6 N p0 p1 v10 a10) XI rfl (qm rfl (qx rfl (qx rfl (qa rfl (qa rfl (Ae (Ab (Aa Ac rfl (qL Di Da rfl (qm rfl ?_))))))))))
   obtain ⟨v11, a11, h⟩ := bind_some h
   refine AG [2002] (Ii N p0 p1 v11 a11) W7 rfl (qm rfl (qx rfl (qx rfl (qa rfl (qa rfl (Ae (Ab (Aa Ac rfl (qL Di Da rfl (qm rfl ?_))))))))))
   obtain ⟨v12, a12, h⟩ := bind_some h
   refine AG [2003] (Jv N p0 p1 v12 a12) YD rfl (qm rfl (qx rfl (qx rfl (qa rfl (qa rfl (Ae (Ab (Aa Ac rfl (qL Di Da rfl (qm rfl ?_))))))))))
   obtain ⟨v13, a13, h⟩ := bind_some h
   refine AG [2004, 2005, 2006] (JF N p0 p1 v13 a13) X0 rfl (qm rfl (qx rfl (qx rfl (qx rfl (qz Cs rfl (qa rfl (qs Az rfl (qa rfl (Ae (Ab (Aa Ac rfl (qL Di Da rfl (qm rfl ?_)))))))))))))
   obtain ⟨v14, a14, h⟩ := bind_some h
   refine AG [] (J9 N p0 p1 v14 a14) Zq rfl (qm rfl (qx rfl (qx rfl (qx rfl (qz Cs rfl (qa rfl (qs Az rfl (qa rfl (Ae (Ab ?_))))))))))
   refine AL h (fun v15 => mk [(1, pD (.sl (p1.map Ai))), (2, oD (.ptr 2 0)), (108, bD v15)] [(2, .box [sC (p0.fVersions.map Al), sC (p0.fNow.map Al), sC (p0.fTarget.map Al), sC (p0.fTables.map Ar)])]) (fun j15 h => ?_) (fun v15 h => ?_)
   ·refine Aa Ac rfl (qm rfl (qm rfl (BP rfl (qm rfl ?_))))
    refine AB (t := 76) rfl (fun c16 => ?_) (fun c16 => ?_)
    ·have h := An c16 h
     refine qn rfl (qn rfl (qn rfl (qp rfl (qm rfl (qn rfl (qn rfl (qn rfl (qp rfl (qm rfl (qn rfl (qn rfl (qn rfl (qp rfl (qm rfl (qn rfl (qn rfl (qn rfl (qn rfl (qp rfl (qm rfl (qn rfl (qn rfl (qn rfl (qu rfl (qu rfl (qu rfl (qu rfl (qu rfl (qu rfl (qn rfl (qp rfl (Ae ?_))))))))))))))))))))))))))))))))
     exact As _ h (sm [] _ _ rfl rfl)
    ·have h := Ao c16 h
     refine qm rfl (qm rfl (BP rfl (qp rfl (qm rfl ?_))))
     refine AB (t := 81) rfl (fun c17 => ?_) (fun c17 => ?_)
     ·have h := An c17 h
      refine qn rfl (qn rfl (qn rfl (qp rfl (qm rfl (qn rfl (qn rfl (qn rfl (qp rfl (qm rfl (qn rfl (qn rfl (qn rfl (qn rfl (qp rfl (qm rfl (qn rfl (qn rfl (qn rfl (qu rfl (qu rfl (qu rfl (qu rfl (qu rfl (qu rfl (qn rfl (qp rfl (Ae ?_)))))))))))))))))))))))))))
      exact As _ h (sm [] _ _ rfl rfl)
     ·have h := Ao c17 h
      refine qm rfl (qm rfl (BP rfl (qp rfl (qm rfl ?_))))
      refine AB (t := 86) rfl (fun c18 => ?_) (fun c18 => ?_)
      ·have h := An c18 h
       refine qn rfl (qn rfl (qn rfl (qp rfl (qm rfl (qn rfl (qn rfl (qn rfl (qn rfl (qp rfl (qm rfl (qn rfl (qn rfl (qn rfl (qu rfl (qu rfl (qu rfl (qu rfl (qu rfl (qu rfl (qn rfl (qp rfl (Ae ?_))))))))))))))))))))))
       exact As _ h (sm [] _ _ rfl rfl)
      ·have h := Ao c18 h
       refine qm rfl (qm rfl (BP rfl (qp rfl (qm rfl ?_))))
       refine AB (t := 91) rfl (fun c19 => ?_) (fun c19 => ?_)
       ·have h := An c19 h
        refine qn rfl (qn rfl (qn rfl (qn rfl (qp rfl (qm rfl (qn rfl (qn rfl (qn rfl (qu rfl (qu rfl (qu rfl (qu rfl (qu rfl (qu rfl (qn rfl (qp rfl (Ae ?_)))))))))))))))))
        exact As _ h (sm [] _ _ rfl rfl)
       ·have h := Ao c19 h
        refine qL A4 Az rfl (qL A4 Az rfl ?_)
        obtain ⟨v20, a20, h⟩ := bind_some h
        refine DI [] [2004, 2005, 2006] (Ft N v13.2.1 v14.2.1 v20 a20) U6 Cr rfl (BS rfl (qp rfl (qm rfl ?_)))
        refine AB (t := 97) rfl (fun c21 => ?_) (fun c21 => ?_)
        ·have h := An c21 h
         refine qn rfl (qn rfl (qn rfl (qu rfl (qu rfl (qu rfl (qu rfl (qu rfl (qu rfl (qn rfl (qp rfl (Ae ?_)))))))))))
         exact As _ h (sm [] _ _ rfl rfl)
        ·have h := Ao c21 h
         refine qm rfl (BP rfl (qm rfl ?_))
         refine AB (t := 100) rfl (fun c22 => ?_) (fun c22 => ?_)
         ·have h := An c22 h
          refine qm rfl (EP zFS rfl (qm rfl (EP A8 rfl (AP rfl (DC rfl (qp rfl (qp rfl (Ae ?_))))))))
          exact As _ h (sm [] _ _ rfl rfl)
         ·have h := Ao c22 h
          refine qn rfl (qn rfl (qn rfl (qn rfl (qn rfl (qn rfl (qp rfl (qp rfl (Ae ?_))))))))
          exact As _ h (sm [] _ _ rfl rfl)
   ·refine Ap rfl (fun c23 => ?_) (fun c23 => ?_)
    ·have h := An c23 h
     refine Ab (Aa Ac rfl (qa rfl (Ae ?_)))
     obtain rfl := sj h
     refine Am (sm [] [(4, bD false)] [] rfl rfl) (AA ?_)
     exact ⟨⟨[_], ⟨.tmp _ _ rfl, tv⟩, rfl⟩, tv⟩
    ·have h := Ao c23 h
     refine Aq ?_
     refine AL h (fun v24 => mk [(1, pD (.sl (p1.map Ai))), (2, oD (.ptr 2 0))] [(2, .box [sC (p0.fVersions.map Al), sC (p0.fNow.map Al), sC (p0.fTarget.map Al), sC (p0.fTables.map Ar)])]) (fun j24 h => ?_) (fun v24 h => ?_)
     ·refine Ab (Aa Ac rfl (qm rfl (AR A0 rfl (DC rfl (Ae ?_)))))
      refine Ap rfl (fun c25 => ?_) (fun c25 => ?_)
      ·have h := An c25 h
       refine Ab (Aa Ac rfl (qL Di Da rfl (qm rfl ?_)))
       obtain ⟨v26, a26, b26, h⟩ := Ak h
       refine qi A0 Az a26 (Af b26) rfl (qK A4 Az rfl ?_)
       obtain ⟨v27, a27, h⟩ := bind_some h
       refine AG [2007] (Jy N p0 v26 v27 a27) XC rfl (qm rfl (qx rfl (qx rfl (qa rfl (qa rfl (AC (by kernel_rfl) (Ab (Aa Ac rfl (qL Di Da rfl (qm rfl ?_))))))))))
       obtain ⟨c28, h⟩ := Ba h
       refine VS (.p rfl) rfl A0 Az (Oh (f := Ai) (n := 3) (fun _ => rfl) _) (.none _) (.some _ _ _ _ c28.1) tv ⟨rfl, tv⟩ (by have := c28.2.1; (try simp only [List.length_map]); omega) (by have := c28.2.2; (try simp only [List.length_map]); omega) (TR Ai p1 _ _ ((1 : Int).toNat - 0) rfl) ?_
       obtain ⟨v29, a29, h⟩ := bind_some h
       refine AG [2008] (H6 N p0 (((p1.drop 0).take ((1 : Int).toNat - 0))) v29 a29) XI rfl (qm rfl (qx rfl (qx rfl (qa rfl (qa rfl (AC (by kernel_rfl) ?_))))))
       refine AL h (fun v30 => mk [(1, pD (.sl (p1.map Ai))), (2, oD (.ptr 2 0)), (135, bD v30)] [(2, .box [sC (p0.fVersions.map Al), sC (p0.fNow.map Al), sC (p0.fTarget.map Al), sC (p0.fTables.map Ar)])]) (fun j30 h => ?_) (fun v30 h => ?_)
       ·refine Aa Ac rfl (qm rfl (qm rfl (BP rfl (qm rfl ?_))))
        refine AB (t := 130) rfl (fun c31 => ?_) (fun c31 => ?_)
        ·have h := An c31 h
         refine qn rfl (qn rfl (qn rfl (qn rfl (qp rfl (Ae ?_)))))
         exact As _ h (sm [] _ _ rfl rfl)
        ·have h := Ao c31 h
         refine qm rfl (qm rfl ?_)
         obtain ⟨v32, a32, h⟩ := bind_some h
         refine DI [] [2007, 2008] (Lp N v27.1 v29.1 v32 a32) Zj Cr rfl (BS rfl (qp rfl (Ae ?_)))
         exact As _ h (sm [] _ _ rfl rfl)
       ·refine Ap rfl (fun c33 => ?_) (fun c33 => ?_)
        ·have h := An c33 h
         refine Ab (Aa Ac rfl (qa rfl (Ae ?_)))
         obtain rfl := sj h
         refine Am (sm [] [(4, bD false)] [] rfl rfl) (AA ?_)
         exact ⟨⟨[_], ⟨.tmp _ _ rfl, tv⟩, rfl⟩, tv⟩
        ·have h := Ao c33 h
         refine Aq ?_
         exact As _ h (sm [] _ _ rfl rfl)
      ·have h := Ao c25 h
       refine Aq ?_
       exact As _ h (sm [] _ _ rfl rfl)
     ·refine Ab (Ab (Aa Ac rfl (qL Di Da rfl ?_)))
      obtain ⟨v34, a34, h⟩ := bind_some h
      refine AG [] (D4 N p0 v34 a34) Vp rfl (qa rfl (Ae (Ab (Aa Ac rfl (qm rfl (BP rfl (Ae ?_)))))))
      refine Ap rfl (fun c35 => ?_) (fun c35 => ?_)
      ·have h := An c35 h
       refine Ab (Aa Ac rfl (qL Di Da rfl ?_))
       obtain ⟨v36, a36, h⟩ := bind_some h
       refine AG [2009] (Ks N p0 v36 a36) YI rfl (qm rfl (qx rfl (qx rfl (qa rfl (qa rfl (Ae ?_))))))
       refine AL h (fun v37 => mk [(4, bD v37)] []) (fun j37 h => ?_) (fun v37 h => ?_)
       ·refine Aa Ac rfl (qm rfl (qm rfl (BQ rfl (qm rfl ?_))))
        refine AB (t := 148) rfl (fun c38 => ?_) (fun c38 => ?_)
        ·have h := An c38 h
         refine qm rfl (EP A0 rfl (BQ rfl (qp rfl (qm rfl ?_))))
         refine AB (t := 153) rfl (fun c39 => ?_) (fun c39 => ?_)
         ·have h := An c39 h
          refine qL Di Da rfl (qm rfl ?_)
          obtain ⟨v40, a40, h⟩ := bind_some h
          refine AG [] (HF N p0 p1 v40 a40) Vr rfl (BS rfl (qp rfl (qa rfl (Ae ?_))))
          exact As _ h (sm [] _ _ rfl rfl)
         ·have h := Ao c39 h
          refine qn rfl (qn rfl (qn rfl (qn rfl (qp rfl (qa rfl (Ae ?_))))))
          exact As _ h (sm [] _ _ rfl rfl)
        ·have h := Ao c38 h
         refine qn rfl (qn rfl (qn rfl (qp rfl (qm rfl (qn rfl (qn rfl (qn rfl (qn rfl (qp rfl (qa rfl (Ae ?_)))))))))))
         exact As _ h (sm [] _ _ rfl rfl)
       ·obtain rfl := sj h
        refine Am (sm [] [(4, bD v37)] [] rfl rfl) (AA ?_)
        exact ⟨⟨[_], ⟨.tmp _ _ rfl, tv⟩, rfl⟩, tv⟩
      ·have h := Ao c35 h
       refine Aq (Ab (Aa Ac rfl (qa rfl (Ae ?_))))
       obtain rfl := sj h
       refine Am (sm [] [(4, bD true)] [] rfl rfl) (AA ?_)
       exact ⟨⟨[_], ⟨.tmp _ _ rfl, tv⟩, rfl⟩, tv⟩
end Go.Lift
