/- Lemmas for RefuseBorderSaid, which YtpaobkaighpaaaaGreatFinR5 proves. -/
import Derived.Test.YtpaobkaighpaaaaGreatCode3
namespace Go.Lift
open IntKind renaming wrap → wI
set_option maxRecDepth 10000
open Go.RowKit
open Go.Proofs
theorem Ff (N : Nat) (p0 : List Ag) (p1 : Int) (p2 : Int) (p3 : (Ag × Ag) → Option Int) (r : Bool × (List Ag)) (h : Gs.partialInsertionSort N p0 p1 p2 p3 = some r) : Bh Tryz.prog 137 [oD (.own 90000), iD p1, iD p2, oD (.clo (Bb (Cm true Ad true Ad) Bg p3))] [(.vec 3 (p0.map Ad), .vec 3 (r.2.map Ad))] [] (bD r.1) := by
 unfold Gs.partialInsertionSort at h
 refine Ba (n := 141) (rs := [.tmp 8]) Tryz.func137 rfl rfl rfl (A7 rfl) (A7 rfl) rfl rfl (A7 rfl) rfl (A7 rfl) fun w0 S0 GL => ?_
 refine Am (sm [] [(0, oD (.own 90000)), (1, iD p1), (2, iD p2), (3, oD (.clo (Bb (Cm true Ad true Ad) Bg p3)))] [(90000, .vec 3 (p0.map Ad))] rfl rfl) (Ab (Aa Ac rfl (qa rfl (Ae (Ab (Aa Ac rfl (qm rfl (AP rfl (qa rfl (Ae (Ab (Ab (Aa Ac rfl (qa rfl (Ae ?_)))))))))))))))
 refine AE (L := Gs.partialInsertionSort_L1 N p1 p2 p3) h (fun v1 => mk [(0, oD (.own 90000)), (1, iD p1), (2, iD p2), (3, oD (.clo (Bb (Cm true Ad true Ad) Bg p3))), (9, iD v1.2.1), (10, iD v1.2.2)] [(90000, .vec 3 (v1.1.map Ad))]) (fun v2 => mk [] [(90000, .vec 3 (v2.map Ad))]) (fun _ _ => rfl) (sm [] _ _ rfl rfl) (fun j1 n1 v1 h => ?_) (fun v2 s h hs => ?_)
 ·unfold Gs.partialInsertionSort_L1 at h
  refine Ab (Ab (Aa Ac rfl (qm rfl (AV rfl (Ae ?_)))))
  refine Ap rfl (fun c3 => ?_) (fun c3 => ?_)
  ·have h := An c3 h
   refine Aq ?_
   refine AO h (fun v4 => mk [(0, oD (.own 90000)), (1, iD p1), (2, iD p2), (3, oD (.clo (Bb (Cm true Ad true Ad) Bg p3))), (9, iD v4.2), (10, iD v1.2.2)] [(90000, .vec 3 (v4.1.map Ad))]) (fun j4 h => ?_) (fun v4 h => ?_)
   ·refine AJ (Ab ?_)
    refine AE (L := Gs.partialInsertionSort_L5 N p2 p3 v1) h (fun v5 => mk [(0, oD (.own 90000)), (1, iD p1), (2, iD p2), (3, oD (.clo (Bb (Cm true Ad true Ad) Bg p3))), (9, iD v5), (10, iD v1.2.2)] [(90000, .vec 3 (v1.1.map Ad))]) (fun v6 => mk [(0, oD (.own 90000)), (1, iD p1), (2, iD p2), (3, oD (.clo (Bb (Cm true Ad true Ad) Bg p3))), (9, iD v6), (10, iD v1.2.2)] [(90000, .vec 3 (v1.1.map Ad))]) (fun _ _ => rfl) (sm [] _ _ rfl rfl) (fun j5 n5 v5 h => ?_) (fun v6 s h hs => ?_)
    ·unfold Gs.partialInsertionSort_L5 at h
     refine Ab ?_
     refine AO h (fun v7 => mk [(0, oD (.own 90000)), (1, iD p1), (2, iD p2), (3, oD (.clo (Bb (Cm true Ad true Ad) Bg p3))), (9, iD v5), (10, iD v1.2.2), (36, bD v7)] [(90000, .vec 3 (v1.1.map Ad))]) (fun j7 h => ?_) (fun v7 h => ?_)
     ·refine Aa Ac rfl (qm rfl (qm rfl (AV rfl (qm rfl ?_))))
      refine AF (t := 22) rfl (fun c8 => ?_) (fun c8 => ?_)
      ·have h := An c8 h
       refine qm rfl (qm rfl (qm rfl ?_))
       obtain ⟨v9, a9, b9, h⟩ := Ai h
       refine qI A4 AU a9 (Af b9) rfl (qJ CP AU (Af b9) rfl (qm rfl (qm rfl (Bk rfl ?_))))
       obtain ⟨v10, a10, b10, h⟩ := Ai h
       refine qI A4 AU a10 (Af b10) rfl (qJ CP AU (Af b10) rfl ?_)
       obtain ⟨v11, a11, h⟩ := bind_some h
       refine CA (ds0 := [_, _]) (ar := (Cm true Ad true Ad) ((v9, v10))) (.g rfl rfl) rfl rfl ⟨rfl, rfl, tv⟩ rfl rfl rfl (CC (C7 _ _ _ _ Bd Bd) a11) ?_
       refine AV rfl (BZ rfl (qp rfl (AB (by kernel_rfl) ?_)))
       exact As _ h (sm [] _ _ rfl rfl)
      ·have h := Ao c8 h
       refine qn rfl (qn rfl (qn rfl (qn rfl (qn rfl (qn rfl (qn rfl (qn rfl (qn rfl (qn rfl (qn rfl (qn rfl (qn rfl (qp rfl (AB (by kernel_rfl) ?_))))))))))))))
       exact As _ h (sm [] _ _ rfl rfl)
     ·refine Ap rfl (fun c12 => ?_) (fun c12 => ?_)
      ·have h := An c12 h
       refine Aq (AJ (Aa Ac rfl (qm rfl (AP rfl (qa rfl (Ae ?_))))))
       exact As _ h (sm [] _ _ rfl rfl)
      ·have h := Ao c12 h
       refine AT ?_
       exact As _ h (sm [] _ _ rfl rfl)
    ·refine Am hs (Ab (Ab (Aa Ac rfl (qm rfl (qm rfl (BL rfl (Ae ?_)))))))
     refine Ap rfl (fun c13 => ?_) (fun c13 => ?_)
     ·have h := An c13 h
      refine Ab (Aa Ac rfl (qa rfl (Ae ?_)))
      obtain rfl := sj h
      refine Am (sm [] [(8, bD true)] [(90000, .vec 3 (v1.1.map Ad))] rfl rfl) (Az ?_)
      exact ⟨⟨[_], ⟨.tmp _ _ rfl, tv⟩, rfl⟩, ⟨rfl, tv⟩, tv⟩
     ·have h := Ao c13 h
      refine Aq (Ab (Ab (Aa Ac rfl (qm rfl (qm rfl (Bk rfl (AV rfl (Ae ?_))))))))
      refine Ap rfl (fun c14 => ?_) (fun c14 => ?_)
      ·have h := An c14 h
       refine Ab (Aa Ac rfl (qa rfl (Ae ?_)))
       obtain rfl := sj h
       refine Am (sm [] [(8, bD false)] [(90000, .vec 3 (v1.1.map Ad))] rfl rfl) (Az ?_)
       exact ⟨⟨[_], ⟨.tmp _ _ rfl, tv⟩, rfl⟩, ⟨rfl, tv⟩, tv⟩
      ·have h := Ao c14 h
       refine Aq (Ab (Aa Ac rfl (qm rfl (qm rfl (qm rfl (qm rfl (Bk rfl (qm rfl (qm rfl (Bk rfl ?_))))))))))
       obtain ⟨v15, a15, b15, h⟩ := Ai h
       refine qI A4 AU a15 (Af b15) rfl (qJ CP AU (Af b15) rfl (qm rfl (qm rfl ?_)))
       obtain ⟨v16, a16, b16, h⟩ := Ai h
       refine qI A4 AU a16 (Af b16) rfl (qJ CP AU (Af b16) rfl ?_)
       obtain ⟨v17, a17, b17, h⟩ := Ai h
       refine qI A4 AU a17 (Af b17) rfl ?_
       refine A0 rfl rfl rfl rfl (Af b17) rfl AU rfl (A7 rfl) (AY Ad v1.1 _ v15) ?_
       obtain ⟨v18, a18, b18, h⟩ := Ai h
       refine qI A4 AU a18 (Af b18) rfl ?_
       refine A0 rfl rfl rfl rfl (Af b18) rfl AU rfl (A7 rfl) (AY Ad (v1.1.set ((v6).toNat) v15) _ v16) ?_
       refine AB (by kernel_rfl) ?_
       refine AO h (fun v19 => mk [(0, oD (.own 90000)), (1, iD p1), (2, iD p2), (3, oD (.clo (Bb (Cm true Ad true Ad) Bg p3))), (9, iD v6), (10, iD v1.2.2)] [(90000, .vec 3 (v19.map Ad))]) (fun j19 h => ?_) (fun v19 h => ?_)
       ·refine Ab (Aa Ac rfl (qm rfl (qm rfl (Bk rfl (Cz rfl (Ae ?_))))))
        refine Ap rfl (fun c20 => ?_) (fun c20 => ?_)
        ·have h := An c20 h
         refine Ab (Aa Ac rfl (qm rfl (Bk rfl (qa rfl (Ae ?_)))))
         refine AE (L := Gs.partialInsertionSort_L21 N p3) h (fun v21 => mk [(0, oD (.own 90000)), (1, iD p1), (2, iD p2), (3, oD (.clo (Bb (Cm true Ad true Ad) Bg p3))), (9, iD v6), (10, iD v1.2.2), (11, iD v21.2)] [(90000, .vec 3 (v21.1.map Ad))]) (fun v22 => mk [(0, oD (.own 90000)), (1, iD p1), (2, iD p2), (3, oD (.clo (Bb (Cm true Ad true Ad) Bg p3))), (9, iD v6), (10, iD v1.2.2)] [(90000, .vec 3 (v22.map Ad))]) (fun _ _ => rfl) (sm [] _ _ rfl rfl) (fun j21 n21 v21 h => ?_) (fun v22 s h hs => ?_)
         ·unfold Gs.partialInsertionSort_L21 at h
          refine Ab (Ab (Aa Ac rfl (qm rfl (Cz rfl (Ae ?_)))))
          refine Ap rfl (fun c23 => ?_) (fun c23 => ?_)
          ·have h := An c23 h
           refine Aq (Ab (AJ (Ab (Ab (Aa Ac rfl (qm rfl (qm rfl (qm rfl ?_))))))))
           obtain ⟨v24, a24, b24, h⟩ := Ai h
           refine qI A4 AU a24 (Af b24) rfl (qJ CP AU (Af b24) rfl (qm rfl (qm rfl (Bk rfl ?_))))
           obtain ⟨v25, a25, b25, h⟩ := Ai h
           refine qI A4 AU a25 (Af b25) rfl (qJ CP AU (Af b25) rfl ?_)
           obtain ⟨v26, a26, h⟩ := bind_some h
           refine CA (ds0 := [_, _]) (ar := (Cm true Ad true Ad) ((v24, v25))) (.p rfl) rfl rfl ⟨rfl, rfl, tv⟩ rfl rfl rfl (CC (C7 _ _ _ _ Bd Bd) a26) ?_
           refine AV rfl (BZ rfl (AB (by kernel_rfl) ?_))
           refine Ap rfl (fun c27 => ?_) (fun c27 => ?_)
           ·have h := An c27 h
            refine AT ?_
            exact As _ h (sm [] _ _ rfl rfl)
           ·have h := Ao c27 h
            refine Aq (Aa Ac rfl (qm rfl (qm rfl (qm rfl (qm rfl (Bk rfl (qm rfl (qm rfl (Bk rfl ?_)))))))))
            obtain ⟨v28, a28, b28, h⟩ := Ai h
            refine qI A4 AU a28 (Af b28) rfl (qJ CP AU (Af b28) rfl (qm rfl (qm rfl ?_)))
            obtain ⟨v29, a29, b29, h⟩ := Ai h
            refine qI A4 AU a29 (Af b29) rfl (qJ CP AU (Af b29) rfl ?_)
            obtain ⟨v30, a30, b30, h⟩ := Ai h
            refine qI A4 AU a30 (Af b30) rfl ?_
            refine A0 rfl rfl rfl rfl (Af b30) rfl AU rfl (A7 rfl) (AY Ad v21.1 _ v28) ?_
            obtain ⟨v31, a31, b31, h⟩ := Ai h
            refine qI A4 AU a31 (Af b31) rfl ?_
            refine A0 rfl rfl rfl rfl (Af b31) rfl AU rfl (A7 rfl) (AY Ad (v21.1.set ((v21.2).toNat) v28) _ v29) ?_
            refine AB (by kernel_rfl) (Aa Ac rfl (qm rfl (Bk rfl (qa rfl (Ae ?_)))))
            exact As _ h (sm [] _ _ rfl rfl)
          ·have h := Ao c23 h
           refine AT ?_
           exact As _ h (sm [] _ _ rfl rfl)
         ·exact As _ h (hs.trans (sm [] _ _ rfl rfl))
        ·have h := Ao c20 h
         refine Aq ?_
         exact As _ h (sm [] _ _ rfl rfl)
       ·refine Ab (Aa Ac rfl (qm rfl (qm rfl (Bk rfl (Cz rfl (Ae ?_))))))
        refine Ap rfl (fun c32 => ?_) (fun c32 => ?_)
        ·have h := An c32 h
         refine Ab (Aa Ac rfl (qm rfl (AP rfl (qa rfl (Ae ?_)))))
         refine AE (L := Gs.partialInsertionSort_L33 N p2 p3) h (fun v33 => mk [(0, oD (.own 90000)), (1, iD p1), (2, iD p2), (3, oD (.clo (Bb (Cm true Ad true Ad) Bg p3))), (9, iD v6), (10, iD v1.2.2), (12, iD v33.2)] [(90000, .vec 3 (v33.1.map Ad))]) (fun v34 => mk [(0, oD (.own 90000)), (1, iD p1), (2, iD p2), (3, oD (.clo (Bb (Cm true Ad true Ad) Bg p3))), (9, iD v6), (10, iD v1.2.2)] [(90000, .vec 3 (v34.map Ad))]) (fun _ _ => rfl) (sm [] _ _ rfl rfl) (fun j33 n33 v33 h => ?_) (fun v34 s h hs => ?_)
         ·unfold Gs.partialInsertionSort_L33 at h
          refine Ab (Ab (Aa Ac rfl (qm rfl (qm rfl (AV rfl (Ae ?_))))))
          refine Ap rfl (fun c35 => ?_) (fun c35 => ?_)
          ·have h := An c35 h
           refine Aq (Ab (AJ (Ab (Ab (Aa Ac rfl (qm rfl (qm rfl (qm rfl ?_))))))))
           obtain ⟨v36, a36, b36, h⟩ := Ai h
           refine qI A4 AU a36 (Af b36) rfl (qJ CP AU (Af b36) rfl (qm rfl (qm rfl (Bk rfl ?_))))
           obtain ⟨v37, a37, b37, h⟩ := Ai h
           refine qI A4 AU a37 (Af b37) rfl (qJ CP AU (Af b37) rfl ?_)
           obtain ⟨v38, a38, h⟩ := bind_some h
           refine CA (ds0 := [_, _]) (ar := (Cm true Ad true Ad) ((v36, v37))) (.p rfl) rfl rfl ⟨rfl, rfl, tv⟩ rfl rfl rfl (CC (C7 _ _ _ _ Bd Bd) a38) ?_
           refine AV rfl (BZ rfl (AB (by kernel_rfl) ?_))
           refine Ap rfl (fun c39 => ?_) (fun c39 => ?_)
           ·have h := An c39 h
            refine AT ?_
            exact As _ h (sm [] _ _ rfl rfl)
           ·have h := Ao c39 h
            refine Aq (Aa Ac rfl (qm rfl (qm rfl (qm rfl (qm rfl (Bk rfl (qm rfl (qm rfl (Bk rfl ?_)))))))))
            obtain ⟨v40, a40, b40, h⟩ := Ai h
            refine qI A4 AU a40 (Af b40) rfl (qJ CP AU (Af b40) rfl (qm rfl (qm rfl ?_)))
            obtain ⟨v41, a41, b41, h⟩ := Ai h
            refine qI A4 AU a41 (Af b41) rfl (qJ CP AU (Af b41) rfl ?_)
            obtain ⟨v42, a42, b42, h⟩ := Ai h
            refine qI A4 AU a42 (Af b42) rfl ?_
            refine A0 rfl rfl rfl rfl (Af b42) rfl AU rfl (A7 rfl) (AY Ad v33.1 _ v40) ?_
            obtain ⟨v43, a43, b43, h⟩ := Ai h
            refine qI A4 AU a43 (Af b43) rfl ?_
            refine A0 rfl rfl rfl rfl (Af b43) rfl AU rfl (A7 rfl) (AY Ad (v33.1.set ((v33.2).toNat) v40) _ v41) ?_
            refine AB (by kernel_rfl) (Aa Ac rfl (qm rfl (AP rfl (qa rfl (Ae ?_)))))
            exact As _ h (sm [] _ _ rfl rfl)
          ·have h := Ao c35 h
           refine AT ?_
           exact As _ h (sm [] _ _ rfl rfl)
         ·exact As _ h (hs.trans (sm [] _ _ rfl rfl))
        ·have h := Ao c32 h
         refine Aq ?_
         exact As _ h (sm [] _ _ rfl rfl)
   ·refine Aa Ac rfl (qm rfl (AP rfl (qa rfl (Ae ?_))))
    exact As _ h (sm [] _ _ rfl rfl)
  ·have h := Ao c3 h
   refine AT ?_
   exact As _ h (sm [] _ _ rfl rfl)
 ·refine Am hs (Ab (Aa Ac rfl (qa rfl (Ae ?_))))
  obtain rfl := sj h
  refine Am (sm [] [(8, bD false)] [(90000, .vec 3 (v2.map Ad))] rfl rfl) (Az ?_)
  exact ⟨⟨[_], ⟨.tmp _ _ rfl, tv⟩, rfl⟩, ⟨rfl, tv⟩, tv⟩
theorem FO (N : Nat) (p0 : List Ag) (p1 : Int) (p2 : Int) (p3 : Int) (p4 : (Ag × Ag) → Option Int) (r : Int × (List Ag)) (h : Gs.partitionEqual N p0 p1 p2 p3 p4 = some r) : Bh Tryz.prog 138 [oD (.own 90000), iD p1, iD p2, iD p3, oD (.clo (Bb (Cm true Ad true Ad) Bg p4))] [(.vec 3 (p0.map Ad), .vec 3 (r.2.map Ad))] [] (iD r.1) := by
 unfold Gs.partitionEqual at h
 refine Ba (n := 90) (rs := [.tmp 10]) Tryz.func138 rfl rfl rfl (A7 rfl) (A7 rfl) rfl rfl (A7 rfl) rfl (A7 rfl) fun w0 S0 GL => ?_
 refine Am (sm [] [(0, oD (.own 90000)), (1, iD p1), (2, iD p2), (3, iD p3), (4, oD (.clo (Bb (Cm true Ad true Ad) Bg p4)))] [(90000, .vec 3 (p0.map Ad))] rfl rfl) (Ab (Aa Ac rfl (qa rfl (Ae (Ab (Aa Ac rfl (qm rfl (qm rfl (qm rfl (qm rfl (qm rfl (qm rfl ?_))))))))))))
 obtain ⟨v1, a1, b1, h⟩ := Ai h
 refine qI A4 AU a1 (Af b1) rfl (qJ CP AU (Af b1) rfl (qm rfl (qm rfl ?_)))
 obtain ⟨v2, a2, b2, h⟩ := Ai h
 refine qI A4 AU a2 (Af b2) rfl (qJ CP AU (Af b2) rfl ?_)
 obtain ⟨v3, a3, b3, h⟩ := Ai h
 refine qI A4 AU a3 (Af b3) rfl ?_
 refine A0 rfl rfl rfl rfl (Af b3) rfl AU rfl (A7 rfl) (AY Ad p0 _ v1) ?_
 obtain ⟨v4, a4, b4, h⟩ := Ai h
 refine qI A4 AU a4 (Af b4) rfl ?_
 refine A0 rfl rfl rfl rfl (Af b4) rfl AU rfl (A7 rfl) (AY Ad (p0.set ((p1).toNat) v1) _ v2) ?_
 refine AB (by kernel_rfl) (Ab (Aa Ac rfl (qm rfl (AP rfl (qm rfl (Bk rfl (qa rfl (qa rfl (Ae (Ab ?_))))))))))
 refine AE (L := Gs.partitionEqual_L5 N p1 p4) h (fun v5 => mk [(0, oD (.own 90000)), (1, iD p1), (4, oD (.clo (Bb (Cm true Ad true Ad) Bg p4))), (11, iD v5.2.1), (12, iD v5.2.2)] [(90000, .vec 3 (v5.1.map Ad))]) (fun v6 => mk [(11, iD v6.2)] [(90000, .vec 3 (v6.1.map Ad))]) (fun _ _ => rfl) (sm [] _ _ rfl rfl) (fun j5 n5 v5 h => ?_) (fun v6 s h hs => ?_)
 ·unfold Gs.partitionEqual_L5 at h
  refine AJ (Ab ?_)
  refine AE (L := Gs.partitionEqual_L7 N p1 p4 v5) h (fun v7 => mk [(0, oD (.own 90000)), (1, iD p1), (4, oD (.clo (Bb (Cm true Ad true Ad) Bg p4))), (11, iD v7), (12, iD v5.2.2)] [(90000, .vec 3 (v5.1.map Ad))]) (fun v8 => mk [(0, oD (.own 90000)), (1, iD p1), (4, oD (.clo (Bb (Cm true Ad true Ad) Bg p4))), (11, iD v8), (12, iD v5.2.2)] [(90000, .vec 3 (v5.1.map Ad))]) (fun _ _ => rfl) (sm [] _ _ rfl rfl) (fun j7 n7 v7 h => ?_) (fun v8 s h hs => ?_)
  ·unfold Gs.partitionEqual_L7 at h
   refine Ab ?_
   refine AO h (fun v9 => mk [(0, oD (.own 90000)), (1, iD p1), (4, oD (.clo (Bb (Cm true Ad true Ad) Bg p4))), (11, iD v7), (12, iD v5.2.2), (47, bD v9)] [(90000, .vec 3 (v5.1.map Ad))]) (fun j9 h => ?_) (fun v9 h => ?_)
   ·refine Aa Ac rfl (qm rfl (qm rfl (H3 rfl (qm rfl ?_))))
    refine AF (t := 34) rfl (fun c10 => ?_) (fun c10 => ?_)
    ·have h := An c10 h
     refine qm rfl (qm rfl (qm rfl ?_))
     obtain ⟨v11, a11, b11, h⟩ := Ai h
     refine qI A4 AU a11 (Af b11) rfl (qJ CP AU (Af b11) rfl (qm rfl (qm rfl ?_)))
     obtain ⟨v12, a12, b12, h⟩ := Ai h
     refine qI A4 AU a12 (Af b12) rfl (qJ CP AU (Af b12) rfl ?_)
     obtain ⟨v13, a13, h⟩ := bind_some h
     refine CA (ds0 := [_, _]) (ar := (Cm true Ad true Ad) ((v11, v12))) (.g rfl rfl) rfl rfl ⟨rfl, rfl, tv⟩ rfl rfl rfl (CC (C7 _ _ _ _ Bd Bd) a13) ?_
     refine AV rfl (BZ rfl (qp rfl (AB (by kernel_rfl) ?_)))
     exact As _ h (sm [] _ _ rfl rfl)
    ·have h := Ao c10 h
     refine qn rfl (qn rfl (qn rfl (qn rfl (qn rfl (qn rfl (qn rfl (qn rfl (qn rfl (qn rfl (qn rfl (qn rfl (qp rfl (AB (by kernel_rfl) ?_)))))))))))))
     exact As _ h (sm [] _ _ rfl rfl)
   ·refine Ap rfl (fun c14 => ?_) (fun c14 => ?_)
    ·have h := An c14 h
     refine Aq (AJ (Aa Ac rfl (qm rfl (AP rfl (qa rfl (Ae ?_))))))
     exact As _ h (sm [] _ _ rfl rfl)
    ·have h := Ao c14 h
     refine AT ?_
     exact As _ h (sm [] _ _ rfl rfl)
  ·refine Am hs (Ab ?_)
   refine AE (L := Gs.partitionEqual_L15 N p1 p4 v5 v8) h (fun v15 => mk [(0, oD (.own 90000)), (1, iD p1), (4, oD (.clo (Bb (Cm true Ad true Ad) Bg p4))), (11, iD v8), (12, iD v15)] [(90000, .vec 3 (v5.1.map Ad))]) (fun v16 => mk [(0, oD (.own 90000)), (1, iD p1), (4, oD (.clo (Bb (Cm true Ad true Ad) Bg p4))), (11, iD v8), (12, iD v16)] [(90000, .vec 3 (v5.1.map Ad))]) (fun _ _ => rfl) (sm [] _ _ rfl rfl) (fun j15 n15 v15 h => ?_) (fun v16 s h hs => ?_)
   ·unfold Gs.partitionEqual_L15 at h
    refine Ab ?_
    refine AO h (fun v17 => mk [(0, oD (.own 90000)), (1, iD p1), (4, oD (.clo (Bb (Cm true Ad true Ad) Bg p4))), (11, iD v8), (12, iD v15), (65, bD v17)] [(90000, .vec 3 (v5.1.map Ad))]) (fun j17 h => ?_) (fun v17 h => ?_)
    ·refine Aa Ac rfl (qm rfl (qm rfl (H3 rfl (qm rfl ?_))))
     refine AF (t := 53) rfl (fun c18 => ?_) (fun c18 => ?_)
     ·have h := An c18 h
      refine qm rfl (qm rfl (qm rfl ?_))
      obtain ⟨v19, a19, b19, h⟩ := Ai h
      refine qI A4 AU a19 (Af b19) rfl (qJ CP AU (Af b19) rfl (qm rfl (qm rfl ?_)))
      obtain ⟨v20, a20, b20, h⟩ := Ai h
      refine qI A4 AU a20 (Af b20) rfl (qJ CP AU (Af b20) rfl ?_)
      obtain ⟨v21, a21, h⟩ := bind_some h
      refine CA (ds0 := [_, _]) (ar := (Cm true Ad true Ad) ((v19, v20))) (.g rfl rfl) rfl rfl ⟨rfl, rfl, tv⟩ rfl rfl rfl (CC (C7 _ _ _ _ Bd Bd) a21) ?_
      refine AV rfl (qp rfl (AB (by kernel_rfl) ?_))
      exact As _ h (sm [] _ _ rfl rfl)
     ·have h := Ao c18 h
      refine qn rfl (qn rfl (qn rfl (qn rfl (qn rfl (qn rfl (qn rfl (qn rfl (qn rfl (qn rfl (qn rfl (qp rfl (AB (by kernel_rfl) ?_))))))))))))
      exact As _ h (sm [] _ _ rfl rfl)
    ·refine Ap rfl (fun c22 => ?_) (fun c22 => ?_)
     ·have h := An c22 h
      refine Aq (AJ (Aa Ac rfl (qm rfl (Bk rfl (qa rfl (Ae ?_))))))
      exact As _ h (sm [] _ _ rfl rfl)
     ·have h := Ao c22 h
      refine AT ?_
      exact As _ h (sm [] _ _ rfl rfl)
   ·refine Am hs (Ab (Ab (Aa Ac rfl (qm rfl (qm rfl (Ey rfl (Ae ?_)))))))
    refine Ap rfl (fun c23 => ?_) (fun c23 => ?_)
    ·have h := An c23 h
     refine AT ?_
     exact As _ h (sm [] _ _ rfl rfl)
    ·have h := Ao c23 h
     refine Aq (Ab (Aa Ac rfl (qm rfl (qm rfl (qm rfl (qm rfl (qm rfl (qm rfl ?_))))))))
     obtain ⟨v24, a24, b24, h⟩ := Ai h
     refine qI A4 AU a24 (Af b24) rfl (qJ CP AU (Af b24) rfl (qm rfl (qm rfl ?_)))
     obtain ⟨v25, a25, b25, h⟩ := Ai h
     refine qI A4 AU a25 (Af b25) rfl (qJ CP AU (Af b25) rfl ?_)
     obtain ⟨v26, a26, b26, h⟩ := Ai h
     refine qI A4 AU a26 (Af b26) rfl ?_
     refine A0 rfl rfl rfl rfl (Af b26) rfl AU rfl (A7 rfl) (AY Ad v5.1 _ v24) ?_
     obtain ⟨v27, a27, b27, h⟩ := Ai h
     refine qI A4 AU a27 (Af b27) rfl ?_
     refine A0 rfl rfl rfl rfl (Af b27) rfl AU rfl (A7 rfl) (AY Ad (v5.1.set ((v8).toNat) v24) _ v25) ?_
     refine AB (by kernel_rfl) (Ab (Aa Ac rfl (qm rfl (AP rfl (qa rfl (Ae (Aa Ac rfl (qm rfl (Bk rfl (qa rfl (Ae ?_)))))))))))
     exact As _ h (sm [] _ _ rfl rfl)
 ·refine Am hs (Ab (Aa Ac rfl (qm rfl (qa rfl (Ae ?_)))))
  obtain rfl := sj h
  refine Am (sm [] [(10, iD v6.2)] [(90000, .vec 3 (v6.1.map Ad))] rfl rfl) (Az ?_)
  exact ⟨⟨[_], ⟨.tmp _ _ rfl, tv⟩, rfl⟩, ⟨rfl, tv⟩, tv⟩
theorem Gy (N : Nat) (p0 : List Ag) (p1 : Int) (p2 : Int) (p3 : Int) (p4 : (Ag × Ag) → Option Int) (r : Int × Bool × (List Ag)) (h : Gs.partition N p0 p1 p2 p3 p4 = some r) : Bh Tryz.prog 139 [oD (.own 90000), iD p1, iD p2, iD p3, oD (.clo (Bb (Cm true Ad true Ad) Bg p4))] [(.vec 3 (p0.map Ad), .vec 3 (r.2.2.map Ad))] [] (.tup [.one (iC r.1), .one (.pure (.val (.bool r.2.1)))]) := by
 unfold Gs.partition at h
 refine Ba (n := 178) (rs := [.tmp 10, .tmp 11]) Tryz.func139 rfl rfl rfl (A7 rfl) (A7 rfl) rfl rfl (A7 rfl) rfl (A7 rfl) fun w0 S0 GL => ?_
 refine Am (sm [] [(0, oD (.own 90000)), (1, iD p1), (2, iD p2), (3, iD p3), (4, oD (.clo (Bb (Cm true Ad true Ad) Bg p4)))] [(90000, .vec 3 (p0.map Ad))] rfl rfl) (Ab (Aa Ac rfl (qa rfl (qa rfl (Ae (Ab (Aa Ac rfl (qm rfl (qm rfl (qm rfl (qm rfl (qm rfl (qm rfl ?_)))))))))))))
 obtain ⟨v1, a1, b1, h⟩ := Ai h
 refine qI A4 AU a1 (Af b1) rfl (qJ CP AU (Af b1) rfl (qm rfl (qm rfl ?_)))
 obtain ⟨v2, a2, b2, h⟩ := Ai h
 refine qI A4 AU a2 (Af b2) rfl (qJ CP AU (Af b2) rfl ?_)
 obtain ⟨v3, a3, b3, h⟩ := Ai h
 refine qI A4 AU a3 (Af b3) rfl ?_
 refine A0 rfl rfl rfl rfl (Af b3) rfl AU rfl (A7 rfl) (AY Ad p0 _ v1) ?_
 obtain ⟨v4, a4, b4, h⟩ := Ai h
 refine qI A4 AU a4 (Af b4) rfl ?_
 refine A0 rfl rfl rfl rfl (Af b4) rfl AU rfl (A7 rfl) (AY Ad (p0.set ((p1).toNat) v1) _ v2) ?_
 refine AB (by kernel_rfl) (Ab (Aa Ac rfl (qm rfl (AP rfl (qm rfl (Bk rfl (qa rfl (qa rfl (Ae (Ab ?_))))))))))
 refine AE (L := Gs.partition_L5 N p0 p1 p2 p3 p4 v1 v2) h (fun v5 => mk [(0, oD (.own 90000)), (1, iD p1), (4, oD (.clo (Bb (Cm true Ad true Ad) Bg p4))), (12, iD v5), (13, iD ((wI .i64 (p2 - 1))))] [(90000, .vec 3 (((p0.set ((p1).toNat) v1).set ((p3).toNat) v2).map Ad))]) (fun v6 => mk [(0, oD (.own 90000)), (1, iD p1), (4, oD (.clo (Bb (Cm true Ad true Ad) Bg p4))), (12, iD v6), (13, iD ((wI .i64 (p2 - 1))))] [(90000, .vec 3 (((p0.set ((p1).toNat) v1).set ((p3).toNat) v2).map Ad))]) (fun _ _ => rfl) (sm [] _ _ rfl rfl) (fun j5 n5 v5 h => ?_) (fun v6 s h hs => ?_)
 ·unfold Gs.partition_L5 at h
  refine Ab ?_
  refine AO h (fun v7 => mk [(0, oD (.own 90000)), (1, iD p1), (4, oD (.clo (Bb (Cm true Ad true Ad) Bg p4))), (12, iD v5), (13, iD ((wI .i64 (p2 - 1)))), (47, bD v7)] [(90000, .vec 3 (((p0.set ((p1).toNat) v1).set ((p3).toNat) v2).map Ad))]) (fun j7 h => ?_) (fun v7 h => ?_)
  ·refine Aa Ac rfl (qm rfl (qm rfl (H3 rfl (qm rfl ?_))))
   refine AF (t := 35) rfl (fun c8 => ?_) (fun c8 => ?_)
   ·have h := An c8 h
    refine qm rfl (qm rfl (qm rfl ?_))
    obtain ⟨v9, a9, b9, h⟩ := Ai h
    refine qI A4 AU a9 (Af b9) rfl (qJ CP AU (Af b9) rfl (qm rfl (qm rfl ?_)))
    obtain ⟨v10, a10, b10, h⟩ := Ai h
    refine qI A4 AU a10 (Af b10) rfl (qJ CP AU (Af b10) rfl ?_)
    obtain ⟨v11, a11, h⟩ := bind_some h
    refine CA (ds0 := [_, _]) (ar := (Cm true Ad true Ad) ((v9, v10))) (.g rfl rfl) rfl rfl ⟨rfl, rfl, tv⟩ rfl rfl rfl (CC (C7 _ _ _ _ Bd Bd) a11) ?_
    refine AV rfl (qp rfl (AB (by kernel_rfl) ?_))
    exact As _ h (sm [] _ _ rfl rfl)
   ·have h := Ao c8 h
    refine qn rfl (qn rfl (qn rfl (qn rfl (qn rfl (qn rfl (qn rfl (qn rfl (qn rfl (qn rfl (qn rfl (qp rfl (AB (by kernel_rfl) ?_))))))))))))
    exact As _ h (sm [] _ _ rfl rfl)
  ·refine Ap rfl (fun c12 => ?_) (fun c12 => ?_)
   ·have h := An c12 h
    refine Aq (AJ (Aa Ac rfl (qm rfl (AP rfl (qa rfl (Ae ?_))))))
    exact As _ h (sm [] _ _ rfl rfl)
   ·have h := Ao c12 h
    refine AT ?_
    exact As _ h (sm [] _ _ rfl rfl)
 ·refine Am hs (Ab ?_)
  refine AE (L := Gs.partition_L13 N p0 p1 p3 p4 v1 v2 v6) h (fun v13 => mk [(0, oD (.own 90000)), (1, iD p1), (4, oD (.clo (Bb (Cm true Ad true Ad) Bg p4))), (12, iD v6), (13, iD v13)] [(90000, .vec 3 (((p0.set ((p1).toNat) v1).set ((p3).toNat) v2).map Ad))]) (fun v14 => mk [(0, oD (.own 90000)), (1, iD p1), (4, oD (.clo (Bb (Cm true Ad true Ad) Bg p4))), (12, iD v6), (13, iD v14)] [(90000, .vec 3 (((p0.set ((p1).toNat) v1).set ((p3).toNat) v2).map Ad))]) (fun _ _ => rfl) (sm [] _ _ rfl rfl) (fun j13 n13 v13 h => ?_) (fun v14 s h hs => ?_)
  ·unfold Gs.partition_L13 at h
   refine Ab ?_
   refine AO h (fun v15 => mk [(0, oD (.own 90000)), (1, iD p1), (4, oD (.clo (Bb (Cm true Ad true Ad) Bg p4))), (12, iD v6), (13, iD v13), (66, bD v15)] [(90000, .vec 3 (((p0.set ((p1).toNat) v1).set ((p3).toNat) v2).map Ad))]) (fun j15 h => ?_) (fun v15 h => ?_)
   ·refine Aa Ac rfl (qm rfl (qm rfl (H3 rfl (qm rfl ?_))))
    refine AF (t := 53) rfl (fun c16 => ?_) (fun c16 => ?_)
    ·have h := An c16 h
     refine qm rfl (qm rfl (qm rfl ?_))
     obtain ⟨v17, a17, b17, h⟩ := Ai h
     refine qI A4 AU a17 (Af b17) rfl (qJ CP AU (Af b17) rfl (qm rfl (qm rfl ?_)))
     obtain ⟨v18, a18, b18, h⟩ := Ai h
     refine qI A4 AU a18 (Af b18) rfl (qJ CP AU (Af b18) rfl ?_)
     obtain ⟨v19, a19, h⟩ := bind_some h
     refine CA (ds0 := [_, _]) (ar := (Cm true Ad true Ad) ((v17, v18))) (.g rfl rfl) rfl rfl ⟨rfl, rfl, tv⟩ rfl rfl rfl (CC (C7 _ _ _ _ Bd Bd) a19) ?_
     refine AV rfl (BZ rfl (qp rfl (AB (by kernel_rfl) ?_)))
     exact As _ h (sm [] _ _ rfl rfl)
    ·have h := Ao c16 h
     refine qn rfl (qn rfl (qn rfl (qn rfl (qn rfl (qn rfl (qn rfl (qn rfl (qn rfl (qn rfl (qn rfl (qn rfl (qp rfl (AB (by kernel_rfl) ?_)))))))))))))
     exact As _ h (sm [] _ _ rfl rfl)
   ·refine Ap rfl (fun c20 => ?_) (fun c20 => ?_)
    ·have h := An c20 h
     refine Aq (AJ (Aa Ac rfl (qm rfl (Bk rfl (qa rfl (Ae ?_))))))
     exact As _ h (sm [] _ _ rfl rfl)
    ·have h := Ao c20 h
     refine AT ?_
     exact As _ h (sm [] _ _ rfl rfl)
  ·refine Am hs (Ab (Ab (Aa Ac rfl (qm rfl (qm rfl (Ey rfl (Ae ?_)))))))
   refine Ap rfl (fun c21 => ?_) (fun c21 => ?_)
   ·have h := An c21 h
    refine Ab (Aa Ac rfl (qm rfl (qm rfl (qm rfl (qm rfl (qm rfl (qm rfl ?_)))))))
    obtain ⟨v22, a22, b22, h⟩ := Ai h
    refine qI A4 AU a22 (Af b22) rfl (qJ CP AU (Af b22) rfl (qm rfl (qm rfl ?_)))
    obtain ⟨v23, a23, b23, h⟩ := Ai h
    refine qI A4 AU a23 (Af b23) rfl (qJ CP AU (Af b23) rfl ?_)
    obtain ⟨v24, a24, b24, h⟩ := Ai h
    refine qI A4 AU a24 (Af b24) rfl ?_
    refine A0 rfl rfl rfl rfl (Af b24) rfl AU rfl (A7 rfl) (AY Ad ((p0.set ((p1).toNat) v1).set ((p3).toNat) v2) _ v22) ?_
    obtain ⟨v25, a25, b25, h⟩ := Ai h
    refine qI A4 AU a25 (Af b25) rfl ?_
    refine A0 rfl rfl rfl rfl (Af b25) rfl AU rfl (A7 rfl) (AY Ad (((p0.set ((p1).toNat) v1).set ((p3).toNat) v2).set ((v14).toNat) v22) _ v23) ?_
    refine AB (by kernel_rfl) (Ab (Aa Ac rfl (qm rfl (qa rfl (qa rfl (Ae ?_))))))
    obtain rfl := sj h
    refine Am (sm [] [(10, iD v14), (11, bD true)] [(90000, .vec 3 (((((p0.set ((p1).toNat) v1).set ((p3).toNat) v2).set ((v14).toNat) v22).set ((p1).toNat) v23).map Ad))] rfl rfl) (Az ?_)
    exact ⟨⟨[_, _], ⟨.tmp _ _ rfl, ⟨.tmp _ _ rfl, tv⟩⟩, rfl⟩, ⟨rfl, tv⟩, tv⟩
   ·have h := Ao c21 h
    refine Aq (Ab (Aa Ac rfl (qm rfl (qm rfl (qm rfl (qm rfl (qm rfl (qm rfl ?_))))))))
    obtain ⟨v26, a26, b26, h⟩ := Ai h
    refine qI A4 AU a26 (Af b26) rfl (qJ CP AU (Af b26) rfl (qm rfl (qm rfl ?_)))
    obtain ⟨v27, a27, b27, h⟩ := Ai h
    refine qI A4 AU a27 (Af b27) rfl (qJ CP AU (Af b27) rfl ?_)
    obtain ⟨v28, a28, b28, h⟩ := Ai h
    refine qI A4 AU a28 (Af b28) rfl ?_
    refine A0 rfl rfl rfl rfl (Af b28) rfl AU rfl (A7 rfl) (AY Ad ((p0.set ((p1).toNat) v1).set ((p3).toNat) v2) _ v26) ?_
    obtain ⟨v29, a29, b29, h⟩ := Ai h
    refine qI A4 AU a29 (Af b29) rfl ?_
    refine A0 rfl rfl rfl rfl (Af b29) rfl AU rfl (A7 rfl) (AY Ad (((p0.set ((p1).toNat) v1).set ((p3).toNat) v2).set ((v6).toNat) v26) _ v27) ?_
    refine AB (by kernel_rfl) (Ab (Aa Ac rfl (qm rfl (AP rfl (qa rfl (Ae (Ab (Aa Ac rfl (qm rfl (Bk rfl (qa rfl (Ae (Ab ?_)))))))))))))
    refine AE (L := Gs.partition_L30 N p1 p4) h (fun v30 => mk [(0, oD (.own 90000)), (1, iD p1), (4, oD (.clo (Bb (Cm true Ad true Ad) Bg p4))), (12, iD v30.2.1), (13, iD v30.2.2)] [(90000, .vec 3 (v30.1.map Ad))]) (fun v31 => mk [(0, oD (.own 90000)), (1, iD p1), (13, iD v31.2)] [(90000, .vec 3 (v31.1.map Ad))]) (fun _ _ => rfl) (sm [] _ _ rfl rfl) (fun j30 n30 v30 h => ?_) (fun v31 s h hs => ?_)
    ·unfold Gs.partition_L30 at h
     refine AJ (Ab ?_)
     refine AE (L := Gs.partition_L32 N p1 p4 v30) h (fun v32 => mk [(0, oD (.own 90000)), (1, iD p1), (4, oD (.clo (Bb (Cm true Ad true Ad) Bg p4))), (12, iD v32), (13, iD v30.2.2)] [(90000, .vec 3 (v30.1.map Ad))]) (fun v33 => mk [(0, oD (.own 90000)), (1, iD p1), (4, oD (.clo (Bb (Cm true Ad true Ad) Bg p4))), (12, iD v33), (13, iD v30.2.2)] [(90000, .vec 3 (v30.1.map Ad))]) (fun _ _ => rfl) (sm [] _ _ rfl rfl) (fun j32 n32 v32 h => ?_) (fun v33 s h hs => ?_)
     ·unfold Gs.partition_L32 at h
      refine Ab ?_
      refine AO h (fun v34 => mk [(0, oD (.own 90000)), (1, iD p1), (4, oD (.clo (Bb (Cm true Ad true Ad) Bg p4))), (12, iD v32), (13, iD v30.2.2), (120, bD v34)] [(90000, .vec 3 (v30.1.map Ad))]) (fun j34 h => ?_) (fun v34 h => ?_)
      ·refine Aa Ac rfl (qm rfl (qm rfl (H3 rfl (qm rfl ?_))))
       refine AF (t := 108) rfl (fun c35 => ?_) (fun c35 => ?_)
       ·have h := An c35 h
        refine qm rfl (qm rfl (qm rfl ?_))
        obtain ⟨v36, a36, b36, h⟩ := Ai h
        refine qI A4 AU a36 (Af b36) rfl (qJ CP AU (Af b36) rfl (qm rfl (qm rfl ?_)))
        obtain ⟨v37, a37, b37, h⟩ := Ai h
        refine qI A4 AU a37 (Af b37) rfl (qJ CP AU (Af b37) rfl ?_)
        obtain ⟨v38, a38, h⟩ := bind_some h
        refine CA (ds0 := [_, _]) (ar := (Cm true Ad true Ad) ((v36, v37))) (.g rfl rfl) rfl rfl ⟨rfl, rfl, tv⟩ rfl rfl rfl (CC (C7 _ _ _ _ Bd Bd) a38) ?_
        refine AV rfl (qp rfl (AB (by kernel_rfl) ?_))
        exact As _ h (sm [] _ _ rfl rfl)
       ·have h := Ao c35 h
        refine qn rfl (qn rfl (qn rfl (qn rfl (qn rfl (qn rfl (qn rfl (qn rfl (qn rfl (qn rfl (qn rfl (qp rfl (AB (by kernel_rfl) ?_))))))))))))
        exact As _ h (sm [] _ _ rfl rfl)
      ·refine Ap rfl (fun c39 => ?_) (fun c39 => ?_)
       ·have h := An c39 h
        refine Aq (AJ (Aa Ac rfl (qm rfl (AP rfl (qa rfl (Ae ?_))))))
        exact As _ h (sm [] _ _ rfl rfl)
       ·have h := Ao c39 h
        refine AT ?_
        exact As _ h (sm [] _ _ rfl rfl)
     ·refine Am hs (Ab ?_)
      refine AE (L := Gs.partition_L40 N p1 p4 v30 v33) h (fun v40 => mk [(0, oD (.own 90000)), (1, iD p1), (4, oD (.clo (Bb (Cm true Ad true Ad) Bg p4))), (12, iD v33), (13, iD v40)] [(90000, .vec 3 (v30.1.map Ad))]) (fun v41 => mk [(0, oD (.own 90000)), (1, iD p1), (4, oD (.clo (Bb (Cm true Ad true Ad) Bg p4))), (12, iD v33), (13, iD v41)] [(90000, .vec 3 (v30.1.map Ad))]) (fun _ _ => rfl) (sm [] _ _ rfl rfl) (fun j40 n40 v40 h => ?_) (fun v41 s h hs => ?_)
      ·unfold Gs.partition_L40 at h
       refine Ab ?_
       refine AO h (fun v42 => mk [(0, oD (.own 90000)), (1, iD p1), (4, oD (.clo (Bb (Cm true Ad true Ad) Bg p4))), (12, iD v33), (13, iD v40), (139, bD v42)] [(90000, .vec 3 (v30.1.map Ad))]) (fun j42 h => ?_) (fun v42 h => ?_)
       ·refine Aa Ac rfl (qm rfl (qm rfl (H3 rfl (qm rfl ?_))))
        refine AF (t := 126) rfl (fun c43 => ?_) (fun c43 => ?_)
        ·have h := An c43 h
         refine qm rfl (qm rfl (qm rfl ?_))
         obtain ⟨v44, a44, b44, h⟩ := Ai h
         refine qI A4 AU a44 (Af b44) rfl (qJ CP AU (Af b44) rfl (qm rfl (qm rfl ?_)))
         obtain ⟨v45, a45, b45, h⟩ := Ai h
         refine qI A4 AU a45 (Af b45) rfl (qJ CP AU (Af b45) rfl ?_)
         obtain ⟨v46, a46, h⟩ := bind_some h
         refine CA (ds0 := [_, _]) (ar := (Cm true Ad true Ad) ((v44, v45))) (.g rfl rfl) rfl rfl ⟨rfl, rfl, tv⟩ rfl rfl rfl (CC (C7 _ _ _ _ Bd Bd) a46) ?_
         refine AV rfl (BZ rfl (qp rfl (AB (by kernel_rfl) ?_)))
         exact As _ h (sm [] _ _ rfl rfl)
        ·have h := Ao c43 h
         refine qn rfl (qn rfl (qn rfl (qn rfl (qn rfl (qn rfl (qn rfl (qn rfl (qn rfl (qn rfl (qn rfl (qn rfl (qp rfl (AB (by kernel_rfl) ?_)))))))))))))
         exact As _ h (sm [] _ _ rfl rfl)
       ·refine Ap rfl (fun c47 => ?_) (fun c47 => ?_)
        ·have h := An c47 h
         refine Aq (AJ (Aa Ac rfl (qm rfl (Bk rfl (qa rfl (Ae ?_))))))
         exact As _ h (sm [] _ _ rfl rfl)
        ·have h := Ao c47 h
         refine AT ?_
         exact As _ h (sm [] _ _ rfl rfl)
      ·refine Am hs (Ab (Ab (Aa Ac rfl (qm rfl (qm rfl (Ey rfl (Ae ?_)))))))
       refine Ap rfl (fun c48 => ?_) (fun c48 => ?_)
       ·have h := An c48 h
        refine AT ?_
        exact As _ h (sm [] _ _ rfl rfl)
       ·have h := Ao c48 h
        refine Aq (Ab (Aa Ac rfl (qm rfl (qm rfl (qm rfl (qm rfl (qm rfl (qm rfl ?_))))))))
        obtain ⟨v49, a49, b49, h⟩ := Ai h
        refine qI A4 AU a49 (Af b49) rfl (qJ CP AU (Af b49) rfl (qm rfl (qm rfl ?_)))
        obtain ⟨v50, a50, b50, h⟩ := Ai h
        refine qI A4 AU a50 (Af b50) rfl (qJ CP AU (Af b50) rfl ?_)
        obtain ⟨v51, a51, b51, h⟩ := Ai h
        refine qI A4 AU a51 (Af b51) rfl ?_
        refine A0 rfl rfl rfl rfl (Af b51) rfl AU rfl (A7 rfl) (AY Ad v30.1 _ v49) ?_
        obtain ⟨v52, a52, b52, h⟩ := Ai h
        refine qI A4 AU a52 (Af b52) rfl ?_
        refine A0 rfl rfl rfl rfl (Af b52) rfl AU rfl (A7 rfl) (AY Ad (v30.1.set ((v33).toNat) v49) _ v50) ?_
        refine AB (by kernel_rfl) (Ab (Aa Ac rfl (qm rfl (AP rfl (qa rfl (Ae (Aa Ac rfl (qm rfl (Bk rfl (qa rfl (Ae ?_)))))))))))
        exact As _ h (sm [] _ _ rfl rfl)
    ·refine Am hs (Ab (Aa Ac rfl (qm rfl (qm rfl (qm rfl (qm rfl (qm rfl (qm rfl ?_))))))))
     obtain ⟨v53, a53, b53, h⟩ := Ai h
     refine qI A4 AU a53 (Af b53) rfl (qJ CP AU (Af b53) rfl (qm rfl (qm rfl ?_)))
     obtain ⟨v54, a54, b54, h⟩ := Ai h
     refine qI A4 AU a54 (Af b54) rfl (qJ CP AU (Af b54) rfl ?_)
     obtain ⟨v55, a55, b55, h⟩ := Ai h
     refine qI A4 AU a55 (Af b55) rfl ?_
     refine A0 rfl rfl rfl rfl (Af b55) rfl AU rfl (A7 rfl) (AY Ad v31.1 _ v53) ?_
     obtain ⟨v56, a56, b56, h⟩ := Ai h
     refine qI A4 AU a56 (Af b56) rfl ?_
     refine A0 rfl rfl rfl rfl (Af b56) rfl AU rfl (A7 rfl) (AY Ad (v31.1.set ((v31.2).toNat) v53) _ v54) ?_
     refine AB (by kernel_rfl) (Ab (Aa Ac rfl (qm rfl (qa rfl (qa rfl (Ae ?_))))))
     obtain rfl := sj h
     refine Am (sm [] [(10, iD v31.2), (11, bD false)] [(90000, .vec 3 (((v31.1.set ((v31.2).toNat) v53).set ((p1).toNat) v54).map Ad))] rfl rfl) (Az ?_)
     exact ⟨⟨[_, _], ⟨.tmp _ _ rfl, ⟨.tmp _ _ rfl, tv⟩⟩, rfl⟩, ⟨rfl, tv⟩, tv⟩
theorem GC (N : Nat) (rc : (List Ag) → Int → Int → Int → ((Ag × Ag) → Option Int) → Option ((List Ag))) (hrc : ∀ (p0 : List Ag) (p1 : Int) (p2 : Int) (p3 : Int) (p4 : (Ag × Ag) → Option Int) (r : (List Ag)), rc p0 p1 p2 p3 p4 = some r → Bh Tryz.prog 104 [oD (.own 90000), iD p1, iD p2, iD p3, oD (.clo (Bb (Cm true Ad true Ad) Bg p4))] [(.vec 3 (p0.map Ad), .vec 3 (r.map Ad))] [] (.tup [])) (p0 : List Ag) (p1 : Int) (p2 : Int) (p3 : Int) (p4 : (Ag × Ag) → Option Int) (r : (List Ag)) (h : Gs.pdqsort_B N rc p0 p1 p2 p3 p4 = some r) : Bh Tryz.prog 104 [oD (.own 90000), iD p1, iD p2, iD p3, oD (.clo (Bb (Cm true Ad true Ad) Bg p4))] [(.vec 3 (p0.map Ad), .vec 3 (r.map Ad))] [] (.tup []) := by
 unfold Gs.pdqsort_B at h
 refine Ba (n := 148) (rs := []) Tryz.func104 rfl rfl rfl (A7 rfl) (A7 rfl) rfl rfl (A7 rfl) rfl (A7 rfl) fun w0 S0 GL => Jy ?_
 refine Am (sm [] [(0, oD (.own 90000)), (1, iD p1), (2, iD p2), (3, iD p3), (4, oD (.clo (Bb (Cm true Ad true Ad) Bg p4)))] [(90000, .vec 3 (p0.map Ad))] rfl rfl) (Ab (Aa Ac rfl (qa rfl (Ae (Ab (Aa Ac rfl (qa rfl (Ae ?_))))))))
 refine AE (L := Gs.pdqsort_L1 N p4 rc) h (fun v1 => mk [(0, oD (.own 90000)), (1, iD v1.2.1), (2, iD v1.2.2.1), (3, iD v1.2.2.2.1), (4, oD (.clo (Bb (Cm true Ad true Ad) Bg p4))), (10, bD v1.2.2.2.2.1), (11, bD v1.2.2.2.2.2)] [(90000, .vec 3 (v1.1.map Ad))]) (fun v2 => mk [] []) (fun _ _ => rfl) (sm [] _ _ rfl rfl) (fun j1 n1 v1 h => ?_) (fun v2 s h hs => ?_)
 ·unfold Gs.pdqsort_L1 at h
  refine AJ (Ab (Aa Ac rfl (qm rfl (qm rfl (Bk rfl (qa rfl (Ae (Ab (Ab (Aa Ac rfl (qm rfl (H3 rfl (Ae ?_)))))))))))))
  refine Ap rfl (fun c3 => ?_) (fun c3 => ?_)
  ·have h := An c3 h
   refine Ab (Aa Ac rfl (qm rfl (qm rfl (qm rfl (qm rfl ?_)))))
   obtain ⟨v4, a4, h⟩ := bind_some h
   refine BC (ds0 := [_, _, _, _]) [90000] [] [true] (FU N v1.1 v1.2.1 v1.2.2.1 p4 v4 a4) (.p rfl) Y2 rfl ⟨rfl, rfl, rfl, rfl, tv⟩ rfl rfl (by decide) ⟨rfl, tv⟩ rfl (A2 rfl) tv ⟨(fun h => by cases h), tv⟩ rfl rfl rfl ?_
   refine Ae ?_
   obtain rfl := sj h
   refine Az ⟨_, (sm [] [] [(90000, .vec 3 (v4.map Ad))] rfl rfl), ?_⟩
   exact ⟨⟨[], tv, rfl⟩, ⟨rfl, tv⟩, tv⟩
  ·have h := Ao c3 h
   refine Aq (Ab (Ab (Aa Ac rfl (qm rfl (BL rfl (Ae ?_))))))
   refine Ap rfl (fun c5 => ?_) (fun c5 => ?_)
   ·have h := An c5 h
    refine Ab (Aa Ac rfl (qm rfl (qm rfl (qm rfl (qm rfl ?_)))))
    obtain ⟨v6, a6, h⟩ := bind_some h
    refine BC (ds0 := [_, _, _, _]) [90000] [] [true] (GF N v1.1 v1.2.1 v1.2.2.1 p4 v6 a6) (.p rfl) YN rfl ⟨rfl, rfl, rfl, rfl, tv⟩ rfl rfl (by decide) ⟨rfl, tv⟩ rfl (A2 rfl) tv ⟨(fun h => by cases h), tv⟩ rfl rfl rfl ?_
    refine Ae ?_
    obtain rfl := sj h
    refine Az ⟨_, (sm [] [] [(90000, .vec 3 (v6.map Ad))] rfl rfl), ?_⟩
    exact ⟨⟨[], tv, rfl⟩, ⟨rfl, tv⟩, tv⟩
   ·have h := Ao c5 h
    refine Aq ?_
    refine AO h (fun v7 => mk [(0, oD (.own 90000)), (1, iD v1.2.1), (2, iD v1.2.2.1), (3, iD v7.2), (4, oD (.clo (Bb (Cm true Ad true Ad) Bg p4))), (10, bD v1.2.2.2.2.1), (11, bD v1.2.2.2.2.2), (12, iD ((wI .i64 (v1.2.2.1 - v1.2.1))))] [(90000, .vec 3 (v7.1.map Ad))]) (fun j7 h => ?_) (fun v7 h => ?_)
    ·refine Ab (Aa Ac rfl (qm rfl (BZ rfl (Ae ?_))))
     refine Ap rfl (fun c8 => ?_) (fun c8 => ?_)
     ·have h := An c8 h
      refine Ab (Aa Ac rfl (qm rfl (qm rfl (qm rfl (qm rfl ?_)))))
      obtain ⟨v9, a9, h⟩ := bind_some h
      refine BC (ds0 := [_, _, _, _]) [90000] [] [true] (FV N v1.1 v1.2.1 v1.2.2.1 p4 v9 a9) (.p rfl) XX rfl ⟨rfl, rfl, rfl, rfl, tv⟩ rfl rfl (by decide) ⟨rfl, tv⟩ rfl (A2 rfl) tv ⟨(fun h => by cases h), tv⟩ rfl rfl rfl ?_
      refine Ae (Aa Ac rfl (qm rfl (Bk rfl (qa rfl (Ae ?_)))))
      exact As _ h (sm [] _ _ rfl rfl)
     ·have h := Ao c8 h
      refine Aq ?_
      exact As _ h (sm [] _ _ rfl rfl)
    ·refine Ab (Aa Ac rfl (qm rfl (qm rfl (qm rfl (qm rfl ?_)))))
     obtain ⟨v10, a10, h⟩ := bind_some h
     refine DC [] [90000] (F9 N v7.1 v1.2.1 v1.2.2.1 p4 v10 a10) YC Cj rfl (qm rfl (qx rfl (qx rfl (qa rfl (qa rfl (Ae ?_))))))
     refine AO h (fun v11 => mk [(0, oD (.own 90000)), (1, iD v1.2.1), (2, iD v1.2.2.1), (3, iD v7.2), (4, oD (.clo (Bb (Cm true Ad true Ad) Bg p4))), (10, bD v1.2.2.2.2.1), (11, bD v1.2.2.2.2.2), (12, iD ((wI .i64 (v1.2.2.1 - v1.2.1)))), (13, iD v11.2.1), (14, iD v11.2.2)] [(90000, .vec 3 (v11.1.map Ad))]) (fun j11 h => ?_) (fun v11 h => ?_)
     ·refine Ab (Aa Ac rfl (qm rfl (BL rfl (Ae ?_))))
      refine Ap rfl (fun c12 => ?_) (fun c12 => ?_)
      ·have h := An c12 h
       refine Ab (Aa Ac rfl (qm rfl (qm rfl (qm rfl (qm rfl ?_)))))
       obtain ⟨v13, a13, h⟩ := bind_some h
       refine BC (ds0 := [_, _, _, _]) [90000] [] [true] (F0 N v7.1 v1.2.1 v1.2.2.1 p4 v13 a13) (.p rfl) Zz rfl ⟨rfl, rfl, rfl, rfl, tv⟩ rfl rfl (by decide) ⟨rfl, tv⟩ rfl (A2 rfl) tv ⟨(fun h => by cases h), tv⟩ rfl rfl rfl ?_
       refine Ae (Ab (Aa Ac rfl (qm rfl (Bk rfl (qm rfl (qm rfl (Bk rfl (Bk rfl (qa rfl (Ae (Aa Ac rfl (qa rfl (Ae ?_)))))))))))))
       exact As _ h (sm [] _ _ rfl rfl)
      ·have h := Ao c12 h
       refine Aq ?_
       exact As _ h (sm [] _ _ rfl rfl)
     ·refine AO h (fun v14 => mk [(0, oD (.own 90000)), (1, iD v1.2.1), (2, iD v1.2.2.1), (3, iD v7.2), (4, oD (.clo (Bb (Cm true Ad true Ad) Bg p4))), (10, bD v1.2.2.2.2.1), (11, bD v1.2.2.2.2.2), (12, iD ((wI .i64 (v1.2.2.1 - v1.2.1)))), (13, iD v11.2.1)] [(90000, .vec 3 (v14.map Ad))]) (fun j14 h => ?_) (fun v14 h => ?_)
      ·refine AO h (fun v15 => mk [(0, oD (.own 90000)), (1, iD v1.2.1), (2, iD v1.2.2.1), (3, iD v7.2), (4, oD (.clo (Bb (Cm true Ad true Ad) Bg p4))), (10, bD v1.2.2.2.2.1), (11, bD v1.2.2.2.2.2), (12, iD ((wI .i64 (v1.2.2.1 - v1.2.1)))), (13, iD v11.2.1), (75, bD v15)] [(90000, .vec 3 (v11.1.map Ad))]) (fun j15 h => ?_) (fun v15 h => ?_)
       ·refine Aa Ac rfl (qm rfl (qm rfl ?_))
        refine AF (t := 69) rfl (fun c16 => ?_) (fun c16 => ?_)
        ·have h := An c16 h
         refine qm rfl (qp rfl (qm rfl ?_))
         refine AF (t := 72) rfl (fun c17 => ?_) (fun c17 => ?_)
         ·have h := An c17 h
          refine qm rfl (BL rfl (qp rfl (Ae ?_)))
          exact As _ h (sm [] _ _ rfl rfl)
         ·have h := Ao c17 h
          refine qn rfl (qn rfl (qp rfl (Ae ?_)))
          exact As _ h (sm [] _ _ rfl rfl)
        ·have h := Ao c16 h
         refine qn rfl (qp rfl (qm rfl (qn rfl (qn rfl (qp rfl (Ae ?_))))))
         exact As _ h (sm [] _ _ rfl rfl)
       ·refine Ap rfl (fun c18 => ?_) (fun c18 => ?_)
        ·have h := An c18 h
         refine Ab (Aa Ac rfl (qm rfl (qm rfl (qm rfl (qm rfl ?_)))))
         obtain ⟨v19, a19, h⟩ := bind_some h
         refine BC (ds0 := [_, _, _, _]) [90000] [] [true] (Ff N v11.1 v1.2.1 v1.2.2.1 p4 v19 a19) (.p rfl) YS rfl ⟨rfl, rfl, rfl, rfl, tv⟩ rfl rfl (by decide) ⟨rfl, tv⟩ rfl (A2 rfl) tv ⟨(fun h => by cases h), tv⟩ rfl rfl rfl ?_
         refine Ae ?_
         refine Ap rfl (fun c20 => ?_) (fun c20 => ?_)
         ·have h := An c20 h
          obtain rfl := sj h
          refine Az ⟨_, (sm [] [] [(90000, .vec 3 (v19.2.map Ad))] rfl rfl), ?_⟩
          exact ⟨⟨[], tv, rfl⟩, ⟨rfl, tv⟩, tv⟩
         ·have h := Ao c20 h
          refine Aq ?_
          exact As _ h (sm [] _ _ rfl rfl)
        ·have h := Ao c18 h
         refine Aq ?_
         exact As _ h (sm [] _ _ rfl rfl)
      ·refine Ab ?_
       refine AO h (fun v21 => mk [(0, oD (.own 90000)), (1, iD v1.2.1), (2, iD v1.2.2.1), (3, iD v7.2), (4, oD (.clo (Bb (Cm true Ad true Ad) Bg p4))), (10, bD v1.2.2.2.2.1), (11, bD v1.2.2.2.2.2), (12, iD ((wI .i64 (v1.2.2.1 - v1.2.1)))), (13, iD v11.2.1), (97, bD v21)] [(90000, .vec 3 (v14.map Ad))]) (fun j21 h => ?_) (fun v21 h => ?_)
       ·refine Aa Ac rfl (qm rfl (Ey rfl (qm rfl ?_)))
        refine AF (t := 83) rfl (fun c22 => ?_) (fun c22 => ?_)
        ·have h := An c22 h
         refine qm rfl (qm rfl (qm rfl (Bk rfl ?_)))
         obtain ⟨v23, a23, b23, h⟩ := Ai h
         refine qI A4 AU a23 (Af b23) rfl (qJ CP AU (Af b23) rfl (qm rfl (qm rfl ?_)))
         obtain ⟨v24, a24, b24, h⟩ := Ai h
         refine qI A4 AU a24 (Af b24) rfl (qJ CP AU (Af b24) rfl ?_)
         obtain ⟨v25, a25, h⟩ := bind_some h
         refine CA (ds0 := [_, _]) (ar := (Cm true Ad true Ad) ((v23, v24))) (.g rfl rfl) rfl rfl ⟨rfl, rfl, tv⟩ rfl rfl rfl (CC (C7 _ _ _ _ Bd Bd) a25) ?_
         refine AV rfl (BZ rfl (qp rfl (AB (by kernel_rfl) ?_)))
         exact As _ h (sm [] _ _ rfl rfl)
        ·have h := Ao c22 h
         refine qn rfl (qn rfl (qn rfl (qn rfl (qn rfl (qn rfl (qn rfl (qn rfl (qn rfl (qn rfl (qn rfl (qn rfl (qn rfl (qp rfl (AB (by kernel_rfl) ?_))))))))))))))
         exact As _ h (sm [] _ _ rfl rfl)
       ·refine Ap rfl (fun c26 => ?_) (fun c26 => ?_)
        ·have h := An c26 h
         refine Ab (Aa Ac rfl (qm rfl (qm rfl (qm rfl (qm rfl (qm rfl ?_))))))
         obtain ⟨v27, a27, h⟩ := bind_some h
         refine BC (ds0 := [_, _, _, _, _]) [90000] [] [true] (FO N v14 v1.2.1 v1.2.2.1 v11.2.1 p4 v27 a27) (.p rfl) Yi rfl ⟨rfl, rfl, rfl, rfl, rfl, tv⟩ rfl rfl (by decide) ⟨rfl, tv⟩ rfl (A2 rfl) tv ⟨(fun h => by cases h), tv⟩ rfl rfl rfl ?_
         refine qa rfl (Ae (Ab (Aa Ac rfl (qm rfl (qa rfl (Ae (AT ?_)))))))
         exact As _ h (sm [] _ _ rfl rfl)
        ·have h := Ao c26 h
         refine Aq (Ab (Aa Ac rfl (qm rfl (qm rfl (qm rfl (qm rfl (qm rfl ?_)))))))
         obtain ⟨v28, a28, h⟩ := bind_some h
         refine BC (ds0 := [_, _, _, _, _]) [90000] [] [true] (Gy N v14 v1.2.1 v1.2.2.1 v11.2.1 p4 v28 a28) (.p rfl) Zt rfl ⟨rfl, rfl, rfl, rfl, rfl, tv⟩ rfl rfl (by decide) ⟨rfl, tv⟩ rfl (A2 rfl) tv ⟨(fun h => by cases h), tv⟩ rfl rfl rfl ?_
         refine qm rfl (qx rfl (qx rfl (qa rfl (qa rfl (Ae (Ab (Aa Ac rfl (qm rfl (qa rfl (Ae (Ab (Aa Ac rfl (qm rfl (qm rfl (Bk rfl (qm rfl (qm rfl (Bk rfl (qa rfl (qa rfl (Ae (Ab (Aa Ac rfl (qm rfl (Jz rfl (by decide) (qa rfl (Ae (Ab (Aa Ac rfl (qm rfl (qm rfl (AV rfl (Ae ?_)))))))))))))))))))))))))))))))))
         refine Ap rfl (fun c29 => ?_) (fun c29 => ?_)
         ·have h := An c29 h
          refine Ab (Aa Ac rfl (qm rfl (qm rfl (Cz rfl (qa rfl (Ae (Ab (Aa Ac rfl (qm rfl (qm rfl (qm rfl (qm rfl (qm rfl ?_)))))))))))))
          obtain ⟨v30, a30, h⟩ := bind_some h
          refine BC (ds0 := [_, _, _, _, _]) [90000] [] [true] (hrc v28.2.2 v1.2.1 v28.1 v7.2 p4 v30 a30) (.p rfl) Vd rfl ⟨rfl, rfl, rfl, rfl, rfl, tv⟩ rfl rfl (by decide) ⟨rfl, tv⟩ rfl (A2 rfl) tv ⟨(fun h => by cases h), tv⟩ rfl rfl rfl ?_
          refine Ae (Aa Ac rfl (qm rfl (AP rfl (qa rfl (Ae ?_)))))
          exact As _ h (sm [] _ _ rfl rfl)
         ·have h := Ao c29 h
          refine Ab (Aa Ac rfl (qm rfl (qm rfl (Cz rfl (qa rfl (Ae (Ab (Aa Ac rfl (qm rfl (qm rfl (AP rfl (qm rfl (qm rfl (qm rfl ?_))))))))))))))
          obtain ⟨v31, a31, h⟩ := bind_some h
          refine BC (ds0 := [_, _, _, _, _]) [90000] [] [true] (hrc v28.2.2 ((wI .i64 (v28.1 + 1))) v1.2.2.1 v7.2 p4 v31 a31) (.p rfl) Vd rfl ⟨rfl, rfl, rfl, rfl, rfl, tv⟩ rfl rfl (by decide) ⟨rfl, tv⟩ rfl (A2 rfl) tv ⟨(fun h => by cases h), tv⟩ rfl rfl rfl ?_
          refine Ae (Aa Ac rfl (qm rfl (qa rfl (Ae ?_))))
          exact As _ h (sm [] _ _ rfl rfl)
 ·cases h
theorem EN (N : Nat) : ∀ (k : Nat) (p0 : List Ag) (p1 : Int) (p2 : Int) (p3 : Int) (p4 : (Ag × Ag) → Option Int) (r : (List Ag)), Gs.pdqsort_R N k p0 p1 p2 p3 p4 = some r → Bh Tryz.prog 104 [oD (.own 90000), iD p1, iD p2, iD p3, oD (.clo (Bb (Cm true Ad true Ad) Bg p4))] [(.vec 3 (p0.map Ad), .vec 3 (r.map Ad))] [] (.tup [])
 | 0, _, _, _, _, _, _, h => by cases h
 | k + 1, p0, p1, p2, p3, p4, r, h => GC N (Gs.pdqsort_R N k) (EN N k) p0 p1 p2 p3 p4 r h
theorem GY (N : Nat) (p0 : List Ag) (p1 : Int) (p2 : Int) (p3 : Int) (p4 : (Ag × Ag) → Option Int) (r : (List Ag)) (h : Gs.pdqsort N p0 p1 p2 p3 p4 = some r) : Bh Tryz.prog 104 [oD (.own 90000), iD p1, iD p2, iD p3, oD (.clo (Bb (Cm true Ad true Ad) Bg p4))] [(.vec 3 (p0.map Ad), .vec 3 (r.map Ad))] [] (.tup []) := EN N N p0 p1 p2 p3 p4 r h
theorem FP (N : Nat) (p0 : List Ag) (p1 : (Ag × Ag) → Option Int) (r : (List Ag)) (h : Bp N p0 p1 = some r) : Bh Tryz.prog 59 [oD (.own 90000), oD (.clo (Bb (Cm true Ad true Ad) Bg p1))] [(.vec 3 (p0.map Ad), .vec 3 (r.map Ad))] [] (.tup []) := by
 unfold Bp at h
 refine Ba (n := 14) (rs := []) Tryz.func59 rfl rfl rfl (A7 rfl) (A7 rfl) rfl rfl (A7 rfl) rfl (A7 rfl) fun w0 S0 GL => Jy ?_
 refine Am (sm [] [(0, oD (.own 90000)), (1, oD (.clo (Bb (Cm true Ad true Ad) Bg p1)))] [(90000, .vec 3 (p0.map Ad))] rfl rfl) (Ab (Aa Ac rfl (qm rfl (Ex A4 rfl (qa rfl (Ae (Aa Ac rfl (qm rfl (qm rfl (qm rfl (Gq T1 Nl rfl ?_)))))))))))
 obtain ⟨v1, a1, h⟩ := bind_some h
 refine AG [] (Iu N ((wI .u64 ((p0.length : Int)))) v1 a1) Vh rfl (qm rfl ?_)
 obtain ⟨v2, a2, h⟩ := bind_some h
 refine BC (ds0 := [_, _, _, _, _]) [90000] [] [true] (GY N p0 0 ((p0.length : Int)) v1 p1 v2 a2) (.p rfl) Vd rfl ⟨rfl, rfl, rfl, rfl, rfl, tv⟩ rfl rfl (by decide) ⟨rfl, tv⟩ rfl (A2 rfl) tv ⟨(fun h => by cases h), tv⟩ rfl rfl rfl ?_
 refine Ae ?_
 obtain rfl := sj h
 refine ⟨_, (sm [] [] [(90000, .vec 3 (v2.map Ad))] rfl rfl), ?_⟩
 exact ⟨⟨[], tv, rfl⟩, ⟨rfl, tv⟩, tv⟩
theorem LE (N : Nat) (p0 : Ag) (p1 : Ag) (r : Int) (h : Cv N p0 p1 = some r) : AC Tryz.prog 60 [.e (.agg [iC p0.fTable, iC p0.fWriter, iC p0.fReader]), .e (.agg [iC p1.fTable, iC p1.fWriter, iC p1.fReader])] [] (iD r) := by
 unfold Cv at h
 refine Au (n := 22) (rs := [.tmp 4]) Tryz.func60 rfl rfl rfl (A7 rfl) (A7 rfl) rfl fun w0 S0 => ?_
 refine Ab (Aa Ac rfl (qb rfl (qb rfl (qa rfl (Ae (Ab (Aa Ac rfl (qf Lc rfl (ql B6 rfl (qf Lc rfl (ql B6 rfl ?_)))))))))))
 obtain ⟨v1, a1, h⟩ := bind_some h
 refine AG [] (Gm N p0.fTable p1.fTable v1 a1) Wv rfl (qf Li rfl (ql B6 rfl (qf Li rfl (ql B6 rfl ?_))))
 obtain ⟨v2, a2, h⟩ := bind_some h
 refine AG [] (Gm N p0.fWriter p1.fWriter v2 a2) Wv rfl (qf NK rfl (ql B6 rfl (qf NK rfl (ql B6 rfl ?_))))
 obtain ⟨v3, a3, h⟩ := bind_some h
 refine AG [] (Gm N p0.fReader p1.fReader v3 a3) Wv rfl (D8 AM Dw Kv rfl ?_)
 obtain ⟨v4, a4, h⟩ := bind_some h
 refine DC [] [20] (Mq N (([v1, v2, v3] : List Int)) v4 a4) Zr Cj rfl (qa rfl (AB (by kernel_rfl) ?_))
 obtain rfl := sj h
 refine Am (sm [] [(4, iD v4)] [] rfl rfl) (Az ?_)
 exact ⟨⟨[_], ⟨.tmp _ _ rfl, tv⟩, rfl⟩, tv⟩
theorem zFS (N : Nat) (p0 : List Ag) (r : Nat × (List Ag)) (h : Bs N p0 = some r) : Bh Tryz.prog 63 [oD (.own 90000)] [(.vec 3 (p0.map Ad), .vec 3 (r.2.map Ad))] [] (oD (.view 90000 3 0 r.1)) := by
 unfold Bs at h
 refine Ba (n := 61) (rs := [.tmp 2]) Tryz.func63 rfl rfl rfl (A7 rfl) (A7 rfl) rfl rfl (A7 rfl) rfl (A7 rfl) fun w0 S0 GL => ?_
 refine Am (sm [] [(0, oD (.own 90000))] [(90000, .vec 3 (p0.map Ad))] rfl rfl) (Ab (Aa Ac rfl (qa rfl (Ae (Ab (Ab (Aa Ac rfl (qm rfl (Ex A4 rfl (AV rfl (Ae ?_)))))))))))
 refine Ap rfl (fun c1 => ?_) (fun c1 => ?_)
 ·have h := An c1 h
  refine Ab (Aa Ac rfl (qm rfl (qa rfl (Ae ?_))))
  obtain rfl := sj h
  refine Am ((PK Ad p0 2 90000 3 rfl rfl).trans (sm [] [(2, oD (.view 90000 3 0 p0.length))] [(90000, .vec 3 (p0.map Ad))] rfl rfl)) (Az ?_)
  exact ⟨⟨[_], ⟨.tmp _ _ rfl, tv⟩, rfl⟩, ⟨rfl, tv⟩, tv⟩
 ·have h := Ao c1 h
  refine Aq (Ab (Ab (Aa Ac rfl (qa rfl (Ae ?_)))))
  refine AE (L := BV N p0) h (fun v2 => mk [(0, oD (.own 90000)), (3, iD v2)] [(90000, .vec 3 (p0.map Ad))]) (fun v3 => mk [(0, oD (.own 90000))] [(90000, .vec 3 (p0.map Ad))]) (fun _ _ => rfl) (sm [] _ _ rfl rfl) (fun j2 n2 v2 h => ?_) (fun v3 s h hs => ?_)
  ·unfold BV at h
   refine Ab (Ab (Aa Ac rfl (qm rfl (qm rfl (Ex A4 rfl (AV rfl (Ae ?_)))))))
   refine Ap rfl (fun c4 => ?_) (fun c4 => ?_)
   ·have h := An c4 h
    refine Aq (Ab (AJ (Ab (Aa Ac rfl (qm rfl (qm rfl ?_))))))
    obtain ⟨v5, a5, b5, h⟩ := Ai h
    refine qI A4 AU a5 (Af b5) rfl (qJ CP AU (Af b5) rfl (qm rfl (qm rfl (Bk rfl ?_))))
    obtain ⟨v6, a6, b6, h⟩ := Ai h
    refine qI A4 AU a6 (Af b6) rfl (qJ CP AU (Af b6) rfl ?_)
    refine UB [.int .i64 v5.fTable, .int .i64 v5.fWriter, .int .i64 v5.fReader] [.int .i64 v6.fTable, .int .i64 v6.fWriter, .int .i64 v6.fReader] (.p rfl) rfl rfl PE rfl ?_
    refine AB (by kernel_rfl) ?_
    refine Ap rfl (fun c7 => ?_) (fun c7 => ?_)
    ·have h := An c7 h
     refine Ab (Aa Ac rfl (qm rfl (qm rfl ?_)))
     obtain ⟨c8, h⟩ := AS h
     have w9 : ((v2).toNat) + ((p0.length - (v2).toNat)) ≤ p0.length := by have := c8.2.1; have := c8.2.2; omega
     refine Jd Ad p0 (.p rfl) rfl (Io Ad _ _ p0) rfl A4 AU (.some _ _ _ _ c8.1) (.none _) ⟨rfl, tv⟩ tv c8.2.1 (by rw [Nat.zero_add]; exact c8.2.2) (Nat.zero_add _) rfl ?_
     refine qa rfl (Ae (Ab (Ab (Aa Ac rfl (qa rfl (Ae ?_))))))
     refine AE (L := BR N p0 v2) h (fun v10 => mk [(0, oD (.own 90000)), (3, iD v10.2.1), (4, oD (.view 90000 3 ((v2).toNat) ((p0.length - (v2).toNat)))), (5, iD v10.2.2)] [(90000, .vec 3 (v10.1.map Ad))]) (fun v11 => mk [(0, oD (.own 90000)), (3, iD v11.2)] [(90000, .vec 3 (v11.1.map Ad))]) (fun _ _ => rfl) (sm [] _ _ rfl rfl) (fun j10 n10 v10 h => ?_) (fun v11 s h hs => ?_)
     ·unfold BR at h
      refine Ab (Ab (Aa Ac rfl (qm rfl (qm rfl ?_))))
      refine VU (.p rfl) rfl A4 ?_
      refine AV rfl (Ae ?_)
      refine Ap rfl (fun c12 => ?_) (fun c12 => ?_)
      ·have h := An c12 h
       refine Aq ?_
       refine AO h (fun v13 => mk [(0, oD (.own 90000)), (3, iD v13.2), (4, oD (.view 90000 3 ((v2).toNat) ((p0.length - (v2).toNat)))), (5, iD v10.2.2)] [(90000, .vec 3 (v13.1.map Ad))]) (fun j13 h => ?_) (fun v13 h => ?_)
       ·refine AJ (Ab (Aa Ac rfl (qm rfl (qm rfl ?_))))
        obtain ⟨c15, h⟩ := AS h
        obtain ⟨v14, a14, b14, h⟩ := Ai h
        refine ME Ad v10.1 (.p rfl) rfl c15 rfl rfl A4 AU a14 (JY b14).1 rfl ?_
        refine L7 (.p rfl) rfl CP AU rfl (Af (JY b14).2) ?_
        refine qm rfl (qm rfl (Bk rfl ?_))
        obtain ⟨v16, a16, b16, h⟩ := Ai h
        refine ME Ad v10.1 (.p rfl) rfl c15 rfl rfl A4 AU a16 (JY b16).1 rfl ?_
        refine L7 (.p rfl) rfl CP AU rfl (Af (JY b16).2) ?_
        refine Q5 [.int .i64 v14.fTable, .int .i64 v14.fWriter, .int .i64 v14.fReader] [.int .i64 v16.fTable, .int .i64 v16.fWriter, .int .i64 v16.fReader] (.p rfl) rfl rfl PE rfl ?_
        refine AB (by kernel_rfl) ?_
        refine Ap rfl (fun c17 => ?_) (fun c17 => ?_)
        ·have h := An c17 h
         refine Ab (Aa Ac rfl (qm rfl (qm rfl (qm rfl (qm rfl ?_)))))
         obtain ⟨v18, a18, b18, h⟩ := Ai h
         refine ME Ad v10.1 (.p rfl) rfl c15 rfl rfl A4 AU a18 (JY b18).1 rfl ?_
         refine L7 (.p rfl) rfl CP AU rfl (Af (JY b18).2) ?_
         obtain ⟨v19, a19, b19, h⟩ := Ai h
         refine qI A4 AU a19 (Af b19) rfl ?_
         refine A0 rfl rfl rfl rfl (Af b19) rfl AU rfl (A7 rfl) (AY Ad v10.1 _ v18) ?_
         refine Ae (Aa Ac rfl (qm rfl (AP rfl (qa rfl (Ae ?_)))))
         exact As _ h (sm [] _ _ rfl rfl)
        ·have h := Ao c17 h
         refine Aq ?_
         exact As _ h (sm [] _ _ rfl rfl)
       ·refine Aa Ac rfl (qm rfl (AP rfl (qa rfl (Ae ?_))))
        exact As _ h (sm [] _ _ rfl rfl)
      ·have h := Ao c12 h
       refine AT ?_
       exact As _ h (sm [] _ _ rfl rfl)
     ·refine Am hs (Ab (Aa Ac rfl (qm rfl (qm rfl ?_))))
      obtain ⟨c20, h⟩ := AS h
      have w21 : ((v11.2).toNat) + ((v11.1.length - (v11.2).toNat)) ≤ v11.1.length := by have := c20.2.1; have := c20.2.2; omega
      refine Jd Ad v11.1 (.p rfl) rfl (Io Ad _ _ v11.1) rfl A4 AU (.some _ _ _ _ c20.1) (.none _) ⟨rfl, tv⟩ tv c20.2.1 (by rw [Nat.zero_add]; exact c20.2.2) (Nat.zero_add _) rfl ?_
      have w22 : (H5 v11.1 ((v11.2).toNat) (List.replicate ((v11.1.length - (v11.2).toNat)) ((Ag.mk 0 0 0)))).length = v11.1.length := Ja (by rw [List.length_replicate]; exact w21)
      refine Rs Ad v11.1 ((Ag.mk 0 0 0)) rfl rfl (MV Ad _ _ ((v11.2).toNat) ((v11.1.length - (v11.2).toNat)) v11.1 w21) rfl A4 G6 rfl rfl rfl rfl ?_
      refine Ae (Ab (Aa Ac rfl (qm rfl (qm rfl ?_))))
      obtain ⟨c23, h⟩ := AS h
      have w24 : 0 + ((v11.2).toNat) ≤ (H5 v11.1 ((v11.2).toNat) (List.replicate ((v11.1.length - (v11.2).toNat)) ((Ag.mk 0 0 0)))).length := by have := c23.2.1; have := c23.2.2; omega
      refine Jd Ad (H5 v11.1 ((v11.2).toNat) (List.replicate ((v11.1.length - (v11.2).toNat)) ((Ag.mk 0 0 0)))) (.p rfl) rfl (Io Ad _ _ (H5 v11.1 ((v11.2).toNat) (List.replicate ((v11.1.length - (v11.2).toNat)) ((Ag.mk 0 0 0))))) rfl A4 AU (.none _) (.some _ _ _ _ c23.1) tv ⟨rfl, tv⟩ c23.2.1 (by rw [Nat.zero_add]; exact c23.2.2) (Nat.zero_add _) rfl ?_
      refine qa rfl (Ae ?_)
      obtain rfl := sj h
      refine Am (sm [] [(2, oD (.view 90000 3 0 ((v11.2).toNat)))] [(90000, .vec 3 ((H5 v11.1 ((v11.2).toNat) (List.replicate ((v11.1.length - (v11.2).toNat)) ((Ag.mk 0 0 0)))).map Ad))] rfl rfl) (Az ?_)
      exact ⟨⟨[_], ⟨.tmp _ _ rfl, tv⟩, rfl⟩, ⟨rfl, tv⟩, tv⟩
    ·have h := Ao c7 h
     refine Aq (Aa Ac rfl (qm rfl (AP rfl (qa rfl (Ae ?_)))))
     exact As _ h (sm [] _ _ rfl rfl)
   ·have h := Ao c4 h
    refine AT ?_
    exact As _ h (sm [] _ _ rfl rfl)
  ·refine Am hs (Ab (Aa Ac rfl (qm rfl (qa rfl (Ae ?_)))))
   obtain rfl := sj h
   refine Am ((PK Ad p0 2 90000 3 rfl rfl).trans (sm [] [(2, oD (.view 90000 3 0 p0.length))] [(90000, .vec 3 (p0.map Ad))] rfl rfl)) (Az ?_)
   exact ⟨⟨[_], ⟨.tmp _ _ rfl, tv⟩, rfl⟩, ⟨rfl, tv⟩, tv⟩
theorem JR (N : Nat) (p0 : Ak) (p1 : List Ah) (r : (List Ag) × Int) (h : CX N p0 p1 = some r) : AC Tryz.prog 22 [.e (.agg [sC (p0.fVersions.map Al), sC (p0.fNow.map Al), sC (p0.fTarget.map Al), sC (p0.fTables.map Ar)]), pD (.sl (p1.map Aj))] [(3, r.1.map Ad)] (.tup [.one (.own 0), .one (iC r.2)]) := by
 unfold CX at h
 refine Au (n := 36) (rs := [.tmp 4, .tmp 5]) Tryz.func22 rfl rfl rfl (A7 rfl) (A7 rfl) rfl fun w0 S0 => ?_
 refine Ab (Aa Ac rfl (qb rfl (qa rfl (qa rfl (Ae (Ab (Aa Ac rfl (qL DO Dv rfl (qm rfl ?_)))))))))
 obtain ⟨v1, a1, h⟩ := bind_some h
 refine AG [2001] (Iv N p0 p1 v1 a1) Xv rfl (qm rfl (qx rfl (qx rfl (qa rfl (qa rfl (Ae (Ab (Ab (Aa Ac rfl (qm rfl (B3 rfl (Ae ?_))))))))))))
 refine Ap rfl (fun c2 => ?_) (fun c2 => ?_)
 ·have h := An c2 h
  refine Ab (Aa Ac rfl (qm rfl (qa rfl (qa rfl (Ae ?_)))))
  obtain rfl := sj h
  refine Am ((Br 4 2002 3 rfl rfl rfl).trans (sm [(1000, 2002)] [(4, oD (.own 1000)), (5, iD v1.2)] [(1000, .vec 3 ((([] : List Ag)).map Ad))] rfl rfl)) (Az ?_)
  exact ⟨⟨[_, _], ⟨.tmp _ _ rfl, ⟨.tmp _ _ rfl, tv⟩⟩, rfl⟩, ⟨rfl, tv⟩⟩
 ·have h := Ao c2 h
  refine Aq (Ab (Aa Ac rfl (qa rfl (Ae (Ab (Ab (Aa Ac rfl (qm rfl (Ex FC rfl (qm rfl (Ae ?_)))))))))))
  refine AE (L := Dr N v1) h (fun v3 => mk [(8, oD (.own 2003)), (20, oD (.own 2004)), (21, iD ((v1.1.length : Int))), (22, iD v3.2)] [(2003, .vec 3 (v3.1.map Ad)), (2004, .vec 9 (v1.1.map Bo))]) (fun v4 => mk [(8, oD (.own 2005))] [(2005, .vec 3 (v4.map Ad))]) (fun _ _ => rfl) ((Br 8 2006 3 rfl rfl rfl).trans (sm [(2003, 2006), (2004, 2001)] _ _ rfl rfl)) (fun j3 n3 v3 h => ?_) (fun v4 s h hs => ?_)
  ·unfold Dr at h
   refine Ab (Aa Ac rfl (AV rfl (Ae (Ab ?_))))
   refine Ap rfl (fun c5 => ?_) (fun c5 => ?_)
   ·have h := An c5 h
    refine Aq (Ab (AJ (Ab (Aa Ac rfl ?_))))
    obtain ⟨v6, a6, b6, h⟩ := Ai h
    refine qI FC J3 a6 (Af b6) rfl (qJ ZR J3 (Af b6) rfl (qz PZ rfl (qs J3 rfl (Ae (Aa Ac rfl (qm rfl (qf Kn rfl (qL CP AU rfl (D8 A4 AU G6 rfl ?_)))))))))
    obtain ⟨c7, h⟩ := AS h
    refine Dt (f := Ad) A4 A4 AU Nt G6 c7 rfl (qa rfl (Ae (Aa Ac rfl (AP rfl (qm rfl (Ae ?_))))))
    exact As _ h (sm [(2003, 30)] _ _ rfl rfl)
   ·have h := Ao c5 h
    refine AT ?_
    exact As _ h (sm [(2005, 2003)] _ _ rfl rfl)
  ·refine Am hs (Ab (Aa Ac rfl (qm rfl ?_)))
   obtain ⟨v8, a8, h⟩ := bind_some h
   refine BC (ds0 := [_, _]) [2005] [] [true] (Bh.weak (ds' := [_, oD (.fnc 60)]) (FP N v4 ((fun (x : Ag × Ag) => Cv N x.1 x.2)) v8 a8) ⟨(fun _ _ _ hh => hh), (fun _ _ _ hh => RC ae (fun ar t ht => by obtain ⟨x, r, rfl, hq, rfl⟩ := H9 ht; exact LE N x.1 x.2 r hq) hh), tv⟩) (.p rfl) ah rfl ⟨rfl, rfl, tv⟩ rfl rfl (by decide) ⟨rfl, tv⟩ rfl (A2 rfl) tv ⟨(fun h => by cases h), tv⟩ rfl rfl rfl ?_
   refine Ae (Ab (Aa Ac rfl (qm rfl ?_)))
   obtain ⟨v9, a9, h⟩ := bind_some h
   obtain ⟨c10, h⟩ := AS h
   have w11 : 0 + v9.1 ≤ v9.2.length := by rw [Nat.zero_add]; exact c10
   refine BC (ds0 := [_]) [2005] [] [true] (zFS N v8 v9 a9) (.p rfl) Z4 rfl ⟨rfl, tv⟩ rfl rfl (by decide) ⟨rfl, tv⟩ rfl (A2 rfl) tv ⟨(fun h => by cases h), tv⟩ rfl rfl rfl ?_
   refine DK (T3 Ad v9.2 35 2005 2007 3 v9.1 rfl rfl rfl rfl rfl c10) (qa rfl (qa rfl (Ae ?_)))
   obtain rfl := sj h
   refine Am (sm [(1000, 2007)] [(4, oD (.own 1000)), (5, iD 0)] [(1000, .vec 3 ((v9.2.take v9.1).map Ad))] rfl rfl) (Az ?_)
   exact ⟨⟨[_, _], ⟨.tmp _ _ rfl, ⟨.tmp _ _ rfl, tv⟩⟩, rfl⟩, ⟨rfl, tv⟩⟩
theorem ML (N : Nat) (p0 : Ak) (p1 : List Ah) (r : Int × Ah × Int) (h : HN N p0 p1 = some r) : AC Tryz.prog 25 [.e (.agg [sC (p0.fVersions.map Al), sC (p0.fNow.map Al), sC (p0.fTarget.map Al), sC (p0.fTables.map Ar)]), pD (.sl (p1.map Aj))] [(1, r.2.1.fBase.map Al), (1, r.2.1.fNext.map Al), (1, r.2.1.fHeld.map Bj)] (.tup [.one (iC r.1), .agg [.own 0, .own 1, .own 2], .one (iC r.2.2)]) := by
 unfold HN at h
 refine Au (n := 88) (rs := [.tmp 4, .cell 5 46, .tmp 6]) Tryz.func25 rfl rfl rfl (A7 rfl) (A7 rfl) rfl fun w0 S0 => ?_
 refine Ab (Aa Ac rfl (qb rfl (qa rfl (qz CI rfl (qa rfl (Ae (Ab (Ab (Aa Ac rfl (qL DO Dv rfl ?_))))))))))
 obtain ⟨v1, a1, h⟩ := bind_some h
 refine AG [] (Fo N p0 v1 a1) V9 rfl (qa rfl (Ae (Ab (Aa Ac rfl (qm rfl (B3 rfl (Ae ?_)))))))
 refine Ap rfl (fun c2 => ?_) (fun c2 => ?_)
 ·have h := An c2 h
  refine Ab (Aa Ac rfl (Bw CI G5 rfl (qm rfl (qa rfl (qs AA rfl (qa rfl (Ae ?_)))))))
  obtain rfl := sj h
  refine Am ((AI 5 0 2001 1 _ rfl rfl rfl rfl).trans ((AI 5 1 2002 1 _ rfl rfl rfl rfl).trans ((AI 5 2 2003 1 _ rfl rfl rfl rfl).trans (sm [(1000, 2001), (1001, 2002), (1002, 2003)] [(4, iD 0), (5, oD (.ptr 5 0)), (6, iD v1)] [(5, .box [.own 1000, .own 1001, .own 1002]), (1000, .vec 1 ((([] : List Int)).map Al)), (1001, .vec 1 ((([] : List Int)).map Al)), (1002, .vec 1 ((([] : List Int)).map Bj))] rfl rfl)))) (Az ?_)
  exact ⟨⟨[_, _, _], ⟨.tmp _ _ rfl, ⟨.cellN _ _ _ _ _ _ _ rfl rfl A9 AA rfl rfl (IM rfl), ⟨.tmp _ _ rfl, tv⟩⟩⟩, rfl⟩, ⟨rfl, rfl, rfl, tv⟩⟩
 ·have h := Ao c2 h
  refine Aq (Ab (Ab (Aa Ac rfl (qm rfl (AX A3 rfl (BL rfl (Ae ?_)))))))
  refine Ap rfl (fun c3 => ?_) (fun c3 => ?_)
  ·have h := An c3 h
   refine Ab (Aa Ac rfl (Bw CI G5 rfl (qa rfl (qs AA rfl (qa rfl (Ae ?_))))))
   obtain rfl := sj h
   refine Am ((AI 5 0 2004 1 _ rfl rfl rfl rfl).trans ((AI 5 1 2005 1 _ rfl rfl rfl rfl).trans ((AI 5 2 2006 1 _ rfl rfl rfl rfl).trans (sm [(1000, 2004), (1001, 2005), (1002, 2006)] [(4, iD 0), (5, oD (.ptr 5 0)), (6, iD 10)] [(5, .box [.own 1000, .own 1001, .own 1002]), (1000, .vec 1 ((([] : List Int)).map Al)), (1001, .vec 1 ((([] : List Int)).map Al)), (1002, .vec 1 ((([] : List Int)).map Bj))] rfl rfl)))) (Az ?_)
   exact ⟨⟨[_, _, _], ⟨.tmp _ _ rfl, ⟨.cellN _ _ _ _ _ _ _ rfl rfl A9 AA rfl rfl (IM rfl), ⟨.tmp _ _ rfl, tv⟩⟩⟩, rfl⟩, ⟨rfl, rfl, rfl, tv⟩⟩
  ·have h := Ao c3 h
   refine Aq (Ab (Aa Ac rfl (qa rfl (qa rfl (Ae (Ab (Ab (Aa Ac rfl (qm rfl (AX A3 rfl (qm rfl (Ae ?_))))))))))))
   refine AE (L := Ft N p0 p1) h (fun v4 => mk [(1, pD (.sl (p1.map Aj))), (2, oD (.ptr 2 0)), (5, oD (.ptr 5 0)), (8, iD v4.1), (9, iD v4.2.1), (27, pD (.sl (p1.map Aj))), (28, iD ((p1.length : Int))), (29, iD v4.2.2)] [(2, .box [sC (p0.fVersions.map Al), sC (p0.fNow.map Al), sC (p0.fTarget.map Al), sC (p0.fTables.map Ar)]), (5, .box [.pure (.nil0), .pure (.nil0), .pure (.nil0)])]) (fun v5 => mk [(1, pD (.sl (p1.map Aj))), (5, oD (.ptr 5 0)), (8, iD v5.1), (9, iD v5.2)] [(5, .box [.pure (.nil0), .pure (.nil0), .pure (.nil0)])]) (fun _ _ => rfl) (sm [] _ _ rfl rfl) (fun j4 n4 v4 h => ?_) (fun v5 s h hs => ?_)
   ·unfold Ft at h
    refine Ab (Aa Ac rfl (AV rfl (Ae (Ab ?_))))
    refine Ap rfl (fun c6 => ?_) (fun c6 => ?_)
    ·have h := An c6 h
     refine Aq ?_
     refine AO h (fun v7 => mk [(1, pD (.sl (p1.map Aj))), (2, oD (.ptr 2 0)), (5, oD (.ptr 5 0)), (8, iD v7.1), (9, iD v7.2), (27, pD (.sl (p1.map Aj))), (28, iD ((p1.length : Int))), (29, iD v4.2.2)] [(2, .box [sC (p0.fVersions.map Al), sC (p0.fNow.map Al), sC (p0.fTarget.map Al), sC (p0.fTables.map Ar)]), (5, .box [.pure (.nil0), .pure (.nil0), .pure (.nil0)])]) (fun j7 h => ?_) (fun v7 h => ?_)
     ·refine AJ (Ab (Aa Ac rfl (qm rfl ?_)))
      obtain ⟨v8, a8, b8, h⟩ := Ai h
      refine qi A3 AA a8 (Af b8) rfl (qK A9 AA rfl (qz CI rfl (qa rfl (qs AA rfl (Ae (Ab (Ab (Aa Ac rfl (qL DO Dv rfl (qL A9 AA rfl ?_))))))))))
      obtain ⟨v9, a9, h⟩ := bind_some h
      refine AG [] (In N p0 v8 v9 a9) UC rfl (qa rfl (Ae (Ab (Aa Ac rfl (qm rfl (B3 rfl (Ae ?_)))))))
      refine Ap rfl (fun c10 => ?_) (fun c10 => ?_)
      ·have h := An c10 h
       refine Ab (Aa Ac rfl (Bw CI G5 rfl (qm rfl (qa rfl (qs AA rfl (qa rfl (Ae ?_)))))))
       obtain rfl := sj h
       refine Am ((AI 5 0 2007 1 _ rfl rfl rfl rfl).trans ((AI 5 1 2008 1 _ rfl rfl rfl rfl).trans ((AI 5 2 2009 1 _ rfl rfl rfl rfl).trans (sm [(1000, 2007), (1001, 2008), (1002, 2009)] [(4, iD 0), (5, oD (.ptr 5 0)), (6, iD v9)] [(5, .box [.own 1000, .own 1001, .own 1002]), (1000, .vec 1 ((([] : List Int)).map Al)), (1001, .vec 1 ((([] : List Int)).map Al)), (1002, .vec 1 ((([] : List Int)).map Bj))] rfl rfl)))) (Az ?_)
       exact ⟨⟨[_, _, _], ⟨.tmp _ _ rfl, ⟨.cellN _ _ _ _ _ _ _ rfl rfl A9 AA rfl rfl (IM rfl), ⟨.tmp _ _ rfl, tv⟩⟩⟩, rfl⟩, ⟨rfl, rfl, rfl, tv⟩⟩
      ·have h := Ao c10 h
       refine Aq (Ab (Aa Ac rfl (qa rfl (Ae (Ab (Ab (Aa Ac rfl (qf IK rfl (ql Bu rfl (AX AM rfl (qm rfl (Ae ?_))))))))))))
       refine AE (L := Fd N p0 v8) h (fun v11 => mk [(1, pD (.sl (p1.map Aj))), (2, oD (.ptr 2 0)), (5, oD (.ptr 5 0)), (8, iD v4.1), (9, iD v4.2.1), (10, iD v4.2.2), (11, oD (.ptr 11 0)), (13, iD v11.1), (27, pD (.sl (p1.map Aj))), (28, iD ((p1.length : Int))), (29, iD v4.2.2), (42, pD (.sl (p0.fTarget.map Al))), (43, iD ((p0.fTarget.length : Int))), (44, iD v11.2)] [(2, .box [sC (p0.fVersions.map Al), sC (p0.fNow.map Al), sC (p0.fTarget.map Al), sC (p0.fTables.map Ar)]), (5, .box [.pure (.nil0), .pure (.nil0), .pure (.nil0)]), (11, .box [sC (v8.fBase.map Al), sC (v8.fNext.map Al), sC (v8.fHeld.map Bj)])]) (fun v12 => mk [(1, pD (.sl (p1.map Aj))), (2, oD (.ptr 2 0)), (5, oD (.ptr 5 0)), (8, iD v4.1), (9, iD v4.2.1), (10, iD v4.2.2), (13, iD v12), (27, pD (.sl (p1.map Aj))), (28, iD ((p1.length : Int))), (29, iD v4.2.2)] [(2, .box [sC (p0.fVersions.map Al), sC (p0.fNow.map Al), sC (p0.fTarget.map Al), sC (p0.fTables.map Ar)]), (5, .box [.pure (.nil0), .pure (.nil0), .pure (.nil0)])]) (fun _ _ => rfl) (sm [] _ _ rfl rfl) (fun j11 n11 v11 h => ?_) (fun v12 s h hs => ?_)
       ·unfold Fd at h
        refine Ab (Aa Ac rfl (AV rfl (Ae (Ab ?_))))
        refine Ap rfl (fun c13 => ?_) (fun c13 => ?_)
        ·have h := An c13 h
         refine Aq ?_
         refine AO h (fun v14 => mk [(1, pD (.sl (p1.map Aj))), (2, oD (.ptr 2 0)), (5, oD (.ptr 5 0)), (8, iD v4.1), (9, iD v4.2.1), (10, iD v4.2.2), (11, oD (.ptr 11 0)), (13, iD v14), (27, pD (.sl (p1.map Aj))), (28, iD ((p1.length : Int))), (29, iD v4.2.2), (42, pD (.sl (p0.fTarget.map Al))), (43, iD ((p0.fTarget.length : Int))), (44, iD v11.2)] [(2, .box [sC (p0.fVersions.map Al), sC (p0.fNow.map Al), sC (p0.fTarget.map Al), sC (p0.fTables.map Ar)]), (5, .box [.pure (.nil0), .pure (.nil0), .pure (.nil0)]), (11, .box [sC (v8.fBase.map Al), sC (v8.fNext.map Al), sC (v8.fHeld.map Bj)])]) (fun j14 h => ?_) (fun v14 h => ?_)
         ·refine AJ (Ab (Aa Ac rfl (qm rfl ?_)))
          obtain ⟨v15, a15, b15, h⟩ := Ai h
          refine qi AM Dw a15 (Af b15) rfl (qk B6 rfl (qa rfl (qa rfl (Ae ?_))))
          refine AO h (fun v16 => mk [(1, pD (.sl (p1.map Aj))), (2, oD (.ptr 2 0)), (5, oD (.ptr 5 0)), (8, iD v4.1), (9, iD v4.2.1), (10, iD v4.2.2), (11, oD (.ptr 11 0)), (13, iD v11.1), (27, pD (.sl (p1.map Aj))), (28, iD ((p1.length : Int))), (29, iD v4.2.2), (42, pD (.sl (p0.fTarget.map Al))), (43, iD ((p0.fTarget.length : Int))), (44, iD v11.2), (63, bD v16)] [(2, .box [sC (p0.fVersions.map Al), sC (p0.fNow.map Al), sC (p0.fTarget.map Al), sC (p0.fTables.map Ar)]), (5, .box [.pure (.nil0), .pure (.nil0), .pure (.nil0)]), (11, .box [sC (v8.fBase.map Al), sC (v8.fNext.map Al), sC (v8.fHeld.map Bj)])]) (fun j16 h => ?_) (fun v16 h => ?_)
          ·refine Aa Ac rfl (qf CY rfl (ql Bu rfl (qm rfl ?_)))
           obtain ⟨v17, a17, b17, h⟩ := Ai h
           refine qi AM Dw a17 (Af b17) rfl (qk B6 rfl (qm rfl (BL rfl (qm rfl ?_))))
           refine AF (t := 56) rfl (fun c18 => ?_) (fun c18 => ?_)
           ·have h := An c18 h
            refine qf BJ rfl (ql Bu rfl (qm rfl ?_))
            obtain ⟨v19, a19, b19, h⟩ := Ai h
            refine qi AM Dw a19 (Af b19) rfl (qk B6 rfl (AV rfl (qp rfl (Ae ?_))))
            exact As _ h (sm [] _ _ rfl rfl)
           ·have h := Ao c18 h
            refine qn rfl (qn rfl (qn rfl (qn rfl (qn rfl (qn rfl (qp rfl (Ae ?_)))))))
            exact As _ h (sm [] _ _ rfl rfl)
          ·refine Ap rfl (fun c20 => ?_) (fun c20 => ?_)
           ·have h := An c20 h
            refine Aa Ac rfl (qm rfl (AP rfl (qa rfl (Ae ?_))))
            exact As _ h (sm [] _ _ rfl rfl)
           ·have h := Ao c20 h
            refine Aq ?_
            exact As _ h (sm [] _ _ rfl rfl)
         ·refine Aa Ac rfl (AP rfl (qm rfl (Ae ?_)))
          exact As _ h (sm [] _ _ rfl rfl)
        ·have h := Ao c13 h
         refine AT ?_
         exact As _ h (sm [] _ _ rfl rfl)
       ·refine Am hs (Ab (Aa Ac rfl (qm rfl (qm rfl (Ey rfl (Ae ?_))))))
        refine Ap rfl (fun c21 => ?_) (fun c21 => ?_)
        ·have h := An c21 h
         refine Aa Ac rfl (qm rfl (qm rfl (qa rfl (qa rfl (Ae ?_)))))
         exact As _ h (sm [] _ _ rfl rfl)
        ·have h := Ao c21 h
         refine Aq ?_
         exact As _ h (sm [] _ _ rfl rfl)
     ·refine Aa Ac rfl (AP rfl (qm rfl (Ae ?_)))
      exact As _ h (sm [] _ _ rfl rfl)
    ·have h := Ao c6 h
     refine AT ?_
     exact As _ h (sm [] _ _ rfl rfl)
   ·refine Am hs (Ab (Aa Ac rfl (qm rfl (qm rfl ?_))))
    obtain ⟨v22, a22, b22, h⟩ := Ai h
    refine qi A3 AA a22 (Af b22) rfl (qK A9 AA rfl (qz CI rfl (qs AA rfl (Ae (Ab (Aa Ac rfl (qm rfl (qf CY rfl (ql Bu rfl ?_)))))))))
    obtain ⟨v23, a23, h⟩ := bind_some h
    refine AG [2010] (C6 N v22.fBase v23 a23) RZ rfl (qf BJ rfl (ql Bu rfl ?_))
    obtain ⟨v24, a24, h⟩ := bind_some h
    refine AG [2011] (C6 N v22.fNext v24 a24) RZ rfl (qf CS rfl (ql G4 rfl ?_))
    obtain ⟨v25, a25, h⟩ := bind_some h
    refine AG [2012] (Er N v22.fHeld v25 a25) Xb rfl (Bw CI G5 rfl (qa rfl (qs AA rfl (qa rfl (AB (by kernel_rfl) ?_)))))
    obtain rfl := sj h
    refine Am (sm [(1000, 2010), (1001, 2011), (1002, 2012)] [(4, iD v5.1), (5, oD (.ptr 5 0)), (6, iD 0)] [(5, .box [.own 1000, .own 1001, .own 1002]), (1000, .vec 1 (v23.map Al)), (1001, .vec 1 (v24.map Al)), (1002, .vec 1 (v25.map Bj))] rfl rfl) (Az ?_)
    exact ⟨⟨[_, _, _], ⟨.tmp _ _ rfl, ⟨.cellN _ _ _ _ _ _ _ rfl rfl A9 AA rfl rfl (IM rfl), ⟨.tmp _ _ rfl, tv⟩⟩⟩, rfl⟩, ⟨rfl, rfl, rfl, tv⟩⟩
theorem Hq (N : Nat) (p0 : List Int) (p1 : List Int) (r : Int) (h : DF N p0 p1 = some r) : AC Tryz.prog 108 [pD (.sl (p0.map Al)), pD (.sl (p1.map Al))] [] (iD r) := by
 unfold DF at h
 refine Au (n := 46) (rs := [.tmp 4]) Tryz.func108 rfl rfl rfl (A7 rfl) (A7 rfl) rfl fun w0 S0 => ?_
 refine Ab (Aa Ac rfl (qa rfl (Ae (Ab (Ab (Aa Ac rfl (qa rfl (Ae ?_))))))))
 refine AE (L := DA N p0 p1) h (fun v1 => mk [(0, pD (.sl (p0.map Al))), (1, pD (.sl (p1.map Al))), (5, iD v1)] []) (fun v2 => mk [(0, pD (.sl (p0.map Al))), (1, pD (.sl (p1.map Al)))] []) (fun _ _ => rfl) (sm [] _ _ rfl rfl) (fun j1 n1 v1 h => ?_) (fun v2 s h hs => ?_)
 ·unfold DA at h
  refine Ab ?_
  refine AO h (fun v3 => mk [(0, pD (.sl (p0.map Al))), (1, pD (.sl (p1.map Al))), (5, iD v1), (15, bD v3)] []) (fun j3 h => ?_) (fun v3 h => ?_)
  ·refine Aa Ac rfl (qm rfl (qm rfl (AX AM rfl (AV rfl (qm rfl ?_)))))
   refine AF (t := 10) rfl (fun c4 => ?_) (fun c4 => ?_)
   ·have h := An c4 h
    refine qm rfl (qm rfl (AX AM rfl (AV rfl (qp rfl (Ae ?_)))))
    exact As _ h (sm [] _ _ rfl rfl)
   ·have h := Ao c4 h
    refine qn rfl (qn rfl (qn rfl (qn rfl (qp rfl (Ae ?_)))))
    exact As _ h (sm [] _ _ rfl rfl)
  ·refine Ap rfl (fun c5 => ?_) (fun c5 => ?_)
   ·have h := An c5 h
    refine Aq (Ab (AJ (Ab (Ab (Aa Ac rfl (qm rfl (qm rfl ?_)))))))
    obtain ⟨v6, a6, b6, h⟩ := Ai h
    refine qi AM Dw a6 (Af b6) rfl (qk B6 rfl (qm rfl (qm rfl ?_)))
    obtain ⟨v7, a7, b7, h⟩ := Ai h
    refine qi AM Dw a7 (Af b7) rfl (qk B6 rfl (AV rfl (AB (by kernel_rfl) ?_)))
    refine Ap rfl (fun c8 => ?_) (fun c8 => ?_)
    ·have h := An c8 h
     refine Ab (Aa Ac rfl (qa rfl (Ae ?_)))
     obtain rfl := sj h
     refine Am (sm [] [(4, iD ((-1)))] [] rfl rfl) (Az ?_)
     exact ⟨⟨[_], ⟨.tmp _ _ rfl, tv⟩, rfl⟩, tv⟩
    ·have h := Ao c8 h
     refine Aq (Ab (Aa Ac rfl (qm rfl (qm rfl ?_))))
     obtain ⟨v9, a9, b9, h⟩ := Ai h
     refine qi AM Dw a9 (Af b9) rfl (qk B6 rfl (qm rfl (qm rfl ?_)))
     obtain ⟨v10, a10, b10, h⟩ := Ai h
     refine qi AM Dw a10 (Af b10) rfl (qk B6 rfl (Ey rfl (AB (by kernel_rfl) ?_)))
     refine Ap rfl (fun c11 => ?_) (fun c11 => ?_)
     ·have h := An c11 h
      refine Ab (Aa Ac rfl (qa rfl (Ae ?_)))
      obtain rfl := sj h
      refine Am (sm [] [(4, iD 1)] [] rfl rfl) (Az ?_)
      exact ⟨⟨[_], ⟨.tmp _ _ rfl, tv⟩, rfl⟩, tv⟩
     ·have h := Ao c11 h
      refine Aq (Aa Ac rfl (qm rfl (AP rfl (qa rfl (Ae ?_)))))
      exact As _ h (sm [] _ _ rfl rfl)
   ·have h := Ao c5 h
    refine AT ?_
    exact As _ h (sm [] _ _ rfl rfl)
 ·refine Am hs (Ab (Ab (Aa Ac rfl (qm rfl (AX AM rfl (qm rfl (AX AM rfl (AV rfl (Ae ?_)))))))))
  refine Ap rfl (fun c12 => ?_) (fun c12 => ?_)
  ·have h := An c12 h
   refine Ab (Aa Ac rfl (qa rfl (Ae ?_)))
   obtain rfl := sj h
   refine Am (sm [] [(4, iD ((-1)))] [] rfl rfl) (Az ?_)
   exact ⟨⟨[_], ⟨.tmp _ _ rfl, tv⟩, rfl⟩, tv⟩
  ·have h := Ao c12 h
   refine Aq (Ab (Ab (Aa Ac rfl (qm rfl (AX AM rfl (qm rfl (AX AM rfl (Ey rfl (Ae ?_)))))))))
   refine Ap rfl (fun c13 => ?_) (fun c13 => ?_)
   ·have h := An c13 h
    refine Ab (Aa Ac rfl (qa rfl (Ae ?_)))
    obtain rfl := sj h
    refine Am (sm [] [(4, iD 1)] [] rfl rfl) (Az ?_)
    exact ⟨⟨[_], ⟨.tmp _ _ rfl, tv⟩, rfl⟩, tv⟩
   ·have h := Ao c13 h
    refine Aq (Ab (Aa Ac rfl (qa rfl (Ae ?_))))
    obtain rfl := sj h
    refine Am (sm [] [(4, iD 0)] [] rfl rfl) (Az ?_)
    exact ⟨⟨[_], ⟨.tmp _ _ rfl, tv⟩, rfl⟩, tv⟩
theorem H4 (N : Nat) (p0 : List Int) (r : (List Int)) (h : Dy N p0 = some r) : AC Tryz.prog 109 [pD (.sl (p0.map Bj))] [(1, r.map Al)] (oD (.own 0)) := by
 unfold Dy at h
 refine Au (n := 20) (rs := [.tmp 2]) Tryz.func109 rfl rfl rfl (A7 rfl) (A7 rfl) rfl fun w0 S0 => ?_
 refine Ab (Aa Ac rfl (qa rfl (Ae (Ab (Aa Ac rfl (qa rfl (Ae (Ab (Ab (Aa Ac rfl (qa rfl (Ae ?_))))))))))))
 refine AE (L := C5 N p0) h (fun v1 => mk [(0, pD (.sl (p0.map Bj))), (3, oD (.own 2001)), (4, iD v1.2)] [(2001, .vec 1 (v1.1.map Al))]) (fun v2 => mk [(3, oD (.own 2002))] [(2002, .vec 1 (v2.map Al))]) (fun _ _ => rfl) ((Br 3 2003 1 rfl rfl rfl).trans (sm [(2001, 2003)] _ _ rfl rfl)) (fun j1 n1 v1 h => ?_) (fun v2 s h hs => ?_)
 ·unfold C5 at h
  refine Ab (Ab (Aa Ac rfl (qm rfl (qm rfl (AX Dg rfl (AV rfl (Ae ?_)))))))
  refine Ap rfl (fun c3 => ?_) (fun c3 => ?_)
  ·have h := An c3 h
   refine Aq (Ab (AJ (Aa Ac rfl (qm rfl (qm rfl (qm rfl ?_))))))
   obtain ⟨v4, a4, b4, h⟩ := Ai h
   refine qi Dg FN a4 (Af b4) rfl (qk Kq rfl (Gq aJ SY rfl (D8 AM Dw Kv rfl ?_)))
   obtain ⟨c5, h⟩ := AS h
   refine Dt (f := Al) AM AM Dw MQ Kv c5 rfl (qa rfl (Ae (Aa Ac rfl (qm rfl (AP rfl (qa rfl (Ae ?_)))))))
   exact As _ h (sm [(2001, 18)] _ _ rfl rfl)
  ·have h := Ao c3 h
   refine AT ?_
   exact As _ h (sm [(2002, 2001)] _ _ rfl rfl)
 ·refine Am hs (Ab (Aa Ac rfl (qm rfl (qa rfl (Ae ?_)))))
  obtain rfl := sj h
  refine Am (sm [(1000, 2002)] [(2, oD (.own 1000))] [(1000, .vec 1 (v2.map Al))] rfl rfl) (Az ?_)
  exact ⟨⟨[_], ⟨.tmp _ _ rfl, tv⟩, rfl⟩, ⟨rfl, tv⟩⟩
theorem Ky (N : Nat) (p0 : Ah) (p1 : Ah) (r : Int) (h : Ed N p0 p1 = some r) : AC Tryz.prog 68 [.e (.agg [sC (p0.fBase.map Al), sC (p0.fNext.map Al), sC (p0.fHeld.map Bj)]), .e (.agg [sC (p1.fBase.map Al), sC (p1.fNext.map Al), sC (p1.fHeld.map Bj)])] [] (iD r) := by
 unfold Ed at h
 refine Au (n := 30) (rs := [.tmp 4]) Tryz.func68 rfl rfl rfl (A7 rfl) (A7 rfl) rfl fun w0 S0 => ?_
 refine Ab (Aa Ac rfl (qb rfl (qb rfl (qa rfl (Ae (Ab (Ab (Aa Ac rfl (qf CY rfl (ql Bu rfl (qf CY rfl (ql Bu rfl ?_))))))))))))
 obtain ⟨v1, a1, h⟩ := bind_some h
 refine AG [] (Hq N p0.fBase p1.fBase v1 a1) U8 rfl (qa rfl (Ae (Ab (Aa Ac rfl (qm rfl (B3 rfl (Ae ?_)))))))
 refine Ap rfl (fun c2 => ?_) (fun c2 => ?_)
 ·have h := An c2 h
  refine Ab (Aa Ac rfl (qm rfl (qa rfl (Ae ?_))))
  obtain rfl := sj h
  refine Am (sm [] [(4, iD v1)] [] rfl rfl) (Az ?_)
  exact ⟨⟨[_], ⟨.tmp _ _ rfl, tv⟩, rfl⟩, tv⟩
 ·have h := Ao c2 h
  refine Aq (Ab (Ab (Aa Ac rfl (qf BJ rfl (ql Bu rfl (qf BJ rfl (ql Bu rfl ?_)))))))
  obtain ⟨v3, a3, h⟩ := bind_some h
  refine AG [] (Hq N p0.fNext p1.fNext v3 a3) U8 rfl (qa rfl (Ae (Ab (Aa Ac rfl (qm rfl (B3 rfl (Ae ?_)))))))
  refine Ap rfl (fun c4 => ?_) (fun c4 => ?_)
  ·have h := An c4 h
   refine Ab (Aa Ac rfl (qm rfl (qa rfl (Ae ?_))))
   obtain rfl := sj h
   refine Am (sm [] [(4, iD v3)] [] rfl rfl) (Az ?_)
   exact ⟨⟨[_], ⟨.tmp _ _ rfl, tv⟩, rfl⟩, tv⟩
  ·have h := Ao c4 h
   refine Aq (Ab (Aa Ac rfl (qf CS rfl (ql G4 rfl ?_))))
   obtain ⟨v5, a5, h⟩ := bind_some h
   refine AG [2001] (H4 N p0.fHeld v5 a5) WG rfl (qf CS rfl (ql G4 rfl ?_))
   obtain ⟨v6, a6, h⟩ := bind_some h
   refine AG [2002] (H4 N p1.fHeld v6 a6) WG rfl ?_
   obtain ⟨v7, a7, h⟩ := bind_some h
   refine DC [] [2001, 2002] (Hq N v5 v6 v7 a7) U8 Cj rfl (qa rfl (AB (by kernel_rfl) ?_))
   obtain rfl := sj h
   refine Am (sm [] [(4, iD v7)] [] rfl rfl) (Az ?_)
   exact ⟨⟨[_], ⟨.tmp _ _ rfl, tv⟩, rfl⟩, tv⟩
theorem GX (N : Nat) (p0 : Ah) (p1 : Ah) (r : Bool) (h : C0 N p0 p1 = some r) : AC Tryz.prog 27 [.e (.agg [sC (p0.fBase.map Al), sC (p0.fNext.map Al), sC (p0.fHeld.map Bj)]), .e (.agg [sC (p1.fBase.map Al), sC (p1.fNext.map Al), sC (p1.fHeld.map Bj)])] [] (bD r) := by
 unfold C0 at h
 refine Au (n := 9) (rs := [.tmp 4]) Tryz.func27 rfl rfl rfl (A7 rfl) (A7 rfl) rfl fun w0 S0 => ?_
 refine Ab (Aa Ac rfl (qb rfl (qb rfl (qa rfl (Ae (Ab (Aa Ac rfl (qL A9 AA rfl (qL A9 AA rfl ?_)))))))))
 obtain ⟨v1, a1, h⟩ := bind_some h
 refine AG [] (Ky N p0 p1 v1 a1) ZO rfl (BL rfl (qa rfl (Ae ?_)))
 obtain rfl := sj h
 refine Am (sm [] [(4, bD ((v1 == 0)))] [] rfl rfl) (Az ?_)
 exact ⟨⟨[_], ⟨.tmp _ _ rfl, tv⟩, rfl⟩, tv⟩
theorem LU (N : Nat) (p0 : List Ah) (p1 : List Ah) (r : Bool) (h : GV N p0 p1 = some r) : AC Tryz.prog 14 [pD (.sl (p0.map Aj)), pD (.sl (p1.map Aj))] [] (bD r) := by
 unfold GV at h
 refine Au (n := 27) (rs := [.tmp 4]) Tryz.func14 rfl rfl rfl (A7 rfl) (A7 rfl) rfl fun w0 S0 => ?_
 refine Ab (Aa Ac rfl (qa rfl (Ae (Ab (Ab (Aa Ac rfl (qm rfl (AX A3 rfl (qm rfl (AX A3 rfl (B3 rfl (Ae ?_))))))))))))
 refine Ap rfl (fun c1 => ?_) (fun c1 => ?_)
 ·have h := An c1 h
  refine Ab (Aa Ac rfl (qa rfl (Ae ?_)))
  obtain rfl := sj h
  refine Am (sm [] [(4, bD false)] [] rfl rfl) (Az ?_)
  exact ⟨⟨[_], ⟨.tmp _ _ rfl, tv⟩, rfl⟩, tv⟩
 ·have h := Ao c1 h
  refine Aq (Ab (Ab (Aa Ac rfl (qa rfl (Ae ?_)))))
  refine AE (L := EX N p0 p1) h (fun v2 => mk [(0, pD (.sl (p0.map Aj))), (1, pD (.sl (p1.map Aj))), (5, iD v2)] []) (fun v3 => mk [] []) (fun _ _ => rfl) (sm [] _ _ rfl rfl) (fun j2 n2 v2 h => ?_) (fun v3 s h hs => ?_)
  ·unfold EX at h
   refine Ab (Ab (Aa Ac rfl (qm rfl (qm rfl (AX A3 rfl (AV rfl (Ae ?_)))))))
   refine Ap rfl (fun c4 => ?_) (fun c4 => ?_)
   ·have h := An c4 h
    refine Aq (Ab (AJ (Ab (Aa Ac rfl (qm rfl (qm rfl ?_))))))
    obtain ⟨v5, a5, b5, h⟩ := Ai h
    refine qi A3 AA a5 (Af b5) rfl (qK A9 AA rfl (qm rfl (qm rfl ?_)))
    obtain ⟨v6, a6, b6, h⟩ := Ai h
    refine qi A3 AA a6 (Af b6) rfl (qK A9 AA rfl ?_)
    obtain ⟨v7, a7, h⟩ := bind_some h
    refine AG [] (GX N v5 v6 v7 a7) W7 rfl (BZ rfl (AB (by kernel_rfl) ?_))
    refine Ap rfl (fun c8 => ?_) (fun c8 => ?_)
    ·have h := An c8 h
     refine Ab (Aa Ac rfl (qa rfl (Ae ?_)))
     obtain rfl := sj h
     refine Am (sm [] [(4, bD false)] [] rfl rfl) (Az ?_)
     exact ⟨⟨[_], ⟨.tmp _ _ rfl, tv⟩, rfl⟩, tv⟩
    ·have h := Ao c8 h
     refine Aq (Aa Ac rfl (qm rfl (AP rfl (qa rfl (Ae ?_)))))
     exact As _ h (sm [] _ _ rfl rfl)
   ·have h := Ao c4 h
    refine AT ?_
    exact As _ h (sm [] _ _ rfl rfl)
  ·refine Am hs (Ab (Aa Ac rfl (qa rfl (Ae ?_))))
   obtain rfl := sj h
   refine Am (sm [] [(4, bD true)] [] rfl rfl) (Az ?_)
   exact ⟨⟨[_], ⟨.tmp _ _ rfl, tv⟩, rfl⟩, tv⟩
theorem Fg (N : Nat) (p0 : List Ah) (p1 : Ah) (p2 : (Ah × Ah) → Option Int) (r : Int × Bool) (h : Cl N p0 p1 p2 = some r) : AC Tryz.prog 78 [pD (.sl (p0.map Aj)), .e (.agg [sC (p1.fBase.map Al), sC (p1.fNext.map Al), sC (p1.fHeld.map Bj)]), oD (.clo (Bb (Cm true Aj true Aj) Bg p2))] [] (.tup [.one (iC r.1), .one (.pure (.val (.bool r.2)))]) := by
 unfold Cl at h
 refine Au (n := 49) (rs := [.tmp 6, .tmp 7]) Tryz.func78 rfl rfl rfl (A7 rfl) (A7 rfl) rfl fun w0 S0 => ?_
 refine Ab (Aa Ac rfl (qb rfl (qa rfl (qa rfl (Ae (Ab (Aa Ac rfl (qm rfl (AX A3 rfl (qa rfl (Ae (Ab (Aa Ac rfl (qm rfl (qa rfl (qa rfl (Ae (Ab ?_))))))))))))))))))
 refine AE (L := Bl N p0 p1 p2) h (fun v1 => mk [(0, pD (.sl (p0.map Aj))), (2, oD (.clo (Bb (Cm true Aj true Aj) Bg p2))), (4, oD (.ptr 4 0)), (8, iD ((p0.length : Int))), (9, iD v1.1), (10, iD v1.2)] [(4, .box [sC (p1.fBase.map Al), sC (p1.fNext.map Al), sC (p1.fHeld.map Bj)])]) (fun v2 => mk [(0, pD (.sl (p0.map Aj))), (2, oD (.clo (Bb (Cm true Aj true Aj) Bg p2))), (4, oD (.ptr 4 0)), (8, iD ((p0.length : Int))), (9, iD v2)] [(4, .box [sC (p1.fBase.map Al), sC (p1.fNext.map Al), sC (p1.fHeld.map Bj)])]) (fun _ _ => rfl) (sm [] _ _ rfl rfl) (fun j1 n1 v1 h => ?_) (fun v2 s h hs => ?_)
 ·unfold Bl at h
  refine Ab (Ab (Aa Ac rfl (qm rfl (qm rfl (AV rfl (Ae ?_))))))
  refine Ap rfl (fun c3 => ?_) (fun c3 => ?_)
  ·have h := An c3 h
   refine Aq (AJ (Ab (Aa Ac rfl (qm rfl (qm rfl (AP rfl (Gq T1 Nl rfl (Hz rfl (by decide) (Gq Ot SY rfl (qa rfl (Ae (Ab (Aa Ac rfl (qm rfl (qm rfl (qm rfl ?_))))))))))))))))
   obtain ⟨v4, a4, b4, h⟩ := Ai h
   refine qi A3 AA a4 (Af b4) rfl (qK A9 AA rfl (qL A9 AA rfl ?_))
   obtain ⟨v5, a5, h⟩ := bind_some h
   refine CA (ds0 := [_, _]) (ar := (Cm true Aj true Aj) ((v4, p1))) (.p rfl) rfl rfl ⟨rfl, rfl, tv⟩ rfl rfl rfl (CC (C7 _ _ _ _ BI BI) a5) ?_
   refine AV rfl (AB (by kernel_rfl) ?_)
   refine Ap rfl (fun c6 => ?_) (fun c6 => ?_)
   ·have h := An c6 h
    refine Aa Ac rfl (qm rfl (AP rfl (qa rfl (Ae ?_))))
    exact As _ h (sm [] _ _ rfl rfl)
   ·have h := Ao c6 h
    refine Aa Ac rfl (qm rfl (qa rfl (Ae ?_)))
    exact As _ h (sm [] _ _ rfl rfl)
  ·have h := Ao c3 h
   refine AT ?_
   exact As _ h (sm [] _ _ rfl rfl)
 ·refine Am hs ?_
  refine AO h (fun v7 => mk [(6, iD v2), (7, bD v7)] []) (fun j7 h => ?_) (fun v7 h => ?_)
  ·refine Aa Ac rfl (qm rfl (qm rfl (qm rfl (AV rfl (qm rfl ?_)))))
   refine AF (t := 39) rfl (fun c8 => ?_) (fun c8 => ?_)
   ·have h := An c8 h
    refine qm rfl (qm rfl (qm rfl ?_))
    obtain ⟨v9, a9, b9, h⟩ := Ai h
    refine qi A3 AA a9 (Af b9) rfl (qK A9 AA rfl (qL A9 AA rfl ?_))
    obtain ⟨v10, a10, h⟩ := bind_some h
    refine CA (ds0 := [_, _]) (ar := (Cm true Aj true Aj) ((v9, p1))) (.g rfl rfl) rfl rfl ⟨rfl, rfl, tv⟩ rfl rfl rfl (CC (C7 _ _ _ _ BI BI) a10) ?_
    refine BL rfl (qp rfl (qa rfl (qa rfl (AB (by kernel_rfl) ?_))))
    exact As _ h (sm [] _ _ rfl rfl)
   ·have h := Ao c8 h
    refine qn rfl (qn rfl (qn rfl (qn rfl (qn rfl (qn rfl (qn rfl (qn rfl (qp rfl (qa rfl (qa rfl (AB (by kernel_rfl) ?_)))))))))))
    exact As _ h (sm [] _ _ rfl rfl)
  ·obtain rfl := sj h
   refine Am (sm [] [(6, iD v2), (7, bD v7)] [] rfl rfl) (Az ?_)
   exact ⟨⟨[_, _], ⟨.tmp _ _ rfl, ⟨.tmp _ _ rfl, tv⟩⟩, rfl⟩, tv⟩
theorem Ks (N : Nat) (p0 : List Ah) (p1 : Ah) (r : Bool) (h : GN N p0 p1 = some r) : AC Tryz.prog 47 [pD (.sl (p0.map Aj)), .e (.agg [sC (p1.fBase.map Al), sC (p1.fNext.map Al), sC (p1.fHeld.map Bj)])] [] (bD r) := by
 unfold GN at h
 refine Au (n := 14) (rs := [.tmp 4]) Tryz.func47 rfl rfl rfl (A7 rfl) (A7 rfl) rfl fun w0 S0 => ?_
 refine Ab (Aa Ac rfl (qb rfl (qa rfl (Ae (Ab (Aa Ac rfl (qm rfl (qL A9 AA rfl ?_))))))))
 obtain ⟨v1, a1, h⟩ := bind_some h
 refine AG [] (AC.weak (ds' := [pD (.sl (p0.map Aj)), .e (.agg [sC (p1.fBase.map Al), sC (p1.fNext.map Al), sC (p1.fHeld.map Bj)]), oD (.fnc 46)]) (Fg N p0 p1 ((fun (x : Ah × Ah) => E9 N x.1 x.2)) v1 a1) ⟨(fun _ _ _ hh => hh), (fun _ _ _ hh => hh), (fun _ _ _ hh => Qk Xl (fun ar t ht => by obtain ⟨x, r, rfl, hq, rfl⟩ := H9 ht; exact JF N x.1 x.2 r hq) hh), tv⟩) ZS rfl ?_
 refine qm rfl (qx rfl (qx rfl (qa rfl (qa rfl (Ae (Ab (Aa Ac rfl (qm rfl (qa rfl (Ae ?_))))))))))
 obtain rfl := sj h
 refine Am (sm [] [(4, bD v1.2)] [] rfl rfl) (Az ?_)
 exact ⟨⟨[_], ⟨.tmp _ _ rfl, tv⟩, rfl⟩, tv⟩
theorem IX (N : Nat) (p0 : Ak) (p1 : List Ah) (r : Bool) (h : F2 N p0 p1 = some r) : AC Tryz.prog 15 [.e (.agg [sC (p0.fVersions.map Al), sC (p0.fNow.map Al), sC (p0.fTarget.map Al), sC (p0.fTables.map Ar)]), pD (.sl (p1.map Aj))] [] (bD r) := by
 unfold F2 at h
 refine Au (n := 122) (rs := [.tmp 4]) Tryz.func15 rfl rfl rfl (A7 rfl) (A7 rfl) rfl fun w0 S0 => ?_
 refine Ab (Aa Ac rfl (qb rfl (qa rfl (Ae (Ab (Aa Ac rfl (qL DO Dv rfl ?_)))))))
 obtain ⟨v1, a1, h⟩ := bind_some h
 refine AG [2001, 2002, 2003] (Nh N p0 v1 a1) Yq rfl (qm rfl (qx rfl (qx rfl (qz CI rfl (qs AA rfl (qa rfl (Ae (Ab (Ab (Aa Ac rfl (qm rfl (B3 rfl (Ae ?_)))))))))))))
 refine Ap rfl (fun c2 => ?_) (fun c2 => ?_)
 ·have h := An c2 h
  refine Ab (Aa Ac rfl (qa rfl (Ae ?_)))
  obtain rfl := sj h
  refine Am (sm [] [(4, bD false)] [] rfl rfl) (Az ?_)
  exact ⟨⟨[_], ⟨.tmp _ _ rfl, tv⟩, rfl⟩, tv⟩
 ·have h := Ao c2 h
  refine Aq (Ab (Ab (Aa Ac rfl (qL DO Dv rfl (qL A9 AA rfl ?_)))))
  obtain ⟨v3, a3, h⟩ := bind_some h
  refine DC [] [2001, 2002, 2003] (HO N p0 v1.1 v3 a3) UQ Cj rfl (qm rfl (qx rfl (qx rfl (qa rfl (qa rfl (Ae (Ab (Aa Ac rfl (qm rfl (BZ rfl (Ae ?_)))))))))))
  refine Ap rfl (fun c4 => ?_) (fun c4 => ?_)
  ·have h := An c4 h
   refine Ab (Aa Ac rfl (qm rfl (AX A3 rfl (BL rfl (qa rfl (Ae ?_))))))
   obtain rfl := sj h
   refine Am (sm [] [(4, bD (((p1.length : Int) == 0)))] [] rfl rfl) (Az ?_)
   exact ⟨⟨[_], ⟨.tmp _ _ rfl, tv⟩, rfl⟩, tv⟩
  ·have h := Ao c4 h
   refine Aq (Ab (Ab (Aa Ac rfl (qm rfl (AX A3 rfl (qm rfl (Ae ?_)))))))
   refine AE (L := FW N p0 p1) h (fun v5 => mk [(1, pD (.sl (p1.map Aj))), (2, oD (.ptr 2 0)), (5, oD (.ptr 5 0)), (41, pD (.sl (p1.map Aj))), (42, iD ((p1.length : Int))), (43, iD v5)] [(2, .box [sC (p0.fVersions.map Al), sC (p0.fNow.map Al), sC (p0.fTarget.map Al), sC (p0.fTables.map Ar)]), (5, .box [.own 2004, .own 2005, .own 2006]), (2004, .vec 1 (v1.1.fBase.map Al)), (2005, .vec 1 (v1.1.fNext.map Al)), (2006, .vec 1 (v1.1.fHeld.map Bj))]) (fun v6 => mk [(1, pD (.sl (p1.map Aj))), (2, oD (.ptr 2 0)), (5, oD (.ptr 5 0))] [(2, .box [sC (p0.fVersions.map Al), sC (p0.fNow.map Al), sC (p0.fTarget.map Al), sC (p0.fTables.map Ar)]), (5, .box [.own 2007, .own 2008, .own 2009]), (2007, .vec 1 (v1.1.fBase.map Al)), (2008, .vec 1 (v1.1.fNext.map Al)), (2009, .vec 1 (v1.1.fHeld.map Bj))]) (fun _ _ => rfl) (sm [(2004, 2001), (2005, 2002), (2006, 2003)] _ _ rfl rfl) (fun j5 n5 v5 h => ?_) (fun v6 s h hs => ?_)
   ·unfold FW at h
    refine Ab (Aa Ac rfl (AV rfl (Ae (Ab ?_))))
    refine Ap rfl (fun c7 => ?_) (fun c7 => ?_)
    ·have h := An c7 h
     refine Aq (Ab (AJ (Ab (Aa Ac rfl (qm rfl ?_)))))
     obtain ⟨v8, a8, b8, h⟩ := Ai h
     refine qi A3 AA a8 (Af b8) rfl (qK A9 AA rfl (qz CI rfl (qa rfl (qs AA rfl (Ae (Ab ?_))))))
     refine AO h (fun v9 => mk [(1, pD (.sl (p1.map Aj))), (2, oD (.ptr 2 0)), (5, oD (.ptr 5 0)), (10, oD (.ptr 10 0)), (41, pD (.sl (p1.map Aj))), (42, iD ((p1.length : Int))), (43, iD v5), (59, bD v9)] [(2, .box [sC (p0.fVersions.map Al), sC (p0.fNow.map Al), sC (p0.fTarget.map Al), sC (p0.fTables.map Ar)]), (5, .box [.own 2010, .own 2011, .own 2012]), (10, .box [sC (v8.fBase.map Al), sC (v8.fNext.map Al), sC (v8.fHeld.map Bj)]), (2010, .vec 1 (v1.1.fBase.map Al)), (2011, .vec 1 (v1.1.fNext.map Al)), (2012, .vec 1 (v1.1.fHeld.map Bj))]) (fun j9 h => ?_) (fun v9 h => ?_)
     ·refine Aa Ac rfl (qm rfl (Ey rfl (qm rfl ?_)))
      refine AF (t := 50) rfl (fun c10 => ?_) (fun c10 => ?_)
      ·have h := An c10 h
       refine qm rfl (qm rfl (Bk rfl ?_))
       obtain ⟨v11, a11, b11, h⟩ := Ai h
       refine qi A3 AA a11 (Af b11) rfl (qK A9 AA rfl (qL A9 AA rfl ?_))
       obtain ⟨v12, a12, h⟩ := bind_some h
       refine AG [] (JF N v11 v8 v12 a12) Xl rfl (Cz rfl (qp rfl (AB (by kernel_rfl) ?_)))
       exact As _ h (sm [(2010, 2004), (2011, 2005), (2012, 2006)] _ _ rfl rfl)
      ·have h := Ao c10 h
       refine qn rfl (qn rfl (qn rfl (qn rfl (qn rfl (qn rfl (qn rfl (qn rfl (qp rfl (AB (by kernel_rfl) ?_)))))))))
       exact As _ h (sm [(2010, 2004), (2011, 2005), (2012, 2006)] _ _ rfl rfl)
     ·refine Ap rfl (fun c13 => ?_) (fun c13 => ?_)
      ·have h := An c13 h
       refine Ab (Aa Ac rfl (qa rfl (Ae ?_)))
       obtain rfl := sj h
       refine Am (sm [] [(4, bD false)] [] rfl rfl) (Az ?_)
       exact ⟨⟨[_], ⟨.tmp _ _ rfl, tv⟩, rfl⟩, tv⟩
      ·have h := Ao c13 h
       refine Aq (Ab (Aa Ac rfl (qL DO Dv rfl (qL A9 AA rfl ?_))))
       obtain ⟨v14, a14, h⟩ := bind_some h
       refine AG [] (HO N p0 v8 v14 a14) UQ rfl (qm rfl (qx rfl (qx rfl (qa rfl (qa rfl (Ae ?_))))))
       refine AO h (fun v15 => mk [(1, pD (.sl (p1.map Aj))), (2, oD (.ptr 2 0)), (5, oD (.ptr 5 0)), (41, pD (.sl (p1.map Aj))), (42, iD ((p1.length : Int))), (43, iD v5), (76, bD v15)] [(2, .box [sC (p0.fVersions.map Al), sC (p0.fNow.map Al), sC (p0.fTarget.map Al), sC (p0.fTables.map Ar)]), (5, .box [.own 2013, .own 2014, .own 2015]), (2013, .vec 1 (v1.1.fBase.map Al)), (2014, .vec 1 (v1.1.fNext.map Al)), (2015, .vec 1 (v1.1.fHeld.map Bj))]) (fun j15 h => ?_) (fun v15 h => ?_)
       ·refine Aa Ac rfl (qm rfl (BZ rfl (qm rfl ?_)))
        refine AF (t := 68) rfl (fun c16 => ?_) (fun c16 => ?_)
        ·have h := An c16 h
         refine qn rfl (qn rfl (qp rfl (qm rfl (qn rfl (qn rfl (qn rfl (qp rfl (Ae ?_))))))))
         exact As _ h (sm [(2013, 2010), (2014, 2011), (2015, 2012)] _ _ rfl rfl)
        ·have h := Ao c16 h
         refine qm rfl (B3 rfl (qp rfl (qm rfl ?_)))
         refine AF (t := 72) rfl (fun c17 => ?_) (fun c17 => ?_)
         ·have h := An c17 h
          refine qn rfl (qn rfl (qn rfl (qp rfl (Ae ?_))))
          exact As _ h (sm [(2013, 2010), (2014, 2011), (2015, 2012)] _ _ rfl rfl)
         ·have h := Ao c17 h
          refine qL DO Dv rfl (qL A9 AA rfl ?_)
          obtain ⟨v18, a18, h⟩ := bind_some h
          refine AG [] (ON N p0 v8 v18 a18) Y9 rfl (qp rfl (Ae ?_))
          exact As _ h (sm [(2013, 2010), (2014, 2011), (2015, 2012)] _ _ rfl rfl)
       ·refine Ap rfl (fun c19 => ?_) (fun c19 => ?_)
        ·have h := An c19 h
         refine Ab (Aa Ac rfl (qa rfl (Ae ?_)))
         obtain rfl := sj h
         refine Am (sm [] [(4, bD false)] [] rfl rfl) (Az ?_)
         exact ⟨⟨[_], ⟨.tmp _ _ rfl, tv⟩, rfl⟩, tv⟩
        ·have h := Ao c19 h
         refine Aq (Aa Ac rfl (AP rfl (qm rfl (Ae ?_))))
         exact As _ h (sm [(2004, 2013), (2005, 2014), (2006, 2015)] _ _ rfl rfl)
    ·have h := Ao c7 h
     refine AT ?_
     exact As _ h (sm [(2007, 2004), (2008, 2005), (2009, 2006)] _ _ rfl rfl)
   ·refine Am hs (Ab (Ab (Aa Ac rfl (qm rfl (qL A9 AA rfl ?_)))))
    obtain ⟨v20, a20, h⟩ := bind_some h
    refine DC [] [2007, 2008, 2009] (Ks N p1 v1.1 v20 a20) Za Cj rfl (BZ rfl (Ae ?_))
    refine Ap rfl (fun c21 => ?_) (fun c21 => ?_)
    ·have h := An c21 h
     refine Ab (Aa Ac rfl (qa rfl (Ae ?_)))
     obtain rfl := sj h
     refine Am (sm [] [(4, bD false)] [] rfl rfl) (Az ?_)
     exact ⟨⟨[_], ⟨.tmp _ _ rfl, tv⟩, rfl⟩, tv⟩
    ·have h := Ao c21 h
     refine Aq (Ab (Ab (Aa Ac rfl (qm rfl (AX A3 rfl (qm rfl (Ae ?_)))))))
     refine AE (L := FE N p0 p1) h (fun v22 => mk [(1, pD (.sl (p1.map Aj))), (2, oD (.ptr 2 0)), (82, pD (.sl (p1.map Aj))), (83, iD ((p1.length : Int))), (84, iD v22)] [(2, .box [sC (p0.fVersions.map Al), sC (p0.fNow.map Al), sC (p0.fTarget.map Al), sC (p0.fTables.map Ar)])]) (fun v23 => mk [] []) (fun _ _ => rfl) (sm [] _ _ rfl rfl) (fun j22 n22 v22 h => ?_) (fun v23 s h hs => ?_)
     ·unfold FE at h
      refine Ab (Aa Ac rfl (AV rfl (Ae (Ab ?_))))
      refine Ap rfl (fun c24 => ?_) (fun c24 => ?_)
      ·have h := An c24 h
       refine Aq (Ab (AJ (Ab (Aa Ac rfl ?_))))
       obtain ⟨v25, a25, b25, h⟩ := Ai h
       refine qi A3 AA a25 (Af b25) rfl (qK A9 AA rfl (qz CI rfl (qs AA rfl (Ae (Ab (Aa Ac rfl (qL DO Dv rfl (qL A9 AA rfl ?_))))))))
       obtain ⟨v26, a26, h⟩ := bind_some h
       refine AG [2016] (Jc N p0 v25 v26 a26) Xc rfl (qm rfl (qx rfl (qx rfl (qa rfl (qa rfl (Ae (Ab (Aa Ac rfl (qm rfl (Ex EZ rfl (qm rfl (Ae ?_))))))))))))
       refine AE (L := FD N p0 p1 v25 v26) h (fun v27 => mk [(1, pD (.sl (p1.map Aj))), (2, oD (.ptr 2 0)), (14, oD (.ptr 14 0)), (82, pD (.sl (p1.map Aj))), (83, iD ((p1.length : Int))), (84, iD v22), (94, oD (.own 2017)), (95, iD ((v26.1.length : Int))), (96, iD v27)] [(2, .box [sC (p0.fVersions.map Al), sC (p0.fNow.map Al), sC (p0.fTarget.map Al), sC (p0.fTables.map Ar)]), (14, .box [sC (v25.fBase.map Al), sC (v25.fNext.map Al), sC (v25.fHeld.map Bj)]), (2017, .vec 3 (v26.1.map A5))]) (fun v28 => mk [(1, pD (.sl (p1.map Aj))), (2, oD (.ptr 2 0)), (82, pD (.sl (p1.map Aj))), (83, iD ((p1.length : Int))), (84, iD v22)] [(2, .box [sC (p0.fVersions.map Al), sC (p0.fNow.map Al), sC (p0.fTarget.map Al), sC (p0.fTables.map Ar)])]) (fun _ _ => rfl) (sm [(2017, 2016)] _ _ rfl rfl) (fun j27 n27 v27 h => ?_) (fun v28 s h hs => ?_)
       ·unfold FD at h
        refine Ab (Aa Ac rfl (AV rfl (Ae (Ab ?_))))
        refine Ap rfl (fun c29 => ?_) (fun c29 => ?_)
        ·have h := An c29 h
         refine Aq (Ab (AJ (Ab (Aa Ac rfl ?_))))
         obtain ⟨v30, a30, b30, h⟩ := Ai h
         refine qI EZ EG a30 (Af b30) rfl (qJ H6 EG (Af b30) rfl (qz JI rfl (qs EG rfl (Ae (Ab (Aa Ac rfl (qL DO Dv rfl (qL A9 AA rfl (qL H6 EG rfl ?_)))))))))
         obtain ⟨v31, a31, h⟩ := bind_some h
         refine AG [2018, 2019, 2020] (Kk N p0 v25 v30 v31 a31) Xo rfl (qm rfl (qx rfl (qx rfl (qz CI rfl (qs AA rfl (qa rfl (Ae (Ab (Aa Ac rfl (qL DO Dv rfl (qL A9 AA rfl ?_)))))))))))
         obtain ⟨v32, a32, h⟩ := bind_some h
         refine DC [] [2018, 2019, 2020] (HO N p0 v31.1 v32 a32) UQ Cj rfl (qm rfl (qx rfl (qx rfl (qa rfl (qa rfl (Ae ?_))))))
         refine AO h (fun v33 => mk [(1, pD (.sl (p1.map Aj))), (2, oD (.ptr 2 0)), (14, oD (.ptr 14 0)), (82, pD (.sl (p1.map Aj))), (83, iD ((p1.length : Int))), (84, iD v22), (94, oD (.own 2021)), (95, iD ((v26.1.length : Int))), (96, iD v27), (119, bD v33)] [(2, .box [sC (p0.fVersions.map Al), sC (p0.fNow.map Al), sC (p0.fTarget.map Al), sC (p0.fTables.map Ar)]), (14, .box [sC (v25.fBase.map Al), sC (v25.fNext.map Al), sC (v25.fHeld.map Bj)]), (2021, .vec 3 (v26.1.map A5))]) (fun j33 h => ?_) (fun v33 h => ?_)
         ·refine Aa Ac rfl (qm rfl (qm rfl ?_))
          refine AF (t := 114) rfl (fun c34 => ?_) (fun c34 => ?_)
          ·have h := An c34 h
           refine qm rfl (qL A9 AA rfl ?_)
           obtain ⟨v35, a35, h⟩ := bind_some h
           refine DC [] [2018, 2019, 2020] (Ks N p1 v31.1 v35 a35) Za Cj rfl (BZ rfl (qp rfl (Ae ?_)))
           exact As _ h (sm [(2021, 2017)] _ _ rfl rfl)
          ·have h := Ao c34 h
           refine qn rfl (qn rfl (qn rfl (qn rfl (qp rfl (Ae ?_)))))
           exact As _ h (sm [(2021, 2017)] _ _ rfl rfl)
         ·refine Ap rfl (fun c36 => ?_) (fun c36 => ?_)
          ·have h := An c36 h
           refine Ab (Aa Ac rfl (qa rfl (Ae ?_)))
           obtain rfl := sj h
           refine Am (sm [] [(4, bD false)] [] rfl rfl) (Az ?_)
           exact ⟨⟨[_], ⟨.tmp _ _ rfl, tv⟩, rfl⟩, tv⟩
          ·have h := Ao c36 h
           refine Aq (Aa Ac rfl (AP rfl (qm rfl (Ae ?_))))
           exact As _ h (sm [(2017, 2021)] _ _ rfl rfl)
        ·have h := Ao c29 h
         refine AT ?_
         exact As _ h (sm [] _ _ rfl rfl)
       ·refine Am hs (Aa Ac rfl (AP rfl (qm rfl (Ae ?_))))
        exact As _ h (sm [] _ _ rfl rfl)
      ·have h := Ao c24 h
       refine AT ?_
       exact As _ h (sm [] _ _ rfl rfl)
     ·refine Am hs (Ab (Aa Ac rfl (qa rfl (Ae ?_))))
      obtain rfl := sj h
      refine Am (sm [] [(4, bD true)] [] rfl rfl) (Az ?_)
      exact ⟨⟨[_], ⟨.tmp _ _ rfl, tv⟩, rfl⟩, tv⟩
theorem Hb (N : Nat) (p0 : List Ag) (p1 : List Ag) (r : Bool) (h : BO N p0 p1 = some r) : AC Tryz.prog 24 [pD (.sl (p0.map Ad)), pD (.sl (p1.map Ad))] [] (bD r) := by
 unfold BO at h
 refine Au (n := 26) (rs := [.tmp 4]) Tryz.func24 rfl rfl rfl (A7 rfl) (A7 rfl) rfl fun w0 S0 => ?_
 refine Ab (Aa Ac rfl (qa rfl (Ae (Ab (Ab (Aa Ac rfl (qm rfl (AX A4 rfl (qm rfl (AX A4 rfl (B3 rfl (Ae ?_))))))))))))
 refine Ap rfl (fun c1 => ?_) (fun c1 => ?_)
 ·have h := An c1 h
  refine Ab (Aa Ac rfl (qa rfl (Ae ?_)))
  obtain rfl := sj h
  refine Am (sm [] [(4, bD false)] [] rfl rfl) (Az ?_)
  exact ⟨⟨[_], ⟨.tmp _ _ rfl, tv⟩, rfl⟩, tv⟩
 ·have h := Ao c1 h
  refine Aq (Ab (Ab (Aa Ac rfl (qa rfl (Ae ?_)))))
  refine AE (L := B2 N p0 p1) h (fun v2 => mk [(0, pD (.sl (p0.map Ad))), (1, pD (.sl (p1.map Ad))), (5, iD v2)] []) (fun v3 => mk [] []) (fun _ _ => rfl) (sm [] _ _ rfl rfl) (fun j2 n2 v2 h => ?_) (fun v3 s h hs => ?_)
  ·unfold B2 at h
   refine Ab (Ab (Aa Ac rfl (qm rfl (qm rfl (AX A4 rfl (AV rfl (Ae ?_)))))))
   refine Ap rfl (fun c4 => ?_) (fun c4 => ?_)
   ·have h := An c4 h
    refine Aq (Ab (AJ (Ab (Aa Ac rfl (qm rfl (qm rfl ?_))))))
    obtain ⟨v5, a5, b5, h⟩ := Ai h
    refine qi A4 AU a5 (Af b5) rfl (qK CP AU rfl (qm rfl (qm rfl ?_)))
    obtain ⟨v6, a6, b6, h⟩ := Ai h
    refine qi A4 AU a6 (Af b6) rfl (qK CP AU rfl ?_)
    refine Q5 [.int .i64 v5.fTable, .int .i64 v5.fWriter, .int .i64 v5.fReader] [.int .i64 v6.fTable, .int .i64 v6.fWriter, .int .i64 v6.fReader] (.p rfl) rfl rfl PE rfl ?_
    refine AB (by kernel_rfl) ?_
    refine Ap rfl (fun c7 => ?_) (fun c7 => ?_)
    ·have h := An c7 h
     refine Ab (Aa Ac rfl (qa rfl (Ae ?_)))
     obtain rfl := sj h
     refine Am (sm [] [(4, bD false)] [] rfl rfl) (Az ?_)
     exact ⟨⟨[_], ⟨.tmp _ _ rfl, tv⟩, rfl⟩, tv⟩
    ·have h := Ao c7 h
     refine Aq (Aa Ac rfl (qm rfl (AP rfl (qa rfl (Ae ?_)))))
     exact As _ h (sm [] _ _ rfl rfl)
   ·have h := Ao c4 h
    refine AT ?_
    exact As _ h (sm [] _ _ rfl rfl)
  ·refine Am hs (Ab (Aa Ac rfl (qa rfl (Ae ?_))))
   obtain rfl := sj h
   refine Am (sm [] [(4, bD true)] [] rfl rfl) (Az ?_)
   exact ⟨⟨[_], ⟨.tmp _ _ rfl, tv⟩, rfl⟩, tv⟩
theorem ID (N : Nat) (r : Bool) (h : EK N = some r) : AC Tryz.prog 11 [] [] (bD r) := by
 unfold EK at h
 refine Au (n := 123) (rs := [.tmp 0]) Tryz.func11 rfl rfl rfl (A7 rfl) (A7 rfl) rfl fun w0 S0 => ?_
 refine Ab (Aa Ac rfl (qa rfl (Ae (Ab (Aa Ac rfl (D8 AM Dw Kv rfl (D8 AM Dw Kv rfl (D8 Dg FN OB rfl (Bw CI G5 rfl (qz CI rfl (qs AA rfl (Ae (Ab (Aa Ac rfl (D8 AM Dw Kv rfl (D8 AM Dw Kv rfl (D8 Dg FN OB rfl (Bw CI G5 rfl (qz CI rfl (qs AA rfl (Ae (Ab (Aa Ac rfl ?_)))))))))))))))))))))))
 obtain ⟨v1, a1, h⟩ := bind_some h
 refine AG [2001, 2002, 2003, 2004] (C9 N v1 a1) RL rfl (DK (Bq 2001 _ _ rfl rfl) (DK (Bq 2002 _ _ rfl rfl) (DK (Bq 2003 _ _ rfl rfl) (DK (Bq 2004 _ _ rfl rfl) ?_))))
 obtain ⟨v2, a2, h⟩ := bind_some h
 refine AG [2005] (Oz N v1 v2 a2) ai rfl (qm rfl (qx rfl (qx rfl (qa rfl (qa rfl (Ae (Ab (Aa Ac rfl ?_))))))))
 obtain ⟨v3, a3, h⟩ := bind_some h
 refine AG [2006, 2007, 2008, 2009] (C9 N v3 a3) RL rfl (qm rfl (DK (Bq 2006 _ _ rfl rfl) (DK (Bq 2007 _ _ rfl rfl) (DK (Bq 2008 _ _ rfl rfl) (DK (Bq 2009 _ _ rfl rfl) (DK (Bq 2005 _ _ rfl rfl) ?_))))))
 obtain ⟨v4, a4, h⟩ := bind_some h
 refine AG [2010] (Iv N v3 v2.1 v4 a4) Xv rfl (qm rfl (qx rfl (qx rfl (qa rfl (qa rfl (Ae (Ab (Aa Ac rfl ?_))))))))
 obtain ⟨v5, a5, h⟩ := bind_some h
 refine AG [2011, 2012, 2013, 2014] (C9 N v5 a5) RL rfl (qm rfl ?_)
 obtain ⟨v6, a6, h⟩ := bind_some h
 refine DC [2015] [2011, 2012, 2013, 2014] (JR N v5 v2.1 v6 a6) Zo (GD (fun _ => rfl) Cj) rfl (qm rfl (qx rfl (qx rfl (qa rfl (qa rfl (Ae (Ab (Aa Ac rfl ?_))))))))
 obtain ⟨v7, a7, h⟩ := bind_some h
 refine AG [2016, 2017, 2018, 2019] (C9 N v7 a7) RL rfl (qm rfl ?_)
 obtain ⟨v8, a8, h⟩ := bind_some h
 refine DC [2020, 2021, 2022] [2016, 2017, 2018, 2019] (ML N v7 v2.1 v8 a8) ZN (GD (fun _ => rfl) (GD (fun _ => rfl) (GD (fun _ => rfl) Cj))) rfl (qm rfl (qx rfl (qx rfl (qx rfl (qz CI rfl (qa rfl (qs AA rfl (qa rfl (Ae (Ab (Aa Ac rfl (Bw G6 Qc rfl (qz G6 rfl (qs AU rfl (Ae ?_)))))))))))))))
 refine AO h (fun v9 => mk [(1, oD (.ptr 1 0)), (2, oD (.ptr 2 0)), (3, pD (.sl (v2.1.map Aj))), (5, oD (.own 2032)), (7, oD (.own 2033)), (9, iD v8.1), (10, oD (.ptr 10 0)), (12, oD (.ptr 12 0)), (13, bD v9)] [(1, .box [.own 2023, .own 2024, .own 2025]), (2, .box [.own 2026, .own 2027, .own 2028]), (10, .box [.own 2029, .own 2030, .own 2031]), (12, .box [iC 0, iC 1, iC 0]), (2023, .vec 1 ((([0] : List Int)).map Al)), (2024, .vec 1 ((([(-1)] : List Int)).map Al)), (2025, .vec 1 ((([0] : List Int)).map Bj)), (2026, .vec 1 ((([1] : List Int)).map Al)), (2027, .vec 1 ((([(-1)] : List Int)).map Al)), (2028, .vec 1 ((([0] : List Int)).map Bj)), (2029, .vec 1 (v8.2.1.fBase.map Al)), (2030, .vec 1 (v8.2.1.fNext.map Al)), (2031, .vec 1 (v8.2.1.fHeld.map Bj)), (2032, .vec 9 (v4.1.map Bo)), (2033, .vec 3 (v6.1.map Ad))]) (fun j9 h => ?_) (fun v9 h => ?_)
 ·refine Aa Ac rfl (qm rfl (BL rfl (qm rfl ?_)))
  refine AF (t := 49) rfl (fun c10 => ?_) (fun c10 => ?_)
  ·have h := An c10 h
   refine qm rfl (BL rfl (qp rfl (qm rfl ?_)))
   refine AF (t := 53) rfl (fun c11 => ?_) (fun c11 => ?_)
   ·have h := An c11 h
    refine qm rfl (BL rfl (qp rfl (qm rfl ?_)))
    refine AF (t := 57) rfl (fun c12 => ?_) (fun c12 => ?_)
    ·have h := An c12 h
     refine qm rfl (BL rfl (qp rfl (qa rfl (Ae ?_))))
     exact As _ h (sm [(2023, 14), (2024, 15), (2025, 16), (2026, 18), (2027, 19), (2028, 20), (2029, 2020), (2030, 2021), (2031, 2022), (2032, 2010), (2033, 2015)] _ _ rfl rfl)
    ·have h := Ao c12 h
     refine qn rfl (qn rfl (qp rfl (qa rfl (Ae ?_))))
     exact As _ h (sm [(2023, 14), (2024, 15), (2025, 16), (2026, 18), (2027, 19), (2028, 20), (2029, 2020), (2030, 2021), (2031, 2022), (2032, 2010), (2033, 2015)] _ _ rfl rfl)
   ·have h := Ao c11 h
    refine qn rfl (qn rfl (qp rfl (qm rfl (qn rfl (qn rfl (qp rfl (qa rfl (Ae ?_))))))))
    exact As _ h (sm [(2023, 14), (2024, 15), (2025, 16), (2026, 18), (2027, 19), (2028, 20), (2029, 2020), (2030, 2021), (2031, 2022), (2032, 2010), (2033, 2015)] _ _ rfl rfl)
  ·have h := Ao c10 h
   refine qn rfl (qn rfl (qp rfl (qm rfl (qn rfl (qn rfl (qp rfl (qm rfl (qn rfl (qn rfl (qp rfl (qa rfl (Ae ?_))))))))))))
   exact As _ h (sm [(2023, 14), (2024, 15), (2025, 16), (2026, 18), (2027, 19), (2028, 20), (2029, 2020), (2030, 2021), (2031, 2022), (2032, 2010), (2033, 2015)] _ _ rfl rfl)
 ·refine AO h (fun v13 => mk [(1, oD (.ptr 1 0)), (5, oD (.own 2037)), (7, oD (.own 2038)), (9, iD v8.1), (10, oD (.ptr 10 0)), (12, oD (.ptr 12 0)), (13, bD v13)] [(1, .box [sC ((([0] : List Int)).map Al), sC ((([(-1)] : List Int)).map Al), sC ((([0] : List Int)).map Bj)]), (10, .box [.own 2034, .own 2035, .own 2036]), (12, .box [iC 0, iC 1, iC 0]), (2034, .vec 1 (v8.2.1.fBase.map Al)), (2035, .vec 1 (v8.2.1.fNext.map Al)), (2036, .vec 1 (v8.2.1.fHeld.map Bj)), (2037, .vec 9 (v4.1.map Bo)), (2038, .vec 3 (v6.1.map Ad))]) (fun j13 h => ?_) (fun v13 h => ?_)
  ·refine Am (Bq 2023 _ _ rfl rfl) (Am (Bq 2024 _ _ rfl rfl) (Am (Bq 2025 _ _ rfl rfl) (Am (Bq 2026 _ _ rfl rfl) (Am (Bq 2027 _ _ rfl rfl) (Am (Bq 2028 _ _ rfl rfl) (Aa Ac rfl (qm rfl (qm rfl ?_))))))))
   refine AF (t := 62) rfl (fun c14 => ?_) (fun c14 => ?_)
   ·have h := An c14 h
    refine qm rfl (qL A9 AA rfl (D8 A3 AA CI rfl ?_))
    obtain ⟨v15, a15, h⟩ := bind_some h
    refine DC [] [65] (LU N v2.1 (([(Ah.mk (([0] : List Int)) (([(-1)] : List Int)) (([0] : List Int)))] : List Ah)) v15 a15) Z3 Cj rfl (qp rfl (qm rfl ?_))
    refine AF (t := 68) rfl (fun c16 => ?_) (fun c16 => ?_)
    ·have h := An c16 h
     obtain ⟨v17, a17, h⟩ := bind_some h
     refine AG [2039, 2040, 2041, 2042] (C9 N v17 a17) RL rfl (qm rfl ?_)
     obtain ⟨v18, a18, h⟩ := bind_some h
     refine DC [] [2039, 2040, 2041, 2042] (IX N v17 v2.1 v18 a18) Xg Cj rfl (qp rfl (qm rfl ?_))
     refine AF (t := 73) rfl (fun c19 => ?_) (fun c19 => ?_)
     ·have h := An c19 h
      obtain ⟨v20, a20, h⟩ := bind_some h
      refine AG [2043, 2044, 2045, 2046] (C9 N v20 a20) RL rfl ?_
      obtain ⟨v21, a21, h⟩ := bind_some h
      refine DC [] [2043, 2044, 2045, 2046] (IX N v20 (([] : List Ah)) v21 a21) Xg Cj rfl (BZ rfl (qp rfl (qm rfl ?_)))
      refine AF (t := 78) rfl (fun c22 => ?_) (fun c22 => ?_)
      ·have h := An c22 h
       obtain ⟨v23, a23, h⟩ := bind_some h
       refine AG [2047, 2048, 2049, 2050] (C9 N v23 a23) RL rfl (qL A9 AA rfl (qL A9 AA rfl (D8 A3 AA CI rfl ?_)))
       obtain ⟨v24, a24, h⟩ := bind_some h
       refine DC [] [2047, 2048, 2049, 2050, 82] (IX N v23 (([(Ah.mk (([0] : List Int)) (([(-1)] : List Int)) (([0] : List Int))), (Ah.mk (([1] : List Int)) (([(-1)] : List Int)) (([0] : List Int)))] : List Ah)) v24 a24) Xg Cj rfl (BZ rfl (qp rfl (qa rfl (AB (by kernel_rfl) ?_))))
       exact As _ h (sm [(2034, 2029), (2035, 2030), (2036, 2031), (2037, 2032), (2038, 2033)] _ _ rfl rfl)
      ·have h := Ao c22 h
       refine qn rfl (qn rfl (qn rfl (qn rfl (qn rfl (qn rfl (qp rfl (qa rfl (AB (by kernel_rfl) ?_))))))))
       exact As _ h (sm [(2034, 2029), (2035, 2030), (2036, 2031), (2037, 2032), (2038, 2033)] _ _ rfl rfl)
     ·have h := Ao c19 h
      refine qn rfl (qn rfl (qn rfl (qp rfl (qm rfl (qn rfl (qn rfl (qn rfl (qn rfl (qn rfl (qn rfl (qp rfl (qa rfl (AB (by kernel_rfl) ?_)))))))))))))
      exact As _ h (sm [(2034, 2029), (2035, 2030), (2036, 2031), (2037, 2032), (2038, 2033)] _ _ rfl rfl)
    ·have h := Ao c16 h
     refine qn rfl (qn rfl (qn rfl (qp rfl (qm rfl (qn rfl (qn rfl (qn rfl (qp rfl (qm rfl (qn rfl (qn rfl (qn rfl (qn rfl (qn rfl (qn rfl (qp rfl (qa rfl (AB (by kernel_rfl) ?_))))))))))))))))))
     exact As _ h (sm [(2034, 2029), (2035, 2030), (2036, 2031), (2037, 2032), (2038, 2033)] _ _ rfl rfl)
   ·have h := Ao c14 h
    refine qn rfl (qn rfl (qn rfl (qn rfl (qp rfl (qm rfl (qn rfl (qn rfl (qn rfl (qp rfl (qm rfl (qn rfl (qn rfl (qn rfl (qp rfl (qm rfl (qn rfl (qn rfl (qn rfl (qn rfl (qn rfl (qn rfl (qp rfl (qa rfl (AB (by kernel_rfl) ?_))))))))))))))))))))))))
    exact As _ h (sm [(2034, 2029), (2035, 2030), (2036, 2031), (2037, 2032), (2038, 2033)] _ _ rfl rfl)
  ·refine AO h (fun v25 => mk [(0, bD v25)] []) (fun j25 h => ?_) (fun v25 h => ?_)
   ·refine Aa Ac rfl (qm rfl (qm rfl ?_))
    refine AF (t := 87) rfl (fun c26 => ?_) (fun c26 => ?_)
    ·have h := An c26 h
     refine qm rfl (Ex FC rfl (BL rfl (qp rfl (qm rfl ?_))))
     refine AF (t := 92) rfl (fun c27 => ?_) (fun c27 => ?_)
     ·have h := An c27 h
      refine qm rfl ?_
      obtain ⟨v28, a28, b28, h⟩ := Ai h
      refine qI FC J3 a28 (Af b28) rfl (qh PW rfl ?_)
      refine Kz (.g rfl rfl) rfl H6 EG rfl (Af b28) rfl rfl (by decide) ?_
      refine Bw JI Uc rfl ?_
      refine UB [.int .i64 v28.fStep.fKind, .int .i64 v28.fStep.fIndex, .int .i64 v28.fStep.fVersion] [.int .i64 1, .int .i64 0, .int .i64 1] (.g rfl rfl) rfl rfl Wz rfl ?_
      refine qp rfl (qm rfl ?_)
      refine AF (t := 100) rfl (fun c29 => ?_) (fun c29 => ?_)
      ·have h := An c29 h
       refine qm rfl ?_
       obtain ⟨v30, a30, b30, h⟩ := Ai h
       refine qI FC J3 a30 (Af b30) rfl (qh Kn rfl ?_)
       refine Kz (.g rfl rfl) rfl CP AU rfl (Af b30) rfl rfl (by decide) ?_
       refine qL CP AU rfl ?_
       refine UB [.int .i64 v30.fConflict.fTable, .int .i64 v30.fConflict.fWriter, .int .i64 v30.fConflict.fReader] [.int .i64 0, .int .i64 1, .int .i64 0] (.g rfl rfl) rfl rfl PE rfl ?_
       refine qp rfl (qm rfl ?_)
       refine AF (t := 108) rfl (fun c31 => ?_) (fun c31 => ?_)
       ·have h := An c31 h
        refine qm rfl (qL CP AU rfl (D8 A4 AU G6 rfl ?_))
        obtain ⟨v32, a32, h⟩ := bind_some h
        refine DC [] [2038, 111] (Hb N v6.1 (([(Ag.mk 0 1 0)] : List Ag)) v32 a32) Zl Cj rfl (qp rfl (qm rfl ?_))
        refine AF (t := 114) rfl (fun c33 => ?_) (fun c33 => ?_)
        ·have h := An c33 h
         refine qm rfl (BL rfl (qp rfl (qm rfl ?_)))
         refine AF (t := 118) rfl (fun c34 => ?_) (fun c34 => ?_)
         ·have h := An c34 h
          refine qL A9 AA rfl (qL A9 AA rfl ?_)
          obtain ⟨v35, a35, h⟩ := bind_some h
          refine DC [] [2034, 2035, 2036] (GX N v8.2.1 ((Ah.mk (([0] : List Int)) (([(-1)] : List Int)) (([0] : List Int)))) v35 a35) W7 Cj rfl (qp rfl (qa rfl (AB (by kernel_rfl) ?_)))
          exact As _ h (sm [] _ _ rfl rfl)
         ·have h := Ao c34 h
          refine qn rfl (qn rfl (qn rfl (qp rfl (qa rfl (AB (by kernel_rfl) ?_)))))
          exact As _ h (sm [] _ _ rfl rfl)
        ·have h := Ao c33 h
         refine qn rfl (qn rfl (qp rfl (qm rfl (qn rfl (qn rfl (qn rfl (qp rfl (qa rfl (AB (by kernel_rfl) ?_)))))))))
         exact As _ h (sm [] _ _ rfl rfl)
       ·have h := Ao c31 h
        refine qn rfl (qn rfl (qn rfl (qn rfl (qp rfl (qm rfl (qn rfl (qn rfl (qp rfl (qm rfl (qn rfl (qn rfl (qn rfl (qp rfl (qa rfl (AB (by kernel_rfl) ?_)))))))))))))))
        exact As _ h (sm [] _ _ rfl rfl)
      ·have h := Ao c29 h
       refine qn rfl (qn rfl (qn rfl (qn rfl (qn rfl (qn rfl (qp rfl (qm rfl (qn rfl (qn rfl (qn rfl (qn rfl (qp rfl (qm rfl (qn rfl (qn rfl (qp rfl (qm rfl (qn rfl (qn rfl (qn rfl (qp rfl (qa rfl (AB (by kernel_rfl) ?_)))))))))))))))))))))))
       exact As _ h (sm [] _ _ rfl rfl)
     ·have h := Ao c27 h
      refine qn rfl (qn rfl (qn rfl (qn rfl (qn rfl (qn rfl (qp rfl (qm rfl (qn rfl (qn rfl (qn rfl (qn rfl (qn rfl (qn rfl (qp rfl (qm rfl (qn rfl (qn rfl (qn rfl (qn rfl (qp rfl (qm rfl (qn rfl (qn rfl (qp rfl (qm rfl (qn rfl (qn rfl (qn rfl (qp rfl (qa rfl (AB (by kernel_rfl) ?_)))))))))))))))))))))))))))))))
      exact As _ h (sm [] _ _ rfl rfl)
    ·have h := Ao c26 h
     refine qn rfl (qn rfl (qn rfl (qp rfl (qm rfl (qn rfl (qn rfl (qn rfl (qn rfl (qn rfl (qn rfl (qp rfl (qm rfl (qn rfl (qn rfl (qn rfl (qn rfl (qn rfl (qn rfl (qp rfl (qm rfl (qn rfl (qn rfl (qn rfl (qn rfl (qp rfl (qm rfl (qn rfl (qn rfl (qp rfl (qm rfl (qn rfl (qn rfl (qn rfl (qp rfl (qa rfl (AB (by kernel_rfl) ?_))))))))))))))))))))))))))))))))))))
     exact As _ h (sm [] _ _ rfl rfl)
   ·obtain rfl := sj h
    refine Am (sm [] [(0, bD v25)] [] rfl rfl) (Az ?_)
    exact ⟨⟨[_], ⟨.tmp _ _ rfl, tv⟩, rfl⟩, tv⟩
theorem Hn (N : Nat) (p0 : List Int) (p1 : Int) (r : Int) (h : DG N p0 p1 = some r) : AC Tryz.prog 53 [pD (.sl (p0.map Bj)), iD p1] [] (iD r) := by
 unfold DG at h
 refine Au (n := 14) (rs := [.tmp 4]) Tryz.func53 rfl rfl rfl (A7 rfl) (A7 rfl) rfl fun w0 S0 => ?_
 refine Ab (Aa Ac rfl (qa rfl (Ae (Ab (Ab (Aa Ac rfl (qm rfl (qm rfl (AX JS rfl (AV rfl (Ae ?_)))))))))))
 refine Ap rfl (fun c1 => ?_) (fun c1 => ?_)
 ·have h := An c1 h
  refine Ab (Aa Ac rfl (qm rfl (qm rfl ?_)))
  obtain ⟨v2, a2, b2, h⟩ := Ai h
  refine qi JS XF a2 (Af b2) rfl (qk XT rfl (Gq Wk SY rfl (qa rfl (Ae ?_))))
  obtain rfl := sj h
  refine Am (sm [] [(4, iD ((wI .i64 v2)))] [] rfl rfl) (Az ?_)
  exact ⟨⟨[_], ⟨.tmp _ _ rfl, tv⟩, rfl⟩, tv⟩
 ·have h := Ao c1 h
  refine Aq (Ab (Aa Ac rfl (qa rfl (Ae ?_))))
  obtain rfl := sj h
  refine Am (sm [] [(4, iD 0)] [] rfl rfl) (Az ?_)
  exact ⟨⟨[_], ⟨.tmp _ _ rfl, tv⟩, rfl⟩, tv⟩
theorem DP (N : Nat) (p0 : Ah) (p1 : Int) (r : Int) (h : BU N p0 p1 = some r) : AC Tryz.prog 54 [.e (.agg [sC (p0.fBase.map Al), sC (p0.fNext.map Al), sC (p0.fHeld.map Bj)]), iD p1] [] (pD (.val (.int .u8 r))) := by
 unfold BU at h
 refine Au (n := 27) (rs := [.tmp 4]) Tryz.func54 rfl rfl rfl (A7 rfl) (A7 rfl) rfl fun w0 S0 => ?_
 refine Ab (Aa Ac rfl (qb rfl (qa rfl (Ae (Ab (Aa Ac rfl (qf CY rfl (ql Bu rfl (qm rfl ?_)))))))))
 obtain ⟨v1, a1, b1, h⟩ := Ai h
 refine qi AM Dw a1 (Af b1) rfl (qk B6 rfl ?_)
 obtain ⟨c2, h⟩ := AS h
 refine Il rfl c2 (qa rfl (Ae ?_))
 refine AO h (fun v3 => mk [(5, pD (.val (.int .u8 v3)))] []) (fun j3 h => ?_) (fun v3 h => ?_)
 ·refine Ab (Aa Ac rfl (qf BJ rfl (ql Bu rfl (qm rfl ?_))))
  obtain ⟨v4, a4, b4, h⟩ := Ai h
  refine qi AM Dw a4 (Af b4) rfl (qk B6 rfl (Cz rfl (Ae ?_)))
  refine Ap rfl (fun c5 => ?_) (fun c5 => ?_)
  ·have h := An c5 h
   refine Aa Ac rfl (qm rfl (qf BJ rfl (ql Bu rfl (qm rfl ?_))))
   obtain ⟨v6, a6, b6, h⟩ := Ai h
   refine qi AM Dw a6 (Af b6) rfl (qk B6 rfl ?_)
   obtain ⟨c7, h⟩ := AS h
   refine Il rfl c7 (Tx rfl (qa rfl (Ae ?_)))
   exact As _ h (sm [] _ _ rfl rfl)
  ·have h := Ao c5 h
   refine Aq ?_
   exact As _ h (sm [] _ _ rfl rfl)
 ·refine Ab (Aa Ac rfl (qm rfl (qa rfl (Ae ?_))))
  obtain rfl := sj h
  refine Am (sm [] [(4, pD (.val (.int .u8 v3)))] [] rfl rfl) (Az ?_)
  exact ⟨⟨[_], ⟨.tmp _ _ rfl, tv⟩, rfl⟩, tv⟩
theorem MZ (N : Nat) (p0 : Ak) (p1 : B1) (r : Ah) (h : Fp N p0 p1 = some r) : AC Tryz.prog 17 [.e (.agg [sC (p0.fVersions.map Al), sC (p0.fNow.map Al), sC (p0.fTarget.map Al), sC (p0.fTables.map Ar)]), .e (.agg [sC (p1.fBase.map Bj), sC (p1.fNext.map Bj), sC (p1.fHeld.map Bj)])] [(1, r.fBase.map Al), (1, r.fNext.map Al), (1, r.fHeld.map Bj)] (.e (.agg [.own 0, .own 1, .own 2])) := by
 unfold Fp at h
 refine Au (n := 99) (rs := [.cell 4 46]) Tryz.func17 rfl rfl rfl (A7 rfl) (A7 rfl) rfl fun w0 S0 => ?_
 refine Ab (Aa Ac rfl (qb rfl (qb rfl (qz CI rfl (Ae (Ab (Aa Ac rfl (qz CI rfl (Ae (Ab (Ab (Aa Ac rfl (qa rfl (Ae ?_))))))))))))))
 refine AE (L := C4 N p0 p1) h (fun v1 => mk [(2, oD (.ptr 2 0)), (3, oD (.ptr 3 0)), (4, oD (.ptr 4 0)), (5, oD (.ptr 5 0)), (6, iD v1.2.2)] [(2, .box [sC (p0.fVersions.map Al), sC (p0.fNow.map Al), sC (p0.fTarget.map Al), sC (p0.fTables.map Ar)]), (3, .box [sC (p1.fBase.map Bj), sC (p1.fNext.map Bj), sC (p1.fHeld.map Bj)]), (4, .box [.pure (.nil0), .pure (.nil0), .pure (.nil0)]), (5, .box [.own 2001, .own 2002, .pure (.nil0)]), (2001, .vec 1 (v1.1.map Al)), (2002, .vec 1 (v1.2.1.map Al))]) (fun v2 => mk [(2, oD (.ptr 2 0)), (3, oD (.ptr 3 0)), (4, oD (.ptr 4 0)), (5, oD (.ptr 5 0))] [(2, .box [sC (p0.fVersions.map Al), sC (p0.fNow.map Al), sC (p0.fTarget.map Al), sC (p0.fTables.map Ar)]), (3, .box [sC (p1.fBase.map Bj), sC (p1.fNext.map Bj), sC (p1.fHeld.map Bj)]), (4, .box [.pure (.nil0), .pure (.nil0), .pure (.nil0)]), (5, .box [.own 2003, .own 2004, .pure (.nil0)]), (2003, .vec 1 (v2.1.map Al)), (2004, .vec 1 (v2.2.map Al))]) (fun _ _ => rfl) ((AI 5 0 2007 1 _ rfl rfl rfl rfl).trans ((AI 5 1 2008 1 _ rfl rfl rfl rfl).trans (sm [(2001, 2007), (2002, 2008)] _ _ rfl rfl))) (fun j1 n1 v1 h => ?_) (fun v2 s h hs => ?_)
 ·unfold C4 at h
  refine Ab (Ab (Aa Ac rfl (qm rfl (qf BH rfl (ql Bu rfl (AX AM rfl (AV rfl (Ae ?_))))))))
  refine Ap rfl (fun c3 => ?_) (fun c3 => ?_)
  ·have h := An c3 h
   refine Aq (Ab (AJ (Ab (Aa Ac rfl (qf BH rfl (ql Bu rfl (qm rfl ?_)))))))
   obtain ⟨v4, a4, b4, h⟩ := Ai h
   refine qi AM Dw a4 (Af b4) rfl (qk B6 rfl (qa rfl (Ae (Ab (Aa Ac rfl (qf VR rfl (ql RG rfl (qm rfl ?_))))))))
   obtain ⟨v5, a5, h⟩ := bind_some h
   refine AG [] (Hn N p1.fBase v1.2.2 v5 a5) Xi rfl (qm rfl ?_)
   obtain ⟨c6, h⟩ := AS h
   refine Kt rfl c6 (qa rfl (Ae (Ab (Aa Ac rfl (qa rfl (Ae ?_))))))
   refine AO h (fun v7 => mk [(2, oD (.ptr 2 0)), (3, oD (.ptr 3 0)), (4, oD (.ptr 4 0)), (5, oD (.ptr 5 0)), (6, iD v1.2.2), (8, iD ((Int.tmod v5 v4))), (9, iD v7)] [(2, .box [sC (p0.fVersions.map Al), sC (p0.fNow.map Al), sC (p0.fTarget.map Al), sC (p0.fTables.map Ar)]), (3, .box [sC (p1.fBase.map Bj), sC (p1.fNext.map Bj), sC (p1.fHeld.map Bj)]), (4, .box [.pure (.nil0), .pure (.nil0), .pure (.nil0)]), (5, .box [.own 2005, .own 2006, .pure (.nil0)]), (2005, .vec 1 (v1.1.map Al)), (2006, .vec 1 (v1.2.1.map Al))]) (fun j7 h => ?_) (fun v7 h => ?_)
   ·refine Ab (Aa Ac rfl (qf VI rfl (ql RG rfl (qm rfl ?_))))
    obtain ⟨v8, a8, h⟩ := bind_some h
    refine AG [] (Hn N p1.fNext v1.2.2 v8 a8) Xi rfl (qm rfl ?_)
    obtain ⟨c9, h⟩ := AS h
    refine Kt rfl c9 (qa rfl (Ae (Ab (Aa Ac rfl (qm rfl (Ey rfl (Ae ?_)))))))
    refine Ap rfl (fun c10 => ?_) (fun c10 => ?_)
    ·have h := An c10 h
     refine Aa Ac rfl (qm rfl (qm rfl (AP rfl (qm rfl ?_))))
     obtain ⟨c11, h⟩ := AS h
     refine Kt rfl c11 (qa rfl (Ae ?_))
     exact As _ h (sm [(2005, 2001), (2006, 2002)] _ _ rfl rfl)
    ·have h := Ao c10 h
     refine Aq ?_
     exact As _ h (sm [(2005, 2001), (2006, 2002)] _ _ rfl rfl)
   ·refine Ab (Aa Ac rfl (qf CY rfl (ql Bu rfl (qm rfl (D8 AM Dw Kv rfl ?_)))))
    obtain ⟨c12, h⟩ := AS h
    refine Dt (f := Al) AM AM Dw MQ Kv c12 rfl (qf CY rfl (qs Uk rfl (Ae (Aa Ac rfl (qf BJ rfl (ql Bu rfl (qm rfl (D8 AM Dw Kv rfl ?_))))))))
    obtain ⟨c13, h⟩ := AS h
    refine Dt (f := Al) AM AM Dw MQ Kv c13 rfl (qf BJ rfl (qs Uk rfl (Ae (Aa Ac rfl (qm rfl (AP rfl (qa rfl (Ae ?_))))))))
    exact As _ h (sm [(2001, 50), (2002, 56)] _ _ rfl rfl)
  ·have h := Ao c3 h
   refine AT ?_
   exact As _ h (sm [(2003, 2001), (2004, 2002)] _ _ rfl rfl)
 ·refine Am hs (Ab (Ab (Aa Ac rfl (qa rfl (Ae ?_)))))
  refine AE (L := BB N p0 p1 v2) h (fun v14 => mk [(2, oD (.ptr 2 0)), (3, oD (.ptr 3 0)), (4, oD (.ptr 4 0)), (5, oD (.ptr 5 0)), (11, iD v14.2)] [(2, .box [sC (p0.fVersions.map Al), sC (p0.fNow.map Al), sC (p0.fTarget.map Al), sC (p0.fTables.map Ar)]), (3, .box [sC (p1.fBase.map Bj), sC (p1.fNext.map Bj), sC (p1.fHeld.map Bj)]), (4, .box [.pure (.nil0), .pure (.nil0), .pure (.nil0)]), (5, .box [.own 2009, .own 2010, .own 2011]), (2009, .vec 1 (v2.1.map Al)), (2010, .vec 1 (v2.2.map Al)), (2011, .vec 1 (v14.1.map Bj))]) (fun v15 => mk [(4, oD (.ptr 4 0)), (5, oD (.ptr 5 0))] [(4, .box [.pure (.nil0), .pure (.nil0), .pure (.nil0)]), (5, .box [.own 2012, .own 2013, .own 2014]), (2012, .vec 1 (v2.1.map Al)), (2013, .vec 1 (v2.2.map Al)), (2014, .vec 1 (v15.map Bj))]) (fun _ _ => rfl) ((AI 5 2 2018 1 _ rfl rfl rfl rfl).trans (sm [(2009, 2003), (2010, 2004), (2011, 2018)] _ _ rfl rfl)) (fun j14 n14 v14 h => ?_) (fun v15 s h hs => ?_)
  ·unfold BB at h
   refine Ab (Ab (Aa Ac rfl (qm rfl (qf Df rfl (ql H0 rfl (AX Ez rfl (AV rfl (Ae ?_))))))))
   refine Ap rfl (fun c16 => ?_) (fun c16 => ?_)
   ·have h := An c16 h
    refine Aq (Ab (AJ (Ab (Aa Ac rfl (qf Df rfl (ql H0 rfl (qm rfl ?_)))))))
    obtain ⟨v17, a17, b17, h⟩ := Ai h
    refine qi Ez Eu a17 (Af b17) rfl (qK H1 Eu rfl (qz Lq rfl (qs Eu rfl (Ae (Ab (Aa Ac rfl (qa rfl (Ae ?_))))))))
    refine AO h (fun v18 => mk [(2, oD (.ptr 2 0)), (3, oD (.ptr 3 0)), (4, oD (.ptr 4 0)), (5, oD (.ptr 5 0)), (11, iD v14.2), (13, pD (.val (.int .u8 v18)))] [(2, .box [sC (p0.fVersions.map Al), sC (p0.fNow.map Al), sC (p0.fTarget.map Al), sC (p0.fTables.map Ar)]), (3, .box [sC (p1.fBase.map Bj), sC (p1.fNext.map Bj), sC (p1.fHeld.map Bj)]), (4, .box [.pure (.nil0), .pure (.nil0), .pure (.nil0)]), (5, .box [.own 2015, .own 2016, .own 2017]), (2015, .vec 1 (v2.1.map Al)), (2016, .vec 1 (v2.2.map Al)), (2017, .vec 1 (v14.1.map Bj))]) (fun j18 h => ?_) (fun v18 h => ?_)
    ·refine Ab (Aa Ac rfl (qL H1 Eu rfl ?_))
     obtain ⟨v19, a19, h⟩ := bind_some h
     refine AG [] (Cy N v17 v19 a19) PJ rfl (Ae ?_)
     refine Ap rfl (fun c20 => ?_) (fun c20 => ?_)
     ·have h := An c20 h
      refine Ab (Aa Ac rfl (qf BH rfl (ql Bu rfl (qf Dj rfl (ql B6 rfl ?_)))))
      obtain ⟨v21, a21, b21, h⟩ := Ai h
      refine qi AM Dw a21 (Af b21) rfl (qk B6 rfl ?_)
      obtain ⟨c22, h⟩ := AS h
      refine Il rfl c22 (Bk rfl (qa rfl (Ae (Aa Ac rfl (qL A9 AA rfl (qf Dj rfl (ql B6 rfl ?_)))))))
      obtain ⟨v23, a23, h⟩ := bind_some h
      refine DC [] [2009, 2010, 2011] (DP N ((Ah.mk v2.1 v2.2 v14.1)) v17.fFrom v23 a23) To Cj rfl (qf VP rfl (ql RG rfl (qm rfl ?_)))
      obtain ⟨v24, a24, h⟩ := bind_some h
      refine AG [] (Hn N p1.fHeld v14.2 v24 a24) Xi rfl (Gq T1 aA rfl (qm rfl (KJ rfl (Tx rfl (qa rfl (AB (by kernel_rfl) ?_))))))
      exact As _ h (sm [(2015, 2009), (2016, 2010), (2017, 2011)] _ _ rfl rfl)
     ·have h := Ao c20 h
      refine Aq ?_
      exact As _ h (sm [(2015, 2009), (2016, 2010), (2017, 2011)] _ _ rfl rfl)
    ·refine Aa Ac rfl (qf CS rfl (ql G4 rfl (qm rfl (D8 Dg FN OB rfl ?_))))
     obtain ⟨c25, h⟩ := AS h
     refine Dt (f := Bj) Dg Dg FN Ro OB c25 rfl (qf CS rfl (qs ak rfl (Ae (Aa Ac rfl (qm rfl (AP rfl (qa rfl (Ae ?_))))))))
     exact As _ h (sm [(2009, 2015), (2010, 2016), (2011, 96)] _ _ rfl rfl)
   ·have h := Ao c16 h
    refine AT ?_
    exact As _ h (sm [(2012, 2009), (2013, 2010), (2014, 2011)] _ _ rfl rfl)
  ·refine Am hs (Ab (Aa Ac rfl (qL A9 AA rfl (qs AA rfl (Ae ?_)))))
   obtain rfl := sj h
   refine Am (sm [(1000, 2012), (1001, 2013), (1002, 2014)] [(4, oD (.ptr 4 0))] [(4, .box [.own 1000, .own 1001, .own 1002]), (1000, .vec 1 (v2.1.map Al)), (1001, .vec 1 (v2.2.map Al)), (1002, .vec 1 (v15.map Bj))] rfl rfl) (Az ?_)
   exact ⟨⟨[_], ⟨.cellN _ _ _ _ _ _ _ rfl rfl A9 AA rfl rfl (IM rfl), tv⟩, rfl⟩, ⟨rfl, rfl, rfl, tv⟩⟩
theorem Ii (N : Nat) (p0 : List (List Bool)) (p1 : Int) (p2 : Int) (r : Bool) (h : DQ N p0 p1 p2 = some r) : AC Tryz.prog 115 [pD (.sl (p0.map (E4 eB))), iD p1, iD p2] [] (bD r) := by
 unfold DQ at h
 refine Au (n := 24) (rs := [.tmp 6]) Tryz.func115 rfl rfl rfl (A7 rfl) (A7 rfl) rfl fun w0 S0 => ?_
 refine Ab (Aa Ac rfl (qa rfl (Ae (Ab (Ab (Aa Ac rfl (qm rfl (AX GS rfl (qm rfl (B3 rfl (Ae ?_)))))))))))
 refine Ap rfl (fun c1 => ?_) (fun c1 => ?_)
 ·have h := An c1 h
  refine Ab (Aa Ac rfl (qa rfl (Ae ?_)))
  obtain rfl := sj h
  refine Am (sm [] [(6, bD false)] [] rfl rfl) (Az ?_)
  exact ⟨⟨[_], ⟨.tmp _ _ rfl, tv⟩, rfl⟩, tv⟩
 ·have h := Ao c1 h
  refine Aq (Ab (Ab (Aa Ac rfl (qa rfl (Ae ?_)))))
  refine AE (L := CL N p0 p1 p2) h (fun v2 => mk [(0, pD (.sl (p0.map (E4 eB)))), (1, iD p1), (2, iD p2), (7, iD v2)] []) (fun v3 => mk [] []) (fun _ _ => rfl) (sm [] _ _ rfl rfl) (fun j2 n2 v2 h => ?_) (fun v3 s h hs => ?_)
  ·unfold CL at h
   refine Ab (Ab (Aa Ac rfl (qm rfl (qm rfl (AV rfl (Ae ?_))))))
   refine Ap rfl (fun c4 => ?_) (fun c4 => ?_)
   ·have h := An c4 h
    refine Aq (Ab (AJ (Ab (Aa Ac rfl (qm rfl (qm rfl ?_))))))
    obtain ⟨v5, a5, b5, h⟩ := Ai h
    refine qi GS Nz a5 (Af b5) rfl (qk P7 rfl (AX G9 rfl (qm rfl (B3 rfl (Ae ?_)))))
    refine Ap rfl (fun c6 => ?_) (fun c6 => ?_)
    ·have h := An c6 h
     refine Ab (Aa Ac rfl (qa rfl (Ae ?_)))
     obtain rfl := sj h
     refine Am (sm [] [(6, bD false)] [] rfl rfl) (Az ?_)
     exact ⟨⟨[_], ⟨.tmp _ _ rfl, tv⟩, rfl⟩, tv⟩
    ·have h := Ao c6 h
     refine Aq (Aa Ac rfl (qm rfl (AP rfl (qa rfl (Ae ?_)))))
     exact As _ h (sm [] _ _ rfl rfl)
   ·have h := Ao c4 h
    refine AT ?_
    exact As _ h (sm [] _ _ rfl rfl)
  ·refine Am hs (Ab (Aa Ac rfl (qa rfl (Ae ?_))))
   obtain rfl := sj h
   refine Am (sm [] [(6, bD true)] [] rfl rfl) (Az ?_)
   exact ⟨⟨[_], ⟨.tmp _ _ rfl, tv⟩, rfl⟩, tv⟩
theorem Lp (N : Nat) (p0 : Ak) (p1 : AR) (r : Int) (h : EM N p0 p1 = some r) : AC Tryz.prog 76 [.e (.agg [sC (p0.fVersions.map Al), sC (p0.fNow.map Al), sC (p0.fTarget.map Al), sC (p0.fTables.map Ar)]), .e (.agg [iC p1.fKind, iC p1.fFrom, iC p1.fTo, .pure (.val (.bool p1.fAware)), sC (p1.fOK.map (E4 eB)), sC (p1.fRewrite.map (E4 eB))])] [] (iD r) := by
 unfold EM at h
 refine Au (n := 101) (rs := [.tmp 4]) Tryz.func76 rfl rfl rfl (A7 rfl) (A7 rfl) rfl fun w0 S0 => ?_
 refine Ab (Aa Ac rfl (qb rfl (qb rfl (qa rfl (Ae (Ab ?_))))))
 refine AO h (fun v1 => mk [(2, oD (.ptr 2 0)), (3, oD (.ptr 3 0)), (22, bD v1)] [(2, .box [sC (p0.fVersions.map Al), sC (p0.fNow.map Al), sC (p0.fTarget.map Al), sC (p0.fTables.map Ar)]), (3, .box [iC p1.fKind, iC p1.fFrom, iC p1.fTo, .pure (.val (.bool p1.fAware)), sC (p1.fOK.map (E4 eB)), sC (p1.fRewrite.map (E4 eB))])]) (fun j1 h => ?_) (fun v1 h => ?_)
 ·refine Aa Ac rfl (qf Gl rfl (ql B6 rfl (AV rfl (qm rfl ?_))))
  refine AF (t := 10) rfl (fun c2 => ?_) (fun c2 => ?_)
  ·have h := An c2 h
   refine qn rfl (qn rfl (qn rfl (qp rfl (qm rfl (qn rfl (qn rfl (qn rfl (qu rfl (qu rfl (qn rfl (qp rfl (Ae ?_))))))))))))
   exact As _ h (sm [] _ _ rfl rfl)
  ·have h := Ao c2 h
   refine qf Gl rfl (ql B6 rfl (Ey rfl (qp rfl (qm rfl ?_))))
   refine AF (t := 15) rfl (fun c3 => ?_) (fun c3 => ?_)
   ·have h := An c3 h
    refine qn rfl (qn rfl (qn rfl (qu rfl (qu rfl (qn rfl (qp rfl (Ae ?_)))))))
    exact As _ h (sm [] _ _ rfl rfl)
   ·have h := Ao c3 h
    refine qf Jw rfl (ql Sn rfl (qm rfl ?_))
    refine AF (t := 18) rfl (fun c4 => ?_) (fun c4 => ?_)
    ·have h := An c4 h
     refine qL H1 Eu rfl ?_
     obtain ⟨v5, a5, h⟩ := bind_some h
     refine AG [] (Cy N p1 v5 a5) PJ rfl (qp rfl (qp rfl (Ae ?_)))
     exact As _ h (sm [] _ _ rfl rfl)
    ·have h := Ao c4 h
     refine qn rfl (qn rfl (qp rfl (qp rfl (Ae ?_))))
     exact As _ h (sm [] _ _ rfl rfl)
 ·refine Ap rfl (fun c6 => ?_) (fun c6 => ?_)
  ·have h := An c6 h
   refine Ab (Aa Ac rfl (qa rfl (Ae ?_)))
   obtain rfl := sj h
   refine Am (sm [] [(4, iD 1)] [] rfl rfl) (Az ?_)
   exact ⟨⟨[_], ⟨.tmp _ _ rfl, tv⟩, rfl⟩, tv⟩
  ·have h := Ao c6 h
   refine Aq (Ab (Aa Ac rfl (qf BH rfl (ql Bu rfl (AX AM rfl (qa rfl (Ae (Ab ?_))))))))
   refine AO h (fun v7 => mk [(2, oD (.ptr 2 0)), (3, oD (.ptr 3 0)), (45, bD v7)] [(2, .box [sC (p0.fVersions.map Al), sC (p0.fNow.map Al), sC (p0.fTarget.map Al), sC (p0.fTables.map Ar)]), (3, .box [iC p1.fKind, iC p1.fFrom, iC p1.fTo, .pure (.val (.bool p1.fAware)), sC (p1.fOK.map (E4 eB)), sC (p1.fRewrite.map (E4 eB))])]) (fun j7 h => ?_) (fun v7 h => ?_)
   ·refine Aa Ac rfl (qf Dj rfl (ql B6 rfl (AV rfl (qm rfl ?_))))
    refine AF (t := 29) rfl (fun c8 => ?_) (fun c8 => ?_)
    ·have h := An c8 h
     refine qn rfl (qn rfl (qn rfl (qn rfl (qp rfl (qm rfl (qn rfl (qn rfl (qn rfl (qp rfl (qm rfl (qn rfl (qn rfl (qn rfl (qn rfl (qp rfl (Ae ?_))))))))))))))))
     exact As _ h (sm [] _ _ rfl rfl)
    ·have h := Ao c8 h
     refine qf Dj rfl (ql B6 rfl (qm rfl (Cz rfl (qp rfl (qm rfl ?_)))))
     refine AF (t := 35) rfl (fun c9 => ?_) (fun c9 => ?_)
     ·have h := An c9 h
      refine qn rfl (qn rfl (qn rfl (qp rfl (qm rfl (qn rfl (qn rfl (qn rfl (qn rfl (qp rfl (Ae ?_))))))))))
      exact As _ h (sm [] _ _ rfl rfl)
     ·have h := Ao c9 h
      refine qf IP rfl (ql B6 rfl (AV rfl (qp rfl (qm rfl ?_))))
      refine AF (t := 40) rfl (fun c10 => ?_) (fun c10 => ?_)
      ·have h := An c10 h
       refine qn rfl (qn rfl (qn rfl (qn rfl (qp rfl (Ae ?_)))))
       exact As _ h (sm [] _ _ rfl rfl)
      ·have h := Ao c10 h
       refine qf IP rfl (ql B6 rfl (qm rfl (Cz rfl (qp rfl (Ae ?_)))))
       exact As _ h (sm [] _ _ rfl rfl)
   ·refine Ap rfl (fun c11 => ?_) (fun c11 => ?_)
    ·have h := An c11 h
     refine Ab (Aa Ac rfl (qa rfl (Ae ?_)))
     obtain rfl := sj h
     refine Am (sm [] [(4, iD 4)] [] rfl rfl) (Az ?_)
     exact ⟨⟨[_], ⟨.tmp _ _ rfl, tv⟩, rfl⟩, tv⟩
    ·have h := Ao c11 h
     refine Aq (Ab (Ab (Aa Ac rfl (qf Kh rfl (ql K8 rfl (qf BH rfl (ql Bu rfl (qf Dj rfl (ql B6 rfl ?_)))))))))
     obtain ⟨v12, a12, b12, h⟩ := Ai h
     refine qi AM Dw a12 (Af b12) rfl (qk B6 rfl (qf BH rfl (ql Bu rfl (qf IP rfl (ql B6 rfl ?_)))))
     obtain ⟨v13, a13, b13, h⟩ := Ai h
     refine qi AM Dw a13 (Af b13) rfl (qk B6 rfl ?_)
     obtain ⟨v14, a14, h⟩ := bind_some h
     refine AG [] (Ii N p1.fOK v12 v13 v14 a14) WK rfl (BZ rfl (AB (by kernel_rfl) ?_))
     refine Ap rfl (fun c15 => ?_) (fun c15 => ?_)
     ·have h := An c15 h
      refine Ab (Aa Ac rfl (qa rfl (Ae ?_)))
      obtain rfl := sj h
      refine Am (sm [] [(4, iD 6)] [] rfl rfl) (Az ?_)
      exact ⟨⟨[_], ⟨.tmp _ _ rfl, tv⟩, rfl⟩, tv⟩
     ·have h := Ao c15 h
      refine Aq (Ab (Ab (Aa Ac rfl (qf Gl rfl (ql B6 rfl (B3 rfl (Ae ?_)))))))
      refine Ap rfl (fun c16 => ?_) (fun c16 => ?_)
      ·have h := An c16 h
       refine Ab (Ab (Aa Ac rfl (qf Hm rfl (ql K8 rfl (AX GS rfl (B3 rfl (Ae ?_)))))))
       refine Ap rfl (fun c17 => ?_) (fun c17 => ?_)
       ·have h := An c17 h
        refine Ab (Aa Ac rfl (qa rfl (Ae ?_)))
        obtain rfl := sj h
        refine Am (sm [] [(4, iD 6)] [] rfl rfl) (Az ?_)
        exact ⟨⟨[_], ⟨.tmp _ _ rfl, tv⟩, rfl⟩, tv⟩
       ·have h := Ao c17 h
        refine Aq (Ab (Aa Ac rfl (qa rfl (Ae ?_))))
        obtain rfl := sj h
        refine Am (sm [] [(4, iD 0)] [] rfl rfl) (Az ?_)
        exact ⟨⟨[_], ⟨.tmp _ _ rfl, tv⟩, rfl⟩, tv⟩
      ·have h := Ao c16 h
       refine Aq (Ab (Ab (Aa Ac rfl (qf Hm rfl (ql K8 rfl (qf BH rfl (ql Bu rfl (qf Dj rfl (ql B6 rfl ?_)))))))))
       obtain ⟨v18, a18, b18, h⟩ := Ai h
       refine qi AM Dw a18 (Af b18) rfl (qk B6 rfl (qf BH rfl (ql Bu rfl (qf Dj rfl (ql B6 rfl ?_)))))
       obtain ⟨v19, a19, b19, h⟩ := Ai h
       refine qi AM Dw a19 (Af b19) rfl (qk B6 rfl ?_)
       obtain ⟨v20, a20, h⟩ := bind_some h
       refine AG [] (Ii N p1.fRewrite v18 v19 v20 a20) WK rfl (BZ rfl (AB (by kernel_rfl) ?_))
       refine Ap rfl (fun c21 => ?_) (fun c21 => ?_)
       ·have h := An c21 h
        refine Ab (Aa Ac rfl (qa rfl (Ae ?_)))
        obtain rfl := sj h
        refine Am (sm [] [(4, iD 6)] [] rfl rfl) (Az ?_)
        exact ⟨⟨[_], ⟨.tmp _ _ rfl, tv⟩, rfl⟩, tv⟩
       ·have h := Ao c21 h
        refine Aq (Ab (Ab (Aa Ac rfl (qa rfl (Ae ?_)))))
        refine AE (L := Cg N p1) h (fun v22 => mk [(3, oD (.ptr 3 0)), (6, iD v22)] [(3, .box [iC p1.fKind, iC p1.fFrom, iC p1.fTo, .pure (.val (.bool p1.fAware)), sC (p1.fOK.map (E4 eB)), sC (p1.fRewrite.map (E4 eB))])]) (fun v23 => mk [] []) (fun _ _ => rfl) (sm [] _ _ rfl rfl) (fun j22 n22 v22 h => ?_) (fun v23 s h hs => ?_)
        ·unfold Cg at h
         refine Ab (Ab (Aa Ac rfl (qm rfl (qf Hm rfl (ql K8 rfl (AX GS rfl (AV rfl (Ae ?_))))))))
         refine Ap rfl (fun c24 => ?_) (fun c24 => ?_)
         ·have h := An c24 h
          refine Aq (Ab (AJ (Ab (Aa Ac rfl (qf Hm rfl (ql K8 rfl (qm rfl ?_)))))))
          obtain ⟨v25, a25, b25, h⟩ := Ai h
          refine qi GS Nz a25 (Af b25) rfl (qk P7 rfl (qm rfl ?_))
          obtain ⟨v26, a26, b26, h⟩ := Ai h
          refine qi G9 Q1 a26 (Af b26) rfl (qk Sn rfl (BZ rfl (Ae ?_)))
          refine Ap rfl (fun c27 => ?_) (fun c27 => ?_)
          ·have h := An c27 h
           refine Ab (Aa Ac rfl (qa rfl (Ae ?_)))
           obtain rfl := sj h
           refine Am (sm [] [(4, iD 1)] [] rfl rfl) (Az ?_)
           exact ⟨⟨[_], ⟨.tmp _ _ rfl, tv⟩, rfl⟩, tv⟩
          ·have h := Ao c27 h
           refine Aq (Aa Ac rfl (qm rfl (AP rfl (qa rfl (Ae ?_)))))
           exact As _ h (sm [] _ _ rfl rfl)
         ·have h := Ao c24 h
          refine AT ?_
          exact As _ h (sm [] _ _ rfl rfl)
        ·refine Am hs (Ab (Aa Ac rfl (qa rfl (Ae ?_))))
         obtain rfl := sj h
         refine Am (sm [] [(4, iD 0)] [] rfl rfl) (Az ?_)
         exact ⟨⟨[_], ⟨.tmp _ _ rfl, tv⟩, rfl⟩, tv⟩
theorem Gv (N : Nat) (p0 : Ak) (r : Int) (h : CO N p0 = some r) : AC Tryz.prog 35 [.e (.agg [sC (p0.fVersions.map Al), sC (p0.fNow.map Al), sC (p0.fTarget.map Al), sC (p0.fTables.map Ar)])] [] (iD r) := by
 unfold CO at h
 refine Au (n := 102) (rs := [.tmp 2]) Tryz.func35 rfl rfl rfl (A7 rfl) (A7 rfl) rfl fun w0 S0 => ?_
 refine Ab (Aa Ac rfl (qb rfl (qa rfl (Ae (Ab ?_)))))
 refine AO h (fun v1 => mk [(1, oD (.ptr 1 0)), (16, bD v1)] [(1, .box [sC (p0.fVersions.map Al), sC (p0.fNow.map Al), sC (p0.fTarget.map Al), sC (p0.fTables.map Ar)])]) (fun j1 h => ?_) (fun v1 h => ?_)
 ·refine Aa Ac rfl (qf BH rfl (ql Bu rfl (AX AM rfl (Ey rfl (qm rfl ?_)))))
  refine AF (t := 11) rfl (fun c2 => ?_) (fun c2 => ?_)
  ·have h := An c2 h
   refine qn rfl (qn rfl (qn rfl (qn rfl (qp rfl (Ae ?_)))))
   exact As _ h (sm [] _ _ rfl rfl)
  ·have h := Ao c2 h
   refine qf Df rfl (ql H0 rfl (AX Ez rfl (Ey rfl (qp rfl (Ae ?_)))))
   exact As _ h (sm [] _ _ rfl rfl)
 ·refine Ap rfl (fun c3 => ?_) (fun c3 => ?_)
  ·have h := An c3 h
   refine Ab (Aa Ac rfl (qa rfl (Ae ?_)))
   obtain rfl := sj h
   refine Am (sm [] [(2, iD 3)] [] rfl rfl) (Az ?_)
   exact ⟨⟨[_], ⟨.tmp _ _ rfl, tv⟩, rfl⟩, tv⟩
  ·have h := Ao c3 h
   refine Aq (Ab ?_)
   refine AO h (fun v4 => mk [(1, oD (.ptr 1 0)), (32, bD v4)] [(1, .box [sC (p0.fVersions.map Al), sC (p0.fNow.map Al), sC (p0.fTarget.map Al), sC (p0.fTables.map Ar)])]) (fun j4 h => ?_) (fun v4 h => ?_)
   ·refine Aa Ac rfl (qf Ie rfl (ql Bu rfl (AX AM rfl (qf BH rfl (ql Bu rfl (AX AM rfl (B3 rfl (qm rfl ?_))))))))
    refine AF (t := 24) rfl (fun c5 => ?_) (fun c5 => ?_)
    ·have h := An c5 h
     refine qn rfl (qn rfl (qn rfl (qn rfl (qn rfl (qn rfl (qn rfl (qp rfl (Ae ?_))))))))
     exact As _ h (sm [] _ _ rfl rfl)
    ·have h := Ao c5 h
     refine qf IK rfl (ql Bu rfl (AX AM rfl (qf BH rfl (ql Bu rfl (AX AM rfl (B3 rfl (qp rfl (Ae ?_))))))))
     exact As _ h (sm [] _ _ rfl rfl)
   ·refine Ap rfl (fun c6 => ?_) (fun c6 => ?_)
    ·have h := An c6 h
     refine Ab (Aa Ac rfl (qa rfl (Ae ?_)))
     obtain rfl := sj h
     refine Am (sm [] [(2, iD 6)] [] rfl rfl) (Az ?_)
     exact ⟨⟨[_], ⟨.tmp _ _ rfl, tv⟩, rfl⟩, tv⟩
    ·have h := Ao c6 h
     refine Aq (Ab (Ab (Aa Ac rfl (qa rfl (Ae ?_)))))
     refine AE (L := Bz N p0) h (fun v7 => mk [(1, oD (.ptr 1 0)), (3, iD v7)] [(1, .box [sC (p0.fVersions.map Al), sC (p0.fNow.map Al), sC (p0.fTarget.map Al), sC (p0.fTables.map Ar)])]) (fun v8 => mk [(1, oD (.ptr 1 0))] [(1, .box [sC (p0.fVersions.map Al), sC (p0.fNow.map Al), sC (p0.fTarget.map Al), sC (p0.fTables.map Ar)])]) (fun _ _ => rfl) (sm [] _ _ rfl rfl) (fun j7 n7 v7 h => ?_) (fun v8 s h hs => ?_)
     ·unfold Bz at h
      refine Ab (Ab (Aa Ac rfl (qm rfl (qf BH rfl (ql Bu rfl (AX AM rfl (AV rfl (Ae ?_))))))))
      refine Ap rfl (fun c9 => ?_) (fun c9 => ?_)
      ·have h := An c9 h
       refine Aq (Ab (AJ (Ab (Aa Ac rfl (qf BH rfl (ql Bu rfl (qm rfl ?_)))))))
       obtain ⟨v10, a10, b10, h⟩ := Ai h
       refine qi AM Dw a10 (Af b10) rfl (qk B6 rfl (qa rfl (Ae ?_)))
       refine AO h (fun v11 => mk [(1, oD (.ptr 1 0)), (3, iD v7), (84, bD v11)] [(1, .box [sC (p0.fVersions.map Al), sC (p0.fNow.map Al), sC (p0.fTarget.map Al), sC (p0.fTables.map Ar)])]) (fun j11 h => ?_) (fun v11 h => ?_)
       ·refine Aa Ac rfl (qm rfl (AV rfl (qm rfl ?_)))
        refine AF (t := 47) rfl (fun c12 => ?_) (fun c12 => ?_)
        ·have h := An c12 h
         refine qn rfl (qn rfl (qp rfl (qm rfl (qn rfl (qn rfl (qn rfl (qn rfl (qn rfl (qn rfl (qp rfl (qm rfl (qn rfl (qn rfl (qn rfl (qn rfl (qn rfl (qn rfl (qn rfl (qp rfl (qm rfl (qn rfl (qn rfl (qn rfl (qn rfl (qn rfl (qn rfl (qp rfl (qm rfl (qn rfl (qn rfl (qn rfl (qn rfl (qn rfl (qn rfl (qn rfl (qp rfl (Ae ?_)))))))))))))))))))))))))))))))))))))
         exact As _ h (sm [] _ _ rfl rfl)
        ·have h := Ao c12 h
         refine qm rfl (Ey rfl (qp rfl (qm rfl ?_)))
         refine AF (t := 51) rfl (fun c13 => ?_) (fun c13 => ?_)
         ·have h := An c13 h
          refine qn rfl (qn rfl (qn rfl (qn rfl (qn rfl (qn rfl (qp rfl (qm rfl (qn rfl (qn rfl (qn rfl (qn rfl (qn rfl (qn rfl (qn rfl (qp rfl (qm rfl (qn rfl (qn rfl (qn rfl (qn rfl (qn rfl (qn rfl (qp rfl (qm rfl (qn rfl (qn rfl (qn rfl (qn rfl (qn rfl (qn rfl (qn rfl (qp rfl (Ae ?_)))))))))))))))))))))))))))))))))
          exact As _ h (sm [] _ _ rfl rfl)
         ·have h := Ao c13 h
          refine qf Ie rfl (ql Bu rfl (qm rfl ?_))
          obtain ⟨v14, a14, b14, h⟩ := Ai h
          refine qi AM Dw a14 (Af b14) rfl (qk B6 rfl (AV rfl (qp rfl (qm rfl ?_))))
          refine AF (t := 59) rfl (fun c15 => ?_) (fun c15 => ?_)
          ·have h := An c15 h
           refine qn rfl (qn rfl (qn rfl (qn rfl (qn rfl (qn rfl (qn rfl (qp rfl (qm rfl (qn rfl (qn rfl (qn rfl (qn rfl (qn rfl (qn rfl (qp rfl (qm rfl (qn rfl (qn rfl (qn rfl (qn rfl (qn rfl (qn rfl (qn rfl (qp rfl (Ae ?_)))))))))))))))))))))))))
           exact As _ h (sm [] _ _ rfl rfl)
          ·have h := Ao c15 h
           refine qf Ie rfl (ql Bu rfl (qm rfl ?_))
           obtain ⟨v16, a16, b16, h⟩ := Ai h
           refine qi AM Dw a16 (Af b16) rfl (qk B6 rfl (qm rfl (Cz rfl (qp rfl (qm rfl ?_)))))
           refine AF (t := 68) rfl (fun c17 => ?_) (fun c17 => ?_)
           ·have h := An c17 h
            refine qn rfl (qn rfl (qn rfl (qn rfl (qn rfl (qn rfl (qp rfl (qm rfl (qn rfl (qn rfl (qn rfl (qn rfl (qn rfl (qn rfl (qn rfl (qp rfl (Ae ?_))))))))))))))))
            exact As _ h (sm [] _ _ rfl rfl)
           ·have h := Ao c17 h
            refine qf IK rfl (ql Bu rfl (qm rfl ?_))
            obtain ⟨v18, a18, b18, h⟩ := Ai h
            refine qi AM Dw a18 (Af b18) rfl (qk B6 rfl (AV rfl (qp rfl (qm rfl ?_))))
            refine AF (t := 76) rfl (fun c19 => ?_) (fun c19 => ?_)
            ·have h := An c19 h
             refine qn rfl (qn rfl (qn rfl (qn rfl (qn rfl (qn rfl (qn rfl (qp rfl (Ae ?_))))))))
             exact As _ h (sm [] _ _ rfl rfl)
            ·have h := Ao c19 h
             refine qf IK rfl (ql Bu rfl (qm rfl ?_))
             obtain ⟨v20, a20, b20, h⟩ := Ai h
             refine qi AM Dw a20 (Af b20) rfl (qk B6 rfl (qm rfl (Cz rfl (qp rfl (Ae ?_)))))
             exact As _ h (sm [] _ _ rfl rfl)
       ·refine Ap rfl (fun c21 => ?_) (fun c21 => ?_)
        ·have h := An c21 h
         refine Ab (Aa Ac rfl (qa rfl (Ae ?_)))
         obtain rfl := sj h
         refine Am (sm [] [(2, iD 7)] [] rfl rfl) (Az ?_)
         exact ⟨⟨[_], ⟨.tmp _ _ rfl, tv⟩, rfl⟩, tv⟩
        ·have h := Ao c21 h
         refine Aq (Aa Ac rfl (qm rfl (AP rfl (qa rfl (Ae ?_)))))
         exact As _ h (sm [] _ _ rfl rfl)
      ·have h := Ao c9 h
       refine AT ?_
       exact As _ h (sm [] _ _ rfl rfl)
     ·refine Am hs (Ab (Ab (Aa Ac rfl (qa rfl (Ae ?_)))))
      refine AE (L := By N p0) h (fun v22 => mk [(1, oD (.ptr 1 0)), (5, iD v22)] [(1, .box [sC (p0.fVersions.map Al), sC (p0.fNow.map Al), sC (p0.fTarget.map Al), sC (p0.fTables.map Ar)])]) (fun v23 => mk [] []) (fun _ _ => rfl) (sm [] _ _ rfl rfl) (fun j22 n22 v22 h => ?_) (fun v23 s h hs => ?_)
      ·unfold By at h
       refine Ab (Ab (Aa Ac rfl (qm rfl (qf Df rfl (ql H0 rfl (AX Ez rfl (AV rfl (Ae ?_))))))))
       refine Ap rfl (fun c24 => ?_) (fun c24 => ?_)
       ·have h := An c24 h
        refine Aq (Ab (AJ (Ab (Aa Ac rfl (qL DO Dv rfl (qf Df rfl (ql H0 rfl (qm rfl ?_))))))))
        obtain ⟨v25, a25, b25, h⟩ := Ai h
        refine qi Ez Eu a25 (Af b25) rfl (qK H1 Eu rfl ?_)
        obtain ⟨v26, a26, h⟩ := bind_some h
        refine AG [] (Lp N p0 v25 v26 a26) Z7 rfl (qa rfl (AB (by kernel_rfl) (Ab (Aa Ac rfl (qm rfl (B3 rfl (Ae ?_)))))))
        refine Ap rfl (fun c27 => ?_) (fun c27 => ?_)
        ·have h := An c27 h
         refine Ab (Aa Ac rfl (qm rfl (qa rfl (Ae ?_))))
         obtain rfl := sj h
         refine Am (sm [] [(2, iD v26)] [] rfl rfl) (Az ?_)
         exact ⟨⟨[_], ⟨.tmp _ _ rfl, tv⟩, rfl⟩, tv⟩
        ·have h := Ao c27 h
         refine Aq (Aa Ac rfl (qm rfl (AP rfl (qa rfl (Ae ?_)))))
         exact As _ h (sm [] _ _ rfl rfl)
       ·have h := Ao c24 h
        refine AT ?_
        exact As _ h (sm [] _ _ rfl rfl)
      ·refine Am hs (Ab (Aa Ac rfl (qa rfl (Ae ?_))))
       obtain rfl := sj h
       refine Am (sm [] [(2, iD 0)] [] rfl rfl) (Az ?_)
       exact ⟨⟨[_], ⟨.tmp _ _ rfl, tv⟩, rfl⟩, tv⟩
theorem GZ (N : Nat) (p0 : Ak) (p1 : Ah) (r : Int) (h : Dm N p0 p1 = some r) : AC Tryz.prog 82 [.e (.agg [sC (p0.fVersions.map Al), sC (p0.fNow.map Al), sC (p0.fTarget.map Al), sC (p0.fTables.map Ar)]), .e (.agg [sC (p1.fBase.map Al), sC (p1.fNext.map Al), sC (p1.fHeld.map Bj)])] [] (iD r) := by
 unfold Dm at h
 refine Au (n := 154) (rs := [.tmp 4]) Tryz.func82 rfl rfl rfl (A7 rfl) (A7 rfl) rfl fun w0 S0 => ?_
 refine Ab (Aa Ac rfl (qb rfl (qb rfl (qa rfl (Ae (Ab (Ab (Aa Ac rfl (qL DO Dv rfl ?_)))))))))
 obtain ⟨v1, a1, h⟩ := bind_some h
 refine AG [] (Gv N p0 v1 a1) YJ rfl (qa rfl (Ae (Ab (Aa Ac rfl (qm rfl (B3 rfl (Ae ?_)))))))
 refine Ap rfl (fun c2 => ?_) (fun c2 => ?_)
 ·have h := An c2 h
  refine Ab (Aa Ac rfl (qm rfl (qa rfl (Ae ?_))))
  obtain rfl := sj h
  refine Am (sm [] [(4, iD v1)] [] rfl rfl) (Az ?_)
  exact ⟨⟨[_], ⟨.tmp _ _ rfl, tv⟩, rfl⟩, tv⟩
 ·have h := Ao c2 h
  refine Aq (Ab (Aa Ac rfl (qf BH rfl (ql Bu rfl (AX AM rfl (qa rfl (Ae (Ab ?_))))))))
  refine AO h (fun v3 => mk [(2, oD (.ptr 2 0)), (3, oD (.ptr 3 0)), (6, iD ((p0.fVersions.length : Int))), (39, bD v3)] [(2, .box [sC (p0.fVersions.map Al), sC (p0.fNow.map Al), sC (p0.fTarget.map Al), sC (p0.fTables.map Ar)]), (3, .box [sC (p1.fBase.map Al), sC (p1.fNext.map Al), sC (p1.fHeld.map Bj)])]) (fun j3 h => ?_) (fun v3 h => ?_)
  ·refine Aa Ac rfl (qf CY rfl (ql Bu rfl (AX AM rfl (qm rfl (B3 rfl (qm rfl ?_))))))
   refine AF (t := 24) rfl (fun c4 => ?_) (fun c4 => ?_)
   ·have h := An c4 h
    refine qn rfl (qn rfl (qn rfl (qn rfl (qn rfl (qp rfl (qm rfl (qn rfl (qn rfl (qn rfl (qn rfl (qn rfl (qn rfl (qn rfl (qp rfl (Ae ?_)))))))))))))))
    exact As _ h (sm [] _ _ rfl rfl)
   ·have h := Ao c4 h
    refine qf BJ rfl (ql Bu rfl (AX AM rfl (qm rfl (B3 rfl (qp rfl (qm rfl ?_))))))
    refine AF (t := 31) rfl (fun c5 => ?_) (fun c5 => ?_)
    ·have h := An c5 h
     refine qn rfl (qn rfl (qn rfl (qn rfl (qn rfl (qn rfl (qn rfl (qp rfl (Ae ?_))))))))
     exact As _ h (sm [] _ _ rfl rfl)
    ·have h := Ao c5 h
     refine qf CS rfl (ql G4 rfl (AX Dg rfl (qf Df rfl (ql H0 rfl (AX Ez rfl (B3 rfl (qp rfl (Ae ?_))))))))
     exact As _ h (sm [] _ _ rfl rfl)
  ·refine Ap rfl (fun c6 => ?_) (fun c6 => ?_)
   ·have h := An c6 h
    refine Ab (Aa Ac rfl (qa rfl (Ae ?_)))
    obtain rfl := sj h
    refine Am (sm [] [(4, iD 6)] [] rfl rfl) (Az ?_)
    exact ⟨⟨[_], ⟨.tmp _ _ rfl, tv⟩, rfl⟩, tv⟩
   ·have h := Ao c6 h
    refine Aq (Ab (Ab (Aa Ac rfl (qa rfl (Ae ?_)))))
    refine AE (L := Co N p0 p1) h (fun v7 => mk [(2, oD (.ptr 2 0)), (3, oD (.ptr 3 0)), (6, iD ((p0.fVersions.length : Int))), (7, iD v7)] [(2, .box [sC (p0.fVersions.map Al), sC (p0.fNow.map Al), sC (p0.fTarget.map Al), sC (p0.fTables.map Ar)]), (3, .box [sC (p1.fBase.map Al), sC (p1.fNext.map Al), sC (p1.fHeld.map Bj)])]) (fun v8 => mk [(2, oD (.ptr 2 0)), (3, oD (.ptr 3 0))] [(2, .box [sC (p0.fVersions.map Al), sC (p0.fNow.map Al), sC (p0.fTarget.map Al), sC (p0.fTables.map Ar)]), (3, .box [sC (p1.fBase.map Al), sC (p1.fNext.map Al), sC (p1.fHeld.map Bj)])]) (fun _ _ => rfl) (sm [] _ _ rfl rfl) (fun j7 n7 v7 h => ?_) (fun v8 s h hs => ?_)
    ·unfold Co at h
     refine Ab (Ab (Aa Ac rfl (qm rfl (qm rfl (AV rfl (Ae ?_))))))
     refine Ap rfl (fun c9 => ?_) (fun c9 => ?_)
     ·have h := An c9 h
      refine Aq (Ab (AJ (Ab ?_)))
      refine AO h (fun v10 => mk [(2, oD (.ptr 2 0)), (3, oD (.ptr 3 0)), (6, iD ((p0.fVersions.length : Int))), (7, iD v7), (84, bD v10)] [(2, .box [sC (p0.fVersions.map Al), sC (p0.fNow.map Al), sC (p0.fTarget.map Al), sC (p0.fTables.map Ar)]), (3, .box [sC (p1.fBase.map Al), sC (p1.fNext.map Al), sC (p1.fHeld.map Bj)])]) (fun j10 h => ?_) (fun v10 h => ?_)
      ·refine Aa Ac rfl (qf CY rfl (ql Bu rfl (qm rfl ?_)))
       obtain ⟨v11, a11, b11, h⟩ := Ai h
       refine qi AM Dw a11 (Af b11) rfl (qk B6 rfl (AV rfl (qm rfl ?_)))
       refine AF (t := 51) rfl (fun c12 => ?_) (fun c12 => ?_)
       ·have h := An c12 h
        refine qn rfl (qn rfl (qn rfl (qn rfl (qn rfl (qn rfl (qn rfl (qn rfl (qn rfl (qn rfl (qn rfl (qp rfl (qm rfl (qn rfl (qn rfl (qn rfl (qn rfl (qn rfl (qn rfl (qp rfl (qm rfl (qn rfl (qn rfl (qn rfl (qn rfl (qn rfl (qn rfl (qn rfl (qn rfl (qn rfl (qn rfl (qn rfl (qp rfl (AB (by kernel_rfl) ?_)))))))))))))))))))))))))))))))))
        exact As _ h (sm [] _ _ rfl rfl)
       ·have h := Ao c12 h
        refine qf CY rfl (ql Bu rfl (qm rfl ?_))
        obtain ⟨v13, a13, b13, h⟩ := Ai h
        refine qi AM Dw a13 (Af b13) rfl (qk B6 rfl (qf BH rfl (ql Bu rfl (qm rfl ?_))))
        obtain ⟨v14, a14, b14, h⟩ := Ai h
        refine qi AM Dw a14 (Af b14) rfl (qk B6 rfl (Cz rfl (qp rfl (qm rfl ?_))))
        refine AF (t := 64) rfl (fun c15 => ?_) (fun c15 => ?_)
        ·have h := An c15 h
         refine qn rfl (qn rfl (qn rfl (qn rfl (qn rfl (qn rfl (qp rfl (qm rfl (qn rfl (qn rfl (qn rfl (qn rfl (qn rfl (qn rfl (qn rfl (qn rfl (qn rfl (qn rfl (qn rfl (qp rfl (AB (by kernel_rfl) ?_))))))))))))))))))))
         exact As _ h (sm [] _ _ rfl rfl)
        ·have h := Ao c15 h
         refine qf BJ rfl (ql Bu rfl (qm rfl ?_))
         obtain ⟨v16, a16, b16, h⟩ := Ai h
         refine qi AM Dw a16 (Af b16) rfl (qk B6 rfl (AV rfl (qp rfl (qm rfl ?_))))
         refine AF (t := 72) rfl (fun c17 => ?_) (fun c17 => ?_)
         ·have h := An c17 h
          refine qn rfl (qn rfl (qn rfl (qn rfl (qn rfl (qn rfl (qn rfl (qn rfl (qn rfl (qn rfl (qn rfl (qp rfl (AB (by kernel_rfl) ?_))))))))))))
          exact As _ h (sm [] _ _ rfl rfl)
         ·have h := Ao c17 h
          refine qf BJ rfl (ql Bu rfl (qm rfl ?_))
          obtain ⟨v18, a18, b18, h⟩ := Ai h
          refine qi AM Dw a18 (Af b18) rfl (qk B6 rfl (qf BH rfl (ql Bu rfl (qm rfl ?_))))
          obtain ⟨v19, a19, b19, h⟩ := Ai h
          refine qi AM Dw a19 (Af b19) rfl (qk B6 rfl (Cz rfl (qp rfl (AB (by kernel_rfl) ?_))))
          exact As _ h (sm [] _ _ rfl rfl)
      ·refine Ap rfl (fun c20 => ?_) (fun c20 => ?_)
       ·have h := An c20 h
        refine Ab (Aa Ac rfl (qa rfl (Ae ?_)))
        obtain rfl := sj h
        refine Am (sm [] [(4, iD 7)] [] rfl rfl) (Az ?_)
        exact ⟨⟨[_], ⟨.tmp _ _ rfl, tv⟩, rfl⟩, tv⟩
       ·have h := Ao c20 h
        refine Aq (Ab (Aa Ac rfl (qf CY rfl (ql Bu rfl (qm rfl ?_)))))
        obtain ⟨v21, a21, b21, h⟩ := Ai h
        refine qi AM Dw a21 (Af b21) rfl (qk B6 rfl (qf BJ rfl (ql Bu rfl (qm rfl ?_))))
        obtain ⟨v22, a22, b22, h⟩ := Ai h
        refine qi AM Dw a22 (Af b22) rfl (qk B6 rfl (BL rfl (AB (by kernel_rfl) ?_)))
        refine Ap rfl (fun c23 => ?_) (fun c23 => ?_)
        ·have h := An c23 h
         refine Ab (Aa Ac rfl (qa rfl (Ae ?_)))
         obtain rfl := sj h
         refine Am (sm [] [(4, iD 1)] [] rfl rfl) (Az ?_)
         exact ⟨⟨[_], ⟨.tmp _ _ rfl, tv⟩, rfl⟩, tv⟩
        ·have h := Ao c23 h
         refine Aq (Aa Ac rfl (qm rfl (AP rfl (qa rfl (Ae ?_)))))
         exact As _ h (sm [] _ _ rfl rfl)
     ·have h := Ao c9 h
      refine AT ?_
      exact As _ h (sm [] _ _ rfl rfl)
    ·refine Am hs (Ab (Ab (Aa Ac rfl (qa rfl (Ae ?_)))))
     refine AE (L := Cd N p0 p1) h (fun v24 => mk [(2, oD (.ptr 2 0)), (3, oD (.ptr 3 0)), (8, iD v24)] [(2, .box [sC (p0.fVersions.map Al), sC (p0.fNow.map Al), sC (p0.fTarget.map Al), sC (p0.fTables.map Ar)]), (3, .box [sC (p1.fBase.map Al), sC (p1.fNext.map Al), sC (p1.fHeld.map Bj)])]) (fun v25 => mk [] []) (fun _ _ => rfl) (sm [] _ _ rfl rfl) (fun j24 n24 v24 h => ?_) (fun v25 s h hs => ?_)
     ·unfold Cd at h
      refine Ab (Ab (Aa Ac rfl (qm rfl (qf Df rfl (ql H0 rfl (AX Ez rfl (AV rfl (Ae ?_))))))))
      refine Ap rfl (fun c26 => ?_) (fun c26 => ?_)
      ·have h := An c26 h
       refine Aq (Ab (AJ (Ab (Aa Ac rfl (qf Df rfl (ql H0 rfl (qm rfl ?_)))))))
       obtain ⟨v27, a27, b27, h⟩ := Ai h
       refine qi Ez Eu a27 (Af b27) rfl (qK H1 Eu rfl (qz Lq rfl (qs Eu rfl (Ae (Ab (Aa Ac rfl (qf BH rfl (ql Bu rfl (qf Dj rfl (ql B6 rfl ?_))))))))))
       obtain ⟨v28, a28, b28, h⟩ := Ai h
       refine qi AM Dw a28 (Af b28) rfl (qk B6 rfl ?_)
       obtain ⟨c29, h⟩ := AS h
       refine Il rfl c29 (Bk rfl (qa rfl (Ae ?_)))
       refine AO h (fun v30 => mk [(2, oD (.ptr 2 0)), (3, oD (.ptr 3 0)), (8, iD v24), (153, bD v30)] [(2, .box [sC (p0.fVersions.map Al), sC (p0.fNow.map Al), sC (p0.fTarget.map Al), sC (p0.fTables.map Ar)]), (3, .box [sC (p1.fBase.map Al), sC (p1.fNext.map Al), sC (p1.fHeld.map Bj)])]) (fun j30 h => ?_) (fun v30 h => ?_)
       ·refine Aa Ac rfl (qL H1 Eu rfl ?_)
        obtain ⟨v31, a31, h⟩ := bind_some h
        refine AG [] (Cy N v27 v31 a31) PJ rfl (BZ rfl (qm rfl ?_))
        refine AF (t := 119) rfl (fun c32 => ?_) (fun c32 => ?_)
        ·have h := An c32 h
         refine qf CS rfl (ql G4 rfl (qm rfl ?_))
         obtain ⟨v33, a33, b33, h⟩ := Ai h
         refine qi Dg FN a33 (Af b33) rfl (qk Kq rfl (B3 rfl (qp rfl (qm rfl ?_))))
         refine AF (t := 127) rfl (fun c34 => ?_) (fun c34 => ?_)
         ·have h := An c34 h
          refine qn rfl (qn rfl (qn rfl (qu rfl (qu rfl (qu rfl (qu rfl (qu rfl (qu rfl (qu rfl (qu rfl (qu rfl (qu rfl (qu rfl (qu rfl (qu rfl (qu rfl (qu rfl (qu rfl (qu rfl (qu rfl (qu rfl (qu rfl (qu rfl (qn rfl (qp rfl (AB (by kernel_rfl) ?_))))))))))))))))))))))))))
          exact As _ h (sm [] _ _ rfl rfl)
         ·have h := Ao c34 h
          refine qL H1 Eu rfl ?_
          obtain ⟨v35, a35, h⟩ := bind_some h
          refine AG [] (Cy N v27 v35 a35) PJ rfl (qm rfl ?_)
          refine AF (t := 130) rfl (fun c36 => ?_) (fun c36 => ?_)
          ·have h := An c36 h
           refine qf CS rfl (ql G4 rfl (qm rfl ?_))
           obtain ⟨v37, a37, b37, h⟩ := Ai h
           refine qi Dg FN a37 (Af b37) rfl (qk Kq rfl (qm rfl (IY rfl (B3 rfl (qm rfl ?_)))))
           refine AF (t := 139) rfl (fun c38 => ?_) (fun c38 => ?_)
           ·have h := An c38 h
            refine qn rfl (qn rfl (qn rfl (qn rfl (qn rfl (qn rfl (qn rfl (qn rfl (qn rfl (qn rfl (qn rfl (qp rfl (qp rfl (qp rfl (AB (by kernel_rfl) ?_))))))))))))))
            exact As _ h (sm [] _ _ rfl rfl)
           ·have h := Ao c38 h
            refine qL A9 AA rfl (qf Dj rfl (ql B6 rfl ?_))
            obtain ⟨v39, a39, h⟩ := bind_some h
            refine AG [] (DP N p1 v27.fFrom v39 a39) To rfl (qf CS rfl (ql G4 rfl (qm rfl ?_)))
            obtain ⟨v40, a40, b40, h⟩ := Ai h
            refine qi Dg FN a40 (Af b40) rfl (qk Kq rfl (IY rfl (B3 rfl (qp rfl (qp rfl (qp rfl (AB (by kernel_rfl) ?_)))))))
            exact As _ h (sm [] _ _ rfl rfl)
          ·have h := Ao c36 h
           refine qn rfl (qn rfl (qn rfl (qn rfl (qn rfl (qn rfl (qn rfl (qn rfl (qn rfl (qu rfl (qu rfl (qu rfl (qu rfl (qu rfl (qu rfl (qu rfl (qu rfl (qu rfl (qu rfl (qu rfl (qn rfl (qp rfl (qp rfl (AB (by kernel_rfl) ?_)))))))))))))))))))))))
           exact As _ h (sm [] _ _ rfl rfl)
        ·have h := Ao c32 h
         refine qn rfl (qn rfl (qn rfl (qn rfl (qn rfl (qn rfl (qp rfl (qm rfl (qL H1 Eu rfl ?_))))))))
         obtain ⟨v41, a41, h⟩ := bind_some h
         refine AG [] (Cy N v27 v41 a41) PJ rfl (qm rfl ?_)
         refine AF (t := 130) rfl (fun c42 => ?_) (fun c42 => ?_)
         ·have h := An c42 h
          refine qf CS rfl (ql G4 rfl (qm rfl ?_))
          obtain ⟨v43, a43, b43, h⟩ := Ai h
          refine qi Dg FN a43 (Af b43) rfl (qk Kq rfl (qm rfl (IY rfl (B3 rfl (qm rfl ?_)))))
          refine AF (t := 139) rfl (fun c44 => ?_) (fun c44 => ?_)
          ·have h := An c44 h
           refine qn rfl (qn rfl (qn rfl (qn rfl (qn rfl (qn rfl (qn rfl (qn rfl (qn rfl (qn rfl (qn rfl (qp rfl (qp rfl (qp rfl (AB (by kernel_rfl) ?_))))))))))))))
           exact As _ h (sm [] _ _ rfl rfl)
          ·have h := Ao c44 h
           refine qL A9 AA rfl (qf Dj rfl (ql B6 rfl ?_))
           obtain ⟨v45, a45, h⟩ := bind_some h
           refine AG [] (DP N p1 v27.fFrom v45 a45) To rfl (qf CS rfl (ql G4 rfl (qm rfl ?_)))
           obtain ⟨v46, a46, b46, h⟩ := Ai h
           refine qi Dg FN a46 (Af b46) rfl (qk Kq rfl (IY rfl (B3 rfl (qp rfl (qp rfl (qp rfl (AB (by kernel_rfl) ?_)))))))
           exact As _ h (sm [] _ _ rfl rfl)
         ·have h := Ao c42 h
          refine qn rfl (qn rfl (qn rfl (qn rfl (qn rfl (qn rfl (qn rfl (qn rfl (qn rfl (qu rfl (qu rfl (qu rfl (qu rfl (qu rfl (qu rfl (qu rfl (qu rfl (qu rfl (qu rfl (qu rfl (qn rfl (qp rfl (qp rfl (AB (by kernel_rfl) ?_)))))))))))))))))))))))
          exact As _ h (sm [] _ _ rfl rfl)
       ·refine Ap rfl (fun c47 => ?_) (fun c47 => ?_)
        ·have h := An c47 h
         refine Ab (Aa Ac rfl (qa rfl (Ae ?_)))
         obtain rfl := sj h
         refine Am (sm [] [(4, iD 1)] [] rfl rfl) (Az ?_)
         exact ⟨⟨[_], ⟨.tmp _ _ rfl, tv⟩, rfl⟩, tv⟩
        ·have h := Ao c47 h
         refine Aq (Aa Ac rfl (qm rfl (AP rfl (qa rfl (Ae ?_)))))
         exact As _ h (sm [] _ _ rfl rfl)
      ·have h := Ao c26 h
       refine AT ?_
       exact As _ h (sm [] _ _ rfl rfl)
     ·refine Am hs (Ab (Aa Ac rfl (qa rfl (Ae ?_))))
      obtain rfl := sj h
      refine Am (sm [] [(4, iD 0)] [] rfl rfl) (Az ?_)
      exact ⟨⟨[_], ⟨.tmp _ _ rfl, tv⟩, rfl⟩, tv⟩
theorem Lt (N : Nat) (p0 : Ak) (p1 : List Ah) (r : Int) (h : EF N p0 p1 = some r) : AC Tryz.prog 56 [.e (.agg [sC (p0.fVersions.map Al), sC (p0.fNow.map Al), sC (p0.fTarget.map Al), sC (p0.fTables.map Ar)]), pD (.sl (p1.map Aj))] [] (iD r) := by
 unfold EF at h
 refine Au (n := 28) (rs := [.tmp 4]) Tryz.func56 rfl rfl rfl (A7 rfl) (A7 rfl) rfl fun w0 S0 => ?_
 refine Ab (Aa Ac rfl (qb rfl (qa rfl (Ae (Ab (Ab (Aa Ac rfl (qL DO Dv rfl ?_))))))))
 obtain ⟨v1, a1, h⟩ := bind_some h
 refine AG [] (Gv N p0 v1 a1) YJ rfl (qa rfl (Ae (Ab (Aa Ac rfl (qm rfl (B3 rfl (Ae ?_)))))))
 refine Ap rfl (fun c2 => ?_) (fun c2 => ?_)
 ·have h := An c2 h
  refine Ab (Aa Ac rfl (qm rfl (qa rfl (Ae ?_))))
  obtain rfl := sj h
  refine Am (sm [] [(4, iD v1)] [] rfl rfl) (Az ?_)
  exact ⟨⟨[_], ⟨.tmp _ _ rfl, tv⟩, rfl⟩, tv⟩
 ·have h := Ao c2 h
  refine Aq (Ab (Ab (Aa Ac rfl (qa rfl (Ae ?_)))))
  refine AE (L := Cp N p0 p1) h (fun v3 => mk [(1, pD (.sl (p1.map Aj))), (2, oD (.ptr 2 0)), (6, iD v3)] [(2, .box [sC (p0.fVersions.map Al), sC (p0.fNow.map Al), sC (p0.fTarget.map Al), sC (p0.fTables.map Ar)])]) (fun v4 => mk [] []) (fun _ _ => rfl) (sm [] _ _ rfl rfl) (fun j3 n3 v3 h => ?_) (fun v4 s h hs => ?_)
  ·unfold Cp at h
   refine Ab (Ab (Aa Ac rfl (qm rfl (qm rfl (AX A3 rfl (AV rfl (Ae ?_)))))))
   refine Ap rfl (fun c5 => ?_) (fun c5 => ?_)
   ·have h := An c5 h
    refine Aq (Ab (AJ (Ab (Aa Ac rfl (qL DO Dv rfl (qm rfl (qm rfl ?_)))))))
    obtain ⟨v6, a6, b6, h⟩ := Ai h
    refine qi A3 AA a6 (Af b6) rfl (qK A9 AA rfl ?_)
    obtain ⟨v7, a7, h⟩ := bind_some h
    refine AG [] (GZ N p0 v6 v7 a7) Xt rfl (qa rfl (AB (by kernel_rfl) (Ab (Aa Ac rfl (qm rfl (B3 rfl (Ae ?_)))))))
    refine Ap rfl (fun c8 => ?_) (fun c8 => ?_)
    ·have h := An c8 h
     refine Ab (Aa Ac rfl (qm rfl (qa rfl (Ae ?_))))
     obtain rfl := sj h
     refine Am (sm [] [(4, iD v7)] [] rfl rfl) (Az ?_)
     exact ⟨⟨[_], ⟨.tmp _ _ rfl, tv⟩, rfl⟩, tv⟩
    ·have h := Ao c8 h
     refine Aq (Aa Ac rfl (qm rfl (AP rfl (qa rfl (Ae ?_)))))
     exact As _ h (sm [] _ _ rfl rfl)
   ·have h := Ao c5 h
    refine AT ?_
    exact As _ h (sm [] _ _ rfl rfl)
  ·refine Am hs (Ab (Aa Ac rfl (qa rfl (Ae ?_))))
   obtain rfl := sj h
   refine Am (sm [] [(4, iD 0)] [] rfl rfl) (Az ?_)
   exact ⟨⟨[_], ⟨.tmp _ _ rfl, tv⟩, rfl⟩, tv⟩
theorem Ll (N : Nat) (p0 : Av) (r : Bool) (h : EC N p0 = some r) : AC Tryz.prog 143 [.e (.agg [iC p0.fKind, iC p0.fIndex, iC p0.fVersion])] [] (bD r) := by
 unfold EC at h
 refine Au (n := 31) (rs := [.tmp 2]) Tryz.func143 rfl rfl rfl (A7 rfl) (A7 rfl) rfl fun w0 S0 => ?_
 refine Ab (Aa Ac rfl (qb rfl (qa rfl (Ae ?_))))
 refine AO h (fun v1 => mk [(2, bD v1)] []) (fun j1 h => ?_) (fun v1 h => ?_)
 ·refine Aa Ac rfl (qf FX rfl (ql B6 rfl (Cz rfl (qm rfl ?_))))
  refine AF (t := 6) rfl (fun c2 => ?_) (fun c2 => ?_)
  ·have h := An c2 h
   refine qf FX rfl (ql B6 rfl (H3 rfl (qp rfl (qm rfl ?_))))
   refine AF (t := 11) rfl (fun c3 => ?_) (fun c3 => ?_)
   ·have h := An c3 h
    refine qf Fe rfl (ql B6 rfl (Cz rfl (qp rfl (qm rfl ?_))))
    refine AF (t := 16) rfl (fun c4 => ?_) (fun c4 => ?_)
    ·have h := An c4 h
     refine qf Hj rfl (ql B6 rfl (Cz rfl (qp rfl (qm rfl ?_))))
     refine AF (t := 21) rfl (fun c5 => ?_) (fun c5 => ?_)
     ·have h := An c5 h
      refine qf FX rfl (ql B6 rfl (BL rfl (qm rfl ?_)))
      refine AF (t := 25) rfl (fun c6 => ?_) (fun c6 => ?_)
      ·have h := An c6 h
       refine qn rfl (qn rfl (qn rfl (qp rfl (qp rfl (qa rfl (Ae ?_))))))
       exact As _ h (sm [] _ _ rfl rfl)
      ·have h := Ao c6 h
       refine qf Hj rfl (ql B6 rfl (BL rfl (qp rfl (qp rfl (qa rfl (Ae ?_))))))
       exact As _ h (sm [] _ _ rfl rfl)
     ·have h := Ao c5 h
      refine qn rfl (qn rfl (qn rfl (qn rfl (qu rfl (qu rfl (qu rfl (qn rfl (qp rfl (qa rfl (Ae ?_))))))))))
      exact As _ h (sm [] _ _ rfl rfl)
    ·have h := Ao c4 h
     refine qn rfl (qn rfl (qn rfl (qp rfl (qm rfl (qn rfl (qn rfl (qn rfl (qn rfl (qu rfl (qu rfl (qu rfl (qn rfl (qp rfl (qa rfl (Ae ?_)))))))))))))))
     exact As _ h (sm [] _ _ rfl rfl)
   ·have h := Ao c3 h
    refine qn rfl (qn rfl (qn rfl (qp rfl (qm rfl (qn rfl (qn rfl (qn rfl (qp rfl (qm rfl (qn rfl (qn rfl (qn rfl (qn rfl (qu rfl (qu rfl (qu rfl (qn rfl (qp rfl (qa rfl (Ae ?_))))))))))))))))))))
    exact As _ h (sm [] _ _ rfl rfl)
  ·have h := Ao c2 h
   refine qn rfl (qn rfl (qn rfl (qp rfl (qm rfl (qn rfl (qn rfl (qn rfl (qp rfl (qm rfl (qn rfl (qn rfl (qn rfl (qp rfl (qm rfl (qn rfl (qn rfl (qn rfl (qn rfl (qu rfl (qu rfl (qu rfl (qn rfl (qp rfl (qa rfl (Ae ?_)))))))))))))))))))))))))
   exact As _ h (sm [] _ _ rfl rfl)
 ·obtain rfl := sj h
  refine Am (sm [] [(2, bD v1)] [] rfl rfl) (Az ?_)
  exact ⟨⟨[_], ⟨.tmp _ _ rfl, tv⟩, rfl⟩, tv⟩
theorem Gi (N : Nat) (p0 : Int) (p1 : Int) (r : Bool) (h : CK N p0 p1 = some r) : AC Tryz.prog 114 [pD (.val (.int .u8 p0)), iD p1] [] (bD r) := by
 unfold CK at h
 refine Au (n := 10) (rs := [.tmp 4]) Tryz.func114 rfl rfl rfl (A7 rfl) (A7 rfl) rfl fun w0 S0 => ?_
 refine Ab (Aa Ac rfl (qa rfl (Ae (Ab (Aa Ac rfl (qm rfl (qm rfl ?_)))))))
 obtain ⟨c1, h⟩ := AS h
 refine Hz rfl c1 (KJ rfl (BL rfl (qa rfl (Ae ?_))))
 obtain rfl := sj h
 refine Am (sm [] [(4, bD (((Fq .u8 ((El .u8 p0 p1)) 1) == 1)))] [] rfl rfl) (Az ?_)
 exact ⟨⟨[_], ⟨.tmp _ _ rfl, tv⟩, rfl⟩, tv⟩
theorem IA (N : Nat) (p0 : Ak) (p1 : Ah) (p2 : Av) (r : Ah × Bool) (h : C2 N p0 p1 p2 = some r) : AC Tryz.prog 73 [.e (.agg [sC (p0.fVersions.map Al), sC (p0.fNow.map Al), sC (p0.fTarget.map Al), sC (p0.fTables.map Ar)]), .e (.agg [sC (p1.fBase.map Al), sC (p1.fNext.map Al), sC (p1.fHeld.map Bj)]), .e (.agg [iC p2.fKind, iC p2.fIndex, iC p2.fVersion])] [(1, r.1.fBase.map Al), (1, r.1.fNext.map Al), (1, r.1.fHeld.map Bj)] (.tup [.agg [.own 0, .own 1, .own 2], .one (.pure (.val (.bool r.2)))]) := by
 unfold C2 at h
 refine Au (n := 201) (rs := [.cell 6 46, .tmp 7]) Tryz.func73 rfl rfl rfl (A7 rfl) (A7 rfl) rfl fun w0 S0 => ?_
 refine Ab (Aa Ac rfl (qb rfl (qb rfl (qb rfl (qz CI rfl (qa rfl (Ae (Ab (Aa Ac rfl (D8 AM Dw Kv rfl (qf CY rfl (ql Bu rfl ?_))))))))))))
 obtain ⟨c1, h⟩ := AS h
 refine JG (f := Al) AM AM Dw MQ Kv (fun _ => rfl) c1 rfl (D8 AM Dw Kv rfl (qf BJ rfl (ql Bu rfl ?_)))
 obtain ⟨c2, h⟩ := AS h
 refine JG (f := Al) AM AM Dw MQ Kv (fun _ => rfl) c2 rfl (D8 Dg FN OB rfl (qf CS rfl (ql G4 rfl ?_)))
 obtain ⟨c3, h⟩ := AS h
 refine JG (f := Bj) Dg Dg FN Ro OB (fun _ => rfl) c3 rfl (Bw CI G5 rfl (qz CI rfl (qs AA rfl (AB (by kernel_rfl) (Ab (Aa Ac rfl (qf Fe rfl (ql B6 rfl (qa rfl (Ae ?_))))))))))
 refine AO h (fun v4 => mk [(6, oD (.ptr 6 0)), (8, oD (.ptr 8 0))] [(6, .box [.pure (.nil0), .pure (.nil0), .pure (.nil0)]), (8, .box [.own 2001, .own 2002, .own 2003]), (2001, .vec 1 (v4.1.map Al)), (2002, .vec 1 (v4.2.1.map Al)), (2003, .vec 1 (v4.2.2.map Bj))]) (fun j4 h => ?_) (fun v4 h => ?_)
 ·refine Ab (Aa Ac rfl (qf FX rfl (ql B6 rfl (Ae (AJ (Ab (Aa Ac rfl (BL rfl (qa rfl (Ae ?_))))))))))
  refine Ap rfl (fun c5 => ?_) (fun c5 => ?_)
  ·have h := An c5 h
   refine Ab ?_
   refine AO h (fun v6 => mk [(3, oD (.ptr 3 0)), (5, oD (.ptr 5 0)), (6, oD (.ptr 6 0)), (8, oD (.ptr 8 0)), (9, iD p2.fIndex), (60, bD v6)] [(3, .box [sC (p0.fVersions.map Al), sC (p0.fNow.map Al), sC (p0.fTarget.map Al), sC (p0.fTables.map Ar)]), (5, .box [iC p2.fKind, iC p2.fIndex, iC p2.fVersion]), (6, .box [.pure (.nil0), .pure (.nil0), .pure (.nil0)]), (8, .box [.own 2004, .own 2005, .own 2006]), (2004, .vec 1 (((([] : List Int)) ++ p1.fBase).map Al)), (2005, .vec 1 (((([] : List Int)) ++ p1.fNext).map Al)), (2006, .vec 1 (((([] : List Int)) ++ p1.fHeld).map Bj))]) (fun j6 h => ?_) (fun v6 h => ?_)
   ·refine Aa Ac rfl (qf BJ rfl (ql Bu rfl (qm rfl ?_)))
    obtain ⟨v7, a7, b7, h⟩ := Ai h
    refine qi AM Dw a7 (Af b7) rfl (qk B6 rfl (Cz rfl (qm rfl ?_)))
    refine AF (t := 51) rfl (fun c8 => ?_) (fun c8 => ?_)
    ·have h := An c8 h
     refine qn rfl (qn rfl (qn rfl (qn rfl (qn rfl (qn rfl (qn rfl (qn rfl (qp rfl (AB (by kernel_rfl) ?_)))))))))
     exact As _ h (sm [(2004, 18), (2005, 22), (2006, 26)] _ _ rfl rfl)
    ·have h := Ao c8 h
     refine qf Hj rfl (ql B6 rfl (qf CY rfl (ql Bu rfl (qm rfl ?_))))
     obtain ⟨v9, a9, b9, h⟩ := Ai h
     refine qi AM Dw a9 (Af b9) rfl (qk B6 rfl (BL rfl (qp rfl (AB (by kernel_rfl) ?_))))
     exact As _ h (sm [(2004, 18), (2005, 22), (2006, 26)] _ _ rfl rfl)
   ·refine Ap rfl (fun c10 => ?_) (fun c10 => ?_)
    ·have h := An c10 h
     refine Ab (Aa Ac rfl (Bw CI G5 rfl (qs AA rfl (qa rfl (Ae ?_)))))
     obtain rfl := sj h
     refine Am ((AI 6 0 2007 1 _ rfl rfl rfl rfl).trans ((AI 6 1 2008 1 _ rfl rfl rfl rfl).trans ((AI 6 2 2009 1 _ rfl rfl rfl rfl).trans (sm [(1000, 2007), (1001, 2008), (1002, 2009)] [(6, oD (.ptr 6 0)), (7, bD false)] [(6, .box [.own 1000, .own 1001, .own 1002]), (1000, .vec 1 ((([] : List Int)).map Al)), (1001, .vec 1 ((([] : List Int)).map Al)), (1002, .vec 1 ((([] : List Int)).map Bj))] rfl rfl)))) (Az ?_)
     exact ⟨⟨[_, _], ⟨.cellN _ _ _ _ _ _ _ rfl rfl A9 AA rfl rfl (IM rfl), ⟨.tmp _ _ rfl, tv⟩⟩, rfl⟩, ⟨rfl, rfl, rfl, tv⟩⟩
    ·have h := Ao c10 h
     refine Aq (Ab (Aa Ac rfl (qf BJ rfl (ql Bu rfl (qm rfl (qf Hj rfl (ql B6 rfl ?_)))))))
     obtain ⟨v11, a11, b11, h⟩ := Ai h
     refine qI AM Dw a11 (Af b11) rfl ?_
     refine A0 rfl rfl rfl rfl (Af b11) rfl Dw rfl (A7 rfl) (AY Al ((([] : List Int)) ++ p1.fNext) _ p2.fVersion) ?_
     refine Ae (Ab (Aa Ac rfl (qa rfl (Ae ?_))))
     refine AE (L := Ce N p0 p2) h (fun v12 => mk [(3, oD (.ptr 3 0)), (5, oD (.ptr 5 0)), (6, oD (.ptr 6 0)), (8, oD (.ptr 8 0)), (9, iD p2.fIndex), (10, iD v12.2)] [(3, .box [sC (p0.fVersions.map Al), sC (p0.fNow.map Al), sC (p0.fTarget.map Al), sC (p0.fTables.map Ar)]), (5, .box [iC p2.fKind, iC p2.fIndex, iC p2.fVersion]), (6, .box [.pure (.nil0), .pure (.nil0), .pure (.nil0)]), (8, .box [.own 2010, .own 2011, .own 2012]), (2010, .vec 1 (((([] : List Int)) ++ p1.fBase).map Al)), (2011, .vec 1 ((((([] : List Int)) ++ p1.fNext).set ((p2.fIndex).toNat) p2.fVersion).map Al)), (2012, .vec 1 (v12.1.map Bj))]) (fun v13 => mk [(6, oD (.ptr 6 0)), (8, oD (.ptr 8 0))] [(6, .box [.pure (.nil0), .pure (.nil0), .pure (.nil0)]), (8, .box [.own 2013, .own 2014, .own 2015]), (2013, .vec 1 (((([] : List Int)) ++ p1.fBase).map Al)), (2014, .vec 1 ((((([] : List Int)) ++ p1.fNext).set ((p2.fIndex).toNat) p2.fVersion).map Al)), (2015, .vec 1 (v13.map Bj))]) (fun _ _ => rfl) (sm [(2010, 2004), (2011, 2005), (2012, 2006)] _ _ rfl rfl) (fun j12 n12 v12 h => ?_) (fun v13 s h hs => ?_)
     ·unfold Ce at h
      refine Ab (Ab (Aa Ac rfl (qm rfl (qf Df rfl (ql H0 rfl (AX Ez rfl (AV rfl (Ae ?_))))))))
      refine Ap rfl (fun c14 => ?_) (fun c14 => ?_)
      ·have h := An c14 h
       refine Aq ?_
       refine AO h (fun v15 => mk [(3, oD (.ptr 3 0)), (5, oD (.ptr 5 0)), (6, oD (.ptr 6 0)), (8, oD (.ptr 8 0)), (9, iD p2.fIndex), (10, iD v12.2)] [(3, .box [sC (p0.fVersions.map Al), sC (p0.fNow.map Al), sC (p0.fTarget.map Al), sC (p0.fTables.map Ar)]), (5, .box [iC p2.fKind, iC p2.fIndex, iC p2.fVersion]), (6, .box [.pure (.nil0), .pure (.nil0), .pure (.nil0)]), (8, .box [.own 2016, .own 2017, .own 2018]), (2016, .vec 1 (((([] : List Int)) ++ p1.fBase).map Al)), (2017, .vec 1 ((((([] : List Int)) ++ p1.fNext).set ((p2.fIndex).toNat) p2.fVersion).map Al)), (2018, .vec 1 (v15.map Bj))]) (fun j15 h => ?_) (fun v15 h => ?_)
       ·refine AJ ?_
        refine AO h (fun v16 => mk [(3, oD (.ptr 3 0)), (5, oD (.ptr 5 0)), (6, oD (.ptr 6 0)), (8, oD (.ptr 8 0)), (9, iD p2.fIndex), (10, iD v12.2), (90, bD v16)] [(3, .box [sC (p0.fVersions.map Al), sC (p0.fNow.map Al), sC (p0.fTarget.map Al), sC (p0.fTables.map Ar)]), (5, .box [iC p2.fKind, iC p2.fIndex, iC p2.fVersion]), (6, .box [.pure (.nil0), .pure (.nil0), .pure (.nil0)]), (8, .box [.own 2019, .own 2020, .own 2021]), (2019, .vec 1 (((([] : List Int)) ++ p1.fBase).map Al)), (2020, .vec 1 ((((([] : List Int)) ++ p1.fNext).set ((p2.fIndex).toNat) p2.fVersion).map Al)), (2021, .vec 1 (v12.1.map Bj))]) (fun j16 h => ?_) (fun v16 h => ?_)
        ·refine Aa Ac rfl (qf Df rfl (ql H0 rfl (qm rfl ?_)))
         obtain ⟨v17, a17, b17, h⟩ := Ai h
         refine qi Ez Eu a17 (Af b17) rfl (qg Dj rfl (qk B6 rfl (qm rfl (BL rfl (qm rfl ?_)))))
         refine AF (t := 83) rfl (fun c18 => ?_) (fun c18 => ?_)
         ·have h := An c18 h
          refine qf Df rfl (ql H0 rfl (qm rfl ?_))
          obtain ⟨v19, a19, b19, h⟩ := Ai h
          refine qi Ez Eu a19 (Af b19) rfl (qK H1 Eu rfl ?_)
          obtain ⟨v20, a20, h⟩ := bind_some h
          refine AG [] (Cy N v19 v20 a20) PJ rfl (qp rfl (Ae ?_))
          exact As _ h (sm [(2019, 2010), (2020, 2011), (2021, 2012)] _ _ rfl rfl)
         ·have h := Ao c18 h
          refine qn rfl (qn rfl (qn rfl (qn rfl (qn rfl (qn rfl (qp rfl (Ae ?_)))))))
          exact As _ h (sm [(2019, 2010), (2020, 2011), (2021, 2012)] _ _ rfl rfl)
        ·refine Ap rfl (fun c21 => ?_) (fun c21 => ?_)
         ·have h := An c21 h
          refine Aa Ac rfl (qf CS rfl (ql G4 rfl (qm rfl (qf CS rfl (ql G4 rfl (qm rfl ?_))))))
          obtain ⟨v22, a22, b22, h⟩ := Ai h
          refine qI Dg FN a22 (Af b22) rfl (qj Kq (Af b22) rfl (qf Hj rfl (ql B6 rfl ?_)))
          obtain ⟨c23, h⟩ := AS h
          refine Il rfl c23 (Tx rfl ?_)
          obtain ⟨v24, a24, b24, h⟩ := Ai h
          refine qI Dg FN a24 (Af b24) rfl ?_
          refine A0 rfl rfl rfl rfl (Af b24) rfl FN rfl (A7 rfl) (AY Bj v12.1 _ ((MC .u8 v22 ((CJ .u8 1 p2.fVersion))))) ?_
          refine AB (by kernel_rfl) ?_
          exact As _ h (sm [(2016, 2019), (2017, 2020), (2018, 2021)] _ _ rfl rfl)
         ·have h := Ao c21 h
          refine Aq ?_
          exact As _ h (sm [(2016, 2019), (2017, 2020), (2018, 2021)] _ _ rfl rfl)
       ·refine Aa Ac rfl (qm rfl (AP rfl (qa rfl (Ae ?_))))
        exact As _ h (sm [(2010, 2016), (2011, 2017), (2012, 2018)] _ _ rfl rfl)
      ·have h := Ao c14 h
       refine AT ?_
       exact As _ h (sm [(2013, 2010), (2014, 2011), (2015, 2012)] _ _ rfl rfl)
     ·exact As _ h (hs.trans (sm [(2001, 2013), (2002, 2014), (2003, 2015)] _ _ rfl rfl))
  ·have h := Ao c5 h
   refine Ab (Aa Ac rfl (BL rfl (qa rfl (Ae ?_))))
   refine Ap rfl (fun c25 => ?_) (fun c25 => ?_)
   ·have h := An c25 h
    refine Ab (Ab (Aa Ac rfl (qf BJ rfl (ql Bu rfl (qm rfl ?_)))))
    obtain ⟨v26, a26, b26, h⟩ := Ai h
    refine qi AM Dw a26 (Af b26) rfl (qk B6 rfl (AV rfl (Ae ?_)))
    refine Ap rfl (fun c27 => ?_) (fun c27 => ?_)
    ·have h := An c27 h
     refine Ab (Aa Ac rfl (Bw CI G5 rfl (qs AA rfl (qa rfl (Ae ?_)))))
     obtain rfl := sj h
     refine Am ((AI 6 0 2022 1 _ rfl rfl rfl rfl).trans ((AI 6 1 2023 1 _ rfl rfl rfl rfl).trans ((AI 6 2 2024 1 _ rfl rfl rfl rfl).trans (sm [(1000, 2022), (1001, 2023), (1002, 2024)] [(6, oD (.ptr 6 0)), (7, bD false)] [(6, .box [.own 1000, .own 1001, .own 1002]), (1000, .vec 1 ((([] : List Int)).map Al)), (1001, .vec 1 ((([] : List Int)).map Al)), (1002, .vec 1 ((([] : List Int)).map Bj))] rfl rfl)))) (Az ?_)
     exact ⟨⟨[_, _], ⟨.cellN _ _ _ _ _ _ _ rfl rfl A9 AA rfl rfl (IM rfl), ⟨.tmp _ _ rfl, tv⟩⟩, rfl⟩, ⟨rfl, rfl, rfl, tv⟩⟩
    ·have h := Ao c27 h
     refine Aq (Aa Ac rfl (qf CY rfl (ql Bu rfl (qm rfl (qf BJ rfl (ql Bu rfl (qm rfl (qf BJ rfl (ql Bu rfl (qm rfl ?_))))))))))
     obtain ⟨v28, a28, b28, h⟩ := Ai h
     refine qi AM Dw a28 (Af b28) rfl (qk B6 rfl ?_)
     obtain ⟨v29, a29, b29, h⟩ := Ai h
     refine qI AM Dw a29 (Af b29) rfl ?_
     refine A0 rfl rfl rfl rfl (Af b29) rfl Dw rfl (A7 rfl) (AY Al ((([] : List Int)) ++ p1.fBase) _ v28) ?_
     obtain ⟨v30, a30, b30, h⟩ := Ai h
     refine qI AM Dw a30 (Af b30) rfl ?_
     refine A0 rfl rfl rfl rfl (Af b30) rfl Dw rfl (A7 rfl) (AY Al ((([] : List Int)) ++ p1.fNext) _ ((-1))) ?_
     refine AB (by kernel_rfl) ?_
     exact As _ h (sm [(2001, 18), (2002, 22), (2003, 26)] _ _ rfl rfl)
   ·have h := Ao c25 h
    refine Ab (Aa Ac rfl (BL rfl (qa rfl (Ae ?_))))
    refine Ap rfl (fun c31 => ?_) (fun c31 => ?_)
    ·have h := An c31 h
     refine Ab (Aa Ac rfl (qf Df rfl (ql H0 rfl (qm rfl ?_))))
     obtain ⟨v32, a32, b32, h⟩ := Ai h
     refine qi Ez Eu a32 (Af b32) rfl (qK H1 Eu rfl (qz Lq rfl (qs Eu rfl (Ae (Ab (Ab (Aa Ac rfl (qL H1 Eu rfl ?_))))))))
     obtain ⟨v33, a33, h⟩ := bind_some h
     refine AG [] (Cy N v32 v33 a33) PJ rfl (BZ rfl (Ae ?_))
     refine Ap rfl (fun c34 => ?_) (fun c34 => ?_)
     ·have h := An c34 h
      refine Ab (Aa Ac rfl (Bw CI G5 rfl (qs AA rfl (qa rfl (Ae ?_)))))
      obtain rfl := sj h
      refine Am ((AI 6 0 2025 1 _ rfl rfl rfl rfl).trans ((AI 6 1 2026 1 _ rfl rfl rfl rfl).trans ((AI 6 2 2027 1 _ rfl rfl rfl rfl).trans (sm [(1000, 2025), (1001, 2026), (1002, 2027)] [(6, oD (.ptr 6 0)), (7, bD false)] [(6, .box [.own 1000, .own 1001, .own 1002]), (1000, .vec 1 ((([] : List Int)).map Al)), (1001, .vec 1 ((([] : List Int)).map Al)), (1002, .vec 1 ((([] : List Int)).map Bj))] rfl rfl)))) (Az ?_)
      exact ⟨⟨[_, _], ⟨.cellN _ _ _ _ _ _ _ rfl rfl A9 AA rfl rfl (IM rfl), ⟨.tmp _ _ rfl, tv⟩⟩, rfl⟩, ⟨rfl, rfl, rfl, tv⟩⟩
     ·have h := Ao c34 h
      refine Aq (Ab (Aa Ac rfl (qL A9 AA rfl (qf Dj rfl (ql B6 rfl ?_)))))
      obtain ⟨v35, a35, h⟩ := bind_some h
      refine AG [] (DP N p1 v32.fFrom v35 a35) To rfl (qa rfl (Ae (Ab (Ab (Aa Ac rfl (qf CS rfl (ql G4 rfl (qm rfl ?_))))))))
      obtain ⟨v36, a36, b36, h⟩ := Ai h
      refine qi Dg FN a36 (Af b36) rfl (qk Kq rfl (qm rfl (BL rfl (Ae ?_))))
      refine Ap rfl (fun c37 => ?_) (fun c37 => ?_)
      ·have h := An c37 h
       refine Ab (Aa Ac rfl (Bw CI G5 rfl (qs AA rfl (qa rfl (Ae ?_)))))
       obtain rfl := sj h
       refine Am ((AI 6 0 2028 1 _ rfl rfl rfl rfl).trans ((AI 6 1 2029 1 _ rfl rfl rfl rfl).trans ((AI 6 2 2030 1 _ rfl rfl rfl rfl).trans (sm [(1000, 2028), (1001, 2029), (1002, 2030)] [(6, oD (.ptr 6 0)), (7, bD false)] [(6, .box [.own 1000, .own 1001, .own 1002]), (1000, .vec 1 ((([] : List Int)).map Al)), (1001, .vec 1 ((([] : List Int)).map Al)), (1002, .vec 1 ((([] : List Int)).map Bj))] rfl rfl)))) (Az ?_)
       exact ⟨⟨[_, _], ⟨.cellN _ _ _ _ _ _ _ rfl rfl A9 AA rfl rfl (IM rfl), ⟨.tmp _ _ rfl, tv⟩⟩, rfl⟩, ⟨rfl, rfl, rfl, tv⟩⟩
      ·have h := Ao c37 h
       refine Aq (Ab (Ab (Aa Ac rfl (qa rfl (Ae ?_)))))
       refine AE (L := BW N p0 p1 p2 v32 v35) h (fun v38 => mk [(3, oD (.ptr 3 0)), (4, oD (.ptr 4 0)), (6, oD (.ptr 6 0)), (8, oD (.ptr 8 0)), (9, iD p2.fIndex), (11, oD (.ptr 11 0)), (12, pD (.val (.int .u8 v35))), (13, iD v38)] [(3, .box [sC (p0.fVersions.map Al), sC (p0.fNow.map Al), sC (p0.fTarget.map Al), sC (p0.fTables.map Ar)]), (4, .box [sC (p1.fBase.map Al), sC (p1.fNext.map Al), sC (p1.fHeld.map Bj)]), (6, .box [.pure (.nil0), .pure (.nil0), .pure (.nil0)]), (8, .box [.own 2031, .own 2032, .own 2033]), (11, .box [iC v32.fKind, iC v32.fFrom, iC v32.fTo, .pure (.val (.bool v32.fAware)), sC (v32.fOK.map (E4 eB)), sC (v32.fRewrite.map (E4 eB))]), (2031, .vec 1 (((([] : List Int)) ++ p1.fBase).map Al)), (2032, .vec 1 (((([] : List Int)) ++ p1.fNext).map Al)), (2033, .vec 1 (((([] : List Int)) ++ p1.fHeld).map Bj))]) (fun v39 => mk [(6, oD (.ptr 6 0)), (8, oD (.ptr 8 0)), (9, iD p2.fIndex), (12, pD (.val (.int .u8 v35)))] [(6, .box [.pure (.nil0), .pure (.nil0), .pure (.nil0)]), (8, .box [.own 2034, .own 2035, .own 2036]), (2034, .vec 1 (((([] : List Int)) ++ p1.fBase).map Al)), (2035, .vec 1 (((([] : List Int)) ++ p1.fNext).map Al)), (2036, .vec 1 (((([] : List Int)) ++ p1.fHeld).map Bj))]) (fun _ _ => rfl) (sm [(2031, 18), (2032, 22), (2033, 26)] _ _ rfl rfl) (fun j38 n38 v38 h => ?_) (fun v39 s h hs => ?_)
       ·unfold BW at h
        refine Ab (Ab (Aa Ac rfl (qm rfl (qf BH rfl (ql Bu rfl (qf Dj rfl (ql B6 rfl ?_)))))))
        obtain ⟨v40, a40, b40, h⟩ := Ai h
        refine qi AM Dw a40 (Af b40) rfl (qk B6 rfl (AV rfl (Ae ?_)))
        refine Ap rfl (fun c41 => ?_) (fun c41 => ?_)
        ·have h := An c41 h
         refine Aq (Ab (AJ ?_))
         refine AO h (fun v42 => mk [(3, oD (.ptr 3 0)), (4, oD (.ptr 4 0)), (6, oD (.ptr 6 0)), (8, oD (.ptr 8 0)), (9, iD p2.fIndex), (11, oD (.ptr 11 0)), (12, pD (.val (.int .u8 v35))), (13, iD v38), (14, bD v42)] [(3, .box [sC (p0.fVersions.map Al), sC (p0.fNow.map Al), sC (p0.fTarget.map Al), sC (p0.fTables.map Ar)]), (4, .box [sC (p1.fBase.map Al), sC (p1.fNext.map Al), sC (p1.fHeld.map Bj)]), (6, .box [.pure (.nil0), .pure (.nil0), .pure (.nil0)]), (8, .box [.own 2037, .own 2038, .own 2039]), (11, .box [iC v32.fKind, iC v32.fFrom, iC v32.fTo, .pure (.val (.bool v32.fAware)), sC (v32.fOK.map (E4 eB)), sC (v32.fRewrite.map (E4 eB))]), (2037, .vec 1 (((([] : List Int)) ++ p1.fBase).map Al)), (2038, .vec 1 (((([] : List Int)) ++ p1.fNext).map Al)), (2039, .vec 1 (((([] : List Int)) ++ p1.fHeld).map Bj))]) (fun j42 h => ?_) (fun v42 h => ?_)
         ·refine Aa Ac rfl (qf CS rfl (ql G4 rfl (qm rfl ?_)))
          obtain ⟨v43, a43, b43, h⟩ := Ai h
          refine qi Dg FN a43 (Af b43) rfl (qk Kq rfl (qm rfl ?_))
          obtain ⟨v44, a44, h⟩ := bind_some h
          refine AG [] (Gi N v43 v38 v44 a44) SM rfl (qm rfl ?_)
          refine AF (t := 166) rfl (fun c45 => ?_) (fun c45 => ?_)
          ·have h := An c45 h
           refine qm rfl (qm rfl ?_)
           obtain ⟨v46, a46, h⟩ := bind_some h
           refine AG [] (Gi N v35 v38 v46 a46) SM rfl (BZ rfl (qp rfl (qa rfl (Ae ?_))))
           exact As _ h (sm [(2037, 2031), (2038, 2032), (2039, 2033)] _ _ rfl rfl)
          ·have h := Ao c45 h
           refine qn rfl (qn rfl (qn rfl (qn rfl (qp rfl (qa rfl (Ae ?_))))))
           exact As _ h (sm [(2037, 2031), (2038, 2032), (2039, 2033)] _ _ rfl rfl)
         ·refine AO h (fun v47 => mk [(3, oD (.ptr 3 0)), (4, oD (.ptr 4 0)), (6, oD (.ptr 6 0)), (8, oD (.ptr 8 0)), (9, iD p2.fIndex), (11, oD (.ptr 11 0)), (12, pD (.val (.int .u8 v35))), (13, iD v38), (193, bD v47)] [(3, .box [sC (p0.fVersions.map Al), sC (p0.fNow.map Al), sC (p0.fTarget.map Al), sC (p0.fTables.map Ar)]), (4, .box [sC (p1.fBase.map Al), sC (p1.fNext.map Al), sC (p1.fHeld.map Bj)]), (6, .box [.pure (.nil0), .pure (.nil0), .pure (.nil0)]), (8, .box [.own 2040, .own 2041, .own 2042]), (11, .box [iC v32.fKind, iC v32.fFrom, iC v32.fTo, .pure (.val (.bool v32.fAware)), sC (v32.fOK.map (E4 eB)), sC (v32.fRewrite.map (E4 eB))]), (2040, .vec 1 (((([] : List Int)) ++ p1.fBase).map Al)), (2041, .vec 1 (((([] : List Int)) ++ p1.fNext).map Al)), (2042, .vec 1 (((([] : List Int)) ++ p1.fHeld).map Bj))]) (fun j47 h => ?_) (fun v47 h => ?_)
          ·refine Aa Ac rfl (qm rfl (qm rfl ?_))
           refine AF (t := 173) rfl (fun c48 => ?_) (fun c48 => ?_)
           ·have h := An c48 h
            refine qf Gl rfl (ql B6 rfl (BL rfl (qp rfl (qm rfl ?_))))
            refine AF (t := 178) rfl (fun c49 => ?_) (fun c49 => ?_)
            ·have h := An c49 h
             refine qf Hm rfl (ql K8 rfl (qm rfl ?_))
             obtain ⟨v50, a50, b50, h⟩ := Ai h
             refine qi GS Nz a50 (Af b50) rfl (qk P7 rfl (qf CY rfl (ql Bu rfl (qf Dj rfl (ql B6 rfl ?_)))))
             obtain ⟨v51, a51, b51, h⟩ := Ai h
             refine qi AM Dw a51 (Af b51) rfl (qk B6 rfl ?_)
             obtain ⟨v52, a52, b52, h⟩ := Ai h
             refine qi G9 Q1 a52 (Af b52) rfl (qk Sn rfl (BZ rfl (qp rfl (AB (by kernel_rfl) ?_))))
             exact As _ h (sm [(2040, 2037), (2041, 2038), (2042, 2039)] _ _ rfl rfl)
            ·have h := Ao c49 h
             refine qn rfl (qn rfl (qn rfl (qn rfl (qn rfl (qn rfl (qn rfl (qn rfl (qn rfl (qn rfl (qn rfl (qn rfl (qn rfl (qn rfl (qp rfl (AB (by kernel_rfl) ?_)))))))))))))))
             exact As _ h (sm [(2040, 2037), (2041, 2038), (2042, 2039)] _ _ rfl rfl)
           ·have h := Ao c48 h
            refine qn rfl (qn rfl (qn rfl (qp rfl (qm rfl (qn rfl (qn rfl (qn rfl (qn rfl (qn rfl (qn rfl (qn rfl (qn rfl (qn rfl (qn rfl (qn rfl (qn rfl (qn rfl (qn rfl (qp rfl (AB (by kernel_rfl) ?_))))))))))))))))))))
            exact As _ h (sm [(2040, 2037), (2041, 2038), (2042, 2039)] _ _ rfl rfl)
          ·refine Ap rfl (fun c53 => ?_) (fun c53 => ?_)
           ·have h := An c53 h
            refine Ab (Aa Ac rfl (Bw CI G5 rfl (qs AA rfl (qa rfl (Ae ?_)))))
            obtain rfl := sj h
            refine Am ((AI 6 0 2043 1 _ rfl rfl rfl rfl).trans ((AI 6 1 2044 1 _ rfl rfl rfl rfl).trans ((AI 6 2 2045 1 _ rfl rfl rfl rfl).trans (sm [(1000, 2043), (1001, 2044), (1002, 2045)] [(6, oD (.ptr 6 0)), (7, bD false)] [(6, .box [.own 1000, .own 1001, .own 1002]), (1000, .vec 1 ((([] : List Int)).map Al)), (1001, .vec 1 ((([] : List Int)).map Al)), (1002, .vec 1 ((([] : List Int)).map Bj))] rfl rfl)))) (Az ?_)
            exact ⟨⟨[_, _], ⟨.cellN _ _ _ _ _ _ _ rfl rfl A9 AA rfl rfl (IM rfl), ⟨.tmp _ _ rfl, tv⟩⟩, rfl⟩, ⟨rfl, rfl, rfl, tv⟩⟩
           ·have h := Ao c53 h
            refine Aq (Aa Ac rfl (qm rfl (AP rfl (qa rfl (Ae ?_)))))
            exact As _ h (sm [(2031, 2040), (2032, 2041), (2033, 2042)] _ _ rfl rfl)
        ·have h := Ao c41 h
         refine AT ?_
         exact As _ h (sm [(2034, 2031), (2035, 2032), (2036, 2033)] _ _ rfl rfl)
       ·refine Am hs (Aa Ac rfl (qf CS rfl (ql G4 rfl (qm rfl (qm rfl ?_)))))
        obtain ⟨v54, a54, b54, h⟩ := Ai h
        refine qI Dg FN a54 (Af b54) rfl ?_
        refine A0 rfl rfl rfl rfl (Af b54) rfl FN rfl (A7 rfl) (AY Bj ((([] : List Int)) ++ p1.fHeld) _ v35) ?_
        refine Ae ?_
        exact As _ h (sm [(2001, 2034), (2002, 2035), (2003, 2036)] _ _ rfl rfl)
    ·have h := Ao c31 h
     refine Ab (Ab (Aa Ac rfl (qf BJ rfl (ql Bu rfl (qm rfl ?_)))))
     obtain ⟨v55, a55, b55, h⟩ := Ai h
     refine qi AM Dw a55 (Af b55) rfl (qk B6 rfl (AV rfl (Ae ?_)))
     refine Ap rfl (fun c56 => ?_) (fun c56 => ?_)
     ·have h := An c56 h
      refine Ab (Aa Ac rfl (Bw CI G5 rfl (qs AA rfl (qa rfl (Ae ?_)))))
      obtain rfl := sj h
      refine Am ((AI 6 0 2046 1 _ rfl rfl rfl rfl).trans ((AI 6 1 2047 1 _ rfl rfl rfl rfl).trans ((AI 6 2 2048 1 _ rfl rfl rfl rfl).trans (sm [(1000, 2046), (1001, 2047), (1002, 2048)] [(6, oD (.ptr 6 0)), (7, bD false)] [(6, .box [.own 1000, .own 1001, .own 1002]), (1000, .vec 1 ((([] : List Int)).map Al)), (1001, .vec 1 ((([] : List Int)).map Al)), (1002, .vec 1 ((([] : List Int)).map Bj))] rfl rfl)))) (Az ?_)
      exact ⟨⟨[_, _], ⟨.cellN _ _ _ _ _ _ _ rfl rfl A9 AA rfl rfl (IM rfl), ⟨.tmp _ _ rfl, tv⟩⟩, rfl⟩, ⟨rfl, rfl, rfl, tv⟩⟩
     ·have h := Ao c56 h
      refine Aq (Aa Ac rfl (qf BJ rfl (ql Bu rfl (qm rfl ?_))))
      obtain ⟨v57, a57, b57, h⟩ := Ai h
      refine qI AM Dw a57 (Af b57) rfl ?_
      refine A0 rfl rfl rfl rfl (Af b57) rfl Dw rfl (A7 rfl) (AY Al ((([] : List Int)) ++ p1.fNext) _ ((-1))) ?_
      refine Ae ?_
      exact As _ h (sm [(2001, 18), (2002, 22), (2003, 26)] _ _ rfl rfl)
 ·refine Ab (Aa Ac rfl (qL A9 AA rfl (qs AA rfl (qa rfl (Ae ?_)))))
  obtain rfl := sj h
  refine Am (sm [(1000, 2001), (1001, 2002), (1002, 2003)] [(6, oD (.ptr 6 0)), (7, bD true)] [(6, .box [.own 1000, .own 1001, .own 1002]), (1000, .vec 1 (v4.1.map Al)), (1001, .vec 1 (v4.2.1.map Al)), (1002, .vec 1 (v4.2.2.map Bj))] rfl rfl) (Az ?_)
  exact ⟨⟨[_, _], ⟨.cellN _ _ _ _ _ _ _ rfl rfl A9 AA rfl rfl (IM rfl), ⟨.tmp _ _ rfl, tv⟩⟩, rfl⟩, ⟨rfl, rfl, rfl, tv⟩⟩
theorem Lr (N : Nat) (p0 : Ak) (p1 : Ah) (p2 : Av) (r : Ah × Int) (h : EB N p0 p1 p2 = some r) : AC Tryz.prog 113 [.e (.agg [sC (p0.fVersions.map Al), sC (p0.fNow.map Al), sC (p0.fTarget.map Al), sC (p0.fTables.map Ar)]), .e (.agg [sC (p1.fBase.map Al), sC (p1.fNext.map Al), sC (p1.fHeld.map Bj)]), .e (.agg [iC p2.fKind, iC p2.fIndex, iC p2.fVersion])] [(1, r.1.fBase.map Al), (1, r.1.fNext.map Al), (1, r.1.fHeld.map Bj)] (.tup [.agg [.own 0, .own 1, .own 2], .one (iC r.2)]) := by
 unfold EB at h
 refine Au (n := 73) (rs := [.cell 6 46, .tmp 7]) Tryz.func113 rfl rfl rfl (A7 rfl) (A7 rfl) rfl fun w0 S0 => ?_
 refine Ab (Aa Ac rfl (qb rfl (qb rfl (qb rfl (qz CI rfl (qa rfl (Ae (Ab (Ab (Aa Ac rfl (qL DO Dv rfl (qL A9 AA rfl ?_))))))))))))
 obtain ⟨v1, a1, h⟩ := bind_some h
 refine AG [] (GZ N p0 p1 v1 a1) Xt rfl (qa rfl (Ae (Ab (Aa Ac rfl (qm rfl (B3 rfl (Ae ?_)))))))
 refine Ap rfl (fun c2 => ?_) (fun c2 => ?_)
 ·have h := An c2 h
  refine Ab (Aa Ac rfl (Bw CI G5 rfl (qm rfl (qs AA rfl (qa rfl (Ae ?_))))))
  obtain rfl := sj h
  refine Am ((AI 6 0 2001 1 _ rfl rfl rfl rfl).trans ((AI 6 1 2002 1 _ rfl rfl rfl rfl).trans ((AI 6 2 2003 1 _ rfl rfl rfl rfl).trans (sm [(1000, 2001), (1001, 2002), (1002, 2003)] [(6, oD (.ptr 6 0)), (7, iD v1)] [(6, .box [.own 1000, .own 1001, .own 1002]), (1000, .vec 1 ((([] : List Int)).map Al)), (1001, .vec 1 ((([] : List Int)).map Al)), (1002, .vec 1 ((([] : List Int)).map Bj))] rfl rfl)))) (Az ?_)
  exact ⟨⟨[_, _], ⟨.cellN _ _ _ _ _ _ _ rfl rfl A9 AA rfl rfl (IM rfl), ⟨.tmp _ _ rfl, tv⟩⟩, rfl⟩, ⟨rfl, rfl, rfl, tv⟩⟩
 ·have h := Ao c2 h
  refine Aq (Ab (Ab (Aa Ac rfl (qL H6 EG rfl ?_))))
  obtain ⟨v3, a3, h⟩ := bind_some h
  refine AG [] (Ll N p2 v3 a3) Yv rfl (BZ rfl (Ae ?_))
  refine Ap rfl (fun c4 => ?_) (fun c4 => ?_)
  ·have h := An c4 h
   refine Ab (Aa Ac rfl (Bw CI G5 rfl (qs AA rfl (qa rfl (Ae ?_)))))
   obtain rfl := sj h
   refine Am ((AI 6 0 2004 1 _ rfl rfl rfl rfl).trans ((AI 6 1 2005 1 _ rfl rfl rfl rfl).trans ((AI 6 2 2006 1 _ rfl rfl rfl rfl).trans (sm [(1000, 2004), (1001, 2005), (1002, 2006)] [(6, oD (.ptr 6 0)), (7, iD 1)] [(6, .box [.own 1000, .own 1001, .own 1002]), (1000, .vec 1 ((([] : List Int)).map Al)), (1001, .vec 1 ((([] : List Int)).map Al)), (1002, .vec 1 ((([] : List Int)).map Bj))] rfl rfl)))) (Az ?_)
   exact ⟨⟨[_, _], ⟨.cellN _ _ _ _ _ _ _ rfl rfl A9 AA rfl rfl (IM rfl), ⟨.tmp _ _ rfl, tv⟩⟩, rfl⟩, ⟨rfl, rfl, rfl, tv⟩⟩
  ·have h := Ao c4 h
   refine Aq (Ab ?_)
   refine AO h (fun v5 => mk [(3, oD (.ptr 3 0)), (4, oD (.ptr 4 0)), (5, oD (.ptr 5 0)), (6, oD (.ptr 6 0)), (45, bD v5)] [(3, .box [sC (p0.fVersions.map Al), sC (p0.fNow.map Al), sC (p0.fTarget.map Al), sC (p0.fTables.map Ar)]), (4, .box [sC (p1.fBase.map Al), sC (p1.fNext.map Al), sC (p1.fHeld.map Bj)]), (5, .box [iC p2.fKind, iC p2.fIndex, iC p2.fVersion]), (6, .box [.pure (.nil0), .pure (.nil0), .pure (.nil0)])]) (fun j5 h => ?_) (fun v5 h => ?_)
   ·refine Aa Ac rfl (qf FX rfl (ql B6 rfl (BL rfl (qm rfl ?_))))
    refine AF (t := 25) rfl (fun c6 => ?_) (fun c6 => ?_)
    ·have h := An c6 h
     refine qf Fe rfl (ql B6 rfl (qf Df rfl (ql H0 rfl (AX Ez rfl (Cz rfl (qp rfl (qm rfl ?_)))))))
     refine AF (t := 33) rfl (fun c7 => ?_) (fun c7 => ?_)
     ·have h := An c7 h
      refine qn rfl (qn rfl (qn rfl (qn rfl (qu rfl (qu rfl (qu rfl (qu rfl (qu rfl (qu rfl (qn rfl (qp rfl (Ae ?_))))))))))))
      exact As _ h (sm [] _ _ rfl rfl)
     ·have h := Ao c7 h
      refine qf FX rfl (ql B6 rfl (B3 rfl (qm rfl ?_)))
      refine AF (t := 37) rfl (fun c8 => ?_) (fun c8 => ?_)
      ·have h := An c8 h
       refine qf Fe rfl (ql B6 rfl (qf BH rfl (ql Bu rfl (AX AM rfl (Cz rfl (qp rfl (qp rfl (Ae ?_))))))))
       exact As _ h (sm [] _ _ rfl rfl)
      ·have h := Ao c8 h
       refine qn rfl (qn rfl (qn rfl (qn rfl (qn rfl (qn rfl (qp rfl (qp rfl (Ae ?_))))))))
       exact As _ h (sm [] _ _ rfl rfl)
    ·have h := Ao c6 h
     refine qn rfl (qn rfl (qn rfl (qn rfl (qn rfl (qn rfl (qp rfl (qm rfl (qf FX rfl (ql B6 rfl (B3 rfl (qm rfl ?_)))))))))))
     refine AF (t := 37) rfl (fun c9 => ?_) (fun c9 => ?_)
     ·have h := An c9 h
      refine qf Fe rfl (ql B6 rfl (qf BH rfl (ql Bu rfl (AX AM rfl (Cz rfl (qp rfl (qp rfl (Ae ?_))))))))
      exact As _ h (sm [] _ _ rfl rfl)
     ·have h := Ao c9 h
      refine qn rfl (qn rfl (qn rfl (qn rfl (qn rfl (qn rfl (qp rfl (qp rfl (Ae ?_))))))))
      exact As _ h (sm [] _ _ rfl rfl)
   ·refine Ap rfl (fun c10 => ?_) (fun c10 => ?_)
    ·have h := An c10 h
     refine Ab (Aa Ac rfl (Bw CI G5 rfl (qs AA rfl (qa rfl (Ae ?_)))))
     obtain rfl := sj h
     refine Am ((AI 6 0 2007 1 _ rfl rfl rfl rfl).trans ((AI 6 1 2008 1 _ rfl rfl rfl rfl).trans ((AI 6 2 2009 1 _ rfl rfl rfl rfl).trans (sm [(1000, 2007), (1001, 2008), (1002, 2009)] [(6, oD (.ptr 6 0)), (7, iD 4)] [(6, .box [.own 1000, .own 1001, .own 1002]), (1000, .vec 1 ((([] : List Int)).map Al)), (1001, .vec 1 ((([] : List Int)).map Al)), (1002, .vec 1 ((([] : List Int)).map Bj))] rfl rfl)))) (Az ?_)
     exact ⟨⟨[_, _], ⟨.cellN _ _ _ _ _ _ _ rfl rfl A9 AA rfl rfl (IM rfl), ⟨.tmp _ _ rfl, tv⟩⟩, rfl⟩, ⟨rfl, rfl, rfl, tv⟩⟩
    ·have h := Ao c10 h
     refine Aq (Ab ?_)
     refine AO h (fun v11 => mk [(3, oD (.ptr 3 0)), (4, oD (.ptr 4 0)), (5, oD (.ptr 5 0)), (6, oD (.ptr 6 0)), (60, bD v11)] [(3, .box [sC (p0.fVersions.map Al), sC (p0.fNow.map Al), sC (p0.fTarget.map Al), sC (p0.fTables.map Ar)]), (4, .box [sC (p1.fBase.map Al), sC (p1.fNext.map Al), sC (p1.fHeld.map Bj)]), (5, .box [iC p2.fKind, iC p2.fIndex, iC p2.fVersion]), (6, .box [.pure (.nil0), .pure (.nil0), .pure (.nil0)])]) (fun j11 h => ?_) (fun v11 h => ?_)
     ·refine Aa Ac rfl (qf FX rfl (ql B6 rfl (BL rfl (qm rfl ?_))))
      refine AF (t := 50) rfl (fun c12 => ?_) (fun c12 => ?_)
      ·have h := An c12 h
       refine qf Hj rfl (ql B6 rfl (qf BH rfl (ql Bu rfl (qf Fe rfl (ql B6 rfl ?_)))))
       obtain ⟨v13, a13, b13, h⟩ := Ai h
       refine qi AM Dw a13 (Af b13) rfl (qk B6 rfl (Cz rfl (qp rfl (AB (by kernel_rfl) ?_))))
       exact As _ h (sm [] _ _ rfl rfl)
      ·have h := Ao c12 h
       refine qn rfl (qn rfl (qn rfl (qn rfl (qn rfl (qn rfl (qn rfl (qn rfl (qn rfl (qp rfl (AB (by kernel_rfl) ?_))))))))))
       exact As _ h (sm [] _ _ rfl rfl)
     ·refine Ap rfl (fun c14 => ?_) (fun c14 => ?_)
      ·have h := An c14 h
       refine Ab (Aa Ac rfl (Bw CI G5 rfl (qs AA rfl (qa rfl (Ae ?_)))))
       obtain rfl := sj h
       refine Am ((AI 6 0 2010 1 _ rfl rfl rfl rfl).trans ((AI 6 1 2011 1 _ rfl rfl rfl rfl).trans ((AI 6 2 2012 1 _ rfl rfl rfl rfl).trans (sm [(1000, 2010), (1001, 2011), (1002, 2012)] [(6, oD (.ptr 6 0)), (7, iD 4)] [(6, .box [.own 1000, .own 1001, .own 1002]), (1000, .vec 1 ((([] : List Int)).map Al)), (1001, .vec 1 ((([] : List Int)).map Al)), (1002, .vec 1 ((([] : List Int)).map Bj))] rfl rfl)))) (Az ?_)
       exact ⟨⟨[_, _], ⟨.cellN _ _ _ _ _ _ _ rfl rfl A9 AA rfl rfl (IM rfl), ⟨.tmp _ _ rfl, tv⟩⟩, rfl⟩, ⟨rfl, rfl, rfl, tv⟩⟩
      ·have h := Ao c14 h
       refine Aq (Ab (Aa Ac rfl (qL DO Dv rfl (qL A9 AA rfl (qL H6 EG rfl ?_)))))
       obtain ⟨v15, a15, h⟩ := bind_some h
       refine AG [2013, 2014, 2015] (IA N p0 p1 p2 v15 a15) XZ rfl (qm rfl (qx rfl (qx rfl (qz CI rfl (qs AA rfl (qa rfl (Ae (Ab (Ab (Aa Ac rfl (qm rfl (BZ rfl (Ae ?_)))))))))))))
       refine Ap rfl (fun c16 => ?_) (fun c16 => ?_)
       ·have h := An c16 h
        refine Ab (Aa Ac rfl (Bw CI G5 rfl (qs AA rfl (qa rfl (Ae ?_)))))
        obtain rfl := sj h
        refine Am ((AI 6 0 2016 1 _ rfl rfl rfl rfl).trans ((AI 6 1 2017 1 _ rfl rfl rfl rfl).trans ((AI 6 2 2018 1 _ rfl rfl rfl rfl).trans (sm [(1000, 2016), (1001, 2017), (1002, 2018)] [(6, oD (.ptr 6 0)), (7, iD 11)] [(6, .box [.own 1000, .own 1001, .own 1002]), (1000, .vec 1 ((([] : List Int)).map Al)), (1001, .vec 1 ((([] : List Int)).map Al)), (1002, .vec 1 ((([] : List Int)).map Bj))] rfl rfl)))) (Az ?_)
        exact ⟨⟨[_, _], ⟨.cellN _ _ _ _ _ _ _ rfl rfl A9 AA rfl rfl (IM rfl), ⟨.tmp _ _ rfl, tv⟩⟩, rfl⟩, ⟨rfl, rfl, rfl, tv⟩⟩
       ·have h := Ao c16 h
        refine Aq (Ab (Aa Ac rfl (qL A9 AA rfl (qs AA rfl (qa rfl (Ae ?_))))))
        obtain rfl := sj h
        refine Am (sm [(1000, 2013), (1001, 2014), (1002, 2015)] [(6, oD (.ptr 6 0)), (7, iD 0)] [(6, .box [.own 1000, .own 1001, .own 1002]), (1000, .vec 1 (v15.1.fBase.map Al)), (1001, .vec 1 (v15.1.fNext.map Al)), (1002, .vec 1 (v15.1.fHeld.map Bj))] rfl rfl) (Az ?_)
        exact ⟨⟨[_, _], ⟨.cellN _ _ _ _ _ _ _ rfl rfl A9 AA rfl rfl (IM rfl), ⟨.tmp _ _ rfl, tv⟩⟩, rfl⟩, ⟨rfl, rfl, rfl, tv⟩⟩
theorem Ls (N : Nat) (p0 : Ak) (p1 : Ah) (r : (List Av)) (h : EL N p0 p1 = some r) : AC Tryz.prog 72 [.e (.agg [sC (p0.fVersions.map Al), sC (p0.fNow.map Al), sC (p0.fTarget.map Al), sC (p0.fTables.map Ar)]), .e (.agg [sC (p1.fBase.map Al), sC (p1.fNext.map Al), sC (p1.fHeld.map Bj)])] [(3, r.map A5)] (oD (.own 0)) := by
 unfold EL at h
 refine Au (n := 49) (rs := [.tmp 4]) Tryz.func72 rfl rfl rfl (A7 rfl) (A7 rfl) rfl fun w0 S0 => ?_
 refine Ab (Aa Ac rfl (qb rfl (qb rfl (qa rfl (Ae (Ab (Aa Ac rfl (qa rfl (Ae (Ab (Ab (Aa Ac rfl (qa rfl (Ae ?_))))))))))))))
 refine AE (L := BN N p0 p1) h (fun v1 => mk [(2, oD (.ptr 2 0)), (3, oD (.ptr 3 0)), (5, oD (.own 2001)), (6, iD v1.2)] [(2, .box [sC (p0.fVersions.map Al), sC (p0.fNow.map Al), sC (p0.fTarget.map Al), sC (p0.fTables.map Ar)]), (3, .box [sC (p1.fBase.map Al), sC (p1.fNext.map Al), sC (p1.fHeld.map Bj)]), (2001, .vec 3 (v1.1.map A5))]) (fun v2 => mk [(5, oD (.own 2002))] [(2002, .vec 3 (v2.map A5))]) (fun _ _ => rfl) ((Br 5 2011 3 rfl rfl rfl).trans (sm [(2001, 2011)] _ _ rfl rfl)) (fun j1 n1 v1 h => ?_) (fun v2 s h hs => ?_)
 ·unfold BN at h
  refine Ab (Ab (Aa Ac rfl (qm rfl (H3 rfl (Ae ?_)))))
  refine Ap rfl (fun c3 => ?_) (fun c3 => ?_)
  ·have h := An c3 h
   refine Aq (Ab (AJ (Ab (Aa Ac rfl (qa rfl (Ae ?_))))))
   refine AE (L := Cs N p0 p1 v1) h (fun v4 => mk [(2, oD (.ptr 2 0)), (3, oD (.ptr 3 0)), (5, oD (.own 2003)), (6, iD v1.2), (7, iD v4.2)] [(2, .box [sC (p0.fVersions.map Al), sC (p0.fNow.map Al), sC (p0.fTarget.map Al), sC (p0.fTables.map Ar)]), (3, .box [sC (p1.fBase.map Al), sC (p1.fNext.map Al), sC (p1.fHeld.map Bj)]), (2003, .vec 3 (v4.1.map A5))]) (fun v5 => mk [(2, oD (.ptr 2 0)), (3, oD (.ptr 3 0)), (5, oD (.own 2004)), (6, iD v1.2)] [(2, .box [sC (p0.fVersions.map Al), sC (p0.fNow.map Al), sC (p0.fTarget.map Al), sC (p0.fTables.map Ar)]), (3, .box [sC (p1.fBase.map Al), sC (p1.fNext.map Al), sC (p1.fHeld.map Bj)]), (2004, .vec 3 (v5.map A5))]) (fun _ _ => rfl) (sm [(2003, 2001)] _ _ rfl rfl) (fun j4 n4 v4 h => ?_) (fun v5 s h hs => ?_)
   ·unfold Cs at h
    refine Ab (Ab (Aa Ac rfl (qm rfl (qf BH rfl (ql Bu rfl (AX AM rfl (qf Df rfl (ql H0 rfl (AX Ez rfl ?_)))))))))
    refine Yx (.p rfl) rfl rfl ?_
    refine AV rfl (Ae ?_)
    refine Ap rfl (fun c6 => ?_) (fun c6 => ?_)
    ·have h := An c6 h
     refine Aq (Ab (AJ (Ab (Aa Ac rfl (qa rfl (Ae ?_))))))
     refine AE (L := Cr N p0 p1 v1 v4) h (fun v7 => mk [(2, oD (.ptr 2 0)), (3, oD (.ptr 3 0)), (5, oD (.own 2005)), (6, iD v1.2), (7, iD v4.2), (8, iD v7.2)] [(2, .box [sC (p0.fVersions.map Al), sC (p0.fNow.map Al), sC (p0.fTarget.map Al), sC (p0.fTables.map Ar)]), (3, .box [sC (p1.fBase.map Al), sC (p1.fNext.map Al), sC (p1.fHeld.map Bj)]), (2005, .vec 3 (v7.1.map A5))]) (fun v8 => mk [(2, oD (.ptr 2 0)), (3, oD (.ptr 3 0)), (5, oD (.own 2006)), (6, iD v1.2), (7, iD v4.2)] [(2, .box [sC (p0.fVersions.map Al), sC (p0.fNow.map Al), sC (p0.fTarget.map Al), sC (p0.fTables.map Ar)]), (3, .box [sC (p1.fBase.map Al), sC (p1.fNext.map Al), sC (p1.fHeld.map Bj)]), (2006, .vec 3 (v8.map A5))]) (fun _ _ => rfl) (sm [(2005, 2003)] _ _ rfl rfl) (fun j7 n7 v7 h => ?_) (fun v8 s h hs => ?_)
     ·unfold Cr at h
      refine Ab (Ab (Aa Ac rfl (qm rfl (AV rfl (Ae ?_)))))
      refine Ap rfl (fun c9 => ?_) (fun c9 => ?_)
      ·have h := An c9 h
       refine Aq ?_
       refine AO h (fun v10 => mk [(2, oD (.ptr 2 0)), (3, oD (.ptr 3 0)), (5, oD (.own 2007)), (6, iD v1.2), (7, iD v4.2), (8, iD v7.2)] [(2, .box [sC (p0.fVersions.map Al), sC (p0.fNow.map Al), sC (p0.fTarget.map Al), sC (p0.fTables.map Ar)]), (3, .box [sC (p1.fBase.map Al), sC (p1.fNext.map Al), sC (p1.fHeld.map Bj)]), (2007, .vec 3 (v10.map A5))]) (fun j10 h => ?_) (fun v10 h => ?_)
       ·refine AJ (Ab (Aa Ac rfl (qm rfl (qm rfl (qm rfl (Bw JI Uc rfl (qz JI rfl (qs EG rfl (Ae (Ab (Aa Ac rfl (qL DO Dv rfl (qL A9 AA rfl (qL H6 EG rfl ?_))))))))))))))
        obtain ⟨v11, a11, h⟩ := bind_some h
        refine AG [2008, 2009, 2010] (Lr N p0 p1 ((Av.mk v1.2 v4.2 v7.2)) v11 a11) Yh rfl (qm rfl (qx rfl (qx rfl (qz CI rfl (qs AA rfl (qa rfl (Ae (Ab (Aa Ac rfl (qm rfl (BL rfl (Ae ?_))))))))))))
        refine Ap rfl (fun c12 => ?_) (fun c12 => ?_)
        ·have h := An c12 h
         refine Aa Ac rfl (qm rfl (qL H6 EG rfl (D8 EZ EG JI rfl ?_)))
         obtain ⟨c13, h⟩ := AS h
         refine Dt (f := A5) EZ EZ EG Rq JI c13 rfl (qa rfl (Ae ?_))
         exact As _ h (sm [(2007, 47)] _ _ rfl rfl)
        ·have h := Ao c12 h
         refine Aq ?_
         exact As _ h (sm [(2007, 2005)] _ _ rfl rfl)
       ·refine Aa Ac rfl (qm rfl (AP rfl (qa rfl (Ae ?_))))
        exact As _ h (sm [(2005, 2007)] _ _ rfl rfl)
      ·have h := Ao c9 h
       refine AT ?_
       exact As _ h (sm [(2006, 2005)] _ _ rfl rfl)
     ·refine Am hs (Aa Ac rfl (qm rfl (AP rfl (qa rfl (Ae ?_)))))
      exact As _ h (sm [(2003, 2006)] _ _ rfl rfl)
    ·have h := Ao c6 h
     refine AT ?_
     exact As _ h (sm [(2004, 2003)] _ _ rfl rfl)
   ·refine Am hs (Aa Ac rfl (qm rfl (AP rfl (qa rfl (Ae ?_)))))
    exact As _ h (sm [(2001, 2004)] _ _ rfl rfl)
  ·have h := Ao c3 h
   refine AT ?_
   exact As _ h (sm [(2002, 2001)] _ _ rfl rfl)
 ·refine Am hs (Ab (Aa Ac rfl (qm rfl (qa rfl (Ae ?_)))))
  obtain rfl := sj h
  refine Am (sm [(1000, 2002)] [(4, oD (.own 1000))] [(1000, .vec 3 (v2.map A5))] rfl rfl) (Az ?_)
  exact ⟨⟨[_], ⟨.tmp _ _ rfl, tv⟩, rfl⟩, ⟨rfl, tv⟩⟩
theorem KH (N : Nat) (p0 : Ah) (r : Ah) (h : Eo N p0 = some r) : AC Tryz.prog 142 [.e (.agg [sC (p0.fBase.map Al), sC (p0.fNext.map Al), sC (p0.fHeld.map Bj)])] [(1, r.fBase.map Al), (1, r.fNext.map Al), (1, r.fHeld.map Bj)] (.e (.agg [.own 0, .own 1, .own 2])) := by
 unfold Eo at h
 refine Au (n := 16) (rs := [.cell 2 46]) Tryz.func142 rfl rfl rfl (A7 rfl) (A7 rfl) rfl fun w0 S0 => ?_
 refine Ab (Aa Ac rfl (qb rfl (qz CI rfl (Ae (Ab (Aa Ac rfl (D8 AM Dw Kv rfl (qf CY rfl (ql Bu rfl ?_)))))))))
 obtain ⟨c1, h⟩ := AS h
 refine JG (f := Al) AM AM Dw MQ Kv (fun _ => rfl) c1 rfl (D8 AM Dw Kv rfl (qf BJ rfl (ql Bu rfl ?_)))
 obtain ⟨c2, h⟩ := AS h
 refine JG (f := Al) AM AM Dw MQ Kv (fun _ => rfl) c2 rfl (D8 Dg FN OB rfl (qf CS rfl (ql G4 rfl ?_)))
 obtain ⟨c3, h⟩ := AS h
 refine JG (f := Bj) Dg Dg FN Ro OB (fun _ => rfl) c3 rfl (Bw CI G5 rfl (qs AA rfl (AB (by kernel_rfl) ?_)))
 obtain rfl := sj h
 refine Am (sm [(1000, 6), (1001, 10), (1002, 14)] [(2, oD (.ptr 2 0))] [(2, .box [.own 1000, .own 1001, .own 1002]), (1000, .vec 1 (((([] : List Int)) ++ p0.fBase).map Al)), (1001, .vec 1 (((([] : List Int)) ++ p0.fNext).map Al)), (1002, .vec 1 (((([] : List Int)) ++ p0.fHeld).map Bj))] rfl rfl) (Az ?_)
 exact ⟨⟨[_], ⟨.cellN _ _ _ _ _ _ _ rfl rfl A9 AA rfl rfl (IM rfl), tv⟩, rfl⟩, ⟨rfl, rfl, rfl, tv⟩⟩
theorem L6 (N : Nat) (p0 : Ah) (r : (List Ah)) (h : Ev N p0 = some r) : AC Tryz.prog 111 [.e (.agg [sC (p0.fBase.map Al), sC (p0.fNext.map Al), sC (p0.fHeld.map Bj)])] [(3, r.map Aj)] (oD (.own 0)) := by
 unfold Ev at h
 refine Au (n := 62) (rs := [.tmp 2]) Tryz.func111 rfl rfl rfl (A7 rfl) (A7 rfl) rfl fun w0 S0 => ?_
 refine Ab (Aa Ac rfl (qb rfl (qa rfl (Ae (Ab (Aa Ac rfl (qa rfl (Ae (Ab (Ab (Aa Ac rfl (qa rfl (Ae ?_)))))))))))))
 refine AE (L := CR N p0) h (fun v1 => mk [(1, oD (.ptr 1 0)), (3, iD v1.1), (4, iD v1.2)] [(1, .box [sC (p0.fBase.map Al), sC (p0.fNext.map Al), sC (p0.fHeld.map Bj)])]) (fun v2 => mk [(1, oD (.ptr 1 0)), (3, iD v2)] [(1, .box [sC (p0.fBase.map Al), sC (p0.fNext.map Al), sC (p0.fHeld.map Bj)])]) (fun _ _ => rfl) (sm [] _ _ rfl rfl) (fun j1 n1 v1 h => ?_) (fun v2 s h hs => ?_)
 ·unfold CR at h
  refine Ab (Ab (Aa Ac rfl (qm rfl (qf BJ rfl (ql Bu rfl (AX AM rfl (AV rfl (Ae ?_))))))))
  refine Ap rfl (fun c3 => ?_) (fun c3 => ?_)
  ·have h := An c3 h
   refine Aq ?_
   refine AO h (fun v4 => mk [(1, oD (.ptr 1 0)), (3, iD v4), (4, iD v1.2)] [(1, .box [sC (p0.fBase.map Al), sC (p0.fNext.map Al), sC (p0.fHeld.map Bj)])]) (fun j4 h => ?_) (fun v4 h => ?_)
   ·refine AJ (Ab (Aa Ac rfl (qf BJ rfl (ql Bu rfl (qm rfl ?_)))))
    obtain ⟨v5, a5, b5, h⟩ := Ai h
    refine qi AM Dw a5 (Af b5) rfl (qk B6 rfl (Cz rfl (Ae ?_)))
    refine Ap rfl (fun c6 => ?_) (fun c6 => ?_)
    ·have h := An c6 h
     refine Aa Ac rfl (qm rfl (AP rfl (qa rfl (Ae ?_))))
     exact As _ h (sm [] _ _ rfl rfl)
    ·have h := Ao c6 h
     refine Aq ?_
     exact As _ h (sm [] _ _ rfl rfl)
   ·refine Aa Ac rfl (qm rfl (AP rfl (qa rfl (Ae ?_))))
    exact As _ h (sm [] _ _ rfl rfl)
  ·have h := Ao c3 h
   refine AT ?_
   exact As _ h (sm [] _ _ rfl rfl)
 ·refine Am hs (Ab (Aa Ac rfl (qa rfl (Ae (Ab (Ab (Aa Ac rfl (qa rfl (Ae ?_)))))))))
  refine AE (L := BQ N p0 v2) h (fun v7 => mk [(1, oD (.ptr 1 0)), (3, iD v2), (5, oD (.own 2001)), (6, iD v7.2)] [(1, .box [sC (p0.fBase.map Al), sC (p0.fNext.map Al), sC (p0.fHeld.map Bj)]), (2001, .vec 3 (v7.1.map Aj))]) (fun v8 => mk [(5, oD (.own 2002))] [(2002, .vec 3 (v8.map Aj))]) (fun _ _ => rfl) ((Br 5 2022 3 rfl rfl rfl).trans (sm [(2001, 2022)] _ _ rfl rfl)) (fun j7 n7 v7 h => ?_) (fun v8 s h hs => ?_)
  ·unfold BQ at h
   refine Ab (Ab (Aa Ac rfl (qm rfl (qm rfl ?_))))
   obtain ⟨c9, h⟩ := AS h
   refine Il rfl c9 (AV rfl (Ae ?_))
   refine Ap rfl (fun c10 => ?_) (fun c10 => ?_)
   ·have h := An c10 h
    refine Aq (Ab (AJ (Ab (Aa Ac rfl (qL A9 AA rfl ?_)))))
    obtain ⟨v11, a11, h⟩ := bind_some h
    refine AG [2003, 2004, 2005] (KH N p0 v11 a11) Zm rfl (qz CI rfl (qs AA rfl (Ae (Ab (Aa Ac rfl (qa rfl (Ae (Ab (Ab (Aa Ac rfl (qa rfl (Ae ?_))))))))))))
    refine AE (L := B9 N p0 v7) h (fun v12 => mk [(1, oD (.ptr 1 0)), (3, iD v2), (5, oD (.own 2009)), (6, iD v7.2), (7, oD (.ptr 7 0)), (8, iD v12.2.1), (9, iD v12.2.2)] [(1, .box [sC (p0.fBase.map Al), sC (p0.fNext.map Al), sC (p0.fHeld.map Bj)]), (7, .box [.own 2006, .own 2007, .own 2008]), (2006, .vec 1 (v11.fBase.map Al)), (2007, .vec 1 (v12.1.map Al)), (2008, .vec 1 (v11.fHeld.map Bj)), (2009, .vec 3 (v7.1.map Aj))]) (fun v13 => mk [(1, oD (.ptr 1 0)), (3, iD v2), (5, oD (.own 2013)), (6, iD v7.2), (7, oD (.ptr 7 0))] [(1, .box [sC (p0.fBase.map Al), sC (p0.fNext.map Al), sC (p0.fHeld.map Bj)]), (7, .box [.own 2010, .own 2011, .own 2012]), (2010, .vec 1 (v11.fBase.map Al)), (2011, .vec 1 (v13.map Al)), (2012, .vec 1 (v11.fHeld.map Bj)), (2013, .vec 3 (v7.1.map Aj))]) (fun _ _ => rfl) (sm [(2006, 2003), (2007, 2004), (2008, 2005), (2009, 2001)] _ _ rfl rfl) (fun j12 n12 v12 h => ?_) (fun v13 s h hs => ?_)
    ·unfold B9 at h
     refine Ab (Ab (Aa Ac rfl (qm rfl (qf BJ rfl (ql Bu rfl (AX AM rfl (AV rfl (Ae ?_))))))))
     refine Ap rfl (fun c14 => ?_) (fun c14 => ?_)
     ·have h := An c14 h
      refine Aq ?_
      refine AO h (fun v15 => mk [(1, oD (.ptr 1 0)), (3, iD v2), (5, oD (.own 2017)), (6, iD v7.2), (7, oD (.ptr 7 0)), (8, iD v15.2), (9, iD v12.2.2)] [(1, .box [sC (p0.fBase.map Al), sC (p0.fNext.map Al), sC (p0.fHeld.map Bj)]), (7, .box [.own 2014, .own 2015, .own 2016]), (2014, .vec 1 (v11.fBase.map Al)), (2015, .vec 1 (v15.1.map Al)), (2016, .vec 1 (v11.fHeld.map Bj)), (2017, .vec 3 (v7.1.map Aj))]) (fun j15 h => ?_) (fun v15 h => ?_)
      ·refine AJ (Ab (Ab (Aa Ac rfl (qf BJ rfl (ql Bu rfl (qm rfl ?_))))))
       obtain ⟨v16, a16, b16, h⟩ := Ai h
       refine qi AM Dw a16 (Af b16) rfl (qk B6 rfl (AV rfl (Ae ?_)))
       refine Ap rfl (fun c17 => ?_) (fun c17 => ?_)
       ·have h := An c17 h
        refine AT ?_
        exact As _ h (sm [(2014, 2006), (2015, 2007), (2016, 2008), (2017, 2009)] _ _ rfl rfl)
       ·have h := Ao c17 h
        refine Aq ?_
        refine AO h (fun v18 => mk [(1, oD (.ptr 1 0)), (3, iD v2), (5, oD (.own 2021)), (6, iD v7.2), (7, oD (.ptr 7 0)), (8, iD v12.2.1), (9, iD v12.2.2)] [(1, .box [sC (p0.fBase.map Al), sC (p0.fNext.map Al), sC (p0.fHeld.map Bj)]), (7, .box [.own 2018, .own 2019, .own 2020]), (2018, .vec 1 (v11.fBase.map Al)), (2019, .vec 1 (v18.map Al)), (2020, .vec 1 (v11.fHeld.map Bj)), (2021, .vec 3 (v7.1.map Aj))]) (fun j18 h => ?_) (fun v18 h => ?_)
        ·refine Ab (Aa Ac rfl (qm rfl (qm rfl ?_)))
         obtain ⟨c19, h⟩ := AS h
         refine Hz rfl c19 (Kt rfl (by decide) (BL rfl (Ae ?_)))
         refine Ap rfl (fun c20 => ?_) (fun c20 => ?_)
         ·have h := An c20 h
          refine Aa Ac rfl (qf BJ rfl (ql Bu rfl (qm rfl ?_)))
          obtain ⟨v21, a21, b21, h⟩ := Ai h
          refine qI AM Dw a21 (Af b21) rfl ?_
          refine A0 rfl rfl rfl rfl (Af b21) rfl Dw rfl (A7 rfl) (AY Al v12.1 _ ((-1))) ?_
          refine Ae ?_
          exact As _ h (sm [(2018, 2006), (2019, 2007), (2020, 2008), (2021, 2009)] _ _ rfl rfl)
         ·have h := Ao c20 h
          refine Aq ?_
          exact As _ h (sm [(2018, 2006), (2019, 2007), (2020, 2008), (2021, 2009)] _ _ rfl rfl)
        ·refine Aa Ac rfl (qm rfl (AP rfl (qa rfl (Ae ?_))))
         exact As _ h (sm [(2014, 2018), (2015, 2019), (2016, 2020), (2017, 2021)] _ _ rfl rfl)
      ·refine Aa Ac rfl (qm rfl (AP rfl (qa rfl (Ae ?_))))
       exact As _ h (sm [(2006, 2014), (2007, 2015), (2008, 2016), (2009, 2017)] _ _ rfl rfl)
     ·have h := Ao c14 h
      refine AT ?_
      exact As _ h (sm [(2010, 2006), (2011, 2007), (2012, 2008), (2013, 2009)] _ _ rfl rfl)
    ·refine Am hs (Aa Ac rfl (qm rfl (qL A9 AA rfl (DK (Bq 2010 _ _ rfl rfl) (DK (Bq 2011 _ _ rfl rfl) (DK (Bq 2012 _ _ rfl rfl) (D8 A3 AA CI rfl ?_)))))))
     obtain ⟨c22, h⟩ := AS h
     refine Dt (f := Aj) A3 A3 AA Q0 CI c22 rfl (qa rfl (Ae (Aa Ac rfl (qm rfl (AP rfl (qa rfl (Ae ?_)))))))
     exact As _ h (sm [(2001, 60)] _ _ rfl rfl)
   ·have h := Ao c10 h
    refine AT ?_
    exact As _ h (sm [(2002, 2001)] _ _ rfl rfl)
  ·refine Am hs (Ab (Aa Ac rfl (qm rfl (qa rfl (Ae ?_)))))
   obtain rfl := sj h
   refine Am (sm [(1000, 2002)] [(2, oD (.own 1000))] [(1000, .vec 3 (v8.map Aj))] rfl rfl) (Az ?_)
   exact ⟨⟨[_], ⟨.tmp _ _ rfl, tv⟩, rfl⟩, ⟨rfl, tv⟩⟩
theorem KM (N : Nat) (p0 : Ak) (p1 : Ah) (r : (List Ah) × Int) (h : Fc N p0 p1 = some r) : AC Tryz.prog 128 [.e (.agg [sC (p0.fVersions.map Al), sC (p0.fNow.map Al), sC (p0.fTarget.map Al), sC (p0.fTables.map Ar)]), .e (.agg [sC (p1.fBase.map Al), sC (p1.fNext.map Al), sC (p1.fHeld.map Bj)])] [(3, r.1.map Aj)] (.tup [.one (.own 0), .one (iC r.2)]) := by
 unfold Fc at h
 refine Au (n := 15) (rs := [.tmp 4, .tmp 5]) Tryz.func128 rfl rfl rfl (A7 rfl) (A7 rfl) rfl fun w0 S0 => ?_
 refine Ab (Aa Ac rfl (qb rfl (qb rfl (qa rfl (qa rfl (Ae (Ab (Ab (Aa Ac rfl (qL DO Dv rfl (qL A9 AA rfl ?_)))))))))))
 obtain ⟨v1, a1, h⟩ := bind_some h
 refine AG [] (GZ N p0 p1 v1 a1) Xt rfl (qa rfl (Ae (Ab (Aa Ac rfl (qm rfl (B3 rfl (Ae ?_)))))))
 refine Ap rfl (fun c2 => ?_) (fun c2 => ?_)
 ·have h := An c2 h
  refine Ab (Aa Ac rfl (qm rfl (qa rfl (qa rfl (Ae ?_)))))
  obtain rfl := sj h
  refine Am ((Br 4 2001 3 rfl rfl rfl).trans (sm [(1000, 2001)] [(4, oD (.own 1000)), (5, iD v1)] [(1000, .vec 3 ((([] : List Ah)).map Aj))] rfl rfl)) (Az ?_)
  exact ⟨⟨[_, _], ⟨.tmp _ _ rfl, ⟨.tmp _ _ rfl, tv⟩⟩, rfl⟩, ⟨rfl, tv⟩⟩
 ·have h := Ao c2 h
  refine Aq (Ab (Aa Ac rfl (qL A9 AA rfl ?_)))
  obtain ⟨v3, a3, h⟩ := bind_some h
  refine AG [2002] (L6 N p1 v3 a3) Yb rfl (qa rfl (qa rfl (Ae ?_)))
  obtain rfl := sj h
  refine Am (sm [(1000, 2002)] [(4, oD (.own 1000)), (5, iD 0)] [(1000, .vec 3 (v3.map Aj))] rfl rfl) (Az ?_)
  exact ⟨⟨[_, _], ⟨.tmp _ _ rfl, ⟨.tmp _ _ rfl, tv⟩⟩, rfl⟩, ⟨rfl, tv⟩⟩
theorem Lm (N : Nat) (p0 : Ak) (p1 : Ah) (r : (List Ag)) (h : EI N p0 p1 = some r) : AC Tryz.prog 129 [.e (.agg [sC (p0.fVersions.map Al), sC (p0.fNow.map Al), sC (p0.fTarget.map Al), sC (p0.fTables.map Ar)]), .e (.agg [sC (p1.fBase.map Al), sC (p1.fNext.map Al), sC (p1.fHeld.map Bj)])] [(3, r.map Ad)] (oD (.own 0)) := by
 unfold EI at h
 refine Au (n := 111) (rs := [.tmp 4]) Tryz.func129 rfl rfl rfl (A7 rfl) (A7 rfl) rfl fun w0 S0 => ?_
 refine Ab (Aa Ac rfl (qb rfl (qb rfl (qa rfl (Ae (Ab (Aa Ac rfl (qa rfl (Ae (Ab (Ab (Aa Ac rfl (qa rfl (Ae ?_))))))))))))))
 refine AE (L := CW N p0 p1) h (fun v1 => mk [(2, oD (.ptr 2 0)), (3, oD (.ptr 3 0)), (5, oD (.own 2001)), (6, iD v1.2)] [(2, .box [sC (p0.fVersions.map Al), sC (p0.fNow.map Al), sC (p0.fTarget.map Al), sC (p0.fTables.map Ar)]), (3, .box [sC (p1.fBase.map Al), sC (p1.fNext.map Al), sC (p1.fHeld.map Bj)]), (2001, .vec 3 (v1.1.map Ad))]) (fun v2 => mk [(5, oD (.own 2002))] [(2002, .vec 3 (v2.map Ad))]) (fun _ _ => rfl) ((Br 5 2013 3 rfl rfl rfl).trans (sm [(2001, 2013)] _ _ rfl rfl)) (fun j1 n1 v1 h => ?_) (fun v2 s h hs => ?_)
 ·unfold CW at h
  refine Ab (Ab (Aa Ac rfl (qm rfl (qf Df rfl (ql H0 rfl (AX Ez rfl (AV rfl (Ae ?_))))))))
  refine Ap rfl (fun c3 => ?_) (fun c3 => ?_)
  ·have h := An c3 h
   refine Aq (Ab (AJ (Ab (Aa Ac rfl (qf Df rfl (ql H0 rfl (qm rfl ?_)))))))
   obtain ⟨v4, a4, b4, h⟩ := Ai h
   refine qi Ez Eu a4 (Af b4) rfl (qK H1 Eu rfl (qz Lq rfl (qs Eu rfl (Ae (Ab (Aa Ac rfl (qL A9 AA rfl (qf Dj rfl (ql B6 rfl ?_)))))))))
   obtain ⟨v5, a5, h⟩ := bind_some h
   refine AG [] (DP N p1 v4.fFrom v5 a5) To rfl (qa rfl (Ae ?_))
   refine AO h (fun v6 => mk [(2, oD (.ptr 2 0)), (3, oD (.ptr 3 0)), (5, oD (.own 2003)), (6, iD v1.2), (7, oD (.ptr 7 0)), (8, pD (.val (.int .u8 v6)))] [(2, .box [sC (p0.fVersions.map Al), sC (p0.fNow.map Al), sC (p0.fTarget.map Al), sC (p0.fTables.map Ar)]), (3, .box [sC (p1.fBase.map Al), sC (p1.fNext.map Al), sC (p1.fHeld.map Bj)]), (7, .box [iC v4.fKind, iC v4.fFrom, iC v4.fTo, .pure (.val (.bool v4.fAware)), sC (v4.fOK.map (E4 eB)), sC (v4.fRewrite.map (E4 eB))]), (2003, .vec 3 (v1.1.map Ad))]) (fun j6 h => ?_) (fun v6 h => ?_)
   ·refine Ab (Aa Ac rfl (qL H1 Eu rfl ?_))
    obtain ⟨v7, a7, h⟩ := bind_some h
    refine AG [] (Cy N v4 v7 a7) PJ rfl (Ae ?_)
    refine Ap rfl (fun c8 => ?_) (fun c8 => ?_)
    ·have h := An c8 h
     refine Aa Ac rfl (qf CS rfl (ql G4 rfl (qm rfl ?_)))
     obtain ⟨v9, a9, b9, h⟩ := Ai h
     refine qi Dg FN a9 (Af b9) rfl (qk Kq rfl (qa rfl (Ae ?_)))
     exact As _ h (sm [(2003, 2001)] _ _ rfl rfl)
    ·have h := Ao c8 h
     refine Aq ?_
     exact As _ h (sm [(2003, 2001)] _ _ rfl rfl)
   ·refine Ab (Aa Ac rfl (qa rfl (Ae ?_)))
    refine AE (L := BT N p0 p1 v1 v4 v6) h (fun v10 => mk [(2, oD (.ptr 2 0)), (3, oD (.ptr 3 0)), (5, oD (.own 2004)), (6, iD v1.2), (7, oD (.ptr 7 0)), (8, pD (.val (.int .u8 v6))), (9, iD v10.2)] [(2, .box [sC (p0.fVersions.map Al), sC (p0.fNow.map Al), sC (p0.fTarget.map Al), sC (p0.fTables.map Ar)]), (3, .box [sC (p1.fBase.map Al), sC (p1.fNext.map Al), sC (p1.fHeld.map Bj)]), (7, .box [iC v4.fKind, iC v4.fFrom, iC v4.fTo, .pure (.val (.bool v4.fAware)), sC (v4.fOK.map (E4 eB)), sC (v4.fRewrite.map (E4 eB))]), (2004, .vec 3 (v10.1.map Ad))]) (fun v11 => mk [(2, oD (.ptr 2 0)), (3, oD (.ptr 3 0)), (5, oD (.own 2005)), (6, iD v1.2)] [(2, .box [sC (p0.fVersions.map Al), sC (p0.fNow.map Al), sC (p0.fTarget.map Al), sC (p0.fTables.map Ar)]), (3, .box [sC (p1.fBase.map Al), sC (p1.fNext.map Al), sC (p1.fHeld.map Bj)]), (2005, .vec 3 (v11.map Ad))]) (fun _ _ => rfl) (sm [(2004, 2003)] _ _ rfl rfl) (fun j10 n10 v10 h => ?_) (fun v11 s h hs => ?_)
    ·unfold BT at h
     refine Ab (Ab (Aa Ac rfl (qm rfl (qf BH rfl (ql Bu rfl (qf Dj rfl (ql B6 rfl ?_)))))))
     obtain ⟨v12, a12, b12, h⟩ := Ai h
     refine qi AM Dw a12 (Af b12) rfl (qk B6 rfl (AV rfl (Ae ?_)))
     refine Ap rfl (fun c13 => ?_) (fun c13 => ?_)
     ·have h := An c13 h
      refine Aq ?_
      refine AO h (fun v14 => mk [(2, oD (.ptr 2 0)), (3, oD (.ptr 3 0)), (5, oD (.own 2006)), (6, iD v1.2), (7, oD (.ptr 7 0)), (8, pD (.val (.int .u8 v6))), (9, iD v10.2)] [(2, .box [sC (p0.fVersions.map Al), sC (p0.fNow.map Al), sC (p0.fTarget.map Al), sC (p0.fTables.map Ar)]), (3, .box [sC (p1.fBase.map Al), sC (p1.fNext.map Al), sC (p1.fHeld.map Bj)]), (7, .box [iC v4.fKind, iC v4.fFrom, iC v4.fTo, .pure (.val (.bool v4.fAware)), sC (v4.fOK.map (E4 eB)), sC (v4.fRewrite.map (E4 eB))]), (2006, .vec 3 (v14.map Ad))]) (fun j14 h => ?_) (fun v14 h => ?_)
      ·refine AJ (Ab (Ab (Aa Ac rfl (qm rfl (qm rfl ?_)))))
       obtain ⟨v15, a15, h⟩ := bind_some h
       refine AG [] (Gi N v6 v10.2 v15 a15) SM rfl (BZ rfl (Ae ?_))
       refine Ap rfl (fun c16 => ?_) (fun c16 => ?_)
       ·have h := An c16 h
        refine AT ?_
        exact As _ h (sm [(2006, 2004)] _ _ rfl rfl)
       ·have h := Ao c16 h
        refine Aq (Ab (Aa Ac rfl (qa rfl (Ae (Ab (Ab (Aa Ac rfl (qa rfl (Ae ?_)))))))))
        refine AE (L := BD N p0 p1 v1 v4 v10) h (fun v17 => mk [(2, oD (.ptr 2 0)), (3, oD (.ptr 3 0)), (5, oD (.own 2007)), (6, iD v1.2), (7, oD (.ptr 7 0)), (8, pD (.val (.int .u8 v6))), (9, iD v10.2), (10, bD v17.2.1), (11, iD v17.2.2)] [(2, .box [sC (p0.fVersions.map Al), sC (p0.fNow.map Al), sC (p0.fTarget.map Al), sC (p0.fTables.map Ar)]), (3, .box [sC (p1.fBase.map Al), sC (p1.fNext.map Al), sC (p1.fHeld.map Bj)]), (7, .box [iC v4.fKind, iC v4.fFrom, iC v4.fTo, .pure (.val (.bool v4.fAware)), sC (v4.fOK.map (E4 eB)), sC (v4.fRewrite.map (E4 eB))]), (2007, .vec 3 (v17.1.map Ad))]) (fun v18 => mk [(2, oD (.ptr 2 0)), (3, oD (.ptr 3 0)), (5, oD (.own 2008)), (6, iD v1.2), (7, oD (.ptr 7 0)), (8, pD (.val (.int .u8 v6))), (9, iD v10.2), (10, bD v18.2)] [(2, .box [sC (p0.fVersions.map Al), sC (p0.fNow.map Al), sC (p0.fTarget.map Al), sC (p0.fTables.map Ar)]), (3, .box [sC (p1.fBase.map Al), sC (p1.fNext.map Al), sC (p1.fHeld.map Bj)]), (7, .box [iC v4.fKind, iC v4.fFrom, iC v4.fTo, .pure (.val (.bool v4.fAware)), sC (v4.fOK.map (E4 eB)), sC (v4.fRewrite.map (E4 eB))]), (2008, .vec 3 (v18.1.map Ad))]) (fun _ _ => rfl) (sm [(2007, 2004)] _ _ rfl rfl) (fun j17 n17 v17 h => ?_) (fun v18 s h hs => ?_)
        ·unfold BD at h
         refine Ab (Ab (Aa Ac rfl (qm rfl (qf BH rfl (ql Bu rfl (qf IP rfl (ql B6 rfl ?_)))))))
         obtain ⟨v19, a19, b19, h⟩ := Ai h
         refine qi AM Dw a19 (Af b19) rfl (qk B6 rfl (AV rfl (Ae ?_)))
         refine Ap rfl (fun c20 => ?_) (fun c20 => ?_)
         ·have h := An c20 h
          refine Aq ?_
          refine AO h (fun v21 => mk [(2, oD (.ptr 2 0)), (3, oD (.ptr 3 0)), (5, oD (.own 2009)), (6, iD v1.2), (7, oD (.ptr 7 0)), (8, pD (.val (.int .u8 v6))), (9, iD v10.2), (10, bD v21.2), (11, iD v17.2.2)] [(2, .box [sC (p0.fVersions.map Al), sC (p0.fNow.map Al), sC (p0.fTarget.map Al), sC (p0.fTables.map Ar)]), (3, .box [sC (p1.fBase.map Al), sC (p1.fNext.map Al), sC (p1.fHeld.map Bj)]), (7, .box [iC v4.fKind, iC v4.fFrom, iC v4.fTo, .pure (.val (.bool v4.fAware)), sC (v4.fOK.map (E4 eB)), sC (v4.fRewrite.map (E4 eB))]), (2009, .vec 3 (v21.1.map Ad))]) (fun j21 h => ?_) (fun v21 h => ?_)
          ·refine AJ (Ab (Ab (Aa Ac rfl (qL A9 AA rfl (qf IP rfl (ql B6 rfl ?_))))))
           obtain ⟨v22, a22, h⟩ := bind_some h
           refine AG [] (DP N p1 v4.fTo v22 a22) To rfl (qm rfl ?_)
           obtain ⟨v23, a23, h⟩ := bind_some h
           refine AG [] (Gi N v22 v17.2.2 v23 a23) SM rfl (BZ rfl (Ae ?_))
           refine Ap rfl (fun c24 => ?_) (fun c24 => ?_)
           ·have h := An c24 h
            refine AT ?_
            exact As _ h (sm [(2009, 2007)] _ _ rfl rfl)
           ·have h := Ao c24 h
            refine Aq ?_
            refine AO h (fun v25 => mk [(2, oD (.ptr 2 0)), (3, oD (.ptr 3 0)), (5, oD (.own 2010)), (6, iD v1.2), (7, oD (.ptr 7 0)), (8, pD (.val (.int .u8 v6))), (9, iD v10.2), (10, bD v25), (11, iD v17.2.2)] [(2, .box [sC (p0.fVersions.map Al), sC (p0.fNow.map Al), sC (p0.fTarget.map Al), sC (p0.fTables.map Ar)]), (3, .box [sC (p1.fBase.map Al), sC (p1.fNext.map Al), sC (p1.fHeld.map Bj)]), (7, .box [iC v4.fKind, iC v4.fFrom, iC v4.fTo, .pure (.val (.bool v4.fAware)), sC (v4.fOK.map (E4 eB)), sC (v4.fRewrite.map (E4 eB))]), (2010, .vec 3 (v17.1.map Ad))]) (fun j25 h => ?_) (fun v25 h => ?_)
            ·refine Aa Ac rfl (qm rfl (qm rfl ?_))
             refine AF (t := 67) rfl (fun c26 => ?_) (fun c26 => ?_)
             ·have h := An c26 h
              refine qn rfl (qn rfl (qn rfl (qn rfl (qn rfl (qn rfl (qn rfl (qn rfl (qp rfl (qa rfl (Ae ?_))))))))))
              exact As _ h (sm [(2010, 2007)] _ _ rfl rfl)
             ·have h := Ao c26 h
              refine qf Kh rfl (ql K8 rfl (qm rfl ?_))
              obtain ⟨v27, a27, b27, h⟩ := Ai h
              refine qi GS Nz a27 (Af b27) rfl (qk P7 rfl (qm rfl ?_))
              obtain ⟨v28, a28, b28, h⟩ := Ai h
              refine qi G9 Q1 a28 (Af b28) rfl (qk Sn rfl (qp rfl (qa rfl (Ae ?_))))
              exact As _ h (sm [(2010, 2007)] _ _ rfl rfl)
            ·refine AO h (fun v29 => mk [(2, oD (.ptr 2 0)), (3, oD (.ptr 3 0)), (5, oD (.own 2011)), (6, iD v1.2), (7, oD (.ptr 7 0)), (8, pD (.val (.int .u8 v6))), (9, iD v10.2), (10, bD v25), (11, iD v17.2.2), (90, bD v29)] [(2, .box [sC (p0.fVersions.map Al), sC (p0.fNow.map Al), sC (p0.fTarget.map Al), sC (p0.fTables.map Ar)]), (3, .box [sC (p1.fBase.map Al), sC (p1.fNext.map Al), sC (p1.fHeld.map Bj)]), (7, .box [iC v4.fKind, iC v4.fFrom, iC v4.fTo, .pure (.val (.bool v4.fAware)), sC (v4.fOK.map (E4 eB)), sC (v4.fRewrite.map (E4 eB))]), (2011, .vec 3 (v17.1.map Ad))]) (fun j29 h => ?_) (fun v29 h => ?_)
             ·refine Aa Ac rfl (qf Jw rfl (ql Sn rfl (BZ rfl (qm rfl ?_))))
              refine AF (t := 80) rfl (fun c30 => ?_) (fun c30 => ?_)
              ·have h := An c30 h
               refine qf Kh rfl (ql K8 rfl (qm rfl ?_))
               obtain ⟨v31, a31, b31, h⟩ := Ai h
               refine qi GS Nz a31 (Af b31) rfl (qk P7 rfl (qm rfl ?_))
               obtain ⟨v32, a32, b32, h⟩ := Ai h
               refine qi G9 Q1 a32 (Af b32) rfl (qk Sn rfl (BZ rfl (qp rfl (Ae ?_))))
               exact As _ h (sm [(2011, 2010)] _ _ rfl rfl)
              ·have h := Ao c30 h
               refine qn rfl (qn rfl (qn rfl (qn rfl (qn rfl (qn rfl (qn rfl (qn rfl (qn rfl (qp rfl (Ae ?_))))))))))
               exact As _ h (sm [(2011, 2010)] _ _ rfl rfl)
             ·refine Ap rfl (fun c33 => ?_) (fun c33 => ?_)
              ·have h := An c33 h
               refine Aa Ac rfl (qm rfl (qm rfl (qm rfl (qm rfl (Bw G6 Qc rfl (D8 A4 AU G6 rfl ?_))))))
               obtain ⟨c34, h⟩ := AS h
               refine Dt (f := Ad) A4 A4 AU Nt G6 c34 rfl (qa rfl (Ae ?_))
               exact As _ h (sm [(2009, 97)] _ _ rfl rfl)
              ·have h := Ao c33 h
               refine Aq ?_
               exact As _ h (sm [(2009, 2011)] _ _ rfl rfl)
          ·refine Aa Ac rfl (qm rfl (AP rfl (qa rfl (Ae ?_))))
           exact As _ h (sm [(2007, 2009)] _ _ rfl rfl)
         ·have h := Ao c20 h
          refine AT ?_
          exact As _ h (sm [(2008, 2007)] _ _ rfl rfl)
        ·refine Am hs ?_
         refine AO h (fun v35 => mk [(2, oD (.ptr 2 0)), (3, oD (.ptr 3 0)), (5, oD (.own 2012)), (6, iD v1.2), (7, oD (.ptr 7 0)), (8, pD (.val (.int .u8 v6))), (9, iD v10.2), (103, bD v35)] [(2, .box [sC (p0.fVersions.map Al), sC (p0.fNow.map Al), sC (p0.fTarget.map Al), sC (p0.fTables.map Ar)]), (3, .box [sC (p1.fBase.map Al), sC (p1.fNext.map Al), sC (p1.fHeld.map Bj)]), (7, .box [iC v4.fKind, iC v4.fFrom, iC v4.fTo, .pure (.val (.bool v4.fAware)), sC (v4.fOK.map (E4 eB)), sC (v4.fRewrite.map (E4 eB))]), (2012, .vec 3 (v18.1.map Ad))]) (fun j35 h => ?_) (fun v35 h => ?_)
         ·refine Aa Ac rfl (qf Jw rfl (ql Sn rfl (qm rfl ?_)))
          refine AF (t := 100) rfl (fun c36 => ?_) (fun c36 => ?_)
          ·have h := An c36 h
           refine qm rfl (BZ rfl (qp rfl (Ae ?_)))
           exact As _ h (sm [(2012, 2008)] _ _ rfl rfl)
          ·have h := Ao c36 h
           refine qn rfl (qn rfl (qp rfl (Ae ?_)))
           exact As _ h (sm [(2012, 2008)] _ _ rfl rfl)
         ·refine Ap rfl (fun c37 => ?_) (fun c37 => ?_)
          ·have h := An c37 h
           refine Aa Ac rfl (qm rfl (qm rfl (qm rfl (Bw G6 Qc rfl (D8 A4 AU G6 rfl ?_)))))
           obtain ⟨c38, h⟩ := AS h
           refine Dt (f := Ad) A4 A4 AU Nt G6 c38 rfl (qa rfl (Ae ?_))
           exact As _ h (sm [(2006, 109)] _ _ rfl rfl)
          ·have h := Ao c37 h
           refine Aq ?_
           exact As _ h (sm [(2006, 2012)] _ _ rfl rfl)
      ·refine Aa Ac rfl (qm rfl (AP rfl (qa rfl (Ae ?_))))
       exact As _ h (sm [(2004, 2006)] _ _ rfl rfl)
     ·have h := Ao c13 h
      refine AT ?_
      exact As _ h (sm [(2005, 2004)] _ _ rfl rfl)
    ·refine Am hs (Aa Ac rfl (qm rfl (AP rfl (qa rfl (Ae ?_)))))
     exact As _ h (sm [(2001, 2005)] _ _ rfl rfl)
  ·have h := Ao c3 h
   refine AT ?_
   exact As _ h (sm [(2002, 2001)] _ _ rfl rfl)
 ·refine Am hs (Ab (Aa Ac rfl (qm rfl (qa rfl (Ae ?_)))))
  obtain rfl := sj h
  refine Am (sm [(1000, 2002)] [(4, oD (.own 1000))] [(1000, .vec 3 (v2.map Ad))] rfl rfl) (Az ?_)
  exact ⟨⟨[_], ⟨.tmp _ _ rfl, tv⟩, rfl⟩, ⟨rfl, tv⟩⟩
theorem Lo (N : Nat) (p0 : Ak) (p1 : Ah) (r : Ah × Ag × Int) (h : ED N p0 p1 = some r) : AC Tryz.prog 101 [.e (.agg [sC (p0.fVersions.map Al), sC (p0.fNow.map Al), sC (p0.fTarget.map Al), sC (p0.fTables.map Ar)]), .e (.agg [sC (p1.fBase.map Al), sC (p1.fNext.map Al), sC (p1.fHeld.map Bj)])] [] (.tup [.agg [sC (r.1.fBase.map Al), sC (r.1.fNext.map Al), sC (r.1.fHeld.map Bj)], .agg [iC r.2.1.fTable, iC r.2.1.fWriter, iC r.2.1.fReader], .one (iC r.2.2)]) := by
 unfold ED at h
 refine Au (n := 46) (rs := [.cell 4 46, .cell 5 66, .tmp 6]) Tryz.func101 rfl rfl rfl (A7 rfl) (A7 rfl) rfl fun w0 S0 => ?_
 refine Ab (Aa Ac rfl (qb rfl (qb rfl (qz CI rfl (qz G6 rfl (qa rfl (Ae (Ab (Aa Ac rfl (qL DO Dv rfl (qL A9 AA rfl ?_)))))))))))
 obtain ⟨v1, a1, h⟩ := bind_some h
 refine AG [2001] (KM N p0 p1 v1 a1) YE rfl (qm rfl (qx rfl (qx rfl (qa rfl (qa rfl (Ae (Ab (Ab (Aa Ac rfl (qm rfl (B3 rfl (Ae ?_))))))))))))
 refine Ap rfl (fun c2 => ?_) (fun c2 => ?_)
 ·have h := An c2 h
  refine Ab (Aa Ac rfl (Bw CI G5 rfl (Bw G6 Qc rfl (qm rfl (qs AA rfl (qs AU rfl (qa rfl (Ae ?_))))))))
  obtain rfl := sj h
  refine Am ((K9 4 _ rfl).trans (sm [] [(4, oD (.ptr 4 0)), (5, oD (.ptr 5 0)), (6, iD v1.2)] [(4, .box [sC ((([] : List Int)).map Al), sC ((([] : List Int)).map Al), sC ((([] : List Int)).map Bj)]), (5, .box [iC 0, iC 0, iC 0])] rfl rfl)) (Az ?_)
  exact ⟨⟨[_, _, _], ⟨.cellN _ _ _ _ _ _ _ rfl rfl A9 AA rfl rfl (IM rfl), ⟨.cellN _ _ _ _ _ _ _ rfl rfl CP AU rfl rfl (IM rfl), ⟨.tmp _ _ rfl, tv⟩⟩⟩, rfl⟩, tv⟩
 ·have h := Ao c2 h
  refine Aq (Ab (Ab (Aa Ac rfl (qa rfl (Ae ?_)))))
  refine AE (L := CV N p0 v1) h (fun v3 => mk [(2, oD (.ptr 2 0)), (4, oD (.ptr 4 0)), (5, oD (.ptr 5 0)), (7, oD (.own 2002)), (9, iD v3)] [(2, .box [sC (p0.fVersions.map Al), sC (p0.fNow.map Al), sC (p0.fTarget.map Al), sC (p0.fTables.map Ar)]), (4, .box [.pure (.nil0), .pure (.nil0), .pure (.nil0)]), (5, .box [iC 0, iC 0, iC 0]), (2002, .vec 3 (v1.1.map Aj))]) (fun v4 => mk [(4, oD (.ptr 4 0)), (5, oD (.ptr 5 0))] [(4, .box [.pure (.nil0), .pure (.nil0), .pure (.nil0)]), (5, .box [iC 0, iC 0, iC 0])]) (fun _ _ => rfl) (sm [(2002, 2001)] _ _ rfl rfl) (fun j3 n3 v3 h => ?_) (fun v4 s h hs => ?_)
  ·unfold CV at h
   refine Ab (Ab (Aa Ac rfl (qm rfl (qm rfl (Ex A3 rfl (AV rfl (Ae ?_)))))))
   refine Ap rfl (fun c5 => ?_) (fun c5 => ?_)
   ·have h := An c5 h
    refine Aq (Ab (AJ (Ab (Aa Ac rfl (qL DO Dv rfl (qm rfl (qm rfl ?_)))))))
    obtain ⟨v6, a6, b6, h⟩ := Ai h
    refine qI A3 AA a6 (Af b6) rfl (qJ A9 AA (Af b6) rfl ?_)
    obtain ⟨v7, a7, h⟩ := bind_some h
    refine AG [2003] (Lm N p0 v6 v7 a7) Yp rfl (qa rfl (AB (by kernel_rfl) (Ab (Aa Ac rfl (qm rfl (Ex A4 rfl (Ey rfl (Ae ?_))))))))
    refine Ap rfl (fun c8 => ?_) (fun c8 => ?_)
    ·have h := An c8 h
     refine Ab (Aa Ac rfl (qm rfl (qm rfl ?_)))
     obtain ⟨v9, a9, b9, h⟩ := Ai h
     refine qI A3 AA a9 (Af b9) rfl (qJ A9 AA (Af b9) rfl (qm rfl ?_))
     obtain ⟨v10, a10, b10, h⟩ := Ai h
     refine qI A4 AU a10 (Af b10) rfl (qJ CP AU (Af b10) rfl (qs AA rfl (qs AU rfl (qa rfl (AB (by kernel_rfl) ?_)))))
     obtain rfl := sj h
     refine Am (sm [] [(4, oD (.ptr 4 0)), (5, oD (.ptr 5 0)), (6, iD 0)] [(4, .box [sC (v9.fBase.map Al), sC (v9.fNext.map Al), sC (v9.fHeld.map Bj)]), (5, .box [iC v10.fTable, iC v10.fWriter, iC v10.fReader])] rfl rfl) (Az ?_)
     exact ⟨⟨[_, _, _], ⟨.cellN _ _ _ _ _ _ _ rfl rfl A9 AA rfl rfl (IM rfl), ⟨.cellN _ _ _ _ _ _ _ rfl rfl CP AU rfl rfl (IM rfl), ⟨.tmp _ _ rfl, tv⟩⟩⟩, rfl⟩, tv⟩
    ·have h := Ao c8 h
     refine Aq (Aa Ac rfl (qm rfl (AP rfl (qa rfl (Ae ?_)))))
     exact As _ h (sm [] _ _ rfl rfl)
   ·have h := Ao c5 h
    refine AT ?_
    exact As _ h (sm [] _ _ rfl rfl)
  ·refine Am hs (Ab (Aa Ac rfl (Bw CI G5 rfl (Bw G6 Qc rfl (qs AA rfl (qs AU rfl (qa rfl (Ae ?_))))))))
   obtain rfl := sj h
   refine Am ((K9 4 _ rfl).trans (sm [] [(4, oD (.ptr 4 0)), (5, oD (.ptr 5 0)), (6, iD 15)] [(4, .box [sC ((([] : List Int)).map Al), sC ((([] : List Int)).map Al), sC ((([] : List Int)).map Bj)]), (5, .box [iC 0, iC 0, iC 0])] rfl rfl)) (Az ?_)
   exact ⟨⟨[_, _, _], ⟨.cellN _ _ _ _ _ _ _ rfl rfl A9 AA rfl rfl (IM rfl), ⟨.cellN _ _ _ _ _ _ _ rfl rfl CP AU rfl rfl (IM rfl), ⟨.tmp _ _ rfl, tv⟩⟩⟩, rfl⟩, tv⟩
theorem KT (N : Nat) (p0 : Ak) (p1 : Ah) (r : (List A1)) (h : Ep N p0 p1 = some r) : AC Tryz.prog 57 [.e (.agg [sC (p0.fVersions.map Al), sC (p0.fNow.map Al), sC (p0.fTarget.map Al), sC (p0.fTables.map Ar)]), .e (.agg [sC (p1.fBase.map Al), sC (p1.fNext.map Al), sC (p1.fHeld.map Bj)])] [(9, r.map Bo)] (oD (.own 0)) := by
 unfold Ep at h
 refine Au (n := 52) (rs := [.tmp 4]) Tryz.func57 rfl rfl rfl (A7 rfl) (A7 rfl) rfl fun w0 S0 => ?_
 refine Ab (Aa Ac rfl (qb rfl (qb rfl (qa rfl (Ae (Ab (Aa Ac rfl (qa rfl (Ae (Ab (Aa Ac rfl (qL DO Dv rfl (qL A9 AA rfl ?_)))))))))))))
 obtain ⟨v1, a1, h⟩ := bind_some h
 refine AG [2001] (Ls N p0 p1 v1 a1) am rfl (qa rfl (Ae (Ab (Ab (Aa Ac rfl (qa rfl (Ae ?_)))))))
 refine AE (L := Ch N p0 p1 v1) h (fun v2 => mk [(2, oD (.ptr 2 0)), (3, oD (.ptr 3 0)), (5, oD (.own 2002)), (6, oD (.own 2003)), (7, iD v2.2)] [(2, .box [sC (p0.fVersions.map Al), sC (p0.fNow.map Al), sC (p0.fTarget.map Al), sC (p0.fTables.map Ar)]), (3, .box [sC (p1.fBase.map Al), sC (p1.fNext.map Al), sC (p1.fHeld.map Bj)]), (2002, .vec 9 (v2.1.map Bo)), (2003, .vec 3 (v1.map A5))]) (fun v3 => mk [(5, oD (.own 2004))] [(2004, .vec 9 (v3.map Bo))]) (fun _ _ => rfl) ((Br 5 2010 9 rfl rfl rfl).trans (sm [(2002, 2010), (2003, 2001)] _ _ rfl rfl)) (fun j2 n2 v2 h => ?_) (fun v3 s h hs => ?_)
 ·unfold Ch at h
  refine Ab (Ab (Aa Ac rfl (qm rfl (qm rfl (Ex EZ rfl (AV rfl (Ae ?_)))))))
  refine Ap rfl (fun c4 => ?_) (fun c4 => ?_)
  ·have h := An c4 h
   refine Aq ?_
   refine AO h (fun v5 => mk [(2, oD (.ptr 2 0)), (3, oD (.ptr 3 0)), (5, oD (.own 2005)), (6, oD (.own 2006)), (7, iD v2.2)] [(2, .box [sC (p0.fVersions.map Al), sC (p0.fNow.map Al), sC (p0.fTarget.map Al), sC (p0.fTables.map Ar)]), (3, .box [sC (p1.fBase.map Al), sC (p1.fNext.map Al), sC (p1.fHeld.map Bj)]), (2005, .vec 9 (v5.map Bo)), (2006, .vec 3 (v1.map A5))]) (fun j5 h => ?_) (fun v5 h => ?_)
   ·refine AJ (Ab (Aa Ac rfl (qL DO Dv rfl (qL A9 AA rfl (qm rfl (qm rfl ?_))))))
    obtain ⟨v6, a6, b6, h⟩ := Ai h
    refine qI EZ EG a6 (Af b6) rfl (qJ H6 EG (Af b6) rfl ?_)
    obtain ⟨v7, a7, h⟩ := bind_some h
    refine AG [2007, 2008, 2009] (IA N p0 p1 v6 v7 a7) XZ rfl (qm rfl (qx rfl (qx rfl (qz CI rfl (qs AA rfl (qa rfl (AB (by kernel_rfl) (Ab (Aa Ac rfl (qL DO Dv rfl (qL A9 AA rfl (DK (Bq 2007 _ _ rfl rfl) (DK (Bq 2008 _ _ rfl rfl) (DK (Bq 2009 _ _ rfl rfl) ?_))))))))))))))
    obtain ⟨v8, a8, h⟩ := bind_some h
    refine AG [] (Lo N p0 v7.1 v8 a8) Zp rfl (qm rfl (qx rfl (qx rfl (qx rfl (qz CI rfl (qz G6 rfl (qs AA rfl (qs AU rfl (qa rfl (Ae (Ab (Aa Ac rfl (qm rfl (BL rfl (Ae ?_)))))))))))))))
    refine Ap rfl (fun c9 => ?_) (fun c9 => ?_)
    ·have h := An c9 h
     refine Aa Ac rfl (qm rfl (qm rfl (qm rfl ?_)))
     obtain ⟨v10, a10, b10, h⟩ := Ai h
     refine qI EZ EG a10 (Af b10) rfl (qJ H6 EG (Af b10) rfl (qL A9 AA rfl (qL CP AU rfl (Bw PZ Yk rfl (D8 FC J3 PZ rfl ?_)))))
     obtain ⟨c11, h⟩ := AS h
     refine Dt (f := Bo) FC FC J3 S5 PZ c11 rfl (qa rfl (AB (by kernel_rfl) ?_))
     exact As _ h (sm [(2005, 50), (2006, 2003)] _ _ rfl rfl)
    ·have h := Ao c9 h
     refine Aq ?_
     exact As _ h (sm [(2005, 2002), (2006, 2003)] _ _ rfl rfl)
   ·refine Aa Ac rfl (qm rfl (AP rfl (qa rfl (Ae ?_))))
    exact As _ h (sm [(2002, 2005), (2003, 2006)] _ _ rfl rfl)
  ·have h := Ao c4 h
   refine AT ?_
   exact As _ h (sm [(2004, 2002)] _ _ rfl rfl)
 ·refine Am hs (Ab (Aa Ac rfl (qm rfl (qa rfl (Ae ?_)))))
  obtain rfl := sj h
  refine Am (sm [(1000, 2004)] [(4, oD (.own 1000))] [(1000, .vec 9 (v3.map Bo))] rfl rfl) (Az ?_)
  exact ⟨⟨[_], ⟨.tmp _ _ rfl, tv⟩, rfl⟩, ⟨rfl, tv⟩⟩
theorem Ij (N : Nat) (p0 : Ak) (p1 : List Ah) (r : (List A1) × Int) (h : Cn N p0 p1 = some r) : AC Tryz.prog 19 [.e (.agg [sC (p0.fVersions.map Al), sC (p0.fNow.map Al), sC (p0.fTarget.map Al), sC (p0.fTables.map Ar)]), pD (.sl (p1.map Aj))] [(9, r.1.map Bo)] (.tup [.one (.own 0), .one (iC r.2)]) := by
 unfold Cn at h
 refine Au (n := 30) (rs := [.tmp 4, .tmp 5]) Tryz.func19 rfl rfl rfl (A7 rfl) (A7 rfl) rfl fun w0 S0 => ?_
 refine Ab (Aa Ac rfl (qb rfl (qa rfl (qa rfl (Ae (Ab (Ab (Aa Ac rfl (qL DO Dv rfl (qm rfl ?_))))))))))
 obtain ⟨v1, a1, h⟩ := bind_some h
 refine AG [] (Lt N p0 p1 v1 a1) aF rfl (qa rfl (Ae (Ab (Aa Ac rfl (qm rfl (B3 rfl (Ae ?_)))))))
 refine Ap rfl (fun c2 => ?_) (fun c2 => ?_)
 ·have h := An c2 h
  refine Ab (Aa Ac rfl (qm rfl (qa rfl (qa rfl (Ae ?_)))))
  obtain rfl := sj h
  refine Am ((Br 4 2001 9 rfl rfl rfl).trans (sm [(1000, 2001)] [(4, oD (.own 1000)), (5, iD v1)] [(1000, .vec 9 ((([] : List A1)).map Bo))] rfl rfl)) (Az ?_)
  exact ⟨⟨[_, _], ⟨.tmp _ _ rfl, ⟨.tmp _ _ rfl, tv⟩⟩, rfl⟩, ⟨rfl, tv⟩⟩
 ·have h := Ao c2 h
  refine Aq (Ab (Aa Ac rfl (qa rfl (Ae (Ab (Ab (Aa Ac rfl (qa rfl (Ae ?_)))))))))
  refine AE (L := Cf N p0 p1) h (fun v3 => mk [(1, pD (.sl (p1.map Aj))), (2, oD (.ptr 2 0)), (7, oD (.own 2002)), (8, iD v3.2)] [(2, .box [sC (p0.fVersions.map Al), sC (p0.fNow.map Al), sC (p0.fTarget.map Al), sC (p0.fTables.map Ar)]), (2002, .vec 9 (v3.1.map Bo))]) (fun v4 => mk [(7, oD (.own 2003))] [(2003, .vec 9 (v4.map Bo))]) (fun _ _ => rfl) ((Br 7 2005 9 rfl rfl rfl).trans (sm [(2002, 2005)] _ _ rfl rfl)) (fun j3 n3 v3 h => ?_) (fun v4 s h hs => ?_)
  ·unfold Cf at h
   refine Ab (Ab (Aa Ac rfl (qm rfl (qm rfl (AX A3 rfl (AV rfl (Ae ?_)))))))
   refine Ap rfl (fun c5 => ?_) (fun c5 => ?_)
   ·have h := An c5 h
    refine Aq (Ab (AJ (Aa Ac rfl (qm rfl (qL DO Dv rfl (qm rfl (qm rfl ?_)))))))
    obtain ⟨v6, a6, b6, h⟩ := Ai h
    refine qi A3 AA a6 (Af b6) rfl (qK A9 AA rfl ?_)
    obtain ⟨v7, a7, h⟩ := bind_some h
    refine AG [2004] (KT N p0 v6 v7 a7) ZT rfl ?_
    obtain ⟨c8, h⟩ := AS h
    refine Dt (f := Bo) FC FC J3 S5 PZ c8 rfl (qa rfl (AB (by kernel_rfl) (Aa Ac rfl (qm rfl (AP rfl (qa rfl (Ae ?_)))))))
    exact As _ h (sm [(2002, 28)] _ _ rfl rfl)
   ·have h := Ao c5 h
    refine AT ?_
    exact As _ h (sm [(2003, 2002)] _ _ rfl rfl)
  ·refine Am hs (Ab (Aa Ac rfl (qm rfl (qa rfl (qa rfl (Ae ?_))))))
   obtain rfl := sj h
   refine Am (sm [(1000, 2003)] [(4, oD (.own 1000)), (5, iD 0)] [(1000, .vec 9 (v4.map Bo))] rfl rfl) (Az ?_)
   exact ⟨⟨[_, _], ⟨.tmp _ _ rfl, ⟨.tmp _ _ rfl, tv⟩⟩, rfl⟩, ⟨rfl, tv⟩⟩
theorem LI (N : Nat) (p0 : Ag) (p1 : Ag) (r : Bool) (h : Eg N p0 p1 = some r) : AC Tryz.prog 64 [.e (.agg [iC p0.fTable, iC p0.fWriter, iC p0.fReader]), .e (.agg [iC p1.fTable, iC p1.fWriter, iC p1.fReader])] [] (bD r) := by
 unfold Eg at h
 refine Au (n := 30) (rs := [.tmp 4]) Tryz.func64 rfl rfl rfl (A7 rfl) (A7 rfl) rfl fun w0 S0 => ?_
 refine Ab (Aa Ac rfl (qb rfl (qb rfl (qa rfl (Ae (Ab (Ab (Aa Ac rfl (qf Lc rfl (ql B6 rfl (qf Lc rfl (ql B6 rfl (B3 rfl (Ae ?_))))))))))))))
 refine Ap rfl (fun c1 => ?_) (fun c1 => ?_)
 ·have h := An c1 h
  refine Ab (Aa Ac rfl (qf Lc rfl (ql B6 rfl (qf Lc rfl (ql B6 rfl (AV rfl (qa rfl (Ae ?_))))))))
  obtain rfl := sj h
  refine Am (sm [] [(4, bD ((decide (p0.fTable < p1.fTable))))] [] rfl rfl) (Az ?_)
  exact ⟨⟨[_], ⟨.tmp _ _ rfl, tv⟩, rfl⟩, tv⟩
 ·have h := Ao c1 h
  refine Aq (Ab (Ab (Aa Ac rfl (qf Li rfl (ql B6 rfl (qf Li rfl (ql B6 rfl (B3 rfl (Ae ?_)))))))))
  refine Ap rfl (fun c2 => ?_) (fun c2 => ?_)
  ·have h := An c2 h
   refine Ab (Aa Ac rfl (qf Li rfl (ql B6 rfl (qf Li rfl (ql B6 rfl (AV rfl (qa rfl (Ae ?_))))))))
   obtain rfl := sj h
   refine Am (sm [] [(4, bD ((decide (p0.fWriter < p1.fWriter))))] [] rfl rfl) (Az ?_)
   exact ⟨⟨[_], ⟨.tmp _ _ rfl, tv⟩, rfl⟩, tv⟩
  ·have h := Ao c2 h
   refine Aq (Ab (Aa Ac rfl (qf NK rfl (ql B6 rfl (qf NK rfl (ql B6 rfl (AV rfl (qa rfl (Ae ?_)))))))))
   obtain rfl := sj h
   refine Am (sm [] [(4, bD ((decide (p0.fReader < p1.fReader))))] [] rfl rfl) (Az ?_)
   exact ⟨⟨[_], ⟨.tmp _ _ rfl, tv⟩, rfl⟩, tv⟩
theorem Kx (N : Nat) (p0 : Ak) (p1 : List Ah) (r : (List Ag) × Int) (h : Ca N p0 p1 = some r) : AC Tryz.prog 23 [.e (.agg [sC (p0.fVersions.map Al), sC (p0.fNow.map Al), sC (p0.fTarget.map Al), sC (p0.fTables.map Ar)]), pD (.sl (p1.map Aj))] [(3, r.1.map Ad)] (.tup [.one (.own 0), .one (iC r.2)]) := by
 unfold Ca at h
 refine Au (n := 77) (rs := [.tmp 4, .tmp 5]) Tryz.func23 rfl rfl rfl (A7 rfl) (A7 rfl) rfl fun w0 S0 => ?_
 refine Ab (Aa Ac rfl (qb rfl (qa rfl (qa rfl (Ae (Ab (Aa Ac rfl (qL DO Dv rfl (qm rfl ?_)))))))))
 obtain ⟨v1, a1, h⟩ := bind_some h
 refine AG [2001] (Ij N p0 p1 v1 a1) X4 rfl (qm rfl (qx rfl (qx rfl (qa rfl (qa rfl (Ae (Ab (Ab (Aa Ac rfl (qm rfl (B3 rfl (Ae ?_))))))))))))
 refine Ap rfl (fun c2 => ?_) (fun c2 => ?_)
 ·have h := An c2 h
  refine Ab (Aa Ac rfl (qm rfl (qa rfl (qa rfl (Ae ?_)))))
  obtain rfl := sj h
  refine Am ((Br 4 2002 3 rfl rfl rfl).trans (sm [(1000, 2002)] [(4, oD (.own 1000)), (5, iD v1.2)] [(1000, .vec 3 ((([] : List Ag)).map Ad))] rfl rfl)) (Az ?_)
  exact ⟨⟨[_, _], ⟨.tmp _ _ rfl, ⟨.tmp _ _ rfl, tv⟩⟩, rfl⟩, ⟨rfl, tv⟩⟩
 ·have h := Ao c2 h
  refine Aq (Ab (Aa Ac rfl (qa rfl (Ae (Ab (Ab (Aa Ac rfl (qa rfl (Ae ?_)))))))))
  refine AE (L := Cw N v1) h (fun v3 => mk [(6, oD (.own 2003)), (8, oD (.own 2004)), (9, iD v3.2)] [(2003, .vec 9 (v1.1.map Bo)), (2004, .vec 3 (v3.1.map Ad))]) (fun v4 => mk [(8, oD (.own 2005))] [(2005, .vec 3 (v4.map Ad))]) (fun _ _ => rfl) ((Br 8 2016 3 rfl rfl rfl).trans (sm [(2003, 2001), (2004, 2016)] _ _ rfl rfl)) (fun j3 n3 v3 h => ?_) (fun v4 s h hs => ?_)
  ·unfold Cw at h
   refine Ab (Ab (Aa Ac rfl (qm rfl (qm rfl (Ex FC rfl (AV rfl (Ae ?_)))))))
   refine Ap rfl (fun c5 => ?_) (fun c5 => ?_)
   ·have h := An c5 h
    refine Aq ?_
    refine AO h (fun v6 => mk [(6, oD (.own 2006)), (8, oD (.own 2007)), (9, iD v3.2)] [(2006, .vec 9 (v1.1.map Bo)), (2007, .vec 3 (v6.map Ad))]) (fun j6 h => ?_) (fun v6 h => ?_)
    ·refine AJ (Ab (Aa Ac rfl (qa rfl (Ae (Ab ?_)))))
     refine AE (L := Bv N v1 v3) h (fun v7 => mk [(6, oD (.own 2008)), (8, oD (.own 2009)), (9, iD v3.2), (10, iD v7)] [(2008, .vec 9 (v1.1.map Bo)), (2009, .vec 3 (v3.1.map Ad))]) (fun v8 => mk [(6, oD (.own 2010)), (8, oD (.own 2011)), (9, iD v3.2), (10, iD v8)] [(2010, .vec 9 (v1.1.map Bo)), (2011, .vec 3 (v3.1.map Ad))]) (fun _ _ => rfl) (sm [(2008, 2003), (2009, 2004)] _ _ rfl rfl) (fun j7 n7 v7 h => ?_) (fun v8 s h hs => ?_)
     ·unfold Bv at h
      refine Ab ?_
      refine AO h (fun v9 => mk [(6, oD (.own 2012)), (8, oD (.own 2013)), (9, iD v3.2), (10, iD v7), (41, bD v9)] [(2012, .vec 9 (v1.1.map Bo)), (2013, .vec 3 (v3.1.map Ad))]) (fun j9 h => ?_) (fun v9 h => ?_)
      ·refine Aa Ac rfl (qm rfl (qm rfl (Ex A4 rfl (AV rfl (qm rfl ?_)))))
       refine AF (t := 30) rfl (fun c10 => ?_) (fun c10 => ?_)
       ·have h := An c10 h
        refine qm rfl (qm rfl ?_)
        obtain ⟨v11, a11, b11, h⟩ := Ai h
        refine qI A4 AU a11 (Af b11) rfl (qJ CP AU (Af b11) rfl (qm rfl (qm rfl ?_)))
        obtain ⟨v12, a12, b12, h⟩ := Ai h
        refine qI FC J3 a12 (Af b12) rfl (qh Kn rfl ?_)
        refine Kz (.g rfl rfl) rfl CP AU rfl (Af b12) rfl rfl (by decide) ?_
        obtain ⟨v13, a13, h⟩ := bind_some h
        refine AG [] (LI N v11 ((Ag.mk v12.fConflict.fTable v12.fConflict.fWriter v12.fConflict.fReader)) v13 a13) ag rfl (qp rfl (AB (by kernel_rfl) ?_))
        exact As _ h (sm [(2012, 2008), (2013, 2009)] _ _ rfl rfl)
       ·have h := Ao c10 h
        refine qn rfl (qn rfl (qn rfl (qn rfl (qn rfl (qn rfl (qn rfl (qn rfl (qn rfl (qn rfl (qp rfl (AB (by kernel_rfl) ?_)))))))))))
        exact As _ h (sm [(2012, 2008), (2013, 2009)] _ _ rfl rfl)
      ·refine Ap rfl (fun c14 => ?_) (fun c14 => ?_)
       ·have h := An c14 h
        refine Aq (AJ (Aa Ac rfl (qm rfl (AP rfl (qa rfl (Ae ?_))))))
        exact As _ h (sm [(2008, 2012), (2009, 2013)] _ _ rfl rfl)
       ·have h := Ao c14 h
        refine AT ?_
        exact As _ h (sm [(2010, 2012), (2011, 2013)] _ _ rfl rfl)
     ·refine Am hs ?_
      refine AO h (fun v15 => mk [(6, oD (.own 2014)), (8, oD (.own 2015)), (9, iD v3.2), (10, iD v8), (59, bD v15)] [(2014, .vec 9 (v1.1.map Bo)), (2015, .vec 3 (v3.1.map Ad))]) (fun j15 h => ?_) (fun v15 h => ?_)
      ·refine Aa Ac rfl (qm rfl (qm rfl (Ex A4 rfl (BL rfl (qm rfl ?_)))))
       refine AF (t := 48) rfl (fun c16 => ?_) (fun c16 => ?_)
       ·have h := An c16 h
        refine qn rfl (qn rfl (qn rfl (qn rfl (qn rfl (qn rfl (qn rfl (qn rfl (qn rfl (qn rfl (qp rfl (AB (by kernel_rfl) ?_)))))))))))
        exact As _ h (sm [(2014, 2010), (2015, 2011)] _ _ rfl rfl)
       ·have h := Ao c16 h
        refine qm rfl (qm rfl ?_)
        obtain ⟨v17, a17, b17, h⟩ := Ai h
        refine qI A4 AU a17 (Af b17) rfl (qJ CP AU (Af b17) rfl (qm rfl (qm rfl ?_)))
        obtain ⟨v18, a18, b18, h⟩ := Ai h
        refine qI FC J3 a18 (Af b18) rfl (qh Kn rfl ?_)
        refine Kz (.g rfl rfl) rfl CP AU rfl (Af b18) rfl rfl (by decide) ?_
        refine Q5 [.int .i64 v17.fTable, .int .i64 v17.fWriter, .int .i64 v17.fReader] [.int .i64 v18.fConflict.fTable, .int .i64 v18.fConflict.fWriter, .int .i64 v18.fConflict.fReader] (.g rfl rfl) rfl rfl PE rfl ?_
        refine qp rfl (AB (by kernel_rfl) ?_)
        exact As _ h (sm [(2014, 2010), (2015, 2011)] _ _ rfl rfl)
      ·refine Ap rfl (fun c19 => ?_) (fun c19 => ?_)
       ·have h := An c19 h
        refine Am (Bq 2015 _ _ rfl rfl) (Aa Ac rfl (D8 A4 AU G6 rfl (qm rfl (qm rfl ?_))))
        obtain ⟨c20, h⟩ := AS h
        refine SQ (.p rfl) rfl A4 AU (L1 (f := Ad) (n := 3) (fun _ => rfl) _) (.none _) (.some _ _ _ _ c20.1) tv ⟨rfl, tv⟩ (by have := c20.2.1; (try simp only [List.length_map]); omega) (by have := c20.2.2; (try simp only [List.length_map]); omega) (Ry Ad v3.1 _ _ ((v8).toNat - 0) rfl) ?_
        obtain ⟨c21, h⟩ := AS h
        refine JG (f := Ad) A4 A4 AU Nt G6 (fun _ => rfl) c21 rfl (qm rfl (qm rfl ?_))
        obtain ⟨v22, a22, b22, h⟩ := Ai h
        refine qI FC J3 a22 (Af b22) rfl (qh Kn rfl ?_)
        refine Kz (.p rfl) rfl CP AU rfl (Af b22) rfl rfl (by decide) ?_
        refine D8 A4 AU G6 rfl ?_
        obtain ⟨c23, h⟩ := AS h
        refine Dt (f := Ad) A4 A4 AU Nt G6 c23 rfl (qm rfl (qm rfl ?_))
        obtain ⟨c24, h⟩ := AS h
        refine SQ (.p rfl) rfl A4 AU (L1 (f := Ad) (n := 3) (fun _ => rfl) _) (.some _ _ _ _ c24.1) (.none _) ⟨rfl, tv⟩ tv (by have := c24.2.1; (try simp only [List.length_map]); omega) (by have := c24.2.2; (try simp only [List.length_map]); omega) (Ry Ad v3.1 _ _ (v3.1.length - (v8).toNat) (by rw [List.length_map])) ?_
        obtain ⟨c25, h⟩ := AS h
        refine JG (f := Ad) A4 A4 AU Nt G6 (fun _ => rfl) c25 rfl (qa rfl (AB (by kernel_rfl) ?_))
        exact As _ h (sm [(2006, 2014), (2007, 75)] _ _ rfl rfl)
       ·have h := Ao c19 h
        refine Aq ?_
        exact As _ h (sm [(2006, 2014), (2007, 2015)] _ _ rfl rfl)
    ·refine Aa Ac rfl (qm rfl (AP rfl (qa rfl (Ae ?_))))
     exact As _ h (sm [(2003, 2006), (2004, 2007)] _ _ rfl rfl)
   ·have h := Ao c5 h
    refine AT ?_
    exact As _ h (sm [(2005, 2004)] _ _ rfl rfl)
  ·refine Am hs (Ab (Aa Ac rfl (qm rfl (qa rfl (qa rfl (Ae ?_))))))
   obtain rfl := sj h
   refine Am (sm [(1000, 2005)] [(4, oD (.own 1000)), (5, iD 0)] [(1000, .vec 3 (v4.map Ad))] rfl rfl) (Az ?_)
   exact ⟨⟨[_, _], ⟨.tmp _ _ rfl, ⟨.tmp _ _ rfl, tv⟩⟩, rfl⟩, ⟨rfl, tv⟩⟩
theorem LQ (N : Nat) (p0 : List A1) (p1 : List A1) (r : Bool) (h : Cu N p0 p1 = some r) : AC Tryz.prog 20 [pD (.sl (p0.map Bo)), pD (.sl (p1.map Bo))] [] (bD r) := by
 unfold Cu at h
 refine Au (n := 55) (rs := [.tmp 4]) Tryz.func20 rfl rfl rfl (A7 rfl) (A7 rfl) rfl fun w0 S0 => ?_
 refine Ab (Aa Ac rfl (qa rfl (Ae (Ab (Ab (Aa Ac rfl (qm rfl (AX FC rfl (qm rfl (AX FC rfl (B3 rfl (Ae ?_))))))))))))
 refine Ap rfl (fun c1 => ?_) (fun c1 => ?_)
 ·have h := An c1 h
  refine Ab (Aa Ac rfl (qa rfl (Ae ?_)))
  obtain rfl := sj h
  refine Am (sm [] [(4, bD false)] [] rfl rfl) (Az ?_)
  exact ⟨⟨[_], ⟨.tmp _ _ rfl, tv⟩, rfl⟩, tv⟩
 ·have h := Ao c1 h
  refine Aq (Ab (Ab (Aa Ac rfl (qa rfl (Ae ?_)))))
  refine AE (L := CG N p0 p1) h (fun v2 => mk [(0, pD (.sl (p0.map Bo))), (1, pD (.sl (p1.map Bo))), (5, iD v2)] []) (fun v3 => mk [] []) (fun _ _ => rfl) (sm [] _ _ rfl rfl) (fun j2 n2 v2 h => ?_) (fun v3 s h hs => ?_)
  ·unfold CG at h
   refine Ab (Ab (Aa Ac rfl (qm rfl (qm rfl (AX FC rfl (AV rfl (Ae ?_)))))))
   refine Ap rfl (fun c4 => ?_) (fun c4 => ?_)
   ·have h := An c4 h
    refine Aq (Ab (AJ ?_))
    refine AO h (fun v5 => mk [(0, pD (.sl (p0.map Bo))), (1, pD (.sl (p1.map Bo))), (5, iD v2), (54, bD v5)] []) (fun j5 h => ?_) (fun v5 h => ?_)
    ·refine Aa Ac rfl (qm rfl (qm rfl ?_))
     obtain ⟨v6, a6, b6, h⟩ := Ai h
     refine qi FC J3 a6 (Af b6) rfl (qg PW rfl (qK H6 EG rfl (qm rfl (qm rfl ?_))))
     obtain ⟨v7, a7, b7, h⟩ := Ai h
     refine qi FC J3 a7 (Af b7) rfl (qg PW rfl (qK H6 EG rfl ?_))
     refine Q5 [.int .i64 v6.fStep.fKind, .int .i64 v6.fStep.fIndex, .int .i64 v6.fStep.fVersion] [.int .i64 v7.fStep.fKind, .int .i64 v7.fStep.fIndex, .int .i64 v7.fStep.fVersion] (.p rfl) rfl rfl Wz rfl ?_
     refine qm rfl ?_
     refine AF (t := 28) rfl (fun c8 => ?_) (fun c8 => ?_)
     ·have h := An c8 h
      refine qn rfl (qn rfl (qn rfl (qn rfl (qn rfl (qn rfl (qn rfl (qn rfl (qn rfl (qn rfl (qn rfl (qp rfl (qm rfl (qn rfl (qn rfl (qn rfl (qn rfl (qn rfl (qn rfl (qn rfl (qn rfl (qn rfl (qn rfl (qn rfl (qn rfl (qp rfl (AB (by kernel_rfl) ?_))))))))))))))))))))))))))
      exact As _ h (sm [] _ _ rfl rfl)
     ·have h := Ao c8 h
      refine qm rfl (qm rfl ?_)
      obtain ⟨v9, a9, b9, h⟩ := Ai h
      refine qi FC J3 a9 (Af b9) rfl (qg Kn rfl (qK CP AU rfl (qm rfl (qm rfl ?_))))
      obtain ⟨v10, a10, b10, h⟩ := Ai h
      refine qi FC J3 a10 (Af b10) rfl (qg Kn rfl (qK CP AU rfl ?_))
      refine Q5 [.int .i64 v9.fConflict.fTable, .int .i64 v9.fConflict.fWriter, .int .i64 v9.fConflict.fReader] [.int .i64 v10.fConflict.fTable, .int .i64 v10.fConflict.fWriter, .int .i64 v10.fConflict.fReader] (.g rfl rfl) rfl rfl PE rfl ?_
      refine qp rfl (qm rfl ?_)
      refine AF (t := 41) rfl (fun c11 => ?_) (fun c11 => ?_)
      ·have h := An c11 h
       refine qn rfl (qn rfl (qn rfl (qn rfl (qn rfl (qn rfl (qn rfl (qn rfl (qn rfl (qn rfl (qn rfl (qn rfl (qp rfl (AB (by kernel_rfl) ?_)))))))))))))
       exact As _ h (sm [] _ _ rfl rfl)
      ·have h := Ao c11 h
       refine qm rfl (qm rfl ?_)
       obtain ⟨v12, a12, b12, h⟩ := Ai h
       refine qi FC J3 a12 (Af b12) rfl (qg SI rfl (qK A9 AA rfl (qm rfl (qm rfl ?_))))
       obtain ⟨v13, a13, b13, h⟩ := Ai h
       refine qi FC J3 a13 (Af b13) rfl (qg SI rfl (qK A9 AA rfl ?_))
       obtain ⟨v14, a14, h⟩ := bind_some h
       refine AG [] (GX N ((Ah.mk v12.fMix.fBase v12.fMix.fNext v12.fMix.fHeld)) ((Ah.mk v13.fMix.fBase v13.fMix.fNext v13.fMix.fHeld)) v14 a14) W7 rfl (BZ rfl (qp rfl (AB (by kernel_rfl) ?_)))
       exact As _ h (sm [] _ _ rfl rfl)
    ·refine Ap rfl (fun c15 => ?_) (fun c15 => ?_)
     ·have h := An c15 h
      refine Ab (Aa Ac rfl (qa rfl (Ae ?_)))
      obtain rfl := sj h
      refine Am (sm [] [(4, bD false)] [] rfl rfl) (Az ?_)
      exact ⟨⟨[_], ⟨.tmp _ _ rfl, tv⟩, rfl⟩, tv⟩
     ·have h := Ao c15 h
      refine Aq (Aa Ac rfl (qm rfl (AP rfl (qa rfl (Ae ?_)))))
      exact As _ h (sm [] _ _ rfl rfl)
   ·have h := Ao c4 h
    refine AT ?_
    exact As _ h (sm [] _ _ rfl rfl)
  ·refine Am hs (Ab (Aa Ac rfl (qa rfl (Ae ?_))))
   obtain rfl := sj h
   refine Am (sm [] [(4, bD true)] [] rfl rfl) (Az ?_)
   exact ⟨⟨[_], ⟨.tmp _ _ rfl, tv⟩, rfl⟩, tv⟩
theorem Jl (N : Nat) (p0 : CU) (p1 : List B1) (r : Bool) (h : Da N p0 p1 = some r) : AC Tryz.prog 5 [.e (.agg [sC (p0.fVersions.map Bj), sC (p0.fNow.map Bj), sC (p0.fTarget.map Bj), sC (p0.fLinks.map Cx)]), pD (.sl (p1.map Fn))] [] (bD r) := by
 unfold Da at h
 refine Au (n := 90) (rs := [.tmp 4]) Tryz.func5 rfl rfl rfl (A7 rfl) (A7 rfl) rfl fun w0 S0 => ?_
 refine Ab (Aa Ac rfl (qb rfl (qa rfl (Ae (Ab (Aa Ac rfl (qL ZM ZZ rfl ?_)))))))
 obtain ⟨v1, a1, h⟩ := bind_some h
 refine AG [2001, 2002, 2003, 2004] (MO N p0 v1 a1) ZK rfl (qm rfl (qx rfl (qx rfl (qz Ty rfl (qs Dv rfl (qa rfl (Ae (Ab ?_))))))))
 refine AO h (fun v2 => mk [(1, pD (.sl (p1.map Fn))), (5, oD (.ptr 5 0)), (33, bD v2)] [(5, .box [.own 2005, .own 2006, .own 2007, .own 2008]), (2005, .vec 1 (v1.1.fVersions.map Al)), (2006, .vec 1 (v1.1.fNow.map Al)), (2007, .vec 1 (v1.1.fTarget.map Al)), (2008, .vec 6 (v1.1.fTables.map Ar))]) (fun j2 h => ?_) (fun v2 h => ?_)
 ·refine Aa Ac rfl ?_
  obtain ⟨v3, a3, h⟩ := bind_some h
  refine AG [] (ID N v3 a3) Yr rfl (BZ rfl (qm rfl ?_))
  refine AF (t := 25) rfl (fun c4 => ?_) (fun c4 => ?_)
  ·have h := An c4 h
   refine qn rfl (qn rfl (qp rfl (qm rfl (qn rfl (qn rfl (qn rfl (qp rfl (Ae ?_))))))))
   exact As _ h (sm [(2005, 2001), (2006, 2002), (2007, 2003), (2008, 2004)] _ _ rfl rfl)
  ·have h := Ao c4 h
   refine qm rfl (BZ rfl (qp rfl (qm rfl ?_)))
   refine AF (t := 29) rfl (fun c5 => ?_) (fun c5 => ?_)
   ·have h := An c5 h
    refine qn rfl (qn rfl (qn rfl (qp rfl (Ae ?_))))
    exact As _ h (sm [(2005, 2001), (2006, 2002), (2007, 2003), (2008, 2004)] _ _ rfl rfl)
   ·have h := Ao c5 h
    refine qm rfl (AX Vi rfl (Ey rfl (qp rfl (Ae ?_))))
    exact As _ h (sm [(2005, 2001), (2006, 2002), (2007, 2003), (2008, 2004)] _ _ rfl rfl)
 ·refine Ap rfl (fun c6 => ?_) (fun c6 => ?_)
  ·have h := An c6 h
   refine Ab (Aa Ac rfl ?_)
   obtain ⟨v7, a7, h⟩ := bind_some h
   refine AG [] (ID N v7 a7) Yr rfl (qa rfl (Ae ?_))
   obtain rfl := sj h
   refine Am (sm [] [(4, bD v7)] [] rfl rfl) (Az ?_)
   exact ⟨⟨[_], ⟨.tmp _ _ rfl, tv⟩, rfl⟩, tv⟩
  ·have h := Ao c6 h
   refine Aq (Ab (Aa Ac rfl (qa rfl (Ae (Ab (Ab (Aa Ac rfl (qm rfl (AX Vi rfl (qm rfl (Ae ?_)))))))))))
   refine AE (L := BS N p1 v1) h (fun v8 => mk [(5, oD (.ptr 5 0)), (7, oD (.own 2013)), (35, pD (.sl (p1.map Fn))), (36, iD ((p1.length : Int))), (37, iD v8.2)] [(5, .box [.own 2009, .own 2010, .own 2011, .own 2012]), (2009, .vec 1 (v1.1.fVersions.map Al)), (2010, .vec 1 (v1.1.fNow.map Al)), (2011, .vec 1 (v1.1.fTarget.map Al)), (2012, .vec 6 (v1.1.fTables.map Ar)), (2013, .vec 3 (v8.1.map Aj))]) (fun v9 => mk [(5, oD (.ptr 5 0)), (7, oD (.own 2018))] [(5, .box [.own 2014, .own 2015, .own 2016, .own 2017]), (2014, .vec 1 (v1.1.fVersions.map Al)), (2015, .vec 1 (v1.1.fNow.map Al)), (2016, .vec 1 (v1.1.fTarget.map Al)), (2017, .vec 6 (v1.1.fTables.map Ar)), (2018, .vec 3 (v9.map Aj))]) (fun _ _ => rfl) ((Br 7 2022 3 rfl rfl rfl).trans (sm [(2009, 2005), (2010, 2006), (2011, 2007), (2012, 2008), (2013, 2022)] _ _ rfl rfl)) (fun j8 n8 v8 h => ?_) (fun v9 s h hs => ?_)
   ·unfold BS at h
    refine Ab (Aa Ac rfl (AV rfl (Ae (Ab ?_))))
    refine Ap rfl (fun c10 => ?_) (fun c10 => ?_)
    ·have h := An c10 h
     refine Aq (Ab (AJ (Ab (Aa Ac rfl ?_))))
     obtain ⟨v11, a11, b11, h⟩ := Ai h
     refine qi Vi V2 a11 (Af b11) rfl (qK X0 V2 rfl (qz ap rfl (qs V2 rfl (Ae (Aa Ac rfl (qm rfl (qL DO Dv rfl (qL X0 V2 rfl ?_))))))))
     obtain ⟨v12, a12, h⟩ := bind_some h
     refine DC [2019, 2020, 2021] [2009, 2010, 2011, 2012] (MZ N v1.1 v11 v12 a12) Z8 (GD (fun _ => rfl) (GD (fun _ => rfl) (GD (fun _ => rfl) Cj))) rfl (DK (Bq 2019 _ _ rfl rfl) (DK (Bq 2020 _ _ rfl rfl) (DK (Bq 2021 _ _ rfl rfl) (D8 A3 AA CI rfl ?_))))
     obtain ⟨c13, h⟩ := AS h
     refine Dt (f := Aj) A3 A3 AA Q0 CI c13 rfl (qa rfl (Ae (Aa Ac rfl (AP rfl (qm rfl (Ae ?_))))))
     exact As _ h (sm [(2013, 46)] _ _ rfl rfl)
    ·have h := Ao c10 h
     refine AT ?_
     exact As _ h (sm [(2014, 2009), (2015, 2010), (2016, 2011), (2017, 2012), (2018, 2013)] _ _ rfl rfl)
   ·refine Am hs (Ab (Aa Ac rfl (qL DO Dv rfl (qm rfl (DK (Bq 2014 _ _ rfl rfl) (DK (Bq 2015 _ _ rfl rfl) (DK (Bq 2016 _ _ rfl rfl) (DK (Bq 2017 _ _ rfl rfl) (DK (Bq 2018 _ _ rfl rfl) ?_)))))))))
    obtain ⟨v14, a14, h⟩ := bind_some h
    refine AG [2023] (Iv N v1.1 v9 v14 a14) Xv rfl (qm rfl (qx rfl (qx rfl (qa rfl (qa rfl (Ae (Ab (Aa Ac rfl (qL DO Dv rfl (qm rfl ?_))))))))))
    obtain ⟨v15, a15, h⟩ := bind_some h
    refine AG [2024] (Ij N v1.1 v9 v15 a15) X4 rfl (qm rfl (qx rfl (qx rfl (qa rfl (qa rfl (Ae (Ab (Aa Ac rfl (qL DO Dv rfl (qm rfl ?_))))))))))
    obtain ⟨v16, a16, h⟩ := bind_some h
    refine AG [2025] (JR N v1.1 v9 v16 a16) Zo rfl (qm rfl (qx rfl (qx rfl (qa rfl (qa rfl (Ae (Ab (Aa Ac rfl (qL DO Dv rfl (qm rfl ?_))))))))))
    obtain ⟨v17, a17, h⟩ := bind_some h
    refine AG [2026] (Kx N v1.1 v9 v17 a17) aB rfl (qm rfl (qx rfl (qx rfl (qa rfl (qa rfl (Ae ?_))))))
    refine AO h (fun v18 => mk [(4, bD v18)] []) (fun j18 h => ?_) (fun v18 h => ?_)
    ·refine Aa Ac rfl (qm rfl (qm rfl (BL rfl (qm rfl ?_))))
     refine AF (t := 75) rfl (fun c19 => ?_) (fun c19 => ?_)
     ·have h := An c19 h
      refine qm rfl (qm rfl (BL rfl (qp rfl (qm rfl ?_))))
      refine AF (t := 80) rfl (fun c20 => ?_) (fun c20 => ?_)
      ·have h := An c20 h
       refine qm rfl (qm rfl ?_)
       obtain ⟨v21, a21, h⟩ := bind_some h
       refine DC [] [2023, 2024] (LQ N v14.1 v15.1 v21 a21) ZW Cj rfl (qp rfl (qm rfl ?_))
       refine AF (t := 85) rfl (fun c22 => ?_) (fun c22 => ?_)
       ·have h := An c22 h
        refine qm rfl (qm rfl ?_)
        obtain ⟨v23, a23, h⟩ := bind_some h
        refine DC [] [2025, 2026] (Hb N v16.1 v17.1 v23 a23) Zl Cj rfl (qp rfl (qa rfl (Ae ?_)))
        exact As _ h (sm [] _ _ rfl rfl)
       ·have h := Ao c22 h
        refine qn rfl (qn rfl (qn rfl (qp rfl (qa rfl (Ae ?_)))))
        exact As _ h (sm [] _ _ rfl rfl)
      ·have h := Ao c20 h
       refine qn rfl (qn rfl (qn rfl (qp rfl (qm rfl (qn rfl (qn rfl (qn rfl (qp rfl (qa rfl (Ae ?_))))))))))
       exact As _ h (sm [] _ _ rfl rfl)
     ·have h := Ao c19 h
      refine qn rfl (qn rfl (qn rfl (qp rfl (qm rfl (qn rfl (qn rfl (qn rfl (qp rfl (qm rfl (qn rfl (qn rfl (qn rfl (qp rfl (qa rfl (Ae ?_)))))))))))))))
      exact As _ h (sm [] _ _ rfl rfl)
    ·obtain rfl := sj h
     refine Am (sm [] [(4, bD v18)] [] rfl rfl) (Az ?_)
     exact ⟨⟨[_], ⟨.tmp _ _ rfl, tv⟩, rfl⟩, tv⟩
end Go.Lift
