/- Lemmas for ReachErrorsSaid, which YtfnobkfnohhmmaaFinW3 proves. -/
import Derived.Test.YtfnobkfnohhmmaaCode2
/- That the code does what the shallow programs do, function by function. Written by a program (gen.py). -/
namespace Go.Lift
open Go.RowKit
open Go.Proofs
set_option maxRecDepth 10000 in
theorem Ff (N : Nat) (p0 : List Af) (p1 : Int) (p2 : Int) (p3 : Int) (p4 : (Af × Af) → Option Int) (r : Int × Bool × (List Af)) (h : Cr N p0 p1 p2 p3 p4 = some r) : Bg Try.prog 69 [.e (.one (.own 90000)), .e (.one (.pure (.val (.int .i64 p1)))), .e (.one (.pure (.val (.int .i64 p2)))), .e (.one (.pure (.val (.int .i64 p3)))), .e (.one (.clo (Bp (C4 true Ae true Ae) BW p4)))] [(.vec 3 (p0.map Ae), .vec 3 (r.2.2.map Ae))] [] (.tup [.one (.pure (.val (.int .i64 r.1))), .one (.pure (.val (.bool r.2.1)))]) := by
 unfold Cr at h
 refine A9 (n := 178) (rs := [.tmp 10, .tmp 11]) Try.func69 rfl rfl rfl (AV rfl) (AV rfl) rfl rfl (AV rfl) rfl (AV rfl) fun w0 S0 GL => ?_
 refine Aj (sm [] [(0, .e (.one (.own 90000))), (1, .e (.one (.pure (.val (.int .i64 p1))))), (2, .e (.one (.pure (.val (.int .i64 p2))))), (3, .e (.one (.pure (.val (.int .i64 p3))))), (4, .e (.one (.clo (Bp (C4 true Ae true Ae) BW p4))))] [(90000, .vec 3 (p0.map Ae))] rfl rfl) (Ab (Aa Ad rfl (qa rfl (qa rfl (Ac (Ab (Aa Ad rfl (qm rfl (qm rfl (qm rfl (qm rfl (qm rfl (qm rfl ?_)))))))))))))
 obtain ⟨v1, a1, b1, h⟩ := Ah h
 refine qI AE Aw a1 (Ag b1) rfl (qJ AU Aw (Ag b1) rfl (qm rfl (qm rfl ?_)))
 obtain ⟨v2, a2, b2, h⟩ := Ah h
 refine qI AE Aw a2 (Ag b2) rfl (qJ AU Aw (Ag b2) rfl ?_)
 obtain ⟨v3, a3, b3, h⟩ := Ah h
 refine qI AE Aw a3 (Ag b3) rfl ?_
 refine AZ rfl rfl rfl rfl (Ag b3) rfl Aw rfl (AV rfl) (A0 Ae p0 _ v1) ?_
 obtain ⟨v4, a4, b4, h⟩ := Ah h
 refine qI AE Aw a4 (Ag b4) rfl ?_
 refine AZ rfl rfl rfl rfl (Ag b4) rfl Aw rfl (AV rfl) (A0 Ae (p0.set ((p1).toNat) v1) _ v2) ?_
 refine AJ (by kernel_rfl) (Ab (Aa Ad rfl (qm rfl (AO rfl (qm rfl (BY rfl (qa rfl (qa rfl (Ac (Ab ?_))))))))))
 refine AF (L := BH N p0 p1 p2 p3 p4 v1 v2) h (fun v5 => mk [(0, .e (.one (.own 90000))), (1, .e (.one (.pure (.val (.int .i64 p1))))), (4, .e (.one (.clo (Bp (C4 true Ae true Ae) BW p4)))), (12, .e (.one (.pure (.val (.int .i64 v5))))), (13, .e (.one (.pure (.val (.int .i64 ((IntKind.wrap .i64 (p2 - 1))))))))] [(90000, .vec 3 (((p0.set ((p1).toNat) v1).set ((p3).toNat) v2).map Ae))]) (fun v6 => mk [(0, .e (.one (.own 90000))), (1, .e (.one (.pure (.val (.int .i64 p1))))), (4, .e (.one (.clo (Bp (C4 true Ae true Ae) BW p4)))), (12, .e (.one (.pure (.val (.int .i64 v6))))), (13, .e (.one (.pure (.val (.int .i64 ((IntKind.wrap .i64 (p2 - 1))))))))] [(90000, .vec 3 (((p0.set ((p1).toNat) v1).set ((p3).toNat) v2).map Ae))]) (fun _ _ => rfl) (sm [] _ _ rfl rfl) (fun j5 n5 v5 h => ?_) (fun v6 s h hs => ?_)
 ·unfold BH at h
  refine Ab ?_
  refine AN h (fun v7 => mk [(0, .e (.one (.own 90000))), (1, .e (.one (.pure (.val (.int .i64 p1))))), (4, .e (.one (.clo (Bp (C4 true Ae true Ae) BW p4)))), (12, .e (.one (.pure (.val (.int .i64 v5))))), (13, .e (.one (.pure (.val (.int .i64 ((IntKind.wrap .i64 (p2 - 1)))))))), (47, .e (.one (.pure (.val (.bool v7)))))] [(90000, .vec 3 (((p0.set ((p1).toNat) v1).set ((p3).toNat) v2).map Ae))]) (fun j7 h => ?_) (fun v7 h => ?_)
  ·refine Aa Ad rfl (qm rfl (qm rfl (Jn rfl (qm rfl ?_))))
   refine AA (t := 35) rfl (fun c8 => ?_) (fun c8 => ?_)
   ·have h := An c8 h
    refine qm rfl (qm rfl (qm rfl ?_))
    obtain ⟨v9, a9, b9, h⟩ := Ah h
    refine qI AE Aw a9 (Ag b9) rfl (qJ AU Aw (Ag b9) rfl (qm rfl (qm rfl ?_)))
    obtain ⟨v10, a10, b10, h⟩ := Ah h
    refine qI AE Aw a10 (Ag b10) rfl (qJ AU Aw (Ag b10) rfl ?_)
    obtain ⟨v11, a11, h⟩ := bind_some h
    refine C9 (ds0 := [_, _]) (ar := (C4 true Ae true Ae) ((v9, v10))) (.g rfl rfl) rfl rfl ⟨rfl, rfl, trivial⟩ rfl rfl rfl (C6 (DI _ _ _ _ A5 A5) a11) ?_
    refine AS rfl (qp rfl (AJ (by kernel_rfl) ?_))
    exact Av _ h (sm [] _ _ rfl rfl)
   ·have h := Am c8 h
    refine qn rfl (qn rfl (qn rfl (qn rfl (qn rfl (qn rfl (qn rfl (qn rfl (qn rfl (qn rfl (qn rfl (qp rfl (AJ (by kernel_rfl) ?_))))))))))))
    exact Av _ h (sm [] _ _ rfl rfl)
  ·refine Ao rfl (fun c12 => ?_) (fun c12 => ?_)
   ·have h := An c12 h
    refine Ap (AI (Aa Ad rfl (qm rfl (AO rfl (qa rfl (Ac ?_))))))
    exact Av _ h (sm [] _ _ rfl rfl)
   ·have h := Am c12 h
    refine AR ?_
    exact Av _ h (sm [] _ _ rfl rfl)
 ·refine Aj hs (Ab ?_)
  refine AF (L := BD N p0 p1 p3 p4 v1 v2 v6) h (fun v13 => mk [(0, .e (.one (.own 90000))), (1, .e (.one (.pure (.val (.int .i64 p1))))), (4, .e (.one (.clo (Bp (C4 true Ae true Ae) BW p4)))), (12, .e (.one (.pure (.val (.int .i64 v6))))), (13, .e (.one (.pure (.val (.int .i64 v13)))))] [(90000, .vec 3 (((p0.set ((p1).toNat) v1).set ((p3).toNat) v2).map Ae))]) (fun v14 => mk [(0, .e (.one (.own 90000))), (1, .e (.one (.pure (.val (.int .i64 p1))))), (4, .e (.one (.clo (Bp (C4 true Ae true Ae) BW p4)))), (12, .e (.one (.pure (.val (.int .i64 v6))))), (13, .e (.one (.pure (.val (.int .i64 v14)))))] [(90000, .vec 3 (((p0.set ((p1).toNat) v1).set ((p3).toNat) v2).map Ae))]) (fun _ _ => rfl) (sm [] _ _ rfl rfl) (fun j13 n13 v13 h => ?_) (fun v14 s h hs => ?_)
  ·unfold BD at h
   refine Ab ?_
   refine AN h (fun v15 => mk [(0, .e (.one (.own 90000))), (1, .e (.one (.pure (.val (.int .i64 p1))))), (4, .e (.one (.clo (Bp (C4 true Ae true Ae) BW p4)))), (12, .e (.one (.pure (.val (.int .i64 v6))))), (13, .e (.one (.pure (.val (.int .i64 v13))))), (66, .e (.one (.pure (.val (.bool v15)))))] [(90000, .vec 3 (((p0.set ((p1).toNat) v1).set ((p3).toNat) v2).map Ae))]) (fun j15 h => ?_) (fun v15 h => ?_)
   ·refine Aa Ad rfl (qm rfl (qm rfl (Jn rfl (qm rfl ?_))))
    refine AA (t := 53) rfl (fun c16 => ?_) (fun c16 => ?_)
    ·have h := An c16 h
     refine qm rfl (qm rfl (qm rfl ?_))
     obtain ⟨v17, a17, b17, h⟩ := Ah h
     refine qI AE Aw a17 (Ag b17) rfl (qJ AU Aw (Ag b17) rfl (qm rfl (qm rfl ?_)))
     obtain ⟨v18, a18, b18, h⟩ := Ah h
     refine qI AE Aw a18 (Ag b18) rfl (qJ AU Aw (Ag b18) rfl ?_)
     obtain ⟨v19, a19, h⟩ := bind_some h
     refine C9 (ds0 := [_, _]) (ar := (C4 true Ae true Ae) ((v17, v18))) (.g rfl rfl) rfl rfl ⟨rfl, rfl, trivial⟩ rfl rfl rfl (C6 (DI _ _ _ _ A5 A5) a19) ?_
     refine AS rfl (Cg rfl (qp rfl (AJ (by kernel_rfl) ?_)))
     exact Av _ h (sm [] _ _ rfl rfl)
    ·have h := Am c16 h
     refine qn rfl (qn rfl (qn rfl (qn rfl (qn rfl (qn rfl (qn rfl (qn rfl (qn rfl (qn rfl (qn rfl (qn rfl (qp rfl (AJ (by kernel_rfl) ?_)))))))))))))
     exact Av _ h (sm [] _ _ rfl rfl)
   ·refine Ao rfl (fun c20 => ?_) (fun c20 => ?_)
    ·have h := An c20 h
     refine Ap (AI (Aa Ad rfl (qm rfl (BY rfl (qa rfl (Ac ?_))))))
     exact Av _ h (sm [] _ _ rfl rfl)
    ·have h := Am c20 h
     refine AR ?_
     exact Av _ h (sm [] _ _ rfl rfl)
  ·refine Aj hs (Ab (Ab (Aa Ad rfl (qm rfl (qm rfl (Dd rfl (Ac ?_)))))))
   refine Ao rfl (fun c21 => ?_) (fun c21 => ?_)
   ·have h := An c21 h
    refine Ab (Aa Ad rfl (qm rfl (qm rfl (qm rfl (qm rfl (qm rfl (qm rfl ?_)))))))
    obtain ⟨v22, a22, b22, h⟩ := Ah h
    refine qI AE Aw a22 (Ag b22) rfl (qJ AU Aw (Ag b22) rfl (qm rfl (qm rfl ?_)))
    obtain ⟨v23, a23, b23, h⟩ := Ah h
    refine qI AE Aw a23 (Ag b23) rfl (qJ AU Aw (Ag b23) rfl ?_)
    obtain ⟨v24, a24, b24, h⟩ := Ah h
    refine qI AE Aw a24 (Ag b24) rfl ?_
    refine AZ rfl rfl rfl rfl (Ag b24) rfl Aw rfl (AV rfl) (A0 Ae ((p0.set ((p1).toNat) v1).set ((p3).toNat) v2) _ v22) ?_
    obtain ⟨v25, a25, b25, h⟩ := Ah h
    refine qI AE Aw a25 (Ag b25) rfl ?_
    refine AZ rfl rfl rfl rfl (Ag b25) rfl Aw rfl (AV rfl) (A0 Ae (((p0.set ((p1).toNat) v1).set ((p3).toNat) v2).set ((v14).toNat) v22) _ v23) ?_
    refine AJ (by kernel_rfl) (Ab (Aa Ad rfl (qm rfl (qa rfl (qa rfl (Ac ?_))))))
    obtain rfl := sj h
    refine Aj (sm [] [(10, .e (.one (.pure (.val (.int .i64 v14))))), (11, .e (.one (.pure (.val (.bool true)))))] [(90000, .vec 3 (((((p0.set ((p1).toNat) v1).set ((p3).toNat) v2).set ((v14).toNat) v22).set ((p1).toNat) v23).map Ae))] rfl rfl) (Ax ?_)
    exact ⟨⟨[_, _], ⟨.tmp _ _ rfl, ⟨.tmp _ _ rfl, trivial⟩⟩, rfl⟩, ⟨rfl, trivial⟩, trivial⟩
   ·have h := Am c21 h
    refine Ap (Ab (Aa Ad rfl (qm rfl (qm rfl (qm rfl (qm rfl (qm rfl (qm rfl ?_))))))))
    obtain ⟨v26, a26, b26, h⟩ := Ah h
    refine qI AE Aw a26 (Ag b26) rfl (qJ AU Aw (Ag b26) rfl (qm rfl (qm rfl ?_)))
    obtain ⟨v27, a27, b27, h⟩ := Ah h
    refine qI AE Aw a27 (Ag b27) rfl (qJ AU Aw (Ag b27) rfl ?_)
    obtain ⟨v28, a28, b28, h⟩ := Ah h
    refine qI AE Aw a28 (Ag b28) rfl ?_
    refine AZ rfl rfl rfl rfl (Ag b28) rfl Aw rfl (AV rfl) (A0 Ae ((p0.set ((p1).toNat) v1).set ((p3).toNat) v2) _ v26) ?_
    obtain ⟨v29, a29, b29, h⟩ := Ah h
    refine qI AE Aw a29 (Ag b29) rfl ?_
    refine AZ rfl rfl rfl rfl (Ag b29) rfl Aw rfl (AV rfl) (A0 Ae (((p0.set ((p1).toNat) v1).set ((p3).toNat) v2).set ((v6).toNat) v26) _ v27) ?_
    refine AJ (by kernel_rfl) (Ab (Aa Ad rfl (qm rfl (AO rfl (qa rfl (Ac (Ab (Aa Ad rfl (qm rfl (BY rfl (qa rfl (Ac (Ab ?_)))))))))))))
    refine AF (L := BC N p1 p4) h (fun v30 => mk [(0, .e (.one (.own 90000))), (1, .e (.one (.pure (.val (.int .i64 p1))))), (4, .e (.one (.clo (Bp (C4 true Ae true Ae) BW p4)))), (12, .e (.one (.pure (.val (.int .i64 v30.2.1))))), (13, .e (.one (.pure (.val (.int .i64 v30.2.2)))))] [(90000, .vec 3 (v30.1.map Ae))]) (fun v31 => mk [(0, .e (.one (.own 90000))), (1, .e (.one (.pure (.val (.int .i64 p1))))), (13, .e (.one (.pure (.val (.int .i64 v31.2)))))] [(90000, .vec 3 (v31.1.map Ae))]) (fun _ _ => rfl) (sm [] _ _ rfl rfl) (fun j30 n30 v30 h => ?_) (fun v31 s h hs => ?_)
    ·unfold BC at h
     refine AI (Ab ?_)
     refine AF (L := BB N p1 p4 v30) h (fun v32 => mk [(0, .e (.one (.own 90000))), (1, .e (.one (.pure (.val (.int .i64 p1))))), (4, .e (.one (.clo (Bp (C4 true Ae true Ae) BW p4)))), (12, .e (.one (.pure (.val (.int .i64 v32))))), (13, .e (.one (.pure (.val (.int .i64 v30.2.2)))))] [(90000, .vec 3 (v30.1.map Ae))]) (fun v33 => mk [(0, .e (.one (.own 90000))), (1, .e (.one (.pure (.val (.int .i64 p1))))), (4, .e (.one (.clo (Bp (C4 true Ae true Ae) BW p4)))), (12, .e (.one (.pure (.val (.int .i64 v33))))), (13, .e (.one (.pure (.val (.int .i64 v30.2.2)))))] [(90000, .vec 3 (v30.1.map Ae))]) (fun _ _ => rfl) (sm [] _ _ rfl rfl) (fun j32 n32 v32 h => ?_) (fun v33 s h hs => ?_)
     ·unfold BB at h
      refine Ab ?_
      refine AN h (fun v34 => mk [(0, .e (.one (.own 90000))), (1, .e (.one (.pure (.val (.int .i64 p1))))), (4, .e (.one (.clo (Bp (C4 true Ae true Ae) BW p4)))), (12, .e (.one (.pure (.val (.int .i64 v32))))), (13, .e (.one (.pure (.val (.int .i64 v30.2.2))))), (120, .e (.one (.pure (.val (.bool v34)))))] [(90000, .vec 3 (v30.1.map Ae))]) (fun j34 h => ?_) (fun v34 h => ?_)
      ·refine Aa Ad rfl (qm rfl (qm rfl (Jn rfl (qm rfl ?_))))
       refine AA (t := 108) rfl (fun c35 => ?_) (fun c35 => ?_)
       ·have h := An c35 h
        refine qm rfl (qm rfl (qm rfl ?_))
        obtain ⟨v36, a36, b36, h⟩ := Ah h
        refine qI AE Aw a36 (Ag b36) rfl (qJ AU Aw (Ag b36) rfl (qm rfl (qm rfl ?_)))
        obtain ⟨v37, a37, b37, h⟩ := Ah h
        refine qI AE Aw a37 (Ag b37) rfl (qJ AU Aw (Ag b37) rfl ?_)
        obtain ⟨v38, a38, h⟩ := bind_some h
        refine C9 (ds0 := [_, _]) (ar := (C4 true Ae true Ae) ((v36, v37))) (.g rfl rfl) rfl rfl ⟨rfl, rfl, trivial⟩ rfl rfl rfl (C6 (DI _ _ _ _ A5 A5) a38) ?_
        refine AS rfl (qp rfl (AJ (by kernel_rfl) ?_))
        exact Av _ h (sm [] _ _ rfl rfl)
       ·have h := Am c35 h
        refine qn rfl (qn rfl (qn rfl (qn rfl (qn rfl (qn rfl (qn rfl (qn rfl (qn rfl (qn rfl (qn rfl (qp rfl (AJ (by kernel_rfl) ?_))))))))))))
        exact Av _ h (sm [] _ _ rfl rfl)
      ·refine Ao rfl (fun c39 => ?_) (fun c39 => ?_)
       ·have h := An c39 h
        refine Ap (AI (Aa Ad rfl (qm rfl (AO rfl (qa rfl (Ac ?_))))))
        exact Av _ h (sm [] _ _ rfl rfl)
       ·have h := Am c39 h
        refine AR ?_
        exact Av _ h (sm [] _ _ rfl rfl)
     ·refine Aj hs (Ab ?_)
      refine AF (L := BE N p1 p4 v30 v33) h (fun v40 => mk [(0, .e (.one (.own 90000))), (1, .e (.one (.pure (.val (.int .i64 p1))))), (4, .e (.one (.clo (Bp (C4 true Ae true Ae) BW p4)))), (12, .e (.one (.pure (.val (.int .i64 v33))))), (13, .e (.one (.pure (.val (.int .i64 v40)))))] [(90000, .vec 3 (v30.1.map Ae))]) (fun v41 => mk [(0, .e (.one (.own 90000))), (1, .e (.one (.pure (.val (.int .i64 p1))))), (4, .e (.one (.clo (Bp (C4 true Ae true Ae) BW p4)))), (12, .e (.one (.pure (.val (.int .i64 v33))))), (13, .e (.one (.pure (.val (.int .i64 v41)))))] [(90000, .vec 3 (v30.1.map Ae))]) (fun _ _ => rfl) (sm [] _ _ rfl rfl) (fun j40 n40 v40 h => ?_) (fun v41 s h hs => ?_)
      ·unfold BE at h
       refine Ab ?_
       refine AN h (fun v42 => mk [(0, .e (.one (.own 90000))), (1, .e (.one (.pure (.val (.int .i64 p1))))), (4, .e (.one (.clo (Bp (C4 true Ae true Ae) BW p4)))), (12, .e (.one (.pure (.val (.int .i64 v33))))), (13, .e (.one (.pure (.val (.int .i64 v40))))), (139, .e (.one (.pure (.val (.bool v42)))))] [(90000, .vec 3 (v30.1.map Ae))]) (fun j42 h => ?_) (fun v42 h => ?_)
       ·refine Aa Ad rfl (qm rfl (qm rfl (Jn rfl (qm rfl ?_))))
        refine AA (t := 126) rfl (fun c43 => ?_) (fun c43 => ?_)
        ·have h := An c43 h
         refine qm rfl (qm rfl (qm rfl ?_))
         obtain ⟨v44, a44, b44, h⟩ := Ah h
         refine qI AE Aw a44 (Ag b44) rfl (qJ AU Aw (Ag b44) rfl (qm rfl (qm rfl ?_)))
         obtain ⟨v45, a45, b45, h⟩ := Ah h
         refine qI AE Aw a45 (Ag b45) rfl (qJ AU Aw (Ag b45) rfl ?_)
         obtain ⟨v46, a46, h⟩ := bind_some h
         refine C9 (ds0 := [_, _]) (ar := (C4 true Ae true Ae) ((v44, v45))) (.g rfl rfl) rfl rfl ⟨rfl, rfl, trivial⟩ rfl rfl rfl (C6 (DI _ _ _ _ A5 A5) a46) ?_
         refine AS rfl (Cg rfl (qp rfl (AJ (by kernel_rfl) ?_)))
         exact Av _ h (sm [] _ _ rfl rfl)
        ·have h := Am c43 h
         refine qn rfl (qn rfl (qn rfl (qn rfl (qn rfl (qn rfl (qn rfl (qn rfl (qn rfl (qn rfl (qn rfl (qn rfl (qp rfl (AJ (by kernel_rfl) ?_)))))))))))))
         exact Av _ h (sm [] _ _ rfl rfl)
       ·refine Ao rfl (fun c47 => ?_) (fun c47 => ?_)
        ·have h := An c47 h
         refine Ap (AI (Aa Ad rfl (qm rfl (BY rfl (qa rfl (Ac ?_))))))
         exact Av _ h (sm [] _ _ rfl rfl)
        ·have h := Am c47 h
         refine AR ?_
         exact Av _ h (sm [] _ _ rfl rfl)
      ·refine Aj hs (Ab (Ab (Aa Ad rfl (qm rfl (qm rfl (Dd rfl (Ac ?_)))))))
       refine Ao rfl (fun c48 => ?_) (fun c48 => ?_)
       ·have h := An c48 h
        refine AR ?_
        exact Av _ h (sm [] _ _ rfl rfl)
       ·have h := Am c48 h
        refine Ap (Ab (Aa Ad rfl (qm rfl (qm rfl (qm rfl (qm rfl (qm rfl (qm rfl ?_))))))))
        obtain ⟨v49, a49, b49, h⟩ := Ah h
        refine qI AE Aw a49 (Ag b49) rfl (qJ AU Aw (Ag b49) rfl (qm rfl (qm rfl ?_)))
        obtain ⟨v50, a50, b50, h⟩ := Ah h
        refine qI AE Aw a50 (Ag b50) rfl (qJ AU Aw (Ag b50) rfl ?_)
        obtain ⟨v51, a51, b51, h⟩ := Ah h
        refine qI AE Aw a51 (Ag b51) rfl ?_
        refine AZ rfl rfl rfl rfl (Ag b51) rfl Aw rfl (AV rfl) (A0 Ae v30.1 _ v49) ?_
        obtain ⟨v52, a52, b52, h⟩ := Ah h
        refine qI AE Aw a52 (Ag b52) rfl ?_
        refine AZ rfl rfl rfl rfl (Ag b52) rfl Aw rfl (AV rfl) (A0 Ae (v30.1.set ((v33).toNat) v49) _ v50) ?_
        refine AJ (by kernel_rfl) (Ab (Aa Ad rfl (qm rfl (AO rfl (qa rfl (Ac (Aa Ad rfl (qm rfl (BY rfl (qa rfl (Ac ?_)))))))))))
        exact Av _ h (sm [] _ _ rfl rfl)
    ·refine Aj hs (Ab (Aa Ad rfl (qm rfl (qm rfl (qm rfl (qm rfl (qm rfl (qm rfl ?_))))))))
     obtain ⟨v53, a53, b53, h⟩ := Ah h
     refine qI AE Aw a53 (Ag b53) rfl (qJ AU Aw (Ag b53) rfl (qm rfl (qm rfl ?_)))
     obtain ⟨v54, a54, b54, h⟩ := Ah h
     refine qI AE Aw a54 (Ag b54) rfl (qJ AU Aw (Ag b54) rfl ?_)
     obtain ⟨v55, a55, b55, h⟩ := Ah h
     refine qI AE Aw a55 (Ag b55) rfl ?_
     refine AZ rfl rfl rfl rfl (Ag b55) rfl Aw rfl (AV rfl) (A0 Ae v31.1 _ v53) ?_
     obtain ⟨v56, a56, b56, h⟩ := Ah h
     refine qI AE Aw a56 (Ag b56) rfl ?_
     refine AZ rfl rfl rfl rfl (Ag b56) rfl Aw rfl (AV rfl) (A0 Ae (v31.1.set ((v31.2).toNat) v53) _ v54) ?_
     refine AJ (by kernel_rfl) (Ab (Aa Ad rfl (qm rfl (qa rfl (qa rfl (Ac ?_))))))
     obtain rfl := sj h
     refine Aj (sm [] [(10, .e (.one (.pure (.val (.int .i64 v31.2))))), (11, .e (.one (.pure (.val (.bool false)))))] [(90000, .vec 3 (((v31.1.set ((v31.2).toNat) v53).set ((p1).toNat) v54).map Ae))] rfl rfl) (Ax ?_)
     exact ⟨⟨[_, _], ⟨.tmp _ _ rfl, ⟨.tmp _ _ rfl, trivial⟩⟩, rfl⟩, ⟨rfl, trivial⟩, trivial⟩
set_option maxRecDepth 10000 in
theorem Fe (N : Nat) (rc : (List Af) → Int → Int → Int → ((Af × Af) → Option Int) → Option ((List Af))) (hrc : ∀ (p0 : List Af) (p1 : Int) (p2 : Int) (p3 : Int) (p4 : (Af × Af) → Option Int) (r : (List Af)), rc p0 p1 p2 p3 p4 = some r → Bg Try.prog 45 [.e (.one (.own 90000)), .e (.one (.pure (.val (.int .i64 p1)))), .e (.one (.pure (.val (.int .i64 p2)))), .e (.one (.pure (.val (.int .i64 p3)))), .e (.one (.clo (Bp (C4 true Ae true Ae) BW p4)))] [(.vec 3 (p0.map Ae), .vec 3 (r.map Ae))] [] (.tup [])) (p0 : List Af) (p1 : Int) (p2 : Int) (p3 : Int) (p4 : (Af × Af) → Option Int) (r : (List Af)) (h : Cs N rc p0 p1 p2 p3 p4 = some r) : Bg Try.prog 45 [.e (.one (.own 90000)), .e (.one (.pure (.val (.int .i64 p1)))), .e (.one (.pure (.val (.int .i64 p2)))), .e (.one (.pure (.val (.int .i64 p3)))), .e (.one (.clo (Bp (C4 true Ae true Ae) BW p4)))] [(.vec 3 (p0.map Ae), .vec 3 (r.map Ae))] [] (.tup []) := by
 unfold Cs at h
 refine A9 (n := 148) (rs := []) Try.func45 rfl rfl rfl (AV rfl) (AV rfl) rfl rfl (AV rfl) rfl (AV rfl) fun w0 S0 GL => JT ?_
 refine Aj (sm [] [(0, .e (.one (.own 90000))), (1, .e (.one (.pure (.val (.int .i64 p1))))), (2, .e (.one (.pure (.val (.int .i64 p2))))), (3, .e (.one (.pure (.val (.int .i64 p3))))), (4, .e (.one (.clo (Bp (C4 true Ae true Ae) BW p4))))] [(90000, .vec 3 (p0.map Ae))] rfl rfl) (Ab (Aa Ad rfl (qa rfl (Ac (Ab (Aa Ad rfl (qa rfl (Ac ?_))))))))
 refine AF (L := A6 N p4 rc) h (fun v1 => mk [(0, .e (.one (.own 90000))), (1, .e (.one (.pure (.val (.int .i64 v1.2.1))))), (2, .e (.one (.pure (.val (.int .i64 v1.2.2.1))))), (3, .e (.one (.pure (.val (.int .i64 v1.2.2.2.1))))), (4, .e (.one (.clo (Bp (C4 true Ae true Ae) BW p4)))), (10, .e (.one (.pure (.val (.bool v1.2.2.2.2.1))))), (11, .e (.one (.pure (.val (.bool v1.2.2.2.2.2)))))] [(90000, .vec 3 (v1.1.map Ae))]) (fun v2 => mk [] []) (fun _ _ => rfl) (sm [] _ _ rfl rfl) (fun j1 n1 v1 h => ?_) (fun v2 s h hs => ?_)
 ·unfold A6 at h
  refine AI (Ab (Aa Ad rfl (qm rfl (qm rfl (BY rfl (qa rfl (Ac (Ab (Ab (Aa Ad rfl (qm rfl (Jn rfl (Ac ?_)))))))))))))
  refine Ao rfl (fun c3 => ?_) (fun c3 => ?_)
  ·have h := An c3 h
   refine Ab (Aa Ad rfl (qm rfl (qm rfl (qm rfl (qm rfl ?_)))))
   obtain ⟨v4, a4, h⟩ := bind_some h
   refine Ce (ds0 := [_, _, _, _]) [90000] [] [true] (Eq N v1.1 v1.2.1 v1.2.2.1 p4 v4 a4) (.p rfl) Ro rfl ⟨rfl, rfl, rfl, rfl, trivial⟩ rfl rfl (by decide) ⟨rfl, trivial⟩ rfl (AX rfl) trivial ⟨(fun h => by cases h), trivial⟩ rfl rfl rfl ?_
   refine Ac ?_
   obtain rfl := sj h
   refine Ax ⟨_, (sm [] [] [(90000, .vec 3 (v4.map Ae))] rfl rfl), ?_⟩
   exact ⟨⟨[], trivial, rfl⟩, ⟨rfl, trivial⟩, trivial⟩
  ·have h := Am c3 h
   refine Ap (Ab (Ab (Aa Ad rfl (qm rfl (BR rfl (Ac ?_))))))
   refine Ao rfl (fun c5 => ?_) (fun c5 => ?_)
   ·have h := An c5 h
    refine Ab (Aa Ad rfl (qm rfl (qm rfl (qm rfl (qm rfl ?_)))))
    obtain ⟨v6, a6, h⟩ := bind_some h
    refine Ce (ds0 := [_, _, _, _]) [90000] [] [true] (Fv N v1.1 v1.2.1 v1.2.2.1 p4 v6 a6) (.p rfl) Ry rfl ⟨rfl, rfl, rfl, rfl, trivial⟩ rfl rfl (by decide) ⟨rfl, trivial⟩ rfl (AX rfl) trivial ⟨(fun h => by cases h), trivial⟩ rfl rfl rfl ?_
    refine Ac ?_
    obtain rfl := sj h
    refine Ax ⟨_, (sm [] [] [(90000, .vec 3 (v6.map Ae))] rfl rfl), ?_⟩
    exact ⟨⟨[], trivial, rfl⟩, ⟨rfl, trivial⟩, trivial⟩
   ·have h := Am c5 h
    refine Ap ?_
    refine AN h (fun v7 => mk [(0, .e (.one (.own 90000))), (1, .e (.one (.pure (.val (.int .i64 v1.2.1))))), (2, .e (.one (.pure (.val (.int .i64 v1.2.2.1))))), (3, .e (.one (.pure (.val (.int .i64 v7.2))))), (4, .e (.one (.clo (Bp (C4 true Ae true Ae) BW p4)))), (10, .e (.one (.pure (.val (.bool v1.2.2.2.2.1))))), (11, .e (.one (.pure (.val (.bool v1.2.2.2.2.2))))), (12, .e (.one (.pure (.val (.int .i64 ((IntKind.wrap .i64 (v1.2.2.1 - v1.2.1))))))))] [(90000, .vec 3 (v7.1.map Ae))]) (fun j7 h => ?_) (fun v7 h => ?_)
    ·refine Ab (Aa Ad rfl (qm rfl (Cg rfl (Ac ?_))))
     refine Ao rfl (fun c8 => ?_) (fun c8 => ?_)
     ·have h := An c8 h
      refine Ab (Aa Ad rfl (qm rfl (qm rfl (qm rfl (qm rfl ?_)))))
      obtain ⟨v9, a9, h⟩ := bind_some h
      refine Ce (ds0 := [_, _, _, _]) [90000] [] [true] (EC N v1.1 v1.2.1 v1.2.2.1 p4 v9 a9) (.p rfl) RP rfl ⟨rfl, rfl, rfl, rfl, trivial⟩ rfl rfl (by decide) ⟨rfl, trivial⟩ rfl (AX rfl) trivial ⟨(fun h => by cases h), trivial⟩ rfl rfl rfl ?_
      refine Ac (Aa Ad rfl (qm rfl (BY rfl (qa rfl (Ac ?_)))))
      exact Av _ h (sm [] _ _ rfl rfl)
     ·have h := Am c8 h
      refine Ap ?_
      exact Av _ h (sm [] _ _ rfl rfl)
    ·refine Ab (Aa Ad rfl (qm rfl (qm rfl (qm rfl (qm rfl ?_)))))
     obtain ⟨v10, a10, h⟩ := bind_some h
     refine Fr [] [90000] (EP N v7.1 v1.2.1 v1.2.2.1 p4 v10 a10) Rl DQ rfl (qm rfl (qx rfl (qx rfl (qa rfl (qa rfl (Ac ?_))))))
     refine AN h (fun v11 => mk [(0, .e (.one (.own 90000))), (1, .e (.one (.pure (.val (.int .i64 v1.2.1))))), (2, .e (.one (.pure (.val (.int .i64 v1.2.2.1))))), (3, .e (.one (.pure (.val (.int .i64 v7.2))))), (4, .e (.one (.clo (Bp (C4 true Ae true Ae) BW p4)))), (10, .e (.one (.pure (.val (.bool v1.2.2.2.2.1))))), (11, .e (.one (.pure (.val (.bool v1.2.2.2.2.2))))), (12, .e (.one (.pure (.val (.int .i64 ((IntKind.wrap .i64 (v1.2.2.1 - v1.2.1)))))))), (13, .e (.one (.pure (.val (.int .i64 v11.2.1))))), (14, .e (.one (.pure (.val (.int .i64 v11.2.2)))))] [(90000, .vec 3 (v11.1.map Ae))]) (fun j11 h => ?_) (fun v11 h => ?_)
     ·refine Ab (Aa Ad rfl (qm rfl (BR rfl (Ac ?_))))
      refine Ao rfl (fun c12 => ?_) (fun c12 => ?_)
      ·have h := An c12 h
       refine Ab (Aa Ad rfl (qm rfl (qm rfl (qm rfl (qm rfl ?_)))))
       obtain ⟨v13, a13, h⟩ := bind_some h
       refine Ce (ds0 := [_, _, _, _]) [90000] [] [true] (EG N v7.1 v1.2.1 v1.2.2.1 p4 v13 a13) (.p rfl) Q7 rfl ⟨rfl, rfl, rfl, rfl, trivial⟩ rfl rfl (by decide) ⟨rfl, trivial⟩ rfl (AX rfl) trivial ⟨(fun h => by cases h), trivial⟩ rfl rfl rfl ?_
       refine Ac (Ab (Aa Ad rfl (qm rfl (BY rfl (qm rfl (qm rfl (BY rfl (BY rfl (qa rfl (Ac (Aa Ad rfl (qa rfl (Ac ?_)))))))))))))
       exact Av _ h (sm [] _ _ rfl rfl)
      ·have h := Am c12 h
       refine Ap ?_
       exact Av _ h (sm [] _ _ rfl rfl)
     ·refine AN h (fun v14 => mk [(0, .e (.one (.own 90000))), (1, .e (.one (.pure (.val (.int .i64 v1.2.1))))), (2, .e (.one (.pure (.val (.int .i64 v1.2.2.1))))), (3, .e (.one (.pure (.val (.int .i64 v7.2))))), (4, .e (.one (.clo (Bp (C4 true Ae true Ae) BW p4)))), (10, .e (.one (.pure (.val (.bool v1.2.2.2.2.1))))), (11, .e (.one (.pure (.val (.bool v1.2.2.2.2.2))))), (12, .e (.one (.pure (.val (.int .i64 ((IntKind.wrap .i64 (v1.2.2.1 - v1.2.1)))))))), (13, .e (.one (.pure (.val (.int .i64 v11.2.1)))))] [(90000, .vec 3 (v14.map Ae))]) (fun j14 h => ?_) (fun v14 h => ?_)
      ·refine AN h (fun v15 => mk [(0, .e (.one (.own 90000))), (1, .e (.one (.pure (.val (.int .i64 v1.2.1))))), (2, .e (.one (.pure (.val (.int .i64 v1.2.2.1))))), (3, .e (.one (.pure (.val (.int .i64 v7.2))))), (4, .e (.one (.clo (Bp (C4 true Ae true Ae) BW p4)))), (10, .e (.one (.pure (.val (.bool v1.2.2.2.2.1))))), (11, .e (.one (.pure (.val (.bool v1.2.2.2.2.2))))), (12, .e (.one (.pure (.val (.int .i64 ((IntKind.wrap .i64 (v1.2.2.1 - v1.2.1)))))))), (13, .e (.one (.pure (.val (.int .i64 v11.2.1))))), (75, .e (.one (.pure (.val (.bool v15)))))] [(90000, .vec 3 (v11.1.map Ae))]) (fun j15 h => ?_) (fun v15 h => ?_)
       ·refine Aa Ad rfl (qm rfl (qm rfl ?_))
        refine AA (t := 69) rfl (fun c16 => ?_) (fun c16 => ?_)
        ·have h := An c16 h
         refine qm rfl (qp rfl (qm rfl ?_))
         refine AA (t := 72) rfl (fun c17 => ?_) (fun c17 => ?_)
         ·have h := An c17 h
          refine qm rfl (BR rfl (qp rfl (Ac ?_)))
          exact Av _ h (sm [] _ _ rfl rfl)
         ·have h := Am c17 h
          refine qn rfl (qn rfl (qp rfl (Ac ?_)))
          exact Av _ h (sm [] _ _ rfl rfl)
        ·have h := Am c16 h
         refine qn rfl (qp rfl (qm rfl (qn rfl (qn rfl (qp rfl (Ac ?_))))))
         exact Av _ h (sm [] _ _ rfl rfl)
       ·refine Ao rfl (fun c18 => ?_) (fun c18 => ?_)
        ·have h := An c18 h
         refine Ab (Aa Ad rfl (qm rfl (qm rfl (qm rfl (qm rfl ?_)))))
         obtain ⟨v19, a19, h⟩ := bind_some h
         refine Ce (ds0 := [_, _, _, _]) [90000] [] [true] (DM N v11.1 v1.2.1 v1.2.2.1 p4 v19 a19) (.p rfl) Re rfl ⟨rfl, rfl, rfl, rfl, trivial⟩ rfl rfl (by decide) ⟨rfl, trivial⟩ rfl (AX rfl) trivial ⟨(fun h => by cases h), trivial⟩ rfl rfl rfl ?_
         refine Ac ?_
         refine Ao rfl (fun c20 => ?_) (fun c20 => ?_)
         ·have h := An c20 h
          obtain rfl := sj h
          refine Ax ⟨_, (sm [] [] [(90000, .vec 3 (v19.2.map Ae))] rfl rfl), ?_⟩
          exact ⟨⟨[], trivial, rfl⟩, ⟨rfl, trivial⟩, trivial⟩
         ·have h := Am c20 h
          refine Ap ?_
          exact Av _ h (sm [] _ _ rfl rfl)
        ·have h := Am c18 h
         refine Ap ?_
         exact Av _ h (sm [] _ _ rfl rfl)
      ·refine Ab ?_
       refine AN h (fun v21 => mk [(0, .e (.one (.own 90000))), (1, .e (.one (.pure (.val (.int .i64 v1.2.1))))), (2, .e (.one (.pure (.val (.int .i64 v1.2.2.1))))), (3, .e (.one (.pure (.val (.int .i64 v7.2))))), (4, .e (.one (.clo (Bp (C4 true Ae true Ae) BW p4)))), (10, .e (.one (.pure (.val (.bool v1.2.2.2.2.1))))), (11, .e (.one (.pure (.val (.bool v1.2.2.2.2.2))))), (12, .e (.one (.pure (.val (.int .i64 ((IntKind.wrap .i64 (v1.2.2.1 - v1.2.1)))))))), (13, .e (.one (.pure (.val (.int .i64 v11.2.1))))), (97, .e (.one (.pure (.val (.bool v21)))))] [(90000, .vec 3 (v14.map Ae))]) (fun j21 h => ?_) (fun v21 h => ?_)
       ·refine Aa Ad rfl (qm rfl (Dd rfl (qm rfl ?_)))
        refine AA (t := 83) rfl (fun c22 => ?_) (fun c22 => ?_)
        ·have h := An c22 h
         refine qm rfl (qm rfl (qm rfl (BY rfl ?_)))
         obtain ⟨v23, a23, b23, h⟩ := Ah h
         refine qI AE Aw a23 (Ag b23) rfl (qJ AU Aw (Ag b23) rfl (qm rfl (qm rfl ?_)))
         obtain ⟨v24, a24, b24, h⟩ := Ah h
         refine qI AE Aw a24 (Ag b24) rfl (qJ AU Aw (Ag b24) rfl ?_)
         obtain ⟨v25, a25, h⟩ := bind_some h
         refine C9 (ds0 := [_, _]) (ar := (C4 true Ae true Ae) ((v23, v24))) (.g rfl rfl) rfl rfl ⟨rfl, rfl, trivial⟩ rfl rfl rfl (C6 (DI _ _ _ _ A5 A5) a25) ?_
         refine AS rfl (Cg rfl (qp rfl (AJ (by kernel_rfl) ?_)))
         exact Av _ h (sm [] _ _ rfl rfl)
        ·have h := Am c22 h
         refine qn rfl (qn rfl (qn rfl (qn rfl (qn rfl (qn rfl (qn rfl (qn rfl (qn rfl (qn rfl (qn rfl (qn rfl (qn rfl (qp rfl (AJ (by kernel_rfl) ?_))))))))))))))
         exact Av _ h (sm [] _ _ rfl rfl)
       ·refine Ao rfl (fun c26 => ?_) (fun c26 => ?_)
        ·have h := An c26 h
         refine Ab (Aa Ad rfl (qm rfl (qm rfl (qm rfl (qm rfl (qm rfl ?_))))))
         obtain ⟨v27, a27, h⟩ := bind_some h
         refine Ce (ds0 := [_, _, _, _, _]) [90000] [] [true] (Ei N v14 v1.2.1 v1.2.2.1 v11.2.1 p4 v27 a27) (.p rfl) RA rfl ⟨rfl, rfl, rfl, rfl, rfl, trivial⟩ rfl rfl (by decide) ⟨rfl, trivial⟩ rfl (AX rfl) trivial ⟨(fun h => by cases h), trivial⟩ rfl rfl rfl ?_
         refine qa rfl (Ac (Ab (Aa Ad rfl (qm rfl (qa rfl (Ac (AR ?_)))))))
         exact Av _ h (sm [] _ _ rfl rfl)
        ·have h := Am c26 h
         refine Ap (Ab (Aa Ad rfl (qm rfl (qm rfl (qm rfl (qm rfl (qm rfl ?_)))))))
         obtain ⟨v28, a28, h⟩ := bind_some h
         refine Ce (ds0 := [_, _, _, _, _]) [90000] [] [true] (Ff N v14 v1.2.1 v1.2.2.1 v11.2.1 p4 v28 a28) (.p rfl) Rv rfl ⟨rfl, rfl, rfl, rfl, rfl, trivial⟩ rfl rfl (by decide) ⟨rfl, trivial⟩ rfl (AX rfl) trivial ⟨(fun h => by cases h), trivial⟩ rfl rfl rfl ?_
         refine qm rfl (qx rfl (qx rfl (qa rfl (qa rfl (Ac (Ab (Aa Ad rfl (qm rfl (qa rfl (Ac (Ab (Aa Ad rfl (qm rfl (qm rfl (BY rfl (qm rfl (qm rfl (BY rfl (qa rfl (qa rfl (Ac (Ab (Aa Ad rfl (qm rfl (J1 rfl (by decide) (qa rfl (Ac (Ab (Aa Ad rfl (qm rfl (qm rfl (AS rfl (Ac ?_)))))))))))))))))))))))))))))))))
         refine Ao rfl (fun c29 => ?_) (fun c29 => ?_)
         ·have h := An c29 h
          refine Ab (Aa Ad rfl (qm rfl (qm rfl (Dc rfl (qa rfl (Ac (Ab (Aa Ad rfl (qm rfl (qm rfl (qm rfl (qm rfl (qm rfl ?_)))))))))))))
          obtain ⟨v30, a30, h⟩ := bind_some h
          refine Ce (ds0 := [_, _, _, _, _]) [90000] [] [true] (hrc v28.2.2 v1.2.1 v28.1 v7.2 p4 v30 a30) (.p rfl) PB rfl ⟨rfl, rfl, rfl, rfl, rfl, trivial⟩ rfl rfl (by decide) ⟨rfl, trivial⟩ rfl (AX rfl) trivial ⟨(fun h => by cases h), trivial⟩ rfl rfl rfl ?_
          refine Ac (Aa Ad rfl (qm rfl (AO rfl (qa rfl (Ac ?_)))))
          exact Av _ h (sm [] _ _ rfl rfl)
         ·have h := Am c29 h
          refine Ab (Aa Ad rfl (qm rfl (qm rfl (Dc rfl (qa rfl (Ac (Ab (Aa Ad rfl (qm rfl (qm rfl (AO rfl (qm rfl (qm rfl (qm rfl ?_))))))))))))))
          obtain ⟨v31, a31, h⟩ := bind_some h
          refine Ce (ds0 := [_, _, _, _, _]) [90000] [] [true] (hrc v28.2.2 ((IntKind.wrap .i64 (v28.1 + 1))) v1.2.2.1 v7.2 p4 v31 a31) (.p rfl) PB rfl ⟨rfl, rfl, rfl, rfl, rfl, trivial⟩ rfl rfl (by decide) ⟨rfl, trivial⟩ rfl (AX rfl) trivial ⟨(fun h => by cases h), trivial⟩ rfl rfl rfl ?_
          refine Ac (Aa Ad rfl (qm rfl (qa rfl (Ac ?_))))
          exact Av _ h (sm [] _ _ rfl rfl)
 ·cases h
theorem Dp (N : Nat) : ∀ (k : Nat) (p0 : List Af) (p1 : Int) (p2 : Int) (p3 : Int) (p4 : (Af × Af) → Option Int) (r : (List Af)), BT N k p0 p1 p2 p3 p4 = some r → Bg Try.prog 45 [.e (.one (.own 90000)), .e (.one (.pure (.val (.int .i64 p1)))), .e (.one (.pure (.val (.int .i64 p2)))), .e (.one (.pure (.val (.int .i64 p3)))), .e (.one (.clo (Bp (C4 true Ae true Ae) BW p4)))] [(.vec 3 (p0.map Ae), .vec 3 (r.map Ae))] [] (.tup [])
 | 0, _, _, _, _, _, _, h => by cases h
 | k + 1, p0, p1, p2, p3, p4, r, h => Fe N (BT N k) (Dp N k) p0 p1 p2 p3 p4 r h
theorem FC (N : Nat) (p0 : List Af) (p1 : Int) (p2 : Int) (p3 : Int) (p4 : (Af × Af) → Option Int) (r : (List Af)) (h : Dw N p0 p1 p2 p3 p4 = some r) : Bg Try.prog 45 [.e (.one (.own 90000)), .e (.one (.pure (.val (.int .i64 p1)))), .e (.one (.pure (.val (.int .i64 p2)))), .e (.one (.pure (.val (.int .i64 p3)))), .e (.one (.clo (Bp (C4 true Ae true Ae) BW p4)))] [(.vec 3 (p0.map Ae), .vec 3 (r.map Ae))] [] (.tup []) := Dp N N p0 p1 p2 p3 p4 r h
set_option maxRecDepth 10000 in
theorem Dr (N : Nat) (p0 : List Af) (p1 : (Af × Af) → Option Int) (r : (List Af)) (h : BV N p0 p1 = some r) : Bg Try.prog 24 [.e (.one (.own 90000)), .e (.one (.clo (Bp (C4 true Ae true Ae) BW p1)))] [(.vec 3 (p0.map Ae), .vec 3 (r.map Ae))] [] (.tup []) := by
 unfold BV at h
 refine A9 (n := 14) (rs := []) Try.func24 rfl rfl rfl (AV rfl) (AV rfl) rfl rfl (AV rfl) rfl (AV rfl) fun w0 S0 GL => JT ?_
 refine Aj (sm [] [(0, .e (.one (.own 90000))), (1, .e (.one (.clo (Bp (C4 true Ae true Ae) BW p1))))] [(90000, .vec 3 (p0.map Ae))] rfl rfl) (Ab (Aa Ad rfl (qm rfl (CU AE rfl (qa rfl (Ac (Aa Ad rfl (qm rfl (qm rfl (qm rfl (FY PD MZ rfl ?_)))))))))))
 obtain ⟨v1, a1, h⟩ := bind_some h
 refine AB [] (Hn N ((IntKind.wrap .u64 ((p0.length : Int)))) v1 a1) P6 rfl (qm rfl ?_)
 obtain ⟨v2, a2, h⟩ := bind_some h
 refine Ce (ds0 := [_, _, _, _, _]) [90000] [] [true] (FC N p0 0 ((p0.length : Int)) v1 p1 v2 a2) (.p rfl) PB rfl ⟨rfl, rfl, rfl, rfl, rfl, trivial⟩ rfl rfl (by decide) ⟨rfl, trivial⟩ rfl (AX rfl) trivial ⟨(fun h => by cases h), trivial⟩ rfl rfl rfl ?_
 refine Ac ?_
 obtain rfl := sj h
 refine ⟨_, (sm [] [] [(90000, .vec 3 (v2.map Ae))] rfl rfl), ?_⟩
 exact ⟨⟨[], trivial, rfl⟩, ⟨rfl, trivial⟩, trivial⟩
set_option maxRecDepth 10000 in
theorem Ho (N : Nat) (p0 : Int) (r : Bool) (h : Ey N p0 = some r) : Az Try.prog 89 [.e (.one (.pure (.val (.int .i64 p0))))] [] (.e (.one (.pure (.val (.bool r))))) := by
 unfold Ey at h
 refine Aq (n := 6) (rs := [.tmp 2]) Try.func89 rfl rfl rfl (AV rfl) (AV rfl) rfl fun w0 S0 => ?_
 refine Ab (Aa Ad rfl (qa rfl (Ac (Ab (Aa Ad rfl (qm rfl (qm rfl (Ch rfl (qa rfl (Ac ?_))))))))))
 obtain rfl := sj h
 refine Aj (sm [] [(2, .e (.one (.pure (.val (.bool ((p0 != p0)))))))] [] rfl rfl) (Ax ?_)
 exact ⟨⟨[_], ⟨.tmp _ _ rfl, trivial⟩, rfl⟩, trivial⟩
set_option maxRecDepth 10000 in
theorem IG (N : Nat) (p0 : Int) (p1 : Int) (r : Int) (h : E3 N p0 p1 = some r) : Az Try.prog 72 [.e (.one (.pure (.val (.int .i64 p0)))), .e (.one (.pure (.val (.int .i64 p1))))] [] (.e (.one (.pure (.val (.int .i64 r))))) := by
 unfold E3 at h
 refine Aq (n := 20) (rs := [.tmp 4]) Try.func72 rfl rfl rfl (AV rfl) (AV rfl) rfl fun w0 S0 => ?_
 refine Ab (Aa Ad rfl (qa rfl (Ac (Ab (Aa Ad rfl (qm rfl ?_))))))
 obtain ⟨v1, a1, h⟩ := bind_some h
 refine AB [] (Ho N p0 v1 a1) P0 rfl (qa rfl (Ac (Ab (Aa Ad rfl (qm rfl ?_)))))
 obtain ⟨v2, a2, h⟩ := bind_some h
 refine AB [] (Ho N p1 v2 a2) P0 rfl (qa rfl (Ac (Ab (Ab (Aa Ad rfl (qm rfl (Ac ?_)))))))
 refine Ao rfl (fun c3 => ?_) (fun c3 => ?_)
 ·have h := An c3 h
  refine Ab (Ab (Aa Ad rfl (qm rfl (Ac ?_))))
  refine Ao rfl (fun c4 => ?_) (fun c4 => ?_)
  ·have h := An c4 h
   refine Ab (Aa Ad rfl (qa rfl (Ac ?_)))
   obtain rfl := sj h
   refine Aj (sm [] [(4, .e (.one (.pure (.val (.int .i64 0)))))] [] rfl rfl) (Ax ?_)
   exact ⟨⟨[_], ⟨.tmp _ _ rfl, trivial⟩, rfl⟩, trivial⟩
  ·have h := Am c4 h
   refine Ap (Ab (Aa Ad rfl (qa rfl (Ac ?_))))
   obtain rfl := sj h
   refine Aj (sm [] [(4, .e (.one (.pure (.val (.int .i64 ((-1)))))))] [] rfl rfl) (Ax ?_)
   exact ⟨⟨[_], ⟨.tmp _ _ rfl, trivial⟩, rfl⟩, trivial⟩
 ·have h := Am c3 h
  refine Ap (Ab (Ab (Aa Ad rfl (qm rfl (Ac ?_)))))
  refine Ao rfl (fun c5 => ?_) (fun c5 => ?_)
  ·have h := An c5 h
   refine Ab (Aa Ad rfl (qa rfl (Ac ?_)))
   obtain rfl := sj h
   refine Aj (sm [] [(4, .e (.one (.pure (.val (.int .i64 1)))))] [] rfl rfl) (Ax ?_)
   exact ⟨⟨[_], ⟨.tmp _ _ rfl, trivial⟩, rfl⟩, trivial⟩
  ·have h := Am c5 h
   refine Ap (Ab (Ab (Aa Ad rfl (qm rfl (qm rfl (AS rfl (Ac ?_)))))))
   refine Ao rfl (fun c6 => ?_) (fun c6 => ?_)
   ·have h := An c6 h
    refine Ab (Aa Ad rfl (qa rfl (Ac ?_)))
    obtain rfl := sj h
    refine Aj (sm [] [(4, .e (.one (.pure (.val (.int .i64 ((-1)))))))] [] rfl rfl) (Ax ?_)
    exact ⟨⟨[_], ⟨.tmp _ _ rfl, trivial⟩, rfl⟩, trivial⟩
   ·have h := Am c6 h
    refine Ap (Ab (Ab (Aa Ad rfl (qm rfl (qm rfl (Dd rfl (Ac ?_)))))))
    refine Ao rfl (fun c7 => ?_) (fun c7 => ?_)
    ·have h := An c7 h
     refine Ab (Aa Ad rfl (qa rfl (Ac ?_)))
     obtain rfl := sj h
     refine Aj (sm [] [(4, .e (.one (.pure (.val (.int .i64 1)))))] [] rfl rfl) (Ax ?_)
     exact ⟨⟨[_], ⟨.tmp _ _ rfl, trivial⟩, rfl⟩, trivial⟩
    ·have h := Am c7 h
     refine Ap (Ab (Aa Ad rfl (qa rfl (Ac ?_))))
     obtain rfl := sj h
     refine Aj (sm [] [(4, .e (.one (.pure (.val (.int .i64 0)))))] [] rfl rfl) (Ax ?_)
     exact ⟨⟨[_], ⟨.tmp _ _ rfl, trivial⟩, rfl⟩, trivial⟩
set_option maxRecDepth 10000 in
theorem EQ (N : Nat) (p0 : List Int) (p1 : List Int) (r : Int) (h : CJ N p0 p1 = some r) : Az Try.prog 48 [.e (.one (.pure (.sl (p0.map Ai)))), .e (.one (.pure (.sl (p1.map Ai))))] [] (.e (.one (.pure (.val (.int .i64 r))))) := by
 unfold CJ at h
 refine Aq (n := 36) (rs := [.tmp 4]) Try.func48 rfl rfl rfl (AV rfl) (AV rfl) rfl fun w0 S0 => ?_
 refine Ab (Aa Ad rfl (qa rfl (Ac (Ab (Ab (Aa Ad rfl (qm rfl (AM AK rfl (qm rfl (Ac ?_))))))))))
 refine AF (L := Cq N p0 p1) h (fun v1 => mk [(0, .e (.one (.pure (.sl (p0.map Ai))))), (1, .e (.one (.pure (.sl (p1.map Ai))))), (9, .e (.one (.pure (.sl (p0.map Ai))))), (10, .e (.one (.pure (.val (.int .i64 ((p0.length : Int))))))), (11, .e (.one (.pure (.val (.int .i64 v1)))))] []) (fun v2 => mk [(0, .e (.one (.pure (.sl (p0.map Ai))))), (1, .e (.one (.pure (.sl (p1.map Ai)))))] []) (fun _ _ => rfl) (sm [] _ _ rfl rfl) (fun j1 n1 v1 h => ?_) (fun v2 s h hs => ?_)
 ·unfold Cq at h
  refine Ab (Aa Ad rfl (AS rfl (Ac (Ab ?_))))
  refine Ao rfl (fun c3 => ?_) (fun c3 => ?_)
  ·have h := An c3 h
   refine Ap (Ab (AI (Ab (Aa Ad rfl (qm rfl ?_)))))
   obtain ⟨v4, a4, b4, h⟩ := Ah h
   refine qi AK Ee a4 (Ag b4) rfl (qk CQ rfl (qa rfl (qa rfl (Ac (Ab (Ab (Aa Ad rfl (qm rfl (qm rfl (AM AK rfl (Dc rfl (Ac ?_))))))))))))
   refine Ao rfl (fun c5 => ?_) (fun c5 => ?_)
   ·have h := An c5 h
    refine Ab (Aa Ad rfl (qa rfl (Ac ?_)))
    obtain rfl := sj h
    refine Aj (sm [] [(4, .e (.one (.pure (.val (.int .i64 1)))))] [] rfl rfl) (Ax ?_)
    exact ⟨⟨[_], ⟨.tmp _ _ rfl, trivial⟩, rfl⟩, trivial⟩
   ·have h := Am c5 h
    refine Ap (Ab (Aa Ad rfl (qm rfl (qm rfl ?_))))
    obtain ⟨v6, a6, b6, h⟩ := Ah h
    refine qi AK Ee a6 (Ag b6) rfl (qk CQ rfl (qa rfl (Ac (Ab (Aa Ad rfl (qm rfl (qm rfl ?_)))))))
    obtain ⟨v7, a7, h⟩ := bind_some h
    refine AB [] (IG N v4 v6 v7 a7) RU rfl (qa rfl (Ac (Ab (Aa Ad rfl (qm rfl (Ch rfl (Ac ?_)))))))
    refine Ao rfl (fun c8 => ?_) (fun c8 => ?_)
    ·have h := An c8 h
     refine Ab (Aa Ad rfl (qm rfl (qa rfl (Ac ?_))))
     obtain rfl := sj h
     refine Aj (sm [] [(4, .e (.one (.pure (.val (.int .i64 v7)))))] [] rfl rfl) (Ax ?_)
     exact ⟨⟨[_], ⟨.tmp _ _ rfl, trivial⟩, rfl⟩, trivial⟩
    ·have h := Am c8 h
     refine Ap (Aa Ad rfl (AO rfl (qm rfl (Ac ?_))))
     exact Av _ h (sm [] _ _ rfl rfl)
  ·have h := Am c3 h
   refine AR ?_
   exact Av _ h (sm [] _ _ rfl rfl)
 ·refine Aj hs (Ab (Ab (Aa Ad rfl (qm rfl (AM AK rfl (qm rfl (AM AK rfl (AS rfl (Ac ?_)))))))))
  refine Ao rfl (fun c9 => ?_) (fun c9 => ?_)
  ·have h := An c9 h
   refine Ab (Aa Ad rfl (qa rfl (Ac ?_)))
   obtain rfl := sj h
   refine Aj (sm [] [(4, .e (.one (.pure (.val (.int .i64 ((-1)))))))] [] rfl rfl) (Ax ?_)
   exact ⟨⟨[_], ⟨.tmp _ _ rfl, trivial⟩, rfl⟩, trivial⟩
  ·have h := Am c9 h
   refine Ap (Ab (Aa Ad rfl (qa rfl (Ac ?_))))
   obtain rfl := sj h
   refine Aj (sm [] [(4, .e (.one (.pure (.val (.int .i64 0)))))] [] rfl rfl) (Ax ?_)
   exact ⟨⟨[_], ⟨.tmp _ _ rfl, trivial⟩, rfl⟩, trivial⟩
set_option maxRecDepth 10000 in
theorem F1 (N : Nat) (p0 : Int) (r : Bool) (h : Dz N p0 = some r) : Az Try.prog 90 [.e (.one (.pure (.val (.int .u8 p0))))] [] (.e (.one (.pure (.val (.bool r))))) := by
 unfold Dz at h
 refine Aq (n := 6) (rs := [.tmp 2]) Try.func90 rfl rfl rfl (AV rfl) (AV rfl) rfl fun w0 S0 => ?_
 refine Ab (Aa Ad rfl (qa rfl (Ac (Ab (Aa Ad rfl (qm rfl (qm rfl (Ch rfl (qa rfl (Ac ?_))))))))))
 obtain rfl := sj h
 refine Aj (sm [] [(2, .e (.one (.pure (.val (.bool ((p0 != p0)))))))] [] rfl rfl) (Ax ?_)
 exact ⟨⟨[_], ⟨.tmp _ _ rfl, trivial⟩, rfl⟩, trivial⟩
set_option maxRecDepth 10000 in
theorem Hs (N : Nat) (p0 : Int) (p1 : Int) (r : Int) (h : DX N p0 p1 = some r) : Az Try.prog 73 [.e (.one (.pure (.val (.int .u8 p0)))), .e (.one (.pure (.val (.int .u8 p1))))] [] (.e (.one (.pure (.val (.int .i64 r))))) := by
 unfold DX at h
 refine Aq (n := 20) (rs := [.tmp 4]) Try.func73 rfl rfl rfl (AV rfl) (AV rfl) rfl fun w0 S0 => ?_
 refine Ab (Aa Ad rfl (qa rfl (Ac (Ab (Aa Ad rfl (qm rfl ?_))))))
 obtain ⟨v1, a1, h⟩ := bind_some h
 refine AB [] (F1 N p0 v1 a1) QF rfl (qa rfl (Ac (Ab (Aa Ad rfl (qm rfl ?_)))))
 obtain ⟨v2, a2, h⟩ := bind_some h
 refine AB [] (F1 N p1 v2 a2) QF rfl (qa rfl (Ac (Ab (Ab (Aa Ad rfl (qm rfl (Ac ?_)))))))
 refine Ao rfl (fun c3 => ?_) (fun c3 => ?_)
 ·have h := An c3 h
  refine Ab (Ab (Aa Ad rfl (qm rfl (Ac ?_))))
  refine Ao rfl (fun c4 => ?_) (fun c4 => ?_)
  ·have h := An c4 h
   refine Ab (Aa Ad rfl (qa rfl (Ac ?_)))
   obtain rfl := sj h
   refine Aj (sm [] [(4, .e (.one (.pure (.val (.int .i64 0)))))] [] rfl rfl) (Ax ?_)
   exact ⟨⟨[_], ⟨.tmp _ _ rfl, trivial⟩, rfl⟩, trivial⟩
  ·have h := Am c4 h
   refine Ap (Ab (Aa Ad rfl (qa rfl (Ac ?_))))
   obtain rfl := sj h
   refine Aj (sm [] [(4, .e (.one (.pure (.val (.int .i64 ((-1)))))))] [] rfl rfl) (Ax ?_)
   exact ⟨⟨[_], ⟨.tmp _ _ rfl, trivial⟩, rfl⟩, trivial⟩
 ·have h := Am c3 h
  refine Ap (Ab (Ab (Aa Ad rfl (qm rfl (Ac ?_)))))
  refine Ao rfl (fun c5 => ?_) (fun c5 => ?_)
  ·have h := An c5 h
   refine Ab (Aa Ad rfl (qa rfl (Ac ?_)))
   obtain rfl := sj h
   refine Aj (sm [] [(4, .e (.one (.pure (.val (.int .i64 1)))))] [] rfl rfl) (Ax ?_)
   exact ⟨⟨[_], ⟨.tmp _ _ rfl, trivial⟩, rfl⟩, trivial⟩
  ·have h := Am c5 h
   refine Ap (Ab (Ab (Aa Ad rfl (qm rfl (qm rfl (AS rfl (Ac ?_)))))))
   refine Ao rfl (fun c6 => ?_) (fun c6 => ?_)
   ·have h := An c6 h
    refine Ab (Aa Ad rfl (qa rfl (Ac ?_)))
    obtain rfl := sj h
    refine Aj (sm [] [(4, .e (.one (.pure (.val (.int .i64 ((-1)))))))] [] rfl rfl) (Ax ?_)
    exact ⟨⟨[_], ⟨.tmp _ _ rfl, trivial⟩, rfl⟩, trivial⟩
   ·have h := Am c6 h
    refine Ap (Ab (Ab (Aa Ad rfl (qm rfl (qm rfl (Dd rfl (Ac ?_)))))))
    refine Ao rfl (fun c7 => ?_) (fun c7 => ?_)
    ·have h := An c7 h
     refine Ab (Aa Ad rfl (qa rfl (Ac ?_)))
     obtain rfl := sj h
     refine Aj (sm [] [(4, .e (.one (.pure (.val (.int .i64 1)))))] [] rfl rfl) (Ax ?_)
     exact ⟨⟨[_], ⟨.tmp _ _ rfl, trivial⟩, rfl⟩, trivial⟩
    ·have h := Am c7 h
     refine Ap (Ab (Aa Ad rfl (qa rfl (Ac ?_))))
     obtain rfl := sj h
     refine Aj (sm [] [(4, .e (.one (.pure (.val (.int .i64 0)))))] [] rfl rfl) (Ax ?_)
     exact ⟨⟨[_], ⟨.tmp _ _ rfl, trivial⟩, rfl⟩, trivial⟩
set_option maxRecDepth 10000 in
theorem Fn (N : Nat) (p0 : List Int) (p1 : List Int) (r : Int) (h : Cw N p0 p1 = some r) : Az Try.prog 49 [.e (.one (.pure (.sl (p0.map BX)))), .e (.one (.pure (.sl (p1.map BX))))] [] (.e (.one (.pure (.val (.int .i64 r))))) := by
 unfold Cw at h
 refine Aq (n := 36) (rs := [.tmp 4]) Try.func49 rfl rfl rfl (AV rfl) (AV rfl) rfl fun w0 S0 => ?_
 refine Ab (Aa Ad rfl (qa rfl (Ac (Ab (Ab (Aa Ad rfl (qm rfl (AM Db rfl (qm rfl (Ac ?_))))))))))
 refine AF (L := BN N p0 p1) h (fun v1 => mk [(0, .e (.one (.pure (.sl (p0.map BX))))), (1, .e (.one (.pure (.sl (p1.map BX))))), (9, .e (.one (.pure (.sl (p0.map BX))))), (10, .e (.one (.pure (.val (.int .i64 ((p0.length : Int))))))), (11, .e (.one (.pure (.val (.int .i64 v1)))))] []) (fun v2 => mk [(0, .e (.one (.pure (.sl (p0.map BX))))), (1, .e (.one (.pure (.sl (p1.map BX)))))] []) (fun _ _ => rfl) (sm [] _ _ rfl rfl) (fun j1 n1 v1 h => ?_) (fun v2 s h hs => ?_)
 ·unfold BN at h
  refine Ab (Aa Ad rfl (AS rfl (Ac (Ab ?_))))
  refine Ao rfl (fun c3 => ?_) (fun c3 => ?_)
  ·have h := An c3 h
   refine Ap (Ab (AI (Ab (Aa Ad rfl (qm rfl ?_)))))
   obtain ⟨v4, a4, b4, h⟩ := Ah h
   refine qi Db FP a4 (Ag b4) rfl (qk Jy rfl (qa rfl (qa rfl (Ac (Ab (Ab (Aa Ad rfl (qm rfl (qm rfl (AM Db rfl (Dc rfl (Ac ?_))))))))))))
   refine Ao rfl (fun c5 => ?_) (fun c5 => ?_)
   ·have h := An c5 h
    refine Ab (Aa Ad rfl (qa rfl (Ac ?_)))
    obtain rfl := sj h
    refine Aj (sm [] [(4, .e (.one (.pure (.val (.int .i64 1)))))] [] rfl rfl) (Ax ?_)
    exact ⟨⟨[_], ⟨.tmp _ _ rfl, trivial⟩, rfl⟩, trivial⟩
   ·have h := Am c5 h
    refine Ap (Ab (Aa Ad rfl (qm rfl (qm rfl ?_))))
    obtain ⟨v6, a6, b6, h⟩ := Ah h
    refine qi Db FP a6 (Ag b6) rfl (qk Jy rfl (qa rfl (Ac (Ab (Aa Ad rfl (qm rfl (qm rfl ?_)))))))
    obtain ⟨v7, a7, h⟩ := bind_some h
    refine AB [] (Hs N v4 v6 v7 a7) Ra rfl (qa rfl (Ac (Ab (Aa Ad rfl (qm rfl (Ch rfl (Ac ?_)))))))
    refine Ao rfl (fun c8 => ?_) (fun c8 => ?_)
    ·have h := An c8 h
     refine Ab (Aa Ad rfl (qm rfl (qa rfl (Ac ?_))))
     obtain rfl := sj h
     refine Aj (sm [] [(4, .e (.one (.pure (.val (.int .i64 v7)))))] [] rfl rfl) (Ax ?_)
     exact ⟨⟨[_], ⟨.tmp _ _ rfl, trivial⟩, rfl⟩, trivial⟩
    ·have h := Am c8 h
     refine Ap (Aa Ad rfl (AO rfl (qm rfl (Ac ?_))))
     exact Av _ h (sm [] _ _ rfl rfl)
  ·have h := Am c3 h
   refine AR ?_
   exact Av _ h (sm [] _ _ rfl rfl)
 ·refine Aj hs (Ab (Ab (Aa Ad rfl (qm rfl (AM Db rfl (qm rfl (AM Db rfl (AS rfl (Ac ?_)))))))))
  refine Ao rfl (fun c9 => ?_) (fun c9 => ?_)
  ·have h := An c9 h
   refine Ab (Aa Ad rfl (qa rfl (Ac ?_)))
   obtain rfl := sj h
   refine Aj (sm [] [(4, .e (.one (.pure (.val (.int .i64 ((-1)))))))] [] rfl rfl) (Ax ?_)
   exact ⟨⟨[_], ⟨.tmp _ _ rfl, trivial⟩, rfl⟩, trivial⟩
  ·have h := Am c9 h
   refine Ap (Ab (Aa Ad rfl (qa rfl (Ac ?_))))
   obtain rfl := sj h
   refine Aj (sm [] [(4, .e (.one (.pure (.val (.int .i64 0)))))] [] rfl rfl) (Ax ?_)
   exact ⟨⟨[_], ⟨.tmp _ _ rfl, trivial⟩, rfl⟩, trivial⟩
set_option maxRecDepth 10000 in
theorem La (N : Nat) (p0 : List Int) (r : Int) (h : GA N p0 = some r) : Az Try.prog 47 [.e (.one (.pure (.sl (p0.map Ai))))] [] (.e (.one (.pure (.val (.int .i64 r))))) := by
 unfold GA at h
 refine Aq (n := 18) (rs := [.tmp 2]) Try.func47 rfl rfl rfl (AV rfl) (AV rfl) rfl fun w0 S0 => ?_
 refine Ab (Aa Ad rfl (qa rfl (Ac (Ab (Aa Ad rfl (qa rfl (Ac (Ab (Ab (Aa Ad rfl (qm rfl (AM AK rfl (qm rfl (Ac ?_))))))))))))))
 refine AF (L := Eu N p0) h (fun v1 => mk [(3, .e (.one (.pure (.val (.int .i64 0))))), (6, .e (.one (.pure (.sl (p0.map Ai))))), (7, .e (.one (.pure (.val (.int .i64 ((p0.length : Int))))))), (8, .e (.one (.pure (.val (.int .i64 v1)))))] []) (fun v2 => mk [(3, .e (.one (.pure (.val (.int .i64 0)))))] []) (fun _ _ => rfl) (sm [] _ _ rfl rfl) (fun j1 n1 v1 h => ?_) (fun v2 s h hs => ?_)
 ·unfold Eu at h
  refine Ab (Aa Ad rfl (AS rfl (Ac (Ab ?_))))
  refine Ao rfl (fun c3 => ?_) (fun c3 => ?_)
  ·have h := An c3 h
   refine Ap (Ab (AI (Ab (Aa Ad rfl ?_))))
   obtain ⟨v4, a4, b4, h⟩ := Ah h
   refine qi AK Ee a4 (Ag b4) rfl (qk CQ rfl (qa rfl (Ac (Ab (Aa Ad rfl (qm rfl (qm rfl (Ch rfl (Ac ?_)))))))))
   refine Ao rfl (fun c5 => ?_) (fun c5 => ?_)
   ·have h := An c5 h
    refine Ab (Aa Ad rfl (qm rfl (qa rfl (Ac ?_))))
    obtain rfl := sj h
    refine Aj (sm [] [(2, .e (.one (.pure (.val (.int .i64 v4)))))] [] rfl rfl) (Ax ?_)
    exact ⟨⟨[_], ⟨.tmp _ _ rfl, trivial⟩, rfl⟩, trivial⟩
   ·have h := Am c5 h
    refine Ap (Aa Ad rfl (AO rfl (qm rfl (Ac ?_))))
    exact Av _ h (sm [] _ _ rfl rfl)
  ·have h := Am c3 h
   refine AR ?_
   exact Av _ h (sm [] _ _ rfl rfl)
 ·refine Aj hs (Ab (Aa Ad rfl (qm rfl (qa rfl (Ac ?_)))))
  obtain rfl := sj h
  refine Aj (sm [] [(2, .e (.one (.pure (.val (.int .i64 0)))))] [] rfl rfl) (Ax ?_)
  exact ⟨⟨[_], ⟨.tmp _ _ rfl, trivial⟩, rfl⟩, trivial⟩
set_option maxRecDepth 10000 in
theorem GG (N : Nat) (p0 : Af) (p1 : Af) (r : Int) (h : Df N p0 p1 = some r) : Az Try.prog 25 [.e (.agg [.pure (.sl (p0.fBase.map Ai)), .pure (.sl (p0.fNext.map Ai)), .pure (.sl (p0.fHeld.map BX))]), .e (.agg [.pure (.sl (p1.fBase.map Ai)), .pure (.sl (p1.fNext.map Ai)), .pure (.sl (p1.fHeld.map BX))])] [] (.e (.one (.pure (.val (.int .i64 r))))) := by
 unfold Df at h
 refine Aq (n := 22) (rs := [.tmp 4]) Try.func25 rfl rfl rfl (AV rfl) (AV rfl) rfl fun w0 S0 => ?_
 refine Ab (Aa Ad rfl (qb rfl (qb rfl (qa rfl (Ac (Ab (Aa Ad rfl (qf Dn rfl (ql BS rfl (qf Dn rfl (ql BS rfl ?_)))))))))))
 obtain ⟨v1, a1, h⟩ := bind_some h
 refine AB [] (EQ N p0.fBase p1.fBase v1 a1) Qt rfl (qf Cz rfl (ql BS rfl (qf Cz rfl (ql BS rfl ?_))))
 obtain ⟨v2, a2, h⟩ := bind_some h
 refine AB [] (EQ N p0.fNext p1.fNext v2 a2) Qt rfl (qf DL rfl (ql HZ rfl (qf DL rfl (ql HZ rfl ?_))))
 obtain ⟨v3, a3, h⟩ := bind_some h
 refine AB [] (Fn N p0.fHeld p1.fHeld v3 a3) Ru rfl (E4 AK Ee M5 rfl ?_)
 obtain ⟨v4, a4, h⟩ := bind_some h
 refine Fr [] [20] (La N (([v1, v2, v3] : List Int)) v4 a4) RD DQ rfl (qa rfl (AJ (by kernel_rfl) ?_))
 obtain rfl := sj h
 refine Aj (sm [] [(4, .e (.one (.pure (.val (.int .i64 v4)))))] [] rfl rfl) (Ax ?_)
 exact ⟨⟨[_], ⟨.tmp _ _ rfl, trivial⟩, rfl⟩, trivial⟩
set_option maxRecDepth 10000 in
theorem Gk (N : Nat) (p0 : Ak) (r : (List Af) × Int) (h : C1 N p0 = some r) : Az Try.prog 10 [.e (.agg [.pure (.sl (p0.fVersions.map Ai)), .pure (.sl (p0.fNow.map Ai)), .pure (.sl (p0.fTarget.map Ai)), .pure (.sl (p0.fTables.map Ar))])] [(3, r.1.map Ae)] (.tup [.one (.own 0), .one (.pure (.val (.int .i64 r.2)))]) := by
 unfold C1 at h
 refine Aq (n := 73) (rs := [.tmp 2, .tmp 3]) Try.func10 rfl rfl rfl (AV rfl) (AV rfl) rfl fun w0 S0 => ?_
 refine Ab (Aa Ad rfl (qb rfl (qa rfl (qa rfl (Ac (Ab (Aa Ad rfl (qL Do Dh rfl ?_))))))))
 obtain ⟨v1, a1, h⟩ := bind_some h
 refine AB [2001, 2002, 2003] (H9 N p0 v1 a1) QI rfl (qm rfl (qx rfl (qx rfl (qx rfl (qz CZ rfl (qs Aw rfl (qa rfl (qa rfl (Ac (Ab ?_))))))))))
 refine AN h (fun v2 => mk [(1, .e (.one (.ptr 1 0))), (4, .e (.one (.ptr 4 0))), (6, .e (.one (.pure (.val (.int .i64 v1.2.2))))), (25, .e (.one (.pure (.val (.bool v2)))))] [(1, .box [.pure (.sl (p0.fVersions.map Ai)), .pure (.sl (p0.fNow.map Ai)), .pure (.sl (p0.fTarget.map Ai)), .pure (.sl (p0.fTables.map Ar))]), (4, .box [.own 2004, .own 2005, .own 2006]), (2004, .vec 1 (v1.1.fBase.map Ai)), (2005, .vec 1 (v1.1.fNext.map Ai)), (2006, .vec 1 (v1.1.fHeld.map BX))]) (fun j2 h => ?_) (fun v2 h => ?_)
 ·refine Aa Ad rfl (qm rfl (Ch rfl (qm rfl ?_)))
  refine AA (t := 22) rfl (fun c3 => ?_) (fun c3 => ?_)
  ·have h := An c3 h
   refine qn rfl (qn rfl (qp rfl (Ac ?_)))
   exact Av _ h (sm [(2004, 2001), (2005, 2002), (2006, 2003)] _ _ rfl rfl)
  ·have h := Am c3 h
   refine qm rfl (Cg rfl (qp rfl (Ac ?_)))
   exact Av _ h (sm [(2004, 2001), (2005, 2002), (2006, 2003)] _ _ rfl rfl)
 ·refine Ao rfl (fun c4 => ?_) (fun c4 => ?_)
  ·have h := An c4 h
   refine Ab (Aa Ad rfl (qm rfl (qa rfl (qa rfl (Ac ?_)))))
   obtain rfl := sj h
   refine Aj ((Bk 2 2007 3 rfl rfl rfl).trans (sm [(1000, 2007)] [(2, .e (.one (.own 1000))), (3, .e (.one (.pure (.val (.int .i64 v1.2.2)))))] [(1000, .vec 3 ((([] : List Af)).map Ae))] rfl rfl)) (Ax ?_)
   exact ⟨⟨[_, _], ⟨.tmp _ _ rfl, ⟨.tmp _ _ rfl, trivial⟩⟩, rfl⟩, ⟨rfl, trivial⟩⟩
  ·have h := Am c4 h
   refine Ap (Ab (Aa Ad rfl (qL AU Aw rfl (CP (Ba 2004 _ _ rfl rfl) (CP (Ba 2005 _ _ rfl rfl) (CP (Ba 2006 _ _ rfl rfl) (E4 AE Aw CZ rfl (qa rfl (Ac (Ab (Aa Ad rfl ?_)))))))))))
   refine MV (.p rfl) rfl ?_
   refine qL AU Aw rfl ?_
   obtain ⟨v5, a5, h⟩ := bind_some h
   refine AB [] (Hv N v1.1 v5 a5) PE rfl ?_
   refine L2 (kv := Value.string) (vt := tB) (m := ([] : List (ByteArray × Bool))) (k := v5) (v := true) rfl (.inr rfl) rfl rfl rfl rfl (I7 Mt Pu) rfl ?_
   refine qm rfl (qa rfl (Ac (Ab (Ab (Aa Ad rfl (qa rfl (Ac ?_)))))))
   refine AF (L := D3 N p0) h (fun v6 => mk [(1, .e (.one (.ptr 1 0))), (7, .e (.one (.own 2008))), (8, .e (.one (.mref 2009))), (9, .e (.one (.pure (.val (.int .i64 v6.2.2)))))] [(1, .box [.pure (.sl (p0.fVersions.map Ai)), .pure (.sl (p0.fNow.map Ai)), .pure (.sl (p0.fTarget.map Ai)), .pure (.sl (p0.fTables.map Ar))]), (2008, .vec 3 (v6.1.map Ae)), (2009, .mp (GQ Value.string tB v6.2.1))]) (fun v7 => mk [(7, .e (.one (.own 2010)))] [(2010, .vec 3 (v7.map Ae))]) (fun _ _ => rfl) (sm [(2008, 28), (2009, 29)] _ _ rfl rfl) (fun j6 n6 v6 h => ?_) (fun v7 s h hs => ?_)
   ·unfold D3 at h
    refine Ab (Ab (Aa Ad rfl (qm rfl (qm rfl (CU AE rfl (AS rfl (Ac ?_)))))))
    refine Ao rfl (fun c8 => ?_) (fun c8 => ?_)
    ·have h := An c8 h
     refine Ap (Ab (AI (Ab (Aa Ad rfl (qL Do Dh rfl (qm rfl (qm rfl ?_)))))))
     obtain ⟨v9, a9, b9, h⟩ := Ah h
     refine qI AE Aw a9 (Ag b9) rfl (qJ AU Aw (Ag b9) rfl ?_)
     obtain ⟨v10, a10, h⟩ := bind_some h
     refine AB [2011, 2012] (II N p0 v9 v10 a10) Qp rfl (qm rfl (qx rfl (qx rfl (qa rfl (qa rfl (AJ (by kernel_rfl) (Ab (Ab (Aa Ad rfl (qm rfl (CU AE rfl (qm rfl (Ac ?_)))))))))))))
     refine AF (L := DJ N v10) h (fun v11 => mk [(1, .e (.one (.ptr 1 0))), (7, .e (.one (.own 2013))), (8, .e (.one (.mref 2014))), (9, .e (.one (.pure (.val (.int .i64 v6.2.2))))), (48, .e (.one (.own 2015))), (49, .e (.one (.pure (.val (.int .i64 ((v10.2.length : Int))))))), (50, .e (.one (.pure (.val (.int .i64 v11.2.2)))))] [(1, .box [.pure (.sl (p0.fVersions.map Ai)), .pure (.sl (p0.fNow.map Ai)), .pure (.sl (p0.fTarget.map Ai)), .pure (.sl (p0.fTables.map Ar))]), (2013, .vec 3 (v11.1.map Ae)), (2014, .mp (GQ Value.string tB v11.2.1)), (2015, .vec 3 (v10.2.map Ae))]) (fun v12 => mk [(1, .e (.one (.ptr 1 0))), (7, .e (.one (.own 2016))), (8, .e (.one (.mref 2017))), (9, .e (.one (.pure (.val (.int .i64 v6.2.2)))))] [(1, .box [.pure (.sl (p0.fVersions.map Ai)), .pure (.sl (p0.fNow.map Ai)), .pure (.sl (p0.fTarget.map Ai)), .pure (.sl (p0.fTables.map Ar))]), (2016, .vec 3 (v12.1.map Ae)), (2017, .mp (GQ Value.string tB v12.2))]) (fun _ _ => rfl) (sm [(2013, 2008), (2014, 2009), (2015, 2012)] _ _ rfl rfl) (fun j11 n11 v11 h => ?_) (fun v12 s h hs => ?_)
     ·unfold DJ at h
      refine Ab (Aa Ad rfl (AS rfl (Ac (Ab ?_))))
      refine Ao rfl (fun c13 => ?_) (fun c13 => ?_)
      ·have h := An c13 h
       refine Ap ?_
       refine AN h (fun v14 => mk [(1, .e (.one (.ptr 1 0))), (7, .e (.one (.own 2018))), (8, .e (.one (.mref 2019))), (9, .e (.one (.pure (.val (.int .i64 v6.2.2))))), (48, .e (.one (.own 2020))), (49, .e (.one (.pure (.val (.int .i64 ((v10.2.length : Int))))))), (50, .e (.one (.pure (.val (.int .i64 v11.2.2)))))] [(1, .box [.pure (.sl (p0.fVersions.map Ai)), .pure (.sl (p0.fNow.map Ai)), .pure (.sl (p0.fTarget.map Ai)), .pure (.sl (p0.fTables.map Ar))]), (2018, .vec 3 (v14.1.map Ae)), (2019, .mp (GQ Value.string tB v14.2)), (2020, .vec 3 (v10.2.map Ae))]) (fun j14 h => ?_) (fun v14 h => ?_)
       ·refine AI (Ab (Aa Ad rfl ?_))
        obtain ⟨v15, a15, b15, h⟩ := Ah h
        refine qI AE Aw a15 (Ag b15) rfl (qJ AU Aw (Ag b15) rfl (qz CZ rfl (qs Aw rfl (Ac (Ab (Aa Ad rfl (qm rfl (qL AU Aw rfl ?_))))))))
        obtain ⟨v16, a16, h⟩ := bind_some h
        refine AB [] (Hv N v15 v16 a16) PE rfl ?_
        refine NJ (kv := Value.string) (vt := tB) (m := v11.2.1) (dv := false) (.p rfl) rfl rfl rfl (I7 Mt Pu) (by rw [Mt]; rfl) Q0 rfl rfl rfl ?_
        refine Cg rfl (Ac ?_)
        refine Ao rfl (fun c17 => ?_) (fun c17 => ?_)
        ·have h := An c17 h
         refine Ab (Aa Ad rfl (qm rfl (qL AU Aw rfl ?_)))
         obtain ⟨v18, a18, h⟩ := bind_some h
         refine AB [] (Hv N v15 v18 a18) PE rfl ?_
         refine L2 (kv := Value.string) (vt := tB) (m := v11.2.1) (k := v18) (v := true) rfl (.inl rfl) rfl rfl rfl rfl (I7 Mt Pu) rfl ?_
         refine Ac (Aa Ad rfl (qm rfl (qL AU Aw rfl (E4 AE Aw CZ rfl ?_))))
         obtain ⟨c19, h⟩ := AT h
         refine EK (f := Ae) AE AE Aw LU CZ c19 rfl (qa rfl (Ac ?_))
         exact Av _ h (sm [(2018, 65), (2019, 2014), (2020, 2015)] _ _ rfl rfl)
        ·have h := Am c17 h
         refine Ap ?_
         exact Av _ h (sm [(2018, 2013), (2019, 2014), (2020, 2015)] _ _ rfl rfl)
       ·refine Aa Ad rfl (AO rfl (qm rfl (Ac ?_)))
        exact Av _ h (sm [(2013, 2018), (2014, 2019), (2015, 2020)] _ _ rfl rfl)
      ·have h := Am c13 h
       refine AR ?_
       exact Av _ h (sm [(2016, 2013), (2017, 2014)] _ _ rfl rfl)
     ·refine Aj hs (Ab (Aa Ad rfl (qm rfl (CU AE rfl (Dd rfl (Ac ?_))))))
      refine Ao rfl (fun c20 => ?_) (fun c20 => ?_)
      ·have h := An c20 h
       refine Ab (Aa Ad rfl (qa rfl (qa rfl (Ac ?_))))
       obtain rfl := sj h
       refine Aj ((Bk 2 2021 3 rfl rfl rfl).trans (sm [(1000, 2021)] [(2, .e (.one (.own 1000))), (3, .e (.one (.pure (.val (.int .i64 3)))))] [(1000, .vec 3 ((([] : List Af)).map Ae))] rfl rfl)) (Ax ?_)
       exact ⟨⟨[_, _], ⟨.tmp _ _ rfl, ⟨.tmp _ _ rfl, trivial⟩⟩, rfl⟩, ⟨rfl, trivial⟩⟩
      ·have h := Am c20 h
       refine Ap (Aa Ad rfl (qm rfl (AO rfl (qa rfl (Ac ?_)))))
       exact Av _ h (sm [(2008, 2016), (2009, 2017)] _ _ rfl rfl)
    ·have h := Am c8 h
     refine AR ?_
     exact Av _ h (sm [(2010, 2008)] _ _ rfl rfl)
   ·refine Aj hs (Ab (Aa Ad rfl (qm rfl ?_)))
    obtain ⟨v21, a21, h⟩ := bind_some h
    refine Ce (ds0 := [_, _]) [2010] [] [true] (Bg.weak (ds' := [_, .e (.one (.fnc 25))]) (Dr N v7 ((fun (x : Af × Af) => Df N x.1 x.2)) v21 a21) ⟨(fun _ _ _ hh => hh), (fun _ _ _ hh => JZ O7 (fun ar t ht => by obtain ⟨x, r, rfl, hq, rfl⟩ := GH ht; exact GG N x.1 x.2 r hq) hh), trivial⟩) (.p rfl) QD rfl ⟨rfl, rfl, trivial⟩ rfl rfl (by decide) ⟨rfl, trivial⟩ rfl (AX rfl) trivial ⟨(fun h => by cases h), trivial⟩ rfl rfl rfl ?_
    refine Ac (Ab (Aa Ad rfl (qm rfl (qa rfl (qa rfl (Ac ?_))))))
    obtain rfl := sj h
    refine Aj (sm [(1000, 2010)] [(2, .e (.one (.own 1000))), (3, .e (.one (.pure (.val (.int .i64 0)))))] [(1000, .vec 3 (v21.map Ae))] rfl rfl) (Ax ?_)
    exact ⟨⟨[_, _], ⟨.tmp _ _ rfl, ⟨.tmp _ _ rfl, trivial⟩⟩, rfl⟩, ⟨rfl, trivial⟩⟩
set_option maxRecDepth 10000 in
theorem Ix (N : Nat) (p0 : Ak) (p1 : List Int) (r : (List Au) × Int) (h : D8 N p0 p1 = some r) : Az Try.prog 11 [.e (.agg [.pure (.sl (p0.fVersions.map Ai)), .pure (.sl (p0.fNow.map Ai)), .pure (.sl (p0.fTarget.map Ai)), .pure (.sl (p0.fTables.map Ar))]), .e (.one (.pure (.sl (p1.map BX))))] [(3, r.1.map AC)] (.tup [.one (.own 0), .one (.pure (.val (.int .i64 r.2)))]) := by
 unfold D8 at h
 refine Aq (n := 61) (rs := [.tmp 4, .tmp 5]) Try.func11 rfl rfl rfl (AV rfl) (AV rfl) rfl fun w0 S0 => ?_
 refine Ab (Aa Ad rfl (qb rfl (qa rfl (qa rfl (Ac (Ab (Aa Ad rfl (qL Do Dh rfl ?_))))))))
 obtain ⟨v1, a1, h⟩ := bind_some h
 refine AB [2001, 2002, 2003] (H9 N p0 v1 a1) QI rfl (qm rfl (qx rfl (qx rfl (qx rfl (qz CZ rfl (qs Aw rfl (qa rfl (qa rfl (Ac (Ab ?_))))))))))
 refine AN h (fun v2 => mk [(1, .e (.one (.pure (.sl (p1.map BX))))), (2, .e (.one (.ptr 2 0))), (6, .e (.one (.ptr 6 0))), (8, .e (.one (.pure (.val (.int .i64 v1.2.2))))), (26, .e (.one (.pure (.val (.bool v2)))))] [(2, .box [.pure (.sl (p0.fVersions.map Ai)), .pure (.sl (p0.fNow.map Ai)), .pure (.sl (p0.fTarget.map Ai)), .pure (.sl (p0.fTables.map Ar))]), (6, .box [.own 2004, .own 2005, .own 2006]), (2004, .vec 1 (v1.1.fBase.map Ai)), (2005, .vec 1 (v1.1.fNext.map Ai)), (2006, .vec 1 (v1.1.fHeld.map BX))]) (fun j2 h => ?_) (fun v2 h => ?_)
 ·refine Aa Ad rfl (qm rfl (Ch rfl (qm rfl ?_)))
  refine AA (t := 23) rfl (fun c3 => ?_) (fun c3 => ?_)
  ·have h := An c3 h
   refine qn rfl (qn rfl (qp rfl (Ac ?_)))
   exact Av _ h (sm [(2004, 2001), (2005, 2002), (2006, 2003)] _ _ rfl rfl)
  ·have h := Am c3 h
   refine qm rfl (Cg rfl (qp rfl (Ac ?_)))
   exact Av _ h (sm [(2004, 2001), (2005, 2002), (2006, 2003)] _ _ rfl rfl)
 ·refine Ao rfl (fun c4 => ?_) (fun c4 => ?_)
  ·have h := An c4 h
   refine Ab (Aa Ad rfl (qm rfl (qa rfl (qa rfl (Ac ?_)))))
   obtain rfl := sj h
   refine Aj ((Bk 4 2007 3 rfl rfl rfl).trans (sm [(1000, 2007)] [(4, .e (.one (.own 1000))), (5, .e (.one (.pure (.val (.int .i64 v1.2.2)))))] [(1000, .vec 3 ((([] : List Au)).map AC))] rfl rfl)) (Ax ?_)
   exact ⟨⟨[_, _], ⟨.tmp _ _ rfl, ⟨.tmp _ _ rfl, trivial⟩⟩, rfl⟩, ⟨rfl, trivial⟩⟩
  ·have h := Am c4 h
   refine Ap (Ab (Aa Ad rfl (qa rfl (Ac (Ab (Ab (Aa Ad rfl (qm rfl (AM H6 rfl (qm rfl (Ac ?_)))))))))))
   refine AF (L := Ew N p0 p1) h (fun v5 => mk [(2, .e (.one (.ptr 2 0))), (6, .e (.one (.ptr 6 0))), (9, .e (.one (.own 2008))), (28, .e (.one (.pure (.sl (p1.map BX))))), (29, .e (.one (.pure (.val (.int .i64 ((p1.length : Int))))))), (30, .e (.one (.pure (.val (.int .i64 v5.2.2.2.2)))))] [(2, .box [.pure (.sl (p0.fVersions.map Ai)), .pure (.sl (p0.fNow.map Ai)), .pure (.sl (p0.fTarget.map Ai)), .pure (.sl (p0.fTables.map Ar))]), (6, .box [.pure (.sl (v5.1.map Ai)), .pure (.sl (v5.2.1.map Ai)), .pure (.sl (v5.2.2.1.map BX))]), (2008, .vec 3 (v5.2.2.2.1.map AC))]) (fun v6 => mk [(9, .e (.one (.own 2009)))] [(2009, .vec 3 (v6.map AC))]) (fun _ _ => rfl) ((Bk 9 2012 3 rfl rfl rfl).trans ((Ba 2004 _ _ rfl rfl).trans ((Ba 2005 _ _ rfl rfl).trans ((Ba 2006 _ _ rfl rfl).trans (sm [(2008, 2012)] _ _ rfl rfl))))) (fun j5 n5 v5 h => ?_) (fun v6 s h hs => ?_)
   ·unfold Ew at h
    refine Ab (Aa Ad rfl (AS rfl (Ac (Ab ?_))))
    refine Ao rfl (fun c7 => ?_) (fun c7 => ?_)
    ·have h := An c7 h
     refine Ap (Ab (AI (Ab (Aa Ad rfl ?_))))
     obtain ⟨v8, a8, b8, h⟩ := Ah h
     refine qi H6 PQ a8 (Ag b8) rfl (qk R1 rfl (qa rfl (Ac (Ab (Aa Ad rfl (qL Do Dh rfl (qL AU Aw rfl ?_)))))))
     obtain ⟨v9, a9, h⟩ := bind_some h
     refine AB [2010, 2011] (II N p0 ((Af.mk v5.1 v5.2.1 v5.2.2.1)) v9 a9) Qp rfl (qm rfl (qx rfl (qx rfl (qa rfl (qa rfl (Ac (Ab (Ab (Aa Ad rfl (qm rfl (CU CY rfl (BR rfl (Ac ?_)))))))))))))
     refine Ao rfl (fun c10 => ?_) (fun c10 => ?_)
     ·have h := An c10 h
      refine AR ?_
      exact Av _ h (sm [(2009, 2008)] _ _ rfl rfl)
     ·have h := Am c10 h
      refine Ap (Ab (Aa Ad rfl (qm rfl (FY QW Py rfl (qm rfl (CU CY rfl ?_))))))
      obtain ⟨c11, h⟩ := AT h
      refine QC rfl c11 (qa rfl (Ac (Aa Ad rfl (qm rfl (qm rfl (qm rfl ?_))))))
      obtain ⟨v12, a12, b12, h⟩ := Ah h
      refine qI CY DW a12 (Ag b12) rfl (qJ H1 DW (Ag b12) rfl (E4 CY DW G8 rfl ?_))
      obtain ⟨c13, h⟩ := AT h
      refine EK (f := AC) CY CY DW Lo G8 c13 rfl (qm rfl (qm rfl ?_))
      obtain ⟨v14, a14, b14, h⟩ := Ah h
      refine qI AE Aw a14 (Ag b14) rfl (qJ AU Aw (Ag b14) rfl (qa rfl (qs Aw rfl (AJ (by kernel_rfl) (Aa Ad rfl (AO rfl (qm rfl (Ac ?_))))))))
      exact Av _ h (sm [(2008, 54)] _ _ rfl rfl)
    ·have h := Am c7 h
     refine AR ?_
     exact Av _ h (sm [(2009, 2008)] _ _ rfl rfl)
   ·refine Aj hs (Ab (Aa Ad rfl (qm rfl (qa rfl (qa rfl (Ac ?_))))))
    obtain rfl := sj h
    refine Aj (sm [(1000, 2009)] [(4, .e (.one (.own 1000))), (5, .e (.one (.pure (.val (.int .i64 0)))))] [(1000, .vec 3 (v6.map AC))] rfl rfl) (Ax ?_)
    exact ⟨⟨[_, _], ⟨.tmp _ _ rfl, ⟨.tmp _ _ rfl, trivial⟩⟩, rfl⟩, ⟨rfl, trivial⟩⟩
set_option maxRecDepth 10000 in
theorem Mm (N : Nat) (p0 : Ak) (p1 : Af) (p2 : List Au) (r : (List Af) × Int × Int) (h : HQ N p0 p1 p2 = some r) : Az Try.prog 42 [.e (.agg [.pure (.sl (p0.fVersions.map Ai)), .pure (.sl (p0.fNow.map Ai)), .pure (.sl (p0.fTarget.map Ai)), .pure (.sl (p0.fTables.map Ar))]), .e (.agg [.pure (.sl (p1.fBase.map Ai)), .pure (.sl (p1.fNext.map Ai)), .pure (.sl (p1.fHeld.map BX))]), .e (.one (.pure (.sl (p2.map AC))))] [(3, r.1.map Ae)] (.tup [.one (.own 0), .one (.pure (.val (.int .i64 r.2.1))), .one (.pure (.val (.int .i64 r.2.2)))]) := by
 unfold HQ at h
 refine Aq (n := 53) (rs := [.tmp 6, .tmp 7, .tmp 8]) Try.func42 rfl rfl rfl (AV rfl) (AV rfl) rfl fun w0 S0 => ?_
 refine Ab (Aa Ad rfl (qb rfl (qb rfl (qa rfl (qa rfl (qa rfl (Ac (Ab (Ab (Aa Ad rfl (qL Do Dh rfl (qL AU Aw rfl ?_))))))))))))
 obtain ⟨v1, a1, h⟩ := bind_some h
 refine AB [] (zFS N p0 p1 v1 a1) Ng rfl (qa rfl (Ac (Ab (Aa Ad rfl (qm rfl (Ch rfl (Ac ?_)))))))
 refine Ao rfl (fun c2 => ?_) (fun c2 => ?_)
 ·have h := An c2 h
  refine Ab (Aa Ad rfl (qm rfl (qa rfl (qa rfl (qa rfl (Ac ?_))))))
  obtain rfl := sj h
  refine Aj ((Bk 6 2001 3 rfl rfl rfl).trans (sm [(1000, 2001)] [(6, .e (.one (.own 1000))), (7, .e (.one (.pure (.val (.int .i64 0))))), (8, .e (.one (.pure (.val (.int .i64 v1)))))] [(1000, .vec 3 ((([] : List Af)).map Ae))] rfl rfl)) (Ax ?_)
  exact ⟨⟨[_, _, _], ⟨.tmp _ _ rfl, ⟨.tmp _ _ rfl, ⟨.tmp _ _ rfl, trivial⟩⟩⟩, rfl⟩, ⟨rfl, trivial⟩⟩
 ·have h := Am c2 h
  refine Ap (Ab (Aa Ad rfl (qL AU Aw rfl ?_)))
  obtain ⟨v3, a3, h⟩ := bind_some h
  refine AB [2002, 2003, 2004] (Id N p1 v3 a3) Qc rfl (CP (Ba 2002 _ _ rfl rfl) (CP (Ba 2003 _ _ rfl rfl) (CP (Ba 2004 _ _ rfl rfl) (E4 AE Aw CZ rfl (qa rfl (Ac (Ab (Ab (Aa Ad rfl (qm rfl (AM CY rfl (qm rfl (Ac ?_)))))))))))))
  refine AF (L := Fu N p0 p2) h (fun v4 => mk [(2, .e (.one (.pure (.sl (p2.map AC))))), (3, .e (.one (.ptr 3 0))), (10, .e (.one (.own 2005))), (24, .e (.one (.pure (.sl (p2.map AC))))), (25, .e (.one (.pure (.val (.int .i64 ((p2.length : Int))))))), (26, .e (.one (.pure (.val (.int .i64 v4.2)))))] [(3, .box [.pure (.sl (p0.fVersions.map Ai)), .pure (.sl (p0.fNow.map Ai)), .pure (.sl (p0.fTarget.map Ai)), .pure (.sl (p0.fTables.map Ar))]), (2005, .vec 3 (v4.1.map Ae))]) (fun v5 => mk [(2, .e (.one (.pure (.sl (p2.map AC))))), (10, .e (.one (.own 2006)))] [(2006, .vec 3 (v5.map Ae))]) (fun _ _ => rfl) (sm [(2005, 23)] _ _ rfl rfl) (fun j4 n4 v4 h => ?_) (fun v5 s h hs => ?_)
  ·unfold Fu at h
   refine Ab (Aa Ad rfl (AS rfl (Ac (Ab ?_))))
   refine Ao rfl (fun c6 => ?_) (fun c6 => ?_)
   ·have h := An c6 h
    refine Ap (Ab (AI (Ab (Aa Ad rfl (qm rfl ?_)))))
    obtain ⟨v7, a7, b7, h⟩ := Ah h
    refine qi CY DW a7 (Ag b7) rfl (qK H1 DW rfl (qz G8 rfl (qa rfl (qs DW rfl (Ac (Ab (Aa Ad rfl (qL Do Dh rfl (qm rfl (qm rfl ?_))))))))))
    obtain ⟨v8, a8, b8, h⟩ := Ah h
    refine qI AE Aw a8 (Ag b8) rfl (qJ AU Aw (Ag b8) rfl (qL H1 DW rfl ?_))
    obtain ⟨v9, a9, h⟩ := bind_some h
    refine AB [2007, 2008, 2009] (IN N p0 v8 v7 v9 a9) Qz rfl (qm rfl (qx rfl (qx rfl (qz CZ rfl (qs Aw rfl (qa rfl (AJ (by kernel_rfl) (Ab (Ab (Aa Ad rfl (qm rfl (Ch rfl (Ac ?_)))))))))))))
    refine Ao rfl (fun c10 => ?_) (fun c10 => ?_)
    ·have h := An c10 h
     refine Ab (Aa Ad rfl (qm rfl (qm rfl (qa rfl (qa rfl (qa rfl (Ac ?_)))))))
     obtain rfl := sj h
     refine Aj ((Bk 6 2010 3 rfl rfl rfl).trans (sm [(1000, 2010)] [(6, .e (.one (.own 1000))), (7, .e (.one (.pure (.val (.int .i64 v4.2))))), (8, .e (.one (.pure (.val (.int .i64 v9.2)))))] [(1000, .vec 3 ((([] : List Af)).map Ae))] rfl rfl)) (Ax ?_)
     exact ⟨⟨[_, _, _], ⟨.tmp _ _ rfl, ⟨.tmp _ _ rfl, ⟨.tmp _ _ rfl, trivial⟩⟩⟩, rfl⟩, ⟨rfl, trivial⟩⟩
    ·have h := Am c10 h
     refine Ap (Aa Ad rfl (qm rfl (qL AU Aw rfl (CP (Ba 2007 _ _ rfl rfl) (CP (Ba 2008 _ _ rfl rfl) (CP (Ba 2009 _ _ rfl rfl) (E4 AE Aw CZ rfl ?_)))))))
     obtain ⟨c11, h⟩ := AT h
     refine EK (f := Ae) AE AE Aw LU CZ c11 rfl (qa rfl (Ac (Aa Ad rfl (AO rfl (qm rfl (Ac ?_))))))
     exact Av _ h (sm [(2005, 48)] _ _ rfl rfl)
   ·have h := Am c6 h
    refine AR ?_
    exact Av _ h (sm [(2006, 2005)] _ _ rfl rfl)
  ·refine Aj hs (Ab (Aa Ad rfl (qm rfl (qm rfl (AM CY rfl (qa rfl (qa rfl (qa rfl (Ac ?_)))))))))
   obtain rfl := sj h
   refine Aj (sm [(1000, 2006)] [(6, .e (.one (.own 1000))), (7, .e (.one (.pure (.val (.int .i64 ((p2.length : Int))))))), (8, .e (.one (.pure (.val (.int .i64 0)))))] [(1000, .vec 3 (v5.map Ae))] rfl rfl) (Ax ?_)
   exact ⟨⟨[_, _, _], ⟨.tmp _ _ rfl, ⟨.tmp _ _ rfl, ⟨.tmp _ _ rfl, trivial⟩⟩⟩, rfl⟩, ⟨rfl, trivial⟩⟩
set_option maxRecDepth 10000 in
theorem HO (N : Nat) (p0 : Ak) (p1 : List Au) (r : (List Af) × Int × Int) (h : D1 N p0 p1 = some r) : Az Try.prog 22 [.e (.agg [.pure (.sl (p0.fVersions.map Ai)), .pure (.sl (p0.fNow.map Ai)), .pure (.sl (p0.fTarget.map Ai)), .pure (.sl (p0.fTables.map Ar))]), .e (.one (.pure (.sl (p1.map AC))))] [(3, r.1.map Ae)] (.tup [.one (.own 0), .one (.pure (.val (.int .i64 r.2.1))), .one (.pure (.val (.int .i64 r.2.2)))]) := by
 unfold D1 at h
 refine Aq (n := 24) (rs := [.tmp 4, .tmp 5, .tmp 6]) Try.func22 rfl rfl rfl (AV rfl) (AV rfl) rfl fun w0 S0 => ?_
 refine Ab (Aa Ad rfl (qb rfl (qa rfl (qa rfl (qa rfl (Ac (Ab (Aa Ad rfl (qL Do Dh rfl ?_)))))))))
 obtain ⟨v1, a1, h⟩ := bind_some h
 refine AB [2001, 2002, 2003] (Ja N p0 v1 a1) Qg rfl (qm rfl (qx rfl (qx rfl (qz CZ rfl (qs Aw rfl (qa rfl (Ac (Ab (Ab (Aa Ad rfl (qm rfl (Ch rfl (Ac ?_)))))))))))))
 refine Ao rfl (fun c2 => ?_) (fun c2 => ?_)
 ·have h := An c2 h
  refine Ab (Aa Ad rfl (qm rfl (qa rfl (qa rfl (qa rfl (Ac ?_))))))
  obtain rfl := sj h
  refine Aj ((Bk 4 2004 3 rfl rfl rfl).trans (sm [(1000, 2004)] [(4, .e (.one (.own 1000))), (5, .e (.one (.pure (.val (.int .i64 0))))), (6, .e (.one (.pure (.val (.int .i64 v1.2)))))] [(1000, .vec 3 ((([] : List Af)).map Ae))] rfl rfl)) (Ax ?_)
  exact ⟨⟨[_, _, _], ⟨.tmp _ _ rfl, ⟨.tmp _ _ rfl, ⟨.tmp _ _ rfl, trivial⟩⟩⟩, rfl⟩, ⟨rfl, trivial⟩⟩
 ·have h := Am c2 h
  refine Ap (Ab (Aa Ad rfl (qL Do Dh rfl (qL AU Aw rfl (qm rfl (CP (Ba 2001 _ _ rfl rfl) (CP (Ba 2002 _ _ rfl rfl) (CP (Ba 2003 _ _ rfl rfl) ?_))))))))
  obtain ⟨v3, a3, h⟩ := bind_some h
  refine AB [2005] (Mm N p0 v1.1 p1 v3 a3) RL rfl (qx rfl (qx rfl (qx rfl (qa rfl (qa rfl (qa rfl (Ac ?_)))))))
  obtain rfl := sj h
  refine Aj (sm [(1000, 2005)] [(4, .e (.one (.own 1000))), (5, .e (.one (.pure (.val (.int .i64 v3.2.1))))), (6, .e (.one (.pure (.val (.int .i64 v3.2.2)))))] [(1000, .vec 3 (v3.1.map Ae))] rfl rfl) (Ax ?_)
  exact ⟨⟨[_, _, _], ⟨.tmp _ _ rfl, ⟨.tmp _ _ rfl, ⟨.tmp _ _ rfl, trivial⟩⟩⟩, rfl⟩, ⟨rfl, trivial⟩⟩
set_option maxRecDepth 10000 in
theorem EF (N : Nat) (p0 : List Af) (p1 : (Af × Af) → Option Bool) (r : Nat × (List Af)) (h : Cd N p0 p1 = some r) : Bg Try.prog 26 [.e (.one (.own 90000)), .e (.one (.clo (Bp (C4 true Ae true Ae) tB p1)))] [(.vec 3 (p0.map Ae), .vec 3 (r.2.map Ae))] [] (.e (.one (.view 90000 3 0 r.1))) := by
 unfold Cd at h
 refine A9 (n := 66) (rs := [.tmp 4]) Try.func26 rfl rfl rfl (AV rfl) (AV rfl) rfl rfl (AV rfl) rfl (AV rfl) fun w0 S0 GL => ?_
 refine Aj (sm [] [(0, .e (.one (.own 90000))), (1, .e (.one (.clo (Bp (C4 true Ae true Ae) tB p1))))] [(90000, .vec 3 (p0.map Ae))] rfl rfl) (Ab (Aa Ad rfl (qa rfl (Ac (Ab (Ab (Aa Ad rfl (qm rfl (CU AE rfl (AS rfl (Ac ?_)))))))))))
 refine Ao rfl (fun c1 => ?_) (fun c1 => ?_)
 ·have h := An c1 h
  refine Ab (Aa Ad rfl (qm rfl (qa rfl (Ac ?_))))
  obtain rfl := sj h
  refine Aj ((KX Ae p0 4 90000 3 rfl rfl).trans (sm [] [(4, .e (.one (.view 90000 3 0 p0.length)))] [(90000, .vec 3 (p0.map Ae))] rfl rfl)) (Ax ?_)
  exact ⟨⟨[_], ⟨.tmp _ _ rfl, trivial⟩, rfl⟩, ⟨rfl, trivial⟩, trivial⟩
 ·have h := Am c1 h
  refine Ap (Ab (Ab (Aa Ad rfl (qa rfl (Ac ?_)))))
  refine AF (L := Bv N p0 p1) h (fun v2 => mk [(0, .e (.one (.own 90000))), (1, .e (.one (.clo (Bp (C4 true Ae true Ae) tB p1)))), (5, .e (.one (.pure (.val (.int .i64 v2)))))] [(90000, .vec 3 (p0.map Ae))]) (fun v3 => mk [(0, .e (.one (.own 90000)))] [(90000, .vec 3 (p0.map Ae))]) (fun _ _ => rfl) (sm [] _ _ rfl rfl) (fun j2 n2 v2 h => ?_) (fun v3 s h hs => ?_)
  ·unfold Bv at h
   refine Ab (Ab (Aa Ad rfl (qm rfl (qm rfl (CU AE rfl (AS rfl (Ac ?_)))))))
   refine Ao rfl (fun c4 => ?_) (fun c4 => ?_)
   ·have h := An c4 h
    refine Ap (Ab (AI (Ab (Aa Ad rfl (qm rfl (qm rfl (qm rfl ?_)))))))
    obtain ⟨v5, a5, b5, h⟩ := Ah h
    refine qI AE Aw a5 (Ag b5) rfl (qJ AU Aw (Ag b5) rfl (qm rfl (qm rfl (BY rfl ?_))))
    obtain ⟨v6, a6, b6, h⟩ := Ah h
    refine qI AE Aw a6 (Ag b6) rfl (qJ AU Aw (Ag b6) rfl ?_)
    obtain ⟨v7, a7, h⟩ := bind_some h
    refine C9 (ds0 := [_, _]) (ar := (C4 true Ae true Ae) ((v5, v6))) (.p rfl) rfl rfl ⟨rfl, rfl, trivial⟩ rfl rfl rfl (C6 (DI _ _ _ _ A5 A5) a7) ?_
    refine AJ (by kernel_rfl) ?_
    refine Ao rfl (fun c8 => ?_) (fun c8 => ?_)
    ·have h := An c8 h
     refine Ab (Aa Ad rfl (qm rfl (qm rfl ?_)))
     obtain ⟨c9, h⟩ := AT h
     have w10 : ((v2).toNat) + ((p0.length - (v2).toNat)) ≤ p0.length := by have := c9.2.1; have := c9.2.2; omega
     refine Gn Ae p0 (.p rfl) rfl (FT Ae _ _ p0) rfl AE Aw (.some _ _ _ _ c9.1) (.none _) ⟨rfl, trivial⟩ trivial c9.2.1 (by rw [Nat.zero_add]; exact c9.2.2) (Nat.zero_add _) rfl ?_
     refine qa rfl (Ac (Ab (Ab (Aa Ad rfl (qa rfl (Ac ?_))))))
     refine AF (L := Bq N p0 p1 v2) h (fun v11 => mk [(0, .e (.one (.own 90000))), (1, .e (.one (.clo (Bp (C4 true Ae true Ae) tB p1)))), (5, .e (.one (.pure (.val (.int .i64 v11.2.1))))), (6, .e (.one (.view 90000 3 ((v2).toNat) ((p0.length - (v2).toNat))))), (7, .e (.one (.pure (.val (.int .i64 v11.2.2)))))] [(90000, .vec 3 (v11.1.map Ae))]) (fun v12 => mk [(0, .e (.one (.own 90000))), (5, .e (.one (.pure (.val (.int .i64 v12.2)))))] [(90000, .vec 3 (v12.1.map Ae))]) (fun _ _ => rfl) (sm [] _ _ rfl rfl) (fun j11 n11 v11 h => ?_) (fun v12 s h hs => ?_)
     ·unfold Bq at h
      refine Ab (Ab (Aa Ad rfl (qm rfl (qm rfl ?_))))
      refine OG (.p rfl) rfl AE ?_
      refine AS rfl (Ac ?_)
      refine Ao rfl (fun c13 => ?_) (fun c13 => ?_)
      ·have h := An c13 h
       refine Ap ?_
       refine AN h (fun v14 => mk [(0, .e (.one (.own 90000))), (1, .e (.one (.clo (Bp (C4 true Ae true Ae) tB p1)))), (5, .e (.one (.pure (.val (.int .i64 v14.2))))), (6, .e (.one (.view 90000 3 ((v2).toNat) ((p0.length - (v2).toNat))))), (7, .e (.one (.pure (.val (.int .i64 v11.2.2)))))] [(90000, .vec 3 (v14.1.map Ae))]) (fun j14 h => ?_) (fun v14 h => ?_)
       ·refine AI (Ab (Aa Ad rfl (qm rfl (qm rfl (qm rfl ?_)))))
        obtain ⟨c16, h⟩ := AT h
        obtain ⟨v15, a15, b15, h⟩ := Ah h
        refine IS Ae v11.1 (.p rfl) rfl c16 rfl rfl AE Aw a15 (GN b15).1 rfl ?_
        refine Is (.p rfl) rfl AU Aw rfl (Ag (GN b15).2) ?_
        refine qm rfl (qm rfl (BY rfl ?_))
        obtain ⟨v17, a17, b17, h⟩ := Ah h
        refine IS Ae v11.1 (.p rfl) rfl c16 rfl rfl AE Aw a17 (GN b17).1 rfl ?_
        refine Is (.p rfl) rfl AU Aw rfl (Ag (GN b17).2) ?_
        obtain ⟨v18, a18, h⟩ := bind_some h
        refine C9 (ds0 := [_, _]) (ar := (C4 true Ae true Ae) ((v15, v17))) (.p rfl) rfl rfl ⟨rfl, rfl, trivial⟩ rfl rfl rfl (C6 (DI _ _ _ _ A5 A5) a18) ?_
        refine Cg rfl (AJ (by kernel_rfl) ?_)
        refine Ao rfl (fun c19 => ?_) (fun c19 => ?_)
        ·have h := An c19 h
         refine Ab (Aa Ad rfl (qm rfl (qm rfl (qm rfl (qm rfl ?_)))))
         obtain ⟨v20, a20, b20, h⟩ := Ah h
         refine IS Ae v11.1 (.p rfl) rfl c16 rfl rfl AE Aw a20 (GN b20).1 rfl ?_
         refine Is (.p rfl) rfl AU Aw rfl (Ag (GN b20).2) ?_
         obtain ⟨v21, a21, b21, h⟩ := Ah h
         refine qI AE Aw a21 (Ag b21) rfl ?_
         refine AZ rfl rfl rfl rfl (Ag b21) rfl Aw rfl (AV rfl) (A0 Ae v11.1 _ v20) ?_
         refine Ac (Aa Ad rfl (qm rfl (AO rfl (qa rfl (Ac ?_)))))
         exact Av _ h (sm [] _ _ rfl rfl)
        ·have h := Am c19 h
         refine Ap ?_
         exact Av _ h (sm [] _ _ rfl rfl)
       ·refine Aa Ad rfl (qm rfl (AO rfl (qa rfl (Ac ?_))))
        exact Av _ h (sm [] _ _ rfl rfl)
      ·have h := Am c13 h
       refine AR ?_
       exact Av _ h (sm [] _ _ rfl rfl)
     ·refine Aj hs (Ab (Aa Ad rfl (qm rfl (qm rfl ?_))))
      obtain ⟨c22, h⟩ := AT h
      have w23 : ((v12.2).toNat) + ((v12.1.length - (v12.2).toNat)) ≤ v12.1.length := by have := c22.2.1; have := c22.2.2; omega
      refine Gn Ae v12.1 (.p rfl) rfl (FT Ae _ _ v12.1) rfl AE Aw (.some _ _ _ _ c22.1) (.none _) ⟨rfl, trivial⟩ trivial c22.2.1 (by rw [Nat.zero_add]; exact c22.2.2) (Nat.zero_add _) rfl ?_
      have w24 : (GZ v12.1 ((v12.2).toNat) (List.replicate ((v12.1.length - (v12.2).toNat)) ((Af.mk (([] : List Int)) (([] : List Int)) (([] : List Int)))))).length = v12.1.length := Ha (by rw [List.length_replicate]; exact w23)
      refine LK Ae v12.1 ((Af.mk (([] : List Int)) (([] : List Int)) (([] : List Int)))) rfl rfl (IY Ae _ _ ((v12.2).toNat) ((v12.1.length - (v12.2).toNat)) v12.1 w23) rfl AE CZ rfl rfl rfl rfl ?_
      refine Ac (Ab (Aa Ad rfl (qm rfl (qm rfl ?_))))
      obtain ⟨c25, h⟩ := AT h
      have w26 : 0 + ((v12.2).toNat) ≤ (GZ v12.1 ((v12.2).toNat) (List.replicate ((v12.1.length - (v12.2).toNat)) ((Af.mk (([] : List Int)) (([] : List Int)) (([] : List Int)))))).length := by have := c25.2.1; have := c25.2.2; omega
      refine Gn Ae (GZ v12.1 ((v12.2).toNat) (List.replicate ((v12.1.length - (v12.2).toNat)) ((Af.mk (([] : List Int)) (([] : List Int)) (([] : List Int)))))) (.p rfl) rfl (FT Ae _ _ (GZ v12.1 ((v12.2).toNat) (List.replicate ((v12.1.length - (v12.2).toNat)) ((Af.mk (([] : List Int)) (([] : List Int)) (([] : List Int))))))) rfl AE Aw (.none _) (.some _ _ _ _ c25.1) trivial ⟨rfl, trivial⟩ c25.2.1 (by rw [Nat.zero_add]; exact c25.2.2) (Nat.zero_add _) rfl ?_
      refine qa rfl (Ac ?_)
      obtain rfl := sj h
      refine Aj (sm [] [(4, .e (.one (.view 90000 3 0 ((v12.2).toNat))))] [(90000, .vec 3 ((GZ v12.1 ((v12.2).toNat) (List.replicate ((v12.1.length - (v12.2).toNat)) ((Af.mk (([] : List Int)) (([] : List Int)) (([] : List Int)))))).map Ae))] rfl rfl) (Ax ?_)
      exact ⟨⟨[_], ⟨.tmp _ _ rfl, trivial⟩, rfl⟩, ⟨rfl, trivial⟩, trivial⟩
    ·have h := Am c8 h
     refine Ap (Aa Ad rfl (qm rfl (AO rfl (qa rfl (Ac ?_)))))
     exact Av _ h (sm [] _ _ rfl rfl)
   ·have h := Am c4 h
    refine AR ?_
    exact Av _ h (sm [] _ _ rfl rfl)
  ·refine Aj hs (Ab (Aa Ad rfl (qm rfl (qa rfl (Ac ?_)))))
   obtain rfl := sj h
   refine Aj ((KX Ae p0 4 90000 3 rfl rfl).trans (sm [] [(4, .e (.one (.view 90000 3 0 p0.length)))] [(90000, .vec 3 (p0.map Ae))] rfl rfl)) (Ax ?_)
   exact ⟨⟨[_], ⟨.tmp _ _ rfl, trivial⟩, rfl⟩, ⟨rfl, trivial⟩, trivial⟩
set_option maxRecDepth 10000 in
theorem Jv (N : Nat) (p0 : Af) (p1 : Af) (r : Bool) (h : Ev N p0 p1 = some r) : Az Try.prog 27 [.e (.agg [.pure (.sl (p0.fBase.map Ai)), .pure (.sl (p0.fNext.map Ai)), .pure (.sl (p0.fHeld.map BX))]), .e (.agg [.pure (.sl (p1.fBase.map Ai)), .pure (.sl (p1.fNext.map Ai)), .pure (.sl (p1.fHeld.map BX))])] [] (.e (.one (.pure (.val (.bool r))))) := by
 unfold Ev at h
 refine Aq (n := 9) (rs := [.tmp 4]) Try.func27 rfl rfl rfl (AV rfl) (AV rfl) rfl fun w0 S0 => ?_
 refine Ab (Aa Ad rfl (qb rfl (qb rfl (qa rfl (Ac (Ab (Aa Ad rfl (qL AU Aw rfl (qL AU Aw rfl ?_)))))))))
 obtain ⟨v1, a1, h⟩ := bind_some h
 refine AB [] (GG N p0 p1 v1 a1) O7 rfl (BR rfl (qa rfl (Ac ?_)))
 obtain rfl := sj h
 refine Aj (sm [] [(4, .e (.one (.pure (.val (.bool ((v1 == 0)))))))] [] rfl rfl) (Ax ?_)
 exact ⟨⟨[_], ⟨.tmp _ _ rfl, trivial⟩, rfl⟩, trivial⟩
set_option maxRecDepth 10000 in
theorem H8 (N : Nat) (p0 : Ak) (p1 : List Au) (r : (List Af) × Int) (h : DO N p0 p1 = some r) : Az Try.prog 8 [.e (.agg [.pure (.sl (p0.fVersions.map Ai)), .pure (.sl (p0.fNow.map Ai)), .pure (.sl (p0.fTarget.map Ai)), .pure (.sl (p0.fTables.map Ar))]), .e (.one (.pure (.sl (p1.map AC))))] [(3, r.1.map Ae)] (.tup [.one (.own 0), .one (.pure (.val (.int .i64 r.2)))]) := by
 unfold DO at h
 refine Aq (n := 47) (rs := [.tmp 4, .tmp 5]) Try.func8 rfl rfl rfl (AV rfl) (AV rfl) rfl fun w0 S0 => ?_
 refine Ab (Aa Ad rfl (qb rfl (qa rfl (qa rfl (Ac (Ab (Aa Ad rfl (qL Do Dh rfl (qm rfl ?_)))))))))
 obtain ⟨v1, a1, h⟩ := bind_some h
 refine AB [2001] (HO N p0 p1 v1 a1) PM rfl (qm rfl (qx rfl (qx rfl (qx rfl (qa rfl (qa rfl (qa rfl (Ac (Ab (Ab (Aa Ad rfl (qm rfl (Ch rfl (Ac ?_))))))))))))))
 refine Ao rfl (fun c2 => ?_) (fun c2 => ?_)
 ·have h := An c2 h
  refine Ab (Aa Ad rfl (qm rfl (qa rfl (qa rfl (Ac ?_)))))
  obtain rfl := sj h
  refine Aj ((Bk 4 2002 3 rfl rfl rfl).trans (sm [(1000, 2002)] [(4, .e (.one (.own 1000))), (5, .e (.one (.pure (.val (.int .i64 v1.2.2)))))] [(1000, .vec 3 ((([] : List Af)).map Ae))] rfl rfl)) (Ax ?_)
  exact ⟨⟨[_, _], ⟨.tmp _ _ rfl, ⟨.tmp _ _ rfl, trivial⟩⟩, rfl⟩, ⟨rfl, trivial⟩⟩
 ·have h := Am c2 h
  refine Ap (Ab (Aa Ad rfl (qa rfl (Ac (Ab (Ab (Aa Ad rfl (qm rfl (CU AE rfl (qm rfl (Ac ?_)))))))))))
  refine AF (L := Ec N p0 v1) h (fun v3 => mk [(2, .e (.one (.ptr 2 0))), (9, .e (.one (.own 2003))), (24, .e (.one (.own 2004))), (25, .e (.one (.pure (.val (.int .i64 ((v1.1.length : Int))))))), (26, .e (.one (.pure (.val (.int .i64 v3.2)))))] [(2, .box [.pure (.sl (p0.fVersions.map Ai)), .pure (.sl (p0.fNow.map Ai)), .pure (.sl (p0.fTarget.map Ai)), .pure (.sl (p0.fTables.map Ar))]), (2003, .vec 3 (v3.1.map Ae)), (2004, .vec 3 (v1.1.map Ae))]) (fun v4 => mk [(9, .e (.one (.own 2005)))] [(2005, .vec 3 (v4.map Ae))]) (fun _ _ => rfl) ((Bk 9 2008 3 rfl rfl rfl).trans (sm [(2003, 2008), (2004, 2001)] _ _ rfl rfl)) (fun j3 n3 v3 h => ?_) (fun v4 s h hs => ?_)
  ·unfold Ec at h
   refine Ab (Aa Ad rfl (AS rfl (Ac (Ab ?_))))
   refine Ao rfl (fun c5 => ?_) (fun c5 => ?_)
   ·have h := An c5 h
    refine Ap (Ab (AI (Ab (Aa Ad rfl ?_))))
    obtain ⟨v6, a6, b6, h⟩ := Ah h
    refine qI AE Aw a6 (Ag b6) rfl (qJ AU Aw (Ag b6) rfl (qz CZ rfl (qs Aw rfl (Ac (Ab (Aa Ad rfl (qL Do Dh rfl (qL AU Aw rfl ?_))))))))
    obtain ⟨v7, a7, h⟩ := bind_some h
    refine AB [2006] (IQ N p0 v6 v7 a7) Qr rfl (qm rfl (qx rfl (qx rfl (qa rfl (qa rfl (Ac (Ab (Ab (Aa Ad rfl (qm rfl (Ch rfl (Ac ?_))))))))))))
    refine Ao rfl (fun c8 => ?_) (fun c8 => ?_)
    ·have h := An c8 h
     refine Ab (Aa Ad rfl (qm rfl (qa rfl (qa rfl (Ac ?_)))))
     obtain rfl := sj h
     refine Aj ((Bk 4 2007 3 rfl rfl rfl).trans (sm [(1000, 2007)] [(4, .e (.one (.own 1000))), (5, .e (.one (.pure (.val (.int .i64 v7.2)))))] [(1000, .vec 3 ((([] : List Af)).map Ae))] rfl rfl)) (Ax ?_)
     exact ⟨⟨[_, _], ⟨.tmp _ _ rfl, ⟨.tmp _ _ rfl, trivial⟩⟩, rfl⟩, ⟨rfl, trivial⟩⟩
    ·have h := Am c8 h
     refine Ap (Aa Ad rfl (qm rfl (qm rfl ?_)))
     obtain ⟨c9, h⟩ := AT h
     refine EK (f := Ae) AE AE Aw LU CZ c9 rfl (qa rfl (Ac (Aa Ad rfl (AO rfl (qm rfl (Ac ?_))))))
     exact Av _ h (sm [(2003, 41)] _ _ rfl rfl)
   ·have h := Am c5 h
    refine AR ?_
    exact Av _ h (sm [(2005, 2003)] _ _ rfl rfl)
  ·refine Aj hs (Ab (Aa Ad rfl (qm rfl ?_)))
   obtain ⟨v10, a10, h⟩ := bind_some h
   refine Ce (ds0 := [_, _]) [2005] [] [true] (Bg.weak (ds' := [_, .e (.one (.fnc 25))]) (Dr N v4 ((fun (x : Af × Af) => Df N x.1 x.2)) v10 a10) ⟨(fun _ _ _ hh => hh), (fun _ _ _ hh => JZ O7 (fun ar t ht => by obtain ⟨x, r, rfl, hq, rfl⟩ := GH ht; exact GG N x.1 x.2 r hq) hh), trivial⟩) (.p rfl) QD rfl ⟨rfl, rfl, trivial⟩ rfl rfl (by decide) ⟨rfl, trivial⟩ rfl (AX rfl) trivial ⟨(fun h => by cases h), trivial⟩ rfl rfl rfl ?_
   refine Ac (Ab (Aa Ad rfl (qm rfl ?_)))
   obtain ⟨v11, a11, h⟩ := bind_some h
   obtain ⟨c12, h⟩ := AT h
   have w13 : 0 + v11.1 ≤ v11.2.length := by rw [Nat.zero_add]; exact c12
   refine Ce (ds0 := [_, _]) [2005] [] [true] (Bg.weak (ds' := [_, .e (.one (.fnc 27))]) (EF N v10 ((fun (x : Af × Af) => Ev N x.1 x.2)) v11 a11) ⟨(fun _ _ _ hh => hh), (fun _ _ _ hh => JZ Rh (fun ar t ht => by obtain ⟨x, r, rfl, hq, rfl⟩ := GH ht; exact Jv N x.1 x.2 r hq) hh), trivial⟩) (.p rfl) Rp rfl ⟨rfl, rfl, trivial⟩ rfl rfl (by decide) ⟨rfl, trivial⟩ rfl (AX rfl) trivial ⟨(fun h => by cases h), trivial⟩ rfl rfl rfl ?_
   refine CP (NT Ae v11.2 46 2005 2009 3 v11.1 rfl rfl rfl rfl rfl c12) (qa rfl (qa rfl (Ac ?_)))
   obtain rfl := sj h
   refine Aj (sm [(1000, 2009)] [(4, .e (.one (.own 1000))), (5, .e (.one (.pure (.val (.int .i64 0)))))] [(1000, .vec 3 ((v11.2.take v11.1).map Ae))] rfl rfl) (Ax ?_)
   exact ⟨⟨[_, _], ⟨.tmp _ _ rfl, ⟨.tmp _ _ rfl, trivial⟩⟩, rfl⟩, ⟨rfl, trivial⟩⟩
set_option maxRecDepth 10000 in
theorem Iw (N : Nat) (p0 : Ak) (p1 : List Au) (r : Bool × Int) (h : D5 N p0 p1 = some r) : Az Try.prog 9 [.e (.agg [.pure (.sl (p0.fVersions.map Ai)), .pure (.sl (p0.fNow.map Ai)), .pure (.sl (p0.fTarget.map Ai)), .pure (.sl (p0.fTables.map Ar))]), .e (.one (.pure (.sl (p1.map AC))))] [] (.tup [.one (.pure (.val (.bool r.1))), .one (.pure (.val (.int .i64 r.2)))]) := by
 unfold D5 at h
 refine Aq (n := 43) (rs := [.tmp 4, .tmp 5]) Try.func9 rfl rfl rfl (AV rfl) (AV rfl) rfl fun w0 S0 => ?_
 refine Ab (Aa Ad rfl (qb rfl (qa rfl (qa rfl (Ac (Ab (Aa Ad rfl (qL Do Dh rfl (qm rfl ?_)))))))))
 obtain ⟨v1, a1, h⟩ := bind_some h
 refine AB [2001] (HO N p0 p1 v1 a1) PM rfl (qm rfl (qx rfl (qx rfl (qx rfl (qa rfl (qa rfl (qa rfl (Ac (Ab (Ab (Aa Ad rfl (qm rfl (Ch rfl (Ac ?_))))))))))))))
 refine Ao rfl (fun c2 => ?_) (fun c2 => ?_)
 ·have h := An c2 h
  refine Ab (Aa Ad rfl (qm rfl (qa rfl (qa rfl (Ac ?_)))))
  obtain rfl := sj h
  refine Aj (sm [] [(4, .e (.one (.pure (.val (.bool false))))), (5, .e (.one (.pure (.val (.int .i64 v1.2.2)))))] [] rfl rfl) (Ax ?_)
  exact ⟨⟨[_, _], ⟨.tmp _ _ rfl, ⟨.tmp _ _ rfl, trivial⟩⟩, rfl⟩, trivial⟩
 ·have h := Am c2 h
  refine Ap (Ab (Ab (Aa Ad rfl (qm rfl (CU AE rfl (qm rfl (Ac ?_)))))))
  refine AF (L := EB N p0 v1) h (fun v3 => mk [(2, .e (.one (.ptr 2 0))), (23, .e (.one (.own 2002))), (24, .e (.one (.pure (.val (.int .i64 ((v1.1.length : Int))))))), (25, .e (.one (.pure (.val (.int .i64 v3)))))] [(2, .box [.pure (.sl (p0.fVersions.map Ai)), .pure (.sl (p0.fNow.map Ai)), .pure (.sl (p0.fTarget.map Ai)), .pure (.sl (p0.fTables.map Ar))]), (2002, .vec 3 (v1.1.map Ae))]) (fun v4 => mk [] []) (fun _ _ => rfl) (sm [(2002, 2001)] _ _ rfl rfl) (fun j3 n3 v3 h => ?_) (fun v4 s h hs => ?_)
  ·unfold EB at h
   refine Ab (Aa Ad rfl (AS rfl (Ac (Ab ?_))))
   refine Ao rfl (fun c5 => ?_) (fun c5 => ?_)
   ·have h := An c5 h
    refine Ap (Ab (AI (Ab (Aa Ad rfl ?_))))
    obtain ⟨v6, a6, b6, h⟩ := Ah h
    refine qI AE Aw a6 (Ag b6) rfl (qJ AU Aw (Ag b6) rfl (qz CZ rfl (qs Aw rfl (Ac (Ab (Aa Ad rfl (qL Do Dh rfl (qL AU Aw rfl ?_))))))))
    obtain ⟨v7, a7, h⟩ := bind_some h
    refine AB [] (G5 N p0 v6 v7 a7) Pi rfl (qm rfl (qx rfl (qx rfl (qa rfl (qa rfl (Ac ?_))))))
    refine AN h (fun v8 => mk [(2, .e (.one (.ptr 2 0))), (12, .e (.one (.pure (.val (.int .i64 v7.2))))), (23, .e (.one (.own 2003))), (24, .e (.one (.pure (.val (.int .i64 ((v1.1.length : Int))))))), (25, .e (.one (.pure (.val (.int .i64 v3))))), (40, .e (.one (.pure (.val (.bool v8)))))] [(2, .box [.pure (.sl (p0.fVersions.map Ai)), .pure (.sl (p0.fNow.map Ai)), .pure (.sl (p0.fTarget.map Ai)), .pure (.sl (p0.fTables.map Ar))]), (2003, .vec 3 (v1.1.map Ae))]) (fun j8 h => ?_) (fun v8 h => ?_)
    ·refine Aa Ad rfl (qm rfl (Ch rfl (qm rfl ?_)))
     refine AA (t := 37) rfl (fun c9 => ?_) (fun c9 => ?_)
     ·have h := An c9 h
      refine qn rfl (qn rfl (qp rfl (Ac ?_)))
      exact Av _ h (sm [(2003, 2002)] _ _ rfl rfl)
     ·have h := Am c9 h
      refine qm rfl (Cg rfl (qp rfl (Ac ?_)))
      exact Av _ h (sm [(2003, 2002)] _ _ rfl rfl)
    ·refine Ao rfl (fun c10 => ?_) (fun c10 => ?_)
     ·have h := An c10 h
      refine Ab (Aa Ad rfl (qm rfl (qa rfl (qa rfl (Ac ?_)))))
      obtain rfl := sj h
      refine Aj (sm [] [(4, .e (.one (.pure (.val (.bool false))))), (5, .e (.one (.pure (.val (.int .i64 v7.2)))))] [] rfl rfl) (Ax ?_)
      exact ⟨⟨[_, _], ⟨.tmp _ _ rfl, ⟨.tmp _ _ rfl, trivial⟩⟩, rfl⟩, trivial⟩
     ·have h := Am c10 h
      refine Ap (Aa Ad rfl (AO rfl (qm rfl (Ac ?_))))
      exact Av _ h (sm [(2002, 2003)] _ _ rfl rfl)
   ·have h := Am c5 h
    refine AR ?_
    exact Av _ h (sm [] _ _ rfl rfl)
  ·refine Aj hs (Ab (Aa Ad rfl (qa rfl (qa rfl (Ac ?_)))))
   obtain rfl := sj h
   refine Aj (sm [] [(4, .e (.one (.pure (.val (.bool true))))), (5, .e (.one (.pure (.val (.int .i64 0)))))] [] rfl rfl) (Ax ?_)
   exact ⟨⟨[_, _], ⟨.tmp _ _ rfl, ⟨.tmp _ _ rfl, trivial⟩⟩, rfl⟩, trivial⟩
set_option maxRecDepth 10000 in
theorem F4 (N : Nat) (r : Bool) (h : CX N = some r) : Az Try.prog 6 [] [] (.e (.one (.pure (.val (.bool r))))) := by
 unfold CX at h
 refine Aq (n := 84) (rs := [.tmp 0]) Try.func6 rfl rfl rfl (AV rfl) (AV rfl) rfl fun w0 S0 => ?_
 refine Ab (Aa Ad rfl (qa rfl (Ac (Ab (Aa Ad rfl ?_)))))
 obtain ⟨v1, a1, h⟩ := bind_some h
 refine AB [2001, 2002, 2003, 2004] (CK N false v1 a1) NG rfl (CP (Ba 2001 _ _ rfl rfl) (CP (Ba 2002 _ _ rfl rfl) (CP (Ba 2003 _ _ rfl rfl) (CP (Ba 2004 _ _ rfl rfl) ?_))))
 obtain ⟨v2, a2, h⟩ := bind_some h
 refine AB [2005] (Gk N v1 v2 a2) PN rfl (qm rfl (qx rfl (qx rfl (qa rfl (qa rfl (Ac (Ab (Aa Ad rfl ?_))))))))
 obtain ⟨v3, a3, h⟩ := bind_some h
 refine AB [2006, 2007, 2008, 2009] (CK N true v3 a3) NG rfl (CP (Ba 2006 _ _ rfl rfl) (CP (Ba 2007 _ _ rfl rfl) (CP (Ba 2008 _ _ rfl rfl) (CP (Ba 2009 _ _ rfl rfl) ?_))))
 obtain ⟨v4, a4, h⟩ := bind_some h
 refine AB [2010] (Gk N v3 v4 a4) PN rfl (qm rfl (qx rfl (qx rfl (qa rfl (qa rfl (Ac (Ab (Aa Ad rfl ?_))))))))
 obtain ⟨v5, a5, h⟩ := bind_some h
 refine AB [2011, 2012, 2013, 2014] (CK N false v5 a5) NG rfl (E4 H6 PQ PR rfl ?_)
 obtain ⟨v6, a6, h⟩ := bind_some h
 refine Fr [2015] [2011, 2012, 2013, 2014, 24] (Ix N v5 (([1, 2, 3] : List Int)) v6 a6) QG (Im (fun _ => rfl) DQ) rfl (qm rfl (qx rfl (qx rfl (qa rfl (qa rfl (Ac (Ab (Aa Ad rfl (Cy G8 Ov rfl (E4 CY DW G8 rfl (qa rfl (Ac (Ab (Aa Ad rfl ?_))))))))))))))
 obtain ⟨v7, a7, h⟩ := bind_some h
 refine AB [2016, 2017, 2018, 2019] (CK N false v7 a7) NG rfl (qm rfl (CP (Ba 2016 _ _ rfl rfl) (CP (Ba 2017 _ _ rfl rfl) (CP (Ba 2018 _ _ rfl rfl) (CP (Ba 2019 _ _ rfl rfl) (CP (Ba 29 _ _ rfl rfl) ?_))))))
 obtain ⟨v8, a8, h⟩ := bind_some h
 refine AB [2020] (H8 N v7 (([(Au.mk 1 0 1)] : List Au)) v8 a8) RV rfl (qm rfl (qx rfl (qx rfl (qa rfl (qa rfl (Ac (Ab (Aa Ad rfl ?_))))))))
 obtain ⟨v9, a9, h⟩ := bind_some h
 refine AB [2021, 2022, 2023, 2024] (CK N false v9 a9) NG rfl (qm rfl ?_)
 obtain ⟨v10, a10, h⟩ := bind_some h
 refine Fr [] [2021, 2022, 2023, 2024] (Iw N v9 (([(Au.mk 1 0 1)] : List Au)) v10 a10) RX DQ rfl (qm rfl (qx rfl (qx rfl (qa rfl (qa rfl (Ac ?_))))))
 refine AN h (fun v11 => mk [(0, .e (.one (.pure (.val (.bool v11)))))] []) (fun j11 h => ?_) (fun v11 h => ?_)
 ·refine Aa Ad rfl (qm rfl (BR rfl (qm rfl ?_)))
  refine AA (t := 44) rfl (fun c12 => ?_) (fun c12 => ?_)
  ·have h := An c12 h
   refine qm rfl (BR rfl (qp rfl (qm rfl ?_)))
   refine AA (t := 48) rfl (fun c13 => ?_) (fun c13 => ?_)
   ·have h := An c13 h
    refine qm rfl (BR rfl (qp rfl (qm rfl ?_)))
    refine AA (t := 52) rfl (fun c14 => ?_) (fun c14 => ?_)
    ·have h := An c14 h
     refine qm rfl (BR rfl (qp rfl (qm rfl ?_)))
     refine AA (t := 56) rfl (fun c15 => ?_) (fun c15 => ?_)
     ·have h := An c15 h
      refine qm rfl (BR rfl (qp rfl (qm rfl ?_)))
      refine AA (t := 60) rfl (fun c16 => ?_) (fun c16 => ?_)
      ·have h := An c16 h
       refine qm rfl (CU AE rfl (BR rfl (qp rfl (qm rfl ?_))))
       refine AA (t := 65) rfl (fun c17 => ?_) (fun c17 => ?_)
       ·have h := An c17 h
        refine qm rfl (CU AE rfl (BR rfl (qp rfl (qm rfl ?_))))
        refine AA (t := 70) rfl (fun c18 => ?_) (fun c18 => ?_)
        ·have h := An c18 h
         refine qm rfl (CU CY rfl (BR rfl (qp rfl (qm rfl ?_))))
         refine AA (t := 75) rfl (fun c19 => ?_) (fun c19 => ?_)
         ·have h := An c19 h
          refine qm rfl (CU AE rfl (BR rfl (qp rfl (qm rfl ?_))))
          refine AA (t := 80) rfl (fun c20 => ?_) (fun c20 => ?_)
          ·have h := An c20 h
           refine qm rfl (Cg rfl (qp rfl (qa rfl (Ac ?_))))
           exact Av _ h (sm [] _ _ rfl rfl)
          ·have h := Am c20 h
           refine qn rfl (qn rfl (qp rfl (qa rfl (Ac ?_))))
           exact Av _ h (sm [] _ _ rfl rfl)
         ·have h := Am c19 h
          refine qn rfl (qn rfl (qn rfl (qp rfl (qm rfl (qn rfl (qn rfl (qp rfl (qa rfl (Ac ?_)))))))))
          exact Av _ h (sm [] _ _ rfl rfl)
        ·have h := Am c18 h
         refine qn rfl (qn rfl (qn rfl (qp rfl (qm rfl (qn rfl (qn rfl (qn rfl (qp rfl (qm rfl (qn rfl (qn rfl (qp rfl (qa rfl (Ac ?_))))))))))))))
         exact Av _ h (sm [] _ _ rfl rfl)
       ·have h := Am c17 h
        refine qn rfl (qn rfl (qn rfl (qp rfl (qm rfl (qn rfl (qn rfl (qn rfl (qp rfl (qm rfl (qn rfl (qn rfl (qn rfl (qp rfl (qm rfl (qn rfl (qn rfl (qp rfl (qa rfl (Ac ?_)))))))))))))))))))
        exact Av _ h (sm [] _ _ rfl rfl)
      ·have h := Am c16 h
       refine qn rfl (qn rfl (qn rfl (qp rfl (qm rfl (qn rfl (qn rfl (qn rfl (qp rfl (qm rfl (qn rfl (qn rfl (qn rfl (qp rfl (qm rfl (qn rfl (qn rfl (qn rfl (qp rfl (qm rfl (qn rfl (qn rfl (qp rfl (qa rfl (Ac ?_))))))))))))))))))))))))
       exact Av _ h (sm [] _ _ rfl rfl)
     ·have h := Am c15 h
      refine qn rfl (qn rfl (qp rfl (qm rfl (qn rfl (qn rfl (qn rfl (qp rfl (qm rfl (qn rfl (qn rfl (qn rfl (qp rfl (qm rfl (qn rfl (qn rfl (qn rfl (qp rfl (qm rfl (qn rfl (qn rfl (qn rfl (qp rfl (qm rfl (qn rfl (qn rfl (qp rfl (qa rfl (Ac ?_))))))))))))))))))))))))))))
      exact Av _ h (sm [] _ _ rfl rfl)
    ·have h := Am c14 h
     refine qn rfl (qn rfl (qp rfl (qm rfl (qn rfl (qn rfl (qp rfl (qm rfl (qn rfl (qn rfl (qn rfl (qp rfl (qm rfl (qn rfl (qn rfl (qn rfl (qp rfl (qm rfl (qn rfl (qn rfl (qn rfl (qp rfl (qm rfl (qn rfl (qn rfl (qn rfl (qp rfl (qm rfl (qn rfl (qn rfl (qp rfl (qa rfl (Ac ?_))))))))))))))))))))))))))))))))
     exact Av _ h (sm [] _ _ rfl rfl)
   ·have h := Am c13 h
    refine qn rfl (qn rfl (qp rfl (qm rfl (qn rfl (qn rfl (qp rfl (qm rfl (qn rfl (qn rfl (qp rfl (qm rfl (qn rfl (qn rfl (qn rfl (qp rfl (qm rfl (qn rfl (qn rfl (qn rfl (qp rfl (qm rfl (qn rfl (qn rfl (qn rfl (qp rfl (qm rfl (qn rfl (qn rfl (qn rfl (qp rfl (qm rfl (qn rfl (qn rfl (qp rfl (qa rfl (Ac ?_))))))))))))))))))))))))))))))))))))
    exact Av _ h (sm [] _ _ rfl rfl)
  ·have h := Am c12 h
   refine qn rfl (qn rfl (qp rfl (qm rfl (qn rfl (qn rfl (qp rfl (qm rfl (qn rfl (qn rfl (qp rfl (qm rfl (qn rfl (qn rfl (qp rfl (qm rfl (qn rfl (qn rfl (qn rfl (qp rfl (qm rfl (qn rfl (qn rfl (qn rfl (qp rfl (qm rfl (qn rfl (qn rfl (qn rfl (qp rfl (qm rfl (qn rfl (qn rfl (qn rfl (qp rfl (qm rfl (qn rfl (qn rfl (qp rfl (qa rfl ?_)))))))))))))))))))))))))))))))))))))))
   refine Ac ?_
   exact Av _ h (sm [] _ _ rfl rfl)
 ·obtain rfl := sj h
  refine Aj (sm [] [(0, .e (.one (.pure (.val (.bool v11)))))] [] rfl rfl) (Ax ?_)
  exact ⟨⟨[_], ⟨.tmp _ _ rfl, trivial⟩, rfl⟩, trivial⟩
set_option maxRecDepth 10000 in
theorem IP (N : Nat) (p0 : Ak) (r : Bool) (h : Dj N p0 = some r) : Az Try.prog 7 [.e (.agg [.pure (.sl (p0.fVersions.map Ai)), .pure (.sl (p0.fNow.map Ai)), .pure (.sl (p0.fTarget.map Ai)), .pure (.sl (p0.fTables.map Ar))])] [] (.e (.one (.pure (.val (.bool r))))) := by
 unfold Dj at h
 refine Aq (n := 97) (rs := [.tmp 2]) Try.func7 rfl rfl rfl (AV rfl) (AV rfl) rfl fun w0 S0 => ?_
 refine Ab (Aa Ad rfl (qb rfl (qa rfl (Ac (Ab ?_)))))
 refine AN h (fun v1 => mk [(1, .e (.one (.ptr 1 0))), (27, .e (.one (.pure (.val (.bool v1)))))] [(1, .box [.pure (.sl (p0.fVersions.map Ai)), .pure (.sl (p0.fNow.map Ai)), .pure (.sl (p0.fTarget.map Ai)), .pure (.sl (p0.fTables.map Ar))])]) (fun j1 h => ?_) (fun v1 h => ?_)
 ·refine Aa Ad rfl (qf Ck rfl (ql BS rfl (AM AK rfl (Dd rfl (qm rfl ?_)))))
  refine AA (t := 10) rfl (fun c2 => ?_) (fun c2 => ?_)
  ·have h := An c2 h
   refine qn rfl (qn rfl (qn rfl (qn rfl (qp rfl (qm rfl (qn rfl (qn rfl (qn rfl (qn rfl (qp rfl (qm rfl (qn rfl (qn rfl (qn rfl (qn rfl (qp rfl (Ac ?_)))))))))))))))))
   exact Av _ h (sm [] _ _ rfl rfl)
  ·have h := Am c2 h
   refine qf F6 rfl (ql BS rfl (AM AK rfl (Dd rfl (qp rfl (qm rfl ?_)))))
   refine AA (t := 16) rfl (fun c3 => ?_) (fun c3 => ?_)
   ·have h := An c3 h
    refine qn rfl (qn rfl (qn rfl (qn rfl (qp rfl (qm rfl (qn rfl (qn rfl (qn rfl (qn rfl (qp rfl (Ac ?_)))))))))))
    exact Av _ h (sm [] _ _ rfl rfl)
   ·have h := Am c3 h
    refine qf HS rfl (ql BS rfl (AM AK rfl (Dd rfl (qp rfl (qm rfl ?_)))))
    refine AA (t := 22) rfl (fun c4 => ?_) (fun c4 => ?_)
    ·have h := An c4 h
     refine qn rfl (qn rfl (qn rfl (qn rfl (qp rfl (Ac ?_)))))
     exact Av _ h (sm [] _ _ rfl rfl)
    ·have h := Am c4 h
     refine qf CI rfl (ql Gp rfl (AM DH rfl (Dd rfl (qp rfl (Ac ?_)))))
     exact Av _ h (sm [] _ _ rfl rfl)
 ·refine Ao rfl (fun c5 => ?_) (fun c5 => ?_)
  ·have h := An c5 h
   refine Ab (Aa Ad rfl (qa rfl (Ac ?_)))
   obtain rfl := sj h
   refine Aj (sm [] [(2, .e (.one (.pure (.val (.bool false)))))] [] rfl rfl) (Ax ?_)
   exact ⟨⟨[_], ⟨.tmp _ _ rfl, trivial⟩, rfl⟩, trivial⟩
  ·have h := Am c5 h
   refine Ap (Ab (Ab (Aa Ad rfl (qa rfl (Ac ?_)))))
   refine AF (L := Co N p0) h (fun v6 => mk [(1, .e (.one (.ptr 1 0))), (3, .e (.one (.pure (.val (.int .i64 v6)))))] [(1, .box [.pure (.sl (p0.fVersions.map Ai)), .pure (.sl (p0.fNow.map Ai)), .pure (.sl (p0.fTarget.map Ai)), .pure (.sl (p0.fTables.map Ar))])]) (fun v7 => mk [] []) (fun _ _ => rfl) (sm [] _ _ rfl rfl) (fun j6 n6 v6 h => ?_) (fun v7 s h hs => ?_)
   ·unfold Co at h
    refine Ab (Ab (Aa Ad rfl (qm rfl (qf CI rfl (ql Gp rfl (AM DH rfl (AS rfl (Ac ?_))))))))
    refine Ao rfl (fun c8 => ?_) (fun c8 => ?_)
    ·have h := An c8 h
     refine Ap (Ab (AI (Ab ?_)))
     refine AN h (fun v9 => mk [(1, .e (.one (.ptr 1 0))), (3, .e (.one (.pure (.val (.int .i64 v6))))), (52, .e (.one (.pure (.val (.bool v9)))))] [(1, .box [.pure (.sl (p0.fVersions.map Ai)), .pure (.sl (p0.fNow.map Ai)), .pure (.sl (p0.fTarget.map Ai)), .pure (.sl (p0.fTables.map Ar))])]) (fun j9 h => ?_) (fun v9 h => ?_)
     ·refine Aa Ad rfl (qf CI rfl (ql Gp rfl (qm rfl ?_)))
      obtain ⟨v10, a10, b10, h⟩ := Ah h
      refine qi DH D9 a10 (Ag b10) rfl (qg Hd rfl (qk GR rfl (AM EE rfl (Dd rfl (qm rfl ?_)))))
      refine AA (t := 43) rfl (fun c11 => ?_) (fun c11 => ?_)
      ·have h := An c11 h
       refine qn rfl (qn rfl (qn rfl (qn rfl (qn rfl (qn rfl (qn rfl (qn rfl (qp rfl (Ac ?_)))))))))
       exact Av _ h (sm [] _ _ rfl rfl)
      ·have h := Am c11 h
       refine qf CI rfl (ql Gp rfl (qm rfl ?_))
       obtain ⟨v12, a12, b12, h⟩ := Ah h
       refine qi DH D9 a12 (Ag b12) rfl (qg Ez rfl (qk GR rfl (AM EE rfl (Dd rfl (qp rfl (Ac ?_))))))
       exact Av _ h (sm [] _ _ rfl rfl)
     ·refine Ao rfl (fun c13 => ?_) (fun c13 => ?_)
      ·have h := An c13 h
       refine Ab (Aa Ad rfl (qa rfl (Ac ?_)))
       obtain rfl := sj h
       refine Aj (sm [] [(2, .e (.one (.pure (.val (.bool false)))))] [] rfl rfl) (Ax ?_)
       exact ⟨⟨[_], ⟨.tmp _ _ rfl, trivial⟩, rfl⟩, trivial⟩
      ·have h := Am c13 h
       refine Ap (Ab (Ab (Aa Ad rfl (qa rfl (Ac ?_)))))
       refine AF (L := BA N p0 v6) h (fun v14 => mk [(1, .e (.one (.ptr 1 0))), (3, .e (.one (.pure (.val (.int .i64 v6))))), (4, .e (.one (.pure (.val (.int .i64 v14)))))] [(1, .box [.pure (.sl (p0.fVersions.map Ai)), .pure (.sl (p0.fNow.map Ai)), .pure (.sl (p0.fTarget.map Ai)), .pure (.sl (p0.fTables.map Ar))])]) (fun v15 => mk [(1, .e (.one (.ptr 1 0))), (3, .e (.one (.pure (.val (.int .i64 v6)))))] [(1, .box [.pure (.sl (p0.fVersions.map Ai)), .pure (.sl (p0.fNow.map Ai)), .pure (.sl (p0.fTarget.map Ai)), .pure (.sl (p0.fTables.map Ar))])]) (fun _ _ => rfl) (sm [] _ _ rfl rfl) (fun j14 n14 v14 h => ?_) (fun v15 s h hs => ?_)
       ·unfold BA at h
        refine Ab (Ab (Aa Ad rfl (qm rfl (qf CI rfl (ql Gp rfl (qm rfl ?_))))))
        obtain ⟨v16, a16, b16, h⟩ := Ah h
        refine qi DH D9 a16 (Ag b16) rfl (qg Hd rfl (qk GR rfl (AM EE rfl (AS rfl (Ac ?_)))))
        refine Ao rfl (fun c17 => ?_) (fun c17 => ?_)
        ·have h := An c17 h
         refine Ap (Ab (AI (Ab (Aa Ad rfl (qf CI rfl (ql Gp rfl (qm rfl ?_)))))))
         obtain ⟨v18, a18, b18, h⟩ := Ah h
         refine qi DH D9 a18 (Ag b18) rfl (qg Hd rfl (qk GR rfl (qm rfl ?_)))
         obtain ⟨v19, a19, b19, h⟩ := Ah h
         refine qi EE Lg a19 (Ag b19) rfl (qk Lm rfl (AM HL rfl (Dd rfl (Ac ?_))))
         refine Ao rfl (fun c20 => ?_) (fun c20 => ?_)
         ·have h := An c20 h
          refine Ab (Aa Ad rfl (qa rfl (Ac ?_)))
          obtain rfl := sj h
          refine Aj (sm [] [(2, .e (.one (.pure (.val (.bool false)))))] [] rfl rfl) (Ax ?_)
          exact ⟨⟨[_], ⟨.tmp _ _ rfl, trivial⟩, rfl⟩, trivial⟩
         ·have h := Am c20 h
          refine Ap (Aa Ad rfl (qm rfl (AO rfl (qa rfl (Ac ?_)))))
          exact Av _ h (sm [] _ _ rfl rfl)
        ·have h := Am c17 h
         refine AR ?_
         exact Av _ h (sm [] _ _ rfl rfl)
       ·refine Aj hs (Ab (Aa Ad rfl (qa rfl (Ac ?_))))
        refine AF (L := BF N p0 v6) h (fun v21 => mk [(1, .e (.one (.ptr 1 0))), (3, .e (.one (.pure (.val (.int .i64 v6))))), (5, .e (.one (.pure (.val (.int .i64 v21)))))] [(1, .box [.pure (.sl (p0.fVersions.map Ai)), .pure (.sl (p0.fNow.map Ai)), .pure (.sl (p0.fTarget.map Ai)), .pure (.sl (p0.fTables.map Ar))])]) (fun v22 => mk [(1, .e (.one (.ptr 1 0))), (3, .e (.one (.pure (.val (.int .i64 v6)))))] [(1, .box [.pure (.sl (p0.fVersions.map Ai)), .pure (.sl (p0.fNow.map Ai)), .pure (.sl (p0.fTarget.map Ai)), .pure (.sl (p0.fTables.map Ar))])]) (fun _ _ => rfl) (sm [] _ _ rfl rfl) (fun j21 n21 v21 h => ?_) (fun v22 s h hs => ?_)
        ·unfold BF at h
         refine Ab (Ab (Aa Ad rfl (qm rfl (qf CI rfl (ql Gp rfl (qm rfl ?_))))))
         obtain ⟨v23, a23, b23, h⟩ := Ah h
         refine qi DH D9 a23 (Ag b23) rfl (qg Ez rfl (qk GR rfl (AM EE rfl (AS rfl (Ac ?_)))))
         refine Ao rfl (fun c24 => ?_) (fun c24 => ?_)
         ·have h := An c24 h
          refine Ap (Ab (AI (Ab (Aa Ad rfl (qf CI rfl (ql Gp rfl (qm rfl ?_)))))))
          obtain ⟨v25, a25, b25, h⟩ := Ah h
          refine qi DH D9 a25 (Ag b25) rfl (qg Ez rfl (qk GR rfl (qm rfl ?_)))
          obtain ⟨v26, a26, b26, h⟩ := Ah h
          refine qi EE Lg a26 (Ag b26) rfl (qk Lm rfl (AM HL rfl (Dd rfl (Ac ?_))))
          refine Ao rfl (fun c27 => ?_) (fun c27 => ?_)
          ·have h := An c27 h
           refine Ab (Aa Ad rfl (qa rfl (Ac ?_)))
           obtain rfl := sj h
           refine Aj (sm [] [(2, .e (.one (.pure (.val (.bool false)))))] [] rfl rfl) (Ax ?_)
           exact ⟨⟨[_], ⟨.tmp _ _ rfl, trivial⟩, rfl⟩, trivial⟩
          ·have h := Am c27 h
           refine Ap (Aa Ad rfl (qm rfl (AO rfl (qa rfl (Ac ?_)))))
           exact Av _ h (sm [] _ _ rfl rfl)
         ·have h := Am c24 h
          refine AR ?_
          exact Av _ h (sm [] _ _ rfl rfl)
        ·refine Aj hs (Aa Ad rfl (qm rfl (AO rfl (qa rfl (Ac ?_)))))
         exact Av _ h (sm [] _ _ rfl rfl)
    ·have h := Am c8 h
     refine AR ?_
     exact Av _ h (sm [] _ _ rfl rfl)
   ·refine Aj hs (Ab (Aa Ad rfl (qa rfl (Ac ?_))))
    obtain rfl := sj h
    refine Aj (sm [] [(2, .e (.one (.pure (.val (.bool true)))))] [] rfl rfl) (Ax ?_)
    exact ⟨⟨[_], ⟨.tmp _ _ rfl, trivial⟩, rfl⟩, trivial⟩
set_option maxRecDepth 10000 in
theorem Lc (N : Nat) (p0 : Ak) (p1 : List Au) (r : Af × Int × Int) (h : ES N p0 p1 = some r) : Az Try.prog 12 [.e (.agg [.pure (.sl (p0.fVersions.map Ai)), .pure (.sl (p0.fNow.map Ai)), .pure (.sl (p0.fTarget.map Ai)), .pure (.sl (p0.fTables.map Ar))]), .e (.one (.pure (.sl (p1.map AC))))] [] (.tup [.agg [.pure (.sl (r.1.fBase.map Ai)), .pure (.sl (r.1.fNext.map Ai)), .pure (.sl (r.1.fHeld.map BX))], .one (.pure (.val (.int .i64 r.2.1))), .one (.pure (.val (.int .i64 r.2.2)))]) := by
 unfold ES at h
 refine Aq (n := 27) (rs := [.cell 4 42, .tmp 5, .tmp 6]) Try.func12 rfl rfl rfl (AV rfl) (AV rfl) rfl fun w0 S0 => ?_
 refine Ab (Aa Ad rfl (qb rfl (qz CZ rfl (qa rfl (qa rfl (Ac (Ab (Aa Ad rfl (qL Do Dh rfl (qm rfl ?_))))))))))
 obtain ⟨v1, a1, h⟩ := bind_some h
 refine AB [2001] (HO N p0 p1 v1 a1) PM rfl (qm rfl (qx rfl (qx rfl (qx rfl (qa rfl (qa rfl (qa rfl (Ac (Ab (Ab (Aa Ad rfl (qm rfl (Ch rfl (Ac ?_))))))))))))))
 refine Ao rfl (fun c2 => ?_) (fun c2 => ?_)
 ·have h := An c2 h
  refine Ab (Aa Ad rfl (Cy CZ IT rfl (qm rfl (qm rfl (qs Aw rfl (qa rfl (qa rfl (Ac ?_))))))))
  obtain rfl := sj h
  refine Aj ((IV 4 _ rfl).trans (sm [] [(4, .e (.one (.ptr 4 0))), (5, .e (.one (.pure (.val (.int .i64 v1.2.1))))), (6, .e (.one (.pure (.val (.int .i64 v1.2.2)))))] [(4, .box [.pure (.sl ((([] : List Int)).map Ai)), .pure (.sl ((([] : List Int)).map Ai)), .pure (.sl ((([] : List Int)).map BX))])] rfl rfl)) (Ax ?_)
  exact ⟨⟨[_, _, _], ⟨.cellN _ _ _ _ _ _ _ rfl rfl AU Aw rfl rfl (JB rfl), ⟨.tmp _ _ rfl, ⟨.tmp _ _ rfl, trivial⟩⟩⟩, rfl⟩, trivial⟩
 ·have h := Am c2 h
  refine Ap (Ab (Aa Ad rfl (qm rfl (qm rfl ?_))))
  obtain ⟨v3, a3, b3, h⟩ := Ah h
  refine qI AE Aw a3 (Ag b3) rfl (qJ AU Aw (Ag b3) rfl (qm rfl (qs Aw rfl (qa rfl (qa rfl (Ac ?_))))))
  obtain rfl := sj h
  refine Aj (sm [] [(4, .e (.one (.ptr 4 0))), (5, .e (.one (.pure (.val (.int .i64 v1.2.1))))), (6, .e (.one (.pure (.val (.int .i64 0)))))] [(4, .box [.pure (.sl (v3.fBase.map Ai)), .pure (.sl (v3.fNext.map Ai)), .pure (.sl (v3.fHeld.map BX))])] rfl rfl) (Ax ?_)
  exact ⟨⟨[_, _, _], ⟨.cellN _ _ _ _ _ _ _ rfl rfl AU Aw rfl rfl (JB rfl), ⟨.tmp _ _ rfl, ⟨.tmp _ _ rfl, trivial⟩⟩⟩, rfl⟩, trivial⟩
set_option maxRecDepth 10000 in
theorem I0 (N : Nat) (p0 : Ak) (p1 : List Af) (r : (List Int) × Int) (h : DB N p0 p1 = some r) : Az Try.prog 13 [.e (.agg [.pure (.sl (p0.fVersions.map Ai)), .pure (.sl (p0.fNow.map Ai)), .pure (.sl (p0.fTarget.map Ai)), .pure (.sl (p0.fTables.map Ar))]), .e (.one (.pure (.sl (p1.map Ae))))] [(1, r.1.map BX)] (.tup [.one (.own 0), .one (.pure (.val (.int .i64 r.2)))]) := by
 unfold DB at h
 refine Aq (n := 80) (rs := [.tmp 4, .tmp 5]) Try.func13 rfl rfl rfl (AV rfl) (AV rfl) rfl fun w0 S0 => ?_
 refine Ab (Aa Ad rfl (qb rfl (qa rfl (qa rfl (Ac (Ab (Ab (Aa Ad rfl (qL Do Dh rfl ?_)))))))))
 obtain ⟨v1, a1, h⟩ := bind_some h
 refine AB [] (Eh N p0 v1 a1) Ph rfl (qa rfl (Ac (Ab (Aa Ad rfl (qm rfl (Ch rfl (Ac ?_)))))))
 refine Ao rfl (fun c2 => ?_) (fun c2 => ?_)
 ·have h := An c2 h
  refine Ab (Aa Ad rfl (qm rfl (qa rfl (qa rfl (Ac ?_)))))
  obtain rfl := sj h
  refine Aj ((Bk 4 2001 1 rfl rfl rfl).trans (sm [(1000, 2001)] [(4, .e (.one (.own 1000))), (5, .e (.one (.pure (.val (.int .i64 v1)))))] [(1000, .vec 1 ((([] : List Int)).map BX))] rfl rfl)) (Ax ?_)
  exact ⟨⟨[_, _], ⟨.tmp _ _ rfl, ⟨.tmp _ _ rfl, trivial⟩⟩, rfl⟩, ⟨rfl, trivial⟩⟩
 ·have h := Am c2 h
  refine Ap (Ab (Ab (Aa Ad rfl (qm rfl (AM AE rfl (qm rfl (Ac ?_)))))))
  refine AF (L := DC N p0 p1) h (fun v3 => mk [(1, .e (.one (.pure (.sl (p1.map Ae))))), (2, .e (.one (.ptr 2 0))), (19, .e (.one (.pure (.sl (p1.map Ae))))), (20, .e (.one (.pure (.val (.int .i64 ((p1.length : Int))))))), (21, .e (.one (.pure (.val (.int .i64 v3)))))] [(2, .box [.pure (.sl (p0.fVersions.map Ai)), .pure (.sl (p0.fNow.map Ai)), .pure (.sl (p0.fTarget.map Ai)), .pure (.sl (p0.fTables.map Ar))])]) (fun v4 => mk [(1, .e (.one (.pure (.sl (p1.map Ae))))), (2, .e (.one (.ptr 2 0)))] [(2, .box [.pure (.sl (p0.fVersions.map Ai)), .pure (.sl (p0.fNow.map Ai)), .pure (.sl (p0.fTarget.map Ai)), .pure (.sl (p0.fTables.map Ar))])]) (fun _ _ => rfl) (sm [] _ _ rfl rfl) (fun j3 n3 v3 h => ?_) (fun v4 s h hs => ?_)
  ·unfold DC at h
   refine Ab (Aa Ad rfl (AS rfl (Ac (Ab ?_))))
   refine Ao rfl (fun c5 => ?_) (fun c5 => ?_)
   ·have h := An c5 h
    refine Ap (Ab (AI (Ab (Aa Ad rfl ?_))))
    obtain ⟨v6, a6, b6, h⟩ := Ah h
    refine qi AE Aw a6 (Ag b6) rfl (qK AU Aw rfl (qz CZ rfl (qs Aw rfl (Ac (Ab (Aa Ad rfl (qL Do Dh rfl (qL AU Aw rfl ?_))))))))
    obtain ⟨v7, a7, h⟩ := bind_some h
    refine AB [] (zFS N p0 v6 v7 a7) Ng rfl (qa rfl (Ac (Ab (Aa Ad rfl (qm rfl (Ch rfl (Ac ?_)))))))
    refine Ao rfl (fun c8 => ?_) (fun c8 => ?_)
    ·have h := An c8 h
     refine Ab (Aa Ad rfl (qm rfl (qa rfl (qa rfl (Ac ?_)))))
     obtain rfl := sj h
     refine Aj ((Bk 4 2002 1 rfl rfl rfl).trans (sm [(1000, 2002)] [(4, .e (.one (.own 1000))), (5, .e (.one (.pure (.val (.int .i64 v7)))))] [(1000, .vec 1 ((([] : List Int)).map BX))] rfl rfl)) (Ax ?_)
     exact ⟨⟨[_, _], ⟨.tmp _ _ rfl, ⟨.tmp _ _ rfl, trivial⟩⟩, rfl⟩, ⟨rfl, trivial⟩⟩
    ·have h := Am c8 h
     refine Ap (Aa Ad rfl (AO rfl (qm rfl (Ac ?_))))
     exact Av _ h (sm [] _ _ rfl rfl)
   ·have h := Am c5 h
    refine AR ?_
    exact Av _ h (sm [] _ _ rfl rfl)
  ·refine Aj hs (Ab (Aa Ad rfl (qf Ck rfl (ql BS rfl (AM AK rfl ?_)))))
   obtain ⟨c9, h⟩ := AT h
   refine HD (.p rfl) rfl rfl rfl Db FP Nw (AV rfl) Oz rfl rfl rfl c9.1 c9.2.1 c9.2.2 (K0 BX _ ((0 : Int))) ?_
   refine qa rfl (Ac (Ab (Ab (Aa Ad rfl (qm rfl (AM AE rfl (qm rfl (Ac ?_))))))))
   refine AF (L := Dm N p1) h (fun v10 => mk [(10, .e (.one (.own 2003))), (36, .e (.one (.pure (.sl (p1.map Ae))))), (37, .e (.one (.pure (.val (.int .i64 ((p1.length : Int))))))), (38, .e (.one (.pure (.val (.int .i64 v10.2)))))] [(2003, .vec 1 (v10.1.map BX))]) (fun v11 => mk [(10, .e (.one (.own 2004)))] [(2004, .vec 1 (v11.map BX))]) (fun _ _ => rfl) (sm [(2003, 35)] _ _ rfl rfl) (fun j10 n10 v10 h => ?_) (fun v11 s h hs => ?_)
   ·unfold Dm at h
    refine Ab (Aa Ad rfl (AS rfl (Ac (Ab ?_))))
    refine Ao rfl (fun c12 => ?_) (fun c12 => ?_)
    ·have h := An c12 h
     refine Ap (Ab (AI (Ab (Aa Ad rfl ?_))))
     obtain ⟨v13, a13, b13, h⟩ := Ah h
     refine qi AE Aw a13 (Ag b13) rfl (qK AU Aw rfl (qz CZ rfl (qs Aw rfl (Ac (Ab (Aa Ad rfl (qm rfl (CU Db rfl (qm rfl (Ac ?_))))))))))
     refine AF (L := Dl N v10 v13) h (fun v14 => mk [(10, .e (.one (.own 2005))), (12, .e (.one (.ptr 12 0))), (36, .e (.one (.pure (.sl (p1.map Ae))))), (37, .e (.one (.pure (.val (.int .i64 ((p1.length : Int))))))), (38, .e (.one (.pure (.val (.int .i64 v10.2))))), (43, .e (.one (.pure (.val (.int .i64 ((v10.1.length : Int))))))), (44, .e (.one (.pure (.val (.int .i64 v14.2)))))] [(12, .box [.pure (.sl (v13.fBase.map Ai)), .pure (.sl (v13.fNext.map Ai)), .pure (.sl (v13.fHeld.map BX))]), (2005, .vec 1 (v14.1.map BX))]) (fun v15 => mk [(10, .e (.one (.own 2006))), (36, .e (.one (.pure (.sl (p1.map Ae))))), (37, .e (.one (.pure (.val (.int .i64 ((p1.length : Int))))))), (38, .e (.one (.pure (.val (.int .i64 v10.2)))))] [(2006, .vec 1 (v15.map BX))]) (fun _ _ => rfl) (sm [(2005, 2003)] _ _ rfl rfl) (fun j14 n14 v14 h => ?_) (fun v15 s h hs => ?_)
     ·unfold Dl at h
      refine Ab (Aa Ad rfl (AS rfl (Ac (Ab ?_))))
      refine Ao rfl (fun c16 => ?_) (fun c16 => ?_)
      ·have h := An c16 h
       refine Ap ?_
       refine AN h (fun v17 => mk [(10, .e (.one (.own 2007))), (12, .e (.one (.ptr 12 0))), (36, .e (.one (.pure (.sl (p1.map Ae))))), (37, .e (.one (.pure (.val (.int .i64 ((p1.length : Int))))))), (38, .e (.one (.pure (.val (.int .i64 v10.2))))), (43, .e (.one (.pure (.val (.int .i64 ((v10.1.length : Int))))))), (44, .e (.one (.pure (.val (.int .i64 v14.2)))))] [(12, .box [.pure (.sl (v13.fBase.map Ai)), .pure (.sl (v13.fNext.map Ai)), .pure (.sl (v13.fHeld.map BX))]), (2007, .vec 1 (v17.map BX))]) (fun j17 h => ?_) (fun v17 h => ?_)
       ·refine AI (Ab (Aa Ad rfl (qm rfl (qa rfl (Ac (Ab (Aa Ad rfl (qm rfl (qm rfl ?_)))))))))
        obtain ⟨v18, a18, b18, h⟩ := Ah h
        refine qI Db FP a18 (Ag b18) rfl (qj Jy (Ag b18) rfl (qf Dn rfl (ql BS rfl (qm rfl ?_))))
        obtain ⟨v19, a19, b19, h⟩ := Ah h
        refine qi AK Ee a19 (Ag b19) rfl (qk CQ rfl ?_)
        obtain ⟨c20, h⟩ := AT h
        refine GX rfl c20 (NB rfl ?_)
        obtain ⟨v21, a21, b21, h⟩ := Ah h
        refine qI Db FP a21 (Ag b21) rfl ?_
        refine AZ rfl rfl rfl rfl (Ag b21) rfl FP rfl (AV rfl) (A0 BX v14.1 _ ((LL .u8 v18 ((CS .u8 1 v19))))) ?_
        refine AJ (by kernel_rfl) (Ab (Aa Ad rfl (qf Cz rfl (ql BS rfl (qm rfl ?_)))))
        obtain ⟨v22, a22, b22, h⟩ := Ah h
        refine qi AK Ee a22 (Ag b22) rfl (qk CQ rfl (Dc rfl (Ac ?_)))
        refine Ao rfl (fun c23 => ?_) (fun c23 => ?_)
        ·have h := An c23 h
         refine Aa Ad rfl (qm rfl (qm rfl ?_))
         obtain ⟨v24, a24, b24, h⟩ := Ah h
         refine qI Db FP a24 (Ag b24) rfl (qj Jy (Ag b24) rfl (qf Cz rfl (ql BS rfl (qm rfl ?_))))
         obtain ⟨v25, a25, b25, h⟩ := Ah h
         refine qi AK Ee a25 (Ag b25) rfl (qk CQ rfl ?_)
         obtain ⟨c26, h⟩ := AT h
         refine GX rfl c26 (NB rfl ?_)
         obtain ⟨v27, a27, b27, h⟩ := Ah h
         refine qI Db FP a27 (Ag b27) rfl ?_
         refine AZ rfl rfl rfl rfl (Ag b27) rfl FP rfl (AV rfl) (A0 BX (v14.1.set ((v14.2).toNat) ((LL .u8 v18 ((CS .u8 1 v19))))) _ ((LL .u8 v24 ((CS .u8 1 v25))))) ?_
         refine AJ (by kernel_rfl) ?_
         exact Av _ h (sm [(2007, 2005)] _ _ rfl rfl)
        ·have h := Am c23 h
         refine Ap ?_
         exact Av _ h (sm [(2007, 2005)] _ _ rfl rfl)
       ·refine Aa Ad rfl (AO rfl (qm rfl (Ac ?_)))
        exact Av _ h (sm [(2005, 2007)] _ _ rfl rfl)
      ·have h := Am c16 h
       refine AR ?_
       exact Av _ h (sm [(2006, 2005)] _ _ rfl rfl)
     ·refine Aj hs (Aa Ad rfl (AO rfl (qm rfl (Ac ?_))))
      exact Av _ h (sm [(2003, 2006)] _ _ rfl rfl)
    ·have h := Am c12 h
     refine AR ?_
     exact Av _ h (sm [(2004, 2003)] _ _ rfl rfl)
   ·refine Aj hs (Ab (Aa Ad rfl (qm rfl (qa rfl (qa rfl (Ac ?_))))))
    obtain rfl := sj h
    refine Aj (sm [(1000, 2004)] [(4, .e (.one (.own 1000))), (5, .e (.one (.pure (.val (.int .i64 0)))))] [(1000, .vec 1 (v11.map BX))] rfl rfl) (Ax ?_)
    exact ⟨⟨[_, _], ⟨.tmp _ _ rfl, ⟨.tmp _ _ rfl, trivial⟩⟩, rfl⟩, ⟨rfl, trivial⟩⟩
set_option maxRecDepth 10000 in
theorem E6 (N : Nat) (p0 : List Int) (p1 : List Int) (r : Int) (h : C3 N p0 p1 = some r) : Az Try.prog 57 [.e (.one (.pure (.sl (p0.map Ai)))), .e (.one (.pure (.sl (p1.map Ai))))] [] (.e (.one (.pure (.val (.int .i64 r))))) := by
 unfold C3 at h
 refine Aq (n := 46) (rs := [.tmp 4]) Try.func57 rfl rfl rfl (AV rfl) (AV rfl) rfl fun w0 S0 => ?_
 refine Ab (Aa Ad rfl (qa rfl (Ac (Ab (Ab (Aa Ad rfl (qa rfl (Ac ?_))))))))
 refine AF (L := C8 N p0 p1) h (fun v1 => mk [(0, .e (.one (.pure (.sl (p0.map Ai))))), (1, .e (.one (.pure (.sl (p1.map Ai))))), (5, .e (.one (.pure (.val (.int .i64 v1)))))] []) (fun v2 => mk [(0, .e (.one (.pure (.sl (p0.map Ai))))), (1, .e (.one (.pure (.sl (p1.map Ai)))))] []) (fun _ _ => rfl) (sm [] _ _ rfl rfl) (fun j1 n1 v1 h => ?_) (fun v2 s h hs => ?_)
 ·unfold C8 at h
  refine Ab ?_
  refine AN h (fun v3 => mk [(0, .e (.one (.pure (.sl (p0.map Ai))))), (1, .e (.one (.pure (.sl (p1.map Ai))))), (5, .e (.one (.pure (.val (.int .i64 v1))))), (15, .e (.one (.pure (.val (.bool v3)))))] []) (fun j3 h => ?_) (fun v3 h => ?_)
  ·refine Aa Ad rfl (qm rfl (qm rfl (AM AK rfl (AS rfl (qm rfl ?_)))))
   refine AA (t := 10) rfl (fun c4 => ?_) (fun c4 => ?_)
   ·have h := An c4 h
    refine qm rfl (qm rfl (AM AK rfl (AS rfl (qp rfl (Ac ?_)))))
    exact Av _ h (sm [] _ _ rfl rfl)
   ·have h := Am c4 h
    refine qn rfl (qn rfl (qn rfl (qn rfl (qp rfl (Ac ?_)))))
    exact Av _ h (sm [] _ _ rfl rfl)
  ·refine Ao rfl (fun c5 => ?_) (fun c5 => ?_)
   ·have h := An c5 h
    refine Ap (Ab (AI (Ab (Ab (Aa Ad rfl (qm rfl (qm rfl ?_)))))))
    obtain ⟨v6, a6, b6, h⟩ := Ah h
    refine qi AK Ee a6 (Ag b6) rfl (qk CQ rfl (qm rfl (qm rfl ?_)))
    obtain ⟨v7, a7, b7, h⟩ := Ah h
    refine qi AK Ee a7 (Ag b7) rfl (qk CQ rfl (AS rfl (AJ (by kernel_rfl) ?_)))
    refine Ao rfl (fun c8 => ?_) (fun c8 => ?_)
    ·have h := An c8 h
     refine Ab (Aa Ad rfl (qa rfl (Ac ?_)))
     obtain rfl := sj h
     refine Aj (sm [] [(4, .e (.one (.pure (.val (.int .i64 ((-1)))))))] [] rfl rfl) (Ax ?_)
     exact ⟨⟨[_], ⟨.tmp _ _ rfl, trivial⟩, rfl⟩, trivial⟩
    ·have h := Am c8 h
     refine Ap (Ab (Aa Ad rfl (qm rfl (qm rfl ?_))))
     obtain ⟨v9, a9, b9, h⟩ := Ah h
     refine qi AK Ee a9 (Ag b9) rfl (qk CQ rfl (qm rfl (qm rfl ?_)))
     obtain ⟨v10, a10, b10, h⟩ := Ah h
     refine qi AK Ee a10 (Ag b10) rfl (qk CQ rfl (Dd rfl (AJ (by kernel_rfl) ?_)))
     refine Ao rfl (fun c11 => ?_) (fun c11 => ?_)
     ·have h := An c11 h
      refine Ab (Aa Ad rfl (qa rfl (Ac ?_)))
      obtain rfl := sj h
      refine Aj (sm [] [(4, .e (.one (.pure (.val (.int .i64 1)))))] [] rfl rfl) (Ax ?_)
      exact ⟨⟨[_], ⟨.tmp _ _ rfl, trivial⟩, rfl⟩, trivial⟩
     ·have h := Am c11 h
      refine Ap (Aa Ad rfl (qm rfl (AO rfl (qa rfl (Ac ?_)))))
      exact Av _ h (sm [] _ _ rfl rfl)
   ·have h := Am c5 h
    refine AR ?_
    exact Av _ h (sm [] _ _ rfl rfl)
 ·refine Aj hs (Ab (Ab (Aa Ad rfl (qm rfl (AM AK rfl (qm rfl (AM AK rfl (AS rfl (Ac ?_)))))))))
  refine Ao rfl (fun c12 => ?_) (fun c12 => ?_)
  ·have h := An c12 h
   refine Ab (Aa Ad rfl (qa rfl (Ac ?_)))
   obtain rfl := sj h
   refine Aj (sm [] [(4, .e (.one (.pure (.val (.int .i64 ((-1)))))))] [] rfl rfl) (Ax ?_)
   exact ⟨⟨[_], ⟨.tmp _ _ rfl, trivial⟩, rfl⟩, trivial⟩
  ·have h := Am c12 h
   refine Ap (Ab (Ab (Aa Ad rfl (qm rfl (AM AK rfl (qm rfl (AM AK rfl (Dd rfl (Ac ?_)))))))))
   refine Ao rfl (fun c13 => ?_) (fun c13 => ?_)
   ·have h := An c13 h
    refine Ab (Aa Ad rfl (qa rfl (Ac ?_)))
    obtain rfl := sj h
    refine Aj (sm [] [(4, .e (.one (.pure (.val (.int .i64 1)))))] [] rfl rfl) (Ax ?_)
    exact ⟨⟨[_], ⟨.tmp _ _ rfl, trivial⟩, rfl⟩, trivial⟩
   ·have h := Am c13 h
    refine Ap (Ab (Aa Ad rfl (qa rfl (Ac ?_))))
    obtain rfl := sj h
    refine Aj (sm [] [(4, .e (.one (.pure (.val (.int .i64 0)))))] [] rfl rfl) (Ax ?_)
    exact ⟨⟨[_], ⟨.tmp _ _ rfl, trivial⟩, rfl⟩, trivial⟩
set_option maxRecDepth 10000 in
theorem FD (N : Nat) (p0 : List Int) (r : (List Int)) (h : C7 N p0 = some r) : Az Try.prog 58 [.e (.one (.pure (.sl (p0.map BX))))] [(1, r.map Ai)] (.e (.one (.own 0))) := by
 unfold C7 at h
 refine Aq (n := 20) (rs := [.tmp 2]) Try.func58 rfl rfl rfl (AV rfl) (AV rfl) rfl fun w0 S0 => ?_
 refine Ab (Aa Ad rfl (qa rfl (Ac (Ab (Aa Ad rfl (qa rfl (Ac (Ab (Ab (Aa Ad rfl (qa rfl (Ac ?_))))))))))))
 refine AF (L := CH N p0) h (fun v1 => mk [(0, .e (.one (.pure (.sl (p0.map BX))))), (3, .e (.one (.own 2001))), (4, .e (.one (.pure (.val (.int .i64 v1.2)))))] [(2001, .vec 1 (v1.1.map Ai))]) (fun v2 => mk [(3, .e (.one (.own 2002)))] [(2002, .vec 1 (v2.map Ai))]) (fun _ _ => rfl) ((Bk 3 2003 1 rfl rfl rfl).trans (sm [(2001, 2003)] _ _ rfl rfl)) (fun j1 n1 v1 h => ?_) (fun v2 s h hs => ?_)
 ·unfold CH at h
  refine Ab (Ab (Aa Ad rfl (qm rfl (qm rfl (AM Db rfl (AS rfl (Ac ?_)))))))
  refine Ao rfl (fun c3 => ?_) (fun c3 => ?_)
  ·have h := An c3 h
   refine Ap (Ab (AI (Aa Ad rfl (qm rfl (qm rfl (qm rfl ?_))))))
   obtain ⟨v4, a4, b4, h⟩ := Ah h
   refine qi Db FP a4 (Ag b4) rfl (qk Jy rfl (FY Rt Py rfl (E4 AK Ee M5 rfl ?_)))
   obtain ⟨c5, h⟩ := AT h
   refine EK (f := Ai) AK AK Ee Ob M5 c5 rfl (qa rfl (Ac (Aa Ad rfl (qm rfl (AO rfl (qa rfl (Ac ?_)))))))
   exact Av _ h (sm [(2001, 18)] _ _ rfl rfl)
  ·have h := Am c3 h
   refine AR ?_
   exact Av _ h (sm [(2002, 2001)] _ _ rfl rfl)
 ·refine Aj hs (Ab (Aa Ad rfl (qm rfl (qa rfl (Ac ?_)))))
  obtain rfl := sj h
  refine Aj (sm [(1000, 2002)] [(2, .e (.one (.own 1000)))] [(1000, .vec 1 (v2.map Ai))] rfl rfl) (Ax ?_)
  exact ⟨⟨[_], ⟨.tmp _ _ rfl, trivial⟩, rfl⟩, ⟨rfl, trivial⟩⟩
set_option maxRecDepth 10000 in
theorem Hq (N : Nat) (p0 : Af) (p1 : Af) (r : Int) (h : D2 N p0 p1 = some r) : Az Try.prog 34 [.e (.agg [.pure (.sl (p0.fBase.map Ai)), .pure (.sl (p0.fNext.map Ai)), .pure (.sl (p0.fHeld.map BX))]), .e (.agg [.pure (.sl (p1.fBase.map Ai)), .pure (.sl (p1.fNext.map Ai)), .pure (.sl (p1.fHeld.map BX))])] [] (.e (.one (.pure (.val (.int .i64 r))))) := by
 unfold D2 at h
 refine Aq (n := 30) (rs := [.tmp 4]) Try.func34 rfl rfl rfl (AV rfl) (AV rfl) rfl fun w0 S0 => ?_
 refine Ab (Aa Ad rfl (qb rfl (qb rfl (qa rfl (Ac (Ab (Ab (Aa Ad rfl (qf Dn rfl (ql BS rfl (qf Dn rfl (ql BS rfl ?_))))))))))))
 obtain ⟨v1, a1, h⟩ := bind_some h
 refine AB [] (E6 N p0.fBase p1.fBase v1 a1) Po rfl (qa rfl (Ac (Ab (Aa Ad rfl (qm rfl (Ch rfl (Ac ?_)))))))
 refine Ao rfl (fun c2 => ?_) (fun c2 => ?_)
 ·have h := An c2 h
  refine Ab (Aa Ad rfl (qm rfl (qa rfl (Ac ?_))))
  obtain rfl := sj h
  refine Aj (sm [] [(4, .e (.one (.pure (.val (.int .i64 v1)))))] [] rfl rfl) (Ax ?_)
  exact ⟨⟨[_], ⟨.tmp _ _ rfl, trivial⟩, rfl⟩, trivial⟩
 ·have h := Am c2 h
  refine Ap (Ab (Ab (Aa Ad rfl (qf Cz rfl (ql BS rfl (qf Cz rfl (ql BS rfl ?_)))))))
  obtain ⟨v3, a3, h⟩ := bind_some h
  refine AB [] (E6 N p0.fNext p1.fNext v3 a3) Po rfl (qa rfl (Ac (Ab (Aa Ad rfl (qm rfl (Ch rfl (Ac ?_)))))))
  refine Ao rfl (fun c4 => ?_) (fun c4 => ?_)
  ·have h := An c4 h
   refine Ab (Aa Ad rfl (qm rfl (qa rfl (Ac ?_))))
   obtain rfl := sj h
   refine Aj (sm [] [(4, .e (.one (.pure (.val (.int .i64 v3)))))] [] rfl rfl) (Ax ?_)
   exact ⟨⟨[_], ⟨.tmp _ _ rfl, trivial⟩, rfl⟩, trivial⟩
  ·have h := Am c4 h
   refine Ap (Ab (Aa Ad rfl (qf DL rfl (ql HZ rfl ?_))))
   obtain ⟨v5, a5, h⟩ := bind_some h
   refine AB [2001] (FD N p0.fHeld v5 a5) Qo rfl (qf DL rfl (ql HZ rfl ?_))
   obtain ⟨v6, a6, h⟩ := bind_some h
   refine AB [2002] (FD N p1.fHeld v6 a6) Qo rfl ?_
   obtain ⟨v7, a7, h⟩ := bind_some h
   refine Fr [] [2001, 2002] (E6 N v5 v6 v7 a7) Po DQ rfl (qa rfl (AJ (by kernel_rfl) ?_))
   obtain rfl := sj h
   refine Aj (sm [] [(4, .e (.one (.pure (.val (.int .i64 v7)))))] [] rfl rfl) (Ax ?_)
   exact ⟨⟨[_], ⟨.tmp _ _ rfl, trivial⟩, rfl⟩, trivial⟩
set_option maxRecDepth 10000 in
theorem H3 (N : Nat) (p0 : Af) (p1 : Af) (r : Bool) (h : Eo N p0 p1 = some r) : Az Try.prog 14 [.e (.agg [.pure (.sl (p0.fBase.map Ai)), .pure (.sl (p0.fNext.map Ai)), .pure (.sl (p0.fHeld.map BX))]), .e (.agg [.pure (.sl (p1.fBase.map Ai)), .pure (.sl (p1.fNext.map Ai)), .pure (.sl (p1.fHeld.map BX))])] [] (.e (.one (.pure (.val (.bool r))))) := by
 unfold Eo at h
 refine Aq (n := 9) (rs := [.tmp 4]) Try.func14 rfl rfl rfl (AV rfl) (AV rfl) rfl fun w0 S0 => ?_
 refine Ab (Aa Ad rfl (qb rfl (qb rfl (qa rfl (Ac (Ab (Aa Ad rfl (qL AU Aw rfl (qL AU Aw rfl ?_)))))))))
 obtain ⟨v1, a1, h⟩ := bind_some h
 refine AB [] (Hq N p0 p1 v1 a1) Rz rfl (BR rfl (qa rfl (Ac ?_)))
 obtain rfl := sj h
 refine Aj (sm [] [(4, .e (.one (.pure (.val (.bool ((v1 == 0)))))))] [] rfl rfl) (Ax ?_)
 exact ⟨⟨[_], ⟨.tmp _ _ rfl, trivial⟩, rfl⟩, trivial⟩
end Go.Lift

/- That the code does what the shallow programs do, function by function. Written by a program (gen.py). -/
namespace Go.Lift
open Go.RowKit
open Go.Proofs
set_option maxRecDepth 10000 in
theorem Gq (N : Nat) (p0 : Ak) (p1 : List Au) (r : Bool) (h : B9 N p0 p1 = some r) : Az Try.prog 3 [.e (.agg [.pure (.sl (p0.fVersions.map Ai)), .pure (.sl (p0.fNow.map Ai)), .pure (.sl (p0.fTarget.map Ai)), .pure (.sl (p0.fTables.map Ar))]), .e (.one (.pure (.sl (p1.map AC))))] [] (.e (.one (.pure (.val (.bool r))))) := by
 unfold B9 at h
 refine Aq (n := 126) (rs := [.tmp 4]) Try.func3 rfl rfl rfl (AV rfl) (AV rfl) rfl fun w0 S0 => ?_
 refine Ab (Aa Ad rfl (qb rfl (qa rfl (Ac (Ab (Aa Ad rfl (qL Do Dh rfl ?_)))))))
 obtain ⟨v1, a1, h⟩ := bind_some h
 refine AB [] (Gd N p0 v1 a1) R3 rfl (qa rfl (Ac (Ab ?_)))
 refine AN h (fun v2 => mk [(1, .e (.one (.pure (.sl (p1.map AC))))), (2, .e (.one (.ptr 2 0))), (5, .e (.one (.pure (.val (.int .i64 v1))))), (36, .e (.one (.pure (.val (.bool v2)))))] [(2, .box [.pure (.sl (p0.fVersions.map Ai)), .pure (.sl (p0.fNow.map Ai)), .pure (.sl (p0.fTarget.map Ai)), .pure (.sl (p0.fTables.map Ar))])]) (fun j2 h => ?_) (fun v2 h => ?_)
 ·refine Aa Ad rfl ?_
  obtain ⟨v3, a3, h⟩ := bind_some h
  refine AB [] (F4 N v3 a3) RW rfl (Cg rfl (qm rfl ?_))
  refine AA (t := 23) rfl (fun c4 => ?_) (fun c4 => ?_)
  ·have h := An c4 h
   refine qn rfl (qn rfl (qp rfl (qm rfl (qn rfl (qn rfl (qn rfl (qp rfl (qm rfl (qn rfl (qn rfl (qn rfl (qp rfl (Ac ?_)))))))))))))
   exact Av _ h (sm [] _ _ rfl rfl)
  ·have h := Am c4 h
   refine qm rfl (BR rfl (qp rfl (qm rfl ?_)))
   refine AA (t := 27) rfl (fun c5 => ?_) (fun c5 => ?_)
   ·have h := An c5 h
    refine qn rfl (qn rfl (qn rfl (qp rfl (qm rfl (qn rfl (qn rfl (qn rfl (qp rfl (Ac ?_)))))))))
    exact Av _ h (sm [] _ _ rfl rfl)
   ·have h := Am c5 h
    refine qL Do Dh rfl ?_
    obtain ⟨v6, a6, h⟩ := bind_some h
    refine AB [] (IP N p0 v6 a6) R0 rfl (Cg rfl (qp rfl (qm rfl ?_)))
    refine AA (t := 32) rfl (fun c7 => ?_) (fun c7 => ?_)
    ·have h := An c7 h
     refine qn rfl (qn rfl (qn rfl (qp rfl (Ac ?_))))
     exact Av _ h (sm [] _ _ rfl rfl)
    ·have h := Am c7 h
     refine qm rfl (AM CY rfl (Dd rfl (qp rfl (Ac ?_))))
     exact Av _ h (sm [] _ _ rfl rfl)
 ·refine Ao rfl (fun c8 => ?_) (fun c8 => ?_)
  ·have h := An c8 h
   refine Ab (Aa Ad rfl ?_)
   obtain ⟨v9, a9, h⟩ := bind_some h
   refine AB [] (F4 N v9 a9) RW rfl (qa rfl (Ac ?_))
   obtain rfl := sj h
   refine Aj (sm [] [(4, .e (.one (.pure (.val (.bool v9)))))] [] rfl rfl) (Ax ?_)
   exact ⟨⟨[_], ⟨.tmp _ _ rfl, trivial⟩, rfl⟩, trivial⟩
  ·have h := Am c8 h
   refine Ap (Ab (Aa Ad rfl (qL Do Dh rfl (qm rfl ?_))))
   obtain ⟨v10, a10, h⟩ := bind_some h
   refine AB [2001] (H8 N p0 p1 v10 a10) RV rfl (qm rfl (qx rfl (qx rfl (qa rfl (qa rfl (Ac (Ab (Aa Ad rfl (qL Do Dh rfl (qm rfl ?_))))))))))
   obtain ⟨v11, a11, h⟩ := bind_some h
   refine AB [] (Iw N p0 p1 v11 a11) RX rfl (qm rfl (qx rfl (qx rfl (qa rfl (qa rfl (Ac (Ab (Aa Ad rfl (qL Do Dh rfl ?_)))))))))
   obtain ⟨v12, a12, h⟩ := bind_some h
   refine AB [2002] (Gk N p0 v12 a12) PN rfl (qm rfl (qx rfl (qx rfl (qa rfl (qa rfl (Ac (Ab (Aa Ad rfl (qL Do Dh rfl (E4 H6 PQ PR rfl ?_))))))))))
   obtain ⟨v13, a13, h⟩ := bind_some h
   refine Fr [2003] [57] (Ix N p0 (([0] : List Int)) v13 a13) QG (Im (fun _ => rfl) DQ) rfl (qm rfl (qx rfl (qx rfl (qa rfl (qa rfl (Ac (Ab (Aa Ad rfl (qL Do Dh rfl (qm rfl ?_))))))))))
   obtain ⟨v14, a14, h⟩ := bind_some h
   refine AB [] (Lc N p0 p1 v14 a14) Ri rfl (qm rfl (qx rfl (qx rfl (qx rfl (qz CZ rfl (qs Aw rfl (qa rfl (qa rfl (Ac (Ab (Aa Ad rfl (qL Do Dh rfl ?_))))))))))))
   obtain ⟨v15, a15, h⟩ := bind_some h
   refine AB [2004] (I0 N p0 (([] : List Af)) v15 a15) Rx rfl (qm rfl (qx rfl (qx rfl (qa rfl (qa rfl (Ac ?_))))))
   refine AN h (fun v16 => mk [(4, .e (.one (.pure (.val (.bool v16)))))] []) (fun j16 h => ?_) (fun v16 h => ?_)
   ·refine Aa Ad rfl (qm rfl (qm rfl (BR rfl (qm rfl ?_))))
    refine AA (t := 76) rfl (fun c17 => ?_) (fun c17 => ?_)
    ·have h := An c17 h
     refine qm rfl (qm rfl (BR rfl (qp rfl (qm rfl ?_))))
     refine AA (t := 81) rfl (fun c18 => ?_) (fun c18 => ?_)
     ·have h := An c18 h
      refine qm rfl (qm rfl (BR rfl (qp rfl (qm rfl ?_))))
      refine AA (t := 86) rfl (fun c19 => ?_) (fun c19 => ?_)
      ·have h := An c19 h
       refine qm rfl (qm rfl (BR rfl (qp rfl (qm rfl ?_))))
       refine AA (t := 91) rfl (fun c20 => ?_) (fun c20 => ?_)
       ·have h := An c20 h
        refine qm rfl (qm rfl (BR rfl (qp rfl (qm rfl ?_))))
        refine AA (t := 96) rfl (fun c21 => ?_) (fun c21 => ?_)
        ·have h := An c21 h
         refine qm rfl (qm rfl (BR rfl (qp rfl (qm rfl ?_))))
         refine AA (t := 101) rfl (fun c22 => ?_) (fun c22 => ?_)
         ·have h := An c22 h
          refine qm rfl (CU AE rfl (qm rfl (CU AE rfl (AO rfl (qm rfl (CU CY rfl (AO rfl (qm rfl (AO rfl (qm rfl (CU Db rfl (AO rfl (BR rfl (qp rfl (qm rfl ?_)))))))))))))))
          refine AA (t := 117) rfl (fun c23 => ?_) (fun c23 => ?_)
          ·have h := An c23 h
           refine qm rfl (Cg rfl (qp rfl (qm rfl ?_)))
           refine AA (t := 121) rfl (fun c24 => ?_) (fun c24 => ?_)
           ·have h := An c24 h
            refine qL AU Aw rfl (Cy CZ IT rfl ?_)
            obtain ⟨v25, a25, h⟩ := bind_some h
            refine AB [] (H3 N v14.1 ((Af.mk (([] : List Int)) (([] : List Int)) (([] : List Int)))) v25 a25) Rw rfl (qp rfl (qa rfl (Ac ?_)))
            exact Av _ h (sm [] _ _ rfl rfl)
           ·have h := Am c24 h
            refine qn rfl (qn rfl (qn rfl (qp rfl (qa rfl (Ac ?_)))))
            exact Av _ h (sm [] _ _ rfl rfl)
          ·have h := Am c23 h
           refine qn rfl (qn rfl (qp rfl (qm rfl (qn rfl (qn rfl (qn rfl (qp rfl (qa rfl (Ac ?_)))))))))
           exact Av _ h (sm [] _ _ rfl rfl)
         ·have h := Am c22 h
          refine qn rfl (qn rfl (qn rfl (qn rfl (qn rfl (qn rfl (qn rfl (qn rfl (qn rfl (qn rfl (qn rfl (qn rfl (qn rfl (qn rfl (qp rfl (qm rfl (qn rfl (qn rfl (qp rfl (qm rfl (qn rfl (qn rfl (qn rfl (qp rfl (qa rfl (Ac ?_)))))))))))))))))))))))))
          exact Av _ h (sm [] _ _ rfl rfl)
        ·have h := Am c21 h
         refine qn rfl (qn rfl (qn rfl (qp rfl (qm rfl (qn rfl (qn rfl (qn rfl (qn rfl (qn rfl (qn rfl (qn rfl (qn rfl (qn rfl (qn rfl (qn rfl (qn rfl (qn rfl (qn rfl (qp rfl (qm rfl (qn rfl (qn rfl (qp rfl (qm rfl (qn rfl (qn rfl (qn rfl (qp rfl (qa rfl (Ac ?_))))))))))))))))))))))))))))))
         exact Av _ h (sm [] _ _ rfl rfl)
       ·have h := Am c20 h
        refine qn rfl (qn rfl (qn rfl (qp rfl (qm rfl (qn rfl (qn rfl (qn rfl (qp rfl (qm rfl (qn rfl (qn rfl (qn rfl (qn rfl (qn rfl (qn rfl (qn rfl (qn rfl (qn rfl (qn rfl (qn rfl (qn rfl (qn rfl (qn rfl (qp rfl (qm rfl (qn rfl (qn rfl (qp rfl (qm rfl (qn rfl (qn rfl (qn rfl (qp rfl (qa rfl (Ac ?_)))))))))))))))))))))))))))))))))))
        exact Av _ h (sm [] _ _ rfl rfl)
      ·have h := Am c19 h
       refine qn rfl (qn rfl (qn rfl (qp rfl (qm rfl (qn rfl (qn rfl (qn rfl (qp rfl (qm rfl (qn rfl (qn rfl (qn rfl (qp rfl (qm rfl (qn rfl (qn rfl (qn rfl (qn rfl (qn rfl (qn rfl (qn rfl (qn rfl (qn rfl (qn rfl (qn rfl (qn rfl (qn rfl (qn rfl (qp rfl (qm rfl (qn rfl (qn rfl (qp rfl (qm rfl (qn rfl (qn rfl (qn rfl (qp rfl (qa rfl ?_)))))))))))))))))))))))))))))))))))))))
       refine Ac ?_
       exact Av _ h (sm [] _ _ rfl rfl)
     ·have h := Am c18 h
      refine qn rfl (qn rfl (qn rfl (qp rfl (qm rfl (qn rfl (qn rfl (qn rfl (qp rfl (qm rfl (qn rfl (qn rfl (qn rfl (qp rfl (qm rfl (qn rfl (qn rfl (qn rfl (qp rfl (qm rfl (qn rfl (qn rfl (qn rfl (qn rfl (qn rfl (qn rfl (qn rfl (qn rfl (qn rfl (qn rfl (qn rfl (qn rfl (qn rfl (qn rfl (qp rfl (qm rfl (qn rfl (qn rfl (qp rfl (qm rfl ?_)))))))))))))))))))))))))))))))))))))))
      refine qn rfl (qn rfl (qn rfl (qp rfl (qa rfl (Ac ?_)))))
      exact Av _ h (sm [] _ _ rfl rfl)
    ·have h := Am c17 h
     refine qn rfl (qn rfl (qn rfl (qp rfl (qm rfl (qn rfl (qn rfl (qn rfl (qp rfl (qm rfl (qn rfl (qn rfl (qn rfl (qp rfl (qm rfl (qn rfl (qn rfl (qn rfl (qp rfl (qm rfl (qn rfl (qn rfl (qn rfl (qp rfl (qm rfl (qn rfl (qn rfl (qn rfl (qn rfl (qn rfl (qn rfl (qn rfl (qn rfl (qn rfl (qn rfl (qn rfl (qn rfl (qn rfl (qn rfl (qp rfl ?_)))))))))))))))))))))))))))))))))))))))
     refine qm rfl (qn rfl (qn rfl (qp rfl (qm rfl (qn rfl (qn rfl (qn rfl (qp rfl (qa rfl (Ac ?_))))))))))
     exact Av _ h (sm [] _ _ rfl rfl)
   ·obtain rfl := sj h
    refine Aj (sm [] [(4, .e (.one (.pure (.val (.bool v16)))))] [] rfl rfl) (Ax ?_)
    exact ⟨⟨[_], ⟨.tmp _ _ rfl, trivial⟩, rfl⟩, trivial⟩
end Go.Lift

