/- Lemmas for ReachWalkSaid, which YtfnobkfnohhmmaaGreatFinW5 proves. -/
import Derived.Test.YtfnobkfnohhmmaaGreatCode2
/- That the code does what the shallow programs do, function by function. Written by a program (gen.py). -/
namespace Go.Lift
open Go.RowKit
open Go.Proofs
set_option maxRecDepth 10000 in
theorem GW (N : Nat) (p0 : List Ae) (p1 : Int) (p2 : Int) (p3 : Int) (p4 : (Ae × Ae) → Option Int) (r : Int × Bool × (List Ae)) (h : DF N p0 p1 p2 p3 p4 = some r) : BI Tryz.prog 88 [.e (.one (.own 90000)), .e (.one (.pure (.val (.int .i64 p1)))), .e (.one (.pure (.val (.int .i64 p2)))), .e (.one (.pure (.val (.int .i64 p3)))), .e (.one (.clo (B0 (EB true Af true Af) CR p4)))] [(.vec 3 (p0.map Af), .vec 3 (r.2.2.map Af))] [] (.tup [.one (.pure (.val (.int .i64 r.1))), .one (.pure (.val (.bool r.2.1)))]) := by
 unfold DF at h
 refine Bx (n := 178) (rs := [.tmp 10, .tmp 11]) Tryz.func88 rfl rfl rfl (A5 rfl) (A5 rfl) rfl rfl (A5 rfl) rfl (A5 rfl) fun w0 S0 GL => ?_
 refine Al (sm [] [(0, .e (.one (.own 90000))), (1, .e (.one (.pure (.val (.int .i64 p1))))), (2, .e (.one (.pure (.val (.int .i64 p2))))), (3, .e (.one (.pure (.val (.int .i64 p3))))), (4, .e (.one (.clo (B0 (EB true Af true Af) CR p4))))] [(90000, .vec 3 (p0.map Af))] rfl rfl) (Ab (Aa Ac rfl (qa rfl (qa rfl (Ad (Ab (Aa Ac rfl (qm rfl (qm rfl (qm rfl (qm rfl (qm rfl (qm rfl ?_)))))))))))))
 obtain ⟨v1, a1, b1, h⟩ := Aj h
 refine qI AP Ax a1 (Ah b1) rfl (qJ A1 Ax (Ah b1) rfl (qm rfl (qm rfl ?_)))
 obtain ⟨v2, a2, b2, h⟩ := Aj h
 refine qI AP Ax a2 (Ah b2) rfl (qJ A1 Ax (Ah b2) rfl ?_)
 obtain ⟨v3, a3, b3, h⟩ := Aj h
 refine qI AP Ax a3 (Ah b3) rfl ?_
 refine A7 rfl rfl rfl rfl (Ah b3) rfl Ax rfl (A5 rfl) (A8 Af p0 _ v1) ?_
 obtain ⟨v4, a4, b4, h⟩ := Aj h
 refine qI AP Ax a4 (Ah b4) rfl ?_
 refine A7 rfl rfl rfl rfl (Ah b4) rfl Ax rfl (A5 rfl) (A8 Af (p0.set ((p1).toNat) v1) _ v2) ?_
 refine AM (by kernel_rfl) (Ab (Aa Ac rfl (qm rfl (AY rfl (qm rfl (CQ rfl (qa rfl (qa rfl (Ad (Ab ?_))))))))))
 refine AJ (L := Cu N p0 p1 p2 p3 p4 v1 v2) h (fun v5 => mk [(0, .e (.one (.own 90000))), (1, .e (.one (.pure (.val (.int .i64 p1))))), (4, .e (.one (.clo (B0 (EB true Af true Af) CR p4)))), (12, .e (.one (.pure (.val (.int .i64 v5))))), (13, .e (.one (.pure (.val (.int .i64 ((IntKind.wrap .i64 (p2 - 1))))))))] [(90000, .vec 3 (((p0.set ((p1).toNat) v1).set ((p3).toNat) v2).map Af))]) (fun v6 => mk [(0, .e (.one (.own 90000))), (1, .e (.one (.pure (.val (.int .i64 p1))))), (4, .e (.one (.clo (B0 (EB true Af true Af) CR p4)))), (12, .e (.one (.pure (.val (.int .i64 v6))))), (13, .e (.one (.pure (.val (.int .i64 ((IntKind.wrap .i64 (p2 - 1))))))))] [(90000, .vec 3 (((p0.set ((p1).toNat) v1).set ((p3).toNat) v2).map Af))]) (fun _ _ => rfl) (sm [] _ _ rfl rfl) (fun j5 n5 v5 h => ?_) (fun v6 s h hs => ?_)
 ·unfold Cu at h
  refine Ab ?_
  refine AO h (fun v7 => mk [(0, .e (.one (.own 90000))), (1, .e (.one (.pure (.val (.int .i64 p1))))), (4, .e (.one (.clo (B0 (EB true Af true Af) CR p4)))), (12, .e (.one (.pure (.val (.int .i64 v5))))), (13, .e (.one (.pure (.val (.int .i64 ((IntKind.wrap .i64 (p2 - 1)))))))), (47, .e (.one (.pure (.val (.bool v7)))))] [(90000, .vec 3 (((p0.set ((p1).toNat) v1).set ((p3).toNat) v2).map Af))]) (fun j7 h => ?_) (fun v7 h => ?_)
  ·refine Aa Ac rfl (qm rfl (qm rfl (Kg rfl (qm rfl ?_))))
   refine AE (t := 35) rfl (fun c8 => ?_) (fun c8 => ?_)
   ·have h := Am c8 h
    refine qm rfl (qm rfl (qm rfl ?_))
    obtain ⟨v9, a9, b9, h⟩ := Aj h
    refine qI AP Ax a9 (Ah b9) rfl (qJ A1 Ax (Ah b9) rfl (qm rfl (qm rfl ?_)))
    obtain ⟨v10, a10, b10, h⟩ := Aj h
    refine qI AP Ax a10 (Ah b10) rfl (qJ A1 Ax (Ah b10) rfl ?_)
    obtain ⟨v11, a11, h⟩ := bind_some h
    refine EE (ds0 := [_, _]) (ar := (EB true Af true Af) ((v9, v10))) (.g rfl rfl) rfl rfl ⟨rfl, rfl, trivial⟩ rfl rfl rfl (ED (Fb _ _ _ _ Br Br) a11) ?_
    refine A2 rfl (qp rfl (AM (by kernel_rfl) ?_))
    exact Au _ h (sm [] _ _ rfl rfl)
   ·have h := An c8 h
    refine qn rfl (qn rfl (qn rfl (qn rfl (qn rfl (qn rfl (qn rfl (qn rfl (qn rfl (qn rfl (qn rfl (qp rfl (AM (by kernel_rfl) ?_))))))))))))
    exact Au _ h (sm [] _ _ rfl rfl)
  ·refine Ap rfl (fun c12 => ?_) (fun c12 => ?_)
   ·have h := Am c12 h
    refine Ar (AN (Aa Ac rfl (qm rfl (AY rfl (qa rfl (Ad ?_))))))
    exact Au _ h (sm [] _ _ rfl rfl)
   ·have h := An c12 h
    refine AX ?_
    exact Au _ h (sm [] _ _ rfl rfl)
 ·refine Al hs (Ab ?_)
  refine AJ (L := Cm N p0 p1 p3 p4 v1 v2 v6) h (fun v13 => mk [(0, .e (.one (.own 90000))), (1, .e (.one (.pure (.val (.int .i64 p1))))), (4, .e (.one (.clo (B0 (EB true Af true Af) CR p4)))), (12, .e (.one (.pure (.val (.int .i64 v6))))), (13, .e (.one (.pure (.val (.int .i64 v13)))))] [(90000, .vec 3 (((p0.set ((p1).toNat) v1).set ((p3).toNat) v2).map Af))]) (fun v14 => mk [(0, .e (.one (.own 90000))), (1, .e (.one (.pure (.val (.int .i64 p1))))), (4, .e (.one (.clo (B0 (EB true Af true Af) CR p4)))), (12, .e (.one (.pure (.val (.int .i64 v6))))), (13, .e (.one (.pure (.val (.int .i64 v14)))))] [(90000, .vec 3 (((p0.set ((p1).toNat) v1).set ((p3).toNat) v2).map Af))]) (fun _ _ => rfl) (sm [] _ _ rfl rfl) (fun j13 n13 v13 h => ?_) (fun v14 s h hs => ?_)
  ·unfold Cm at h
   refine Ab ?_
   refine AO h (fun v15 => mk [(0, .e (.one (.own 90000))), (1, .e (.one (.pure (.val (.int .i64 p1))))), (4, .e (.one (.clo (B0 (EB true Af true Af) CR p4)))), (12, .e (.one (.pure (.val (.int .i64 v6))))), (13, .e (.one (.pure (.val (.int .i64 v13))))), (66, .e (.one (.pure (.val (.bool v15)))))] [(90000, .vec 3 (((p0.set ((p1).toNat) v1).set ((p3).toNat) v2).map Af))]) (fun j15 h => ?_) (fun v15 h => ?_)
   ·refine Aa Ac rfl (qm rfl (qm rfl (Kg rfl (qm rfl ?_))))
    refine AE (t := 53) rfl (fun c16 => ?_) (fun c16 => ?_)
    ·have h := Am c16 h
     refine qm rfl (qm rfl (qm rfl ?_))
     obtain ⟨v17, a17, b17, h⟩ := Aj h
     refine qI AP Ax a17 (Ah b17) rfl (qJ A1 Ax (Ah b17) rfl (qm rfl (qm rfl ?_)))
     obtain ⟨v18, a18, b18, h⟩ := Aj h
     refine qI AP Ax a18 (Ah b18) rfl (qJ A1 Ax (Ah b18) rfl ?_)
     obtain ⟨v19, a19, h⟩ := bind_some h
     refine EE (ds0 := [_, _]) (ar := (EB true Af true Af) ((v17, v18))) (.g rfl rfl) rfl rfl ⟨rfl, rfl, trivial⟩ rfl rfl rfl (ED (Fb _ _ _ _ Br Br) a19) ?_
     refine A2 rfl (Cp rfl (qp rfl (AM (by kernel_rfl) ?_)))
     exact Au _ h (sm [] _ _ rfl rfl)
    ·have h := An c16 h
     refine qn rfl (qn rfl (qn rfl (qn rfl (qn rfl (qn rfl (qn rfl (qn rfl (qn rfl (qn rfl (qn rfl (qn rfl (qp rfl (AM (by kernel_rfl) ?_)))))))))))))
     exact Au _ h (sm [] _ _ rfl rfl)
   ·refine Ap rfl (fun c20 => ?_) (fun c20 => ?_)
    ·have h := Am c20 h
     refine Ar (AN (Aa Ac rfl (qm rfl (CQ rfl (qa rfl (Ad ?_))))))
     exact Au _ h (sm [] _ _ rfl rfl)
    ·have h := An c20 h
     refine AX ?_
     exact Au _ h (sm [] _ _ rfl rfl)
  ·refine Al hs (Ab (Ab (Aa Ac rfl (qm rfl (qm rfl (Fw rfl (Ad ?_)))))))
   refine Ap rfl (fun c21 => ?_) (fun c21 => ?_)
   ·have h := Am c21 h
    refine Ab (Aa Ac rfl (qm rfl (qm rfl (qm rfl (qm rfl (qm rfl (qm rfl ?_)))))))
    obtain ⟨v22, a22, b22, h⟩ := Aj h
    refine qI AP Ax a22 (Ah b22) rfl (qJ A1 Ax (Ah b22) rfl (qm rfl (qm rfl ?_)))
    obtain ⟨v23, a23, b23, h⟩ := Aj h
    refine qI AP Ax a23 (Ah b23) rfl (qJ A1 Ax (Ah b23) rfl ?_)
    obtain ⟨v24, a24, b24, h⟩ := Aj h
    refine qI AP Ax a24 (Ah b24) rfl ?_
    refine A7 rfl rfl rfl rfl (Ah b24) rfl Ax rfl (A5 rfl) (A8 Af ((p0.set ((p1).toNat) v1).set ((p3).toNat) v2) _ v22) ?_
    obtain ⟨v25, a25, b25, h⟩ := Aj h
    refine qI AP Ax a25 (Ah b25) rfl ?_
    refine A7 rfl rfl rfl rfl (Ah b25) rfl Ax rfl (A5 rfl) (A8 Af (((p0.set ((p1).toNat) v1).set ((p3).toNat) v2).set ((v14).toNat) v22) _ v23) ?_
    refine AM (by kernel_rfl) (Ab (Aa Ac rfl (qm rfl (qa rfl (qa rfl (Ad ?_))))))
    obtain rfl := sj h
    refine Al (sm [] [(10, .e (.one (.pure (.val (.int .i64 v14))))), (11, .e (.one (.pure (.val (.bool true)))))] [(90000, .vec 3 (((((p0.set ((p1).toNat) v1).set ((p3).toNat) v2).set ((v14).toNat) v22).set ((p1).toNat) v23).map Af))] rfl rfl) (Az ?_)
    exact ⟨⟨[_, _], ⟨.tmp _ _ rfl, ⟨.tmp _ _ rfl, trivial⟩⟩, rfl⟩, ⟨rfl, trivial⟩, trivial⟩
   ·have h := An c21 h
    refine Ar (Ab (Aa Ac rfl (qm rfl (qm rfl (qm rfl (qm rfl (qm rfl (qm rfl ?_))))))))
    obtain ⟨v26, a26, b26, h⟩ := Aj h
    refine qI AP Ax a26 (Ah b26) rfl (qJ A1 Ax (Ah b26) rfl (qm rfl (qm rfl ?_)))
    obtain ⟨v27, a27, b27, h⟩ := Aj h
    refine qI AP Ax a27 (Ah b27) rfl (qJ A1 Ax (Ah b27) rfl ?_)
    obtain ⟨v28, a28, b28, h⟩ := Aj h
    refine qI AP Ax a28 (Ah b28) rfl ?_
    refine A7 rfl rfl rfl rfl (Ah b28) rfl Ax rfl (A5 rfl) (A8 Af ((p0.set ((p1).toNat) v1).set ((p3).toNat) v2) _ v26) ?_
    obtain ⟨v29, a29, b29, h⟩ := Aj h
    refine qI AP Ax a29 (Ah b29) rfl ?_
    refine A7 rfl rfl rfl rfl (Ah b29) rfl Ax rfl (A5 rfl) (A8 Af (((p0.set ((p1).toNat) v1).set ((p3).toNat) v2).set ((v6).toNat) v26) _ v27) ?_
    refine AM (by kernel_rfl) (Ab (Aa Ac rfl (qm rfl (AY rfl (qa rfl (Ad (Ab (Aa Ac rfl (qm rfl (CQ rfl (qa rfl (Ad (Ab ?_)))))))))))))
    refine AJ (L := Cq N p1 p4) h (fun v30 => mk [(0, .e (.one (.own 90000))), (1, .e (.one (.pure (.val (.int .i64 p1))))), (4, .e (.one (.clo (B0 (EB true Af true Af) CR p4)))), (12, .e (.one (.pure (.val (.int .i64 v30.2.1))))), (13, .e (.one (.pure (.val (.int .i64 v30.2.2)))))] [(90000, .vec 3 (v30.1.map Af))]) (fun v31 => mk [(0, .e (.one (.own 90000))), (1, .e (.one (.pure (.val (.int .i64 p1))))), (13, .e (.one (.pure (.val (.int .i64 v31.2)))))] [(90000, .vec 3 (v31.1.map Af))]) (fun _ _ => rfl) (sm [] _ _ rfl rfl) (fun j30 n30 v30 h => ?_) (fun v31 s h hs => ?_)
    ·unfold Cq at h
     refine AN (Ab ?_)
     refine AJ (L := Cn N p1 p4 v30) h (fun v32 => mk [(0, .e (.one (.own 90000))), (1, .e (.one (.pure (.val (.int .i64 p1))))), (4, .e (.one (.clo (B0 (EB true Af true Af) CR p4)))), (12, .e (.one (.pure (.val (.int .i64 v32))))), (13, .e (.one (.pure (.val (.int .i64 v30.2.2)))))] [(90000, .vec 3 (v30.1.map Af))]) (fun v33 => mk [(0, .e (.one (.own 90000))), (1, .e (.one (.pure (.val (.int .i64 p1))))), (4, .e (.one (.clo (B0 (EB true Af true Af) CR p4)))), (12, .e (.one (.pure (.val (.int .i64 v33))))), (13, .e (.one (.pure (.val (.int .i64 v30.2.2)))))] [(90000, .vec 3 (v30.1.map Af))]) (fun _ _ => rfl) (sm [] _ _ rfl rfl) (fun j32 n32 v32 h => ?_) (fun v33 s h hs => ?_)
     ·unfold Cn at h
      refine Ab ?_
      refine AO h (fun v34 => mk [(0, .e (.one (.own 90000))), (1, .e (.one (.pure (.val (.int .i64 p1))))), (4, .e (.one (.clo (B0 (EB true Af true Af) CR p4)))), (12, .e (.one (.pure (.val (.int .i64 v32))))), (13, .e (.one (.pure (.val (.int .i64 v30.2.2))))), (120, .e (.one (.pure (.val (.bool v34)))))] [(90000, .vec 3 (v30.1.map Af))]) (fun j34 h => ?_) (fun v34 h => ?_)
      ·refine Aa Ac rfl (qm rfl (qm rfl (Kg rfl (qm rfl ?_))))
       refine AE (t := 108) rfl (fun c35 => ?_) (fun c35 => ?_)
       ·have h := Am c35 h
        refine qm rfl (qm rfl (qm rfl ?_))
        obtain ⟨v36, a36, b36, h⟩ := Aj h
        refine qI AP Ax a36 (Ah b36) rfl (qJ A1 Ax (Ah b36) rfl (qm rfl (qm rfl ?_)))
        obtain ⟨v37, a37, b37, h⟩ := Aj h
        refine qI AP Ax a37 (Ah b37) rfl (qJ A1 Ax (Ah b37) rfl ?_)
        obtain ⟨v38, a38, h⟩ := bind_some h
        refine EE (ds0 := [_, _]) (ar := (EB true Af true Af) ((v36, v37))) (.g rfl rfl) rfl rfl ⟨rfl, rfl, trivial⟩ rfl rfl rfl (ED (Fb _ _ _ _ Br Br) a38) ?_
        refine A2 rfl (qp rfl (AM (by kernel_rfl) ?_))
        exact Au _ h (sm [] _ _ rfl rfl)
       ·have h := An c35 h
        refine qn rfl (qn rfl (qn rfl (qn rfl (qn rfl (qn rfl (qn rfl (qn rfl (qn rfl (qn rfl (qn rfl (qp rfl (AM (by kernel_rfl) ?_))))))))))))
        exact Au _ h (sm [] _ _ rfl rfl)
      ·refine Ap rfl (fun c39 => ?_) (fun c39 => ?_)
       ·have h := Am c39 h
        refine Ar (AN (Aa Ac rfl (qm rfl (AY rfl (qa rfl (Ad ?_))))))
        exact Au _ h (sm [] _ _ rfl rfl)
       ·have h := An c39 h
        refine AX ?_
        exact Au _ h (sm [] _ _ rfl rfl)
     ·refine Al hs (Ab ?_)
      refine AJ (L := Cl N p1 p4 v30 v33) h (fun v40 => mk [(0, .e (.one (.own 90000))), (1, .e (.one (.pure (.val (.int .i64 p1))))), (4, .e (.one (.clo (B0 (EB true Af true Af) CR p4)))), (12, .e (.one (.pure (.val (.int .i64 v33))))), (13, .e (.one (.pure (.val (.int .i64 v40)))))] [(90000, .vec 3 (v30.1.map Af))]) (fun v41 => mk [(0, .e (.one (.own 90000))), (1, .e (.one (.pure (.val (.int .i64 p1))))), (4, .e (.one (.clo (B0 (EB true Af true Af) CR p4)))), (12, .e (.one (.pure (.val (.int .i64 v33))))), (13, .e (.one (.pure (.val (.int .i64 v41)))))] [(90000, .vec 3 (v30.1.map Af))]) (fun _ _ => rfl) (sm [] _ _ rfl rfl) (fun j40 n40 v40 h => ?_) (fun v41 s h hs => ?_)
      ·unfold Cl at h
       refine Ab ?_
       refine AO h (fun v42 => mk [(0, .e (.one (.own 90000))), (1, .e (.one (.pure (.val (.int .i64 p1))))), (4, .e (.one (.clo (B0 (EB true Af true Af) CR p4)))), (12, .e (.one (.pure (.val (.int .i64 v33))))), (13, .e (.one (.pure (.val (.int .i64 v40))))), (139, .e (.one (.pure (.val (.bool v42)))))] [(90000, .vec 3 (v30.1.map Af))]) (fun j42 h => ?_) (fun v42 h => ?_)
       ·refine Aa Ac rfl (qm rfl (qm rfl (Kg rfl (qm rfl ?_))))
        refine AE (t := 126) rfl (fun c43 => ?_) (fun c43 => ?_)
        ·have h := Am c43 h
         refine qm rfl (qm rfl (qm rfl ?_))
         obtain ⟨v44, a44, b44, h⟩ := Aj h
         refine qI AP Ax a44 (Ah b44) rfl (qJ A1 Ax (Ah b44) rfl (qm rfl (qm rfl ?_)))
         obtain ⟨v45, a45, b45, h⟩ := Aj h
         refine qI AP Ax a45 (Ah b45) rfl (qJ A1 Ax (Ah b45) rfl ?_)
         obtain ⟨v46, a46, h⟩ := bind_some h
         refine EE (ds0 := [_, _]) (ar := (EB true Af true Af) ((v44, v45))) (.g rfl rfl) rfl rfl ⟨rfl, rfl, trivial⟩ rfl rfl rfl (ED (Fb _ _ _ _ Br Br) a46) ?_
         refine A2 rfl (Cp rfl (qp rfl (AM (by kernel_rfl) ?_)))
         exact Au _ h (sm [] _ _ rfl rfl)
        ·have h := An c43 h
         refine qn rfl (qn rfl (qn rfl (qn rfl (qn rfl (qn rfl (qn rfl (qn rfl (qn rfl (qn rfl (qn rfl (qn rfl (qp rfl (AM (by kernel_rfl) ?_)))))))))))))
         exact Au _ h (sm [] _ _ rfl rfl)
       ·refine Ap rfl (fun c47 => ?_) (fun c47 => ?_)
        ·have h := Am c47 h
         refine Ar (AN (Aa Ac rfl (qm rfl (CQ rfl (qa rfl (Ad ?_))))))
         exact Au _ h (sm [] _ _ rfl rfl)
        ·have h := An c47 h
         refine AX ?_
         exact Au _ h (sm [] _ _ rfl rfl)
      ·refine Al hs (Ab (Ab (Aa Ac rfl (qm rfl (qm rfl (Fw rfl (Ad ?_)))))))
       refine Ap rfl (fun c48 => ?_) (fun c48 => ?_)
       ·have h := Am c48 h
        refine AX ?_
        exact Au _ h (sm [] _ _ rfl rfl)
       ·have h := An c48 h
        refine Ar (Ab (Aa Ac rfl (qm rfl (qm rfl (qm rfl (qm rfl (qm rfl (qm rfl ?_))))))))
        obtain ⟨v49, a49, b49, h⟩ := Aj h
        refine qI AP Ax a49 (Ah b49) rfl (qJ A1 Ax (Ah b49) rfl (qm rfl (qm rfl ?_)))
        obtain ⟨v50, a50, b50, h⟩ := Aj h
        refine qI AP Ax a50 (Ah b50) rfl (qJ A1 Ax (Ah b50) rfl ?_)
        obtain ⟨v51, a51, b51, h⟩ := Aj h
        refine qI AP Ax a51 (Ah b51) rfl ?_
        refine A7 rfl rfl rfl rfl (Ah b51) rfl Ax rfl (A5 rfl) (A8 Af v30.1 _ v49) ?_
        obtain ⟨v52, a52, b52, h⟩ := Aj h
        refine qI AP Ax a52 (Ah b52) rfl ?_
        refine A7 rfl rfl rfl rfl (Ah b52) rfl Ax rfl (A5 rfl) (A8 Af (v30.1.set ((v33).toNat) v49) _ v50) ?_
        refine AM (by kernel_rfl) (Ab (Aa Ac rfl (qm rfl (AY rfl (qa rfl (Ad (Aa Ac rfl (qm rfl (CQ rfl (qa rfl (Ad ?_)))))))))))
        exact Au _ h (sm [] _ _ rfl rfl)
    ·refine Al hs (Ab (Aa Ac rfl (qm rfl (qm rfl (qm rfl (qm rfl (qm rfl (qm rfl ?_))))))))
     obtain ⟨v53, a53, b53, h⟩ := Aj h
     refine qI AP Ax a53 (Ah b53) rfl (qJ A1 Ax (Ah b53) rfl (qm rfl (qm rfl ?_)))
     obtain ⟨v54, a54, b54, h⟩ := Aj h
     refine qI AP Ax a54 (Ah b54) rfl (qJ A1 Ax (Ah b54) rfl ?_)
     obtain ⟨v55, a55, b55, h⟩ := Aj h
     refine qI AP Ax a55 (Ah b55) rfl ?_
     refine A7 rfl rfl rfl rfl (Ah b55) rfl Ax rfl (A5 rfl) (A8 Af v31.1 _ v53) ?_
     obtain ⟨v56, a56, b56, h⟩ := Aj h
     refine qI AP Ax a56 (Ah b56) rfl ?_
     refine A7 rfl rfl rfl rfl (Ah b56) rfl Ax rfl (A5 rfl) (A8 Af (v31.1.set ((v31.2).toNat) v53) _ v54) ?_
     refine AM (by kernel_rfl) (Ab (Aa Ac rfl (qm rfl (qa rfl (qa rfl (Ad ?_))))))
     obtain rfl := sj h
     refine Al (sm [] [(10, .e (.one (.pure (.val (.int .i64 v31.2))))), (11, .e (.one (.pure (.val (.bool false)))))] [(90000, .vec 3 (((v31.1.set ((v31.2).toNat) v53).set ((p1).toNat) v54).map Af))] rfl rfl) (Az ?_)
     exact ⟨⟨[_, _], ⟨.tmp _ _ rfl, ⟨.tmp _ _ rfl, trivial⟩⟩, rfl⟩, ⟨rfl, trivial⟩, trivial⟩
set_option maxRecDepth 10000 in
theorem GU (N : Nat) (rc : (List Ae) → Int → Int → Int → ((Ae × Ae) → Option Int) → Option ((List Ae))) (hrc : ∀ (p0 : List Ae) (p1 : Int) (p2 : Int) (p3 : Int) (p4 : (Ae × Ae) → Option Int) (r : (List Ae)), rc p0 p1 p2 p3 p4 = some r → BI Tryz.prog 60 [.e (.one (.own 90000)), .e (.one (.pure (.val (.int .i64 p1)))), .e (.one (.pure (.val (.int .i64 p2)))), .e (.one (.pure (.val (.int .i64 p3)))), .e (.one (.clo (B0 (EB true Af true Af) CR p4)))] [(.vec 3 (p0.map Af), .vec 3 (r.map Af))] [] (.tup [])) (p0 : List Ae) (p1 : Int) (p2 : Int) (p3 : Int) (p4 : (Ae × Ae) → Option Int) (r : (List Ae)) (h : DG N rc p0 p1 p2 p3 p4 = some r) : BI Tryz.prog 60 [.e (.one (.own 90000)), .e (.one (.pure (.val (.int .i64 p1)))), .e (.one (.pure (.val (.int .i64 p2)))), .e (.one (.pure (.val (.int .i64 p3)))), .e (.one (.clo (B0 (EB true Af true Af) CR p4)))] [(.vec 3 (p0.map Af), .vec 3 (r.map Af))] [] (.tup []) := by
 unfold DG at h
 refine Bx (n := 148) (rs := []) Tryz.func60 rfl rfl rfl (A5 rfl) (A5 rfl) rfl rfl (A5 rfl) rfl (A5 rfl) fun w0 S0 GL => Nb ?_
 refine Al (sm [] [(0, .e (.one (.own 90000))), (1, .e (.one (.pure (.val (.int .i64 p1))))), (2, .e (.one (.pure (.val (.int .i64 p2))))), (3, .e (.one (.pure (.val (.int .i64 p3))))), (4, .e (.one (.clo (B0 (EB true Af true Af) CR p4))))] [(90000, .vec 3 (p0.map Af))] rfl rfl) (Ab (Aa Ac rfl (qa rfl (Ad (Ab (Aa Ac rfl (qa rfl (Ad ?_))))))))
 refine AJ (L := Bq N p4 rc) h (fun v1 => mk [(0, .e (.one (.own 90000))), (1, .e (.one (.pure (.val (.int .i64 v1.2.1))))), (2, .e (.one (.pure (.val (.int .i64 v1.2.2.1))))), (3, .e (.one (.pure (.val (.int .i64 v1.2.2.2.1))))), (4, .e (.one (.clo (B0 (EB true Af true Af) CR p4)))), (10, .e (.one (.pure (.val (.bool v1.2.2.2.2.1))))), (11, .e (.one (.pure (.val (.bool v1.2.2.2.2.2)))))] [(90000, .vec 3 (v1.1.map Af))]) (fun v2 => mk [] []) (fun _ _ => rfl) (sm [] _ _ rfl rfl) (fun j1 n1 v1 h => ?_) (fun v2 s h hs => ?_)
 ·unfold Bq at h
  refine AN (Ab (Aa Ac rfl (qm rfl (qm rfl (CQ rfl (qa rfl (Ad (Ab (Ab (Aa Ac rfl (qm rfl (Kg rfl (Ad ?_)))))))))))))
  refine Ap rfl (fun c3 => ?_) (fun c3 => ?_)
  ·have h := Am c3 h
   refine Ab (Aa Ac rfl (qm rfl (qm rfl (qm rfl (qm rfl ?_)))))
   obtain ⟨v4, a4, h⟩ := bind_some h
   refine Dg (ds0 := [_, _, _, _]) [90000] [] [true] (F5 N v1.1 v1.2.1 v1.2.2.1 p4 v4 a4) (.p rfl) Ws rfl ⟨rfl, rfl, rfl, rfl, trivial⟩ rfl rfl (by decide) ⟨rfl, trivial⟩ rfl (Bi rfl) trivial ⟨(fun h => by cases h), trivial⟩ rfl rfl rfl ?_
   refine Ad ?_
   obtain rfl := sj h
   refine Az ⟨_, (sm [] [] [(90000, .vec 3 (v4.map Af))] rfl rfl), ?_⟩
   exact ⟨⟨[], trivial, rfl⟩, ⟨rfl, trivial⟩, trivial⟩
  ·have h := An c3 h
   refine Ar (Ab (Ab (Aa Ac rfl (qm rfl (BK rfl (Ad ?_))))))
   refine Ap rfl (fun c5 => ?_) (fun c5 => ?_)
   ·have h := Am c5 h
    refine Ab (Aa Ac rfl (qm rfl (qm rfl (qm rfl (qm rfl ?_)))))
    obtain ⟨v6, a6, h⟩ := bind_some h
    refine Dg (ds0 := [_, _, _, _]) [90000] [] [true] (GY N v1.1 v1.2.1 v1.2.2.1 p4 v6 a6) (.p rfl) WH rfl ⟨rfl, rfl, rfl, rfl, trivial⟩ rfl rfl (by decide) ⟨rfl, trivial⟩ rfl (Bi rfl) trivial ⟨(fun h => by cases h), trivial⟩ rfl rfl rfl ?_
    refine Ad ?_
    obtain rfl := sj h
    refine Az ⟨_, (sm [] [] [(90000, .vec 3 (v6.map Af))] rfl rfl), ?_⟩
    exact ⟨⟨[], trivial, rfl⟩, ⟨rfl, trivial⟩, trivial⟩
   ·have h := An c5 h
    refine Ar ?_
    refine AO h (fun v7 => mk [(0, .e (.one (.own 90000))), (1, .e (.one (.pure (.val (.int .i64 v1.2.1))))), (2, .e (.one (.pure (.val (.int .i64 v1.2.2.1))))), (3, .e (.one (.pure (.val (.int .i64 v7.2))))), (4, .e (.one (.clo (B0 (EB true Af true Af) CR p4)))), (10, .e (.one (.pure (.val (.bool v1.2.2.2.2.1))))), (11, .e (.one (.pure (.val (.bool v1.2.2.2.2.2))))), (12, .e (.one (.pure (.val (.int .i64 ((IntKind.wrap .i64 (v1.2.2.1 - v1.2.1))))))))] [(90000, .vec 3 (v7.1.map Af))]) (fun j7 h => ?_) (fun v7 h => ?_)
    ·refine Ab (Aa Ac rfl (qm rfl (Cp rfl (Ad ?_))))
     refine Ap rfl (fun c8 => ?_) (fun c8 => ?_)
     ·have h := Am c8 h
      refine Ab (Aa Ac rfl (qm rfl (qm rfl (qm rfl (qm rfl ?_)))))
      obtain ⟨v9, a9, h⟩ := bind_some h
      refine Dg (ds0 := [_, _, _, _]) [90000] [] [true] (F9 N v1.1 v1.2.1 v1.2.2.1 p4 v9 a9) (.p rfl) W6 rfl ⟨rfl, rfl, rfl, rfl, trivial⟩ rfl rfl (by decide) ⟨rfl, trivial⟩ rfl (Bi rfl) trivial ⟨(fun h => by cases h), trivial⟩ rfl rfl rfl ?_
      refine Ad (Aa Ac rfl (qm rfl (CQ rfl (qa rfl (Ad ?_)))))
      exact Au _ h (sm [] _ _ rfl rfl)
     ·have h := An c8 h
      refine Ar ?_
      exact Au _ h (sm [] _ _ rfl rfl)
    ·refine Ab (Aa Ac rfl (qm rfl (qm rfl (qm rfl (qm rfl ?_)))))
     obtain ⟨v10, a10, h⟩ := bind_some h
     refine EF [] [90000] (Gr N v7.1 v1.2.1 v1.2.2.1 p4 v10 a10) Wy C8 rfl (qm rfl (qx rfl (qx rfl (qa rfl (qa rfl (Ad ?_))))))
     refine AO h (fun v11 => mk [(0, .e (.one (.own 90000))), (1, .e (.one (.pure (.val (.int .i64 v1.2.1))))), (2, .e (.one (.pure (.val (.int .i64 v1.2.2.1))))), (3, .e (.one (.pure (.val (.int .i64 v7.2))))), (4, .e (.one (.clo (B0 (EB true Af true Af) CR p4)))), (10, .e (.one (.pure (.val (.bool v1.2.2.2.2.1))))), (11, .e (.one (.pure (.val (.bool v1.2.2.2.2.2))))), (12, .e (.one (.pure (.val (.int .i64 ((IntKind.wrap .i64 (v1.2.2.1 - v1.2.1)))))))), (13, .e (.one (.pure (.val (.int .i64 v11.2.1))))), (14, .e (.one (.pure (.val (.int .i64 v11.2.2)))))] [(90000, .vec 3 (v11.1.map Af))]) (fun j11 h => ?_) (fun v11 h => ?_)
     ·refine Ab (Aa Ac rfl (qm rfl (BK rfl (Ad ?_))))
      refine Ap rfl (fun c12 => ?_) (fun c12 => ?_)
      ·have h := Am c12 h
       refine Ab (Aa Ac rfl (qm rfl (qm rfl (qm rfl (qm rfl ?_)))))
       obtain ⟨v13, a13, h⟩ := bind_some h
       refine Dg (ds0 := [_, _, _, _]) [90000] [] [true] (Gi N v7.1 v1.2.1 v1.2.2.1 p4 v13 a13) (.p rfl) Wv rfl ⟨rfl, rfl, rfl, rfl, trivial⟩ rfl rfl (by decide) ⟨rfl, trivial⟩ rfl (Bi rfl) trivial ⟨(fun h => by cases h), trivial⟩ rfl rfl rfl ?_
       refine Ad (Ab (Aa Ac rfl (qm rfl (CQ rfl (qm rfl (qm rfl (CQ rfl (CQ rfl (qa rfl (Ad (Aa Ac rfl (qa rfl (Ad ?_)))))))))))))
       exact Au _ h (sm [] _ _ rfl rfl)
      ·have h := An c12 h
       refine Ar ?_
       exact Au _ h (sm [] _ _ rfl rfl)
     ·refine AO h (fun v14 => mk [(0, .e (.one (.own 90000))), (1, .e (.one (.pure (.val (.int .i64 v1.2.1))))), (2, .e (.one (.pure (.val (.int .i64 v1.2.2.1))))), (3, .e (.one (.pure (.val (.int .i64 v7.2))))), (4, .e (.one (.clo (B0 (EB true Af true Af) CR p4)))), (10, .e (.one (.pure (.val (.bool v1.2.2.2.2.1))))), (11, .e (.one (.pure (.val (.bool v1.2.2.2.2.2))))), (12, .e (.one (.pure (.val (.int .i64 ((IntKind.wrap .i64 (v1.2.2.1 - v1.2.1)))))))), (13, .e (.one (.pure (.val (.int .i64 v11.2.1)))))] [(90000, .vec 3 (v14.map Af))]) (fun j14 h => ?_) (fun v14 h => ?_)
      ·refine AO h (fun v15 => mk [(0, .e (.one (.own 90000))), (1, .e (.one (.pure (.val (.int .i64 v1.2.1))))), (2, .e (.one (.pure (.val (.int .i64 v1.2.2.1))))), (3, .e (.one (.pure (.val (.int .i64 v7.2))))), (4, .e (.one (.clo (B0 (EB true Af true Af) CR p4)))), (10, .e (.one (.pure (.val (.bool v1.2.2.2.2.1))))), (11, .e (.one (.pure (.val (.bool v1.2.2.2.2.2))))), (12, .e (.one (.pure (.val (.int .i64 ((IntKind.wrap .i64 (v1.2.2.1 - v1.2.1)))))))), (13, .e (.one (.pure (.val (.int .i64 v11.2.1))))), (75, .e (.one (.pure (.val (.bool v15)))))] [(90000, .vec 3 (v11.1.map Af))]) (fun j15 h => ?_) (fun v15 h => ?_)
       ·refine Aa Ac rfl (qm rfl (qm rfl ?_))
        refine AE (t := 69) rfl (fun c16 => ?_) (fun c16 => ?_)
        ·have h := Am c16 h
         refine qm rfl (qp rfl (qm rfl ?_))
         refine AE (t := 72) rfl (fun c17 => ?_) (fun c17 => ?_)
         ·have h := Am c17 h
          refine qm rfl (BK rfl (qp rfl (Ad ?_)))
          exact Au _ h (sm [] _ _ rfl rfl)
         ·have h := An c17 h
          refine qn rfl (qn rfl (qp rfl (Ad ?_)))
          exact Au _ h (sm [] _ _ rfl rfl)
        ·have h := An c16 h
         refine qn rfl (qp rfl (qm rfl (qn rfl (qn rfl (qp rfl (Ad ?_))))))
         exact Au _ h (sm [] _ _ rfl rfl)
       ·refine Ap rfl (fun c18 => ?_) (fun c18 => ?_)
        ·have h := Am c18 h
         refine Ab (Aa Ac rfl (qm rfl (qm rfl (qm rfl (qm rfl ?_)))))
         obtain ⟨v19, a19, h⟩ := bind_some h
         refine Dg (ds0 := [_, _, _, _]) [90000] [] [true] (Fh N v11.1 v1.2.1 v1.2.2.1 p4 v19 a19) (.p rfl) WM rfl ⟨rfl, rfl, rfl, rfl, trivial⟩ rfl rfl (by decide) ⟨rfl, trivial⟩ rfl (Bi rfl) trivial ⟨(fun h => by cases h), trivial⟩ rfl rfl rfl ?_
         refine Ad ?_
         refine Ap rfl (fun c20 => ?_) (fun c20 => ?_)
         ·have h := Am c20 h
          obtain rfl := sj h
          refine Az ⟨_, (sm [] [] [(90000, .vec 3 (v19.2.map Af))] rfl rfl), ?_⟩
          exact ⟨⟨[], trivial, rfl⟩, ⟨rfl, trivial⟩, trivial⟩
         ·have h := An c20 h
          refine Ar ?_
          exact Au _ h (sm [] _ _ rfl rfl)
        ·have h := An c18 h
         refine Ar ?_
         exact Au _ h (sm [] _ _ rfl rfl)
      ·refine Ab ?_
       refine AO h (fun v21 => mk [(0, .e (.one (.own 90000))), (1, .e (.one (.pure (.val (.int .i64 v1.2.1))))), (2, .e (.one (.pure (.val (.int .i64 v1.2.2.1))))), (3, .e (.one (.pure (.val (.int .i64 v7.2))))), (4, .e (.one (.clo (B0 (EB true Af true Af) CR p4)))), (10, .e (.one (.pure (.val (.bool v1.2.2.2.2.1))))), (11, .e (.one (.pure (.val (.bool v1.2.2.2.2.2))))), (12, .e (.one (.pure (.val (.int .i64 ((IntKind.wrap .i64 (v1.2.2.1 - v1.2.1)))))))), (13, .e (.one (.pure (.val (.int .i64 v11.2.1))))), (97, .e (.one (.pure (.val (.bool v21)))))] [(90000, .vec 3 (v14.map Af))]) (fun j21 h => ?_) (fun v21 h => ?_)
       ·refine Aa Ac rfl (qm rfl (Fw rfl (qm rfl ?_)))
        refine AE (t := 83) rfl (fun c22 => ?_) (fun c22 => ?_)
        ·have h := Am c22 h
         refine qm rfl (qm rfl (qm rfl (CQ rfl ?_)))
         obtain ⟨v23, a23, b23, h⟩ := Aj h
         refine qI AP Ax a23 (Ah b23) rfl (qJ A1 Ax (Ah b23) rfl (qm rfl (qm rfl ?_)))
         obtain ⟨v24, a24, b24, h⟩ := Aj h
         refine qI AP Ax a24 (Ah b24) rfl (qJ A1 Ax (Ah b24) rfl ?_)
         obtain ⟨v25, a25, h⟩ := bind_some h
         refine EE (ds0 := [_, _]) (ar := (EB true Af true Af) ((v23, v24))) (.g rfl rfl) rfl rfl ⟨rfl, rfl, trivial⟩ rfl rfl rfl (ED (Fb _ _ _ _ Br Br) a25) ?_
         refine A2 rfl (Cp rfl (qp rfl (AM (by kernel_rfl) ?_)))
         exact Au _ h (sm [] _ _ rfl rfl)
        ·have h := An c22 h
         refine qn rfl (qn rfl (qn rfl (qn rfl (qn rfl (qn rfl (qn rfl (qn rfl (qn rfl (qn rfl (qn rfl (qn rfl (qn rfl (qp rfl (AM (by kernel_rfl) ?_))))))))))))))
         exact Au _ h (sm [] _ _ rfl rfl)
       ·refine Ap rfl (fun c26 => ?_) (fun c26 => ?_)
        ·have h := Am c26 h
         refine Ab (Aa Ac rfl (qm rfl (qm rfl (qm rfl (qm rfl (qm rfl ?_))))))
         obtain ⟨v27, a27, h⟩ := bind_some h
         refine Dg (ds0 := [_, _, _, _, _]) [90000] [] [true] (FT N v14 v1.2.1 v1.2.2.1 v11.2.1 p4 v27 a27) (.p rfl) WE rfl ⟨rfl, rfl, rfl, rfl, rfl, trivial⟩ rfl rfl (by decide) ⟨rfl, trivial⟩ rfl (Bi rfl) trivial ⟨(fun h => by cases h), trivial⟩ rfl rfl rfl ?_
         refine qa rfl (Ad (Ab (Aa Ac rfl (qm rfl (qa rfl (Ad (AX ?_)))))))
         exact Au _ h (sm [] _ _ rfl rfl)
        ·have h := An c26 h
         refine Ar (Ab (Aa Ac rfl (qm rfl (qm rfl (qm rfl (qm rfl (qm rfl ?_)))))))
         obtain ⟨v28, a28, h⟩ := bind_some h
         refine Dg (ds0 := [_, _, _, _, _]) [90000] [] [true] (GW N v14 v1.2.1 v1.2.2.1 v11.2.1 p4 v28 a28) (.p rfl) Wx rfl ⟨rfl, rfl, rfl, rfl, rfl, trivial⟩ rfl rfl (by decide) ⟨rfl, trivial⟩ rfl (Bi rfl) trivial ⟨(fun h => by cases h), trivial⟩ rfl rfl rfl ?_
         refine qm rfl (qx rfl (qx rfl (qa rfl (qa rfl (Ad (Ab (Aa Ac rfl (qm rfl (qa rfl (Ad (Ab (Aa Ac rfl (qm rfl (qm rfl (CQ rfl (qm rfl (qm rfl (CQ rfl (qa rfl (qa rfl (Ad (Ab (Aa Ac rfl (qm rfl (MR rfl (by decide) (qa rfl (Ad (Ab (Aa Ac rfl (qm rfl (qm rfl (A2 rfl (Ad ?_)))))))))))))))))))))))))))))))))
         refine Ap rfl (fun c29 => ?_) (fun c29 => ?_)
         ·have h := Am c29 h
          refine Ab (Aa Ac rfl (qm rfl (qm rfl (Dx rfl (qa rfl (Ad (Ab (Aa Ac rfl (qm rfl (qm rfl (qm rfl (qm rfl (qm rfl ?_)))))))))))))
          obtain ⟨v30, a30, h⟩ := bind_some h
          refine Dg (ds0 := [_, _, _, _, _]) [90000] [] [true] (hrc v28.2.2 v1.2.1 v28.1 v7.2 p4 v30 a30) (.p rfl) Uu rfl ⟨rfl, rfl, rfl, rfl, rfl, trivial⟩ rfl rfl (by decide) ⟨rfl, trivial⟩ rfl (Bi rfl) trivial ⟨(fun h => by cases h), trivial⟩ rfl rfl rfl ?_
          refine Ad (Aa Ac rfl (qm rfl (AY rfl (qa rfl (Ad ?_)))))
          exact Au _ h (sm [] _ _ rfl rfl)
         ·have h := An c29 h
          refine Ab (Aa Ac rfl (qm rfl (qm rfl (Dx rfl (qa rfl (Ad (Ab (Aa Ac rfl (qm rfl (qm rfl (AY rfl (qm rfl (qm rfl (qm rfl ?_))))))))))))))
          obtain ⟨v31, a31, h⟩ := bind_some h
          refine Dg (ds0 := [_, _, _, _, _]) [90000] [] [true] (hrc v28.2.2 ((IntKind.wrap .i64 (v28.1 + 1))) v1.2.2.1 v7.2 p4 v31 a31) (.p rfl) Uu rfl ⟨rfl, rfl, rfl, rfl, rfl, trivial⟩ rfl rfl (by decide) ⟨rfl, trivial⟩ rfl (Bi rfl) trivial ⟨(fun h => by cases h), trivial⟩ rfl rfl rfl ?_
          refine Ad (Aa Ac rfl (qm rfl (qa rfl (Ad ?_))))
          exact Au _ h (sm [] _ _ rfl rfl)
 ·cases h
theorem EW (N : Nat) : ∀ (k : Nat) (p0 : List Ae) (p1 : Int) (p2 : Int) (p3 : Int) (p4 : (Ae × Ae) → Option Int) (r : (List Ae)), CP N k p0 p1 p2 p3 p4 = some r → BI Tryz.prog 60 [.e (.one (.own 90000)), .e (.one (.pure (.val (.int .i64 p1)))), .e (.one (.pure (.val (.int .i64 p2)))), .e (.one (.pure (.val (.int .i64 p3)))), .e (.one (.clo (B0 (EB true Af true Af) CR p4)))] [(.vec 3 (p0.map Af), .vec 3 (r.map Af))] [] (.tup [])
 | 0, _, _, _, _, _, _, h => by cases h
 | k + 1, p0, p1, p2, p3, p4, r, h => GU N (CP N k) (EW N k) p0 p1 p2 p3 p4 r h
theorem Hh (N : Nat) (p0 : List Ae) (p1 : Int) (p2 : Int) (p3 : Int) (p4 : (Ae × Ae) → Option Int) (r : (List Ae)) (h : EZ N p0 p1 p2 p3 p4 = some r) : BI Tryz.prog 60 [.e (.one (.own 90000)), .e (.one (.pure (.val (.int .i64 p1)))), .e (.one (.pure (.val (.int .i64 p2)))), .e (.one (.pure (.val (.int .i64 p3)))), .e (.one (.clo (B0 (EB true Af true Af) CR p4)))] [(.vec 3 (p0.map Af), .vec 3 (r.map Af))] [] (.tup []) := EW N N p0 p1 p2 p3 p4 r h
set_option maxRecDepth 10000 in
theorem EV (N : Nat) (p0 : List Ae) (p1 : (Ae × Ae) → Option Int) (r : (List Ae)) (h : CM N p0 p1 = some r) : BI Tryz.prog 38 [.e (.one (.own 90000)), .e (.one (.clo (B0 (EB true Af true Af) CR p1)))] [(.vec 3 (p0.map Af), .vec 3 (r.map Af))] [] (.tup []) := by
 unfold CM at h
 refine Bx (n := 14) (rs := []) Tryz.func38 rfl rfl rfl (A5 rfl) (A5 rfl) rfl rfl (A5 rfl) rfl (A5 rfl) fun w0 S0 GL => Nb ?_
 refine Al (sm [] [(0, .e (.one (.own 90000))), (1, .e (.one (.clo (B0 (EB true Af true Af) CR p1))))] [(90000, .vec 3 (p0.map Af))] rfl rfl) (Ab (Aa Ac rfl (qm rfl (DU AP rfl (qa rfl (Ad (Aa Ac rfl (qm rfl (qm rfl (qm rfl (GT UR N5 rfl ?_)))))))))))
 obtain ⟨v1, a1, h⟩ := bind_some h
 refine AH [] (Jr N ((IntKind.wrap .u64 ((p0.length : Int)))) v1 a1) VU rfl (qm rfl ?_)
 obtain ⟨v2, a2, h⟩ := bind_some h
 refine Dg (ds0 := [_, _, _, _, _]) [90000] [] [true] (Hh N p0 0 ((p0.length : Int)) v1 p1 v2 a2) (.p rfl) Uu rfl ⟨rfl, rfl, rfl, rfl, rfl, trivial⟩ rfl rfl (by decide) ⟨rfl, trivial⟩ rfl (Bi rfl) trivial ⟨(fun h => by cases h), trivial⟩ rfl rfl rfl ?_
 refine Ad ?_
 obtain rfl := sj h
 refine ⟨_, (sm [] [] [(90000, .vec 3 (v2.map Af))] rfl rfl), ?_⟩
 exact ⟨⟨[], trivial, rfl⟩, ⟨rfl, trivial⟩, trivial⟩
set_option maxRecDepth 10000 in
theorem Jt (N : Nat) (p0 : Int) (r : Bool) (h : F4 N p0 = some r) : AC Tryz.prog 110 [.e (.one (.pure (.val (.int .i64 p0))))] [] (.e (.one (.pure (.val (.bool r))))) := by
 unfold F4 at h
 refine As (n := 6) (rs := [.tmp 2]) Tryz.func110 rfl rfl rfl (A5 rfl) (A5 rfl) rfl fun w0 S0 => ?_
 refine Ab (Aa Ac rfl (qa rfl (Ad (Ab (Aa Ac rfl (qm rfl (qm rfl (Cw rfl (qa rfl (Ad ?_))))))))))
 obtain rfl := sj h
 refine Al (sm [] [(2, .e (.one (.pure (.val (.bool ((p0 != p0)))))))] [] rfl rfl) (Az ?_)
 exact ⟨⟨[_], ⟨.tmp _ _ rfl, trivial⟩, rfl⟩, trivial⟩
set_option maxRecDepth 10000 in
theorem KM (N : Nat) (p0 : Int) (p1 : Int) (r : Int) (h : GJ N p0 p1 = some r) : AC Tryz.prog 91 [.e (.one (.pure (.val (.int .i64 p0)))), .e (.one (.pure (.val (.int .i64 p1))))] [] (.e (.one (.pure (.val (.int .i64 r))))) := by
 unfold GJ at h
 refine As (n := 20) (rs := [.tmp 4]) Tryz.func91 rfl rfl rfl (A5 rfl) (A5 rfl) rfl fun w0 S0 => ?_
 refine Ab (Aa Ac rfl (qa rfl (Ad (Ab (Aa Ac rfl (qm rfl ?_))))))
 obtain ⟨v1, a1, h⟩ := bind_some h
 refine AH [] (Jt N p0 v1 a1) TV rfl (qa rfl (Ad (Ab (Aa Ac rfl (qm rfl ?_)))))
 obtain ⟨v2, a2, h⟩ := bind_some h
 refine AH [] (Jt N p1 v2 a2) TV rfl (qa rfl (Ad (Ab (Ab (Aa Ac rfl (qm rfl (Ad ?_)))))))
 refine Ap rfl (fun c3 => ?_) (fun c3 => ?_)
 ·have h := Am c3 h
  refine Ab (Ab (Aa Ac rfl (qm rfl (Ad ?_))))
  refine Ap rfl (fun c4 => ?_) (fun c4 => ?_)
  ·have h := Am c4 h
   refine Ab (Aa Ac rfl (qa rfl (Ad ?_)))
   obtain rfl := sj h
   refine Al (sm [] [(4, .e (.one (.pure (.val (.int .i64 0)))))] [] rfl rfl) (Az ?_)
   exact ⟨⟨[_], ⟨.tmp _ _ rfl, trivial⟩, rfl⟩, trivial⟩
  ·have h := An c4 h
   refine Ar (Ab (Aa Ac rfl (qa rfl (Ad ?_))))
   obtain rfl := sj h
   refine Al (sm [] [(4, .e (.one (.pure (.val (.int .i64 ((-1)))))))] [] rfl rfl) (Az ?_)
   exact ⟨⟨[_], ⟨.tmp _ _ rfl, trivial⟩, rfl⟩, trivial⟩
 ·have h := An c3 h
  refine Ar (Ab (Ab (Aa Ac rfl (qm rfl (Ad ?_)))))
  refine Ap rfl (fun c5 => ?_) (fun c5 => ?_)
  ·have h := Am c5 h
   refine Ab (Aa Ac rfl (qa rfl (Ad ?_)))
   obtain rfl := sj h
   refine Al (sm [] [(4, .e (.one (.pure (.val (.int .i64 1)))))] [] rfl rfl) (Az ?_)
   exact ⟨⟨[_], ⟨.tmp _ _ rfl, trivial⟩, rfl⟩, trivial⟩
  ·have h := An c5 h
   refine Ar (Ab (Ab (Aa Ac rfl (qm rfl (qm rfl (A2 rfl (Ad ?_)))))))
   refine Ap rfl (fun c6 => ?_) (fun c6 => ?_)
   ·have h := Am c6 h
    refine Ab (Aa Ac rfl (qa rfl (Ad ?_)))
    obtain rfl := sj h
    refine Al (sm [] [(4, .e (.one (.pure (.val (.int .i64 ((-1)))))))] [] rfl rfl) (Az ?_)
    exact ⟨⟨[_], ⟨.tmp _ _ rfl, trivial⟩, rfl⟩, trivial⟩
   ·have h := An c6 h
    refine Ar (Ab (Ab (Aa Ac rfl (qm rfl (qm rfl (Fw rfl (Ad ?_)))))))
    refine Ap rfl (fun c7 => ?_) (fun c7 => ?_)
    ·have h := Am c7 h
     refine Ab (Aa Ac rfl (qa rfl (Ad ?_)))
     obtain rfl := sj h
     refine Al (sm [] [(4, .e (.one (.pure (.val (.int .i64 1)))))] [] rfl rfl) (Az ?_)
     exact ⟨⟨[_], ⟨.tmp _ _ rfl, trivial⟩, rfl⟩, trivial⟩
    ·have h := An c7 h
     refine Ar (Ab (Aa Ac rfl (qa rfl (Ad ?_))))
     obtain rfl := sj h
     refine Al (sm [] [(4, .e (.one (.pure (.val (.int .i64 0)))))] [] rfl rfl) (Az ?_)
     exact ⟨⟨[_], ⟨.tmp _ _ rfl, trivial⟩, rfl⟩, trivial⟩
set_option maxRecDepth 10000 in
theorem Gs (N : Nat) (p0 : List Int) (p1 : List Int) (r : Int) (h : D5 N p0 p1 = some r) : AC Tryz.prog 63 [.e (.one (.pure (.sl (p0.map Ai)))), .e (.one (.pure (.sl (p1.map Ai))))] [] (.e (.one (.pure (.val (.int .i64 r))))) := by
 unfold D5 at h
 refine As (n := 36) (rs := [.tmp 4]) Tryz.func63 rfl rfl rfl (A5 rfl) (A5 rfl) rfl fun w0 S0 => ?_
 refine Ab (Aa Ac rfl (qa rfl (Ad (Ab (Ab (Aa Ac rfl (qm rfl (AZ AI rfl (qm rfl (Ad ?_))))))))))
 refine AJ (L := DB N p0 p1) h (fun v1 => mk [(0, .e (.one (.pure (.sl (p0.map Ai))))), (1, .e (.one (.pure (.sl (p1.map Ai))))), (9, .e (.one (.pure (.sl (p0.map Ai))))), (10, .e (.one (.pure (.val (.int .i64 ((p0.length : Int))))))), (11, .e (.one (.pure (.val (.int .i64 v1)))))] []) (fun v2 => mk [(0, .e (.one (.pure (.sl (p0.map Ai))))), (1, .e (.one (.pure (.sl (p1.map Ai)))))] []) (fun _ _ => rfl) (sm [] _ _ rfl rfl) (fun j1 n1 v1 h => ?_) (fun v2 s h hs => ?_)
 ·unfold DB at h
  refine Ab (Aa Ac rfl (A2 rfl (Ad (Ab ?_))))
  refine Ap rfl (fun c3 => ?_) (fun c3 => ?_)
  ·have h := Am c3 h
   refine Ar (Ab (AN (Ab (Aa Ac rfl (qm rfl ?_)))))
   obtain ⟨v4, a4, b4, h⟩ := Aj h
   refine qi AI DP a4 (Ah b4) rfl (qk Cz rfl (qa rfl (qa rfl (Ad (Ab (Ab (Aa Ac rfl (qm rfl (qm rfl (AZ AI rfl (Dx rfl (Ad ?_))))))))))))
   refine Ap rfl (fun c5 => ?_) (fun c5 => ?_)
   ·have h := Am c5 h
    refine Ab (Aa Ac rfl (qa rfl (Ad ?_)))
    obtain rfl := sj h
    refine Al (sm [] [(4, .e (.one (.pure (.val (.int .i64 1)))))] [] rfl rfl) (Az ?_)
    exact ⟨⟨[_], ⟨.tmp _ _ rfl, trivial⟩, rfl⟩, trivial⟩
   ·have h := An c5 h
    refine Ar (Ab (Aa Ac rfl (qm rfl (qm rfl ?_))))
    obtain ⟨v6, a6, b6, h⟩ := Aj h
    refine qi AI DP a6 (Ah b6) rfl (qk Cz rfl (qa rfl (Ad (Ab (Aa Ac rfl (qm rfl (qm rfl ?_)))))))
    obtain ⟨v7, a7, h⟩ := bind_some h
    refine AH [] (KM N v4 v6 v7 a7) WO rfl (qa rfl (Ad (Ab (Aa Ac rfl (qm rfl (Cw rfl (Ad ?_)))))))
    refine Ap rfl (fun c8 => ?_) (fun c8 => ?_)
    ·have h := Am c8 h
     refine Ab (Aa Ac rfl (qm rfl (qa rfl (Ad ?_))))
     obtain rfl := sj h
     refine Al (sm [] [(4, .e (.one (.pure (.val (.int .i64 v7)))))] [] rfl rfl) (Az ?_)
     exact ⟨⟨[_], ⟨.tmp _ _ rfl, trivial⟩, rfl⟩, trivial⟩
    ·have h := An c8 h
     refine Ar (Aa Ac rfl (AY rfl (qm rfl (Ad ?_))))
     exact Au _ h (sm [] _ _ rfl rfl)
  ·have h := An c3 h
   refine AX ?_
   exact Au _ h (sm [] _ _ rfl rfl)
 ·refine Al hs (Ab (Ab (Aa Ac rfl (qm rfl (AZ AI rfl (qm rfl (AZ AI rfl (A2 rfl (Ad ?_)))))))))
  refine Ap rfl (fun c9 => ?_) (fun c9 => ?_)
  ·have h := Am c9 h
   refine Ab (Aa Ac rfl (qa rfl (Ad ?_)))
   obtain rfl := sj h
   refine Al (sm [] [(4, .e (.one (.pure (.val (.int .i64 ((-1)))))))] [] rfl rfl) (Az ?_)
   exact ⟨⟨[_], ⟨.tmp _ _ rfl, trivial⟩, rfl⟩, trivial⟩
  ·have h := An c9 h
   refine Ar (Ab (Aa Ac rfl (qa rfl (Ad ?_))))
   obtain rfl := sj h
   refine Al (sm [] [(4, .e (.one (.pure (.val (.int .i64 0)))))] [] rfl rfl) (Az ?_)
   exact ⟨⟨[_], ⟨.tmp _ _ rfl, trivial⟩, rfl⟩, trivial⟩
set_option maxRecDepth 10000 in
theorem HO (N : Nat) (p0 : Int) (r : Bool) (h : E0 N p0 = some r) : AC Tryz.prog 111 [.e (.one (.pure (.val (.int .u8 p0))))] [] (.e (.one (.pure (.val (.bool r))))) := by
 unfold E0 at h
 refine As (n := 6) (rs := [.tmp 2]) Tryz.func111 rfl rfl rfl (A5 rfl) (A5 rfl) rfl fun w0 S0 => ?_
 refine Ab (Aa Ac rfl (qa rfl (Ad (Ab (Aa Ac rfl (qm rfl (qm rfl (Cw rfl (qa rfl (Ad ?_))))))))))
 obtain rfl := sj h
 refine Al (sm [] [(2, .e (.one (.pure (.val (.bool ((p0 != p0)))))))] [] rfl rfl) (Az ?_)
 exact ⟨⟨[_], ⟨.tmp _ _ rfl, trivial⟩, rfl⟩, trivial⟩
set_option maxRecDepth 10000 in
theorem Jv (N : Nat) (p0 : Int) (p1 : Int) (r : Int) (h : Ft N p0 p1 = some r) : AC Tryz.prog 92 [.e (.one (.pure (.val (.int .u8 p0)))), .e (.one (.pure (.val (.int .u8 p1))))] [] (.e (.one (.pure (.val (.int .i64 r))))) := by
 unfold Ft at h
 refine As (n := 20) (rs := [.tmp 4]) Tryz.func92 rfl rfl rfl (A5 rfl) (A5 rfl) rfl fun w0 S0 => ?_
 refine Ab (Aa Ac rfl (qa rfl (Ad (Ab (Aa Ac rfl (qm rfl ?_))))))
 obtain ⟨v1, a1, h⟩ := bind_some h
 refine AH [] (HO N p0 v1 a1) Uc rfl (qa rfl (Ad (Ab (Aa Ac rfl (qm rfl ?_)))))
 obtain ⟨v2, a2, h⟩ := bind_some h
 refine AH [] (HO N p1 v2 a2) Uc rfl (qa rfl (Ad (Ab (Ab (Aa Ac rfl (qm rfl (Ad ?_)))))))
 refine Ap rfl (fun c3 => ?_) (fun c3 => ?_)
 ·have h := Am c3 h
  refine Ab (Ab (Aa Ac rfl (qm rfl (Ad ?_))))
  refine Ap rfl (fun c4 => ?_) (fun c4 => ?_)
  ·have h := Am c4 h
   refine Ab (Aa Ac rfl (qa rfl (Ad ?_)))
   obtain rfl := sj h
   refine Al (sm [] [(4, .e (.one (.pure (.val (.int .i64 0)))))] [] rfl rfl) (Az ?_)
   exact ⟨⟨[_], ⟨.tmp _ _ rfl, trivial⟩, rfl⟩, trivial⟩
  ·have h := An c4 h
   refine Ar (Ab (Aa Ac rfl (qa rfl (Ad ?_))))
   obtain rfl := sj h
   refine Al (sm [] [(4, .e (.one (.pure (.val (.int .i64 ((-1)))))))] [] rfl rfl) (Az ?_)
   exact ⟨⟨[_], ⟨.tmp _ _ rfl, trivial⟩, rfl⟩, trivial⟩
 ·have h := An c3 h
  refine Ar (Ab (Ab (Aa Ac rfl (qm rfl (Ad ?_)))))
  refine Ap rfl (fun c5 => ?_) (fun c5 => ?_)
  ·have h := Am c5 h
   refine Ab (Aa Ac rfl (qa rfl (Ad ?_)))
   obtain rfl := sj h
   refine Al (sm [] [(4, .e (.one (.pure (.val (.int .i64 1)))))] [] rfl rfl) (Az ?_)
   exact ⟨⟨[_], ⟨.tmp _ _ rfl, trivial⟩, rfl⟩, trivial⟩
  ·have h := An c5 h
   refine Ar (Ab (Ab (Aa Ac rfl (qm rfl (qm rfl (A2 rfl (Ad ?_)))))))
   refine Ap rfl (fun c6 => ?_) (fun c6 => ?_)
   ·have h := Am c6 h
    refine Ab (Aa Ac rfl (qa rfl (Ad ?_)))
    obtain rfl := sj h
    refine Al (sm [] [(4, .e (.one (.pure (.val (.int .i64 ((-1)))))))] [] rfl rfl) (Az ?_)
    exact ⟨⟨[_], ⟨.tmp _ _ rfl, trivial⟩, rfl⟩, trivial⟩
   ·have h := An c6 h
    refine Ar (Ab (Ab (Aa Ac rfl (qm rfl (qm rfl (Fw rfl (Ad ?_)))))))
    refine Ap rfl (fun c7 => ?_) (fun c7 => ?_)
    ·have h := Am c7 h
     refine Ab (Aa Ac rfl (qa rfl (Ad ?_)))
     obtain rfl := sj h
     refine Al (sm [] [(4, .e (.one (.pure (.val (.int .i64 1)))))] [] rfl rfl) (Az ?_)
     exact ⟨⟨[_], ⟨.tmp _ _ rfl, trivial⟩, rfl⟩, trivial⟩
    ·have h := An c7 h
     refine Ar (Ab (Aa Ac rfl (qa rfl (Ad ?_))))
     obtain rfl := sj h
     refine Al (sm [] [(4, .e (.one (.pure (.val (.int .i64 0)))))] [] rfl rfl) (Az ?_)
     exact ⟨⟨[_], ⟨.tmp _ _ rfl, trivial⟩, rfl⟩, trivial⟩
set_option maxRecDepth 10000 in
theorem Hd (N : Nat) (p0 : List Int) (p1 : List Int) (r : Int) (h : DR N p0 p1 = some r) : AC Tryz.prog 64 [.e (.one (.pure (.sl (p0.map Bb)))), .e (.one (.pure (.sl (p1.map Bb))))] [] (.e (.one (.pure (.val (.int .i64 r))))) := by
 unfold DR at h
 refine As (n := 36) (rs := [.tmp 4]) Tryz.func64 rfl rfl rfl (A5 rfl) (A5 rfl) rfl fun w0 S0 => ?_
 refine Ab (Aa Ac rfl (qa rfl (Ad (Ab (Ab (Aa Ac rfl (qm rfl (AZ Dm rfl (qm rfl (Ad ?_))))))))))
 refine AJ (L := CD N p0 p1) h (fun v1 => mk [(0, .e (.one (.pure (.sl (p0.map Bb))))), (1, .e (.one (.pure (.sl (p1.map Bb))))), (9, .e (.one (.pure (.sl (p0.map Bb))))), (10, .e (.one (.pure (.val (.int .i64 ((p0.length : Int))))))), (11, .e (.one (.pure (.val (.int .i64 v1)))))] []) (fun v2 => mk [(0, .e (.one (.pure (.sl (p0.map Bb))))), (1, .e (.one (.pure (.sl (p1.map Bb)))))] []) (fun _ _ => rfl) (sm [] _ _ rfl rfl) (fun j1 n1 v1 h => ?_) (fun v2 s h hs => ?_)
 ·unfold CD at h
  refine Ab (Aa Ac rfl (A2 rfl (Ad (Ab ?_))))
  refine Ap rfl (fun c3 => ?_) (fun c3 => ?_)
  ·have h := Am c3 h
   refine Ar (Ab (AN (Ab (Aa Ac rfl (qm rfl ?_)))))
   obtain ⟨v4, a4, b4, h⟩ := Aj h
   refine qi Dm FG a4 (Ah b4) rfl (qk Ju rfl (qa rfl (qa rfl (Ad (Ab (Ab (Aa Ac rfl (qm rfl (qm rfl (AZ Dm rfl (Dx rfl (Ad ?_))))))))))))
   refine Ap rfl (fun c5 => ?_) (fun c5 => ?_)
   ·have h := Am c5 h
    refine Ab (Aa Ac rfl (qa rfl (Ad ?_)))
    obtain rfl := sj h
    refine Al (sm [] [(4, .e (.one (.pure (.val (.int .i64 1)))))] [] rfl rfl) (Az ?_)
    exact ⟨⟨[_], ⟨.tmp _ _ rfl, trivial⟩, rfl⟩, trivial⟩
   ·have h := An c5 h
    refine Ar (Ab (Aa Ac rfl (qm rfl (qm rfl ?_))))
    obtain ⟨v6, a6, b6, h⟩ := Aj h
    refine qi Dm FG a6 (Ah b6) rfl (qk Ju rfl (qa rfl (Ad (Ab (Aa Ac rfl (qm rfl (qm rfl ?_)))))))
    obtain ⟨v7, a7, h⟩ := bind_some h
    refine AH [] (Jv N v4 v6 v7 a7) Wk rfl (qa rfl (Ad (Ab (Aa Ac rfl (qm rfl (Cw rfl (Ad ?_)))))))
    refine Ap rfl (fun c8 => ?_) (fun c8 => ?_)
    ·have h := Am c8 h
     refine Ab (Aa Ac rfl (qm rfl (qa rfl (Ad ?_))))
     obtain rfl := sj h
     refine Al (sm [] [(4, .e (.one (.pure (.val (.int .i64 v7)))))] [] rfl rfl) (Az ?_)
     exact ⟨⟨[_], ⟨.tmp _ _ rfl, trivial⟩, rfl⟩, trivial⟩
    ·have h := An c8 h
     refine Ar (Aa Ac rfl (AY rfl (qm rfl (Ad ?_))))
     exact Au _ h (sm [] _ _ rfl rfl)
  ·have h := An c3 h
   refine AX ?_
   exact Au _ h (sm [] _ _ rfl rfl)
 ·refine Al hs (Ab (Ab (Aa Ac rfl (qm rfl (AZ Dm rfl (qm rfl (AZ Dm rfl (A2 rfl (Ad ?_)))))))))
  refine Ap rfl (fun c9 => ?_) (fun c9 => ?_)
  ·have h := Am c9 h
   refine Ab (Aa Ac rfl (qa rfl (Ad ?_)))
   obtain rfl := sj h
   refine Al (sm [] [(4, .e (.one (.pure (.val (.int .i64 ((-1)))))))] [] rfl rfl) (Az ?_)
   exact ⟨⟨[_], ⟨.tmp _ _ rfl, trivial⟩, rfl⟩, trivial⟩
  ·have h := An c9 h
   refine Ar (Ab (Aa Ac rfl (qa rfl (Ad ?_))))
   obtain rfl := sj h
   refine Al (sm [] [(4, .e (.one (.pure (.val (.int .i64 0)))))] [] rfl rfl) (Az ?_)
   exact ⟨⟨[_], ⟨.tmp _ _ rfl, trivial⟩, rfl⟩, trivial⟩
set_option maxRecDepth 10000 in
theorem Om (N : Nat) (p0 : List Int) (r : Int) (h : IH N p0 = some r) : AC Tryz.prog 62 [.e (.one (.pure (.sl (p0.map Ai))))] [] (.e (.one (.pure (.val (.int .i64 r))))) := by
 unfold IH at h
 refine As (n := 18) (rs := [.tmp 2]) Tryz.func62 rfl rfl rfl (A5 rfl) (A5 rfl) rfl fun w0 S0 => ?_
 refine Ab (Aa Ac rfl (qa rfl (Ad (Ab (Aa Ac rfl (qa rfl (Ad (Ab (Ab (Aa Ac rfl (qm rfl (AZ AI rfl (qm rfl (Ad ?_))))))))))))))
 refine AJ (L := F8 N p0) h (fun v1 => mk [(3, .e (.one (.pure (.val (.int .i64 0))))), (6, .e (.one (.pure (.sl (p0.map Ai))))), (7, .e (.one (.pure (.val (.int .i64 ((p0.length : Int))))))), (8, .e (.one (.pure (.val (.int .i64 v1)))))] []) (fun v2 => mk [(3, .e (.one (.pure (.val (.int .i64 0)))))] []) (fun _ _ => rfl) (sm [] _ _ rfl rfl) (fun j1 n1 v1 h => ?_) (fun v2 s h hs => ?_)
 ·unfold F8 at h
  refine Ab (Aa Ac rfl (A2 rfl (Ad (Ab ?_))))
  refine Ap rfl (fun c3 => ?_) (fun c3 => ?_)
  ·have h := Am c3 h
   refine Ar (Ab (AN (Ab (Aa Ac rfl ?_))))
   obtain ⟨v4, a4, b4, h⟩ := Aj h
   refine qi AI DP a4 (Ah b4) rfl (qk Cz rfl (qa rfl (Ad (Ab (Aa Ac rfl (qm rfl (qm rfl (Cw rfl (Ad ?_)))))))))
   refine Ap rfl (fun c5 => ?_) (fun c5 => ?_)
   ·have h := Am c5 h
    refine Ab (Aa Ac rfl (qm rfl (qa rfl (Ad ?_))))
    obtain rfl := sj h
    refine Al (sm [] [(2, .e (.one (.pure (.val (.int .i64 v4)))))] [] rfl rfl) (Az ?_)
    exact ⟨⟨[_], ⟨.tmp _ _ rfl, trivial⟩, rfl⟩, trivial⟩
   ·have h := An c5 h
    refine Ar (Aa Ac rfl (AY rfl (qm rfl (Ad ?_))))
    exact Au _ h (sm [] _ _ rfl rfl)
  ·have h := An c3 h
   refine AX ?_
   exact Au _ h (sm [] _ _ rfl rfl)
 ·refine Al hs (Ab (Aa Ac rfl (qm rfl (qa rfl (Ad ?_)))))
  obtain rfl := sj h
  refine Al (sm [] [(2, .e (.one (.pure (.val (.int .i64 0)))))] [] rfl rfl) (Az ?_)
  exact ⟨⟨[_], ⟨.tmp _ _ rfl, trivial⟩, rfl⟩, trivial⟩
set_option maxRecDepth 10000 in
theorem IJ (N : Nat) (p0 : Ae) (p1 : Ae) (r : Int) (h : EN N p0 p1 = some r) : AC Tryz.prog 39 [.e (.agg [.pure (.sl (p0.fBase.map Ai)), .pure (.sl (p0.fNext.map Ai)), .pure (.sl (p0.fHeld.map Bb))]), .e (.agg [.pure (.sl (p1.fBase.map Ai)), .pure (.sl (p1.fNext.map Ai)), .pure (.sl (p1.fHeld.map Bb))])] [] (.e (.one (.pure (.val (.int .i64 r))))) := by
 unfold EN at h
 refine As (n := 22) (rs := [.tmp 4]) Tryz.func39 rfl rfl rfl (A5 rfl) (A5 rfl) rfl fun w0 S0 => ?_
 refine Ab (Aa Ac rfl (qb rfl (qb rfl (qa rfl (Ad (Ab (Aa Ac rfl (qf Db rfl (ql Be rfl (qf Db rfl (ql Be rfl ?_)))))))))))
 obtain ⟨v1, a1, h⟩ := bind_some h
 refine AH [] (Gs N p0.fBase p1.fBase v1 a1) Vd rfl (qf BG rfl (ql Be rfl (qf BG rfl (ql Be rfl ?_))))
 obtain ⟨v2, a2, h⟩ := bind_some h
 refine AH [] (Gs N p0.fNext p1.fNext v2 a2) Vd rfl (qf CT rfl (ql G6 rfl (qf CT rfl (ql G6 rfl ?_))))
 obtain ⟨v3, a3, h⟩ := bind_some h
 refine AH [] (Hd N p0.fHeld p1.fHeld v3 a3) Wr rfl (Ep AI DP KI rfl ?_)
 obtain ⟨v4, a4, h⟩ := bind_some h
 refine EF [] [20] (Om N (([v1, v2, v3] : List Int)) v4 a4) Wq C8 rfl (qa rfl (AM (by kernel_rfl) ?_))
 obtain rfl := sj h
 refine Al (sm [] [(4, .e (.one (.pure (.val (.int .i64 v4)))))] [] rfl rfl) (Az ?_)
 exact ⟨⟨[_], ⟨.tmp _ _ rfl, trivial⟩, rfl⟩, trivial⟩
set_option maxRecDepth 10000 in
theorem JJ (N : Nat) (p0 : Ag) (r : (List Ae) × Int) (h : Gx N p0 = some r) : AC Tryz.prog 18 [.e (.agg [.pure (.sl (p0.fVersions.map Ai)), .pure (.sl (p0.fNow.map Ai)), .pure (.sl (p0.fTarget.map Ai)), .pure (.sl (p0.fTables.map Ao))])] [(3, r.1.map Af)] (.tup [.one (.own 0), .one (.pure (.val (.int .i64 r.2)))]) := by
 unfold Gx at h
 refine As (n := 73) (rs := [.tmp 2, .tmp 3]) Tryz.func18 rfl rfl rfl (A5 rfl) (A5 rfl) rfl fun w0 S0 => ?_
 refine Ab (Aa Ac rfl (qb rfl (qa rfl (qa rfl (Ad (Ab (Aa Ac rfl (qL D4 DQ rfl ?_))))))))
 obtain ⟨v1, a1, h⟩ := bind_some h
 refine AH [2001, 2002, 2003] (Ki N p0 v1 a1) VM rfl (qm rfl (qx rfl (qx rfl (qx rfl (qz CX rfl (qs Ax rfl (qa rfl (qa rfl (Ad (Ab ?_))))))))))
 refine AO h (fun v2 => mk [(1, .e (.one (.ptr 1 0))), (4, .e (.one (.ptr 4 0))), (6, .e (.one (.pure (.val (.int .i64 v1.2.2))))), (25, .e (.one (.pure (.val (.bool v2)))))] [(1, .box [.pure (.sl (p0.fVersions.map Ai)), .pure (.sl (p0.fNow.map Ai)), .pure (.sl (p0.fTarget.map Ai)), .pure (.sl (p0.fTables.map Ao))]), (4, .box [.own 2004, .own 2005, .own 2006]), (2004, .vec 1 (v1.1.fBase.map Ai)), (2005, .vec 1 (v1.1.fNext.map Ai)), (2006, .vec 1 (v1.1.fHeld.map Bb))]) (fun j2 h => ?_) (fun v2 h => ?_)
 ·refine Aa Ac rfl (qm rfl (Cw rfl (qm rfl ?_)))
  refine AE (t := 22) rfl (fun c3 => ?_) (fun c3 => ?_)
  ·have h := Am c3 h
   refine qn rfl (qn rfl (qp rfl (Ad ?_)))
   exact Au _ h (sm [(2004, 2001), (2005, 2002), (2006, 2003)] _ _ rfl rfl)
  ·have h := An c3 h
   refine qm rfl (Cp rfl (qp rfl (Ad ?_)))
   exact Au _ h (sm [(2004, 2001), (2005, 2002), (2006, 2003)] _ _ rfl rfl)
 ·refine Ap rfl (fun c4 => ?_) (fun c4 => ?_)
  ·have h := Am c4 h
   refine Ab (Aa Ac rfl (qm rfl (qa rfl (qa rfl (Ad ?_)))))
   obtain rfl := sj h
   refine Al ((Bf 2 2007 3 rfl rfl rfl).trans (sm [(1000, 2007)] [(2, .e (.one (.own 1000))), (3, .e (.one (.pure (.val (.int .i64 v1.2.2)))))] [(1000, .vec 3 ((([] : List Ae)).map Af))] rfl rfl)) (Az ?_)
   exact ⟨⟨[_, _], ⟨.tmp _ _ rfl, ⟨.tmp _ _ rfl, trivial⟩⟩, rfl⟩, ⟨rfl, trivial⟩⟩
  ·have h := An c4 h
   refine Ar (Ab (Aa Ac rfl (qL A1 Ax rfl (DC (Bc 2004 _ _ rfl rfl) (DC (Bc 2005 _ _ rfl rfl) (DC (Bc 2006 _ _ rfl rfl) (Ep AP Ax CX rfl (qa rfl (Ad (Ab (Aa Ac rfl ?_)))))))))))
   refine Q7 (.p rfl) rfl ?_
   refine qL A1 Ax rfl ?_
   obtain ⟨v5, a5, h⟩ := bind_some h
   refine AH [] (JP N v1.1 v5 a5) Uz rfl ?_
   refine Pq (kv := Value.string) (vt := tB) (m := ([] : List (ByteArray × Bool))) (k := v5) (v := true) rfl (.inr rfl) rfl rfl rfl rfl (Lt QB Uj) rfl ?_
   refine qm rfl (qa rfl (Ad (Ab (Ab (Aa Ac rfl (qa rfl (Ad ?_)))))))
   refine AJ (L := Fn N p0) h (fun v6 => mk [(1, .e (.one (.ptr 1 0))), (7, .e (.one (.own 2008))), (8, .e (.one (.mref 2009))), (9, .e (.one (.pure (.val (.int .i64 v6.2.2)))))] [(1, .box [.pure (.sl (p0.fVersions.map Ai)), .pure (.sl (p0.fNow.map Ai)), .pure (.sl (p0.fTarget.map Ai)), .pure (.sl (p0.fTables.map Ao))]), (2008, .vec 3 (v6.1.map Af)), (2009, .mp (IY Value.string tB v6.2.1))]) (fun v7 => mk [(7, .e (.one (.own 2010)))] [(2010, .vec 3 (v7.map Af))]) (fun _ _ => rfl) (sm [(2008, 28), (2009, 29)] _ _ rfl rfl) (fun j6 n6 v6 h => ?_) (fun v7 s h hs => ?_)
   ·unfold Fn at h
    refine Ab (Ab (Aa Ac rfl (qm rfl (qm rfl (DU AP rfl (A2 rfl (Ad ?_)))))))
    refine Ap rfl (fun c8 => ?_) (fun c8 => ?_)
    ·have h := Am c8 h
     refine Ar (Ab (AN (Ab (Aa Ac rfl (qL D4 DQ rfl (qm rfl (qm rfl ?_)))))))
     obtain ⟨v9, a9, b9, h⟩ := Aj h
     refine qI AP Ax a9 (Ah b9) rfl (qJ A1 Ax (Ah b9) rfl ?_)
     obtain ⟨v10, a10, h⟩ := bind_some h
     refine AH [2011, 2012] (KY N p0 v9 v10 a10) VB rfl (qm rfl (qx rfl (qx rfl (qa rfl (qa rfl (AM (by kernel_rfl) (Ab (Ab (Aa Ac rfl (qm rfl (DU AP rfl (qm rfl (Ad ?_)))))))))))))
     refine AJ (L := Fc N v10) h (fun v11 => mk [(1, .e (.one (.ptr 1 0))), (7, .e (.one (.own 2013))), (8, .e (.one (.mref 2014))), (9, .e (.one (.pure (.val (.int .i64 v6.2.2))))), (48, .e (.one (.own 2015))), (49, .e (.one (.pure (.val (.int .i64 ((v10.2.length : Int))))))), (50, .e (.one (.pure (.val (.int .i64 v11.2.2)))))] [(1, .box [.pure (.sl (p0.fVersions.map Ai)), .pure (.sl (p0.fNow.map Ai)), .pure (.sl (p0.fTarget.map Ai)), .pure (.sl (p0.fTables.map Ao))]), (2013, .vec 3 (v11.1.map Af)), (2014, .mp (IY Value.string tB v11.2.1)), (2015, .vec 3 (v10.2.map Af))]) (fun v12 => mk [(1, .e (.one (.ptr 1 0))), (7, .e (.one (.own 2016))), (8, .e (.one (.mref 2017))), (9, .e (.one (.pure (.val (.int .i64 v6.2.2)))))] [(1, .box [.pure (.sl (p0.fVersions.map Ai)), .pure (.sl (p0.fNow.map Ai)), .pure (.sl (p0.fTarget.map Ai)), .pure (.sl (p0.fTables.map Ao))]), (2016, .vec 3 (v12.1.map Af)), (2017, .mp (IY Value.string tB v12.2))]) (fun _ _ => rfl) (sm [(2013, 2008), (2014, 2009), (2015, 2012)] _ _ rfl rfl) (fun j11 n11 v11 h => ?_) (fun v12 s h hs => ?_)
     ·unfold Fc at h
      refine Ab (Aa Ac rfl (A2 rfl (Ad (Ab ?_))))
      refine Ap rfl (fun c13 => ?_) (fun c13 => ?_)
      ·have h := Am c13 h
       refine Ar ?_
       refine AO h (fun v14 => mk [(1, .e (.one (.ptr 1 0))), (7, .e (.one (.own 2018))), (8, .e (.one (.mref 2019))), (9, .e (.one (.pure (.val (.int .i64 v6.2.2))))), (48, .e (.one (.own 2020))), (49, .e (.one (.pure (.val (.int .i64 ((v10.2.length : Int))))))), (50, .e (.one (.pure (.val (.int .i64 v11.2.2)))))] [(1, .box [.pure (.sl (p0.fVersions.map Ai)), .pure (.sl (p0.fNow.map Ai)), .pure (.sl (p0.fTarget.map Ai)), .pure (.sl (p0.fTables.map Ao))]), (2018, .vec 3 (v14.1.map Af)), (2019, .mp (IY Value.string tB v14.2)), (2020, .vec 3 (v10.2.map Af))]) (fun j14 h => ?_) (fun v14 h => ?_)
       ·refine AN (Ab (Aa Ac rfl ?_))
        obtain ⟨v15, a15, b15, h⟩ := Aj h
        refine qI AP Ax a15 (Ah b15) rfl (qJ A1 Ax (Ah b15) rfl (qz CX rfl (qs Ax rfl (Ad (Ab (Aa Ac rfl (qm rfl (qL A1 Ax rfl ?_))))))))
        obtain ⟨v16, a16, h⟩ := bind_some h
        refine AH [] (JP N v15 v16 a16) Uz rfl ?_
        refine SB (kv := Value.string) (vt := tB) (m := v11.2.1) (dv := false) (.p rfl) rfl rfl rfl (Lt QB Uj) (by rw [QB]; rfl) SW rfl rfl rfl ?_
        refine Cp rfl (Ad ?_)
        refine Ap rfl (fun c17 => ?_) (fun c17 => ?_)
        ·have h := Am c17 h
         refine Ab (Aa Ac rfl (qm rfl (qL A1 Ax rfl ?_)))
         obtain ⟨v18, a18, h⟩ := bind_some h
         refine AH [] (JP N v15 v18 a18) Uz rfl ?_
         refine Pq (kv := Value.string) (vt := tB) (m := v11.2.1) (k := v18) (v := true) rfl (.inl rfl) rfl rfl rfl rfl (Lt QB Uj) rfl ?_
         refine Ad (Aa Ac rfl (qm rfl (qL A1 Ax rfl (Ep AP Ax CX rfl ?_))))
         obtain ⟨c19, h⟩ := AK h
         refine Dw (f := Af) AP AP Ax NU CX c19 rfl (qa rfl (Ad ?_))
         exact Au _ h (sm [(2018, 65), (2019, 2014), (2020, 2015)] _ _ rfl rfl)
        ·have h := An c17 h
         refine Ar ?_
         exact Au _ h (sm [(2018, 2013), (2019, 2014), (2020, 2015)] _ _ rfl rfl)
       ·refine Aa Ac rfl (AY rfl (qm rfl (Ad ?_)))
        exact Au _ h (sm [(2013, 2018), (2014, 2019), (2015, 2020)] _ _ rfl rfl)
      ·have h := An c13 h
       refine AX ?_
       exact Au _ h (sm [(2016, 2013), (2017, 2014)] _ _ rfl rfl)
     ·refine Al hs (Ab (Aa Ac rfl (qm rfl (DU AP rfl (Fw rfl (Ad ?_))))))
      refine Ap rfl (fun c20 => ?_) (fun c20 => ?_)
      ·have h := Am c20 h
       refine Ab (Aa Ac rfl (qa rfl (qa rfl (Ad ?_))))
       obtain rfl := sj h
       refine Al ((Bf 2 2021 3 rfl rfl rfl).trans (sm [(1000, 2021)] [(2, .e (.one (.own 1000))), (3, .e (.one (.pure (.val (.int .i64 3)))))] [(1000, .vec 3 ((([] : List Ae)).map Af))] rfl rfl)) (Az ?_)
       exact ⟨⟨[_, _], ⟨.tmp _ _ rfl, ⟨.tmp _ _ rfl, trivial⟩⟩, rfl⟩, ⟨rfl, trivial⟩⟩
      ·have h := An c20 h
       refine Ar (Aa Ac rfl (qm rfl (AY rfl (qa rfl (Ad ?_)))))
       exact Au _ h (sm [(2008, 2016), (2009, 2017)] _ _ rfl rfl)
    ·have h := An c8 h
     refine AX ?_
     exact Au _ h (sm [(2010, 2008)] _ _ rfl rfl)
   ·refine Al hs (Ab (Aa Ac rfl (qm rfl ?_)))
    obtain ⟨v21, a21, h⟩ := bind_some h
    refine Dg (ds0 := [_, _]) [2010] [] [true] (BI.weak (ds' := [_, .e (.one (.fnc 39))]) (EV N v7 ((fun (x : Ae × Ae) => EN N x.1 x.2)) v21 a21) ⟨(fun _ _ _ hh => hh), (fun _ _ _ hh => MI Us (fun ar t ht => by obtain ⟨x, r, rfl, hq, rfl⟩ := I4 ht; exact IJ N x.1 x.2 r hq) hh), trivial⟩) (.p rfl) Vc rfl ⟨rfl, rfl, trivial⟩ rfl rfl (by decide) ⟨rfl, trivial⟩ rfl (Bi rfl) trivial ⟨(fun h => by cases h), trivial⟩ rfl rfl rfl ?_
    refine Ad (Ab (Aa Ac rfl (qm rfl (qa rfl (qa rfl (Ad ?_))))))
    obtain rfl := sj h
    refine Al (sm [(1000, 2010)] [(2, .e (.one (.own 1000))), (3, .e (.one (.pure (.val (.int .i64 0)))))] [(1000, .vec 3 (v21.map Af))] rfl rfl) (Az ?_)
    exact ⟨⟨[_, _], ⟨.tmp _ _ rfl, ⟨.tmp _ _ rfl, trivial⟩⟩, rfl⟩, ⟨rfl, trivial⟩⟩
set_option maxRecDepth 10000 in
theorem Kz (N : Nat) (p0 : Ag) (p1 : List Int) (r : (List Ak) × Int) (h : FB N p0 p1 = some r) : AC Tryz.prog 20 [.e (.agg [.pure (.sl (p0.fVersions.map Ai)), .pure (.sl (p0.fNow.map Ai)), .pure (.sl (p0.fTarget.map Ai)), .pure (.sl (p0.fTables.map Ao))]), .e (.one (.pure (.sl (p1.map Bb))))] [(3, r.1.map AD)] (.tup [.one (.own 0), .one (.pure (.val (.int .i64 r.2)))]) := by
 unfold FB at h
 refine As (n := 61) (rs := [.tmp 4, .tmp 5]) Tryz.func20 rfl rfl rfl (A5 rfl) (A5 rfl) rfl fun w0 S0 => ?_
 refine Ab (Aa Ac rfl (qb rfl (qa rfl (qa rfl (Ad (Ab (Aa Ac rfl (qL D4 DQ rfl ?_))))))))
 obtain ⟨v1, a1, h⟩ := bind_some h
 refine AH [2001, 2002, 2003] (Ki N p0 v1 a1) VM rfl (qm rfl (qx rfl (qx rfl (qx rfl (qz CX rfl (qs Ax rfl (qa rfl (qa rfl (Ad (Ab ?_))))))))))
 refine AO h (fun v2 => mk [(1, .e (.one (.pure (.sl (p1.map Bb))))), (2, .e (.one (.ptr 2 0))), (6, .e (.one (.ptr 6 0))), (8, .e (.one (.pure (.val (.int .i64 v1.2.2))))), (26, .e (.one (.pure (.val (.bool v2)))))] [(2, .box [.pure (.sl (p0.fVersions.map Ai)), .pure (.sl (p0.fNow.map Ai)), .pure (.sl (p0.fTarget.map Ai)), .pure (.sl (p0.fTables.map Ao))]), (6, .box [.own 2004, .own 2005, .own 2006]), (2004, .vec 1 (v1.1.fBase.map Ai)), (2005, .vec 1 (v1.1.fNext.map Ai)), (2006, .vec 1 (v1.1.fHeld.map Bb))]) (fun j2 h => ?_) (fun v2 h => ?_)
 ·refine Aa Ac rfl (qm rfl (Cw rfl (qm rfl ?_)))
  refine AE (t := 23) rfl (fun c3 => ?_) (fun c3 => ?_)
  ·have h := Am c3 h
   refine qn rfl (qn rfl (qp rfl (Ad ?_)))
   exact Au _ h (sm [(2004, 2001), (2005, 2002), (2006, 2003)] _ _ rfl rfl)
  ·have h := An c3 h
   refine qm rfl (Cp rfl (qp rfl (Ad ?_)))
   exact Au _ h (sm [(2004, 2001), (2005, 2002), (2006, 2003)] _ _ rfl rfl)
 ·refine Ap rfl (fun c4 => ?_) (fun c4 => ?_)
  ·have h := Am c4 h
   refine Ab (Aa Ac rfl (qm rfl (qa rfl (qa rfl (Ad ?_)))))
   obtain rfl := sj h
   refine Al ((Bf 4 2007 3 rfl rfl rfl).trans (sm [(1000, 2007)] [(4, .e (.one (.own 1000))), (5, .e (.one (.pure (.val (.int .i64 v1.2.2)))))] [(1000, .vec 3 ((([] : List Ak)).map AD))] rfl rfl)) (Az ?_)
   exact ⟨⟨[_, _], ⟨.tmp _ _ rfl, ⟨.tmp _ _ rfl, trivial⟩⟩, rfl⟩, ⟨rfl, trivial⟩⟩
  ·have h := An c4 h
   refine Ar (Ab (Aa Ac rfl (qa rfl (Ad (Ab (Ab (Aa Ac rfl (qm rfl (AZ Gw rfl (qm rfl (Ad ?_)))))))))))
   refine AJ (L := EH N p0 p1) h (fun v5 => mk [(2, .e (.one (.ptr 2 0))), (6, .e (.one (.ptr 6 0))), (9, .e (.one (.own 2008))), (28, .e (.one (.pure (.sl (p1.map Bb))))), (29, .e (.one (.pure (.val (.int .i64 ((p1.length : Int))))))), (30, .e (.one (.pure (.val (.int .i64 v5.2.2.2.2)))))] [(2, .box [.pure (.sl (p0.fVersions.map Ai)), .pure (.sl (p0.fNow.map Ai)), .pure (.sl (p0.fTarget.map Ai)), .pure (.sl (p0.fTables.map Ao))]), (6, .box [.pure (.sl (v5.1.map Ai)), .pure (.sl (v5.2.1.map Ai)), .pure (.sl (v5.2.2.1.map Bb))]), (2008, .vec 3 (v5.2.2.2.1.map AD))]) (fun v6 => mk [(9, .e (.one (.own 2009)))] [(2009, .vec 3 (v6.map AD))]) (fun _ _ => rfl) ((Bf 9 2012 3 rfl rfl rfl).trans ((Bc 2004 _ _ rfl rfl).trans ((Bc 2005 _ _ rfl rfl).trans ((Bc 2006 _ _ rfl rfl).trans (sm [(2008, 2012)] _ _ rfl rfl))))) (fun j5 n5 v5 h => ?_) (fun v6 s h hs => ?_)
   ·unfold EH at h
    refine Ab (Aa Ac rfl (A2 rfl (Ad (Ab ?_))))
    refine Ap rfl (fun c7 => ?_) (fun c7 => ?_)
    ·have h := Am c7 h
     refine Ar (Ab (AN (Ab (Aa Ac rfl ?_))))
     obtain ⟨v8, a8, b8, h⟩ := Aj h
     refine qi Gw R2 a8 (Ah b8) rfl (qk US rfl (qa rfl (Ad (Ab (Aa Ac rfl (qL D4 DQ rfl (qL A1 Ax rfl ?_)))))))
     obtain ⟨v9, a9, h⟩ := bind_some h
     refine AH [2010, 2011] (KY N p0 ((Ae.mk v5.1 v5.2.1 v5.2.2.1)) v9 a9) VB rfl (qm rfl (qx rfl (qx rfl (qa rfl (qa rfl (Ad (Ab (Ab (Aa Ac rfl (qm rfl (DU CL rfl (BK rfl (Ad ?_)))))))))))))
     refine Ap rfl (fun c10 => ?_) (fun c10 => ?_)
     ·have h := Am c10 h
      refine AX ?_
      exact Au _ h (sm [(2009, 2008)] _ _ rfl rfl)
     ·have h := An c10 h
      refine Ar (Ab (Aa Ac rfl (qm rfl (GT SP Ri rfl (qm rfl (DU CL rfl ?_))))))
      obtain ⟨c11, h⟩ := AK h
      refine JN rfl c11 (qa rfl (Ad (Aa Ac rfl (qm rfl (qm rfl (qm rfl ?_))))))
      obtain ⟨v12, a12, b12, h⟩ := Aj h
      refine qI CL DE a12 (Ah b12) rfl (qJ Ht DE (Ah b12) rfl (Ep CL DE Hi rfl ?_))
      obtain ⟨c13, h⟩ := AK h
      refine Dw (f := AD) CL CL DE LI Hi c13 rfl (qm rfl (qm rfl ?_))
      obtain ⟨v14, a14, b14, h⟩ := Aj h
      refine qI AP Ax a14 (Ah b14) rfl (qJ A1 Ax (Ah b14) rfl (qa rfl (qs Ax rfl (AM (by kernel_rfl) (Aa Ac rfl (AY rfl (qm rfl (Ad ?_))))))))
      exact Au _ h (sm [(2008, 54)] _ _ rfl rfl)
    ·have h := An c7 h
     refine AX ?_
     exact Au _ h (sm [(2009, 2008)] _ _ rfl rfl)
   ·refine Al hs (Ab (Aa Ac rfl (qm rfl (qa rfl (qa rfl (Ad ?_))))))
    obtain rfl := sj h
    refine Al (sm [(1000, 2009)] [(4, .e (.one (.own 1000))), (5, .e (.one (.pure (.val (.int .i64 0)))))] [(1000, .vec 3 (v6.map AD))] rfl rfl) (Az ?_)
    exact ⟨⟨[_, _], ⟨.tmp _ _ rfl, ⟨.tmp _ _ rfl, trivial⟩⟩, rfl⟩, ⟨rfl, trivial⟩⟩
set_option maxRecDepth 10000 in
theorem PW (N : Nat) (p0 : Ag) (p1 : Ae) (p2 : List Ak) (r : (List Ae) × Int × Int) (h : HG N p0 p1 p2 = some r) : AC Tryz.prog 56 [.e (.agg [.pure (.sl (p0.fVersions.map Ai)), .pure (.sl (p0.fNow.map Ai)), .pure (.sl (p0.fTarget.map Ai)), .pure (.sl (p0.fTables.map Ao))]), .e (.agg [.pure (.sl (p1.fBase.map Ai)), .pure (.sl (p1.fNext.map Ai)), .pure (.sl (p1.fHeld.map Bb))]), .e (.one (.pure (.sl (p2.map AD))))] [(3, r.1.map Af)] (.tup [.one (.own 0), .one (.pure (.val (.int .i64 r.2.1))), .one (.pure (.val (.int .i64 r.2.2)))]) := by
 unfold HG at h
 refine As (n := 53) (rs := [.tmp 6, .tmp 7, .tmp 8]) Tryz.func56 rfl rfl rfl (A5 rfl) (A5 rfl) rfl fun w0 S0 => ?_
 refine Ab (Aa Ac rfl (qb rfl (qb rfl (qa rfl (qa rfl (qa rfl (Ad (Ab (Ab (Aa Ac rfl (qL D4 DQ rfl (qL A1 Ax rfl ?_))))))))))))
 obtain ⟨v1, a1, h⟩ := bind_some h
 refine AH [] (Iq N p0 p1 v1 a1) TF rfl (qa rfl (Ad (Ab (Aa Ac rfl (qm rfl (Cw rfl (Ad ?_)))))))
 refine Ap rfl (fun c2 => ?_) (fun c2 => ?_)
 ·have h := Am c2 h
  refine Ab (Aa Ac rfl (qm rfl (qa rfl (qa rfl (qa rfl (Ad ?_))))))
  obtain rfl := sj h
  refine Al ((Bf 6 2001 3 rfl rfl rfl).trans (sm [(1000, 2001)] [(6, .e (.one (.own 1000))), (7, .e (.one (.pure (.val (.int .i64 0))))), (8, .e (.one (.pure (.val (.int .i64 v1)))))] [(1000, .vec 3 ((([] : List Ae)).map Af))] rfl rfl)) (Az ?_)
  exact ⟨⟨[_, _, _], ⟨.tmp _ _ rfl, ⟨.tmp _ _ rfl, ⟨.tmp _ _ rfl, trivial⟩⟩⟩, rfl⟩, ⟨rfl, trivial⟩⟩
 ·have h := An c2 h
  refine Ar (Ab (Aa Ac rfl (qL A1 Ax rfl ?_)))
  obtain ⟨v3, a3, h⟩ := bind_some h
  refine AH [2002, 2003, 2004] (Ke N p1 v3 a3) U8 rfl (DC (Bc 2002 _ _ rfl rfl) (DC (Bc 2003 _ _ rfl rfl) (DC (Bc 2004 _ _ rfl rfl) (Ep AP Ax CX rfl (qa rfl (Ad (Ab (Ab (Aa Ac rfl (qm rfl (AZ CL rfl (qm rfl (Ad ?_)))))))))))))
  refine AJ (L := Fj N p0 p2) h (fun v4 => mk [(2, .e (.one (.pure (.sl (p2.map AD))))), (3, .e (.one (.ptr 3 0))), (10, .e (.one (.own 2005))), (24, .e (.one (.pure (.sl (p2.map AD))))), (25, .e (.one (.pure (.val (.int .i64 ((p2.length : Int))))))), (26, .e (.one (.pure (.val (.int .i64 v4.2)))))] [(3, .box [.pure (.sl (p0.fVersions.map Ai)), .pure (.sl (p0.fNow.map Ai)), .pure (.sl (p0.fTarget.map Ai)), .pure (.sl (p0.fTables.map Ao))]), (2005, .vec 3 (v4.1.map Af))]) (fun v5 => mk [(2, .e (.one (.pure (.sl (p2.map AD))))), (10, .e (.one (.own 2006)))] [(2006, .vec 3 (v5.map Af))]) (fun _ _ => rfl) (sm [(2005, 23)] _ _ rfl rfl) (fun j4 n4 v4 h => ?_) (fun v5 s h hs => ?_)
  ·unfold Fj at h
   refine Ab (Aa Ac rfl (A2 rfl (Ad (Ab ?_))))
   refine Ap rfl (fun c6 => ?_) (fun c6 => ?_)
   ·have h := Am c6 h
    refine Ar (Ab (AN (Ab (Aa Ac rfl (qm rfl ?_)))))
    obtain ⟨v7, a7, b7, h⟩ := Aj h
    refine qi CL DE a7 (Ah b7) rfl (qK Ht DE rfl (qz Hi rfl (qa rfl (qs DE rfl (Ad (Ab (Aa Ac rfl (qL D4 DQ rfl (qm rfl (qm rfl ?_))))))))))
    obtain ⟨v8, a8, b8, h⟩ := Aj h
    refine qI AP Ax a8 (Ah b8) rfl (qJ A1 Ax (Ah b8) rfl (qL Ht DE rfl ?_))
    obtain ⟨v9, a9, h⟩ := bind_some h
    refine AH [2007, 2008, 2009] (K8 N p0 v8 v7 v9 a9) U5 rfl (qm rfl (qx rfl (qx rfl (qz CX rfl (qs Ax rfl (qa rfl (AM (by kernel_rfl) (Ab (Ab (Aa Ac rfl (qm rfl (Cw rfl (Ad ?_)))))))))))))
    refine Ap rfl (fun c10 => ?_) (fun c10 => ?_)
    ·have h := Am c10 h
     refine Ab (Aa Ac rfl (qm rfl (qm rfl (qa rfl (qa rfl (qa rfl (Ad ?_)))))))
     obtain rfl := sj h
     refine Al ((Bf 6 2010 3 rfl rfl rfl).trans (sm [(1000, 2010)] [(6, .e (.one (.own 1000))), (7, .e (.one (.pure (.val (.int .i64 v4.2))))), (8, .e (.one (.pure (.val (.int .i64 v9.2)))))] [(1000, .vec 3 ((([] : List Ae)).map Af))] rfl rfl)) (Az ?_)
     exact ⟨⟨[_, _, _], ⟨.tmp _ _ rfl, ⟨.tmp _ _ rfl, ⟨.tmp _ _ rfl, trivial⟩⟩⟩, rfl⟩, ⟨rfl, trivial⟩⟩
    ·have h := An c10 h
     refine Ar (Aa Ac rfl (qm rfl (qL A1 Ax rfl (DC (Bc 2007 _ _ rfl rfl) (DC (Bc 2008 _ _ rfl rfl) (DC (Bc 2009 _ _ rfl rfl) (Ep AP Ax CX rfl ?_)))))))
     obtain ⟨c11, h⟩ := AK h
     refine Dw (f := Af) AP AP Ax NU CX c11 rfl (qa rfl (Ad (Aa Ac rfl (AY rfl (qm rfl (Ad ?_))))))
     exact Au _ h (sm [(2005, 48)] _ _ rfl rfl)
   ·have h := An c6 h
    refine AX ?_
    exact Au _ h (sm [(2006, 2005)] _ _ rfl rfl)
  ·refine Al hs (Ab (Aa Ac rfl (qm rfl (qm rfl (AZ CL rfl (qa rfl (qa rfl (qa rfl (Ad ?_)))))))))
   obtain rfl := sj h
   refine Al (sm [(1000, 2006)] [(6, .e (.one (.own 1000))), (7, .e (.one (.pure (.val (.int .i64 ((p2.length : Int))))))), (8, .e (.one (.pure (.val (.int .i64 0)))))] [(1000, .vec 3 (v5.map Af))] rfl rfl) (Az ?_)
   exact ⟨⟨[_, _, _], ⟨.tmp _ _ rfl, ⟨.tmp _ _ rfl, ⟨.tmp _ _ rfl, trivial⟩⟩⟩, rfl⟩, ⟨rfl, trivial⟩⟩
set_option maxRecDepth 10000 in
theorem LN (N : Nat) (p0 : Ag) (p1 : List Ak) (r : (List Ae) × Int × Int) (h : Ge N p0 p1 = some r) : AC Tryz.prog 36 [.e (.agg [.pure (.sl (p0.fVersions.map Ai)), .pure (.sl (p0.fNow.map Ai)), .pure (.sl (p0.fTarget.map Ai)), .pure (.sl (p0.fTables.map Ao))]), .e (.one (.pure (.sl (p1.map AD))))] [(3, r.1.map Af)] (.tup [.one (.own 0), .one (.pure (.val (.int .i64 r.2.1))), .one (.pure (.val (.int .i64 r.2.2)))]) := by
 unfold Ge at h
 refine As (n := 24) (rs := [.tmp 4, .tmp 5, .tmp 6]) Tryz.func36 rfl rfl rfl (A5 rfl) (A5 rfl) rfl fun w0 S0 => ?_
 refine Ab (Aa Ac rfl (qb rfl (qa rfl (qa rfl (qa rfl (Ad (Ab (Aa Ac rfl (qL D4 DQ rfl ?_)))))))))
 obtain ⟨v1, a1, h⟩ := bind_some h
 refine AH [2001, 2002, 2003] (LO N p0 v1 a1) VE rfl (qm rfl (qx rfl (qx rfl (qz CX rfl (qs Ax rfl (qa rfl (Ad (Ab (Ab (Aa Ac rfl (qm rfl (Cw rfl (Ad ?_)))))))))))))
 refine Ap rfl (fun c2 => ?_) (fun c2 => ?_)
 ·have h := Am c2 h
  refine Ab (Aa Ac rfl (qm rfl (qa rfl (qa rfl (qa rfl (Ad ?_))))))
  obtain rfl := sj h
  refine Al ((Bf 4 2004 3 rfl rfl rfl).trans (sm [(1000, 2004)] [(4, .e (.one (.own 1000))), (5, .e (.one (.pure (.val (.int .i64 0))))), (6, .e (.one (.pure (.val (.int .i64 v1.2)))))] [(1000, .vec 3 ((([] : List Ae)).map Af))] rfl rfl)) (Az ?_)
  exact ⟨⟨[_, _, _], ⟨.tmp _ _ rfl, ⟨.tmp _ _ rfl, ⟨.tmp _ _ rfl, trivial⟩⟩⟩, rfl⟩, ⟨rfl, trivial⟩⟩
 ·have h := An c2 h
  refine Ar (Ab (Aa Ac rfl (qL D4 DQ rfl (qL A1 Ax rfl (qm rfl (DC (Bc 2001 _ _ rfl rfl) (DC (Bc 2002 _ _ rfl rfl) (DC (Bc 2003 _ _ rfl rfl) ?_))))))))
  obtain ⟨v3, a3, h⟩ := bind_some h
  refine AH [2005] (PW N p0 v1.1 p1 v3 a3) WG rfl (qx rfl (qx rfl (qx rfl (qa rfl (qa rfl (qa rfl (Ad ?_)))))))
  obtain rfl := sj h
  refine Al (sm [(1000, 2005)] [(4, .e (.one (.own 1000))), (5, .e (.one (.pure (.val (.int .i64 v3.2.1))))), (6, .e (.one (.pure (.val (.int .i64 v3.2.2)))))] [(1000, .vec 3 (v3.1.map Af))] rfl rfl) (Az ?_)
  exact ⟨⟨[_, _, _], ⟨.tmp _ _ rfl, ⟨.tmp _ _ rfl, ⟨.tmp _ _ rfl, trivial⟩⟩⟩, rfl⟩, ⟨rfl, trivial⟩⟩
set_option maxRecDepth 10000 in
theorem Gg (N : Nat) (p0 : List Ae) (p1 : (Ae × Ae) → Option Bool) (r : Nat × (List Ae)) (h : Dd N p0 p1 = some r) : BI Tryz.prog 40 [.e (.one (.own 90000)), .e (.one (.clo (B0 (EB true Af true Af) tB p1)))] [(.vec 3 (p0.map Af), .vec 3 (r.2.map Af))] [] (.e (.one (.view 90000 3 0 r.1))) := by
 unfold Dd at h
 refine Bx (n := 66) (rs := [.tmp 4]) Tryz.func40 rfl rfl rfl (A5 rfl) (A5 rfl) rfl rfl (A5 rfl) rfl (A5 rfl) fun w0 S0 GL => ?_
 refine Al (sm [] [(0, .e (.one (.own 90000))), (1, .e (.one (.clo (B0 (EB true Af true Af) tB p1))))] [(90000, .vec 3 (p0.map Af))] rfl rfl) (Ab (Aa Ac rfl (qa rfl (Ad (Ab (Ab (Aa Ac rfl (qm rfl (DU AP rfl (A2 rfl (Ad ?_)))))))))))
 refine Ap rfl (fun c1 => ?_) (fun c1 => ?_)
 ·have h := Am c1 h
  refine Ab (Aa Ac rfl (qm rfl (qa rfl (Ad ?_))))
  obtain rfl := sj h
  refine Al ((OR Af p0 4 90000 3 rfl rfl).trans (sm [] [(4, .e (.one (.view 90000 3 0 p0.length)))] [(90000, .vec 3 (p0.map Af))] rfl rfl)) (Az ?_)
  exact ⟨⟨[_], ⟨.tmp _ _ rfl, trivial⟩, rfl⟩, ⟨rfl, trivial⟩, trivial⟩
 ·have h := An c1 h
  refine Ar (Ab (Ab (Aa Ac rfl (qa rfl (Ad ?_)))))
  refine AJ (L := B7 N p0 p1) h (fun v2 => mk [(0, .e (.one (.own 90000))), (1, .e (.one (.clo (B0 (EB true Af true Af) tB p1)))), (5, .e (.one (.pure (.val (.int .i64 v2)))))] [(90000, .vec 3 (p0.map Af))]) (fun v3 => mk [(0, .e (.one (.own 90000)))] [(90000, .vec 3 (p0.map Af))]) (fun _ _ => rfl) (sm [] _ _ rfl rfl) (fun j2 n2 v2 h => ?_) (fun v3 s h hs => ?_)
  ·unfold B7 at h
   refine Ab (Ab (Aa Ac rfl (qm rfl (qm rfl (DU AP rfl (A2 rfl (Ad ?_)))))))
   refine Ap rfl (fun c4 => ?_) (fun c4 => ?_)
   ·have h := Am c4 h
    refine Ar (Ab (AN (Ab (Aa Ac rfl (qm rfl (qm rfl (qm rfl ?_)))))))
    obtain ⟨v5, a5, b5, h⟩ := Aj h
    refine qI AP Ax a5 (Ah b5) rfl (qJ A1 Ax (Ah b5) rfl (qm rfl (qm rfl (CQ rfl ?_))))
    obtain ⟨v6, a6, b6, h⟩ := Aj h
    refine qI AP Ax a6 (Ah b6) rfl (qJ A1 Ax (Ah b6) rfl ?_)
    obtain ⟨v7, a7, h⟩ := bind_some h
    refine EE (ds0 := [_, _]) (ar := (EB true Af true Af) ((v5, v6))) (.p rfl) rfl rfl ⟨rfl, rfl, trivial⟩ rfl rfl rfl (ED (Fb _ _ _ _ Br Br) a7) ?_
    refine AM (by kernel_rfl) ?_
    refine Ap rfl (fun c8 => ?_) (fun c8 => ?_)
    ·have h := Am c8 h
     refine Ab (Aa Ac rfl (qm rfl (qm rfl ?_)))
     obtain ⟨c9, h⟩ := AK h
     have w10 : ((v2).toNat) + ((p0.length - (v2).toNat)) ≤ p0.length := by have := c9.2.1; have := c9.2.2; omega
     refine Ie Af p0 (.p rfl) rfl (HB Af _ _ p0) rfl AP Ax (.some _ _ _ _ c9.1) (.none _) ⟨rfl, trivial⟩ trivial c9.2.1 (by rw [Nat.zero_add]; exact c9.2.2) (Nat.zero_add _) rfl ?_
     refine qa rfl (Ad (Ab (Ab (Aa Ac rfl (qa rfl (Ad ?_))))))
     refine AJ (L := B1 N p0 p1 v2) h (fun v11 => mk [(0, .e (.one (.own 90000))), (1, .e (.one (.clo (B0 (EB true Af true Af) tB p1)))), (5, .e (.one (.pure (.val (.int .i64 v11.2.1))))), (6, .e (.one (.view 90000 3 ((v2).toNat) ((p0.length - (v2).toNat))))), (7, .e (.one (.pure (.val (.int .i64 v11.2.2)))))] [(90000, .vec 3 (v11.1.map Af))]) (fun v12 => mk [(0, .e (.one (.own 90000))), (5, .e (.one (.pure (.val (.int .i64 v12.2)))))] [(90000, .vec 3 (v12.1.map Af))]) (fun _ _ => rfl) (sm [] _ _ rfl rfl) (fun j11 n11 v11 h => ?_) (fun v12 s h hs => ?_)
     ·unfold B1 at h
      refine Ab (Ab (Aa Ac rfl (qm rfl (qm rfl ?_))))
      refine TC (.p rfl) rfl AP ?_
      refine A2 rfl (Ad ?_)
      refine Ap rfl (fun c13 => ?_) (fun c13 => ?_)
      ·have h := Am c13 h
       refine Ar ?_
       refine AO h (fun v14 => mk [(0, .e (.one (.own 90000))), (1, .e (.one (.clo (B0 (EB true Af true Af) tB p1)))), (5, .e (.one (.pure (.val (.int .i64 v14.2))))), (6, .e (.one (.view 90000 3 ((v2).toNat) ((p0.length - (v2).toNat))))), (7, .e (.one (.pure (.val (.int .i64 v11.2.2)))))] [(90000, .vec 3 (v14.1.map Af))]) (fun j14 h => ?_) (fun v14 h => ?_)
       ·refine AN (Ab (Aa Ac rfl (qm rfl (qm rfl (qm rfl ?_)))))
        obtain ⟨c16, h⟩ := AK h
        obtain ⟨v15, a15, b15, h⟩ := Aj h
        refine Lv Af v11.1 (.p rfl) rfl c16 rfl rfl AP Ax a15 (I3 b15).1 rfl ?_
        refine K7 (.p rfl) rfl A1 Ax rfl (Ah (I3 b15).2) ?_
        refine qm rfl (qm rfl (CQ rfl ?_))
        obtain ⟨v17, a17, b17, h⟩ := Aj h
        refine Lv Af v11.1 (.p rfl) rfl c16 rfl rfl AP Ax a17 (I3 b17).1 rfl ?_
        refine K7 (.p rfl) rfl A1 Ax rfl (Ah (I3 b17).2) ?_
        obtain ⟨v18, a18, h⟩ := bind_some h
        refine EE (ds0 := [_, _]) (ar := (EB true Af true Af) ((v15, v17))) (.p rfl) rfl rfl ⟨rfl, rfl, trivial⟩ rfl rfl rfl (ED (Fb _ _ _ _ Br Br) a18) ?_
        refine Cp rfl (AM (by kernel_rfl) ?_)
        refine Ap rfl (fun c19 => ?_) (fun c19 => ?_)
        ·have h := Am c19 h
         refine Ab (Aa Ac rfl (qm rfl (qm rfl (qm rfl (qm rfl ?_)))))
         obtain ⟨v20, a20, b20, h⟩ := Aj h
         refine Lv Af v11.1 (.p rfl) rfl c16 rfl rfl AP Ax a20 (I3 b20).1 rfl ?_
         refine K7 (.p rfl) rfl A1 Ax rfl (Ah (I3 b20).2) ?_
         obtain ⟨v21, a21, b21, h⟩ := Aj h
         refine qI AP Ax a21 (Ah b21) rfl ?_
         refine A7 rfl rfl rfl rfl (Ah b21) rfl Ax rfl (A5 rfl) (A8 Af v11.1 _ v20) ?_
         refine Ad (Aa Ac rfl (qm rfl (AY rfl (qa rfl (Ad ?_)))))
         exact Au _ h (sm [] _ _ rfl rfl)
        ·have h := An c19 h
         refine Ar ?_
         exact Au _ h (sm [] _ _ rfl rfl)
       ·refine Aa Ac rfl (qm rfl (AY rfl (qa rfl (Ad ?_))))
        exact Au _ h (sm [] _ _ rfl rfl)
      ·have h := An c13 h
       refine AX ?_
       exact Au _ h (sm [] _ _ rfl rfl)
     ·refine Al hs (Ab (Aa Ac rfl (qm rfl (qm rfl ?_))))
      obtain ⟨c22, h⟩ := AK h
      have w23 : ((v12.2).toNat) + ((v12.1.length - (v12.2).toNat)) ≤ v12.1.length := by have := c22.2.1; have := c22.2.2; omega
      refine Ie Af v12.1 (.p rfl) rfl (HB Af _ _ v12.1) rfl AP Ax (.some _ _ _ _ c22.1) (.none _) ⟨rfl, trivial⟩ trivial c22.2.1 (by rw [Nat.zero_add]; exact c22.2.2) (Nat.zero_add _) rfl ?_
      have w24 : (HU v12.1 ((v12.2).toNat) (List.replicate ((v12.1.length - (v12.2).toNat)) ((Ae.mk (([] : List Int)) (([] : List Int)) (([] : List Int)))))).length = v12.1.length := Ib (by rw [List.length_replicate]; exact w23)
      refine O9 Af v12.1 ((Ae.mk (([] : List Int)) (([] : List Int)) (([] : List Int)))) rfl rfl (Lo Af _ _ ((v12.2).toNat) ((v12.1.length - (v12.2).toNat)) v12.1 w23) rfl AP CX rfl rfl rfl rfl ?_
      refine Ad (Ab (Aa Ac rfl (qm rfl (qm rfl ?_))))
      obtain ⟨c25, h⟩ := AK h
      have w26 : 0 + ((v12.2).toNat) ≤ (HU v12.1 ((v12.2).toNat) (List.replicate ((v12.1.length - (v12.2).toNat)) ((Ae.mk (([] : List Int)) (([] : List Int)) (([] : List Int)))))).length := by have := c25.2.1; have := c25.2.2; omega
      refine Ie Af (HU v12.1 ((v12.2).toNat) (List.replicate ((v12.1.length - (v12.2).toNat)) ((Ae.mk (([] : List Int)) (([] : List Int)) (([] : List Int)))))) (.p rfl) rfl (HB Af _ _ (HU v12.1 ((v12.2).toNat) (List.replicate ((v12.1.length - (v12.2).toNat)) ((Ae.mk (([] : List Int)) (([] : List Int)) (([] : List Int))))))) rfl AP Ax (.none _) (.some _ _ _ _ c25.1) trivial ⟨rfl, trivial⟩ c25.2.1 (by rw [Nat.zero_add]; exact c25.2.2) (Nat.zero_add _) rfl ?_
      refine qa rfl (Ad ?_)
      obtain rfl := sj h
      refine Al (sm [] [(4, .e (.one (.view 90000 3 0 ((v12.2).toNat))))] [(90000, .vec 3 ((HU v12.1 ((v12.2).toNat) (List.replicate ((v12.1.length - (v12.2).toNat)) ((Ae.mk (([] : List Int)) (([] : List Int)) (([] : List Int)))))).map Af))] rfl rfl) (Az ?_)
      exact ⟨⟨[_], ⟨.tmp _ _ rfl, trivial⟩, rfl⟩, ⟨rfl, trivial⟩, trivial⟩
    ·have h := An c8 h
     refine Ar (Aa Ac rfl (qm rfl (AY rfl (qa rfl (Ad ?_)))))
     exact Au _ h (sm [] _ _ rfl rfl)
   ·have h := An c4 h
    refine AX ?_
    exact Au _ h (sm [] _ _ rfl rfl)
  ·refine Al hs (Ab (Aa Ac rfl (qm rfl (qa rfl (Ad ?_)))))
   obtain rfl := sj h
   refine Al ((OR Af p0 4 90000 3 rfl rfl).trans (sm [] [(4, .e (.one (.view 90000 3 0 p0.length)))] [(90000, .vec 3 (p0.map Af))] rfl rfl)) (Az ?_)
   exact ⟨⟨[_], ⟨.tmp _ _ rfl, trivial⟩, rfl⟩, ⟨rfl, trivial⟩, trivial⟩
set_option maxRecDepth 10000 in
theorem L5 (N : Nat) (p0 : Ae) (p1 : Ae) (r : Bool) (h : F7 N p0 p1 = some r) : AC Tryz.prog 41 [.e (.agg [.pure (.sl (p0.fBase.map Ai)), .pure (.sl (p0.fNext.map Ai)), .pure (.sl (p0.fHeld.map Bb))]), .e (.agg [.pure (.sl (p1.fBase.map Ai)), .pure (.sl (p1.fNext.map Ai)), .pure (.sl (p1.fHeld.map Bb))])] [] (.e (.one (.pure (.val (.bool r))))) := by
 unfold F7 at h
 refine As (n := 9) (rs := [.tmp 4]) Tryz.func41 rfl rfl rfl (A5 rfl) (A5 rfl) rfl fun w0 S0 => ?_
 refine Ab (Aa Ac rfl (qb rfl (qb rfl (qa rfl (Ad (Ab (Aa Ac rfl (qL A1 Ax rfl (qL A1 Ax rfl ?_)))))))))
 obtain ⟨v1, a1, h⟩ := bind_some h
 refine AH [] (IJ N p0 p1 v1 a1) Us rfl (BK rfl (qa rfl (Ad ?_)))
 obtain rfl := sj h
 refine Al (sm [] [(4, .e (.one (.pure (.val (.bool ((v1 == 0)))))))] [] rfl rfl) (Az ?_)
 exact ⟨⟨[_], ⟨.tmp _ _ rfl, trivial⟩, rfl⟩, trivial⟩
set_option maxRecDepth 10000 in
theorem Nr (N : Nat) (p0 : Ag) (p1 : List Ak) (r : (List Ae) × Int) (h : Im N p0 p1 = some r) : AC Tryz.prog 11 [.e (.agg [.pure (.sl (p0.fVersions.map Ai)), .pure (.sl (p0.fNow.map Ai)), .pure (.sl (p0.fTarget.map Ai)), .pure (.sl (p0.fTables.map Ao))]), .e (.one (.pure (.sl (p1.map AD))))] [(3, r.1.map Af)] (.tup [.one (.own 0), .one (.pure (.val (.int .i64 r.2)))]) := by
 unfold Im at h
 refine As (n := 47) (rs := [.tmp 4, .tmp 5]) Tryz.func11 rfl rfl rfl (A5 rfl) (A5 rfl) rfl fun w0 S0 => ?_
 refine Ab (Aa Ac rfl (qb rfl (qa rfl (qa rfl (Ad (Ab (Aa Ac rfl (qL D4 DQ rfl (qm rfl ?_)))))))))
 obtain ⟨v1, a1, h⟩ := bind_some h
 refine AH [2001] (LN N p0 p1 v1 a1) VL rfl (qm rfl (qx rfl (qx rfl (qx rfl (qa rfl (qa rfl (qa rfl (Ad (Ab (Ab (Aa Ac rfl (qm rfl (Cw rfl (Ad ?_))))))))))))))
 refine Ap rfl (fun c2 => ?_) (fun c2 => ?_)
 ·have h := Am c2 h
  refine Ab (Aa Ac rfl (qm rfl (qa rfl (qa rfl (Ad ?_)))))
  obtain rfl := sj h
  refine Al ((Bf 4 2002 3 rfl rfl rfl).trans (sm [(1000, 2002)] [(4, .e (.one (.own 1000))), (5, .e (.one (.pure (.val (.int .i64 v1.2.2)))))] [(1000, .vec 3 ((([] : List Ae)).map Af))] rfl rfl)) (Az ?_)
  exact ⟨⟨[_, _], ⟨.tmp _ _ rfl, ⟨.tmp _ _ rfl, trivial⟩⟩, rfl⟩, ⟨rfl, trivial⟩⟩
 ·have h := An c2 h
  refine Ar (Ab (Aa Ac rfl (qa rfl (Ad (Ab (Ab (Aa Ac rfl (qm rfl (DU AP rfl (qm rfl (Ad ?_)))))))))))
  refine AJ (L := FN N p0 v1) h (fun v3 => mk [(2, .e (.one (.ptr 2 0))), (9, .e (.one (.own 2003))), (24, .e (.one (.own 2004))), (25, .e (.one (.pure (.val (.int .i64 ((v1.1.length : Int))))))), (26, .e (.one (.pure (.val (.int .i64 v3.2)))))] [(2, .box [.pure (.sl (p0.fVersions.map Ai)), .pure (.sl (p0.fNow.map Ai)), .pure (.sl (p0.fTarget.map Ai)), .pure (.sl (p0.fTables.map Ao))]), (2003, .vec 3 (v3.1.map Af)), (2004, .vec 3 (v1.1.map Af))]) (fun v4 => mk [(9, .e (.one (.own 2005)))] [(2005, .vec 3 (v4.map Af))]) (fun _ _ => rfl) ((Bf 9 2008 3 rfl rfl rfl).trans (sm [(2003, 2008), (2004, 2001)] _ _ rfl rfl)) (fun j3 n3 v3 h => ?_) (fun v4 s h hs => ?_)
  ·unfold FN at h
   refine Ab (Aa Ac rfl (A2 rfl (Ad (Ab ?_))))
   refine Ap rfl (fun c5 => ?_) (fun c5 => ?_)
   ·have h := Am c5 h
    refine Ar (Ab (AN (Ab (Aa Ac rfl ?_))))
    obtain ⟨v6, a6, b6, h⟩ := Aj h
    refine qI AP Ax a6 (Ah b6) rfl (qJ A1 Ax (Ah b6) rfl (qz CX rfl (qs Ax rfl (Ad (Ab (Aa Ac rfl (qL D4 DQ rfl (qL A1 Ax rfl ?_))))))))
    obtain ⟨v7, a7, h⟩ := bind_some h
    refine AH [2006] (KP N p0 v6 v7 a7) V3 rfl (qm rfl (qx rfl (qx rfl (qa rfl (qa rfl (Ad (Ab (Ab (Aa Ac rfl (qm rfl (Cw rfl (Ad ?_))))))))))))
    refine Ap rfl (fun c8 => ?_) (fun c8 => ?_)
    ·have h := Am c8 h
     refine Ab (Aa Ac rfl (qm rfl (qa rfl (qa rfl (Ad ?_)))))
     obtain rfl := sj h
     refine Al ((Bf 4 2007 3 rfl rfl rfl).trans (sm [(1000, 2007)] [(4, .e (.one (.own 1000))), (5, .e (.one (.pure (.val (.int .i64 v7.2)))))] [(1000, .vec 3 ((([] : List Ae)).map Af))] rfl rfl)) (Az ?_)
     exact ⟨⟨[_, _], ⟨.tmp _ _ rfl, ⟨.tmp _ _ rfl, trivial⟩⟩, rfl⟩, ⟨rfl, trivial⟩⟩
    ·have h := An c8 h
     refine Ar (Aa Ac rfl (qm rfl (qm rfl ?_)))
     obtain ⟨c9, h⟩ := AK h
     refine Dw (f := Af) AP AP Ax NU CX c9 rfl (qa rfl (Ad (Aa Ac rfl (AY rfl (qm rfl (Ad ?_))))))
     exact Au _ h (sm [(2003, 41)] _ _ rfl rfl)
   ·have h := An c5 h
    refine AX ?_
    exact Au _ h (sm [(2005, 2003)] _ _ rfl rfl)
  ·refine Al hs (Ab (Aa Ac rfl (qm rfl ?_)))
   obtain ⟨v10, a10, h⟩ := bind_some h
   refine Dg (ds0 := [_, _]) [2005] [] [true] (BI.weak (ds' := [_, .e (.one (.fnc 39))]) (EV N v4 ((fun (x : Ae × Ae) => EN N x.1 x.2)) v10 a10) ⟨(fun _ _ _ hh => hh), (fun _ _ _ hh => MI Us (fun ar t ht => by obtain ⟨x, r, rfl, hq, rfl⟩ := I4 ht; exact IJ N x.1 x.2 r hq) hh), trivial⟩) (.p rfl) Vc rfl ⟨rfl, rfl, trivial⟩ rfl rfl (by decide) ⟨rfl, trivial⟩ rfl (Bi rfl) trivial ⟨(fun h => by cases h), trivial⟩ rfl rfl rfl ?_
   refine Ad (Ab (Aa Ac rfl (qm rfl ?_)))
   obtain ⟨v11, a11, h⟩ := bind_some h
   obtain ⟨c12, h⟩ := AK h
   have w13 : 0 + v11.1 ≤ v11.2.length := by rw [Nat.zero_add]; exact c12
   refine Dg (ds0 := [_, _]) [2005] [] [true] (BI.weak (ds' := [_, .e (.one (.fnc 41))]) (Gg N v10 ((fun (x : Ae × Ae) => F7 N x.1 x.2)) v11 a11) ⟨(fun _ _ _ hh => hh), (fun _ _ _ hh => MI Wz (fun ar t ht => by obtain ⟨x, r, rfl, hq, rfl⟩ := I4 ht; exact L5 N x.1 x.2 r hq) hh), trivial⟩) (.p rfl) WD rfl ⟨rfl, rfl, trivial⟩ rfl rfl (by decide) ⟨rfl, trivial⟩ rfl (Bi rfl) trivial ⟨(fun h => by cases h), trivial⟩ rfl rfl rfl ?_
   refine DC (Si Af v11.2 46 2005 2009 3 v11.1 rfl rfl rfl rfl rfl c12) (qa rfl (qa rfl (Ad ?_)))
   obtain rfl := sj h
   refine Al (sm [(1000, 2009)] [(4, .e (.one (.own 1000))), (5, .e (.one (.pure (.val (.int .i64 0)))))] [(1000, .vec 3 ((v11.2.take v11.1).map Af))] rfl rfl) (Az ?_)
   exact ⟨⟨[_, _], ⟨.tmp _ _ rfl, ⟨.tmp _ _ rfl, trivial⟩⟩, rfl⟩, ⟨rfl, trivial⟩⟩
set_option maxRecDepth 10000 in
theorem La (N : Nat) (p0 : Ag) (p1 : List Ak) (r : Bool × Int) (h : FF N p0 p1 = some r) : AC Tryz.prog 14 [.e (.agg [.pure (.sl (p0.fVersions.map Ai)), .pure (.sl (p0.fNow.map Ai)), .pure (.sl (p0.fTarget.map Ai)), .pure (.sl (p0.fTables.map Ao))]), .e (.one (.pure (.sl (p1.map AD))))] [] (.tup [.one (.pure (.val (.bool r.1))), .one (.pure (.val (.int .i64 r.2)))]) := by
 unfold FF at h
 refine As (n := 43) (rs := [.tmp 4, .tmp 5]) Tryz.func14 rfl rfl rfl (A5 rfl) (A5 rfl) rfl fun w0 S0 => ?_
 refine Ab (Aa Ac rfl (qb rfl (qa rfl (qa rfl (Ad (Ab (Aa Ac rfl (qL D4 DQ rfl (qm rfl ?_)))))))))
 obtain ⟨v1, a1, h⟩ := bind_some h
 refine AH [2001] (LN N p0 p1 v1 a1) VL rfl (qm rfl (qx rfl (qx rfl (qx rfl (qa rfl (qa rfl (qa rfl (Ad (Ab (Ab (Aa Ac rfl (qm rfl (Cw rfl (Ad ?_))))))))))))))
 refine Ap rfl (fun c2 => ?_) (fun c2 => ?_)
 ·have h := Am c2 h
  refine Ab (Aa Ac rfl (qm rfl (qa rfl (qa rfl (Ad ?_)))))
  obtain rfl := sj h
  refine Al (sm [] [(4, .e (.one (.pure (.val (.bool false))))), (5, .e (.one (.pure (.val (.int .i64 v1.2.2)))))] [] rfl rfl) (Az ?_)
  exact ⟨⟨[_, _], ⟨.tmp _ _ rfl, ⟨.tmp _ _ rfl, trivial⟩⟩, rfl⟩, trivial⟩
 ·have h := An c2 h
  refine Ar (Ab (Ab (Aa Ac rfl (qm rfl (DU AP rfl (qm rfl (Ad ?_)))))))
  refine AJ (L := EI N p0 v1) h (fun v3 => mk [(2, .e (.one (.ptr 2 0))), (23, .e (.one (.own 2002))), (24, .e (.one (.pure (.val (.int .i64 ((v1.1.length : Int))))))), (25, .e (.one (.pure (.val (.int .i64 v3)))))] [(2, .box [.pure (.sl (p0.fVersions.map Ai)), .pure (.sl (p0.fNow.map Ai)), .pure (.sl (p0.fTarget.map Ai)), .pure (.sl (p0.fTables.map Ao))]), (2002, .vec 3 (v1.1.map Af))]) (fun v4 => mk [] []) (fun _ _ => rfl) (sm [(2002, 2001)] _ _ rfl rfl) (fun j3 n3 v3 h => ?_) (fun v4 s h hs => ?_)
  ·unfold EI at h
   refine Ab (Aa Ac rfl (A2 rfl (Ad (Ab ?_))))
   refine Ap rfl (fun c5 => ?_) (fun c5 => ?_)
   ·have h := Am c5 h
    refine Ar (Ab (AN (Ab (Aa Ac rfl ?_))))
    obtain ⟨v6, a6, b6, h⟩ := Aj h
    refine qI AP Ax a6 (Ah b6) rfl (qJ A1 Ax (Ah b6) rfl (qz CX rfl (qs Ax rfl (Ad (Ab (Aa Ac rfl (qL D4 DQ rfl (qL A1 Ax rfl ?_))))))))
    obtain ⟨v7, a7, h⟩ := bind_some h
    refine AH [] (Jn N p0 v6 v7 a7) Uk rfl (qm rfl (qx rfl (qx rfl (qa rfl (qa rfl (Ad ?_))))))
    refine AO h (fun v8 => mk [(2, .e (.one (.ptr 2 0))), (12, .e (.one (.pure (.val (.int .i64 v7.2))))), (23, .e (.one (.own 2003))), (24, .e (.one (.pure (.val (.int .i64 ((v1.1.length : Int))))))), (25, .e (.one (.pure (.val (.int .i64 v3))))), (40, .e (.one (.pure (.val (.bool v8)))))] [(2, .box [.pure (.sl (p0.fVersions.map Ai)), .pure (.sl (p0.fNow.map Ai)), .pure (.sl (p0.fTarget.map Ai)), .pure (.sl (p0.fTables.map Ao))]), (2003, .vec 3 (v1.1.map Af))]) (fun j8 h => ?_) (fun v8 h => ?_)
    ·refine Aa Ac rfl (qm rfl (Cw rfl (qm rfl ?_)))
     refine AE (t := 37) rfl (fun c9 => ?_) (fun c9 => ?_)
     ·have h := Am c9 h
      refine qn rfl (qn rfl (qp rfl (Ad ?_)))
      exact Au _ h (sm [(2003, 2002)] _ _ rfl rfl)
     ·have h := An c9 h
      refine qm rfl (Cp rfl (qp rfl (Ad ?_)))
      exact Au _ h (sm [(2003, 2002)] _ _ rfl rfl)
    ·refine Ap rfl (fun c10 => ?_) (fun c10 => ?_)
     ·have h := Am c10 h
      refine Ab (Aa Ac rfl (qm rfl (qa rfl (qa rfl (Ad ?_)))))
      obtain rfl := sj h
      refine Al (sm [] [(4, .e (.one (.pure (.val (.bool false))))), (5, .e (.one (.pure (.val (.int .i64 v7.2)))))] [] rfl rfl) (Az ?_)
      exact ⟨⟨[_, _], ⟨.tmp _ _ rfl, ⟨.tmp _ _ rfl, trivial⟩⟩, rfl⟩, trivial⟩
     ·have h := An c10 h
      refine Ar (Aa Ac rfl (AY rfl (qm rfl (Ad ?_))))
      exact Au _ h (sm [(2002, 2003)] _ _ rfl rfl)
   ·have h := An c5 h
    refine AX ?_
    exact Au _ h (sm [] _ _ rfl rfl)
  ·refine Al hs (Ab (Aa Ac rfl (qa rfl (qa rfl (Ad ?_)))))
   obtain rfl := sj h
   refine Al (sm [] [(4, .e (.one (.pure (.val (.bool true))))), (5, .e (.one (.pure (.val (.int .i64 0)))))] [] rfl rfl) (Az ?_)
   exact ⟨⟨[_, _], ⟨.tmp _ _ rfl, ⟨.tmp _ _ rfl, trivial⟩⟩, rfl⟩, trivial⟩
set_option maxRecDepth 10000 in
theorem HS (N : Nat) (r : Bool) (h : Ev N = some r) : AC Tryz.prog 10 [] [] (.e (.one (.pure (.val (.bool r))))) := by
 unfold Ev at h
 refine As (n := 84) (rs := [.tmp 0]) Tryz.func10 rfl rfl rfl (A5 rfl) (A5 rfl) rfl fun w0 S0 => ?_
 refine Ab (Aa Ac rfl (qa rfl (Ad (Ab (Aa Ac rfl ?_)))))
 obtain ⟨v1, a1, h⟩ := bind_some h
 refine AH [2001, 2002, 2003, 2004] (D7 N false v1 a1) Ru rfl (DC (Bc 2001 _ _ rfl rfl) (DC (Bc 2002 _ _ rfl rfl) (DC (Bc 2003 _ _ rfl rfl) (DC (Bc 2004 _ _ rfl rfl) ?_))))
 obtain ⟨v2, a2, h⟩ := bind_some h
 refine AH [2005] (JJ N v1 v2 a2) VP rfl (qm rfl (qx rfl (qx rfl (qa rfl (qa rfl (Ad (Ab (Aa Ac rfl ?_))))))))
 obtain ⟨v3, a3, h⟩ := bind_some h
 refine AH [2006, 2007, 2008, 2009] (D7 N true v3 a3) Ru rfl (DC (Bc 2006 _ _ rfl rfl) (DC (Bc 2007 _ _ rfl rfl) (DC (Bc 2008 _ _ rfl rfl) (DC (Bc 2009 _ _ rfl rfl) ?_))))
 obtain ⟨v4, a4, h⟩ := bind_some h
 refine AH [2010] (JJ N v3 v4 a4) VP rfl (qm rfl (qx rfl (qx rfl (qa rfl (qa rfl (Ad (Ab (Aa Ac rfl ?_))))))))
 obtain ⟨v5, a5, h⟩ := bind_some h
 refine AH [2011, 2012, 2013, 2014] (D7 N false v5 a5) Ru rfl (Ep Gw R2 UE rfl ?_)
 obtain ⟨v6, a6, h⟩ := bind_some h
 refine EF [2015] [2011, 2012, 2013, 2014, 24] (Kz N v5 (([1, 2, 3] : List Int)) v6 a6) V4 (EO (fun _ => rfl) C8) rfl (qm rfl (qx rfl (qx rfl (qa rfl (qa rfl (Ad (Ab (Aa Ac rfl (BM Hi RQ rfl (Ep CL DE Hi rfl (qa rfl (Ad (Ab (Aa Ac rfl ?_))))))))))))))
 obtain ⟨v7, a7, h⟩ := bind_some h
 refine AH [2016, 2017, 2018, 2019] (D7 N false v7 a7) Ru rfl (qm rfl (DC (Bc 2016 _ _ rfl rfl) (DC (Bc 2017 _ _ rfl rfl) (DC (Bc 2018 _ _ rfl rfl) (DC (Bc 2019 _ _ rfl rfl) (DC (Bc 29 _ _ rfl rfl) ?_))))))
 obtain ⟨v8, a8, h⟩ := bind_some h
 refine AH [2020] (Nr N v7 (([(Ak.mk 1 0 1)] : List Ak)) v8 a8) Wh rfl (qm rfl (qx rfl (qx rfl (qa rfl (qa rfl (Ad (Ab (Aa Ac rfl ?_))))))))
 obtain ⟨v9, a9, h⟩ := bind_some h
 refine AH [2021, 2022, 2023, 2024] (D7 N false v9 a9) Ru rfl (qm rfl ?_)
 obtain ⟨v10, a10, h⟩ := bind_some h
 refine EF [] [2021, 2022, 2023, 2024] (La N v9 (([(Ak.mk 1 0 1)] : List Ak)) v10 a10) U0 C8 rfl (qm rfl (qx rfl (qx rfl (qa rfl (qa rfl (Ad ?_))))))
 refine AO h (fun v11 => mk [(0, .e (.one (.pure (.val (.bool v11)))))] []) (fun j11 h => ?_) (fun v11 h => ?_)
 ·refine Aa Ac rfl (qm rfl (BK rfl (qm rfl ?_)))
  refine AE (t := 44) rfl (fun c12 => ?_) (fun c12 => ?_)
  ·have h := Am c12 h
   refine qm rfl (BK rfl (qp rfl (qm rfl ?_)))
   refine AE (t := 48) rfl (fun c13 => ?_) (fun c13 => ?_)
   ·have h := Am c13 h
    refine qm rfl (BK rfl (qp rfl (qm rfl ?_)))
    refine AE (t := 52) rfl (fun c14 => ?_) (fun c14 => ?_)
    ·have h := Am c14 h
     refine qm rfl (BK rfl (qp rfl (qm rfl ?_)))
     refine AE (t := 56) rfl (fun c15 => ?_) (fun c15 => ?_)
     ·have h := Am c15 h
      refine qm rfl (BK rfl (qp rfl (qm rfl ?_)))
      refine AE (t := 60) rfl (fun c16 => ?_) (fun c16 => ?_)
      ·have h := Am c16 h
       refine qm rfl (DU AP rfl (BK rfl (qp rfl (qm rfl ?_))))
       refine AE (t := 65) rfl (fun c17 => ?_) (fun c17 => ?_)
       ·have h := Am c17 h
        refine qm rfl (DU AP rfl (BK rfl (qp rfl (qm rfl ?_))))
        refine AE (t := 70) rfl (fun c18 => ?_) (fun c18 => ?_)
        ·have h := Am c18 h
         refine qm rfl (DU CL rfl (BK rfl (qp rfl (qm rfl ?_))))
         refine AE (t := 75) rfl (fun c19 => ?_) (fun c19 => ?_)
         ·have h := Am c19 h
          refine qm rfl (DU AP rfl (BK rfl (qp rfl (qm rfl ?_))))
          refine AE (t := 80) rfl (fun c20 => ?_) (fun c20 => ?_)
          ·have h := Am c20 h
           refine qm rfl (Cp rfl (qp rfl (qa rfl (Ad ?_))))
           exact Au _ h (sm [] _ _ rfl rfl)
          ·have h := An c20 h
           refine qn rfl (qn rfl (qp rfl (qa rfl (Ad ?_))))
           exact Au _ h (sm [] _ _ rfl rfl)
         ·have h := An c19 h
          refine qn rfl (qn rfl (qn rfl (qp rfl (qm rfl (qn rfl (qn rfl (qp rfl (qa rfl (Ad ?_)))))))))
          exact Au _ h (sm [] _ _ rfl rfl)
        ·have h := An c18 h
         refine qn rfl (qn rfl (qn rfl (qp rfl (qm rfl (qn rfl (qn rfl (qn rfl (qp rfl (qm rfl (qn rfl (qn rfl (qp rfl (qa rfl (Ad ?_))))))))))))))
         exact Au _ h (sm [] _ _ rfl rfl)
       ·have h := An c17 h
        refine qn rfl (qn rfl (qn rfl (qp rfl (qm rfl (qn rfl (qn rfl (qn rfl (qp rfl (qm rfl (qn rfl (qn rfl (qn rfl (qp rfl (qm rfl (qn rfl (qn rfl (qp rfl (qa rfl (Ad ?_)))))))))))))))))))
        exact Au _ h (sm [] _ _ rfl rfl)
      ·have h := An c16 h
       refine qn rfl (qn rfl (qn rfl (qp rfl (qm rfl (qn rfl (qn rfl (qn rfl (qp rfl (qm rfl (qn rfl (qn rfl (qn rfl (qp rfl (qm rfl (qn rfl (qn rfl (qn rfl (qp rfl (qm rfl (qn rfl (qn rfl (qp rfl (qa rfl (Ad ?_))))))))))))))))))))))))
       exact Au _ h (sm [] _ _ rfl rfl)
     ·have h := An c15 h
      refine qn rfl (qn rfl (qp rfl (qm rfl (qn rfl (qn rfl (qn rfl (qp rfl (qm rfl (qn rfl (qn rfl (qn rfl (qp rfl (qm rfl (qn rfl (qn rfl (qn rfl (qp rfl (qm rfl (qn rfl (qn rfl (qn rfl (qp rfl (qm rfl (qn rfl (qn rfl (qp rfl (qa rfl (Ad ?_))))))))))))))))))))))))))))
      exact Au _ h (sm [] _ _ rfl rfl)
    ·have h := An c14 h
     refine qn rfl (qn rfl (qp rfl (qm rfl (qn rfl (qn rfl (qp rfl (qm rfl (qn rfl (qn rfl (qn rfl (qp rfl (qm rfl (qn rfl (qn rfl (qn rfl (qp rfl (qm rfl (qn rfl (qn rfl (qn rfl (qp rfl (qm rfl (qn rfl (qn rfl (qn rfl (qp rfl (qm rfl (qn rfl (qn rfl (qp rfl (qa rfl (Ad ?_))))))))))))))))))))))))))))))))
     exact Au _ h (sm [] _ _ rfl rfl)
   ·have h := An c13 h
    refine qn rfl (qn rfl (qp rfl (qm rfl (qn rfl (qn rfl (qp rfl (qm rfl (qn rfl (qn rfl (qp rfl (qm rfl (qn rfl (qn rfl (qn rfl (qp rfl (qm rfl (qn rfl (qn rfl (qn rfl (qp rfl (qm rfl (qn rfl (qn rfl (qn rfl (qp rfl (qm rfl (qn rfl (qn rfl (qn rfl (qp rfl (qm rfl (qn rfl (qn rfl (qp rfl (qa rfl (Ad ?_))))))))))))))))))))))))))))))))))))
    exact Au _ h (sm [] _ _ rfl rfl)
  ·have h := An c12 h
   refine qn rfl (qn rfl (qp rfl (qm rfl (qn rfl (qn rfl (qp rfl (qm rfl (qn rfl (qn rfl (qp rfl (qm rfl (qn rfl (qn rfl (qp rfl (qm rfl (qn rfl (qn rfl (qn rfl (qp rfl (qm rfl (qn rfl (qn rfl (qn rfl (qp rfl (qm rfl (qn rfl (qn rfl (qn rfl (qp rfl (qm rfl (qn rfl (qn rfl (qn rfl (qp rfl (qm rfl (qn rfl (qn rfl (qp rfl (qa rfl ?_)))))))))))))))))))))))))))))))))))))))
   refine Ad ?_
   exact Au _ h (sm [] _ _ rfl rfl)
 ·obtain rfl := sj h
  refine Al (sm [] [(0, .e (.one (.pure (.val (.bool v11)))))] [] rfl rfl) (Az ?_)
  exact ⟨⟨[_], ⟨.tmp _ _ rfl, trivial⟩, rfl⟩, trivial⟩
set_option maxRecDepth 10000 in
theorem IE (N : Nat) (p0 : List Int) (r : (List Int)) (h : Dh N p0 = some r) : AC Tryz.prog 21 [.e (.one (.pure (.sl (p0.map Bb))))] [(1, r.map Bb)] (.e (.one (.own 0))) := by
 unfold Dh at h
 refine As (n := 8) (rs := [.tmp 2]) Tryz.func21 rfl rfl rfl (A5 rfl) (A5 rfl) rfl fun w0 S0 => ?_
 refine Ab (Aa Ac rfl (qa rfl (Ad (Ab (Ab (Aa Ac rfl (qm rfl ?_)))))))
 refine OD (.p rfl) rfl Gw ?_
 refine Ad ?_
 refine Of rfl (fun c2 => ?_) ?_
 ·have c2 := List.map_eq_nil_iff.1 c2
  rw [c2] at h
  have h : (some (([] : List Int))) = some r := h
  refine Ab (Aa Ac rfl (qa rfl (Ad ?_)))
  obtain rfl := sj h
  refine Al ((Bf 2 2001 1 rfl rfl rfl).trans (sm [(1000, 2001)] [(2, .e (.one (.own 1000)))] [(1000, .vec 1 ((([] : List Int)).map Bb))] rfl rfl)) (Az ?_)
  exact ⟨⟨[_], ⟨.tmp _ _ rfl, trivial⟩, rfl⟩, ⟨rfl, trivial⟩⟩
 ·refine Ar (Ab (Aa Ac rfl (Ep Gw R2 UE rfl (qm rfl ?_))))
  obtain ⟨c1, h⟩ := AK h
  refine Jf (f := Bb) Gw Gw R2 Ul UE (fun _ => rfl) c1 rfl (qa rfl (Ad ?_))
  obtain rfl := sj h
  refine Al (sm [(1000, 7)] [(2, .e (.one (.own 1000)))] [(1000, .vec 1 (((([] : List Int)) ++ p0).map Bb))] rfl rfl) (Az ?_)
  exact ⟨⟨[_], ⟨.tmp _ _ rfl, trivial⟩, rfl⟩, ⟨rfl, trivial⟩⟩
set_option maxRecDepth 10000 in
theorem Hy (N : Nat) (p0 : List (List Bool)) (p1 : Int) (p2 : Int) (r : Bool) (h : Dr N p0 p1 p2 = some r) : AC Tryz.prog 99 [.e (.one (.pure (.sl (p0.map (ER eB))))), .e (.one (.pure (.val (.int .i64 p1)))), .e (.one (.pure (.val (.int .i64 p2))))] [] (.e (.one (.pure (.val (.bool r))))) := by
 unfold Dr at h
 refine As (n := 24) (rs := [.tmp 6]) Tryz.func99 rfl rfl rfl (A5 rfl) (A5 rfl) rfl fun w0 S0 => ?_
 refine Ab (Aa Ac rfl (qa rfl (Ad (Ab (Ab (Aa Ac rfl (qm rfl (AZ Gf rfl (qm rfl (Cw rfl (Ad ?_)))))))))))
 refine Ap rfl (fun c1 => ?_) (fun c1 => ?_)
 ·have h := Am c1 h
  refine Ab (Aa Ac rfl (qa rfl (Ad ?_)))
  obtain rfl := sj h
  refine Al (sm [] [(6, .e (.one (.pure (.val (.bool false)))))] [] rfl rfl) (Az ?_)
  exact ⟨⟨[_], ⟨.tmp _ _ rfl, trivial⟩, rfl⟩, trivial⟩
 ·have h := An c1 h
  refine Ar (Ab (Ab (Aa Ac rfl (qa rfl (Ad ?_)))))
  refine AJ (L := Cr N p0 p1 p2) h (fun v2 => mk [(0, .e (.one (.pure (.sl (p0.map (ER eB)))))), (1, .e (.one (.pure (.val (.int .i64 p1))))), (2, .e (.one (.pure (.val (.int .i64 p2))))), (7, .e (.one (.pure (.val (.int .i64 v2)))))] []) (fun v3 => mk [] []) (fun _ _ => rfl) (sm [] _ _ rfl rfl) (fun j2 n2 v2 h => ?_) (fun v3 s h hs => ?_)
  ·unfold Cr at h
   refine Ab (Ab (Aa Ac rfl (qm rfl (qm rfl (A2 rfl (Ad ?_))))))
   refine Ap rfl (fun c4 => ?_) (fun c4 => ?_)
   ·have h := Am c4 h
    refine Ar (Ab (AN (Ab (Aa Ac rfl (qm rfl (qm rfl ?_))))))
    obtain ⟨v5, a5, b5, h⟩ := Aj h
    refine qi Gf Jq a5 (Ah b5) rfl (qk K3 rfl (AZ E5 rfl (qm rfl (Cw rfl (Ad ?_)))))
    refine Ap rfl (fun c6 => ?_) (fun c6 => ?_)
    ·have h := Am c6 h
     refine Ab (Aa Ac rfl (qa rfl (Ad ?_)))
     obtain rfl := sj h
     refine Al (sm [] [(6, .e (.one (.pure (.val (.bool false)))))] [] rfl rfl) (Az ?_)
     exact ⟨⟨[_], ⟨.tmp _ _ rfl, trivial⟩, rfl⟩, trivial⟩
    ·have h := An c6 h
     refine Ar (Aa Ac rfl (qm rfl (AY rfl (qa rfl (Ad ?_)))))
     exact Au _ h (sm [] _ _ rfl rfl)
   ·have h := An c4 h
    refine AX ?_
    exact Au _ h (sm [] _ _ rfl rfl)
  ·refine Al hs (Ab (Aa Ac rfl (qa rfl (Ad ?_))))
   obtain rfl := sj h
   refine Al (sm [] [(6, .e (.one (.pure (.val (.bool true)))))] [] rfl rfl) (Az ?_)
   exact ⟨⟨[_], ⟨.tmp _ _ rfl, trivial⟩, rfl⟩, trivial⟩
set_option maxRecDepth 10000 in
theorem J6 (N : Nat) (p0 : Ag) (p1 : AF) (r : Int) (h : Em N p0 p1 = some r) : AC Tryz.prog 72 [.e (.agg [.pure (.sl (p0.fVersions.map Ai)), .pure (.sl (p0.fNow.map Ai)), .pure (.sl (p0.fTarget.map Ai)), .pure (.sl (p0.fTables.map Ao))]), .e (.agg [.pure (.val (.int .i64 p1.fKind)), .pure (.val (.int .i64 p1.fFrom)), .pure (.val (.int .i64 p1.fTo)), .pure (.val (.bool p1.fAware)), .pure (.sl (p1.fOK.map (ER eB))), .pure (.sl (p1.fRewrite.map (ER eB)))])] [] (.e (.one (.pure (.val (.int .i64 r))))) := by
 unfold Em at h
 refine As (n := 101) (rs := [.tmp 4]) Tryz.func72 rfl rfl rfl (A5 rfl) (A5 rfl) rfl fun w0 S0 => ?_
 refine Ab (Aa Ac rfl (qb rfl (qb rfl (qa rfl (Ad (Ab ?_))))))
 refine AO h (fun v1 => mk [(2, .e (.one (.ptr 2 0))), (3, .e (.one (.ptr 3 0))), (22, .e (.one (.pure (.val (.bool v1)))))] [(2, .box [.pure (.sl (p0.fVersions.map Ai)), .pure (.sl (p0.fNow.map Ai)), .pure (.sl (p0.fTarget.map Ai)), .pure (.sl (p0.fTables.map Ao))]), (3, .box [.pure (.val (.int .i64 p1.fKind)), .pure (.val (.int .i64 p1.fFrom)), .pure (.val (.int .i64 p1.fTo)), .pure (.val (.bool p1.fAware)), .pure (.sl (p1.fOK.map (ER eB))), .pure (.sl (p1.fRewrite.map (ER eB)))])]) (fun j1 h => ?_) (fun v1 h => ?_)
 ·refine Aa Ac rfl (qf FK rfl (ql Cz rfl (A2 rfl (qm rfl ?_))))
  refine AE (t := 10) rfl (fun c2 => ?_) (fun c2 => ?_)
  ·have h := Am c2 h
   refine qn rfl (qn rfl (qn rfl (qp rfl (qm rfl (qn rfl (qn rfl (qn rfl (qu rfl (qu rfl (qn rfl (qp rfl (Ad ?_))))))))))))
   exact Au _ h (sm [] _ _ rfl rfl)
  ·have h := An c2 h
   refine qf FK rfl (ql Cz rfl (Fw rfl (qp rfl (qm rfl ?_))))
   refine AE (t := 15) rfl (fun c3 => ?_) (fun c3 => ?_)
   ·have h := Am c3 h
    refine qn rfl (qn rfl (qn rfl (qu rfl (qu rfl (qn rfl (qp rfl (Ad ?_)))))))
    exact Au _ h (sm [] _ _ rfl rfl)
   ·have h := An c3 h
    refine qf Iz rfl (ql QS rfl (qm rfl ?_))
    refine AE (t := 18) rfl (fun c4 => ?_) (fun c4 => ?_)
    ·have h := Am c4 h
     refine qL Hj D8 rfl ?_
     obtain ⟨v5, a5, h⟩ := bind_some h
     refine AH [] (Cg N p1 v5 a5) ON rfl (qp rfl (qp rfl (Ad ?_)))
     exact Au _ h (sm [] _ _ rfl rfl)
    ·have h := An c4 h
     refine qn rfl (qn rfl (qp rfl (qp rfl (Ad ?_))))
     exact Au _ h (sm [] _ _ rfl rfl)
 ·refine Ap rfl (fun c6 => ?_) (fun c6 => ?_)
  ·have h := Am c6 h
   refine Ab (Aa Ac rfl (qa rfl (Ad ?_)))
   obtain rfl := sj h
   refine Al (sm [] [(4, .e (.one (.pure (.val (.int .i64 1)))))] [] rfl rfl) (Az ?_)
   exact ⟨⟨[_], ⟨.tmp _ _ rfl, trivial⟩, rfl⟩, trivial⟩
  ·have h := An c6 h
   refine Ar (Ab (Aa Ac rfl (qf Bu rfl (ql Be rfl (AZ AI rfl (qa rfl (Ad (Ab ?_))))))))
   refine AO h (fun v7 => mk [(2, .e (.one (.ptr 2 0))), (3, .e (.one (.ptr 3 0))), (45, .e (.one (.pure (.val (.bool v7)))))] [(2, .box [.pure (.sl (p0.fVersions.map Ai)), .pure (.sl (p0.fNow.map Ai)), .pure (.sl (p0.fTarget.map Ai)), .pure (.sl (p0.fTables.map Ao))]), (3, .box [.pure (.val (.int .i64 p1.fKind)), .pure (.val (.int .i64 p1.fFrom)), .pure (.val (.int .i64 p1.fTo)), .pure (.val (.bool p1.fAware)), .pure (.sl (p1.fOK.map (ER eB))), .pure (.sl (p1.fRewrite.map (ER eB)))])]) (fun j7 h => ?_) (fun v7 h => ?_)
   ·refine Aa Ac rfl (qf De rfl (ql Cz rfl (A2 rfl (qm rfl ?_))))
    refine AE (t := 29) rfl (fun c8 => ?_) (fun c8 => ?_)
    ·have h := Am c8 h
     refine qn rfl (qn rfl (qn rfl (qn rfl (qp rfl (qm rfl (qn rfl (qn rfl (qn rfl (qp rfl (qm rfl (qn rfl (qn rfl (qn rfl (qn rfl (qp rfl (Ad ?_))))))))))))))))
     exact Au _ h (sm [] _ _ rfl rfl)
    ·have h := An c8 h
     refine qf De rfl (ql Cz rfl (qm rfl (Dx rfl (qp rfl (qm rfl ?_)))))
     refine AE (t := 35) rfl (fun c9 => ?_) (fun c9 => ?_)
     ·have h := Am c9 h
      refine qn rfl (qn rfl (qn rfl (qp rfl (qm rfl (qn rfl (qn rfl (qn rfl (qn rfl (qp rfl (Ad ?_))))))))))
      exact Au _ h (sm [] _ _ rfl rfl)
     ·have h := An c9 h
      refine qf HY rfl (ql Cz rfl (A2 rfl (qp rfl (qm rfl ?_))))
      refine AE (t := 40) rfl (fun c10 => ?_) (fun c10 => ?_)
      ·have h := Am c10 h
       refine qn rfl (qn rfl (qn rfl (qn rfl (qp rfl (Ad ?_)))))
       exact Au _ h (sm [] _ _ rfl rfl)
      ·have h := An c10 h
       refine qf HY rfl (ql Cz rfl (qm rfl (Dx rfl (qp rfl (Ad ?_)))))
       exact Au _ h (sm [] _ _ rfl rfl)
   ·refine Ap rfl (fun c11 => ?_) (fun c11 => ?_)
    ·have h := Am c11 h
     refine Ab (Aa Ac rfl (qa rfl (Ad ?_)))
     obtain rfl := sj h
     refine Al (sm [] [(4, .e (.one (.pure (.val (.int .i64 4)))))] [] rfl rfl) (Az ?_)
     exact ⟨⟨[_], ⟨.tmp _ _ rfl, trivial⟩, rfl⟩, trivial⟩
    ·have h := An c11 h
     refine Ar (Ab (Ab (Aa Ac rfl (qf Ja rfl (ql JB rfl (qf Bu rfl (ql Be rfl (qf De rfl (ql Cz rfl ?_)))))))))
     obtain ⟨v12, a12, b12, h⟩ := Aj h
     refine qi AI DP a12 (Ah b12) rfl (qk Cz rfl (qf Bu rfl (ql Be rfl (qf HY rfl (ql Cz rfl ?_)))))
     obtain ⟨v13, a13, b13, h⟩ := Aj h
     refine qi AI DP a13 (Ah b13) rfl (qk Cz rfl ?_)
     obtain ⟨v14, a14, h⟩ := bind_some h
     refine AH [] (Hy N p1.fOK v12 v13 v14 a14) U4 rfl (Cp rfl (AM (by kernel_rfl) ?_))
     refine Ap rfl (fun c15 => ?_) (fun c15 => ?_)
     ·have h := Am c15 h
      refine Ab (Aa Ac rfl (qa rfl (Ad ?_)))
      obtain rfl := sj h
      refine Al (sm [] [(4, .e (.one (.pure (.val (.int .i64 6)))))] [] rfl rfl) (Az ?_)
      exact ⟨⟨[_], ⟨.tmp _ _ rfl, trivial⟩, rfl⟩, trivial⟩
     ·have h := An c15 h
      refine Ar (Ab (Ab (Aa Ac rfl (qf FK rfl (ql Cz rfl (Cw rfl (Ad ?_)))))))
      refine Ap rfl (fun c16 => ?_) (fun c16 => ?_)
      ·have h := Am c16 h
       refine Ab (Ab (Aa Ac rfl (qf GC rfl (ql JB rfl (AZ Gf rfl (Cw rfl (Ad ?_)))))))
       refine Ap rfl (fun c17 => ?_) (fun c17 => ?_)
       ·have h := Am c17 h
        refine Ab (Aa Ac rfl (qa rfl (Ad ?_)))
        obtain rfl := sj h
        refine Al (sm [] [(4, .e (.one (.pure (.val (.int .i64 6)))))] [] rfl rfl) (Az ?_)
        exact ⟨⟨[_], ⟨.tmp _ _ rfl, trivial⟩, rfl⟩, trivial⟩
       ·have h := An c17 h
        refine Ar (Ab (Aa Ac rfl (qa rfl (Ad ?_))))
        obtain rfl := sj h
        refine Al (sm [] [(4, .e (.one (.pure (.val (.int .i64 0)))))] [] rfl rfl) (Az ?_)
        exact ⟨⟨[_], ⟨.tmp _ _ rfl, trivial⟩, rfl⟩, trivial⟩
      ·have h := An c16 h
       refine Ar (Ab (Ab (Aa Ac rfl (qf GC rfl (ql JB rfl (qf Bu rfl (ql Be rfl (qf De rfl (ql Cz rfl ?_)))))))))
       obtain ⟨v18, a18, b18, h⟩ := Aj h
       refine qi AI DP a18 (Ah b18) rfl (qk Cz rfl (qf Bu rfl (ql Be rfl (qf De rfl (ql Cz rfl ?_)))))
       obtain ⟨v19, a19, b19, h⟩ := Aj h
       refine qi AI DP a19 (Ah b19) rfl (qk Cz rfl ?_)
       obtain ⟨v20, a20, h⟩ := bind_some h
       refine AH [] (Hy N p1.fRewrite v18 v19 v20 a20) U4 rfl (Cp rfl (AM (by kernel_rfl) ?_))
       refine Ap rfl (fun c21 => ?_) (fun c21 => ?_)
       ·have h := Am c21 h
        refine Ab (Aa Ac rfl (qa rfl (Ad ?_)))
        obtain rfl := sj h
        refine Al (sm [] [(4, .e (.one (.pure (.val (.int .i64 6)))))] [] rfl rfl) (Az ?_)
        exact ⟨⟨[_], ⟨.tmp _ _ rfl, trivial⟩, rfl⟩, trivial⟩
       ·have h := An c21 h
        refine Ar (Ab (Ab (Aa Ac rfl (qa rfl (Ad ?_)))))
        refine AJ (L := BY N p1) h (fun v22 => mk [(3, .e (.one (.ptr 3 0))), (6, .e (.one (.pure (.val (.int .i64 v22)))))] [(3, .box [.pure (.val (.int .i64 p1.fKind)), .pure (.val (.int .i64 p1.fFrom)), .pure (.val (.int .i64 p1.fTo)), .pure (.val (.bool p1.fAware)), .pure (.sl (p1.fOK.map (ER eB))), .pure (.sl (p1.fRewrite.map (ER eB)))])]) (fun v23 => mk [] []) (fun _ _ => rfl) (sm [] _ _ rfl rfl) (fun j22 n22 v22 h => ?_) (fun v23 s h hs => ?_)
        ·unfold BY at h
         refine Ab (Ab (Aa Ac rfl (qm rfl (qf GC rfl (ql JB rfl (AZ Gf rfl (A2 rfl (Ad ?_))))))))
         refine Ap rfl (fun c24 => ?_) (fun c24 => ?_)
         ·have h := Am c24 h
          refine Ar (Ab (AN (Ab (Aa Ac rfl (qf GC rfl (ql JB rfl (qm rfl ?_)))))))
          obtain ⟨v25, a25, b25, h⟩ := Aj h
          refine qi Gf Jq a25 (Ah b25) rfl (qk K3 rfl (qm rfl ?_))
          obtain ⟨v26, a26, b26, h⟩ := Aj h
          refine qi E5 Ph a26 (Ah b26) rfl (qk QS rfl (Cp rfl (Ad ?_)))
          refine Ap rfl (fun c27 => ?_) (fun c27 => ?_)
          ·have h := Am c27 h
           refine Ab (Aa Ac rfl (qa rfl (Ad ?_)))
           obtain rfl := sj h
           refine Al (sm [] [(4, .e (.one (.pure (.val (.int .i64 1)))))] [] rfl rfl) (Az ?_)
           exact ⟨⟨[_], ⟨.tmp _ _ rfl, trivial⟩, rfl⟩, trivial⟩
          ·have h := An c27 h
           refine Ar (Aa Ac rfl (qm rfl (AY rfl (qa rfl (Ad ?_)))))
           exact Au _ h (sm [] _ _ rfl rfl)
         ·have h := An c24 h
          refine AX ?_
          exact Au _ h (sm [] _ _ rfl rfl)
        ·refine Al hs (Ab (Aa Ac rfl (qa rfl (Ad ?_))))
         obtain rfl := sj h
         refine Al (sm [] [(4, .e (.one (.pure (.val (.int .i64 0)))))] [] rfl rfl) (Az ?_)
         exact ⟨⟨[_], ⟨.tmp _ _ rfl, trivial⟩, rfl⟩, trivial⟩
set_option maxRecDepth 10000 in
theorem FU (N : Nat) (p0 : Ag) (r : Int) (h : Ct N p0 = some r) : AC Tryz.prog 50 [.e (.agg [.pure (.sl (p0.fVersions.map Ai)), .pure (.sl (p0.fNow.map Ai)), .pure (.sl (p0.fTarget.map Ai)), .pure (.sl (p0.fTables.map Ao))])] [] (.e (.one (.pure (.val (.int .i64 r))))) := by
 unfold Ct at h
 refine As (n := 102) (rs := [.tmp 2]) Tryz.func50 rfl rfl rfl (A5 rfl) (A5 rfl) rfl fun w0 S0 => ?_
 refine Ab (Aa Ac rfl (qb rfl (qa rfl (Ad (Ab ?_)))))
 refine AO h (fun v1 => mk [(1, .e (.one (.ptr 1 0))), (16, .e (.one (.pure (.val (.bool v1)))))] [(1, .box [.pure (.sl (p0.fVersions.map Ai)), .pure (.sl (p0.fNow.map Ai)), .pure (.sl (p0.fTarget.map Ai)), .pure (.sl (p0.fTables.map Ao))])]) (fun j1 h => ?_) (fun v1 h => ?_)
 ·refine Aa Ac rfl (qf Bu rfl (ql Be rfl (AZ AI rfl (Fw rfl (qm rfl ?_)))))
  refine AE (t := 11) rfl (fun c2 => ?_) (fun c2 => ?_)
  ·have h := Am c2 h
   refine qn rfl (qn rfl (qn rfl (qn rfl (qp rfl (Ad ?_)))))
   exact Au _ h (sm [] _ _ rfl rfl)
  ·have h := An c2 h
   refine qf CS rfl (ql GZ rfl (AZ D9 rfl (Fw rfl (qp rfl (Ad ?_)))))
   exact Au _ h (sm [] _ _ rfl rfl)
 ·refine Ap rfl (fun c3 => ?_) (fun c3 => ?_)
  ·have h := Am c3 h
   refine Ab (Aa Ac rfl (qa rfl (Ad ?_)))
   obtain rfl := sj h
   refine Al (sm [] [(2, .e (.one (.pure (.val (.int .i64 3)))))] [] rfl rfl) (Az ?_)
   exact ⟨⟨[_], ⟨.tmp _ _ rfl, trivial⟩, rfl⟩, trivial⟩
  ·have h := An c3 h
   refine Ar (Ab ?_)
   refine AO h (fun v4 => mk [(1, .e (.one (.ptr 1 0))), (32, .e (.one (.pure (.val (.bool v4)))))] [(1, .box [.pure (.sl (p0.fVersions.map Ai)), .pure (.sl (p0.fNow.map Ai)), .pure (.sl (p0.fTarget.map Ai)), .pure (.sl (p0.fTables.map Ao))])]) (fun j4 h => ?_) (fun v4 h => ?_)
   ·refine Aa Ac rfl (qf Gy rfl (ql Be rfl (AZ AI rfl (qf Bu rfl (ql Be rfl (AZ AI rfl (Cw rfl (qm rfl ?_))))))))
    refine AE (t := 24) rfl (fun c5 => ?_) (fun c5 => ?_)
    ·have h := Am c5 h
     refine qn rfl (qn rfl (qn rfl (qn rfl (qn rfl (qn rfl (qn rfl (qp rfl (Ad ?_))))))))
     exact Au _ h (sm [] _ _ rfl rfl)
    ·have h := An c5 h
     refine qf Ji rfl (ql Be rfl (AZ AI rfl (qf Bu rfl (ql Be rfl (AZ AI rfl (Cw rfl (qp rfl (Ad ?_))))))))
     exact Au _ h (sm [] _ _ rfl rfl)
   ·refine Ap rfl (fun c6 => ?_) (fun c6 => ?_)
    ·have h := Am c6 h
     refine Ab (Aa Ac rfl (qa rfl (Ad ?_)))
     obtain rfl := sj h
     refine Al (sm [] [(2, .e (.one (.pure (.val (.int .i64 6)))))] [] rfl rfl) (Az ?_)
     exact ⟨⟨[_], ⟨.tmp _ _ rfl, trivial⟩, rfl⟩, trivial⟩
    ·have h := An c6 h
     refine Ar (Ab (Ab (Aa Ac rfl (qa rfl (Ad ?_)))))
     refine AJ (L := Bg N p0) h (fun v7 => mk [(1, .e (.one (.ptr 1 0))), (3, .e (.one (.pure (.val (.int .i64 v7)))))] [(1, .box [.pure (.sl (p0.fVersions.map Ai)), .pure (.sl (p0.fNow.map Ai)), .pure (.sl (p0.fTarget.map Ai)), .pure (.sl (p0.fTables.map Ao))])]) (fun v8 => mk [(1, .e (.one (.ptr 1 0)))] [(1, .box [.pure (.sl (p0.fVersions.map Ai)), .pure (.sl (p0.fNow.map Ai)), .pure (.sl (p0.fTarget.map Ai)), .pure (.sl (p0.fTables.map Ao))])]) (fun _ _ => rfl) (sm [] _ _ rfl rfl) (fun j7 n7 v7 h => ?_) (fun v8 s h hs => ?_)
     ·unfold Bg at h
      refine Ab (Ab (Aa Ac rfl (qm rfl (qf Bu rfl (ql Be rfl (AZ AI rfl (A2 rfl (Ad ?_))))))))
      refine Ap rfl (fun c9 => ?_) (fun c9 => ?_)
      ·have h := Am c9 h
       refine Ar (Ab (AN (Ab (Aa Ac rfl (qf Bu rfl (ql Be rfl (qm rfl ?_)))))))
       obtain ⟨v10, a10, b10, h⟩ := Aj h
       refine qi AI DP a10 (Ah b10) rfl (qk Cz rfl (qa rfl (Ad ?_)))
       refine AO h (fun v11 => mk [(1, .e (.one (.ptr 1 0))), (3, .e (.one (.pure (.val (.int .i64 v7))))), (84, .e (.one (.pure (.val (.bool v11)))))] [(1, .box [.pure (.sl (p0.fVersions.map Ai)), .pure (.sl (p0.fNow.map Ai)), .pure (.sl (p0.fTarget.map Ai)), .pure (.sl (p0.fTables.map Ao))])]) (fun j11 h => ?_) (fun v11 h => ?_)
       ·refine Aa Ac rfl (qm rfl (A2 rfl (qm rfl ?_)))
        refine AE (t := 47) rfl (fun c12 => ?_) (fun c12 => ?_)
        ·have h := Am c12 h
         refine qn rfl (qn rfl (qp rfl (qm rfl (qn rfl (qn rfl (qn rfl (qn rfl (qn rfl (qn rfl (qp rfl (qm rfl (qn rfl (qn rfl (qn rfl (qn rfl (qn rfl (qn rfl (qn rfl (qp rfl (qm rfl (qn rfl (qn rfl (qn rfl (qn rfl (qn rfl (qn rfl (qp rfl (qm rfl (qn rfl (qn rfl (qn rfl (qn rfl (qn rfl (qn rfl (qn rfl (qp rfl (Ad ?_)))))))))))))))))))))))))))))))))))))
         exact Au _ h (sm [] _ _ rfl rfl)
        ·have h := An c12 h
         refine qm rfl (Fw rfl (qp rfl (qm rfl ?_)))
         refine AE (t := 51) rfl (fun c13 => ?_) (fun c13 => ?_)
         ·have h := Am c13 h
          refine qn rfl (qn rfl (qn rfl (qn rfl (qn rfl (qn rfl (qp rfl (qm rfl (qn rfl (qn rfl (qn rfl (qn rfl (qn rfl (qn rfl (qn rfl (qp rfl (qm rfl (qn rfl (qn rfl (qn rfl (qn rfl (qn rfl (qn rfl (qp rfl (qm rfl (qn rfl (qn rfl (qn rfl (qn rfl (qn rfl (qn rfl (qn rfl (qp rfl (Ad ?_)))))))))))))))))))))))))))))))))
          exact Au _ h (sm [] _ _ rfl rfl)
         ·have h := An c13 h
          refine qf Gy rfl (ql Be rfl (qm rfl ?_))
          obtain ⟨v14, a14, b14, h⟩ := Aj h
          refine qi AI DP a14 (Ah b14) rfl (qk Cz rfl (A2 rfl (qp rfl (qm rfl ?_))))
          refine AE (t := 59) rfl (fun c15 => ?_) (fun c15 => ?_)
          ·have h := Am c15 h
           refine qn rfl (qn rfl (qn rfl (qn rfl (qn rfl (qn rfl (qn rfl (qp rfl (qm rfl (qn rfl (qn rfl (qn rfl (qn rfl (qn rfl (qn rfl (qp rfl (qm rfl (qn rfl (qn rfl (qn rfl (qn rfl (qn rfl (qn rfl (qn rfl (qp rfl (Ad ?_)))))))))))))))))))))))))
           exact Au _ h (sm [] _ _ rfl rfl)
          ·have h := An c15 h
           refine qf Gy rfl (ql Be rfl (qm rfl ?_))
           obtain ⟨v16, a16, b16, h⟩ := Aj h
           refine qi AI DP a16 (Ah b16) rfl (qk Cz rfl (qm rfl (Dx rfl (qp rfl (qm rfl ?_)))))
           refine AE (t := 68) rfl (fun c17 => ?_) (fun c17 => ?_)
           ·have h := Am c17 h
            refine qn rfl (qn rfl (qn rfl (qn rfl (qn rfl (qn rfl (qp rfl (qm rfl (qn rfl (qn rfl (qn rfl (qn rfl (qn rfl (qn rfl (qn rfl (qp rfl (Ad ?_))))))))))))))))
            exact Au _ h (sm [] _ _ rfl rfl)
           ·have h := An c17 h
            refine qf Ji rfl (ql Be rfl (qm rfl ?_))
            obtain ⟨v18, a18, b18, h⟩ := Aj h
            refine qi AI DP a18 (Ah b18) rfl (qk Cz rfl (A2 rfl (qp rfl (qm rfl ?_))))
            refine AE (t := 76) rfl (fun c19 => ?_) (fun c19 => ?_)
            ·have h := Am c19 h
             refine qn rfl (qn rfl (qn rfl (qn rfl (qn rfl (qn rfl (qn rfl (qp rfl (Ad ?_))))))))
             exact Au _ h (sm [] _ _ rfl rfl)
            ·have h := An c19 h
             refine qf Ji rfl (ql Be rfl (qm rfl ?_))
             obtain ⟨v20, a20, b20, h⟩ := Aj h
             refine qi AI DP a20 (Ah b20) rfl (qk Cz rfl (qm rfl (Dx rfl (qp rfl (Ad ?_)))))
             exact Au _ h (sm [] _ _ rfl rfl)
       ·refine Ap rfl (fun c21 => ?_) (fun c21 => ?_)
        ·have h := Am c21 h
         refine Ab (Aa Ac rfl (qa rfl (Ad ?_)))
         obtain rfl := sj h
         refine Al (sm [] [(2, .e (.one (.pure (.val (.int .i64 7)))))] [] rfl rfl) (Az ?_)
         exact ⟨⟨[_], ⟨.tmp _ _ rfl, trivial⟩, rfl⟩, trivial⟩
        ·have h := An c21 h
         refine Ar (Aa Ac rfl (qm rfl (AY rfl (qa rfl (Ad ?_)))))
         exact Au _ h (sm [] _ _ rfl rfl)
      ·have h := An c9 h
       refine AX ?_
       exact Au _ h (sm [] _ _ rfl rfl)
     ·refine Al hs (Ab (Ab (Aa Ac rfl (qa rfl (Ad ?_)))))
      refine AJ (L := Bd N p0) h (fun v22 => mk [(1, .e (.one (.ptr 1 0))), (5, .e (.one (.pure (.val (.int .i64 v22)))))] [(1, .box [.pure (.sl (p0.fVersions.map Ai)), .pure (.sl (p0.fNow.map Ai)), .pure (.sl (p0.fTarget.map Ai)), .pure (.sl (p0.fTables.map Ao))])]) (fun v23 => mk [] []) (fun _ _ => rfl) (sm [] _ _ rfl rfl) (fun j22 n22 v22 h => ?_) (fun v23 s h hs => ?_)
      ·unfold Bd at h
       refine Ab (Ab (Aa Ac rfl (qm rfl (qf CS rfl (ql GZ rfl (AZ D9 rfl (A2 rfl (Ad ?_))))))))
       refine Ap rfl (fun c24 => ?_) (fun c24 => ?_)
       ·have h := Am c24 h
        refine Ar (Ab (AN (Ab (Aa Ac rfl (qL D4 DQ rfl (qf CS rfl (ql GZ rfl (qm rfl ?_))))))))
        obtain ⟨v25, a25, b25, h⟩ := Aj h
        refine qi D9 D8 a25 (Ah b25) rfl (qK Hj D8 rfl ?_)
        obtain ⟨v26, a26, h⟩ := bind_some h
        refine AH [] (J6 N p0 v25 v26 a26) Wo rfl (qa rfl (AM (by kernel_rfl) (Ab (Aa Ac rfl (qm rfl (Cw rfl (Ad ?_)))))))
        refine Ap rfl (fun c27 => ?_) (fun c27 => ?_)
        ·have h := Am c27 h
         refine Ab (Aa Ac rfl (qm rfl (qa rfl (Ad ?_))))
         obtain rfl := sj h
         refine Al (sm [] [(2, .e (.one (.pure (.val (.int .i64 v26)))))] [] rfl rfl) (Az ?_)
         exact ⟨⟨[_], ⟨.tmp _ _ rfl, trivial⟩, rfl⟩, trivial⟩
        ·have h := An c27 h
         refine Ar (Aa Ac rfl (qm rfl (AY rfl (qa rfl (Ad ?_)))))
         exact Au _ h (sm [] _ _ rfl rfl)
       ·have h := An c24 h
        refine AX ?_
        exact Au _ h (sm [] _ _ rfl rfl)
      ·refine Al hs (Ab (Aa Ac rfl (qa rfl (Ad ?_))))
       obtain rfl := sj h
       refine Al (sm [] [(2, .e (.one (.pure (.val (.int .i64 0)))))] [] rfl rfl) (Az ?_)
       exact ⟨⟨[_], ⟨.tmp _ _ rfl, trivial⟩, rfl⟩, trivial⟩
end Go.Lift

/- That the code does what the shallow programs do, function by function. Written by a program (gen.py). -/
namespace Go.Lift
open Go.RowKit
open Go.Proofs
set_option maxRecDepth 10000 in
theorem HQ (N : Nat) (p0 : Ag) (r : Ae × Int) (h : DI N p0 = some r) : AC Tryz.prog 24 [.e (.agg [.pure (.sl (p0.fVersions.map Ai)), .pure (.sl (p0.fNow.map Ai)), .pure (.sl (p0.fTarget.map Ai)), .pure (.sl (p0.fTables.map Ao))])] [(1, r.1.fBase.map Ai), (1, r.1.fNext.map Ai), (1, r.1.fHeld.map Bb)] (.tup [.agg [.own 0, .own 1, .own 2], .one (.pure (.val (.int .i64 r.2)))]) := by
 unfold DI at h
 refine As (n := 68) (rs := [.cell 2 50, .tmp 3]) Tryz.func24 rfl rfl rfl (A5 rfl) (A5 rfl) rfl fun w0 S0 => ?_
 refine Ab (Aa Ac rfl (qb rfl (qz CX rfl (qa rfl (Ad (Ab (Ab (Aa Ac rfl (qL D4 DQ rfl ?_)))))))))
 obtain ⟨v1, a1, h⟩ := bind_some h
 refine AH [] (FU N p0 v1 a1) Vh rfl (qa rfl (Ad (Ab (Aa Ac rfl (qm rfl (Cw rfl (Ad ?_)))))))
 refine Ap rfl (fun c2 => ?_) (fun c2 => ?_)
 ·have h := Am c2 h
  refine Ab (Aa Ac rfl (BM CX HL rfl (qm rfl (qs Ax rfl (qa rfl (Ad ?_))))))
  obtain rfl := sj h
  refine Al ((AB 2 0 2001 1 _ rfl rfl rfl rfl).trans ((AB 2 1 2002 1 _ rfl rfl rfl rfl).trans ((AB 2 2 2003 1 _ rfl rfl rfl rfl).trans (sm [(1000, 2001), (1001, 2002), (1002, 2003)] [(2, .e (.one (.ptr 2 0))), (3, .e (.one (.pure (.val (.int .i64 v1)))))] [(2, .box [.own 1000, .own 1001, .own 1002]), (1000, .vec 1 ((([] : List Int)).map Ai)), (1001, .vec 1 ((([] : List Int)).map Ai)), (1002, .vec 1 ((([] : List Int)).map Bb))] rfl rfl)))) (Az ?_)
  exact ⟨⟨[_, _], ⟨.cellN _ _ _ _ _ _ _ rfl rfl A1 Ax rfl rfl (I7 rfl), ⟨.tmp _ _ rfl, trivial⟩⟩, rfl⟩, ⟨rfl, rfl, rfl, trivial⟩⟩
 ·have h := An c2 h
  refine Ar (Ab (Aa Ac rfl (qz CX rfl (Ad (Ab (Ab (Aa Ac rfl (qa rfl (Ad ?_)))))))))
  refine AJ (L := Ca N p0) h (fun v3 => mk [(1, .e (.one (.ptr 1 0))), (2, .e (.one (.ptr 2 0))), (5, .e (.one (.ptr 5 0))), (6, .e (.one (.pure (.val (.int .i64 v3.2.2)))))] [(1, .box [.pure (.sl (p0.fVersions.map Ai)), .pure (.sl (p0.fNow.map Ai)), .pure (.sl (p0.fTarget.map Ai)), .pure (.sl (p0.fTables.map Ao))]), (2, .box [.pure (.nil0), .pure (.nil0), .pure (.nil0)]), (5, .box [.own 2004, .own 2005, .pure (.nil0)]), (2004, .vec 1 (v3.1.map Ai)), (2005, .vec 1 (v3.2.1.map Ai))]) (fun v4 => mk [(1, .e (.one (.ptr 1 0))), (2, .e (.one (.ptr 2 0))), (5, .e (.one (.ptr 5 0)))] [(1, .box [.pure (.sl (p0.fVersions.map Ai)), .pure (.sl (p0.fNow.map Ai)), .pure (.sl (p0.fTarget.map Ai)), .pure (.sl (p0.fTables.map Ao))]), (2, .box [.pure (.nil0), .pure (.nil0), .pure (.nil0)]), (5, .box [.own 2006, .own 2007, .pure (.nil0)]), (2006, .vec 1 (v4.1.map Ai)), (2007, .vec 1 (v4.2.map Ai))]) (fun _ _ => rfl) ((AB 5 0 2008 1 _ rfl rfl rfl rfl).trans ((AB 5 1 2009 1 _ rfl rfl rfl rfl).trans (sm [(2004, 2008), (2005, 2009)] _ _ rfl rfl))) (fun j3 n3 v3 h => ?_) (fun v4 s h hs => ?_)
  ·unfold Ca at h
   refine Ab (Ab (Aa Ac rfl (qm rfl (qf Bu rfl (ql Be rfl (AZ AI rfl (A2 rfl (Ad ?_))))))))
   refine Ap rfl (fun c5 => ?_) (fun c5 => ?_)
   ·have h := Am c5 h
    refine Ar (Ab (AN (Ab (Aa Ac rfl (qf Db rfl (ql Be rfl (qf Gy rfl (ql Be rfl (qm rfl ?_)))))))))
    obtain ⟨v6, a6, b6, h⟩ := Aj h
    refine qi AI DP a6 (Ah b6) rfl (qk Cz rfl (Ep AI DP KI rfl ?_))
    obtain ⟨c7, h⟩ := AK h
    refine Dw (f := Ai) AI AI DP L2 KI c7 rfl (qf Db rfl (qs RW rfl (AM (by kernel_rfl) (Aa Ac rfl (qf BG rfl (ql Be rfl (Ep AI DP KI rfl ?_)))))))
    obtain ⟨c8, h⟩ := AK h
    refine Dw (f := Ai) AI AI DP L2 KI c8 rfl (qf BG rfl (qs RW rfl (Ad (Aa Ac rfl (qm rfl (AY rfl (qa rfl (Ad ?_))))))))
    exact Au _ h (sm [(2004, 30), (2005, 35)] _ _ rfl rfl)
   ·have h := An c5 h
    refine AX ?_
    exact Au _ h (sm [(2006, 2004), (2007, 2005)] _ _ rfl rfl)
  ·refine Al hs (Ab (Ab (Aa Ac rfl (qa rfl (Ad ?_)))))
   refine AJ (L := Bh N p0) h (fun v9 => mk [(1, .e (.one (.ptr 1 0))), (2, .e (.one (.ptr 2 0))), (5, .e (.one (.ptr 5 0))), (7, .e (.one (.pure (.val (.int .i64 v9.2)))))] [(1, .box [.pure (.sl (p0.fVersions.map Ai)), .pure (.sl (p0.fNow.map Ai)), .pure (.sl (p0.fTarget.map Ai)), .pure (.sl (p0.fTables.map Ao))]), (2, .box [.pure (.nil0), .pure (.nil0), .pure (.nil0)]), (5, .box [.own 2010, .own 2011, .own 2012]), (2010, .vec 1 (v4.1.map Ai)), (2011, .vec 1 (v4.2.map Ai)), (2012, .vec 1 (v9.1.map Bb))]) (fun v10 => mk [(2, .e (.one (.ptr 2 0))), (5, .e (.one (.ptr 5 0)))] [(2, .box [.pure (.nil0), .pure (.nil0), .pure (.nil0)]), (5, .box [.own 2013, .own 2014, .own 2015]), (2013, .vec 1 (v4.1.map Ai)), (2014, .vec 1 (v4.2.map Ai)), (2015, .vec 1 (v10.map Bb))]) (fun _ _ => rfl) ((AB 5 2 2019 1 _ rfl rfl rfl rfl).trans (sm [(2010, 2006), (2011, 2007), (2012, 2019)] _ _ rfl rfl)) (fun j9 n9 v9 h => ?_) (fun v10 s h hs => ?_)
   ·unfold Bh at h
    refine Ab (Ab (Aa Ac rfl (qm rfl (qf CS rfl (ql GZ rfl (AZ D9 rfl (A2 rfl (Ad ?_))))))))
    refine Ap rfl (fun c11 => ?_) (fun c11 => ?_)
    ·have h := Am c11 h
     refine Ar (Ab (AN (Ab (Aa Ac rfl (qa rfl (Ad ?_))))))
     refine AO h (fun v12 => mk [(1, .e (.one (.ptr 1 0))), (2, .e (.one (.ptr 2 0))), (5, .e (.one (.ptr 5 0))), (7, .e (.one (.pure (.val (.int .i64 v9.2))))), (8, .e (.one (.pure (.val (.int .u8 v12)))))] [(1, .box [.pure (.sl (p0.fVersions.map Ai)), .pure (.sl (p0.fNow.map Ai)), .pure (.sl (p0.fTarget.map Ai)), .pure (.sl (p0.fTables.map Ao))]), (2, .box [.pure (.nil0), .pure (.nil0), .pure (.nil0)]), (5, .box [.own 2016, .own 2017, .own 2018]), (2016, .vec 1 (v4.1.map Ai)), (2017, .vec 1 (v4.2.map Ai)), (2018, .vec 1 (v9.1.map Bb))]) (fun j12 h => ?_) (fun v12 h => ?_)
     ·refine Ab (Aa Ac rfl (qf CS rfl (ql GZ rfl (qm rfl ?_))))
      obtain ⟨v13, a13, b13, h⟩ := Aj h
      refine qi D9 D8 a13 (Ah b13) rfl (qK Hj D8 rfl ?_)
      obtain ⟨v14, a14, h⟩ := bind_some h
      refine AH [] (Cg N v13 v14 a14) ON rfl (Ad ?_)
      refine Ap rfl (fun c15 => ?_) (fun c15 => ?_)
      ·have h := Am c15 h
       refine Aa Ac rfl (qf Gy rfl (ql Be rfl (qf CS rfl (ql GZ rfl (qm rfl ?_)))))
       obtain ⟨v16, a16, b16, h⟩ := Aj h
       refine qi D9 D8 a16 (Ah b16) rfl (qg De rfl (qk Cz rfl ?_))
       obtain ⟨v17, a17, b17, h⟩ := Aj h
       refine qi AI DP a17 (Ah b17) rfl (qk Cz rfl ?_)
       obtain ⟨c18, h⟩ := AK h
       refine HF rfl c18 (qa rfl (AM (by kernel_rfl) ?_))
       exact Au _ h (sm [(2016, 2010), (2017, 2011), (2018, 2012)] _ _ rfl rfl)
      ·have h := An c15 h
       refine Ar ?_
       exact Au _ h (sm [(2016, 2010), (2017, 2011), (2018, 2012)] _ _ rfl rfl)
     ·refine Aa Ac rfl (qf CT rfl (ql G6 rfl (qm rfl (Ep Dm FG Oi rfl ?_))))
      obtain ⟨c19, h⟩ := AK h
      refine Dw (f := Bb) Dm Dm FG PM Oi c19 rfl (qf CT rfl (qs Wn rfl (Ad (Aa Ac rfl (qm rfl (AY rfl (qa rfl (Ad ?_))))))))
      exact Au _ h (sm [(2010, 2016), (2011, 2017), (2012, 65)] _ _ rfl rfl)
    ·have h := An c11 h
     refine AX ?_
     exact Au _ h (sm [(2013, 2010), (2014, 2011), (2015, 2012)] _ _ rfl rfl)
   ·refine Al hs (Ab (Aa Ac rfl (qL A1 Ax rfl (qs Ax rfl (qa rfl (Ad ?_))))))
    obtain rfl := sj h
    refine Al (sm [(1000, 2013), (1001, 2014), (1002, 2015)] [(2, .e (.one (.ptr 2 0))), (3, .e (.one (.pure (.val (.int .i64 0)))))] [(2, .box [.own 1000, .own 1001, .own 1002]), (1000, .vec 1 (v4.1.map Ai)), (1001, .vec 1 (v4.2.map Ai)), (1002, .vec 1 (v10.map Bb))] rfl rfl) (Az ?_)
    exact ⟨⟨[_, _], ⟨.cellN _ _ _ _ _ _ _ rfl rfl A1 Ax rfl rfl (I7 rfl), ⟨.tmp _ _ rfl, trivial⟩⟩, rfl⟩, ⟨rfl, rfl, rfl, trivial⟩⟩
set_option maxRecDepth 10000 in
theorem JA (N : Nat) (p0 : Ae) (r : Ae) (h : Ec N p0 = some r) : AC Tryz.prog 67 [.e (.agg [.pure (.sl (p0.fBase.map Ai)), .pure (.sl (p0.fNext.map Ai)), .pure (.sl (p0.fHeld.map Bb))])] [(1, r.fBase.map Ai), (1, r.fNext.map Ai), (1, r.fHeld.map Bb)] (.e (.agg [.own 0, .own 1, .own 2])) := by
 unfold Ec at h
 refine As (n := 16) (rs := [.cell 2 50]) Tryz.func67 rfl rfl rfl (A5 rfl) (A5 rfl) rfl fun w0 S0 => ?_
 refine Ab (Aa Ac rfl (qb rfl (qz CX rfl (Ad (Ab (Aa Ac rfl (Ep AI DP KI rfl (qf Db rfl (ql Be rfl ?_)))))))))
 obtain ⟨c1, h⟩ := AK h
 refine Jf (f := Ai) AI AI DP L2 KI (fun _ => rfl) c1 rfl (Ep AI DP KI rfl (qf BG rfl (ql Be rfl ?_)))
 obtain ⟨c2, h⟩ := AK h
 refine Jf (f := Ai) AI AI DP L2 KI (fun _ => rfl) c2 rfl (Ep Dm FG Oi rfl (qf CT rfl (ql G6 rfl ?_)))
 obtain ⟨c3, h⟩ := AK h
 refine Jf (f := Bb) Dm Dm FG PM Oi (fun _ => rfl) c3 rfl (BM CX HL rfl (qs Ax rfl (AM (by kernel_rfl) ?_)))
 obtain rfl := sj h
 refine Al (sm [(1000, 6), (1001, 10), (1002, 14)] [(2, .e (.one (.ptr 2 0)))] [(2, .box [.own 1000, .own 1001, .own 1002]), (1000, .vec 1 (((([] : List Int)) ++ p0.fBase).map Ai)), (1001, .vec 1 (((([] : List Int)) ++ p0.fNext).map Ai)), (1002, .vec 1 (((([] : List Int)) ++ p0.fHeld).map Bb))] rfl rfl) (Az ?_)
 exact ⟨⟨[_], ⟨.cellN _ _ _ _ _ _ _ rfl rfl A1 Ax rfl rfl (I7 rfl), trivial⟩, rfl⟩, ⟨rfl, rfl, rfl, trivial⟩⟩
set_option maxRecDepth 10000 in
theorem K1 (N : Nat) (p0 : Ae) (r : (List Ae)) (h : Ee N p0 = some r) : AC Tryz.prog 43 [.e (.agg [.pure (.sl (p0.fBase.map Ai)), .pure (.sl (p0.fNext.map Ai)), .pure (.sl (p0.fHeld.map Bb))])] [(3, r.map Af)] (.e (.one (.own 0))) := by
 unfold Ee at h
 refine As (n := 62) (rs := [.tmp 2]) Tryz.func43 rfl rfl rfl (A5 rfl) (A5 rfl) rfl fun w0 S0 => ?_
 refine Ab (Aa Ac rfl (qb rfl (qa rfl (Ad (Ab (Aa Ac rfl (qa rfl (Ad (Ab (Ab (Aa Ac rfl (qa rfl (Ad ?_)))))))))))))
 refine AJ (L := CA N p0) h (fun v1 => mk [(1, .e (.one (.ptr 1 0))), (3, .e (.one (.pure (.val (.int .i64 v1.1))))), (4, .e (.one (.pure (.val (.int .i64 v1.2)))))] [(1, .box [.pure (.sl (p0.fBase.map Ai)), .pure (.sl (p0.fNext.map Ai)), .pure (.sl (p0.fHeld.map Bb))])]) (fun v2 => mk [(1, .e (.one (.ptr 1 0))), (3, .e (.one (.pure (.val (.int .i64 v2)))))] [(1, .box [.pure (.sl (p0.fBase.map Ai)), .pure (.sl (p0.fNext.map Ai)), .pure (.sl (p0.fHeld.map Bb))])]) (fun _ _ => rfl) (sm [] _ _ rfl rfl) (fun j1 n1 v1 h => ?_) (fun v2 s h hs => ?_)
 ·unfold CA at h
  refine Ab (Ab (Aa Ac rfl (qm rfl (qf BG rfl (ql Be rfl (AZ AI rfl (A2 rfl (Ad ?_))))))))
  refine Ap rfl (fun c3 => ?_) (fun c3 => ?_)
  ·have h := Am c3 h
   refine Ar ?_
   refine AO h (fun v4 => mk [(1, .e (.one (.ptr 1 0))), (3, .e (.one (.pure (.val (.int .i64 v4))))), (4, .e (.one (.pure (.val (.int .i64 v1.2)))))] [(1, .box [.pure (.sl (p0.fBase.map Ai)), .pure (.sl (p0.fNext.map Ai)), .pure (.sl (p0.fHeld.map Bb))])]) (fun j4 h => ?_) (fun v4 h => ?_)
   ·refine AN (Ab (Aa Ac rfl (qf BG rfl (ql Be rfl (qm rfl ?_)))))
    obtain ⟨v5, a5, b5, h⟩ := Aj h
    refine qi AI DP a5 (Ah b5) rfl (qk Cz rfl (Dx rfl (Ad ?_)))
    refine Ap rfl (fun c6 => ?_) (fun c6 => ?_)
    ·have h := Am c6 h
     refine Aa Ac rfl (qm rfl (AY rfl (qa rfl (Ad ?_))))
     exact Au _ h (sm [] _ _ rfl rfl)
    ·have h := An c6 h
     refine Ar ?_
     exact Au _ h (sm [] _ _ rfl rfl)
   ·refine Aa Ac rfl (qm rfl (AY rfl (qa rfl (Ad ?_))))
    exact Au _ h (sm [] _ _ rfl rfl)
  ·have h := An c3 h
   refine AX ?_
   exact Au _ h (sm [] _ _ rfl rfl)
 ·refine Al hs (Ab (Aa Ac rfl (qa rfl (Ad (Ab (Ab (Aa Ac rfl (qa rfl (Ad ?_)))))))))
  refine AJ (L := Bz N p0 v2) h (fun v7 => mk [(1, .e (.one (.ptr 1 0))), (3, .e (.one (.pure (.val (.int .i64 v2))))), (5, .e (.one (.own 2001))), (6, .e (.one (.pure (.val (.int .i64 v7.2)))))] [(1, .box [.pure (.sl (p0.fBase.map Ai)), .pure (.sl (p0.fNext.map Ai)), .pure (.sl (p0.fHeld.map Bb))]), (2001, .vec 3 (v7.1.map Af))]) (fun v8 => mk [(5, .e (.one (.own 2002)))] [(2002, .vec 3 (v8.map Af))]) (fun _ _ => rfl) ((Bf 5 2022 3 rfl rfl rfl).trans (sm [(2001, 2022)] _ _ rfl rfl)) (fun j7 n7 v7 h => ?_) (fun v8 s h hs => ?_)
  ·unfold Bz at h
   refine Ab (Ab (Aa Ac rfl (qm rfl (qm rfl ?_))))
   obtain ⟨c9, h⟩ := AK h
   refine HF rfl c9 (A2 rfl (Ad ?_))
   refine Ap rfl (fun c10 => ?_) (fun c10 => ?_)
   ·have h := Am c10 h
    refine Ar (Ab (AN (Ab (Aa Ac rfl (qL A1 Ax rfl ?_)))))
    obtain ⟨v11, a11, h⟩ := bind_some h
    refine AH [2003, 2004, 2005] (JA N p0 v11 a11) WY rfl (qz CX rfl (qs Ax rfl (Ad (Ab (Aa Ac rfl (qa rfl (Ad (Ab (Ab (Aa Ac rfl (qa rfl (Ad ?_))))))))))))
    refine AJ (L := BS N p0 v7) h (fun v12 => mk [(1, .e (.one (.ptr 1 0))), (3, .e (.one (.pure (.val (.int .i64 v2))))), (5, .e (.one (.own 2009))), (6, .e (.one (.pure (.val (.int .i64 v7.2))))), (7, .e (.one (.ptr 7 0))), (8, .e (.one (.pure (.val (.int .i64 v12.2.1))))), (9, .e (.one (.pure (.val (.int .i64 v12.2.2)))))] [(1, .box [.pure (.sl (p0.fBase.map Ai)), .pure (.sl (p0.fNext.map Ai)), .pure (.sl (p0.fHeld.map Bb))]), (7, .box [.own 2006, .own 2007, .own 2008]), (2006, .vec 1 (v11.fBase.map Ai)), (2007, .vec 1 (v12.1.map Ai)), (2008, .vec 1 (v11.fHeld.map Bb)), (2009, .vec 3 (v7.1.map Af))]) (fun v13 => mk [(1, .e (.one (.ptr 1 0))), (3, .e (.one (.pure (.val (.int .i64 v2))))), (5, .e (.one (.own 2013))), (6, .e (.one (.pure (.val (.int .i64 v7.2))))), (7, .e (.one (.ptr 7 0)))] [(1, .box [.pure (.sl (p0.fBase.map Ai)), .pure (.sl (p0.fNext.map Ai)), .pure (.sl (p0.fHeld.map Bb))]), (7, .box [.own 2010, .own 2011, .own 2012]), (2010, .vec 1 (v11.fBase.map Ai)), (2011, .vec 1 (v13.map Ai)), (2012, .vec 1 (v11.fHeld.map Bb)), (2013, .vec 3 (v7.1.map Af))]) (fun _ _ => rfl) (sm [(2006, 2003), (2007, 2004), (2008, 2005), (2009, 2001)] _ _ rfl rfl) (fun j12 n12 v12 h => ?_) (fun v13 s h hs => ?_)
    ·unfold BS at h
     refine Ab (Ab (Aa Ac rfl (qm rfl (qf BG rfl (ql Be rfl (AZ AI rfl (A2 rfl (Ad ?_))))))))
     refine Ap rfl (fun c14 => ?_) (fun c14 => ?_)
     ·have h := Am c14 h
      refine Ar ?_
      refine AO h (fun v15 => mk [(1, .e (.one (.ptr 1 0))), (3, .e (.one (.pure (.val (.int .i64 v2))))), (5, .e (.one (.own 2017))), (6, .e (.one (.pure (.val (.int .i64 v7.2))))), (7, .e (.one (.ptr 7 0))), (8, .e (.one (.pure (.val (.int .i64 v15.2))))), (9, .e (.one (.pure (.val (.int .i64 v12.2.2)))))] [(1, .box [.pure (.sl (p0.fBase.map Ai)), .pure (.sl (p0.fNext.map Ai)), .pure (.sl (p0.fHeld.map Bb))]), (7, .box [.own 2014, .own 2015, .own 2016]), (2014, .vec 1 (v11.fBase.map Ai)), (2015, .vec 1 (v15.1.map Ai)), (2016, .vec 1 (v11.fHeld.map Bb)), (2017, .vec 3 (v7.1.map Af))]) (fun j15 h => ?_) (fun v15 h => ?_)
      ·refine AN (Ab (Ab (Aa Ac rfl (qf BG rfl (ql Be rfl (qm rfl ?_))))))
       obtain ⟨v16, a16, b16, h⟩ := Aj h
       refine qi AI DP a16 (Ah b16) rfl (qk Cz rfl (A2 rfl (Ad ?_)))
       refine Ap rfl (fun c17 => ?_) (fun c17 => ?_)
       ·have h := Am c17 h
        refine AX ?_
        exact Au _ h (sm [(2014, 2006), (2015, 2007), (2016, 2008), (2017, 2009)] _ _ rfl rfl)
       ·have h := An c17 h
        refine Ar ?_
        refine AO h (fun v18 => mk [(1, .e (.one (.ptr 1 0))), (3, .e (.one (.pure (.val (.int .i64 v2))))), (5, .e (.one (.own 2021))), (6, .e (.one (.pure (.val (.int .i64 v7.2))))), (7, .e (.one (.ptr 7 0))), (8, .e (.one (.pure (.val (.int .i64 v12.2.1))))), (9, .e (.one (.pure (.val (.int .i64 v12.2.2)))))] [(1, .box [.pure (.sl (p0.fBase.map Ai)), .pure (.sl (p0.fNext.map Ai)), .pure (.sl (p0.fHeld.map Bb))]), (7, .box [.own 2018, .own 2019, .own 2020]), (2018, .vec 1 (v11.fBase.map Ai)), (2019, .vec 1 (v18.map Ai)), (2020, .vec 1 (v11.fHeld.map Bb)), (2021, .vec 3 (v7.1.map Af))]) (fun j18 h => ?_) (fun v18 h => ?_)
        ·refine Ab (Aa Ac rfl (qm rfl (qm rfl ?_)))
         obtain ⟨c19, h⟩ := AK h
         refine GX rfl c19 (JN rfl (by decide) (BK rfl (Ad ?_)))
         refine Ap rfl (fun c20 => ?_) (fun c20 => ?_)
         ·have h := Am c20 h
          refine Aa Ac rfl (qf BG rfl (ql Be rfl (qm rfl ?_)))
          obtain ⟨v21, a21, b21, h⟩ := Aj h
          refine qI AI DP a21 (Ah b21) rfl ?_
          refine A7 rfl rfl rfl rfl (Ah b21) rfl DP rfl (A5 rfl) (A8 Ai v12.1 _ ((-1))) ?_
          refine Ad ?_
          exact Au _ h (sm [(2018, 2006), (2019, 2007), (2020, 2008), (2021, 2009)] _ _ rfl rfl)
         ·have h := An c20 h
          refine Ar ?_
          exact Au _ h (sm [(2018, 2006), (2019, 2007), (2020, 2008), (2021, 2009)] _ _ rfl rfl)
        ·refine Aa Ac rfl (qm rfl (AY rfl (qa rfl (Ad ?_))))
         exact Au _ h (sm [(2014, 2018), (2015, 2019), (2016, 2020), (2017, 2021)] _ _ rfl rfl)
      ·refine Aa Ac rfl (qm rfl (AY rfl (qa rfl (Ad ?_))))
       exact Au _ h (sm [(2006, 2014), (2007, 2015), (2008, 2016), (2009, 2017)] _ _ rfl rfl)
     ·have h := An c14 h
      refine AX ?_
      exact Au _ h (sm [(2010, 2006), (2011, 2007), (2012, 2008), (2013, 2009)] _ _ rfl rfl)
    ·refine Al hs (Aa Ac rfl (qm rfl (qL A1 Ax rfl (DC (Bc 2010 _ _ rfl rfl) (DC (Bc 2011 _ _ rfl rfl) (DC (Bc 2012 _ _ rfl rfl) (Ep AP Ax CX rfl ?_)))))))
     obtain ⟨c22, h⟩ := AK h
     refine Dw (f := Af) AP AP Ax NU CX c22 rfl (qa rfl (Ad (Aa Ac rfl (qm rfl (AY rfl (qa rfl (Ad ?_)))))))
     exact Au _ h (sm [(2001, 60)] _ _ rfl rfl)
   ·have h := An c10 h
    refine AX ?_
    exact Au _ h (sm [(2002, 2001)] _ _ rfl rfl)
  ·refine Al hs (Ab (Aa Ac rfl (qm rfl (qa rfl (Ad ?_)))))
   obtain rfl := sj h
   refine Al (sm [(1000, 2002)] [(2, .e (.one (.own 1000)))] [(1000, .vec 3 (v8.map Af))] rfl rfl) (Az ?_)
   exact ⟨⟨[_], ⟨.tmp _ _ rfl, trivial⟩, rfl⟩, ⟨rfl, trivial⟩⟩
set_option maxRecDepth 10000 in
theorem Ea (N : Nat) (p0 : Ae) (p1 : Int) (r : Int) (h : BT N p0 p1 = some r) : AC Tryz.prog 52 [.e (.agg [.pure (.sl (p0.fBase.map Ai)), .pure (.sl (p0.fNext.map Ai)), .pure (.sl (p0.fHeld.map Bb))]), .e (.one (.pure (.val (.int .i64 p1))))] [] (.e (.one (.pure (.val (.int .u8 r))))) := by
 unfold BT at h
 refine As (n := 27) (rs := [.tmp 4]) Tryz.func52 rfl rfl rfl (A5 rfl) (A5 rfl) rfl fun w0 S0 => ?_
 refine Ab (Aa Ac rfl (qb rfl (qa rfl (Ad (Ab (Aa Ac rfl (qf Db rfl (ql Be rfl (qm rfl ?_)))))))))
 obtain ⟨v1, a1, b1, h⟩ := Aj h
 refine qi AI DP a1 (Ah b1) rfl (qk Cz rfl ?_)
 obtain ⟨c2, h⟩ := AK h
 refine HF rfl c2 (qa rfl (Ad ?_))
 refine AO h (fun v3 => mk [(5, .e (.one (.pure (.val (.int .u8 v3)))))] []) (fun j3 h => ?_) (fun v3 h => ?_)
 ·refine Ab (Aa Ac rfl (qf BG rfl (ql Be rfl (qm rfl ?_))))
  obtain ⟨v4, a4, b4, h⟩ := Aj h
  refine qi AI DP a4 (Ah b4) rfl (qk Cz rfl (Dx rfl (Ad ?_)))
  refine Ap rfl (fun c5 => ?_) (fun c5 => ?_)
  ·have h := Am c5 h
   refine Aa Ac rfl (qm rfl (qf BG rfl (ql Be rfl (qm rfl ?_))))
   obtain ⟨v6, a6, b6, h⟩ := Aj h
   refine qi AI DP a6 (Ah b6) rfl (qk Cz rfl ?_)
   obtain ⟨c7, h⟩ := AK h
   refine HF rfl c7 (SE rfl (qa rfl (Ad ?_)))
   exact Au _ h (sm [] _ _ rfl rfl)
  ·have h := An c5 h
   refine Ar ?_
   exact Au _ h (sm [] _ _ rfl rfl)
 ·refine Ab (Aa Ac rfl (qm rfl (qa rfl (Ad ?_))))
  obtain rfl := sj h
  refine Al (sm [] [(4, .e (.one (.pure (.val (.int .u8 v3)))))] [] rfl rfl) (Az ?_)
  exact ⟨⟨[_], ⟨.tmp _ _ rfl, trivial⟩, rfl⟩, trivial⟩
set_option maxRecDepth 10000 in
theorem FM (N : Nat) (p0 : Int) (p1 : Int) (r : Bool) (h : Cs N p0 p1 = some r) : AC Tryz.prog 53 [.e (.one (.pure (.val (.int .u8 p0)))), .e (.one (.pure (.val (.int .i64 p1))))] [] (.e (.one (.pure (.val (.bool r))))) := by
 unfold Cs at h
 refine As (n := 10) (rs := [.tmp 4]) Tryz.func53 rfl rfl rfl (A5 rfl) (A5 rfl) rfl fun w0 S0 => ?_
 refine Ab (Aa Ac rfl (qa rfl (Ad (Ab (Aa Ac rfl (qm rfl (qm rfl ?_)))))))
 obtain ⟨c1, h⟩ := AK h
 refine GX rfl c1 (KE rfl (BK rfl (qa rfl (Ad ?_))))
 obtain rfl := sj h
 refine Al (sm [] [(4, .e (.one (.pure (.val (.bool (((FI .u8 ((En .u8 p0 p1)) 1) == 1)))))))] [] rfl rfl) (Az ?_)
 exact ⟨⟨[_], ⟨.tmp _ _ rfl, trivial⟩, rfl⟩, trivial⟩
set_option maxRecDepth 10000 in
theorem J7 (N : Nat) (p0 : Ag) (p1 : Ae) (r : (List Av)) (h : Eo N p0 p1 = some r) : AC Tryz.prog 69 [.e (.agg [.pure (.sl (p0.fVersions.map Ai)), .pure (.sl (p0.fNow.map Ai)), .pure (.sl (p0.fTarget.map Ai)), .pure (.sl (p0.fTables.map Ao))]), .e (.agg [.pure (.sl (p1.fBase.map Ai)), .pure (.sl (p1.fNext.map Ai)), .pure (.sl (p1.fHeld.map Bb))])] [(3, r.map A3)] (.e (.one (.own 0))) := by
 unfold Eo at h
 refine As (n := 111) (rs := [.tmp 4]) Tryz.func69 rfl rfl rfl (A5 rfl) (A5 rfl) rfl fun w0 S0 => ?_
 refine Ab (Aa Ac rfl (qb rfl (qb rfl (qa rfl (Ad (Ab (Aa Ac rfl (qa rfl (Ad (Ab (Ab (Aa Ac rfl (qa rfl (Ad ?_))))))))))))))
 refine AJ (L := CH N p0 p1) h (fun v1 => mk [(2, .e (.one (.ptr 2 0))), (3, .e (.one (.ptr 3 0))), (5, .e (.one (.own 2001))), (6, .e (.one (.pure (.val (.int .i64 v1.2)))))] [(2, .box [.pure (.sl (p0.fVersions.map Ai)), .pure (.sl (p0.fNow.map Ai)), .pure (.sl (p0.fTarget.map Ai)), .pure (.sl (p0.fTables.map Ao))]), (3, .box [.pure (.sl (p1.fBase.map Ai)), .pure (.sl (p1.fNext.map Ai)), .pure (.sl (p1.fHeld.map Bb))]), (2001, .vec 3 (v1.1.map A3))]) (fun v2 => mk [(5, .e (.one (.own 2002)))] [(2002, .vec 3 (v2.map A3))]) (fun _ _ => rfl) ((Bf 5 2013 3 rfl rfl rfl).trans (sm [(2001, 2013)] _ _ rfl rfl)) (fun j1 n1 v1 h => ?_) (fun v2 s h hs => ?_)
 ·unfold CH at h
  refine Ab (Ab (Aa Ac rfl (qm rfl (qf CS rfl (ql GZ rfl (AZ D9 rfl (A2 rfl (Ad ?_))))))))
  refine Ap rfl (fun c3 => ?_) (fun c3 => ?_)
  ·have h := Am c3 h
   refine Ar (Ab (AN (Ab (Aa Ac rfl (qf CS rfl (ql GZ rfl (qm rfl ?_)))))))
   obtain ⟨v4, a4, b4, h⟩ := Aj h
   refine qi D9 D8 a4 (Ah b4) rfl (qK Hj D8 rfl (qz J4 rfl (qs D8 rfl (Ad (Ab (Aa Ac rfl (qL A1 Ax rfl (qf De rfl (ql Cz rfl ?_)))))))))
   obtain ⟨v5, a5, h⟩ := bind_some h
   refine AH [] (Ea N p1 v4.fFrom v5 a5) RZ rfl (qa rfl (Ad ?_))
   refine AO h (fun v6 => mk [(2, .e (.one (.ptr 2 0))), (3, .e (.one (.ptr 3 0))), (5, .e (.one (.own 2003))), (6, .e (.one (.pure (.val (.int .i64 v1.2))))), (7, .e (.one (.ptr 7 0))), (8, .e (.one (.pure (.val (.int .u8 v6)))))] [(2, .box [.pure (.sl (p0.fVersions.map Ai)), .pure (.sl (p0.fNow.map Ai)), .pure (.sl (p0.fTarget.map Ai)), .pure (.sl (p0.fTables.map Ao))]), (3, .box [.pure (.sl (p1.fBase.map Ai)), .pure (.sl (p1.fNext.map Ai)), .pure (.sl (p1.fHeld.map Bb))]), (7, .box [.pure (.val (.int .i64 v4.fKind)), .pure (.val (.int .i64 v4.fFrom)), .pure (.val (.int .i64 v4.fTo)), .pure (.val (.bool v4.fAware)), .pure (.sl (v4.fOK.map (ER eB))), .pure (.sl (v4.fRewrite.map (ER eB)))]), (2003, .vec 3 (v1.1.map A3))]) (fun j6 h => ?_) (fun v6 h => ?_)
   ·refine Ab (Aa Ac rfl (qL Hj D8 rfl ?_))
    obtain ⟨v7, a7, h⟩ := bind_some h
    refine AH [] (Cg N v4 v7 a7) ON rfl (Ad ?_)
    refine Ap rfl (fun c8 => ?_) (fun c8 => ?_)
    ·have h := Am c8 h
     refine Aa Ac rfl (qf CT rfl (ql G6 rfl (qm rfl ?_)))
     obtain ⟨v9, a9, b9, h⟩ := Aj h
     refine qi Dm FG a9 (Ah b9) rfl (qk Ju rfl (qa rfl (Ad ?_)))
     exact Au _ h (sm [(2003, 2001)] _ _ rfl rfl)
    ·have h := An c8 h
     refine Ar ?_
     exact Au _ h (sm [(2003, 2001)] _ _ rfl rfl)
   ·refine Ab (Aa Ac rfl (qa rfl (Ad ?_)))
    refine AJ (L := BC N p0 p1 v1 v4 v6) h (fun v10 => mk [(2, .e (.one (.ptr 2 0))), (3, .e (.one (.ptr 3 0))), (5, .e (.one (.own 2004))), (6, .e (.one (.pure (.val (.int .i64 v1.2))))), (7, .e (.one (.ptr 7 0))), (8, .e (.one (.pure (.val (.int .u8 v6))))), (9, .e (.one (.pure (.val (.int .i64 v10.2)))))] [(2, .box [.pure (.sl (p0.fVersions.map Ai)), .pure (.sl (p0.fNow.map Ai)), .pure (.sl (p0.fTarget.map Ai)), .pure (.sl (p0.fTables.map Ao))]), (3, .box [.pure (.sl (p1.fBase.map Ai)), .pure (.sl (p1.fNext.map Ai)), .pure (.sl (p1.fHeld.map Bb))]), (7, .box [.pure (.val (.int .i64 v4.fKind)), .pure (.val (.int .i64 v4.fFrom)), .pure (.val (.int .i64 v4.fTo)), .pure (.val (.bool v4.fAware)), .pure (.sl (v4.fOK.map (ER eB))), .pure (.sl (v4.fRewrite.map (ER eB)))]), (2004, .vec 3 (v10.1.map A3))]) (fun v11 => mk [(2, .e (.one (.ptr 2 0))), (3, .e (.one (.ptr 3 0))), (5, .e (.one (.own 2005))), (6, .e (.one (.pure (.val (.int .i64 v1.2)))))] [(2, .box [.pure (.sl (p0.fVersions.map Ai)), .pure (.sl (p0.fNow.map Ai)), .pure (.sl (p0.fTarget.map Ai)), .pure (.sl (p0.fTables.map Ao))]), (3, .box [.pure (.sl (p1.fBase.map Ai)), .pure (.sl (p1.fNext.map Ai)), .pure (.sl (p1.fHeld.map Bb))]), (2005, .vec 3 (v11.map A3))]) (fun _ _ => rfl) (sm [(2004, 2003)] _ _ rfl rfl) (fun j10 n10 v10 h => ?_) (fun v11 s h hs => ?_)
    ·unfold BC at h
     refine Ab (Ab (Aa Ac rfl (qm rfl (qf Bu rfl (ql Be rfl (qf De rfl (ql Cz rfl ?_)))))))
     obtain ⟨v12, a12, b12, h⟩ := Aj h
     refine qi AI DP a12 (Ah b12) rfl (qk Cz rfl (A2 rfl (Ad ?_)))
     refine Ap rfl (fun c13 => ?_) (fun c13 => ?_)
     ·have h := Am c13 h
      refine Ar ?_
      refine AO h (fun v14 => mk [(2, .e (.one (.ptr 2 0))), (3, .e (.one (.ptr 3 0))), (5, .e (.one (.own 2006))), (6, .e (.one (.pure (.val (.int .i64 v1.2))))), (7, .e (.one (.ptr 7 0))), (8, .e (.one (.pure (.val (.int .u8 v6))))), (9, .e (.one (.pure (.val (.int .i64 v10.2)))))] [(2, .box [.pure (.sl (p0.fVersions.map Ai)), .pure (.sl (p0.fNow.map Ai)), .pure (.sl (p0.fTarget.map Ai)), .pure (.sl (p0.fTables.map Ao))]), (3, .box [.pure (.sl (p1.fBase.map Ai)), .pure (.sl (p1.fNext.map Ai)), .pure (.sl (p1.fHeld.map Bb))]), (7, .box [.pure (.val (.int .i64 v4.fKind)), .pure (.val (.int .i64 v4.fFrom)), .pure (.val (.int .i64 v4.fTo)), .pure (.val (.bool v4.fAware)), .pure (.sl (v4.fOK.map (ER eB))), .pure (.sl (v4.fRewrite.map (ER eB)))]), (2006, .vec 3 (v14.map A3))]) (fun j14 h => ?_) (fun v14 h => ?_)
      ·refine AN (Ab (Ab (Aa Ac rfl (qm rfl (qm rfl ?_)))))
       obtain ⟨v15, a15, h⟩ := bind_some h
       refine AH [] (FM N v6 v10.2 v15 a15) Tk rfl (Cp rfl (Ad ?_))
       refine Ap rfl (fun c16 => ?_) (fun c16 => ?_)
       ·have h := Am c16 h
        refine AX ?_
        exact Au _ h (sm [(2006, 2004)] _ _ rfl rfl)
       ·have h := An c16 h
        refine Ar (Ab (Aa Ac rfl (qa rfl (Ad (Ab (Ab (Aa Ac rfl (qa rfl (Ad ?_)))))))))
        refine AJ (L := Bj N p0 p1 v1 v4 v10) h (fun v17 => mk [(2, .e (.one (.ptr 2 0))), (3, .e (.one (.ptr 3 0))), (5, .e (.one (.own 2007))), (6, .e (.one (.pure (.val (.int .i64 v1.2))))), (7, .e (.one (.ptr 7 0))), (8, .e (.one (.pure (.val (.int .u8 v6))))), (9, .e (.one (.pure (.val (.int .i64 v10.2))))), (10, .e (.one (.pure (.val (.bool v17.2.1))))), (11, .e (.one (.pure (.val (.int .i64 v17.2.2)))))] [(2, .box [.pure (.sl (p0.fVersions.map Ai)), .pure (.sl (p0.fNow.map Ai)), .pure (.sl (p0.fTarget.map Ai)), .pure (.sl (p0.fTables.map Ao))]), (3, .box [.pure (.sl (p1.fBase.map Ai)), .pure (.sl (p1.fNext.map Ai)), .pure (.sl (p1.fHeld.map Bb))]), (7, .box [.pure (.val (.int .i64 v4.fKind)), .pure (.val (.int .i64 v4.fFrom)), .pure (.val (.int .i64 v4.fTo)), .pure (.val (.bool v4.fAware)), .pure (.sl (v4.fOK.map (ER eB))), .pure (.sl (v4.fRewrite.map (ER eB)))]), (2007, .vec 3 (v17.1.map A3))]) (fun v18 => mk [(2, .e (.one (.ptr 2 0))), (3, .e (.one (.ptr 3 0))), (5, .e (.one (.own 2008))), (6, .e (.one (.pure (.val (.int .i64 v1.2))))), (7, .e (.one (.ptr 7 0))), (8, .e (.one (.pure (.val (.int .u8 v6))))), (9, .e (.one (.pure (.val (.int .i64 v10.2))))), (10, .e (.one (.pure (.val (.bool v18.2)))))] [(2, .box [.pure (.sl (p0.fVersions.map Ai)), .pure (.sl (p0.fNow.map Ai)), .pure (.sl (p0.fTarget.map Ai)), .pure (.sl (p0.fTables.map Ao))]), (3, .box [.pure (.sl (p1.fBase.map Ai)), .pure (.sl (p1.fNext.map Ai)), .pure (.sl (p1.fHeld.map Bb))]), (7, .box [.pure (.val (.int .i64 v4.fKind)), .pure (.val (.int .i64 v4.fFrom)), .pure (.val (.int .i64 v4.fTo)), .pure (.val (.bool v4.fAware)), .pure (.sl (v4.fOK.map (ER eB))), .pure (.sl (v4.fRewrite.map (ER eB)))]), (2008, .vec 3 (v18.1.map A3))]) (fun _ _ => rfl) (sm [(2007, 2004)] _ _ rfl rfl) (fun j17 n17 v17 h => ?_) (fun v18 s h hs => ?_)
        ·unfold Bj at h
         refine Ab (Ab (Aa Ac rfl (qm rfl (qf Bu rfl (ql Be rfl (qf HY rfl (ql Cz rfl ?_)))))))
         obtain ⟨v19, a19, b19, h⟩ := Aj h
         refine qi AI DP a19 (Ah b19) rfl (qk Cz rfl (A2 rfl (Ad ?_)))
         refine Ap rfl (fun c20 => ?_) (fun c20 => ?_)
         ·have h := Am c20 h
          refine Ar ?_
          refine AO h (fun v21 => mk [(2, .e (.one (.ptr 2 0))), (3, .e (.one (.ptr 3 0))), (5, .e (.one (.own 2009))), (6, .e (.one (.pure (.val (.int .i64 v1.2))))), (7, .e (.one (.ptr 7 0))), (8, .e (.one (.pure (.val (.int .u8 v6))))), (9, .e (.one (.pure (.val (.int .i64 v10.2))))), (10, .e (.one (.pure (.val (.bool v21.2))))), (11, .e (.one (.pure (.val (.int .i64 v17.2.2)))))] [(2, .box [.pure (.sl (p0.fVersions.map Ai)), .pure (.sl (p0.fNow.map Ai)), .pure (.sl (p0.fTarget.map Ai)), .pure (.sl (p0.fTables.map Ao))]), (3, .box [.pure (.sl (p1.fBase.map Ai)), .pure (.sl (p1.fNext.map Ai)), .pure (.sl (p1.fHeld.map Bb))]), (7, .box [.pure (.val (.int .i64 v4.fKind)), .pure (.val (.int .i64 v4.fFrom)), .pure (.val (.int .i64 v4.fTo)), .pure (.val (.bool v4.fAware)), .pure (.sl (v4.fOK.map (ER eB))), .pure (.sl (v4.fRewrite.map (ER eB)))]), (2009, .vec 3 (v21.1.map A3))]) (fun j21 h => ?_) (fun v21 h => ?_)
          ·refine AN (Ab (Ab (Aa Ac rfl (qL A1 Ax rfl (qf HY rfl (ql Cz rfl ?_))))))
           obtain ⟨v22, a22, h⟩ := bind_some h
           refine AH [] (Ea N p1 v4.fTo v22 a22) RZ rfl (qm rfl ?_)
           obtain ⟨v23, a23, h⟩ := bind_some h
           refine AH [] (FM N v22 v17.2.2 v23 a23) Tk rfl (Cp rfl (Ad ?_))
           refine Ap rfl (fun c24 => ?_) (fun c24 => ?_)
           ·have h := Am c24 h
            refine AX ?_
            exact Au _ h (sm [(2009, 2007)] _ _ rfl rfl)
           ·have h := An c24 h
            refine Ar ?_
            refine AO h (fun v25 => mk [(2, .e (.one (.ptr 2 0))), (3, .e (.one (.ptr 3 0))), (5, .e (.one (.own 2010))), (6, .e (.one (.pure (.val (.int .i64 v1.2))))), (7, .e (.one (.ptr 7 0))), (8, .e (.one (.pure (.val (.int .u8 v6))))), (9, .e (.one (.pure (.val (.int .i64 v10.2))))), (10, .e (.one (.pure (.val (.bool v25))))), (11, .e (.one (.pure (.val (.int .i64 v17.2.2)))))] [(2, .box [.pure (.sl (p0.fVersions.map Ai)), .pure (.sl (p0.fNow.map Ai)), .pure (.sl (p0.fTarget.map Ai)), .pure (.sl (p0.fTables.map Ao))]), (3, .box [.pure (.sl (p1.fBase.map Ai)), .pure (.sl (p1.fNext.map Ai)), .pure (.sl (p1.fHeld.map Bb))]), (7, .box [.pure (.val (.int .i64 v4.fKind)), .pure (.val (.int .i64 v4.fFrom)), .pure (.val (.int .i64 v4.fTo)), .pure (.val (.bool v4.fAware)), .pure (.sl (v4.fOK.map (ER eB))), .pure (.sl (v4.fRewrite.map (ER eB)))]), (2010, .vec 3 (v17.1.map A3))]) (fun j25 h => ?_) (fun v25 h => ?_)
            ·refine Aa Ac rfl (qm rfl (qm rfl ?_))
             refine AE (t := 67) rfl (fun c26 => ?_) (fun c26 => ?_)
             ·have h := Am c26 h
              refine qn rfl (qn rfl (qn rfl (qn rfl (qn rfl (qn rfl (qn rfl (qn rfl (qp rfl (qa rfl (Ad ?_))))))))))
              exact Au _ h (sm [(2010, 2007)] _ _ rfl rfl)
             ·have h := An c26 h
              refine qf Ja rfl (ql JB rfl (qm rfl ?_))
              obtain ⟨v27, a27, b27, h⟩ := Aj h
              refine qi Gf Jq a27 (Ah b27) rfl (qk K3 rfl (qm rfl ?_))
              obtain ⟨v28, a28, b28, h⟩ := Aj h
              refine qi E5 Ph a28 (Ah b28) rfl (qk QS rfl (qp rfl (qa rfl (Ad ?_))))
              exact Au _ h (sm [(2010, 2007)] _ _ rfl rfl)
            ·refine AO h (fun v29 => mk [(2, .e (.one (.ptr 2 0))), (3, .e (.one (.ptr 3 0))), (5, .e (.one (.own 2011))), (6, .e (.one (.pure (.val (.int .i64 v1.2))))), (7, .e (.one (.ptr 7 0))), (8, .e (.one (.pure (.val (.int .u8 v6))))), (9, .e (.one (.pure (.val (.int .i64 v10.2))))), (10, .e (.one (.pure (.val (.bool v25))))), (11, .e (.one (.pure (.val (.int .i64 v17.2.2))))), (90, .e (.one (.pure (.val (.bool v29)))))] [(2, .box [.pure (.sl (p0.fVersions.map Ai)), .pure (.sl (p0.fNow.map Ai)), .pure (.sl (p0.fTarget.map Ai)), .pure (.sl (p0.fTables.map Ao))]), (3, .box [.pure (.sl (p1.fBase.map Ai)), .pure (.sl (p1.fNext.map Ai)), .pure (.sl (p1.fHeld.map Bb))]), (7, .box [.pure (.val (.int .i64 v4.fKind)), .pure (.val (.int .i64 v4.fFrom)), .pure (.val (.int .i64 v4.fTo)), .pure (.val (.bool v4.fAware)), .pure (.sl (v4.fOK.map (ER eB))), .pure (.sl (v4.fRewrite.map (ER eB)))]), (2011, .vec 3 (v17.1.map A3))]) (fun j29 h => ?_) (fun v29 h => ?_)
             ·refine Aa Ac rfl (qf Iz rfl (ql QS rfl (Cp rfl (qm rfl ?_))))
              refine AE (t := 80) rfl (fun c30 => ?_) (fun c30 => ?_)
              ·have h := Am c30 h
               refine qf Ja rfl (ql JB rfl (qm rfl ?_))
               obtain ⟨v31, a31, b31, h⟩ := Aj h
               refine qi Gf Jq a31 (Ah b31) rfl (qk K3 rfl (qm rfl ?_))
               obtain ⟨v32, a32, b32, h⟩ := Aj h
               refine qi E5 Ph a32 (Ah b32) rfl (qk QS rfl (Cp rfl (qp rfl (Ad ?_))))
               exact Au _ h (sm [(2011, 2010)] _ _ rfl rfl)
              ·have h := An c30 h
               refine qn rfl (qn rfl (qn rfl (qn rfl (qn rfl (qn rfl (qn rfl (qn rfl (qn rfl (qp rfl (Ad ?_))))))))))
               exact Au _ h (sm [(2011, 2010)] _ _ rfl rfl)
             ·refine Ap rfl (fun c33 => ?_) (fun c33 => ?_)
              ·have h := Am c33 h
               refine Aa Ac rfl (qm rfl (qm rfl (qm rfl (qm rfl (BM HP NR rfl (Ep GD HD HP rfl ?_))))))
               obtain ⟨c34, h⟩ := AK h
               refine Dw (f := A3) GD GD HD Ov HP c34 rfl (qa rfl (Ad ?_))
               exact Au _ h (sm [(2009, 97)] _ _ rfl rfl)
              ·have h := An c33 h
               refine Ar ?_
               exact Au _ h (sm [(2009, 2011)] _ _ rfl rfl)
          ·refine Aa Ac rfl (qm rfl (AY rfl (qa rfl (Ad ?_))))
           exact Au _ h (sm [(2007, 2009)] _ _ rfl rfl)
         ·have h := An c20 h
          refine AX ?_
          exact Au _ h (sm [(2008, 2007)] _ _ rfl rfl)
        ·refine Al hs ?_
         refine AO h (fun v35 => mk [(2, .e (.one (.ptr 2 0))), (3, .e (.one (.ptr 3 0))), (5, .e (.one (.own 2012))), (6, .e (.one (.pure (.val (.int .i64 v1.2))))), (7, .e (.one (.ptr 7 0))), (8, .e (.one (.pure (.val (.int .u8 v6))))), (9, .e (.one (.pure (.val (.int .i64 v10.2))))), (103, .e (.one (.pure (.val (.bool v35)))))] [(2, .box [.pure (.sl (p0.fVersions.map Ai)), .pure (.sl (p0.fNow.map Ai)), .pure (.sl (p0.fTarget.map Ai)), .pure (.sl (p0.fTables.map Ao))]), (3, .box [.pure (.sl (p1.fBase.map Ai)), .pure (.sl (p1.fNext.map Ai)), .pure (.sl (p1.fHeld.map Bb))]), (7, .box [.pure (.val (.int .i64 v4.fKind)), .pure (.val (.int .i64 v4.fFrom)), .pure (.val (.int .i64 v4.fTo)), .pure (.val (.bool v4.fAware)), .pure (.sl (v4.fOK.map (ER eB))), .pure (.sl (v4.fRewrite.map (ER eB)))]), (2012, .vec 3 (v18.1.map A3))]) (fun j35 h => ?_) (fun v35 h => ?_)
         ·refine Aa Ac rfl (qf Iz rfl (ql QS rfl (qm rfl ?_)))
          refine AE (t := 100) rfl (fun c36 => ?_) (fun c36 => ?_)
          ·have h := Am c36 h
           refine qm rfl (Cp rfl (qp rfl (Ad ?_)))
           exact Au _ h (sm [(2012, 2008)] _ _ rfl rfl)
          ·have h := An c36 h
           refine qn rfl (qn rfl (qp rfl (Ad ?_)))
           exact Au _ h (sm [(2012, 2008)] _ _ rfl rfl)
         ·refine Ap rfl (fun c37 => ?_) (fun c37 => ?_)
          ·have h := Am c37 h
           refine Aa Ac rfl (qm rfl (qm rfl (qm rfl (BM HP NR rfl (Ep GD HD HP rfl ?_)))))
           obtain ⟨c38, h⟩ := AK h
           refine Dw (f := A3) GD GD HD Ov HP c38 rfl (qa rfl (Ad ?_))
           exact Au _ h (sm [(2006, 109)] _ _ rfl rfl)
          ·have h := An c37 h
           refine Ar ?_
           exact Au _ h (sm [(2006, 2012)] _ _ rfl rfl)
      ·refine Aa Ac rfl (qm rfl (AY rfl (qa rfl (Ad ?_))))
       exact Au _ h (sm [(2004, 2006)] _ _ rfl rfl)
     ·have h := An c13 h
      refine AX ?_
      exact Au _ h (sm [(2005, 2004)] _ _ rfl rfl)
    ·refine Al hs (Aa Ac rfl (qm rfl (AY rfl (qa rfl (Ad ?_)))))
     exact Au _ h (sm [(2001, 2005)] _ _ rfl rfl)
  ·have h := An c3 h
   refine AX ?_
   exact Au _ h (sm [(2002, 2001)] _ _ rfl rfl)
 ·refine Al hs (Ab (Aa Ac rfl (qm rfl (qa rfl (Ad ?_)))))
  obtain rfl := sj h
  refine Al (sm [(1000, 2002)] [(4, .e (.one (.own 1000)))] [(1000, .vec 3 (v2.map A3))] rfl rfl) (Az ?_)
  exact ⟨⟨[_], ⟨.tmp _ _ rfl, trivial⟩, rfl⟩, ⟨rfl, trivial⟩⟩
set_option maxRecDepth 10000 in
theorem JU (N : Nat) (p0 : Ag) (p1 : Ae) (r : Bool) (h : D6 N p0 p1 = some r) : AC Tryz.prog 46 [.e (.agg [.pure (.sl (p0.fVersions.map Ai)), .pure (.sl (p0.fNow.map Ai)), .pure (.sl (p0.fTarget.map Ai)), .pure (.sl (p0.fTables.map Ao))]), .e (.agg [.pure (.sl (p1.fBase.map Ai)), .pure (.sl (p1.fNext.map Ai)), .pure (.sl (p1.fHeld.map Bb))])] [] (.e (.one (.pure (.val (.bool r))))) := by
 unfold D6 at h
 refine As (n := 10) (rs := [.tmp 4]) Tryz.func46 rfl rfl rfl (A5 rfl) (A5 rfl) rfl fun w0 S0 => ?_
 refine Ab (Aa Ac rfl (qb rfl (qb rfl (qa rfl (Ad (Ab (Aa Ac rfl (qL D4 DQ rfl (qL A1 Ax rfl ?_)))))))))
 obtain ⟨v1, a1, h⟩ := bind_some h
 refine AH [2001] (J7 N p0 p1 v1 a1) WS rfl (DU GD rfl (BK rfl (qa rfl (Ad ?_))))
 obtain rfl := sj h
 refine Al (sm [] [(4, .e (.one (.pure (.val (.bool (((v1.length : Int) == 0)))))))] [] rfl rfl) (Az ?_)
 exact ⟨⟨[_], ⟨.tmp _ _ rfl, trivial⟩, rfl⟩, trivial⟩
set_option maxRecDepth 10000 in
theorem Fs (N : Nat) (p0 : Ag) (p1 : Ae) (r : Bool) (h : CG N p0 p1 = some r) : AC Tryz.prog 19 [.e (.agg [.pure (.sl (p0.fVersions.map Ai)), .pure (.sl (p0.fNow.map Ai)), .pure (.sl (p0.fTarget.map Ai)), .pure (.sl (p0.fTables.map Ao))]), .e (.agg [.pure (.sl (p1.fBase.map Ai)), .pure (.sl (p1.fNext.map Ai)), .pure (.sl (p1.fHeld.map Bb))])] [] (.e (.one (.pure (.val (.bool r))))) := by
 unfold CG at h
 refine As (n := 22) (rs := [.tmp 4]) Tryz.func19 rfl rfl rfl (A5 rfl) (A5 rfl) rfl fun w0 S0 => ?_
 refine Ab (Aa Ac rfl (qb rfl (qb rfl (qa rfl (Ad (Ab (Aa Ac rfl (qL A1 Ax rfl ?_))))))))
 obtain ⟨v1, a1, h⟩ := bind_some h
 refine AH [2001] (K1 N p1 v1 a1) W8 rfl (qa rfl (Ad (Ab (Ab (Aa Ac rfl (qa rfl (Ad ?_)))))))
 refine AJ (L := B5 N p0 v1) h (fun v2 => mk [(2, .e (.one (.ptr 2 0))), (5, .e (.one (.own 2002))), (6, .e (.one (.pure (.val (.int .i64 v2)))))] [(2, .box [.pure (.sl (p0.fVersions.map Ai)), .pure (.sl (p0.fNow.map Ai)), .pure (.sl (p0.fTarget.map Ai)), .pure (.sl (p0.fTables.map Ao))]), (2002, .vec 3 (v1.map Af))]) (fun v3 => mk [] []) (fun _ _ => rfl) (sm [(2002, 2001)] _ _ rfl rfl) (fun j2 n2 v2 h => ?_) (fun v3 s h hs => ?_)
 ·unfold B5 at h
  refine Ab (Ab (Aa Ac rfl (qm rfl (qm rfl (DU AP rfl (A2 rfl (Ad ?_)))))))
  refine Ap rfl (fun c4 => ?_) (fun c4 => ?_)
  ·have h := Am c4 h
   refine Ar (Ab (AN (Ab (Aa Ac rfl (qL D4 DQ rfl (qm rfl (qm rfl ?_)))))))
   obtain ⟨v5, a5, b5, h⟩ := Aj h
   refine qI AP Ax a5 (Ah b5) rfl (qJ A1 Ax (Ah b5) rfl ?_)
   obtain ⟨v6, a6, h⟩ := bind_some h
   refine AH [] (JU N p0 v5 v6 a6) WW rfl (Cp rfl (AM (by kernel_rfl) ?_))
   refine Ap rfl (fun c7 => ?_) (fun c7 => ?_)
   ·have h := Am c7 h
    refine Ab (Aa Ac rfl (qa rfl (Ad ?_)))
    obtain rfl := sj h
    refine Al (sm [] [(4, .e (.one (.pure (.val (.bool false)))))] [] rfl rfl) (Az ?_)
    exact ⟨⟨[_], ⟨.tmp _ _ rfl, trivial⟩, rfl⟩, trivial⟩
   ·have h := An c7 h
    refine Ar (Aa Ac rfl (qm rfl (AY rfl (qa rfl (Ad ?_)))))
    exact Au _ h (sm [] _ _ rfl rfl)
  ·have h := An c4 h
   refine AX ?_
   exact Au _ h (sm [] _ _ rfl rfl)
 ·refine Al hs (Ab (Aa Ac rfl (qa rfl (Ad ?_))))
  obtain rfl := sj h
  refine Al (sm [] [(4, .e (.one (.pure (.val (.bool true)))))] [] rfl rfl) (Az ?_)
  exact ⟨⟨[_], ⟨.tmp _ _ rfl, trivial⟩, rfl⟩, trivial⟩
set_option maxRecDepth 10000 in
theorem J8 (N : Nat) (p0 : Ag) (p1 : Ae) (r : Int) (h : El N p0 p1 = some r) : AC Tryz.prog 65 [.e (.agg [.pure (.sl (p0.fVersions.map Ai)), .pure (.sl (p0.fNow.map Ai)), .pure (.sl (p0.fTarget.map Ai)), .pure (.sl (p0.fTables.map Ao))]), .e (.agg [.pure (.sl (p1.fBase.map Ai)), .pure (.sl (p1.fNext.map Ai)), .pure (.sl (p1.fHeld.map Bb))])] [] (.e (.one (.pure (.val (.int .i64 r))))) := by
 unfold El at h
 refine As (n := 154) (rs := [.tmp 4]) Tryz.func65 rfl rfl rfl (A5 rfl) (A5 rfl) rfl fun w0 S0 => ?_
 refine Ab (Aa Ac rfl (qb rfl (qb rfl (qa rfl (Ad (Ab (Ab (Aa Ac rfl (qL D4 DQ rfl ?_)))))))))
 obtain ⟨v1, a1, h⟩ := bind_some h
 refine AH [] (FU N p0 v1 a1) Vh rfl (qa rfl (Ad (Ab (Aa Ac rfl (qm rfl (Cw rfl (Ad ?_)))))))
 refine Ap rfl (fun c2 => ?_) (fun c2 => ?_)
 ·have h := Am c2 h
  refine Ab (Aa Ac rfl (qm rfl (qa rfl (Ad ?_))))
  obtain rfl := sj h
  refine Al (sm [] [(4, .e (.one (.pure (.val (.int .i64 v1)))))] [] rfl rfl) (Az ?_)
  exact ⟨⟨[_], ⟨.tmp _ _ rfl, trivial⟩, rfl⟩, trivial⟩
 ·have h := An c2 h
  refine Ar (Ab (Aa Ac rfl (qf Bu rfl (ql Be rfl (AZ AI rfl (qa rfl (Ad (Ab ?_))))))))
  refine AO h (fun v3 => mk [(2, .e (.one (.ptr 2 0))), (3, .e (.one (.ptr 3 0))), (6, .e (.one (.pure (.val (.int .i64 ((p0.fVersions.length : Int))))))), (39, .e (.one (.pure (.val (.bool v3)))))] [(2, .box [.pure (.sl (p0.fVersions.map Ai)), .pure (.sl (p0.fNow.map Ai)), .pure (.sl (p0.fTarget.map Ai)), .pure (.sl (p0.fTables.map Ao))]), (3, .box [.pure (.sl (p1.fBase.map Ai)), .pure (.sl (p1.fNext.map Ai)), .pure (.sl (p1.fHeld.map Bb))])]) (fun j3 h => ?_) (fun v3 h => ?_)
  ·refine Aa Ac rfl (qf Db rfl (ql Be rfl (AZ AI rfl (qm rfl (Cw rfl (qm rfl ?_))))))
   refine AE (t := 24) rfl (fun c4 => ?_) (fun c4 => ?_)
   ·have h := Am c4 h
    refine qn rfl (qn rfl (qn rfl (qn rfl (qn rfl (qp rfl (qm rfl (qn rfl (qn rfl (qn rfl (qn rfl (qn rfl (qn rfl (qn rfl (qp rfl (Ad ?_)))))))))))))))
    exact Au _ h (sm [] _ _ rfl rfl)
   ·have h := An c4 h
    refine qf BG rfl (ql Be rfl (AZ AI rfl (qm rfl (Cw rfl (qp rfl (qm rfl ?_))))))
    refine AE (t := 31) rfl (fun c5 => ?_) (fun c5 => ?_)
    ·have h := Am c5 h
     refine qn rfl (qn rfl (qn rfl (qn rfl (qn rfl (qn rfl (qn rfl (qp rfl (Ad ?_))))))))
     exact Au _ h (sm [] _ _ rfl rfl)
    ·have h := An c5 h
     refine qf CT rfl (ql G6 rfl (AZ Dm rfl (qf CS rfl (ql GZ rfl (AZ D9 rfl (Cw rfl (qp rfl (Ad ?_))))))))
     exact Au _ h (sm [] _ _ rfl rfl)
  ·refine Ap rfl (fun c6 => ?_) (fun c6 => ?_)
   ·have h := Am c6 h
    refine Ab (Aa Ac rfl (qa rfl (Ad ?_)))
    obtain rfl := sj h
    refine Al (sm [] [(4, .e (.one (.pure (.val (.int .i64 6)))))] [] rfl rfl) (Az ?_)
    exact ⟨⟨[_], ⟨.tmp _ _ rfl, trivial⟩, rfl⟩, trivial⟩
   ·have h := An c6 h
    refine Ar (Ab (Ab (Aa Ac rfl (qa rfl (Ad ?_)))))
    refine AJ (L := B8 N p0 p1) h (fun v7 => mk [(2, .e (.one (.ptr 2 0))), (3, .e (.one (.ptr 3 0))), (6, .e (.one (.pure (.val (.int .i64 ((p0.fVersions.length : Int))))))), (7, .e (.one (.pure (.val (.int .i64 v7)))))] [(2, .box [.pure (.sl (p0.fVersions.map Ai)), .pure (.sl (p0.fNow.map Ai)), .pure (.sl (p0.fTarget.map Ai)), .pure (.sl (p0.fTables.map Ao))]), (3, .box [.pure (.sl (p1.fBase.map Ai)), .pure (.sl (p1.fNext.map Ai)), .pure (.sl (p1.fHeld.map Bb))])]) (fun v8 => mk [(2, .e (.one (.ptr 2 0))), (3, .e (.one (.ptr 3 0)))] [(2, .box [.pure (.sl (p0.fVersions.map Ai)), .pure (.sl (p0.fNow.map Ai)), .pure (.sl (p0.fTarget.map Ai)), .pure (.sl (p0.fTables.map Ao))]), (3, .box [.pure (.sl (p1.fBase.map Ai)), .pure (.sl (p1.fNext.map Ai)), .pure (.sl (p1.fHeld.map Bb))])]) (fun _ _ => rfl) (sm [] _ _ rfl rfl) (fun j7 n7 v7 h => ?_) (fun v8 s h hs => ?_)
    ·unfold B8 at h
     refine Ab (Ab (Aa Ac rfl (qm rfl (qm rfl (A2 rfl (Ad ?_))))))
     refine Ap rfl (fun c9 => ?_) (fun c9 => ?_)
     ·have h := Am c9 h
      refine Ar (Ab (AN (Ab ?_)))
      refine AO h (fun v10 => mk [(2, .e (.one (.ptr 2 0))), (3, .e (.one (.ptr 3 0))), (6, .e (.one (.pure (.val (.int .i64 ((p0.fVersions.length : Int))))))), (7, .e (.one (.pure (.val (.int .i64 v7))))), (84, .e (.one (.pure (.val (.bool v10)))))] [(2, .box [.pure (.sl (p0.fVersions.map Ai)), .pure (.sl (p0.fNow.map Ai)), .pure (.sl (p0.fTarget.map Ai)), .pure (.sl (p0.fTables.map Ao))]), (3, .box [.pure (.sl (p1.fBase.map Ai)), .pure (.sl (p1.fNext.map Ai)), .pure (.sl (p1.fHeld.map Bb))])]) (fun j10 h => ?_) (fun v10 h => ?_)
      ·refine Aa Ac rfl (qf Db rfl (ql Be rfl (qm rfl ?_)))
       obtain ⟨v11, a11, b11, h⟩ := Aj h
       refine qi AI DP a11 (Ah b11) rfl (qk Cz rfl (A2 rfl (qm rfl ?_)))
       refine AE (t := 51) rfl (fun c12 => ?_) (fun c12 => ?_)
       ·have h := Am c12 h
        refine qn rfl (qn rfl (qn rfl (qn rfl (qn rfl (qn rfl (qn rfl (qn rfl (qn rfl (qn rfl (qn rfl (qp rfl (qm rfl (qn rfl (qn rfl (qn rfl (qn rfl (qn rfl (qn rfl (qp rfl (qm rfl (qn rfl (qn rfl (qn rfl (qn rfl (qn rfl (qn rfl (qn rfl (qn rfl (qn rfl (qn rfl (qn rfl (qp rfl (AM (by kernel_rfl) ?_)))))))))))))))))))))))))))))))))
        exact Au _ h (sm [] _ _ rfl rfl)
       ·have h := An c12 h
        refine qf Db rfl (ql Be rfl (qm rfl ?_))
        obtain ⟨v13, a13, b13, h⟩ := Aj h
        refine qi AI DP a13 (Ah b13) rfl (qk Cz rfl (qf Bu rfl (ql Be rfl (qm rfl ?_))))
        obtain ⟨v14, a14, b14, h⟩ := Aj h
        refine qi AI DP a14 (Ah b14) rfl (qk Cz rfl (Dx rfl (qp rfl (qm rfl ?_))))
        refine AE (t := 64) rfl (fun c15 => ?_) (fun c15 => ?_)
        ·have h := Am c15 h
         refine qn rfl (qn rfl (qn rfl (qn rfl (qn rfl (qn rfl (qp rfl (qm rfl (qn rfl (qn rfl (qn rfl (qn rfl (qn rfl (qn rfl (qn rfl (qn rfl (qn rfl (qn rfl (qn rfl (qp rfl (AM (by kernel_rfl) ?_))))))))))))))))))))
         exact Au _ h (sm [] _ _ rfl rfl)
        ·have h := An c15 h
         refine qf BG rfl (ql Be rfl (qm rfl ?_))
         obtain ⟨v16, a16, b16, h⟩ := Aj h
         refine qi AI DP a16 (Ah b16) rfl (qk Cz rfl (A2 rfl (qp rfl (qm rfl ?_))))
         refine AE (t := 72) rfl (fun c17 => ?_) (fun c17 => ?_)
         ·have h := Am c17 h
          refine qn rfl (qn rfl (qn rfl (qn rfl (qn rfl (qn rfl (qn rfl (qn rfl (qn rfl (qn rfl (qn rfl (qp rfl (AM (by kernel_rfl) ?_))))))))))))
          exact Au _ h (sm [] _ _ rfl rfl)
         ·have h := An c17 h
          refine qf BG rfl (ql Be rfl (qm rfl ?_))
          obtain ⟨v18, a18, b18, h⟩ := Aj h
          refine qi AI DP a18 (Ah b18) rfl (qk Cz rfl (qf Bu rfl (ql Be rfl (qm rfl ?_))))
          obtain ⟨v19, a19, b19, h⟩ := Aj h
          refine qi AI DP a19 (Ah b19) rfl (qk Cz rfl (Dx rfl (qp rfl (AM (by kernel_rfl) ?_))))
          exact Au _ h (sm [] _ _ rfl rfl)
      ·refine Ap rfl (fun c20 => ?_) (fun c20 => ?_)
       ·have h := Am c20 h
        refine Ab (Aa Ac rfl (qa rfl (Ad ?_)))
        obtain rfl := sj h
        refine Al (sm [] [(4, .e (.one (.pure (.val (.int .i64 7)))))] [] rfl rfl) (Az ?_)
        exact ⟨⟨[_], ⟨.tmp _ _ rfl, trivial⟩, rfl⟩, trivial⟩
       ·have h := An c20 h
        refine Ar (Ab (Aa Ac rfl (qf Db rfl (ql Be rfl (qm rfl ?_)))))
        obtain ⟨v21, a21, b21, h⟩ := Aj h
        refine qi AI DP a21 (Ah b21) rfl (qk Cz rfl (qf BG rfl (ql Be rfl (qm rfl ?_))))
        obtain ⟨v22, a22, b22, h⟩ := Aj h
        refine qi AI DP a22 (Ah b22) rfl (qk Cz rfl (BK rfl (AM (by kernel_rfl) ?_)))
        refine Ap rfl (fun c23 => ?_) (fun c23 => ?_)
        ·have h := Am c23 h
         refine Ab (Aa Ac rfl (qa rfl (Ad ?_)))
         obtain rfl := sj h
         refine Al (sm [] [(4, .e (.one (.pure (.val (.int .i64 1)))))] [] rfl rfl) (Az ?_)
         exact ⟨⟨[_], ⟨.tmp _ _ rfl, trivial⟩, rfl⟩, trivial⟩
        ·have h := An c23 h
         refine Ar (Aa Ac rfl (qm rfl (AY rfl (qa rfl (Ad ?_)))))
         exact Au _ h (sm [] _ _ rfl rfl)
     ·have h := An c9 h
      refine AX ?_
      exact Au _ h (sm [] _ _ rfl rfl)
    ·refine Al hs (Ab (Ab (Aa Ac rfl (qa rfl (Ad ?_)))))
     refine AJ (L := BZ N p0 p1) h (fun v24 => mk [(2, .e (.one (.ptr 2 0))), (3, .e (.one (.ptr 3 0))), (8, .e (.one (.pure (.val (.int .i64 v24)))))] [(2, .box [.pure (.sl (p0.fVersions.map Ai)), .pure (.sl (p0.fNow.map Ai)), .pure (.sl (p0.fTarget.map Ai)), .pure (.sl (p0.fTables.map Ao))]), (3, .box [.pure (.sl (p1.fBase.map Ai)), .pure (.sl (p1.fNext.map Ai)), .pure (.sl (p1.fHeld.map Bb))])]) (fun v25 => mk [] []) (fun _ _ => rfl) (sm [] _ _ rfl rfl) (fun j24 n24 v24 h => ?_) (fun v25 s h hs => ?_)
     ·unfold BZ at h
      refine Ab (Ab (Aa Ac rfl (qm rfl (qf CS rfl (ql GZ rfl (AZ D9 rfl (A2 rfl (Ad ?_))))))))
      refine Ap rfl (fun c26 => ?_) (fun c26 => ?_)
      ·have h := Am c26 h
       refine Ar (Ab (AN (Ab (Aa Ac rfl (qf CS rfl (ql GZ rfl (qm rfl ?_)))))))
       obtain ⟨v27, a27, b27, h⟩ := Aj h
       refine qi D9 D8 a27 (Ah b27) rfl (qK Hj D8 rfl (qz J4 rfl (qs D8 rfl (Ad (Ab (Aa Ac rfl (qf Bu rfl (ql Be rfl (qf De rfl (ql Cz rfl ?_))))))))))
       obtain ⟨v28, a28, b28, h⟩ := Aj h
       refine qi AI DP a28 (Ah b28) rfl (qk Cz rfl ?_)
       obtain ⟨c29, h⟩ := AK h
       refine HF rfl c29 (CQ rfl (qa rfl (Ad ?_)))
       refine AO h (fun v30 => mk [(2, .e (.one (.ptr 2 0))), (3, .e (.one (.ptr 3 0))), (8, .e (.one (.pure (.val (.int .i64 v24))))), (153, .e (.one (.pure (.val (.bool v30)))))] [(2, .box [.pure (.sl (p0.fVersions.map Ai)), .pure (.sl (p0.fNow.map Ai)), .pure (.sl (p0.fTarget.map Ai)), .pure (.sl (p0.fTables.map Ao))]), (3, .box [.pure (.sl (p1.fBase.map Ai)), .pure (.sl (p1.fNext.map Ai)), .pure (.sl (p1.fHeld.map Bb))])]) (fun j30 h => ?_) (fun v30 h => ?_)
       ·refine Aa Ac rfl (qL Hj D8 rfl ?_)
        obtain ⟨v31, a31, h⟩ := bind_some h
        refine AH [] (Cg N v27 v31 a31) ON rfl (Cp rfl (qm rfl ?_))
        refine AE (t := 119) rfl (fun c32 => ?_) (fun c32 => ?_)
        ·have h := Am c32 h
         refine qf CT rfl (ql G6 rfl (qm rfl ?_))
         obtain ⟨v33, a33, b33, h⟩ := Aj h
         refine qi Dm FG a33 (Ah b33) rfl (qk Ju rfl (Cw rfl (qp rfl (qm rfl ?_))))
         refine AE (t := 127) rfl (fun c34 => ?_) (fun c34 => ?_)
         ·have h := Am c34 h
          refine qn rfl (qn rfl (qn rfl (qu rfl (qu rfl (qu rfl (qu rfl (qu rfl (qu rfl (qu rfl (qu rfl (qu rfl (qu rfl (qu rfl (qu rfl (qu rfl (qu rfl (qu rfl (qu rfl (qu rfl (qu rfl (qu rfl (qu rfl (qu rfl (qn rfl (qp rfl (AM (by kernel_rfl) ?_))))))))))))))))))))))))))
          exact Au _ h (sm [] _ _ rfl rfl)
         ·have h := An c34 h
          refine qL Hj D8 rfl ?_
          obtain ⟨v35, a35, h⟩ := bind_some h
          refine AH [] (Cg N v27 v35 a35) ON rfl (qm rfl ?_)
          refine AE (t := 130) rfl (fun c36 => ?_) (fun c36 => ?_)
          ·have h := Am c36 h
           refine qf CT rfl (ql G6 rfl (qm rfl ?_))
           obtain ⟨v37, a37, b37, h⟩ := Aj h
           refine qi Dm FG a37 (Ah b37) rfl (qk Ju rfl (qm rfl (Id rfl (Cw rfl (qm rfl ?_)))))
           refine AE (t := 139) rfl (fun c38 => ?_) (fun c38 => ?_)
           ·have h := Am c38 h
            refine qn rfl (qn rfl (qn rfl (qn rfl (qn rfl (qn rfl (qn rfl (qn rfl (qn rfl (qn rfl (qn rfl (qp rfl (qp rfl (qp rfl (AM (by kernel_rfl) ?_))))))))))))))
            exact Au _ h (sm [] _ _ rfl rfl)
           ·have h := An c38 h
            refine qL A1 Ax rfl (qf De rfl (ql Cz rfl ?_))
            obtain ⟨v39, a39, h⟩ := bind_some h
            refine AH [] (Ea N p1 v27.fFrom v39 a39) RZ rfl (qf CT rfl (ql G6 rfl (qm rfl ?_)))
            obtain ⟨v40, a40, b40, h⟩ := Aj h
            refine qi Dm FG a40 (Ah b40) rfl (qk Ju rfl (Id rfl (Cw rfl (qp rfl (qp rfl (qp rfl (AM (by kernel_rfl) ?_)))))))
            exact Au _ h (sm [] _ _ rfl rfl)
          ·have h := An c36 h
           refine qn rfl (qn rfl (qn rfl (qn rfl (qn rfl (qn rfl (qn rfl (qn rfl (qn rfl (qu rfl (qu rfl (qu rfl (qu rfl (qu rfl (qu rfl (qu rfl (qu rfl (qu rfl (qu rfl (qu rfl (qn rfl (qp rfl (qp rfl (AM (by kernel_rfl) ?_)))))))))))))))))))))))
           exact Au _ h (sm [] _ _ rfl rfl)
        ·have h := An c32 h
         refine qn rfl (qn rfl (qn rfl (qn rfl (qn rfl (qn rfl (qp rfl (qm rfl (qL Hj D8 rfl ?_))))))))
         obtain ⟨v41, a41, h⟩ := bind_some h
         refine AH [] (Cg N v27 v41 a41) ON rfl (qm rfl ?_)
         refine AE (t := 130) rfl (fun c42 => ?_) (fun c42 => ?_)
         ·have h := Am c42 h
          refine qf CT rfl (ql G6 rfl (qm rfl ?_))
          obtain ⟨v43, a43, b43, h⟩ := Aj h
          refine qi Dm FG a43 (Ah b43) rfl (qk Ju rfl (qm rfl (Id rfl (Cw rfl (qm rfl ?_)))))
          refine AE (t := 139) rfl (fun c44 => ?_) (fun c44 => ?_)
          ·have h := Am c44 h
           refine qn rfl (qn rfl (qn rfl (qn rfl (qn rfl (qn rfl (qn rfl (qn rfl (qn rfl (qn rfl (qn rfl (qp rfl (qp rfl (qp rfl (AM (by kernel_rfl) ?_))))))))))))))
           exact Au _ h (sm [] _ _ rfl rfl)
          ·have h := An c44 h
           refine qL A1 Ax rfl (qf De rfl (ql Cz rfl ?_))
           obtain ⟨v45, a45, h⟩ := bind_some h
           refine AH [] (Ea N p1 v27.fFrom v45 a45) RZ rfl (qf CT rfl (ql G6 rfl (qm rfl ?_)))
           obtain ⟨v46, a46, b46, h⟩ := Aj h
           refine qi Dm FG a46 (Ah b46) rfl (qk Ju rfl (Id rfl (Cw rfl (qp rfl (qp rfl (qp rfl (AM (by kernel_rfl) ?_)))))))
           exact Au _ h (sm [] _ _ rfl rfl)
         ·have h := An c42 h
          refine qn rfl (qn rfl (qn rfl (qn rfl (qn rfl (qn rfl (qn rfl (qn rfl (qn rfl (qu rfl (qu rfl (qu rfl (qu rfl (qu rfl (qu rfl (qu rfl (qu rfl (qu rfl (qu rfl (qu rfl (qn rfl (qp rfl (qp rfl (AM (by kernel_rfl) ?_)))))))))))))))))))))))
          exact Au _ h (sm [] _ _ rfl rfl)
       ·refine Ap rfl (fun c47 => ?_) (fun c47 => ?_)
        ·have h := Am c47 h
         refine Ab (Aa Ac rfl (qa rfl (Ad ?_)))
         obtain rfl := sj h
         refine Al (sm [] [(4, .e (.one (.pure (.val (.int .i64 1)))))] [] rfl rfl) (Az ?_)
         exact ⟨⟨[_], ⟨.tmp _ _ rfl, trivial⟩, rfl⟩, trivial⟩
        ·have h := An c47 h
         refine Ar (Aa Ac rfl (qm rfl (AY rfl (qa rfl (Ad ?_)))))
         exact Au _ h (sm [] _ _ rfl rfl)
      ·have h := An c26 h
       refine AX ?_
       exact Au _ h (sm [] _ _ rfl rfl)
     ·refine Al hs (Ab (Aa Ac rfl (qa rfl (Ad ?_))))
      obtain rfl := sj h
      refine Al (sm [] [(4, .e (.one (.pure (.val (.int .i64 0)))))] [] rfl rfl) (Az ?_)
      exact ⟨⟨[_], ⟨.tmp _ _ rfl, trivial⟩, rfl⟩, trivial⟩
set_option maxRecDepth 10000 in
theorem J9 (N : Nat) (p0 : Ak) (r : Bool) (h : Er N p0 = some r) : AC Tryz.prog 93 [.e (.agg [.pure (.val (.int .i64 p0.fKind)), .pure (.val (.int .i64 p0.fIndex)), .pure (.val (.int .i64 p0.fVersion))])] [] (.e (.one (.pure (.val (.bool r))))) := by
 unfold Er at h
 refine As (n := 31) (rs := [.tmp 2]) Tryz.func93 rfl rfl rfl (A5 rfl) (A5 rfl) rfl fun w0 S0 => ?_
 refine Ab (Aa Ac rfl (qb rfl (qa rfl (Ad ?_))))
 refine AO h (fun v1 => mk [(2, .e (.one (.pure (.val (.bool v1)))))] []) (fun j1 h => ?_) (fun v1 h => ?_)
 ·refine Aa Ac rfl (qf Fr rfl (ql Cz rfl (Dx rfl (qm rfl ?_))))
  refine AE (t := 6) rfl (fun c2 => ?_) (fun c2 => ?_)
  ·have h := Am c2 h
   refine qf Fr rfl (ql Cz rfl (Kg rfl (qp rfl (qm rfl ?_))))
   refine AE (t := 11) rfl (fun c3 => ?_) (fun c3 => ?_)
   ·have h := Am c3 h
    refine qf EU rfl (ql Cz rfl (Dx rfl (qp rfl (qm rfl ?_))))
    refine AE (t := 16) rfl (fun c4 => ?_) (fun c4 => ?_)
    ·have h := Am c4 h
     refine qf GB rfl (ql Cz rfl (Dx rfl (qp rfl (qm rfl ?_))))
     refine AE (t := 21) rfl (fun c5 => ?_) (fun c5 => ?_)
     ·have h := Am c5 h
      refine qf Fr rfl (ql Cz rfl (BK rfl (qm rfl ?_)))
      refine AE (t := 25) rfl (fun c6 => ?_) (fun c6 => ?_)
      ·have h := Am c6 h
       refine qn rfl (qn rfl (qn rfl (qp rfl (qp rfl (qa rfl (Ad ?_))))))
       exact Au _ h (sm [] _ _ rfl rfl)
      ·have h := An c6 h
       refine qf GB rfl (ql Cz rfl (BK rfl (qp rfl (qp rfl (qa rfl (Ad ?_))))))
       exact Au _ h (sm [] _ _ rfl rfl)
     ·have h := An c5 h
      refine qn rfl (qn rfl (qn rfl (qn rfl (qu rfl (qu rfl (qu rfl (qn rfl (qp rfl (qa rfl (Ad ?_))))))))))
      exact Au _ h (sm [] _ _ rfl rfl)
    ·have h := An c4 h
     refine qn rfl (qn rfl (qn rfl (qp rfl (qm rfl (qn rfl (qn rfl (qn rfl (qn rfl (qu rfl (qu rfl (qu rfl (qn rfl (qp rfl (qa rfl (Ad ?_)))))))))))))))
     exact Au _ h (sm [] _ _ rfl rfl)
   ·have h := An c3 h
    refine qn rfl (qn rfl (qn rfl (qp rfl (qm rfl (qn rfl (qn rfl (qn rfl (qp rfl (qm rfl (qn rfl (qn rfl (qn rfl (qn rfl (qu rfl (qu rfl (qu rfl (qn rfl (qp rfl (qa rfl (Ad ?_))))))))))))))))))))
    exact Au _ h (sm [] _ _ rfl rfl)
  ·have h := An c2 h
   refine qn rfl (qn rfl (qn rfl (qp rfl (qm rfl (qn rfl (qn rfl (qn rfl (qp rfl (qm rfl (qn rfl (qn rfl (qn rfl (qp rfl (qm rfl (qn rfl (qn rfl (qn rfl (qn rfl (qu rfl (qu rfl (qu rfl (qn rfl (qp rfl (qa rfl (Ad ?_)))))))))))))))))))))))))
   exact Au _ h (sm [] _ _ rfl rfl)
 ·obtain rfl := sj h
  refine Al (sm [] [(2, .e (.one (.pure (.val (.bool v1)))))] [] rfl rfl) (Az ?_)
  exact ⟨⟨[_], ⟨.tmp _ _ rfl, trivial⟩, rfl⟩, trivial⟩
set_option maxRecDepth 10000 in
theorem Gj (N : Nat) (p0 : Ag) (p1 : Ae) (p2 : Ak) (r : Ae × Bool) (h : Ci N p0 p1 p2 = some r) : AC Tryz.prog 27 [.e (.agg [.pure (.sl (p0.fVersions.map Ai)), .pure (.sl (p0.fNow.map Ai)), .pure (.sl (p0.fTarget.map Ai)), .pure (.sl (p0.fTables.map Ao))]), .e (.agg [.pure (.sl (p1.fBase.map Ai)), .pure (.sl (p1.fNext.map Ai)), .pure (.sl (p1.fHeld.map Bb))]), .e (.agg [.pure (.val (.int .i64 p2.fKind)), .pure (.val (.int .i64 p2.fIndex)), .pure (.val (.int .i64 p2.fVersion))])] [(1, r.1.fBase.map Ai), (1, r.1.fNext.map Ai), (1, r.1.fHeld.map Bb)] (.tup [.agg [.own 0, .own 1, .own 2], .one (.pure (.val (.bool r.2)))]) := by
 unfold Ci at h
 refine As (n := 201) (rs := [.cell 6 50, .tmp 7]) Tryz.func27 rfl rfl rfl (A5 rfl) (A5 rfl) rfl fun w0 S0 => ?_
 refine Ab (Aa Ac rfl (qb rfl (qb rfl (qb rfl (qz CX rfl (qa rfl (Ad (Ab (Aa Ac rfl (Ep AI DP KI rfl (qf Db rfl (ql Be rfl ?_))))))))))))
 obtain ⟨c1, h⟩ := AK h
 refine Jf (f := Ai) AI AI DP L2 KI (fun _ => rfl) c1 rfl (Ep AI DP KI rfl (qf BG rfl (ql Be rfl ?_)))
 obtain ⟨c2, h⟩ := AK h
 refine Jf (f := Ai) AI AI DP L2 KI (fun _ => rfl) c2 rfl (Ep Dm FG Oi rfl (qf CT rfl (ql G6 rfl ?_)))
 obtain ⟨c3, h⟩ := AK h
 refine Jf (f := Bb) Dm Dm FG PM Oi (fun _ => rfl) c3 rfl (BM CX HL rfl (qz CX rfl (qs Ax rfl (AM (by kernel_rfl) (Ab (Aa Ac rfl (qf EU rfl (ql Cz rfl (qa rfl (Ad ?_))))))))))
 refine AO h (fun v4 => mk [(6, .e (.one (.ptr 6 0))), (8, .e (.one (.ptr 8 0)))] [(6, .box [.pure (.nil0), .pure (.nil0), .pure (.nil0)]), (8, .box [.own 2001, .own 2002, .own 2003]), (2001, .vec 1 (v4.1.map Ai)), (2002, .vec 1 (v4.2.1.map Ai)), (2003, .vec 1 (v4.2.2.map Bb))]) (fun j4 h => ?_) (fun v4 h => ?_)
 ·refine Ab (Aa Ac rfl (qf Fr rfl (ql Cz rfl (Ad (AN (Ab (Aa Ac rfl (BK rfl (qa rfl (Ad ?_))))))))))
  refine Ap rfl (fun c5 => ?_) (fun c5 => ?_)
  ·have h := Am c5 h
   refine Ab ?_
   refine AO h (fun v6 => mk [(3, .e (.one (.ptr 3 0))), (5, .e (.one (.ptr 5 0))), (6, .e (.one (.ptr 6 0))), (8, .e (.one (.ptr 8 0))), (9, .e (.one (.pure (.val (.int .i64 p2.fIndex))))), (60, .e (.one (.pure (.val (.bool v6)))))] [(3, .box [.pure (.sl (p0.fVersions.map Ai)), .pure (.sl (p0.fNow.map Ai)), .pure (.sl (p0.fTarget.map Ai)), .pure (.sl (p0.fTables.map Ao))]), (5, .box [.pure (.val (.int .i64 p2.fKind)), .pure (.val (.int .i64 p2.fIndex)), .pure (.val (.int .i64 p2.fVersion))]), (6, .box [.pure (.nil0), .pure (.nil0), .pure (.nil0)]), (8, .box [.own 2004, .own 2005, .own 2006]), (2004, .vec 1 (((([] : List Int)) ++ p1.fBase).map Ai)), (2005, .vec 1 (((([] : List Int)) ++ p1.fNext).map Ai)), (2006, .vec 1 (((([] : List Int)) ++ p1.fHeld).map Bb))]) (fun j6 h => ?_) (fun v6 h => ?_)
   ·refine Aa Ac rfl (qf BG rfl (ql Be rfl (qm rfl ?_)))
    obtain ⟨v7, a7, b7, h⟩ := Aj h
    refine qi AI DP a7 (Ah b7) rfl (qk Cz rfl (Dx rfl (qm rfl ?_)))
    refine AE (t := 51) rfl (fun c8 => ?_) (fun c8 => ?_)
    ·have h := Am c8 h
     refine qn rfl (qn rfl (qn rfl (qn rfl (qn rfl (qn rfl (qn rfl (qn rfl (qp rfl (AM (by kernel_rfl) ?_)))))))))
     exact Au _ h (sm [(2004, 18), (2005, 22), (2006, 26)] _ _ rfl rfl)
    ·have h := An c8 h
     refine qf GB rfl (ql Cz rfl (qf Db rfl (ql Be rfl (qm rfl ?_))))
     obtain ⟨v9, a9, b9, h⟩ := Aj h
     refine qi AI DP a9 (Ah b9) rfl (qk Cz rfl (BK rfl (qp rfl (AM (by kernel_rfl) ?_))))
     exact Au _ h (sm [(2004, 18), (2005, 22), (2006, 26)] _ _ rfl rfl)
   ·refine Ap rfl (fun c10 => ?_) (fun c10 => ?_)
    ·have h := Am c10 h
     refine Ab (Aa Ac rfl (BM CX HL rfl (qs Ax rfl (qa rfl (Ad ?_)))))
     obtain rfl := sj h
     refine Al ((AB 6 0 2007 1 _ rfl rfl rfl rfl).trans ((AB 6 1 2008 1 _ rfl rfl rfl rfl).trans ((AB 6 2 2009 1 _ rfl rfl rfl rfl).trans (sm [(1000, 2007), (1001, 2008), (1002, 2009)] [(6, .e (.one (.ptr 6 0))), (7, .e (.one (.pure (.val (.bool false)))))] [(6, .box [.own 1000, .own 1001, .own 1002]), (1000, .vec 1 ((([] : List Int)).map Ai)), (1001, .vec 1 ((([] : List Int)).map Ai)), (1002, .vec 1 ((([] : List Int)).map Bb))] rfl rfl)))) (Az ?_)
     exact ⟨⟨[_, _], ⟨.cellN _ _ _ _ _ _ _ rfl rfl A1 Ax rfl rfl (I7 rfl), ⟨.tmp _ _ rfl, trivial⟩⟩, rfl⟩, ⟨rfl, rfl, rfl, trivial⟩⟩
    ·have h := An c10 h
     refine Ar (Ab (Aa Ac rfl (qf BG rfl (ql Be rfl (qm rfl (qf GB rfl (ql Cz rfl ?_)))))))
     obtain ⟨v11, a11, b11, h⟩ := Aj h
     refine qI AI DP a11 (Ah b11) rfl ?_
     refine A7 rfl rfl rfl rfl (Ah b11) rfl DP rfl (A5 rfl) (A8 Ai ((([] : List Int)) ++ p1.fNext) _ p2.fVersion) ?_
     refine Ad (Ab (Aa Ac rfl (qa rfl (Ad ?_))))
     refine AJ (L := BX N p0 p2) h (fun v12 => mk [(3, .e (.one (.ptr 3 0))), (5, .e (.one (.ptr 5 0))), (6, .e (.one (.ptr 6 0))), (8, .e (.one (.ptr 8 0))), (9, .e (.one (.pure (.val (.int .i64 p2.fIndex))))), (10, .e (.one (.pure (.val (.int .i64 v12.2)))))] [(3, .box [.pure (.sl (p0.fVersions.map Ai)), .pure (.sl (p0.fNow.map Ai)), .pure (.sl (p0.fTarget.map Ai)), .pure (.sl (p0.fTables.map Ao))]), (5, .box [.pure (.val (.int .i64 p2.fKind)), .pure (.val (.int .i64 p2.fIndex)), .pure (.val (.int .i64 p2.fVersion))]), (6, .box [.pure (.nil0), .pure (.nil0), .pure (.nil0)]), (8, .box [.own 2010, .own 2011, .own 2012]), (2010, .vec 1 (((([] : List Int)) ++ p1.fBase).map Ai)), (2011, .vec 1 ((((([] : List Int)) ++ p1.fNext).set ((p2.fIndex).toNat) p2.fVersion).map Ai)), (2012, .vec 1 (v12.1.map Bb))]) (fun v13 => mk [(6, .e (.one (.ptr 6 0))), (8, .e (.one (.ptr 8 0)))] [(6, .box [.pure (.nil0), .pure (.nil0), .pure (.nil0)]), (8, .box [.own 2013, .own 2014, .own 2015]), (2013, .vec 1 (((([] : List Int)) ++ p1.fBase).map Ai)), (2014, .vec 1 ((((([] : List Int)) ++ p1.fNext).set ((p2.fIndex).toNat) p2.fVersion).map Ai)), (2015, .vec 1 (v13.map Bb))]) (fun _ _ => rfl) (sm [(2010, 2004), (2011, 2005), (2012, 2006)] _ _ rfl rfl) (fun j12 n12 v12 h => ?_) (fun v13 s h hs => ?_)
     ·unfold BX at h
      refine Ab (Ab (Aa Ac rfl (qm rfl (qf CS rfl (ql GZ rfl (AZ D9 rfl (A2 rfl (Ad ?_))))))))
      refine Ap rfl (fun c14 => ?_) (fun c14 => ?_)
      ·have h := Am c14 h
       refine Ar ?_
       refine AO h (fun v15 => mk [(3, .e (.one (.ptr 3 0))), (5, .e (.one (.ptr 5 0))), (6, .e (.one (.ptr 6 0))), (8, .e (.one (.ptr 8 0))), (9, .e (.one (.pure (.val (.int .i64 p2.fIndex))))), (10, .e (.one (.pure (.val (.int .i64 v12.2)))))] [(3, .box [.pure (.sl (p0.fVersions.map Ai)), .pure (.sl (p0.fNow.map Ai)), .pure (.sl (p0.fTarget.map Ai)), .pure (.sl (p0.fTables.map Ao))]), (5, .box [.pure (.val (.int .i64 p2.fKind)), .pure (.val (.int .i64 p2.fIndex)), .pure (.val (.int .i64 p2.fVersion))]), (6, .box [.pure (.nil0), .pure (.nil0), .pure (.nil0)]), (8, .box [.own 2016, .own 2017, .own 2018]), (2016, .vec 1 (((([] : List Int)) ++ p1.fBase).map Ai)), (2017, .vec 1 ((((([] : List Int)) ++ p1.fNext).set ((p2.fIndex).toNat) p2.fVersion).map Ai)), (2018, .vec 1 (v15.map Bb))]) (fun j15 h => ?_) (fun v15 h => ?_)
       ·refine AN ?_
        refine AO h (fun v16 => mk [(3, .e (.one (.ptr 3 0))), (5, .e (.one (.ptr 5 0))), (6, .e (.one (.ptr 6 0))), (8, .e (.one (.ptr 8 0))), (9, .e (.one (.pure (.val (.int .i64 p2.fIndex))))), (10, .e (.one (.pure (.val (.int .i64 v12.2))))), (90, .e (.one (.pure (.val (.bool v16)))))] [(3, .box [.pure (.sl (p0.fVersions.map Ai)), .pure (.sl (p0.fNow.map Ai)), .pure (.sl (p0.fTarget.map Ai)), .pure (.sl (p0.fTables.map Ao))]), (5, .box [.pure (.val (.int .i64 p2.fKind)), .pure (.val (.int .i64 p2.fIndex)), .pure (.val (.int .i64 p2.fVersion))]), (6, .box [.pure (.nil0), .pure (.nil0), .pure (.nil0)]), (8, .box [.own 2019, .own 2020, .own 2021]), (2019, .vec 1 (((([] : List Int)) ++ p1.fBase).map Ai)), (2020, .vec 1 ((((([] : List Int)) ++ p1.fNext).set ((p2.fIndex).toNat) p2.fVersion).map Ai)), (2021, .vec 1 (v12.1.map Bb))]) (fun j16 h => ?_) (fun v16 h => ?_)
        ·refine Aa Ac rfl (qf CS rfl (ql GZ rfl (qm rfl ?_)))
         obtain ⟨v17, a17, b17, h⟩ := Aj h
         refine qi D9 D8 a17 (Ah b17) rfl (qg De rfl (qk Cz rfl (qm rfl (BK rfl (qm rfl ?_)))))
         refine AE (t := 83) rfl (fun c18 => ?_) (fun c18 => ?_)
         ·have h := Am c18 h
          refine qf CS rfl (ql GZ rfl (qm rfl ?_))
          obtain ⟨v19, a19, b19, h⟩ := Aj h
          refine qi D9 D8 a19 (Ah b19) rfl (qK Hj D8 rfl ?_)
          obtain ⟨v20, a20, h⟩ := bind_some h
          refine AH [] (Cg N v19 v20 a20) ON rfl (qp rfl (Ad ?_))
          exact Au _ h (sm [(2019, 2010), (2020, 2011), (2021, 2012)] _ _ rfl rfl)
         ·have h := An c18 h
          refine qn rfl (qn rfl (qn rfl (qn rfl (qn rfl (qn rfl (qp rfl (Ad ?_)))))))
          exact Au _ h (sm [(2019, 2010), (2020, 2011), (2021, 2012)] _ _ rfl rfl)
        ·refine Ap rfl (fun c21 => ?_) (fun c21 => ?_)
         ·have h := Am c21 h
          refine Aa Ac rfl (qf CT rfl (ql G6 rfl (qm rfl (qf CT rfl (ql G6 rfl (qm rfl ?_))))))
          obtain ⟨v22, a22, b22, h⟩ := Aj h
          refine qI Dm FG a22 (Ah b22) rfl (qj Ju (Ah b22) rfl (qf GB rfl (ql Cz rfl ?_)))
          obtain ⟨c23, h⟩ := AK h
          refine HF rfl c23 (SE rfl ?_)
          obtain ⟨v24, a24, b24, h⟩ := Aj h
          refine qI Dm FG a24 (Ah b24) rfl ?_
          refine A7 rfl rfl rfl rfl (Ah b24) rfl FG rfl (A5 rfl) (A8 Bb v12.1 _ ((Nf .u8 v22 ((CJ .u8 1 p2.fVersion))))) ?_
          refine AM (by kernel_rfl) ?_
          exact Au _ h (sm [(2016, 2019), (2017, 2020), (2018, 2021)] _ _ rfl rfl)
         ·have h := An c21 h
          refine Ar ?_
          exact Au _ h (sm [(2016, 2019), (2017, 2020), (2018, 2021)] _ _ rfl rfl)
       ·refine Aa Ac rfl (qm rfl (AY rfl (qa rfl (Ad ?_))))
        exact Au _ h (sm [(2010, 2016), (2011, 2017), (2012, 2018)] _ _ rfl rfl)
      ·have h := An c14 h
       refine AX ?_
       exact Au _ h (sm [(2013, 2010), (2014, 2011), (2015, 2012)] _ _ rfl rfl)
     ·exact Au _ h (hs.trans (sm [(2001, 2013), (2002, 2014), (2003, 2015)] _ _ rfl rfl))
  ·have h := An c5 h
   refine Ab (Aa Ac rfl (BK rfl (qa rfl (Ad ?_))))
   refine Ap rfl (fun c25 => ?_) (fun c25 => ?_)
   ·have h := Am c25 h
    refine Ab (Ab (Aa Ac rfl (qf BG rfl (ql Be rfl (qm rfl ?_)))))
    obtain ⟨v26, a26, b26, h⟩ := Aj h
    refine qi AI DP a26 (Ah b26) rfl (qk Cz rfl (A2 rfl (Ad ?_)))
    refine Ap rfl (fun c27 => ?_) (fun c27 => ?_)
    ·have h := Am c27 h
     refine Ab (Aa Ac rfl (BM CX HL rfl (qs Ax rfl (qa rfl (Ad ?_)))))
     obtain rfl := sj h
     refine Al ((AB 6 0 2022 1 _ rfl rfl rfl rfl).trans ((AB 6 1 2023 1 _ rfl rfl rfl rfl).trans ((AB 6 2 2024 1 _ rfl rfl rfl rfl).trans (sm [(1000, 2022), (1001, 2023), (1002, 2024)] [(6, .e (.one (.ptr 6 0))), (7, .e (.one (.pure (.val (.bool false)))))] [(6, .box [.own 1000, .own 1001, .own 1002]), (1000, .vec 1 ((([] : List Int)).map Ai)), (1001, .vec 1 ((([] : List Int)).map Ai)), (1002, .vec 1 ((([] : List Int)).map Bb))] rfl rfl)))) (Az ?_)
     exact ⟨⟨[_, _], ⟨.cellN _ _ _ _ _ _ _ rfl rfl A1 Ax rfl rfl (I7 rfl), ⟨.tmp _ _ rfl, trivial⟩⟩, rfl⟩, ⟨rfl, rfl, rfl, trivial⟩⟩
    ·have h := An c27 h
     refine Ar (Aa Ac rfl (qf Db rfl (ql Be rfl (qm rfl (qf BG rfl (ql Be rfl (qm rfl (qf BG rfl (ql Be rfl (qm rfl ?_))))))))))
     obtain ⟨v28, a28, b28, h⟩ := Aj h
     refine qi AI DP a28 (Ah b28) rfl (qk Cz rfl ?_)
     obtain ⟨v29, a29, b29, h⟩ := Aj h
     refine qI AI DP a29 (Ah b29) rfl ?_
     refine A7 rfl rfl rfl rfl (Ah b29) rfl DP rfl (A5 rfl) (A8 Ai ((([] : List Int)) ++ p1.fBase) _ v28) ?_
     obtain ⟨v30, a30, b30, h⟩ := Aj h
     refine qI AI DP a30 (Ah b30) rfl ?_
     refine A7 rfl rfl rfl rfl (Ah b30) rfl DP rfl (A5 rfl) (A8 Ai ((([] : List Int)) ++ p1.fNext) _ ((-1))) ?_
     refine AM (by kernel_rfl) ?_
     exact Au _ h (sm [(2001, 18), (2002, 22), (2003, 26)] _ _ rfl rfl)
   ·have h := An c25 h
    refine Ab (Aa Ac rfl (BK rfl (qa rfl (Ad ?_))))
    refine Ap rfl (fun c31 => ?_) (fun c31 => ?_)
    ·have h := Am c31 h
     refine Ab (Aa Ac rfl (qf CS rfl (ql GZ rfl (qm rfl ?_))))
     obtain ⟨v32, a32, b32, h⟩ := Aj h
     refine qi D9 D8 a32 (Ah b32) rfl (qK Hj D8 rfl (qz J4 rfl (qs D8 rfl (Ad (Ab (Ab (Aa Ac rfl (qL Hj D8 rfl ?_))))))))
     obtain ⟨v33, a33, h⟩ := bind_some h
     refine AH [] (Cg N v32 v33 a33) ON rfl (Cp rfl (Ad ?_))
     refine Ap rfl (fun c34 => ?_) (fun c34 => ?_)
     ·have h := Am c34 h
      refine Ab (Aa Ac rfl (BM CX HL rfl (qs Ax rfl (qa rfl (Ad ?_)))))
      obtain rfl := sj h
      refine Al ((AB 6 0 2025 1 _ rfl rfl rfl rfl).trans ((AB 6 1 2026 1 _ rfl rfl rfl rfl).trans ((AB 6 2 2027 1 _ rfl rfl rfl rfl).trans (sm [(1000, 2025), (1001, 2026), (1002, 2027)] [(6, .e (.one (.ptr 6 0))), (7, .e (.one (.pure (.val (.bool false)))))] [(6, .box [.own 1000, .own 1001, .own 1002]), (1000, .vec 1 ((([] : List Int)).map Ai)), (1001, .vec 1 ((([] : List Int)).map Ai)), (1002, .vec 1 ((([] : List Int)).map Bb))] rfl rfl)))) (Az ?_)
      exact ⟨⟨[_, _], ⟨.cellN _ _ _ _ _ _ _ rfl rfl A1 Ax rfl rfl (I7 rfl), ⟨.tmp _ _ rfl, trivial⟩⟩, rfl⟩, ⟨rfl, rfl, rfl, trivial⟩⟩
     ·have h := An c34 h
      refine Ar (Ab (Aa Ac rfl (qL A1 Ax rfl (qf De rfl (ql Cz rfl ?_)))))
      obtain ⟨v35, a35, h⟩ := bind_some h
      refine AH [] (Ea N p1 v32.fFrom v35 a35) RZ rfl (qa rfl (Ad (Ab (Ab (Aa Ac rfl (qf CT rfl (ql G6 rfl (qm rfl ?_))))))))
      obtain ⟨v36, a36, b36, h⟩ := Aj h
      refine qi Dm FG a36 (Ah b36) rfl (qk Ju rfl (qm rfl (BK rfl (Ad ?_))))
      refine Ap rfl (fun c37 => ?_) (fun c37 => ?_)
      ·have h := Am c37 h
       refine Ab (Aa Ac rfl (BM CX HL rfl (qs Ax rfl (qa rfl (Ad ?_)))))
       obtain rfl := sj h
       refine Al ((AB 6 0 2028 1 _ rfl rfl rfl rfl).trans ((AB 6 1 2029 1 _ rfl rfl rfl rfl).trans ((AB 6 2 2030 1 _ rfl rfl rfl rfl).trans (sm [(1000, 2028), (1001, 2029), (1002, 2030)] [(6, .e (.one (.ptr 6 0))), (7, .e (.one (.pure (.val (.bool false)))))] [(6, .box [.own 1000, .own 1001, .own 1002]), (1000, .vec 1 ((([] : List Int)).map Ai)), (1001, .vec 1 ((([] : List Int)).map Ai)), (1002, .vec 1 ((([] : List Int)).map Bb))] rfl rfl)))) (Az ?_)
       exact ⟨⟨[_, _], ⟨.cellN _ _ _ _ _ _ _ rfl rfl A1 Ax rfl rfl (I7 rfl), ⟨.tmp _ _ rfl, trivial⟩⟩, rfl⟩, ⟨rfl, rfl, rfl, trivial⟩⟩
      ·have h := An c37 h
       refine Ar (Ab (Ab (Aa Ac rfl (qa rfl (Ad ?_)))))
       refine AJ (L := BD N p0 p1 p2 v32 v35) h (fun v38 => mk [(3, .e (.one (.ptr 3 0))), (4, .e (.one (.ptr 4 0))), (6, .e (.one (.ptr 6 0))), (8, .e (.one (.ptr 8 0))), (9, .e (.one (.pure (.val (.int .i64 p2.fIndex))))), (11, .e (.one (.ptr 11 0))), (12, .e (.one (.pure (.val (.int .u8 v35))))), (13, .e (.one (.pure (.val (.int .i64 v38)))))] [(3, .box [.pure (.sl (p0.fVersions.map Ai)), .pure (.sl (p0.fNow.map Ai)), .pure (.sl (p0.fTarget.map Ai)), .pure (.sl (p0.fTables.map Ao))]), (4, .box [.pure (.sl (p1.fBase.map Ai)), .pure (.sl (p1.fNext.map Ai)), .pure (.sl (p1.fHeld.map Bb))]), (6, .box [.pure (.nil0), .pure (.nil0), .pure (.nil0)]), (8, .box [.own 2031, .own 2032, .own 2033]), (11, .box [.pure (.val (.int .i64 v32.fKind)), .pure (.val (.int .i64 v32.fFrom)), .pure (.val (.int .i64 v32.fTo)), .pure (.val (.bool v32.fAware)), .pure (.sl (v32.fOK.map (ER eB))), .pure (.sl (v32.fRewrite.map (ER eB)))]), (2031, .vec 1 (((([] : List Int)) ++ p1.fBase).map Ai)), (2032, .vec 1 (((([] : List Int)) ++ p1.fNext).map Ai)), (2033, .vec 1 (((([] : List Int)) ++ p1.fHeld).map Bb))]) (fun v39 => mk [(6, .e (.one (.ptr 6 0))), (8, .e (.one (.ptr 8 0))), (9, .e (.one (.pure (.val (.int .i64 p2.fIndex))))), (12, .e (.one (.pure (.val (.int .u8 v35)))))] [(6, .box [.pure (.nil0), .pure (.nil0), .pure (.nil0)]), (8, .box [.own 2034, .own 2035, .own 2036]), (2034, .vec 1 (((([] : List Int)) ++ p1.fBase).map Ai)), (2035, .vec 1 (((([] : List Int)) ++ p1.fNext).map Ai)), (2036, .vec 1 (((([] : List Int)) ++ p1.fHeld).map Bb))]) (fun _ _ => rfl) (sm [(2031, 18), (2032, 22), (2033, 26)] _ _ rfl rfl) (fun j38 n38 v38 h => ?_) (fun v39 s h hs => ?_)
       ·unfold BD at h
        refine Ab (Ab (Aa Ac rfl (qm rfl (qf Bu rfl (ql Be rfl (qf De rfl (ql Cz rfl ?_)))))))
        obtain ⟨v40, a40, b40, h⟩ := Aj h
        refine qi AI DP a40 (Ah b40) rfl (qk Cz rfl (A2 rfl (Ad ?_)))
        refine Ap rfl (fun c41 => ?_) (fun c41 => ?_)
        ·have h := Am c41 h
         refine Ar (Ab (AN ?_))
         refine AO h (fun v42 => mk [(3, .e (.one (.ptr 3 0))), (4, .e (.one (.ptr 4 0))), (6, .e (.one (.ptr 6 0))), (8, .e (.one (.ptr 8 0))), (9, .e (.one (.pure (.val (.int .i64 p2.fIndex))))), (11, .e (.one (.ptr 11 0))), (12, .e (.one (.pure (.val (.int .u8 v35))))), (13, .e (.one (.pure (.val (.int .i64 v38))))), (14, .e (.one (.pure (.val (.bool v42)))))] [(3, .box [.pure (.sl (p0.fVersions.map Ai)), .pure (.sl (p0.fNow.map Ai)), .pure (.sl (p0.fTarget.map Ai)), .pure (.sl (p0.fTables.map Ao))]), (4, .box [.pure (.sl (p1.fBase.map Ai)), .pure (.sl (p1.fNext.map Ai)), .pure (.sl (p1.fHeld.map Bb))]), (6, .box [.pure (.nil0), .pure (.nil0), .pure (.nil0)]), (8, .box [.own 2037, .own 2038, .own 2039]), (11, .box [.pure (.val (.int .i64 v32.fKind)), .pure (.val (.int .i64 v32.fFrom)), .pure (.val (.int .i64 v32.fTo)), .pure (.val (.bool v32.fAware)), .pure (.sl (v32.fOK.map (ER eB))), .pure (.sl (v32.fRewrite.map (ER eB)))]), (2037, .vec 1 (((([] : List Int)) ++ p1.fBase).map Ai)), (2038, .vec 1 (((([] : List Int)) ++ p1.fNext).map Ai)), (2039, .vec 1 (((([] : List Int)) ++ p1.fHeld).map Bb))]) (fun j42 h => ?_) (fun v42 h => ?_)
         ·refine Aa Ac rfl (qf CT rfl (ql G6 rfl (qm rfl ?_)))
          obtain ⟨v43, a43, b43, h⟩ := Aj h
          refine qi Dm FG a43 (Ah b43) rfl (qk Ju rfl (qm rfl ?_))
          obtain ⟨v44, a44, h⟩ := bind_some h
          refine AH [] (FM N v43 v38 v44 a44) Tk rfl (qm rfl ?_)
          refine AE (t := 166) rfl (fun c45 => ?_) (fun c45 => ?_)
          ·have h := Am c45 h
           refine qm rfl (qm rfl ?_)
           obtain ⟨v46, a46, h⟩ := bind_some h
           refine AH [] (FM N v35 v38 v46 a46) Tk rfl (Cp rfl (qp rfl (qa rfl (Ad ?_))))
           exact Au _ h (sm [(2037, 2031), (2038, 2032), (2039, 2033)] _ _ rfl rfl)
          ·have h := An c45 h
           refine qn rfl (qn rfl (qn rfl (qn rfl (qp rfl (qa rfl (Ad ?_))))))
           exact Au _ h (sm [(2037, 2031), (2038, 2032), (2039, 2033)] _ _ rfl rfl)
         ·refine AO h (fun v47 => mk [(3, .e (.one (.ptr 3 0))), (4, .e (.one (.ptr 4 0))), (6, .e (.one (.ptr 6 0))), (8, .e (.one (.ptr 8 0))), (9, .e (.one (.pure (.val (.int .i64 p2.fIndex))))), (11, .e (.one (.ptr 11 0))), (12, .e (.one (.pure (.val (.int .u8 v35))))), (13, .e (.one (.pure (.val (.int .i64 v38))))), (193, .e (.one (.pure (.val (.bool v47)))))] [(3, .box [.pure (.sl (p0.fVersions.map Ai)), .pure (.sl (p0.fNow.map Ai)), .pure (.sl (p0.fTarget.map Ai)), .pure (.sl (p0.fTables.map Ao))]), (4, .box [.pure (.sl (p1.fBase.map Ai)), .pure (.sl (p1.fNext.map Ai)), .pure (.sl (p1.fHeld.map Bb))]), (6, .box [.pure (.nil0), .pure (.nil0), .pure (.nil0)]), (8, .box [.own 2040, .own 2041, .own 2042]), (11, .box [.pure (.val (.int .i64 v32.fKind)), .pure (.val (.int .i64 v32.fFrom)), .pure (.val (.int .i64 v32.fTo)), .pure (.val (.bool v32.fAware)), .pure (.sl (v32.fOK.map (ER eB))), .pure (.sl (v32.fRewrite.map (ER eB)))]), (2040, .vec 1 (((([] : List Int)) ++ p1.fBase).map Ai)), (2041, .vec 1 (((([] : List Int)) ++ p1.fNext).map Ai)), (2042, .vec 1 (((([] : List Int)) ++ p1.fHeld).map Bb))]) (fun j47 h => ?_) (fun v47 h => ?_)
          ·refine Aa Ac rfl (qm rfl (qm rfl ?_))
           refine AE (t := 173) rfl (fun c48 => ?_) (fun c48 => ?_)
           ·have h := Am c48 h
            refine qf FK rfl (ql Cz rfl (BK rfl (qp rfl (qm rfl ?_))))
            refine AE (t := 178) rfl (fun c49 => ?_) (fun c49 => ?_)
            ·have h := Am c49 h
             refine qf GC rfl (ql JB rfl (qm rfl ?_))
             obtain ⟨v50, a50, b50, h⟩ := Aj h
             refine qi Gf Jq a50 (Ah b50) rfl (qk K3 rfl (qf Db rfl (ql Be rfl (qf De rfl (ql Cz rfl ?_)))))
             obtain ⟨v51, a51, b51, h⟩ := Aj h
             refine qi AI DP a51 (Ah b51) rfl (qk Cz rfl ?_)
             obtain ⟨v52, a52, b52, h⟩ := Aj h
             refine qi E5 Ph a52 (Ah b52) rfl (qk QS rfl (Cp rfl (qp rfl (AM (by kernel_rfl) ?_))))
             exact Au _ h (sm [(2040, 2037), (2041, 2038), (2042, 2039)] _ _ rfl rfl)
            ·have h := An c49 h
             refine qn rfl (qn rfl (qn rfl (qn rfl (qn rfl (qn rfl (qn rfl (qn rfl (qn rfl (qn rfl (qn rfl (qn rfl (qn rfl (qn rfl (qp rfl (AM (by kernel_rfl) ?_)))))))))))))))
             exact Au _ h (sm [(2040, 2037), (2041, 2038), (2042, 2039)] _ _ rfl rfl)
           ·have h := An c48 h
            refine qn rfl (qn rfl (qn rfl (qp rfl (qm rfl (qn rfl (qn rfl (qn rfl (qn rfl (qn rfl (qn rfl (qn rfl (qn rfl (qn rfl (qn rfl (qn rfl (qn rfl (qn rfl (qn rfl (qp rfl (AM (by kernel_rfl) ?_))))))))))))))))))))
            exact Au _ h (sm [(2040, 2037), (2041, 2038), (2042, 2039)] _ _ rfl rfl)
          ·refine Ap rfl (fun c53 => ?_) (fun c53 => ?_)
           ·have h := Am c53 h
            refine Ab (Aa Ac rfl (BM CX HL rfl (qs Ax rfl (qa rfl (Ad ?_)))))
            obtain rfl := sj h
            refine Al ((AB 6 0 2043 1 _ rfl rfl rfl rfl).trans ((AB 6 1 2044 1 _ rfl rfl rfl rfl).trans ((AB 6 2 2045 1 _ rfl rfl rfl rfl).trans (sm [(1000, 2043), (1001, 2044), (1002, 2045)] [(6, .e (.one (.ptr 6 0))), (7, .e (.one (.pure (.val (.bool false)))))] [(6, .box [.own 1000, .own 1001, .own 1002]), (1000, .vec 1 ((([] : List Int)).map Ai)), (1001, .vec 1 ((([] : List Int)).map Ai)), (1002, .vec 1 ((([] : List Int)).map Bb))] rfl rfl)))) (Az ?_)
            exact ⟨⟨[_, _], ⟨.cellN _ _ _ _ _ _ _ rfl rfl A1 Ax rfl rfl (I7 rfl), ⟨.tmp _ _ rfl, trivial⟩⟩, rfl⟩, ⟨rfl, rfl, rfl, trivial⟩⟩
           ·have h := An c53 h
            refine Ar (Aa Ac rfl (qm rfl (AY rfl (qa rfl (Ad ?_)))))
            exact Au _ h (sm [(2031, 2040), (2032, 2041), (2033, 2042)] _ _ rfl rfl)
        ·have h := An c41 h
         refine AX ?_
         exact Au _ h (sm [(2034, 2031), (2035, 2032), (2036, 2033)] _ _ rfl rfl)
       ·refine Al hs (Aa Ac rfl (qf CT rfl (ql G6 rfl (qm rfl (qm rfl ?_)))))
        obtain ⟨v54, a54, b54, h⟩ := Aj h
        refine qI Dm FG a54 (Ah b54) rfl ?_
        refine A7 rfl rfl rfl rfl (Ah b54) rfl FG rfl (A5 rfl) (A8 Bb ((([] : List Int)) ++ p1.fHeld) _ v35) ?_
        refine Ad ?_
        exact Au _ h (sm [(2001, 2034), (2002, 2035), (2003, 2036)] _ _ rfl rfl)
    ·have h := An c31 h
     refine Ab (Ab (Aa Ac rfl (qf BG rfl (ql Be rfl (qm rfl ?_)))))
     obtain ⟨v55, a55, b55, h⟩ := Aj h
     refine qi AI DP a55 (Ah b55) rfl (qk Cz rfl (A2 rfl (Ad ?_)))
     refine Ap rfl (fun c56 => ?_) (fun c56 => ?_)
     ·have h := Am c56 h
      refine Ab (Aa Ac rfl (BM CX HL rfl (qs Ax rfl (qa rfl (Ad ?_)))))
      obtain rfl := sj h
      refine Al ((AB 6 0 2046 1 _ rfl rfl rfl rfl).trans ((AB 6 1 2047 1 _ rfl rfl rfl rfl).trans ((AB 6 2 2048 1 _ rfl rfl rfl rfl).trans (sm [(1000, 2046), (1001, 2047), (1002, 2048)] [(6, .e (.one (.ptr 6 0))), (7, .e (.one (.pure (.val (.bool false)))))] [(6, .box [.own 1000, .own 1001, .own 1002]), (1000, .vec 1 ((([] : List Int)).map Ai)), (1001, .vec 1 ((([] : List Int)).map Ai)), (1002, .vec 1 ((([] : List Int)).map Bb))] rfl rfl)))) (Az ?_)
      exact ⟨⟨[_, _], ⟨.cellN _ _ _ _ _ _ _ rfl rfl A1 Ax rfl rfl (I7 rfl), ⟨.tmp _ _ rfl, trivial⟩⟩, rfl⟩, ⟨rfl, rfl, rfl, trivial⟩⟩
     ·have h := An c56 h
      refine Ar (Aa Ac rfl (qf BG rfl (ql Be rfl (qm rfl ?_))))
      obtain ⟨v57, a57, b57, h⟩ := Aj h
      refine qI AI DP a57 (Ah b57) rfl ?_
      refine A7 rfl rfl rfl rfl (Ah b57) rfl DP rfl (A5 rfl) (A8 Ai ((([] : List Int)) ++ p1.fNext) _ ((-1))) ?_
      refine Ad ?_
      exact Au _ h (sm [(2001, 18), (2002, 22), (2003, 26)] _ _ rfl rfl)
 ·refine Ab (Aa Ac rfl (qL A1 Ax rfl (qs Ax rfl (qa rfl (Ad ?_)))))
  obtain rfl := sj h
  refine Al (sm [(1000, 2001), (1001, 2002), (1002, 2003)] [(6, .e (.one (.ptr 6 0))), (7, .e (.one (.pure (.val (.bool true)))))] [(6, .box [.own 1000, .own 1001, .own 1002]), (1000, .vec 1 (v4.1.map Ai)), (1001, .vec 1 (v4.2.1.map Ai)), (1002, .vec 1 (v4.2.2.map Bb))] rfl rfl) (Az ?_)
  exact ⟨⟨[_, _], ⟨.cellN _ _ _ _ _ _ _ rfl rfl A1 Ax rfl rfl (I7 rfl), ⟨.tmp _ _ rfl, trivial⟩⟩, rfl⟩, ⟨rfl, rfl, rfl, trivial⟩⟩
set_option maxRecDepth 10000 in
theorem J5 (N : Nat) (p0 : Ag) (p1 : Ae) (p2 : Ak) (r : Ae × Int) (h : Ek N p0 p1 p2 = some r) : AC Tryz.prog 66 [.e (.agg [.pure (.sl (p0.fVersions.map Ai)), .pure (.sl (p0.fNow.map Ai)), .pure (.sl (p0.fTarget.map Ai)), .pure (.sl (p0.fTables.map Ao))]), .e (.agg [.pure (.sl (p1.fBase.map Ai)), .pure (.sl (p1.fNext.map Ai)), .pure (.sl (p1.fHeld.map Bb))]), .e (.agg [.pure (.val (.int .i64 p2.fKind)), .pure (.val (.int .i64 p2.fIndex)), .pure (.val (.int .i64 p2.fVersion))])] [(1, r.1.fBase.map Ai), (1, r.1.fNext.map Ai), (1, r.1.fHeld.map Bb)] (.tup [.agg [.own 0, .own 1, .own 2], .one (.pure (.val (.int .i64 r.2)))]) := by
 unfold Ek at h
 refine As (n := 73) (rs := [.cell 6 50, .tmp 7]) Tryz.func66 rfl rfl rfl (A5 rfl) (A5 rfl) rfl fun w0 S0 => ?_
 refine Ab (Aa Ac rfl (qb rfl (qb rfl (qb rfl (qz CX rfl (qa rfl (Ad (Ab (Ab (Aa Ac rfl (qL D4 DQ rfl (qL A1 Ax rfl ?_))))))))))))
 obtain ⟨v1, a1, h⟩ := bind_some h
 refine AH [] (J8 N p0 p1 v1 a1) Wi rfl (qa rfl (Ad (Ab (Aa Ac rfl (qm rfl (Cw rfl (Ad ?_)))))))
 refine Ap rfl (fun c2 => ?_) (fun c2 => ?_)
 ·have h := Am c2 h
  refine Ab (Aa Ac rfl (BM CX HL rfl (qm rfl (qs Ax rfl (qa rfl (Ad ?_))))))
  obtain rfl := sj h
  refine Al ((AB 6 0 2001 1 _ rfl rfl rfl rfl).trans ((AB 6 1 2002 1 _ rfl rfl rfl rfl).trans ((AB 6 2 2003 1 _ rfl rfl rfl rfl).trans (sm [(1000, 2001), (1001, 2002), (1002, 2003)] [(6, .e (.one (.ptr 6 0))), (7, .e (.one (.pure (.val (.int .i64 v1)))))] [(6, .box [.own 1000, .own 1001, .own 1002]), (1000, .vec 1 ((([] : List Int)).map Ai)), (1001, .vec 1 ((([] : List Int)).map Ai)), (1002, .vec 1 ((([] : List Int)).map Bb))] rfl rfl)))) (Az ?_)
  exact ⟨⟨[_, _], ⟨.cellN _ _ _ _ _ _ _ rfl rfl A1 Ax rfl rfl (I7 rfl), ⟨.tmp _ _ rfl, trivial⟩⟩, rfl⟩, ⟨rfl, rfl, rfl, trivial⟩⟩
 ·have h := An c2 h
  refine Ar (Ab (Ab (Aa Ac rfl (qL Ht DE rfl ?_))))
  obtain ⟨v3, a3, h⟩ := bind_some h
  refine AH [] (J9 N p2 v3 a3) W7 rfl (Cp rfl (Ad ?_))
  refine Ap rfl (fun c4 => ?_) (fun c4 => ?_)
  ·have h := Am c4 h
   refine Ab (Aa Ac rfl (BM CX HL rfl (qs Ax rfl (qa rfl (Ad ?_)))))
   obtain rfl := sj h
   refine Al ((AB 6 0 2004 1 _ rfl rfl rfl rfl).trans ((AB 6 1 2005 1 _ rfl rfl rfl rfl).trans ((AB 6 2 2006 1 _ rfl rfl rfl rfl).trans (sm [(1000, 2004), (1001, 2005), (1002, 2006)] [(6, .e (.one (.ptr 6 0))), (7, .e (.one (.pure (.val (.int .i64 1)))))] [(6, .box [.own 1000, .own 1001, .own 1002]), (1000, .vec 1 ((([] : List Int)).map Ai)), (1001, .vec 1 ((([] : List Int)).map Ai)), (1002, .vec 1 ((([] : List Int)).map Bb))] rfl rfl)))) (Az ?_)
   exact ⟨⟨[_, _], ⟨.cellN _ _ _ _ _ _ _ rfl rfl A1 Ax rfl rfl (I7 rfl), ⟨.tmp _ _ rfl, trivial⟩⟩, rfl⟩, ⟨rfl, rfl, rfl, trivial⟩⟩
  ·have h := An c4 h
   refine Ar (Ab ?_)
   refine AO h (fun v5 => mk [(3, .e (.one (.ptr 3 0))), (4, .e (.one (.ptr 4 0))), (5, .e (.one (.ptr 5 0))), (6, .e (.one (.ptr 6 0))), (45, .e (.one (.pure (.val (.bool v5)))))] [(3, .box [.pure (.sl (p0.fVersions.map Ai)), .pure (.sl (p0.fNow.map Ai)), .pure (.sl (p0.fTarget.map Ai)), .pure (.sl (p0.fTables.map Ao))]), (4, .box [.pure (.sl (p1.fBase.map Ai)), .pure (.sl (p1.fNext.map Ai)), .pure (.sl (p1.fHeld.map Bb))]), (5, .box [.pure (.val (.int .i64 p2.fKind)), .pure (.val (.int .i64 p2.fIndex)), .pure (.val (.int .i64 p2.fVersion))]), (6, .box [.pure (.nil0), .pure (.nil0), .pure (.nil0)])]) (fun j5 h => ?_) (fun v5 h => ?_)
   ·refine Aa Ac rfl (qf Fr rfl (ql Cz rfl (BK rfl (qm rfl ?_))))
    refine AE (t := 25) rfl (fun c6 => ?_) (fun c6 => ?_)
    ·have h := Am c6 h
     refine qf EU rfl (ql Cz rfl (qf CS rfl (ql GZ rfl (AZ D9 rfl (Dx rfl (qp rfl (qm rfl ?_)))))))
     refine AE (t := 33) rfl (fun c7 => ?_) (fun c7 => ?_)
     ·have h := Am c7 h
      refine qn rfl (qn rfl (qn rfl (qn rfl (qu rfl (qu rfl (qu rfl (qu rfl (qu rfl (qu rfl (qn rfl (qp rfl (Ad ?_))))))))))))
      exact Au _ h (sm [] _ _ rfl rfl)
     ·have h := An c7 h
      refine qf Fr rfl (ql Cz rfl (Cw rfl (qm rfl ?_)))
      refine AE (t := 37) rfl (fun c8 => ?_) (fun c8 => ?_)
      ·have h := Am c8 h
       refine qf EU rfl (ql Cz rfl (qf Bu rfl (ql Be rfl (AZ AI rfl (Dx rfl (qp rfl (qp rfl (Ad ?_))))))))
       exact Au _ h (sm [] _ _ rfl rfl)
      ·have h := An c8 h
       refine qn rfl (qn rfl (qn rfl (qn rfl (qn rfl (qn rfl (qp rfl (qp rfl (Ad ?_))))))))
       exact Au _ h (sm [] _ _ rfl rfl)
    ·have h := An c6 h
     refine qn rfl (qn rfl (qn rfl (qn rfl (qn rfl (qn rfl (qp rfl (qm rfl (qf Fr rfl (ql Cz rfl (Cw rfl (qm rfl ?_)))))))))))
     refine AE (t := 37) rfl (fun c9 => ?_) (fun c9 => ?_)
     ·have h := Am c9 h
      refine qf EU rfl (ql Cz rfl (qf Bu rfl (ql Be rfl (AZ AI rfl (Dx rfl (qp rfl (qp rfl (Ad ?_))))))))
      exact Au _ h (sm [] _ _ rfl rfl)
     ·have h := An c9 h
      refine qn rfl (qn rfl (qn rfl (qn rfl (qn rfl (qn rfl (qp rfl (qp rfl (Ad ?_))))))))
      exact Au _ h (sm [] _ _ rfl rfl)
   ·refine Ap rfl (fun c10 => ?_) (fun c10 => ?_)
    ·have h := Am c10 h
     refine Ab (Aa Ac rfl (BM CX HL rfl (qs Ax rfl (qa rfl (Ad ?_)))))
     obtain rfl := sj h
     refine Al ((AB 6 0 2007 1 _ rfl rfl rfl rfl).trans ((AB 6 1 2008 1 _ rfl rfl rfl rfl).trans ((AB 6 2 2009 1 _ rfl rfl rfl rfl).trans (sm [(1000, 2007), (1001, 2008), (1002, 2009)] [(6, .e (.one (.ptr 6 0))), (7, .e (.one (.pure (.val (.int .i64 4)))))] [(6, .box [.own 1000, .own 1001, .own 1002]), (1000, .vec 1 ((([] : List Int)).map Ai)), (1001, .vec 1 ((([] : List Int)).map Ai)), (1002, .vec 1 ((([] : List Int)).map Bb))] rfl rfl)))) (Az ?_)
     exact ⟨⟨[_, _], ⟨.cellN _ _ _ _ _ _ _ rfl rfl A1 Ax rfl rfl (I7 rfl), ⟨.tmp _ _ rfl, trivial⟩⟩, rfl⟩, ⟨rfl, rfl, rfl, trivial⟩⟩
    ·have h := An c10 h
     refine Ar (Ab ?_)
     refine AO h (fun v11 => mk [(3, .e (.one (.ptr 3 0))), (4, .e (.one (.ptr 4 0))), (5, .e (.one (.ptr 5 0))), (6, .e (.one (.ptr 6 0))), (60, .e (.one (.pure (.val (.bool v11)))))] [(3, .box [.pure (.sl (p0.fVersions.map Ai)), .pure (.sl (p0.fNow.map Ai)), .pure (.sl (p0.fTarget.map Ai)), .pure (.sl (p0.fTables.map Ao))]), (4, .box [.pure (.sl (p1.fBase.map Ai)), .pure (.sl (p1.fNext.map Ai)), .pure (.sl (p1.fHeld.map Bb))]), (5, .box [.pure (.val (.int .i64 p2.fKind)), .pure (.val (.int .i64 p2.fIndex)), .pure (.val (.int .i64 p2.fVersion))]), (6, .box [.pure (.nil0), .pure (.nil0), .pure (.nil0)])]) (fun j11 h => ?_) (fun v11 h => ?_)
     ·refine Aa Ac rfl (qf Fr rfl (ql Cz rfl (BK rfl (qm rfl ?_))))
      refine AE (t := 50) rfl (fun c12 => ?_) (fun c12 => ?_)
      ·have h := Am c12 h
       refine qf GB rfl (ql Cz rfl (qf Bu rfl (ql Be rfl (qf EU rfl (ql Cz rfl ?_)))))
       obtain ⟨v13, a13, b13, h⟩ := Aj h
       refine qi AI DP a13 (Ah b13) rfl (qk Cz rfl (Dx rfl (qp rfl (AM (by kernel_rfl) ?_))))
       exact Au _ h (sm [] _ _ rfl rfl)
      ·have h := An c12 h
       refine qn rfl (qn rfl (qn rfl (qn rfl (qn rfl (qn rfl (qn rfl (qn rfl (qn rfl (qp rfl (AM (by kernel_rfl) ?_))))))))))
       exact Au _ h (sm [] _ _ rfl rfl)
     ·refine Ap rfl (fun c14 => ?_) (fun c14 => ?_)
      ·have h := Am c14 h
       refine Ab (Aa Ac rfl (BM CX HL rfl (qs Ax rfl (qa rfl (Ad ?_)))))
       obtain rfl := sj h
       refine Al ((AB 6 0 2010 1 _ rfl rfl rfl rfl).trans ((AB 6 1 2011 1 _ rfl rfl rfl rfl).trans ((AB 6 2 2012 1 _ rfl rfl rfl rfl).trans (sm [(1000, 2010), (1001, 2011), (1002, 2012)] [(6, .e (.one (.ptr 6 0))), (7, .e (.one (.pure (.val (.int .i64 4)))))] [(6, .box [.own 1000, .own 1001, .own 1002]), (1000, .vec 1 ((([] : List Int)).map Ai)), (1001, .vec 1 ((([] : List Int)).map Ai)), (1002, .vec 1 ((([] : List Int)).map Bb))] rfl rfl)))) (Az ?_)
       exact ⟨⟨[_, _], ⟨.cellN _ _ _ _ _ _ _ rfl rfl A1 Ax rfl rfl (I7 rfl), ⟨.tmp _ _ rfl, trivial⟩⟩, rfl⟩, ⟨rfl, rfl, rfl, trivial⟩⟩
      ·have h := An c14 h
       refine Ar (Ab (Aa Ac rfl (qL D4 DQ rfl (qL A1 Ax rfl (qL Ht DE rfl ?_)))))
       obtain ⟨v15, a15, h⟩ := bind_some h
       refine AH [2013, 2014, 2015] (Gj N p0 p1 p2 v15 a15) Uv rfl (qm rfl (qx rfl (qx rfl (qz CX rfl (qs Ax rfl (qa rfl (Ad (Ab (Ab (Aa Ac rfl (qm rfl (Cp rfl (Ad ?_)))))))))))))
       refine Ap rfl (fun c16 => ?_) (fun c16 => ?_)
       ·have h := Am c16 h
        refine Ab (Aa Ac rfl (BM CX HL rfl (qs Ax rfl (qa rfl (Ad ?_)))))
        obtain rfl := sj h
        refine Al ((AB 6 0 2016 1 _ rfl rfl rfl rfl).trans ((AB 6 1 2017 1 _ rfl rfl rfl rfl).trans ((AB 6 2 2018 1 _ rfl rfl rfl rfl).trans (sm [(1000, 2016), (1001, 2017), (1002, 2018)] [(6, .e (.one (.ptr 6 0))), (7, .e (.one (.pure (.val (.int .i64 11)))))] [(6, .box [.own 1000, .own 1001, .own 1002]), (1000, .vec 1 ((([] : List Int)).map Ai)), (1001, .vec 1 ((([] : List Int)).map Ai)), (1002, .vec 1 ((([] : List Int)).map Bb))] rfl rfl)))) (Az ?_)
        exact ⟨⟨[_, _], ⟨.cellN _ _ _ _ _ _ _ rfl rfl A1 Ax rfl rfl (I7 rfl), ⟨.tmp _ _ rfl, trivial⟩⟩, rfl⟩, ⟨rfl, rfl, rfl, trivial⟩⟩
       ·have h := An c16 h
        refine Ar (Ab (Aa Ac rfl (qL A1 Ax rfl (qs Ax rfl (qa rfl (Ad ?_))))))
        obtain rfl := sj h
        refine Al (sm [(1000, 2013), (1001, 2014), (1002, 2015)] [(6, .e (.one (.ptr 6 0))), (7, .e (.one (.pure (.val (.int .i64 0)))))] [(6, .box [.own 1000, .own 1001, .own 1002]), (1000, .vec 1 (v15.1.fBase.map Ai)), (1001, .vec 1 (v15.1.fNext.map Ai)), (1002, .vec 1 (v15.1.fHeld.map Bb))] rfl rfl) (Az ?_)
        exact ⟨⟨[_, _], ⟨.cellN _ _ _ _ _ _ _ rfl rfl A1 Ax rfl rfl (I7 rfl), ⟨.tmp _ _ rfl, trivial⟩⟩, rfl⟩, ⟨rfl, rfl, rfl, trivial⟩⟩
set_option maxRecDepth 10000 in
theorem J2 (N : Nat) (p0 : Ag) (p1 : Ae) (r : (List Ak)) (h : Eu N p0 p1 = some r) : AC Tryz.prog 51 [.e (.agg [.pure (.sl (p0.fVersions.map Ai)), .pure (.sl (p0.fNow.map Ai)), .pure (.sl (p0.fTarget.map Ai)), .pure (.sl (p0.fTables.map Ao))]), .e (.agg [.pure (.sl (p1.fBase.map Ai)), .pure (.sl (p1.fNext.map Ai)), .pure (.sl (p1.fHeld.map Bb))])] [(3, r.map AD)] (.e (.one (.own 0))) := by
 unfold Eu at h
 refine As (n := 49) (rs := [.tmp 4]) Tryz.func51 rfl rfl rfl (A5 rfl) (A5 rfl) rfl fun w0 S0 => ?_
 refine Ab (Aa Ac rfl (qb rfl (qb rfl (qa rfl (Ad (Ab (Aa Ac rfl (qa rfl (Ad (Ab (Ab (Aa Ac rfl (qa rfl (Ad ?_))))))))))))))
 refine AJ (L := Bs N p0 p1) h (fun v1 => mk [(2, .e (.one (.ptr 2 0))), (3, .e (.one (.ptr 3 0))), (5, .e (.one (.own 2001))), (6, .e (.one (.pure (.val (.int .i64 v1.2)))))] [(2, .box [.pure (.sl (p0.fVersions.map Ai)), .pure (.sl (p0.fNow.map Ai)), .pure (.sl (p0.fTarget.map Ai)), .pure (.sl (p0.fTables.map Ao))]), (3, .box [.pure (.sl (p1.fBase.map Ai)), .pure (.sl (p1.fNext.map Ai)), .pure (.sl (p1.fHeld.map Bb))]), (2001, .vec 3 (v1.1.map AD))]) (fun v2 => mk [(5, .e (.one (.own 2002)))] [(2002, .vec 3 (v2.map AD))]) (fun _ _ => rfl) ((Bf 5 2011 3 rfl rfl rfl).trans (sm [(2001, 2011)] _ _ rfl rfl)) (fun j1 n1 v1 h => ?_) (fun v2 s h hs => ?_)
 ·unfold Bs at h
  refine Ab (Ab (Aa Ac rfl (qm rfl (Kg rfl (Ad ?_)))))
  refine Ap rfl (fun c3 => ?_) (fun c3 => ?_)
  ·have h := Am c3 h
   refine Ar (Ab (AN (Ab (Aa Ac rfl (qa rfl (Ad ?_))))))
   refine AJ (L := Cb N p0 p1 v1) h (fun v4 => mk [(2, .e (.one (.ptr 2 0))), (3, .e (.one (.ptr 3 0))), (5, .e (.one (.own 2003))), (6, .e (.one (.pure (.val (.int .i64 v1.2))))), (7, .e (.one (.pure (.val (.int .i64 v4.2)))))] [(2, .box [.pure (.sl (p0.fVersions.map Ai)), .pure (.sl (p0.fNow.map Ai)), .pure (.sl (p0.fTarget.map Ai)), .pure (.sl (p0.fTables.map Ao))]), (3, .box [.pure (.sl (p1.fBase.map Ai)), .pure (.sl (p1.fNext.map Ai)), .pure (.sl (p1.fHeld.map Bb))]), (2003, .vec 3 (v4.1.map AD))]) (fun v5 => mk [(2, .e (.one (.ptr 2 0))), (3, .e (.one (.ptr 3 0))), (5, .e (.one (.own 2004))), (6, .e (.one (.pure (.val (.int .i64 v1.2)))))] [(2, .box [.pure (.sl (p0.fVersions.map Ai)), .pure (.sl (p0.fNow.map Ai)), .pure (.sl (p0.fTarget.map Ai)), .pure (.sl (p0.fTables.map Ao))]), (3, .box [.pure (.sl (p1.fBase.map Ai)), .pure (.sl (p1.fNext.map Ai)), .pure (.sl (p1.fHeld.map Bb))]), (2004, .vec 3 (v5.map AD))]) (fun _ _ => rfl) (sm [(2003, 2001)] _ _ rfl rfl) (fun j4 n4 v4 h => ?_) (fun v5 s h hs => ?_)
   ·unfold Cb at h
    refine Ab (Ab (Aa Ac rfl (qm rfl (qf Bu rfl (ql Be rfl (AZ AI rfl (qf CS rfl (ql GZ rfl (AZ D9 rfl ?_)))))))))
    refine Vn (.p rfl) rfl rfl ?_
    refine A2 rfl (Ad ?_)
    refine Ap rfl (fun c6 => ?_) (fun c6 => ?_)
    ·have h := Am c6 h
     refine Ar (Ab (AN (Ab (Aa Ac rfl (qa rfl (Ad ?_))))))
     refine AJ (L := B9 N p0 p1 v1 v4) h (fun v7 => mk [(2, .e (.one (.ptr 2 0))), (3, .e (.one (.ptr 3 0))), (5, .e (.one (.own 2005))), (6, .e (.one (.pure (.val (.int .i64 v1.2))))), (7, .e (.one (.pure (.val (.int .i64 v4.2))))), (8, .e (.one (.pure (.val (.int .i64 v7.2)))))] [(2, .box [.pure (.sl (p0.fVersions.map Ai)), .pure (.sl (p0.fNow.map Ai)), .pure (.sl (p0.fTarget.map Ai)), .pure (.sl (p0.fTables.map Ao))]), (3, .box [.pure (.sl (p1.fBase.map Ai)), .pure (.sl (p1.fNext.map Ai)), .pure (.sl (p1.fHeld.map Bb))]), (2005, .vec 3 (v7.1.map AD))]) (fun v8 => mk [(2, .e (.one (.ptr 2 0))), (3, .e (.one (.ptr 3 0))), (5, .e (.one (.own 2006))), (6, .e (.one (.pure (.val (.int .i64 v1.2))))), (7, .e (.one (.pure (.val (.int .i64 v4.2)))))] [(2, .box [.pure (.sl (p0.fVersions.map Ai)), .pure (.sl (p0.fNow.map Ai)), .pure (.sl (p0.fTarget.map Ai)), .pure (.sl (p0.fTables.map Ao))]), (3, .box [.pure (.sl (p1.fBase.map Ai)), .pure (.sl (p1.fNext.map Ai)), .pure (.sl (p1.fHeld.map Bb))]), (2006, .vec 3 (v8.map AD))]) (fun _ _ => rfl) (sm [(2005, 2003)] _ _ rfl rfl) (fun j7 n7 v7 h => ?_) (fun v8 s h hs => ?_)
     ·unfold B9 at h
      refine Ab (Ab (Aa Ac rfl (qm rfl (A2 rfl (Ad ?_)))))
      refine Ap rfl (fun c9 => ?_) (fun c9 => ?_)
      ·have h := Am c9 h
       refine Ar ?_
       refine AO h (fun v10 => mk [(2, .e (.one (.ptr 2 0))), (3, .e (.one (.ptr 3 0))), (5, .e (.one (.own 2007))), (6, .e (.one (.pure (.val (.int .i64 v1.2))))), (7, .e (.one (.pure (.val (.int .i64 v4.2))))), (8, .e (.one (.pure (.val (.int .i64 v7.2)))))] [(2, .box [.pure (.sl (p0.fVersions.map Ai)), .pure (.sl (p0.fNow.map Ai)), .pure (.sl (p0.fTarget.map Ai)), .pure (.sl (p0.fTables.map Ao))]), (3, .box [.pure (.sl (p1.fBase.map Ai)), .pure (.sl (p1.fNext.map Ai)), .pure (.sl (p1.fHeld.map Bb))]), (2007, .vec 3 (v10.map AD))]) (fun j10 h => ?_) (fun v10 h => ?_)
       ·refine AN (Ab (Aa Ac rfl (qm rfl (qm rfl (qm rfl (BM Hi RQ rfl (qz Hi rfl (qs DE rfl (Ad (Ab (Aa Ac rfl (qL D4 DQ rfl (qL A1 Ax rfl (qL Ht DE rfl ?_))))))))))))))
        obtain ⟨v11, a11, h⟩ := bind_some h
        refine AH [2008, 2009, 2010] (J5 N p0 p1 ((Ak.mk v1.2 v4.2 v7.2)) v11 a11) Wl rfl (qm rfl (qx rfl (qx rfl (qz CX rfl (qs Ax rfl (qa rfl (Ad (Ab (Aa Ac rfl (qm rfl (BK rfl (Ad ?_))))))))))))
        refine Ap rfl (fun c12 => ?_) (fun c12 => ?_)
        ·have h := Am c12 h
         refine Aa Ac rfl (qm rfl (qL Ht DE rfl (Ep CL DE Hi rfl ?_)))
         obtain ⟨c13, h⟩ := AK h
         refine Dw (f := AD) CL CL DE LI Hi c13 rfl (qa rfl (Ad ?_))
         exact Au _ h (sm [(2007, 47)] _ _ rfl rfl)
        ·have h := An c12 h
         refine Ar ?_
         exact Au _ h (sm [(2007, 2005)] _ _ rfl rfl)
       ·refine Aa Ac rfl (qm rfl (AY rfl (qa rfl (Ad ?_))))
        exact Au _ h (sm [(2005, 2007)] _ _ rfl rfl)
      ·have h := An c9 h
       refine AX ?_
       exact Au _ h (sm [(2006, 2005)] _ _ rfl rfl)
     ·refine Al hs (Aa Ac rfl (qm rfl (AY rfl (qa rfl (Ad ?_)))))
      exact Au _ h (sm [(2003, 2006)] _ _ rfl rfl)
    ·have h := An c6 h
     refine AX ?_
     exact Au _ h (sm [(2004, 2003)] _ _ rfl rfl)
   ·refine Al hs (Aa Ac rfl (qm rfl (AY rfl (qa rfl (Ad ?_)))))
    exact Au _ h (sm [(2001, 2004)] _ _ rfl rfl)
  ·have h := An c3 h
   refine AX ?_
   exact Au _ h (sm [(2002, 2001)] _ _ rfl rfl)
 ·refine Al hs (Ab (Aa Ac rfl (qm rfl (qa rfl (Ad ?_)))))
  obtain rfl := sj h
  refine Al (sm [(1000, 2002)] [(4, .e (.one (.own 1000)))] [(1000, .vec 3 (v2.map AD))] rfl rfl) (Az ?_)
  exact ⟨⟨[_], ⟨.tmp _ _ rfl, trivial⟩, rfl⟩, ⟨rfl, trivial⟩⟩
set_option maxRecDepth 10000 in
theorem Ko (N : Nat) (p0 : Ag) (p1 : Ae) (r : (List Ak)) (h : EC N p0 p1 = some r) : AC Tryz.prog 26 [.e (.agg [.pure (.sl (p0.fVersions.map Ai)), .pure (.sl (p0.fNow.map Ai)), .pure (.sl (p0.fTarget.map Ai)), .pure (.sl (p0.fTables.map Ao))]), .e (.agg [.pure (.sl (p1.fBase.map Ai)), .pure (.sl (p1.fNext.map Ai)), .pure (.sl (p1.fHeld.map Bb))])] [(3, r.map AD)] (.e (.one (.own 0))) := by
 unfold EC at h
 refine As (n := 40) (rs := [.tmp 4]) Tryz.func26 rfl rfl rfl (A5 rfl) (A5 rfl) rfl fun w0 S0 => ?_
 refine Ab (Aa Ac rfl (qb rfl (qb rfl (qa rfl (Ad (Ab (Aa Ac rfl (qL D4 DQ rfl (qL A1 Ax rfl ?_)))))))))
 obtain ⟨v1, a1, h⟩ := bind_some h
 refine AH [2001] (J2 N p0 p1 v1 a1) WR rfl (qa rfl (Ad (Ab (Aa Ac rfl (qa rfl (Ad (Ab (Ab (Aa Ac rfl (qa rfl (Ad ?_)))))))))))
 refine AJ (L := Da N p0 p1 v1) h (fun v2 => mk [(2, .e (.one (.ptr 2 0))), (3, .e (.one (.ptr 3 0))), (5, .e (.one (.own 2002))), (6, .e (.one (.own 2003))), (7, .e (.one (.pure (.val (.int .i64 v2.2)))))] [(2, .box [.pure (.sl (p0.fVersions.map Ai)), .pure (.sl (p0.fNow.map Ai)), .pure (.sl (p0.fTarget.map Ai)), .pure (.sl (p0.fTables.map Ao))]), (3, .box [.pure (.sl (p1.fBase.map Ai)), .pure (.sl (p1.fNext.map Ai)), .pure (.sl (p1.fHeld.map Bb))]), (2002, .vec 3 (v1.map AD)), (2003, .vec 3 (v2.1.map AD))]) (fun v3 => mk [(6, .e (.one (.own 2004)))] [(2004, .vec 3 (v3.map AD))]) (fun _ _ => rfl) ((Bf 6 2010 3 rfl rfl rfl).trans (sm [(2002, 2001), (2003, 2010)] _ _ rfl rfl)) (fun j2 n2 v2 h => ?_) (fun v3 s h hs => ?_)
 ·unfold Da at h
  refine Ab (Ab (Aa Ac rfl (qm rfl (qm rfl (DU CL rfl (A2 rfl (Ad ?_)))))))
  refine Ap rfl (fun c4 => ?_) (fun c4 => ?_)
  ·have h := Am c4 h
   refine Ar ?_
   refine AO h (fun v5 => mk [(2, .e (.one (.ptr 2 0))), (3, .e (.one (.ptr 3 0))), (5, .e (.one (.own 2005))), (6, .e (.one (.own 2006))), (7, .e (.one (.pure (.val (.int .i64 v2.2)))))] [(2, .box [.pure (.sl (p0.fVersions.map Ai)), .pure (.sl (p0.fNow.map Ai)), .pure (.sl (p0.fTarget.map Ai)), .pure (.sl (p0.fTables.map Ao))]), (3, .box [.pure (.sl (p1.fBase.map Ai)), .pure (.sl (p1.fNext.map Ai)), .pure (.sl (p1.fHeld.map Bb))]), (2005, .vec 3 (v1.map AD)), (2006, .vec 3 (v5.map AD))]) (fun j5 h => ?_) (fun v5 h => ?_)
   ·refine AN (Ab (Aa Ac rfl (qL D4 DQ rfl (qL A1 Ax rfl (qm rfl (qm rfl ?_))))))
    obtain ⟨v6, a6, b6, h⟩ := Aj h
    refine qI CL DE a6 (Ah b6) rfl (qJ Ht DE (Ah b6) rfl ?_)
    obtain ⟨v7, a7, h⟩ := bind_some h
    refine AH [2007, 2008, 2009] (Gj N p0 p1 v6 v7 a7) Uv rfl (qm rfl (qx rfl (qx rfl (qz CX rfl (qs Ax rfl (qa rfl (AM (by kernel_rfl) (Ab (Aa Ac rfl (qL D4 DQ rfl (qL A1 Ax rfl ?_)))))))))))
    obtain ⟨v8, a8, h⟩ := bind_some h
    refine EF [] [2007, 2008, 2009] (Fs N p0 v7.1 v8 a8) Uh C8 rfl (Ad ?_)
    refine Ap rfl (fun c9 => ?_) (fun c9 => ?_)
    ·have h := Am c9 h
     refine Aa Ac rfl (qm rfl (qm rfl (qm rfl ?_)))
     obtain ⟨v10, a10, b10, h⟩ := Aj h
     refine qI CL DE a10 (Ah b10) rfl (qJ Ht DE (Ah b10) rfl (Ep CL DE Hi rfl ?_))
     obtain ⟨c11, h⟩ := AK h
     refine Dw (f := AD) CL CL DE LI Hi c11 rfl (qa rfl (Ad ?_))
     exact Au _ h (sm [(2005, 2002), (2006, 38)] _ _ rfl rfl)
    ·have h := An c9 h
     refine Ar ?_
     exact Au _ h (sm [(2005, 2002), (2006, 2003)] _ _ rfl rfl)
   ·refine Aa Ac rfl (qm rfl (AY rfl (qa rfl (Ad ?_))))
    exact Au _ h (sm [(2002, 2005), (2003, 2006)] _ _ rfl rfl)
  ·have h := An c4 h
   refine AX ?_
   exact Au _ h (sm [(2004, 2003)] _ _ rfl rfl)
 ·refine Al hs (Ab (Aa Ac rfl (qm rfl (qa rfl (Ad ?_)))))
  obtain rfl := sj h
  refine Al (sm [(1000, 2004)] [(4, .e (.one (.own 1000)))] [(1000, .vec 3 (v3.map AD))] rfl rfl) (Az ?_)
  exact ⟨⟨[_], ⟨.tmp _ _ rfl, trivial⟩, rfl⟩, ⟨rfl, trivial⟩⟩
set_option maxRecDepth 10000 in
theorem Kv (N : Nat) (p0 : Ag) (p1 : List Int) (r : (List Ak) × Int) (h : Ez N p0 p1 = some r) : AC Tryz.prog 22 [.e (.agg [.pure (.sl (p0.fVersions.map Ai)), .pure (.sl (p0.fNow.map Ai)), .pure (.sl (p0.fTarget.map Ai)), .pure (.sl (p0.fTables.map Ao))]), .e (.one (.pure (.sl (p1.map Bb))))] [(3, r.1.map AD)] (.tup [.one (.own 0), .one (.pure (.val (.int .i64 r.2)))]) := by
 unfold Ez at h
 refine As (n := 59) (rs := [.tmp 4, .tmp 5]) Tryz.func22 rfl rfl rfl (A5 rfl) (A5 rfl) rfl fun w0 S0 => ?_
 refine Ab (Aa Ac rfl (qb rfl (qa rfl (qa rfl (Ad (Ab (Aa Ac rfl (qL D4 DQ rfl ?_))))))))
 obtain ⟨v1, a1, h⟩ := bind_some h
 refine AH [2001, 2002, 2003] (HQ N p0 v1 a1) VZ rfl (qm rfl (qx rfl (qx rfl (qz CX rfl (qs Ax rfl (qa rfl (Ad (Ab (Ab (Aa Ac rfl (qm rfl (Cw rfl (Ad ?_)))))))))))))
 refine Ap rfl (fun c2 => ?_) (fun c2 => ?_)
 ·have h := Am c2 h
  refine Ab (Aa Ac rfl (qm rfl (qa rfl (qa rfl (Ad ?_)))))
  obtain rfl := sj h
  refine Al ((Bf 4 2004 3 rfl rfl rfl).trans (sm [(1000, 2004)] [(4, .e (.one (.own 1000))), (5, .e (.one (.pure (.val (.int .i64 v1.2)))))] [(1000, .vec 3 ((([] : List Ak)).map AD))] rfl rfl)) (Az ?_)
  exact ⟨⟨[_, _], ⟨.tmp _ _ rfl, ⟨.tmp _ _ rfl, trivial⟩⟩, rfl⟩, ⟨rfl, trivial⟩⟩
 ·have h := An c2 h
  refine Ar (Ab (Ab (Aa Ac rfl (qL D4 DQ rfl (qL A1 Ax rfl ?_)))))
  obtain ⟨v3, a3, h⟩ := bind_some h
  refine EF [] [2001, 2002, 2003] (Fs N p0 v1.1 v3 a3) Uh C8 rfl (Cp rfl (Ad ?_))
  refine Ap rfl (fun c4 => ?_) (fun c4 => ?_)
  ·have h := Am c4 h
   refine Ab (Aa Ac rfl (qa rfl (qa rfl (Ad ?_))))
   obtain rfl := sj h
   refine Al ((Bf 4 2005 3 rfl rfl rfl).trans (sm [(1000, 2005)] [(4, .e (.one (.own 1000))), (5, .e (.one (.pure (.val (.int .i64 0)))))] [(1000, .vec 3 ((([] : List Ak)).map AD))] rfl rfl)) (Az ?_)
   exact ⟨⟨[_, _], ⟨.tmp _ _ rfl, ⟨.tmp _ _ rfl, trivial⟩⟩, rfl⟩, ⟨rfl, trivial⟩⟩
  ·have h := An c4 h
   refine Ar (Ab (Aa Ac rfl (qa rfl (Ad (Ab (Ab (Aa Ac rfl (qa rfl (Ad ?_)))))))))
   refine AJ (L := Dc N p0 p1) h (fun v5 => mk [(1, .e (.one (.pure (.sl (p1.map Bb))))), (2, .e (.one (.ptr 2 0))), (6, .e (.one (.ptr 6 0))), (8, .e (.one (.own 2009))), (9, .e (.one (.pure (.val (.int .i64 v5.2.2.2.2)))))] [(2, .box [.pure (.sl (p0.fVersions.map Ai)), .pure (.sl (p0.fNow.map Ai)), .pure (.sl (p0.fTarget.map Ai)), .pure (.sl (p0.fTables.map Ao))]), (6, .box [.own 2006, .own 2007, .own 2008]), (2006, .vec 1 (v5.1.map Ai)), (2007, .vec 1 (v5.2.1.map Ai)), (2008, .vec 1 (v5.2.2.1.map Bb)), (2009, .vec 3 (v5.2.2.2.1.map AD))]) (fun v6 => mk [(8, .e (.one (.own 2010)))] [(2010, .vec 3 (v6.map AD))]) (fun _ _ => rfl) ((Bf 8 2015 3 rfl rfl rfl).trans (sm [(2006, 2001), (2007, 2002), (2008, 2003), (2009, 2015)] _ _ rfl rfl)) (fun j5 n5 v5 h => ?_) (fun v6 s h hs => ?_)
   ·unfold Dc at h
    refine Ab (Ab (Aa Ac rfl (qm rfl (qm rfl (AZ Gw rfl (A2 rfl (Ad ?_)))))))
    refine Ap rfl (fun c7 => ?_) (fun c7 => ?_)
    ·have h := Am c7 h
     refine Ar (Ab (AN (Ab (Aa Ac rfl (qL D4 DQ rfl (qL A1 Ax rfl ?_))))))
     obtain ⟨v8, a8, h⟩ := bind_some h
     refine EF [2011] [2006, 2007, 2008] (Ko N p0 ((Ae.mk v5.1 v5.2.1 v5.2.2.1)) v8 a8) WZ (EO (fun _ => rfl) C8) rfl (qa rfl (Ad (Ab (Ab (Aa Ac rfl (qm rfl (DU CL rfl (BK rfl (Ad ?_)))))))))
     refine Ap rfl (fun c9 => ?_) (fun c9 => ?_)
     ·have h := Am c9 h
      refine AX ?_
      exact Au _ h (sm [(2010, 2009)] _ _ rfl rfl)
     ·have h := An c9 h
      refine Ar (Ab (Aa Ac rfl (qm rfl (qm rfl (qm rfl ?_)))))
      obtain ⟨v10, a10, b10, h⟩ := Aj h
      refine qi Gw R2 a10 (Ah b10) rfl (qk US rfl (GT SP Ri rfl (qm rfl (DU CL rfl ?_))))
      obtain ⟨c11, h⟩ := AK h
      refine JN rfl c11 ?_
      obtain ⟨v12, a12, b12, h⟩ := Aj h
      refine qI CL DE a12 (Ah b12) rfl (qJ Ht DE (Ah b12) rfl (qz Hi rfl (qs DE rfl (Ad (Ab (Aa Ac rfl (qL D4 DQ rfl (qL A1 Ax rfl (qL Ht DE rfl ?_)))))))))
      obtain ⟨v13, a13, h⟩ := bind_some h
      refine EF [2012, 2013, 2014] [2006, 2007, 2008] (Gj N p0 ((Ae.mk v5.1 v5.2.1 v5.2.2.1)) v12 v13 a13) Uv (EO (fun _ => rfl) (EO (fun _ => rfl) (EO (fun _ => rfl) C8))) rfl (qm rfl (qx rfl (qx rfl (qs Ax rfl (Ad (Aa Ac rfl (qm rfl (qL Ht DE rfl (Ep CL DE Hi rfl ?_)))))))))
      obtain ⟨c14, h⟩ := AK h
      refine Dw (f := AD) CL CL DE LI Hi c14 rfl (qa rfl (Ad (Aa Ac rfl (qm rfl (AY rfl (qa rfl (Ad ?_)))))))
      exact Au _ h (sm [(2006, 2012), (2007, 2013), (2008, 2014), (2009, 57)] _ _ rfl rfl)
    ·have h := An c7 h
     refine AX ?_
     exact Au _ h (sm [(2010, 2009)] _ _ rfl rfl)
   ·refine Al hs (Ab (Aa Ac rfl (qm rfl (qa rfl (qa rfl (Ad ?_))))))
    obtain rfl := sj h
    refine Al (sm [(1000, 2010)] [(4, .e (.one (.own 1000))), (5, .e (.one (.pure (.val (.int .i64 0)))))] [(1000, .vec 3 (v6.map AD))] rfl rfl) (Az ?_)
    exact ⟨⟨[_, _], ⟨.tmp _ _ rfl, ⟨.tmp _ _ rfl, trivial⟩⟩, rfl⟩, ⟨rfl, trivial⟩⟩
set_option maxRecDepth 10000 in
theorem Kr (N : Nat) (p0 : List Ak) (p1 : List Ak) (r : Bool) (h : EA N p0 p1 = some r) : AC Tryz.prog 23 [.e (.one (.pure (.sl (p0.map AD)))), .e (.one (.pure (.sl (p1.map AD))))] [] (.e (.one (.pure (.val (.bool r))))) := by
 unfold EA at h
 refine As (n := 26) (rs := [.tmp 4]) Tryz.func23 rfl rfl rfl (A5 rfl) (A5 rfl) rfl fun w0 S0 => ?_
 refine Ab (Aa Ac rfl (qa rfl (Ad (Ab (Ab (Aa Ac rfl (qm rfl (AZ CL rfl (qm rfl (AZ CL rfl (Cw rfl (Ad ?_))))))))))))
 refine Ap rfl (fun c1 => ?_) (fun c1 => ?_)
 ·have h := Am c1 h
  refine Ab (Aa Ac rfl (qa rfl (Ad ?_)))
  obtain rfl := sj h
  refine Al (sm [] [(4, .e (.one (.pure (.val (.bool false)))))] [] rfl rfl) (Az ?_)
  exact ⟨⟨[_], ⟨.tmp _ _ rfl, trivial⟩, rfl⟩, trivial⟩
 ·have h := An c1 h
  refine Ar (Ab (Ab (Aa Ac rfl (qa rfl (Ad ?_)))))
  refine AJ (L := CN N p0 p1) h (fun v2 => mk [(0, .e (.one (.pure (.sl (p0.map AD))))), (1, .e (.one (.pure (.sl (p1.map AD))))), (5, .e (.one (.pure (.val (.int .i64 v2)))))] []) (fun v3 => mk [] []) (fun _ _ => rfl) (sm [] _ _ rfl rfl) (fun j2 n2 v2 h => ?_) (fun v3 s h hs => ?_)
  ·unfold CN at h
   refine Ab (Ab (Aa Ac rfl (qm rfl (qm rfl (AZ CL rfl (A2 rfl (Ad ?_)))))))
   refine Ap rfl (fun c4 => ?_) (fun c4 => ?_)
   ·have h := Am c4 h
    refine Ar (Ab (AN (Ab (Aa Ac rfl (qm rfl (qm rfl ?_))))))
    obtain ⟨v5, a5, b5, h⟩ := Aj h
    refine qi CL DE a5 (Ah b5) rfl (qK Ht DE rfl (qm rfl (qm rfl ?_)))
    obtain ⟨v6, a6, b6, h⟩ := Aj h
    refine qi CL DE a6 (Ah b6) rfl (qK Ht DE rfl ?_)
    refine Vq [.int .i64 v5.fKind, .int .i64 v5.fIndex, .int .i64 v5.fVersion] [.int .i64 v6.fKind, .int .i64 v6.fIndex, .int .i64 v6.fVersion] (.p rfl) rfl rfl U9 rfl ?_
    refine AM (by kernel_rfl) ?_
    refine Ap rfl (fun c7 => ?_) (fun c7 => ?_)
    ·have h := Am c7 h
     refine Ab (Aa Ac rfl (qa rfl (Ad ?_)))
     obtain rfl := sj h
     refine Al (sm [] [(4, .e (.one (.pure (.val (.bool false)))))] [] rfl rfl) (Az ?_)
     exact ⟨⟨[_], ⟨.tmp _ _ rfl, trivial⟩, rfl⟩, trivial⟩
    ·have h := An c7 h
     refine Ar (Aa Ac rfl (qm rfl (AY rfl (qa rfl (Ad ?_)))))
     exact Au _ h (sm [] _ _ rfl rfl)
   ·have h := An c4 h
    refine AX ?_
    exact Au _ h (sm [] _ _ rfl rfl)
  ·refine Al hs (Ab (Aa Ac rfl (qa rfl (Ad ?_))))
   obtain rfl := sj h
   refine Al (sm [] [(4, .e (.one (.pure (.val (.bool true)))))] [] rfl rfl) (Az ?_)
   exact ⟨⟨[_], ⟨.tmp _ _ rfl, trivial⟩, rfl⟩, trivial⟩
set_option maxRecDepth 10000 in
theorem I2 (N : Nat) (p0 : CI) (p1 : List Int) (r : Bool) (h : Dz N p0 p1 = some r) : AC Tryz.prog 5 [.e (.agg [.pure (.sl (p0.fVersions.map Bb)), .pure (.sl (p0.fNow.map Bb)), .pure (.sl (p0.fTarget.map Bb)), .pure (.sl (p0.fLinks.map Cf))]), .e (.one (.pure (.sl (p1.map Bb))))] [] (.e (.one (.pure (.val (.bool r))))) := by
 unfold Dz at h
 refine As (n := 77) (rs := [.tmp 4]) Tryz.func5 rfl rfl rfl (A5 rfl) (A5 rfl) rfl fun w0 S0 => ?_
 refine Ab (Aa Ac rfl (qb rfl (qa rfl (Ad (Ab (Aa Ac rfl (qL W5 W1 rfl ?_)))))))
 obtain ⟨v1, a1, h⟩ := bind_some h
 refine AH [2001, 2002, 2003, 2004] (LC N p0 v1 a1) W9 rfl (qm rfl (qx rfl (qx rfl (qz Ra rfl (qs DQ rfl (qa rfl (Ad (Ab ?_))))))))
 refine AO h (fun v2 => mk [(1, .e (.one (.pure (.sl (p1.map Bb))))), (5, .e (.one (.ptr 5 0))), (30, .e (.one (.pure (.val (.bool v2)))))] [(5, .box [.own 2005, .own 2006, .own 2007, .own 2008]), (2005, .vec 1 (v1.1.fVersions.map Ai)), (2006, .vec 1 (v1.1.fNow.map Ai)), (2007, .vec 1 (v1.1.fTarget.map Ai)), (2008, .vec 6 (v1.1.fTables.map Ao))]) (fun j2 h => ?_) (fun v2 h => ?_)
 ·refine Aa Ac rfl ?_
  obtain ⟨v3, a3, h⟩ := bind_some h
  refine AH [] (HS N v3 a3) Vg rfl (Cp rfl (qm rfl ?_))
  refine AE (t := 22) rfl (fun c4 => ?_) (fun c4 => ?_)
  ·have h := Am c4 h
   refine qn rfl (qn rfl (qp rfl (qm rfl (qn rfl (qn rfl (qn rfl (qp rfl (Ad ?_))))))))
   exact Au _ h (sm [(2005, 2001), (2006, 2002), (2007, 2003), (2008, 2004)] _ _ rfl rfl)
  ·have h := An c4 h
   refine qm rfl (Cp rfl (qp rfl (qm rfl ?_)))
   refine AE (t := 26) rfl (fun c5 => ?_) (fun c5 => ?_)
   ·have h := Am c5 h
    refine qn rfl (qn rfl (qn rfl (qp rfl (Ad ?_))))
    exact Au _ h (sm [(2005, 2001), (2006, 2002), (2007, 2003), (2008, 2004)] _ _ rfl rfl)
   ·have h := An c5 h
    refine qm rfl (AZ Gw rfl (Fw rfl (qp rfl (Ad ?_))))
    exact Au _ h (sm [(2005, 2001), (2006, 2002), (2007, 2003), (2008, 2004)] _ _ rfl rfl)
 ·refine Ap rfl (fun c6 => ?_) (fun c6 => ?_)
  ·have h := Am c6 h
   refine Ab (Aa Ac rfl ?_)
   obtain ⟨v7, a7, h⟩ := bind_some h
   refine AH [] (HS N v7 a7) Vg rfl (qa rfl (Ad ?_))
   obtain rfl := sj h
   refine Al (sm [] [(4, .e (.one (.pure (.val (.bool v7)))))] [] rfl rfl) (Az ?_)
   exact ⟨⟨[_], ⟨.tmp _ _ rfl, trivial⟩, rfl⟩, trivial⟩
  ·have h := An c6 h
   refine Ar (Ab (Aa Ac rfl (qL D4 DQ rfl (qm rfl ?_))))
   obtain ⟨v8, a8, h⟩ := bind_some h
   refine AH [2009] (IE N p1 v8 a8) Wm rfl ?_
   obtain ⟨v9, a9, h⟩ := bind_some h
   refine EF [2010] [2005, 2006, 2007, 2008, 2009] (Kz N v1.1 v8 v9 a9) V4 (EO (fun _ => rfl) C8) rfl (qm rfl (qx rfl (qx rfl (qa rfl (qa rfl (AM (by kernel_rfl) (Ab (Aa Ac rfl (qL D4 DQ rfl (qm rfl ?_))))))))))
   obtain ⟨v10, a10, h⟩ := bind_some h
   refine EF [2011] [2005, 2006, 2007, 2008] (Kv N v1.1 p1 v10 a10) Wp (EO (fun _ => rfl) C8) rfl (qm rfl (qx rfl (qx rfl (qa rfl (qa rfl (Ad (Ab ?_)))))))
   refine AO h (fun v11 => mk [(5, .e (.one (.ptr 5 0))), (7, .e (.one (.own 2016))), (56, .e (.one (.pure (.val (.bool v11)))))] [(5, .box [.own 2012, .own 2013, .own 2014, .own 2015]), (2012, .vec 1 (v1.1.fVersions.map Ai)), (2013, .vec 1 (v1.1.fNow.map Ai)), (2014, .vec 1 (v1.1.fTarget.map Ai)), (2015, .vec 6 (v1.1.fTables.map Ao)), (2016, .vec 3 (v9.1.map AD))]) (fun j11 h => ?_) (fun v11 h => ?_)
   ·refine Aa Ac rfl (qm rfl (Cw rfl (qm rfl ?_)))
    refine AE (t := 47) rfl (fun c12 => ?_) (fun c12 => ?_)
    ·have h := Am c12 h
     refine qn rfl (qn rfl (qp rfl (qm rfl (qn rfl (qn rfl (qn rfl (qn rfl (qp rfl (Ad ?_)))))))))
     exact Au _ h (sm [(2012, 2005), (2013, 2006), (2014, 2007), (2015, 2008), (2016, 2010)] _ _ rfl rfl)
    ·have h := An c12 h
     refine qm rfl (Cw rfl (qp rfl (qm rfl ?_)))
     refine AE (t := 51) rfl (fun c13 => ?_) (fun c13 => ?_)
     ·have h := Am c13 h
      refine qn rfl (qn rfl (qn rfl (qn rfl (qp rfl (Ad ?_)))))
      exact Au _ h (sm [(2012, 2005), (2013, 2006), (2014, 2007), (2015, 2008), (2016, 2010)] _ _ rfl rfl)
     ·have h := An c13 h
      refine qm rfl (qm rfl ?_)
      obtain ⟨v14, a14, h⟩ := bind_some h
      refine EF [] [2010, 2011] (Kr N v9.1 v10.1 v14 a14) WL C8 rfl (Cp rfl (qp rfl (Ad ?_)))
      exact Au _ h (sm [(2012, 2005), (2013, 2006), (2014, 2007), (2015, 2008), (2016, 2010)] _ _ rfl rfl)
   ·refine Ap rfl (fun c15 => ?_) (fun c15 => ?_)
    ·have h := Am c15 h
     refine Ab (Aa Ac rfl (qa rfl (Ad ?_)))
     obtain rfl := sj h
     refine Al (sm [] [(4, .e (.one (.pure (.val (.bool false)))))] [] rfl rfl) (Az ?_)
     exact ⟨⟨[_], ⟨.tmp _ _ rfl, trivial⟩, rfl⟩, trivial⟩
    ·have h := An c15 h
     refine Ar (Ab (Aa Ac rfl (qL D4 DQ rfl ?_)))
     obtain ⟨v16, a16, h⟩ := bind_some h
     refine EF [2017, 2018, 2019] [2012, 2013, 2014, 2015] (HQ N v1.1 v16 a16) VZ (EO (fun _ => rfl) (EO (fun _ => rfl) (EO (fun _ => rfl) C8))) rfl (qm rfl (qx rfl (qx rfl (qz CX rfl (qs Ax rfl (qa rfl (Ad (Ab (Aa Ac rfl (qL D4 DQ rfl (qm rfl ?_)))))))))))
     obtain ⟨v17, a17, h⟩ := bind_some h
     refine EF [] [2012, 2013, 2014, 2015, 2016] (La N v1.1 v9.1 v17 a17) U0 C8 rfl (qm rfl (qx rfl (qx rfl (qa rfl (qa rfl (Ad ?_))))))
     refine AO h (fun v18 => mk [(4, .e (.one (.pure (.val (.bool v18)))))] []) (fun j18 h => ?_) (fun v18 h => ?_)
     ·refine Aa Ac rfl (qm rfl (BK rfl (qm rfl ?_)))
      refine AE (t := 70) rfl (fun c19 => ?_) (fun c19 => ?_)
      ·have h := Am c19 h
       refine qm rfl (qL D4 DQ rfl (qL A1 Ax rfl ?_))
       obtain ⟨v20, a20, h⟩ := bind_some h
       refine EF [] [2012, 2013, 2014, 2015, 2017, 2018, 2019] (Fs N v1.1 v16.1 v20 a20) Uh C8 rfl ?_
       refine Hk (.g rfl rfl) rfl rfl (Sm _ _ _ _ Xa) rfl ?_
       refine qp rfl (qa rfl (Ad ?_))
       exact Au _ h (sm [] _ _ rfl rfl)
      ·have h := An c19 h
       refine qn rfl (qn rfl (qn rfl (qn rfl (qn rfl (qp rfl (qa rfl (Ad ?_)))))))
       exact Au _ h (sm [] _ _ rfl rfl)
     ·obtain rfl := sj h
      refine Al (sm [] [(4, .e (.one (.pure (.val (.bool v18)))))] [] rfl rfl) (Az ?_)
      exact ⟨⟨[_], ⟨.tmp _ _ rfl, trivial⟩, rfl⟩, trivial⟩
end Go.Lift

