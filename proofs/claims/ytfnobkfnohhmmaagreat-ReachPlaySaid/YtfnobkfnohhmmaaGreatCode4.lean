/- Lemmas for ReachPlaySaid, which YtfnobkfnohhmmaaGreatFinW7 proves. -/
import Derived.Test.YtfnobkfnohhmmaaGreatCode2
/- That the code does what the shallow programs do, function by function. Written by a program (gen.py). -/
namespace Go.Lift
open Go.RowKit
open Go.Proofs
set_option maxRecDepth 10000 in
theorem F7 (N : Nat) (p0 : List Ae) (p1 : Int) (p2 : Int) (p3 : Int) (p4 : (Ae × Ae) → Option Int) (r : Int × Bool × (List Ae)) (h : C8 N p0 p1 p2 p3 p4 = some r) : Bv Tryz.prog 88 [.e (.one (.own 90000)), .e (.one (.pure (.val (.int .i64 p1)))), .e (.one (.pure (.val (.int .i64 p2)))), .e (.one (.pure (.val (.int .i64 p3)))), .e (.one (.clo (BJ (DU true Af true Af) Cv p4)))] [(.vec 3 (p0.map Af), .vec 3 (r.2.2.map Af))] [] (.tup [.one (.pure (.val (.int .i64 r.1))), .one (.pure (.val (.bool r.2.1)))]) := by
 unfold C8 at h
 refine Bn (n := 178) (rs := [.tmp 10, .tmp 11]) Tryz.func88 rfl rfl rfl (A1 rfl) (A1 rfl) rfl rfl (A1 rfl) rfl (A1 rfl) fun w0 S0 GL => ?_
 refine Ak (sm [] [(0, .e (.one (.own 90000))), (1, .e (.one (.pure (.val (.int .i64 p1))))), (2, .e (.one (.pure (.val (.int .i64 p2))))), (3, .e (.one (.pure (.val (.int .i64 p3))))), (4, .e (.one (.clo (BJ (DU true Af true Af) Cv p4))))] [(90000, .vec 3 (p0.map Af))] rfl rfl) (Ab (Aa Ac rfl (qa rfl (qa rfl (Ad (Ab (Aa Ac rfl (qm rfl (qm rfl (qm rfl (qm rfl (qm rfl (qm rfl ?_)))))))))))))
 obtain ⟨v1, a1, b1, h⟩ := Aj h
 refine qI AL Av a1 (Ag b1) rfl (qJ AV Av (Ag b1) rfl (qm rfl (qm rfl ?_)))
 obtain ⟨v2, a2, b2, h⟩ := Aj h
 refine qI AL Av a2 (Ag b2) rfl (qJ AV Av (Ag b2) rfl ?_)
 obtain ⟨v3, a3, b3, h⟩ := Aj h
 refine qI AL Av a3 (Ag b3) rfl ?_
 refine A2 rfl rfl rfl rfl (Ag b3) rfl Av rfl (A1 rfl) (A3 Af p0 _ v1) ?_
 obtain ⟨v4, a4, b4, h⟩ := Aj h
 refine qI AL Av a4 (Ag b4) rfl ?_
 refine A2 rfl rfl rfl rfl (Ag b4) rfl Av rfl (A1 rfl) (A3 Af (p0.set ((p1).toNat) v1) _ v2) ?_
 refine AI (by kernel_rfl) (Ab (Aa Ac rfl (qm rfl (AU rfl (qm rfl (Cs rfl (qa rfl (qa rfl (Ad (Ab ?_))))))))))
 refine AJ (L := B8 N p0 p1 p2 p3 p4 v1 v2) h (fun v5 => mk [(0, .e (.one (.own 90000))), (1, .e (.one (.pure (.val (.int .i64 p1))))), (4, .e (.one (.clo (BJ (DU true Af true Af) Cv p4)))), (12, .e (.one (.pure (.val (.int .i64 v5))))), (13, .e (.one (.pure (.val (.int .i64 ((IntKind.wrap .i64 (p2 - 1))))))))] [(90000, .vec 3 (((p0.set ((p1).toNat) v1).set ((p3).toNat) v2).map Af))]) (fun v6 => mk [(0, .e (.one (.own 90000))), (1, .e (.one (.pure (.val (.int .i64 p1))))), (4, .e (.one (.clo (BJ (DU true Af true Af) Cv p4)))), (12, .e (.one (.pure (.val (.int .i64 v6))))), (13, .e (.one (.pure (.val (.int .i64 ((IntKind.wrap .i64 (p2 - 1))))))))] [(90000, .vec 3 (((p0.set ((p1).toNat) v1).set ((p3).toNat) v2).map Af))]) (fun _ _ => rfl) (sm [] _ _ rfl rfl) (fun j5 n5 v5 h => ?_) (fun v6 s h hs => ?_)
 ·unfold B8 at h
  refine Ab ?_
  refine AP h (fun v7 => mk [(0, .e (.one (.own 90000))), (1, .e (.one (.pure (.val (.int .i64 p1))))), (4, .e (.one (.clo (BJ (DU true Af true Af) Cv p4)))), (12, .e (.one (.pure (.val (.int .i64 v5))))), (13, .e (.one (.pure (.val (.int .i64 ((IntKind.wrap .i64 (p2 - 1)))))))), (47, .e (.one (.pure (.val (.bool v7)))))] [(90000, .vec 3 (((p0.set ((p1).toNat) v1).set ((p3).toNat) v2).map Af))]) (fun j7 h => ?_) (fun v7 h => ?_)
  ·refine Aa Ac rfl (qm rfl (qm rfl (JH rfl (qm rfl ?_))))
   refine AB (t := 35) rfl (fun c8 => ?_) (fun c8 => ?_)
   ·have h := Am c8 h
    refine qm rfl (qm rfl (qm rfl ?_))
    obtain ⟨v9, a9, b9, h⟩ := Aj h
    refine qI AL Av a9 (Ag b9) rfl (qJ AV Av (Ag b9) rfl (qm rfl (qm rfl ?_)))
    obtain ⟨v10, a10, b10, h⟩ := Aj h
    refine qI AL Av a10 (Ag b10) rfl (qJ AV Av (Ag b10) rfl ?_)
    obtain ⟨v11, a11, h⟩ := bind_some h
    refine DW (ds0 := [_, _]) (ar := (DU true Af true Af) ((v9, v10))) (.g rfl rfl) rfl rfl ⟨rfl, rfl, trivial⟩ rfl rfl rfl (DV (Es _ _ _ _ Bh Bh) a11) ?_
    refine AY rfl (qp rfl (AI (by kernel_rfl) ?_))
    exact Au _ h (sm [] _ _ rfl rfl)
   ·have h := Al c8 h
    refine qn rfl (qn rfl (qn rfl (qn rfl (qn rfl (qn rfl (qn rfl (qn rfl (qn rfl (qn rfl (qn rfl (qp rfl (AI (by kernel_rfl) ?_))))))))))))
    exact Au _ h (sm [] _ _ rfl rfl)
  ·refine Ao rfl (fun c12 => ?_) (fun c12 => ?_)
   ·have h := Am c12 h
    refine Ar (AN (Aa Ac rfl (qm rfl (AU rfl (qa rfl (Ad ?_))))))
    exact Au _ h (sm [] _ _ rfl rfl)
   ·have h := Al c12 h
    refine AW ?_
    exact Au _ h (sm [] _ _ rfl rfl)
 ·refine Ak hs (Ab ?_)
  refine AJ (L := B3 N p0 p1 p3 p4 v1 v2 v6) h (fun v13 => mk [(0, .e (.one (.own 90000))), (1, .e (.one (.pure (.val (.int .i64 p1))))), (4, .e (.one (.clo (BJ (DU true Af true Af) Cv p4)))), (12, .e (.one (.pure (.val (.int .i64 v6))))), (13, .e (.one (.pure (.val (.int .i64 v13)))))] [(90000, .vec 3 (((p0.set ((p1).toNat) v1).set ((p3).toNat) v2).map Af))]) (fun v14 => mk [(0, .e (.one (.own 90000))), (1, .e (.one (.pure (.val (.int .i64 p1))))), (4, .e (.one (.clo (BJ (DU true Af true Af) Cv p4)))), (12, .e (.one (.pure (.val (.int .i64 v6))))), (13, .e (.one (.pure (.val (.int .i64 v14)))))] [(90000, .vec 3 (((p0.set ((p1).toNat) v1).set ((p3).toNat) v2).map Af))]) (fun _ _ => rfl) (sm [] _ _ rfl rfl) (fun j13 n13 v13 h => ?_) (fun v14 s h hs => ?_)
  ·unfold B3 at h
   refine Ab ?_
   refine AP h (fun v15 => mk [(0, .e (.one (.own 90000))), (1, .e (.one (.pure (.val (.int .i64 p1))))), (4, .e (.one (.clo (BJ (DU true Af true Af) Cv p4)))), (12, .e (.one (.pure (.val (.int .i64 v6))))), (13, .e (.one (.pure (.val (.int .i64 v13))))), (66, .e (.one (.pure (.val (.bool v15)))))] [(90000, .vec 3 (((p0.set ((p1).toNat) v1).set ((p3).toNat) v2).map Af))]) (fun j15 h => ?_) (fun v15 h => ?_)
   ·refine Aa Ac rfl (qm rfl (qm rfl (JH rfl (qm rfl ?_))))
    refine AB (t := 53) rfl (fun c16 => ?_) (fun c16 => ?_)
    ·have h := Am c16 h
     refine qm rfl (qm rfl (qm rfl ?_))
     obtain ⟨v17, a17, b17, h⟩ := Aj h
     refine qI AL Av a17 (Ag b17) rfl (qJ AV Av (Ag b17) rfl (qm rfl (qm rfl ?_)))
     obtain ⟨v18, a18, b18, h⟩ := Aj h
     refine qI AL Av a18 (Ag b18) rfl (qJ AV Av (Ag b18) rfl ?_)
     obtain ⟨v19, a19, h⟩ := bind_some h
     refine DW (ds0 := [_, _]) (ar := (DU true Af true Af) ((v17, v18))) (.g rfl rfl) rfl rfl ⟨rfl, rfl, trivial⟩ rfl rfl rfl (DV (Es _ _ _ _ Bh Bh) a19) ?_
     refine AY rfl (Cu rfl (qp rfl (AI (by kernel_rfl) ?_)))
     exact Au _ h (sm [] _ _ rfl rfl)
    ·have h := Al c16 h
     refine qn rfl (qn rfl (qn rfl (qn rfl (qn rfl (qn rfl (qn rfl (qn rfl (qn rfl (qn rfl (qn rfl (qn rfl (qp rfl (AI (by kernel_rfl) ?_)))))))))))))
     exact Au _ h (sm [] _ _ rfl rfl)
   ·refine Ao rfl (fun c20 => ?_) (fun c20 => ?_)
    ·have h := Am c20 h
     refine Ar (AN (Aa Ac rfl (qm rfl (Cs rfl (qa rfl (Ad ?_))))))
     exact Au _ h (sm [] _ _ rfl rfl)
    ·have h := Al c20 h
     refine AW ?_
     exact Au _ h (sm [] _ _ rfl rfl)
  ·refine Ak hs (Ab (Ab (Aa Ac rfl (qm rfl (qm rfl (Ew rfl (Ad ?_)))))))
   refine Ao rfl (fun c21 => ?_) (fun c21 => ?_)
   ·have h := Am c21 h
    refine Ab (Aa Ac rfl (qm rfl (qm rfl (qm rfl (qm rfl (qm rfl (qm rfl ?_)))))))
    obtain ⟨v22, a22, b22, h⟩ := Aj h
    refine qI AL Av a22 (Ag b22) rfl (qJ AV Av (Ag b22) rfl (qm rfl (qm rfl ?_)))
    obtain ⟨v23, a23, b23, h⟩ := Aj h
    refine qI AL Av a23 (Ag b23) rfl (qJ AV Av (Ag b23) rfl ?_)
    obtain ⟨v24, a24, b24, h⟩ := Aj h
    refine qI AL Av a24 (Ag b24) rfl ?_
    refine A2 rfl rfl rfl rfl (Ag b24) rfl Av rfl (A1 rfl) (A3 Af ((p0.set ((p1).toNat) v1).set ((p3).toNat) v2) _ v22) ?_
    obtain ⟨v25, a25, b25, h⟩ := Aj h
    refine qI AL Av a25 (Ag b25) rfl ?_
    refine A2 rfl rfl rfl rfl (Ag b25) rfl Av rfl (A1 rfl) (A3 Af (((p0.set ((p1).toNat) v1).set ((p3).toNat) v2).set ((v14).toNat) v22) _ v23) ?_
    refine AI (by kernel_rfl) (Ab (Aa Ac rfl (qm rfl (qa rfl (qa rfl (Ad ?_))))))
    obtain rfl := sj h
    refine Ak (sm [] [(10, .e (.one (.pure (.val (.int .i64 v14))))), (11, .e (.one (.pure (.val (.bool true)))))] [(90000, .vec 3 (((((p0.set ((p1).toNat) v1).set ((p3).toNat) v2).set ((v14).toNat) v22).set ((p1).toNat) v23).map Af))] rfl rfl) (Ax ?_)
    exact ⟨⟨[_, _], ⟨.tmp _ _ rfl, ⟨.tmp _ _ rfl, trivial⟩⟩, rfl⟩, ⟨rfl, trivial⟩, trivial⟩
   ·have h := Al c21 h
    refine Ar (Ab (Aa Ac rfl (qm rfl (qm rfl (qm rfl (qm rfl (qm rfl (qm rfl ?_))))))))
    obtain ⟨v26, a26, b26, h⟩ := Aj h
    refine qI AL Av a26 (Ag b26) rfl (qJ AV Av (Ag b26) rfl (qm rfl (qm rfl ?_)))
    obtain ⟨v27, a27, b27, h⟩ := Aj h
    refine qI AL Av a27 (Ag b27) rfl (qJ AV Av (Ag b27) rfl ?_)
    obtain ⟨v28, a28, b28, h⟩ := Aj h
    refine qI AL Av a28 (Ag b28) rfl ?_
    refine A2 rfl rfl rfl rfl (Ag b28) rfl Av rfl (A1 rfl) (A3 Af ((p0.set ((p1).toNat) v1).set ((p3).toNat) v2) _ v26) ?_
    obtain ⟨v29, a29, b29, h⟩ := Aj h
    refine qI AL Av a29 (Ag b29) rfl ?_
    refine A2 rfl rfl rfl rfl (Ag b29) rfl Av rfl (A1 rfl) (A3 Af (((p0.set ((p1).toNat) v1).set ((p3).toNat) v2).set ((v6).toNat) v26) _ v27) ?_
    refine AI (by kernel_rfl) (Ab (Aa Ac rfl (qm rfl (AU rfl (qa rfl (Ad (Ab (Aa Ac rfl (qm rfl (Cs rfl (qa rfl (Ad (Ab ?_)))))))))))))
    refine AJ (L := B2 N p1 p4) h (fun v30 => mk [(0, .e (.one (.own 90000))), (1, .e (.one (.pure (.val (.int .i64 p1))))), (4, .e (.one (.clo (BJ (DU true Af true Af) Cv p4)))), (12, .e (.one (.pure (.val (.int .i64 v30.2.1))))), (13, .e (.one (.pure (.val (.int .i64 v30.2.2)))))] [(90000, .vec 3 (v30.1.map Af))]) (fun v31 => mk [(0, .e (.one (.own 90000))), (1, .e (.one (.pure (.val (.int .i64 p1))))), (13, .e (.one (.pure (.val (.int .i64 v31.2)))))] [(90000, .vec 3 (v31.1.map Af))]) (fun _ _ => rfl) (sm [] _ _ rfl rfl) (fun j30 n30 v30 h => ?_) (fun v31 s h hs => ?_)
    ·unfold B2 at h
     refine AN (Ab ?_)
     refine AJ (L := B0 N p1 p4 v30) h (fun v32 => mk [(0, .e (.one (.own 90000))), (1, .e (.one (.pure (.val (.int .i64 p1))))), (4, .e (.one (.clo (BJ (DU true Af true Af) Cv p4)))), (12, .e (.one (.pure (.val (.int .i64 v32))))), (13, .e (.one (.pure (.val (.int .i64 v30.2.2)))))] [(90000, .vec 3 (v30.1.map Af))]) (fun v33 => mk [(0, .e (.one (.own 90000))), (1, .e (.one (.pure (.val (.int .i64 p1))))), (4, .e (.one (.clo (BJ (DU true Af true Af) Cv p4)))), (12, .e (.one (.pure (.val (.int .i64 v33))))), (13, .e (.one (.pure (.val (.int .i64 v30.2.2)))))] [(90000, .vec 3 (v30.1.map Af))]) (fun _ _ => rfl) (sm [] _ _ rfl rfl) (fun j32 n32 v32 h => ?_) (fun v33 s h hs => ?_)
     ·unfold B0 at h
      refine Ab ?_
      refine AP h (fun v34 => mk [(0, .e (.one (.own 90000))), (1, .e (.one (.pure (.val (.int .i64 p1))))), (4, .e (.one (.clo (BJ (DU true Af true Af) Cv p4)))), (12, .e (.one (.pure (.val (.int .i64 v32))))), (13, .e (.one (.pure (.val (.int .i64 v30.2.2))))), (120, .e (.one (.pure (.val (.bool v34)))))] [(90000, .vec 3 (v30.1.map Af))]) (fun j34 h => ?_) (fun v34 h => ?_)
      ·refine Aa Ac rfl (qm rfl (qm rfl (JH rfl (qm rfl ?_))))
       refine AB (t := 108) rfl (fun c35 => ?_) (fun c35 => ?_)
       ·have h := Am c35 h
        refine qm rfl (qm rfl (qm rfl ?_))
        obtain ⟨v36, a36, b36, h⟩ := Aj h
        refine qI AL Av a36 (Ag b36) rfl (qJ AV Av (Ag b36) rfl (qm rfl (qm rfl ?_)))
        obtain ⟨v37, a37, b37, h⟩ := Aj h
        refine qI AL Av a37 (Ag b37) rfl (qJ AV Av (Ag b37) rfl ?_)
        obtain ⟨v38, a38, h⟩ := bind_some h
        refine DW (ds0 := [_, _]) (ar := (DU true Af true Af) ((v36, v37))) (.g rfl rfl) rfl rfl ⟨rfl, rfl, trivial⟩ rfl rfl rfl (DV (Es _ _ _ _ Bh Bh) a38) ?_
        refine AY rfl (qp rfl (AI (by kernel_rfl) ?_))
        exact Au _ h (sm [] _ _ rfl rfl)
       ·have h := Al c35 h
        refine qn rfl (qn rfl (qn rfl (qn rfl (qn rfl (qn rfl (qn rfl (qn rfl (qn rfl (qn rfl (qn rfl (qp rfl (AI (by kernel_rfl) ?_))))))))))))
        exact Au _ h (sm [] _ _ rfl rfl)
      ·refine Ao rfl (fun c39 => ?_) (fun c39 => ?_)
       ·have h := Am c39 h
        refine Ar (AN (Aa Ac rfl (qm rfl (AU rfl (qa rfl (Ad ?_))))))
        exact Au _ h (sm [] _ _ rfl rfl)
       ·have h := Al c39 h
        refine AW ?_
        exact Au _ h (sm [] _ _ rfl rfl)
     ·refine Ak hs (Ab ?_)
      refine AJ (L := B5 N p1 p4 v30 v33) h (fun v40 => mk [(0, .e (.one (.own 90000))), (1, .e (.one (.pure (.val (.int .i64 p1))))), (4, .e (.one (.clo (BJ (DU true Af true Af) Cv p4)))), (12, .e (.one (.pure (.val (.int .i64 v33))))), (13, .e (.one (.pure (.val (.int .i64 v40)))))] [(90000, .vec 3 (v30.1.map Af))]) (fun v41 => mk [(0, .e (.one (.own 90000))), (1, .e (.one (.pure (.val (.int .i64 p1))))), (4, .e (.one (.clo (BJ (DU true Af true Af) Cv p4)))), (12, .e (.one (.pure (.val (.int .i64 v33))))), (13, .e (.one (.pure (.val (.int .i64 v41)))))] [(90000, .vec 3 (v30.1.map Af))]) (fun _ _ => rfl) (sm [] _ _ rfl rfl) (fun j40 n40 v40 h => ?_) (fun v41 s h hs => ?_)
      ·unfold B5 at h
       refine Ab ?_
       refine AP h (fun v42 => mk [(0, .e (.one (.own 90000))), (1, .e (.one (.pure (.val (.int .i64 p1))))), (4, .e (.one (.clo (BJ (DU true Af true Af) Cv p4)))), (12, .e (.one (.pure (.val (.int .i64 v33))))), (13, .e (.one (.pure (.val (.int .i64 v40))))), (139, .e (.one (.pure (.val (.bool v42)))))] [(90000, .vec 3 (v30.1.map Af))]) (fun j42 h => ?_) (fun v42 h => ?_)
       ·refine Aa Ac rfl (qm rfl (qm rfl (JH rfl (qm rfl ?_))))
        refine AB (t := 126) rfl (fun c43 => ?_) (fun c43 => ?_)
        ·have h := Am c43 h
         refine qm rfl (qm rfl (qm rfl ?_))
         obtain ⟨v44, a44, b44, h⟩ := Aj h
         refine qI AL Av a44 (Ag b44) rfl (qJ AV Av (Ag b44) rfl (qm rfl (qm rfl ?_)))
         obtain ⟨v45, a45, b45, h⟩ := Aj h
         refine qI AL Av a45 (Ag b45) rfl (qJ AV Av (Ag b45) rfl ?_)
         obtain ⟨v46, a46, h⟩ := bind_some h
         refine DW (ds0 := [_, _]) (ar := (DU true Af true Af) ((v44, v45))) (.g rfl rfl) rfl rfl ⟨rfl, rfl, trivial⟩ rfl rfl rfl (DV (Es _ _ _ _ Bh Bh) a46) ?_
         refine AY rfl (Cu rfl (qp rfl (AI (by kernel_rfl) ?_)))
         exact Au _ h (sm [] _ _ rfl rfl)
        ·have h := Al c43 h
         refine qn rfl (qn rfl (qn rfl (qn rfl (qn rfl (qn rfl (qn rfl (qn rfl (qn rfl (qn rfl (qn rfl (qn rfl (qp rfl (AI (by kernel_rfl) ?_)))))))))))))
         exact Au _ h (sm [] _ _ rfl rfl)
       ·refine Ao rfl (fun c47 => ?_) (fun c47 => ?_)
        ·have h := Am c47 h
         refine Ar (AN (Aa Ac rfl (qm rfl (Cs rfl (qa rfl (Ad ?_))))))
         exact Au _ h (sm [] _ _ rfl rfl)
        ·have h := Al c47 h
         refine AW ?_
         exact Au _ h (sm [] _ _ rfl rfl)
      ·refine Ak hs (Ab (Ab (Aa Ac rfl (qm rfl (qm rfl (Ew rfl (Ad ?_)))))))
       refine Ao rfl (fun c48 => ?_) (fun c48 => ?_)
       ·have h := Am c48 h
        refine AW ?_
        exact Au _ h (sm [] _ _ rfl rfl)
       ·have h := Al c48 h
        refine Ar (Ab (Aa Ac rfl (qm rfl (qm rfl (qm rfl (qm rfl (qm rfl (qm rfl ?_))))))))
        obtain ⟨v49, a49, b49, h⟩ := Aj h
        refine qI AL Av a49 (Ag b49) rfl (qJ AV Av (Ag b49) rfl (qm rfl (qm rfl ?_)))
        obtain ⟨v50, a50, b50, h⟩ := Aj h
        refine qI AL Av a50 (Ag b50) rfl (qJ AV Av (Ag b50) rfl ?_)
        obtain ⟨v51, a51, b51, h⟩ := Aj h
        refine qI AL Av a51 (Ag b51) rfl ?_
        refine A2 rfl rfl rfl rfl (Ag b51) rfl Av rfl (A1 rfl) (A3 Af v30.1 _ v49) ?_
        obtain ⟨v52, a52, b52, h⟩ := Aj h
        refine qI AL Av a52 (Ag b52) rfl ?_
        refine A2 rfl rfl rfl rfl (Ag b52) rfl Av rfl (A1 rfl) (A3 Af (v30.1.set ((v33).toNat) v49) _ v50) ?_
        refine AI (by kernel_rfl) (Ab (Aa Ac rfl (qm rfl (AU rfl (qa rfl (Ad (Aa Ac rfl (qm rfl (Cs rfl (qa rfl (Ad ?_)))))))))))
        exact Au _ h (sm [] _ _ rfl rfl)
    ·refine Ak hs (Ab (Aa Ac rfl (qm rfl (qm rfl (qm rfl (qm rfl (qm rfl (qm rfl ?_))))))))
     obtain ⟨v53, a53, b53, h⟩ := Aj h
     refine qI AL Av a53 (Ag b53) rfl (qJ AV Av (Ag b53) rfl (qm rfl (qm rfl ?_)))
     obtain ⟨v54, a54, b54, h⟩ := Aj h
     refine qI AL Av a54 (Ag b54) rfl (qJ AV Av (Ag b54) rfl ?_)
     obtain ⟨v55, a55, b55, h⟩ := Aj h
     refine qI AL Av a55 (Ag b55) rfl ?_
     refine A2 rfl rfl rfl rfl (Ag b55) rfl Av rfl (A1 rfl) (A3 Af v31.1 _ v53) ?_
     obtain ⟨v56, a56, b56, h⟩ := Aj h
     refine qI AL Av a56 (Ag b56) rfl ?_
     refine A2 rfl rfl rfl rfl (Ag b56) rfl Av rfl (A1 rfl) (A3 Af (v31.1.set ((v31.2).toNat) v53) _ v54) ?_
     refine AI (by kernel_rfl) (Ab (Aa Ac rfl (qm rfl (qa rfl (qa rfl (Ad ?_))))))
     obtain rfl := sj h
     refine Ak (sm [] [(10, .e (.one (.pure (.val (.int .i64 v31.2))))), (11, .e (.one (.pure (.val (.bool false)))))] [(90000, .vec 3 (((v31.1.set ((v31.2).toNat) v53).set ((p1).toNat) v54).map Af))] rfl rfl) (Ax ?_)
     exact ⟨⟨[_, _], ⟨.tmp _ _ rfl, ⟨.tmp _ _ rfl, trivial⟩⟩, rfl⟩, ⟨rfl, trivial⟩, trivial⟩
set_option maxRecDepth 10000 in
theorem F5 (N : Nat) (rc : (List Ae) → Int → Int → Int → ((Ae × Ae) → Option Int) → Option ((List Ae))) (hrc : ∀ (p0 : List Ae) (p1 : Int) (p2 : Int) (p3 : Int) (p4 : (Ae × Ae) → Option Int) (r : (List Ae)), rc p0 p1 p2 p3 p4 = some r → Bv Tryz.prog 60 [.e (.one (.own 90000)), .e (.one (.pure (.val (.int .i64 p1)))), .e (.one (.pure (.val (.int .i64 p2)))), .e (.one (.pure (.val (.int .i64 p3)))), .e (.one (.clo (BJ (DU true Af true Af) Cv p4)))] [(.vec 3 (p0.map Af), .vec 3 (r.map Af))] [] (.tup [])) (p0 : List Ae) (p1 : Int) (p2 : Int) (p3 : Int) (p4 : (Ae × Ae) → Option Int) (r : (List Ae)) (h : C7 N rc p0 p1 p2 p3 p4 = some r) : Bv Tryz.prog 60 [.e (.one (.own 90000)), .e (.one (.pure (.val (.int .i64 p1)))), .e (.one (.pure (.val (.int .i64 p2)))), .e (.one (.pure (.val (.int .i64 p3)))), .e (.one (.clo (BJ (DU true Af true Af) Cv p4)))] [(.vec 3 (p0.map Af), .vec 3 (r.map Af))] [] (.tup []) := by
 unfold C7 at h
 refine Bn (n := 148) (rs := []) Tryz.func60 rfl rfl rfl (A1 rfl) (A1 rfl) rfl rfl (A1 rfl) rfl (A1 rfl) fun w0 S0 GL => Lb ?_
 refine Ak (sm [] [(0, .e (.one (.own 90000))), (1, .e (.one (.pure (.val (.int .i64 p1))))), (2, .e (.one (.pure (.val (.int .i64 p2))))), (3, .e (.one (.pure (.val (.int .i64 p3))))), (4, .e (.one (.clo (BJ (DU true Af true Af) Cv p4))))] [(90000, .vec 3 (p0.map Af))] rfl rfl) (Ab (Aa Ac rfl (qa rfl (Ad (Ab (Aa Ac rfl (qa rfl (Ad ?_))))))))
 refine AJ (L := Bi N p4 rc) h (fun v1 => mk [(0, .e (.one (.own 90000))), (1, .e (.one (.pure (.val (.int .i64 v1.2.1))))), (2, .e (.one (.pure (.val (.int .i64 v1.2.2.1))))), (3, .e (.one (.pure (.val (.int .i64 v1.2.2.2.1))))), (4, .e (.one (.clo (BJ (DU true Af true Af) Cv p4)))), (10, .e (.one (.pure (.val (.bool v1.2.2.2.2.1))))), (11, .e (.one (.pure (.val (.bool v1.2.2.2.2.2)))))] [(90000, .vec 3 (v1.1.map Af))]) (fun v2 => mk [] []) (fun _ _ => rfl) (sm [] _ _ rfl rfl) (fun j1 n1 v1 h => ?_) (fun v2 s h hs => ?_)
 ·unfold Bi at h
  refine AN (Ab (Aa Ac rfl (qm rfl (qm rfl (Cs rfl (qa rfl (Ad (Ab (Ab (Aa Ac rfl (qm rfl (JH rfl (Ad ?_)))))))))))))
  refine Ao rfl (fun c3 => ?_) (fun c3 => ?_)
  ·have h := Am c3 h
   refine Ab (Aa Ac rfl (qm rfl (qm rfl (qm rfl (qm rfl ?_)))))
   obtain ⟨v4, a4, h⟩ := bind_some h
   refine CM (ds0 := [_, _, _, _]) [90000] [] [true] (Fx N v1.1 v1.2.1 v1.2.2.1 p4 v4 a4) (.p rfl) UF rfl ⟨rfl, rfl, rfl, rfl, trivial⟩ rfl rfl (by decide) ⟨rfl, trivial⟩ rfl (A9 rfl) trivial ⟨(fun h => by cases h), trivial⟩ rfl rfl rfl ?_
   refine Ad ?_
   obtain rfl := sj h
   refine Ax ⟨_, (sm [] [] [(90000, .vec 3 (v4.map Af))] rfl rfl), ?_⟩
   exact ⟨⟨[], trivial, rfl⟩, ⟨rfl, trivial⟩, trivial⟩
  ·have h := Al c3 h
   refine Ar (Ab (Ab (Aa Ac rfl (qm rfl (BA rfl (Ad ?_))))))
   refine Ao rfl (fun c5 => ?_) (fun c5 => ?_)
   ·have h := Am c5 h
    refine Ab (Aa Ac rfl (qm rfl (qm rfl (qm rfl (qm rfl ?_)))))
    obtain ⟨v6, a6, h⟩ := bind_some h
    refine CM (ds0 := [_, _, _, _]) [90000] [] [true] (Gf N v1.1 v1.2.1 v1.2.2.1 p4 v6 a6) (.p rfl) Us rfl ⟨rfl, rfl, rfl, rfl, trivial⟩ rfl rfl (by decide) ⟨rfl, trivial⟩ rfl (A9 rfl) trivial ⟨(fun h => by cases h), trivial⟩ rfl rfl rfl ?_
    refine Ad ?_
    obtain rfl := sj h
    refine Ax ⟨_, (sm [] [] [(90000, .vec 3 (v6.map Af))] rfl rfl), ?_⟩
    exact ⟨⟨[], trivial, rfl⟩, ⟨rfl, trivial⟩, trivial⟩
   ·have h := Al c5 h
    refine Ar ?_
    refine AP h (fun v7 => mk [(0, .e (.one (.own 90000))), (1, .e (.one (.pure (.val (.int .i64 v1.2.1))))), (2, .e (.one (.pure (.val (.int .i64 v1.2.2.1))))), (3, .e (.one (.pure (.val (.int .i64 v7.2))))), (4, .e (.one (.clo (BJ (DU true Af true Af) Cv p4)))), (10, .e (.one (.pure (.val (.bool v1.2.2.2.2.1))))), (11, .e (.one (.pure (.val (.bool v1.2.2.2.2.2))))), (12, .e (.one (.pure (.val (.int .i64 ((IntKind.wrap .i64 (v1.2.2.1 - v1.2.1))))))))] [(90000, .vec 3 (v7.1.map Af))]) (fun j7 h => ?_) (fun v7 h => ?_)
    ·refine Ab (Aa Ac rfl (qm rfl (Cu rfl (Ad ?_))))
     refine Ao rfl (fun c8 => ?_) (fun c8 => ?_)
     ·have h := Am c8 h
      refine Ab (Aa Ac rfl (qm rfl (qm rfl (qm rfl (qm rfl ?_)))))
      obtain ⟨v9, a9, h⟩ := bind_some h
      refine CM (ds0 := [_, _, _, _]) [90000] [] [true] (Fs N v1.1 v1.2.1 v1.2.2.1 p4 v9 a9) (.p rfl) UJ rfl ⟨rfl, rfl, rfl, rfl, trivial⟩ rfl rfl (by decide) ⟨rfl, trivial⟩ rfl (A9 rfl) trivial ⟨(fun h => by cases h), trivial⟩ rfl rfl rfl ?_
      refine Ad (Aa Ac rfl (qm rfl (Cs rfl (qa rfl (Ad ?_)))))
      exact Au _ h (sm [] _ _ rfl rfl)
     ·have h := Al c8 h
      refine Ar ?_
      exact Au _ h (sm [] _ _ rfl rfl)
    ·refine Ab (Aa Ac rfl (qm rfl (qm rfl (qm rfl (qm rfl ?_)))))
     obtain ⟨v10, a10, h⟩ := bind_some h
     refine GN [] [90000] (FE N v7.1 v1.2.1 v1.2.2.1 p4 v10 a10) UK EY rfl (qm rfl (qx rfl (qx rfl (qa rfl (qa rfl (Ad ?_))))))
     refine AP h (fun v11 => mk [(0, .e (.one (.own 90000))), (1, .e (.one (.pure (.val (.int .i64 v1.2.1))))), (2, .e (.one (.pure (.val (.int .i64 v1.2.2.1))))), (3, .e (.one (.pure (.val (.int .i64 v7.2))))), (4, .e (.one (.clo (BJ (DU true Af true Af) Cv p4)))), (10, .e (.one (.pure (.val (.bool v1.2.2.2.2.1))))), (11, .e (.one (.pure (.val (.bool v1.2.2.2.2.2))))), (12, .e (.one (.pure (.val (.int .i64 ((IntKind.wrap .i64 (v1.2.2.1 - v1.2.1)))))))), (13, .e (.one (.pure (.val (.int .i64 v11.2.1))))), (14, .e (.one (.pure (.val (.int .i64 v11.2.2)))))] [(90000, .vec 3 (v11.1.map Af))]) (fun j11 h => ?_) (fun v11 h => ?_)
     ·refine Ab (Aa Ac rfl (qm rfl (BA rfl (Ad ?_))))
      refine Ao rfl (fun c12 => ?_) (fun c12 => ?_)
      ·have h := Am c12 h
       refine Ab (Aa Ac rfl (qm rfl (qm rfl (qm rfl (qm rfl ?_)))))
       obtain ⟨v13, a13, h⟩ := bind_some h
       refine CM (ds0 := [_, _, _, _]) [90000] [] [true] (FA N v7.1 v1.2.1 v1.2.2.1 p4 v13 a13) (.p rfl) UR rfl ⟨rfl, rfl, rfl, rfl, trivial⟩ rfl rfl (by decide) ⟨rfl, trivial⟩ rfl (A9 rfl) trivial ⟨(fun h => by cases h), trivial⟩ rfl rfl rfl ?_
       refine Ad (Ab (Aa Ac rfl (qm rfl (Cs rfl (qm rfl (qm rfl (Cs rfl (Cs rfl (qa rfl (Ad (Aa Ac rfl (qa rfl (Ad ?_)))))))))))))
       exact Au _ h (sm [] _ _ rfl rfl)
      ·have h := Al c12 h
       refine Ar ?_
       exact Au _ h (sm [] _ _ rfl rfl)
     ·refine AP h (fun v14 => mk [(0, .e (.one (.own 90000))), (1, .e (.one (.pure (.val (.int .i64 v1.2.1))))), (2, .e (.one (.pure (.val (.int .i64 v1.2.2.1))))), (3, .e (.one (.pure (.val (.int .i64 v7.2))))), (4, .e (.one (.clo (BJ (DU true Af true Af) Cv p4)))), (10, .e (.one (.pure (.val (.bool v1.2.2.2.2.1))))), (11, .e (.one (.pure (.val (.bool v1.2.2.2.2.2))))), (12, .e (.one (.pure (.val (.int .i64 ((IntKind.wrap .i64 (v1.2.2.1 - v1.2.1)))))))), (13, .e (.one (.pure (.val (.int .i64 v11.2.1)))))] [(90000, .vec 3 (v14.map Af))]) (fun j14 h => ?_) (fun v14 h => ?_)
      ·refine AP h (fun v15 => mk [(0, .e (.one (.own 90000))), (1, .e (.one (.pure (.val (.int .i64 v1.2.1))))), (2, .e (.one (.pure (.val (.int .i64 v1.2.2.1))))), (3, .e (.one (.pure (.val (.int .i64 v7.2))))), (4, .e (.one (.clo (BJ (DU true Af true Af) Cv p4)))), (10, .e (.one (.pure (.val (.bool v1.2.2.2.2.1))))), (11, .e (.one (.pure (.val (.bool v1.2.2.2.2.2))))), (12, .e (.one (.pure (.val (.int .i64 ((IntKind.wrap .i64 (v1.2.2.1 - v1.2.1)))))))), (13, .e (.one (.pure (.val (.int .i64 v11.2.1))))), (75, .e (.one (.pure (.val (.bool v15)))))] [(90000, .vec 3 (v11.1.map Af))]) (fun j15 h => ?_) (fun v15 h => ?_)
       ·refine Aa Ac rfl (qm rfl (qm rfl ?_))
        refine AB (t := 69) rfl (fun c16 => ?_) (fun c16 => ?_)
        ·have h := Am c16 h
         refine qm rfl (qp rfl (qm rfl ?_))
         refine AB (t := 72) rfl (fun c17 => ?_) (fun c17 => ?_)
         ·have h := Am c17 h
          refine qm rfl (BA rfl (qp rfl (Ad ?_)))
          exact Au _ h (sm [] _ _ rfl rfl)
         ·have h := Al c17 h
          refine qn rfl (qn rfl (qp rfl (Ad ?_)))
          exact Au _ h (sm [] _ _ rfl rfl)
        ·have h := Al c16 h
         refine qn rfl (qp rfl (qm rfl (qn rfl (qn rfl (qp rfl (Ad ?_))))))
         exact Au _ h (sm [] _ _ rfl rfl)
       ·refine Ao rfl (fun c18 => ?_) (fun c18 => ?_)
        ·have h := Am c18 h
         refine Ab (Aa Ac rfl (qm rfl (qm rfl (qm rfl (qm rfl ?_)))))
         obtain ⟨v19, a19, h⟩ := bind_some h
         refine CM (ds0 := [_, _, _, _]) [90000] [] [true] (Ev N v11.1 v1.2.1 v1.2.2.1 p4 v19 a19) (.p rfl) Uw rfl ⟨rfl, rfl, rfl, rfl, trivial⟩ rfl rfl (by decide) ⟨rfl, trivial⟩ rfl (A9 rfl) trivial ⟨(fun h => by cases h), trivial⟩ rfl rfl rfl ?_
         refine Ad ?_
         refine Ao rfl (fun c20 => ?_) (fun c20 => ?_)
         ·have h := Am c20 h
          obtain rfl := sj h
          refine Ax ⟨_, (sm [] [] [(90000, .vec 3 (v19.2.map Af))] rfl rfl), ?_⟩
          exact ⟨⟨[], trivial, rfl⟩, ⟨rfl, trivial⟩, trivial⟩
         ·have h := Al c20 h
          refine Ar ?_
          exact Au _ h (sm [] _ _ rfl rfl)
        ·have h := Al c18 h
         refine Ar ?_
         exact Au _ h (sm [] _ _ rfl rfl)
      ·refine Ab ?_
       refine AP h (fun v21 => mk [(0, .e (.one (.own 90000))), (1, .e (.one (.pure (.val (.int .i64 v1.2.1))))), (2, .e (.one (.pure (.val (.int .i64 v1.2.2.1))))), (3, .e (.one (.pure (.val (.int .i64 v7.2))))), (4, .e (.one (.clo (BJ (DU true Af true Af) Cv p4)))), (10, .e (.one (.pure (.val (.bool v1.2.2.2.2.1))))), (11, .e (.one (.pure (.val (.bool v1.2.2.2.2.2))))), (12, .e (.one (.pure (.val (.int .i64 ((IntKind.wrap .i64 (v1.2.2.1 - v1.2.1)))))))), (13, .e (.one (.pure (.val (.int .i64 v11.2.1))))), (97, .e (.one (.pure (.val (.bool v21)))))] [(90000, .vec 3 (v14.map Af))]) (fun j21 h => ?_) (fun v21 h => ?_)
       ·refine Aa Ac rfl (qm rfl (Ew rfl (qm rfl ?_)))
        refine AB (t := 83) rfl (fun c22 => ?_) (fun c22 => ?_)
        ·have h := Am c22 h
         refine qm rfl (qm rfl (qm rfl (Cs rfl ?_)))
         obtain ⟨v23, a23, b23, h⟩ := Aj h
         refine qI AL Av a23 (Ag b23) rfl (qJ AV Av (Ag b23) rfl (qm rfl (qm rfl ?_)))
         obtain ⟨v24, a24, b24, h⟩ := Aj h
         refine qI AL Av a24 (Ag b24) rfl (qJ AV Av (Ag b24) rfl ?_)
         obtain ⟨v25, a25, h⟩ := bind_some h
         refine DW (ds0 := [_, _]) (ar := (DU true Af true Af) ((v23, v24))) (.g rfl rfl) rfl rfl ⟨rfl, rfl, trivial⟩ rfl rfl rfl (DV (Es _ _ _ _ Bh Bh) a25) ?_
         refine AY rfl (Cu rfl (qp rfl (AI (by kernel_rfl) ?_)))
         exact Au _ h (sm [] _ _ rfl rfl)
        ·have h := Al c22 h
         refine qn rfl (qn rfl (qn rfl (qn rfl (qn rfl (qn rfl (qn rfl (qn rfl (qn rfl (qn rfl (qn rfl (qn rfl (qn rfl (qp rfl (AI (by kernel_rfl) ?_))))))))))))))
         exact Au _ h (sm [] _ _ rfl rfl)
       ·refine Ao rfl (fun c26 => ?_) (fun c26 => ?_)
        ·have h := Am c26 h
         refine Ab (Aa Ac rfl (qm rfl (qm rfl (qm rfl (qm rfl (qm rfl ?_))))))
         obtain ⟨v27, a27, h⟩ := bind_some h
         refine CM (ds0 := [_, _, _, _, _]) [90000] [] [true] (Fi N v14 v1.2.1 v1.2.2.1 v11.2.1 p4 v27 a27) (.p rfl) Uz rfl ⟨rfl, rfl, rfl, rfl, rfl, trivial⟩ rfl rfl (by decide) ⟨rfl, trivial⟩ rfl (A9 rfl) trivial ⟨(fun h => by cases h), trivial⟩ rfl rfl rfl ?_
         refine qa rfl (Ad (Ab (Aa Ac rfl (qm rfl (qa rfl (Ad (AW ?_)))))))
         exact Au _ h (sm [] _ _ rfl rfl)
        ·have h := Al c26 h
         refine Ar (Ab (Aa Ac rfl (qm rfl (qm rfl (qm rfl (qm rfl (qm rfl ?_)))))))
         obtain ⟨v28, a28, h⟩ := bind_some h
         refine CM (ds0 := [_, _, _, _, _]) [90000] [] [true] (F7 N v14 v1.2.1 v1.2.2.1 v11.2.1 p4 v28 a28) (.p rfl) Ui rfl ⟨rfl, rfl, rfl, rfl, rfl, trivial⟩ rfl rfl (by decide) ⟨rfl, trivial⟩ rfl (A9 rfl) trivial ⟨(fun h => by cases h), trivial⟩ rfl rfl rfl ?_
         refine qm rfl (qx rfl (qx rfl (qa rfl (qa rfl (Ad (Ab (Aa Ac rfl (qm rfl (qa rfl (Ad (Ab (Aa Ac rfl (qm rfl (qm rfl (Cs rfl (qm rfl (qm rfl (Cs rfl (qa rfl (qa rfl (Ad (Ab (Aa Ac rfl (qm rfl (Ld rfl (by decide) (qa rfl (Ad (Ab (Aa Ac rfl (qm rfl (qm rfl (AY rfl (Ad ?_)))))))))))))))))))))))))))))))))
         refine Ao rfl (fun c29 => ?_) (fun c29 => ?_)
         ·have h := Am c29 h
          refine Ab (Aa Ac rfl (qm rfl (qm rfl (C6 rfl (qa rfl (Ad (Ab (Aa Ac rfl (qm rfl (qm rfl (qm rfl (qm rfl (qm rfl ?_)))))))))))))
          obtain ⟨v30, a30, h⟩ := bind_some h
          refine CM (ds0 := [_, _, _, _, _]) [90000] [] [true] (hrc v28.2.2 v1.2.1 v28.1 v7.2 p4 v30 a30) (.p rfl) Sw rfl ⟨rfl, rfl, rfl, rfl, rfl, trivial⟩ rfl rfl (by decide) ⟨rfl, trivial⟩ rfl (A9 rfl) trivial ⟨(fun h => by cases h), trivial⟩ rfl rfl rfl ?_
          refine Ad (Aa Ac rfl (qm rfl (AU rfl (qa rfl (Ad ?_)))))
          exact Au _ h (sm [] _ _ rfl rfl)
         ·have h := Al c29 h
          refine Ab (Aa Ac rfl (qm rfl (qm rfl (C6 rfl (qa rfl (Ad (Ab (Aa Ac rfl (qm rfl (qm rfl (AU rfl (qm rfl (qm rfl (qm rfl ?_))))))))))))))
          obtain ⟨v31, a31, h⟩ := bind_some h
          refine CM (ds0 := [_, _, _, _, _]) [90000] [] [true] (hrc v28.2.2 ((IntKind.wrap .i64 (v28.1 + 1))) v1.2.2.1 v7.2 p4 v31 a31) (.p rfl) Sw rfl ⟨rfl, rfl, rfl, rfl, rfl, trivial⟩ rfl rfl (by decide) ⟨rfl, trivial⟩ rfl (A9 rfl) trivial ⟨(fun h => by cases h), trivial⟩ rfl rfl rfl ?_
          refine Ad (Aa Ac rfl (qm rfl (qa rfl (Ad ?_))))
          exact Au _ h (sm [] _ _ rfl rfl)
 ·cases h
theorem Ec (N : Nat) : ∀ (k : Nat) (p0 : List Ae) (p1 : Int) (p2 : Int) (p3 : Int) (p4 : (Ae × Ae) → Option Int) (r : (List Ae)), Cp N k p0 p1 p2 p3 p4 = some r → Bv Tryz.prog 60 [.e (.one (.own 90000)), .e (.one (.pure (.val (.int .i64 p1)))), .e (.one (.pure (.val (.int .i64 p2)))), .e (.one (.pure (.val (.int .i64 p3)))), .e (.one (.clo (BJ (DU true Af true Af) Cv p4)))] [(.vec 3 (p0.map Af), .vec 3 (r.map Af))] [] (.tup [])
 | 0, _, _, _, _, _, _, h => by cases h
 | k + 1, p0, p1, p2, p3, p4, r, h => F5 N (Cp N k) (Ec N k) p0 p1 p2 p3 p4 r h
theorem Gv (N : Nat) (p0 : List Ae) (p1 : Int) (p2 : Int) (p3 : Int) (p4 : (Ae × Ae) → Option Int) (r : (List Ae)) (h : Eg N p0 p1 p2 p3 p4 = some r) : Bv Tryz.prog 60 [.e (.one (.own 90000)), .e (.one (.pure (.val (.int .i64 p1)))), .e (.one (.pure (.val (.int .i64 p2)))), .e (.one (.pure (.val (.int .i64 p3)))), .e (.one (.clo (BJ (DU true Af true Af) Cv p4)))] [(.vec 3 (p0.map Af), .vec 3 (r.map Af))] [] (.tup []) := Ec N N p0 p1 p2 p3 p4 r h
set_option maxRecDepth 10000 in
theorem Ed (N : Nat) (p0 : List Ae) (p1 : (Ae × Ae) → Option Int) (r : (List Ae)) (h : Cr N p0 p1 = some r) : Bv Tryz.prog 38 [.e (.one (.own 90000)), .e (.one (.clo (BJ (DU true Af true Af) Cv p1)))] [(.vec 3 (p0.map Af), .vec 3 (r.map Af))] [] (.tup []) := by
 unfold Cr at h
 refine Bn (n := 14) (rs := []) Tryz.func38 rfl rfl rfl (A1 rfl) (A1 rfl) rfl rfl (A1 rfl) rfl (A1 rfl) fun w0 S0 GL => Lb ?_
 refine Ak (sm [] [(0, .e (.one (.own 90000))), (1, .e (.one (.clo (BJ (DU true Af true Af) Cv p1))))] [(90000, .vec 3 (p0.map Af))] rfl rfl) (Ab (Aa Ac rfl (qm rfl (DZ AL rfl (qa rfl (Ad (Aa Ac rfl (qm rfl (qm rfl (qm rfl (F8 Su Me rfl ?_)))))))))))
 obtain ⟨v1, a1, h⟩ := bind_some h
 refine AD [] (IA N ((IntKind.wrap .u64 ((p0.length : Int)))) v1 a1) SZ rfl (qm rfl ?_)
 obtain ⟨v2, a2, h⟩ := bind_some h
 refine CM (ds0 := [_, _, _, _, _]) [90000] [] [true] (Gv N p0 0 ((p0.length : Int)) v1 p1 v2 a2) (.p rfl) Sw rfl ⟨rfl, rfl, rfl, rfl, rfl, trivial⟩ rfl rfl (by decide) ⟨rfl, trivial⟩ rfl (A9 rfl) trivial ⟨(fun h => by cases h), trivial⟩ rfl rfl rfl ?_
 refine Ad ?_
 obtain rfl := sj h
 refine ⟨_, (sm [] [] [(90000, .vec 3 (v2.map Af))] rfl rfl), ?_⟩
 exact ⟨⟨[], trivial, rfl⟩, ⟨rfl, trivial⟩, trivial⟩
set_option maxRecDepth 10000 in
theorem IB (N : Nat) (p0 : Int) (r : Bool) (h : Fv N p0 = some r) : Az Tryz.prog 110 [.e (.one (.pure (.val (.int .i64 p0))))] [] (.e (.one (.pure (.val (.bool r))))) := by
 unfold Fv at h
 refine As (n := 6) (rs := [.tmp 2]) Tryz.func110 rfl rfl rfl (A1 rfl) (A1 rfl) rfl fun w0 S0 => ?_
 refine Ab (Aa Ac rfl (qa rfl (Ad (Ab (Aa Ac rfl (qm rfl (qm rfl (BX rfl (qa rfl (Ad ?_))))))))))
 obtain rfl := sj h
 refine Ak (sm [] [(2, .e (.one (.pure (.val (.bool ((p0 != p0)))))))] [] rfl rfl) (Ax ?_)
 exact ⟨⟨[_], ⟨.tmp _ _ rfl, trivial⟩, rfl⟩, trivial⟩
set_option maxRecDepth 10000 in
theorem J2 (N : Nat) (p0 : Int) (p1 : Int) (r : Int) (h : FV N p0 p1 = some r) : Az Tryz.prog 91 [.e (.one (.pure (.val (.int .i64 p0)))), .e (.one (.pure (.val (.int .i64 p1))))] [] (.e (.one (.pure (.val (.int .i64 r))))) := by
 unfold FV at h
 refine As (n := 20) (rs := [.tmp 4]) Tryz.func91 rfl rfl rfl (A1 rfl) (A1 rfl) rfl fun w0 S0 => ?_
 refine Ab (Aa Ac rfl (qa rfl (Ad (Ab (Aa Ac rfl (qm rfl ?_))))))
 obtain ⟨v1, a1, h⟩ := bind_some h
 refine AD [] (IB N p0 v1 a1) R2 rfl (qa rfl (Ad (Ab (Aa Ac rfl (qm rfl ?_)))))
 obtain ⟨v2, a2, h⟩ := bind_some h
 refine AD [] (IB N p1 v2 a2) R2 rfl (qa rfl (Ad (Ab (Ab (Aa Ac rfl (qm rfl (Ad ?_)))))))
 refine Ao rfl (fun c3 => ?_) (fun c3 => ?_)
 ·have h := Am c3 h
  refine Ab (Ab (Aa Ac rfl (qm rfl (Ad ?_))))
  refine Ao rfl (fun c4 => ?_) (fun c4 => ?_)
  ·have h := Am c4 h
   refine Ab (Aa Ac rfl (qa rfl (Ad ?_)))
   obtain rfl := sj h
   refine Ak (sm [] [(4, .e (.one (.pure (.val (.int .i64 0)))))] [] rfl rfl) (Ax ?_)
   exact ⟨⟨[_], ⟨.tmp _ _ rfl, trivial⟩, rfl⟩, trivial⟩
  ·have h := Al c4 h
   refine Ar (Ab (Aa Ac rfl (qa rfl (Ad ?_))))
   obtain rfl := sj h
   refine Ak (sm [] [(4, .e (.one (.pure (.val (.int .i64 ((-1)))))))] [] rfl rfl) (Ax ?_)
   exact ⟨⟨[_], ⟨.tmp _ _ rfl, trivial⟩, rfl⟩, trivial⟩
 ·have h := Al c3 h
  refine Ar (Ab (Ab (Aa Ac rfl (qm rfl (Ad ?_)))))
  refine Ao rfl (fun c5 => ?_) (fun c5 => ?_)
  ·have h := Am c5 h
   refine Ab (Aa Ac rfl (qa rfl (Ad ?_)))
   obtain rfl := sj h
   refine Ak (sm [] [(4, .e (.one (.pure (.val (.int .i64 1)))))] [] rfl rfl) (Ax ?_)
   exact ⟨⟨[_], ⟨.tmp _ _ rfl, trivial⟩, rfl⟩, trivial⟩
  ·have h := Al c5 h
   refine Ar (Ab (Ab (Aa Ac rfl (qm rfl (qm rfl (AY rfl (Ad ?_)))))))
   refine Ao rfl (fun c6 => ?_) (fun c6 => ?_)
   ·have h := Am c6 h
    refine Ab (Aa Ac rfl (qa rfl (Ad ?_)))
    obtain rfl := sj h
    refine Ak (sm [] [(4, .e (.one (.pure (.val (.int .i64 ((-1)))))))] [] rfl rfl) (Ax ?_)
    exact ⟨⟨[_], ⟨.tmp _ _ rfl, trivial⟩, rfl⟩, trivial⟩
   ·have h := Al c6 h
    refine Ar (Ab (Ab (Aa Ac rfl (qm rfl (qm rfl (Ew rfl (Ad ?_)))))))
    refine Ao rfl (fun c7 => ?_) (fun c7 => ?_)
    ·have h := Am c7 h
     refine Ab (Aa Ac rfl (qa rfl (Ad ?_)))
     obtain rfl := sj h
     refine Ak (sm [] [(4, .e (.one (.pure (.val (.int .i64 1)))))] [] rfl rfl) (Ax ?_)
     exact ⟨⟨[_], ⟨.tmp _ _ rfl, trivial⟩, rfl⟩, trivial⟩
    ·have h := Al c7 h
     refine Ar (Ab (Aa Ac rfl (qa rfl (Ad ?_))))
     obtain rfl := sj h
     refine Ak (sm [] [(4, .e (.one (.pure (.val (.int .i64 0)))))] [] rfl rfl) (Ax ?_)
     exact ⟨⟨[_], ⟨.tmp _ _ rfl, trivial⟩, rfl⟩, trivial⟩
set_option maxRecDepth 10000 in
theorem FF (N : Nat) (p0 : List Int) (p1 : List Int) (r : Int) (h : Dy N p0 p1 = some r) : Az Tryz.prog 63 [.e (.one (.pure (.sl (p0.map Ai)))), .e (.one (.pure (.sl (p1.map Ai))))] [] (.e (.one (.pure (.val (.int .i64 r))))) := by
 unfold Dy at h
 refine As (n := 36) (rs := [.tmp 4]) Tryz.func63 rfl rfl rfl (A1 rfl) (A1 rfl) rfl fun w0 S0 => ?_
 refine Ab (Aa Ac rfl (qa rfl (Ad (Ab (Ab (Aa Ac rfl (qm rfl (AR AE rfl (qm rfl (Ad ?_))))))))))
 refine AJ (L := C4 N p0 p1) h (fun v1 => mk [(0, .e (.one (.pure (.sl (p0.map Ai))))), (1, .e (.one (.pure (.sl (p1.map Ai))))), (9, .e (.one (.pure (.sl (p0.map Ai))))), (10, .e (.one (.pure (.val (.int .i64 ((p0.length : Int))))))), (11, .e (.one (.pure (.val (.int .i64 v1)))))] []) (fun v2 => mk [(0, .e (.one (.pure (.sl (p0.map Ai))))), (1, .e (.one (.pure (.sl (p1.map Ai)))))] []) (fun _ _ => rfl) (sm [] _ _ rfl rfl) (fun j1 n1 v1 h => ?_) (fun v2 s h hs => ?_)
 ·unfold C4 at h
  refine Ab (Aa Ac rfl (AY rfl (Ad (Ab ?_))))
  refine Ao rfl (fun c3 => ?_) (fun c3 => ?_)
  ·have h := Am c3 h
   refine Ar (Ab (AN (Ab (Aa Ac rfl (qm rfl ?_)))))
   obtain ⟨v4, a4, b4, h⟩ := Aj h
   refine qi AE Dm a4 (Ag b4) rfl (qk Ci rfl (qa rfl (qa rfl (Ad (Ab (Ab (Aa Ac rfl (qm rfl (qm rfl (AR AE rfl (C6 rfl (Ad ?_))))))))))))
   refine Ao rfl (fun c5 => ?_) (fun c5 => ?_)
   ·have h := Am c5 h
    refine Ab (Aa Ac rfl (qa rfl (Ad ?_)))
    obtain rfl := sj h
    refine Ak (sm [] [(4, .e (.one (.pure (.val (.int .i64 1)))))] [] rfl rfl) (Ax ?_)
    exact ⟨⟨[_], ⟨.tmp _ _ rfl, trivial⟩, rfl⟩, trivial⟩
   ·have h := Al c5 h
    refine Ar (Ab (Aa Ac rfl (qm rfl (qm rfl ?_))))
    obtain ⟨v6, a6, b6, h⟩ := Aj h
    refine qi AE Dm a6 (Ag b6) rfl (qk Ci rfl (qa rfl (Ad (Ab (Aa Ac rfl (qm rfl (qm rfl ?_)))))))
    obtain ⟨v7, a7, h⟩ := bind_some h
    refine AD [] (J2 N v4 v6 v7 a7) UD rfl (qa rfl (Ad (Ab (Aa Ac rfl (qm rfl (BX rfl (Ad ?_)))))))
    refine Ao rfl (fun c8 => ?_) (fun c8 => ?_)
    ·have h := Am c8 h
     refine Ab (Aa Ac rfl (qm rfl (qa rfl (Ad ?_))))
     obtain rfl := sj h
     refine Ak (sm [] [(4, .e (.one (.pure (.val (.int .i64 v7)))))] [] rfl rfl) (Ax ?_)
     exact ⟨⟨[_], ⟨.tmp _ _ rfl, trivial⟩, rfl⟩, trivial⟩
    ·have h := Al c8 h
     refine Ar (Aa Ac rfl (AU rfl (qm rfl (Ad ?_))))
     exact Au _ h (sm [] _ _ rfl rfl)
  ·have h := Al c3 h
   refine AW ?_
   exact Au _ h (sm [] _ _ rfl rfl)
 ·refine Ak hs (Ab (Ab (Aa Ac rfl (qm rfl (AR AE rfl (qm rfl (AR AE rfl (AY rfl (Ad ?_)))))))))
  refine Ao rfl (fun c9 => ?_) (fun c9 => ?_)
  ·have h := Am c9 h
   refine Ab (Aa Ac rfl (qa rfl (Ad ?_)))
   obtain rfl := sj h
   refine Ak (sm [] [(4, .e (.one (.pure (.val (.int .i64 ((-1)))))))] [] rfl rfl) (Ax ?_)
   exact ⟨⟨[_], ⟨.tmp _ _ rfl, trivial⟩, rfl⟩, trivial⟩
  ·have h := Al c9 h
   refine Ar (Ab (Aa Ac rfl (qa rfl (Ad ?_))))
   obtain rfl := sj h
   refine Ak (sm [] [(4, .e (.one (.pure (.val (.int .i64 0)))))] [] rfl rfl) (Ax ?_)
   exact ⟨⟨[_], ⟨.tmp _ _ rfl, trivial⟩, rfl⟩, trivial⟩
set_option maxRecDepth 10000 in
theorem G7 (N : Nat) (p0 : Int) (r : Bool) (h : Eh N p0 = some r) : Az Tryz.prog 111 [.e (.one (.pure (.val (.int .u8 p0))))] [] (.e (.one (.pure (.val (.bool r))))) := by
 unfold Eh at h
 refine As (n := 6) (rs := [.tmp 2]) Tryz.func111 rfl rfl rfl (A1 rfl) (A1 rfl) rfl fun w0 S0 => ?_
 refine Ab (Aa Ac rfl (qa rfl (Ad (Ab (Aa Ac rfl (qm rfl (qm rfl (BX rfl (qa rfl (Ad ?_))))))))))
 obtain rfl := sj h
 refine Ak (sm [] [(2, .e (.one (.pure (.val (.bool ((p0 != p0)))))))] [] rfl rfl) (Ax ?_)
 exact ⟨⟨[_], ⟨.tmp _ _ rfl, trivial⟩, rfl⟩, trivial⟩
set_option maxRecDepth 10000 in
theorem IE (N : Nat) (p0 : Int) (p1 : Int) (r : Int) (h : EI N p0 p1 = some r) : Az Tryz.prog 92 [.e (.one (.pure (.val (.int .u8 p0)))), .e (.one (.pure (.val (.int .u8 p1))))] [] (.e (.one (.pure (.val (.int .i64 r))))) := by
 unfold EI at h
 refine As (n := 20) (rs := [.tmp 4]) Tryz.func92 rfl rfl rfl (A1 rfl) (A1 rfl) rfl fun w0 S0 => ?_
 refine Ab (Aa Ac rfl (qa rfl (Ad (Ab (Aa Ac rfl (qm rfl ?_))))))
 obtain ⟨v1, a1, h⟩ := bind_some h
 refine AD [] (G7 N p0 v1 a1) RU rfl (qa rfl (Ad (Ab (Aa Ac rfl (qm rfl ?_)))))
 obtain ⟨v2, a2, h⟩ := bind_some h
 refine AD [] (G7 N p1 v2 a2) RU rfl (qa rfl (Ad (Ab (Ab (Aa Ac rfl (qm rfl (Ad ?_)))))))
 refine Ao rfl (fun c3 => ?_) (fun c3 => ?_)
 ·have h := Am c3 h
  refine Ab (Ab (Aa Ac rfl (qm rfl (Ad ?_))))
  refine Ao rfl (fun c4 => ?_) (fun c4 => ?_)
  ·have h := Am c4 h
   refine Ab (Aa Ac rfl (qa rfl (Ad ?_)))
   obtain rfl := sj h
   refine Ak (sm [] [(4, .e (.one (.pure (.val (.int .i64 0)))))] [] rfl rfl) (Ax ?_)
   exact ⟨⟨[_], ⟨.tmp _ _ rfl, trivial⟩, rfl⟩, trivial⟩
  ·have h := Al c4 h
   refine Ar (Ab (Aa Ac rfl (qa rfl (Ad ?_))))
   obtain rfl := sj h
   refine Ak (sm [] [(4, .e (.one (.pure (.val (.int .i64 ((-1)))))))] [] rfl rfl) (Ax ?_)
   exact ⟨⟨[_], ⟨.tmp _ _ rfl, trivial⟩, rfl⟩, trivial⟩
 ·have h := Al c3 h
  refine Ar (Ab (Ab (Aa Ac rfl (qm rfl (Ad ?_)))))
  refine Ao rfl (fun c5 => ?_) (fun c5 => ?_)
  ·have h := Am c5 h
   refine Ab (Aa Ac rfl (qa rfl (Ad ?_)))
   obtain rfl := sj h
   refine Ak (sm [] [(4, .e (.one (.pure (.val (.int .i64 1)))))] [] rfl rfl) (Ax ?_)
   exact ⟨⟨[_], ⟨.tmp _ _ rfl, trivial⟩, rfl⟩, trivial⟩
  ·have h := Al c5 h
   refine Ar (Ab (Ab (Aa Ac rfl (qm rfl (qm rfl (AY rfl (Ad ?_)))))))
   refine Ao rfl (fun c6 => ?_) (fun c6 => ?_)
   ·have h := Am c6 h
    refine Ab (Aa Ac rfl (qa rfl (Ad ?_)))
    obtain rfl := sj h
    refine Ak (sm [] [(4, .e (.one (.pure (.val (.int .i64 ((-1)))))))] [] rfl rfl) (Ax ?_)
    exact ⟨⟨[_], ⟨.tmp _ _ rfl, trivial⟩, rfl⟩, trivial⟩
   ·have h := Al c6 h
    refine Ar (Ab (Ab (Aa Ac rfl (qm rfl (qm rfl (Ew rfl (Ad ?_)))))))
    refine Ao rfl (fun c7 => ?_) (fun c7 => ?_)
    ·have h := Am c7 h
     refine Ab (Aa Ac rfl (qa rfl (Ad ?_)))
     obtain rfl := sj h
     refine Ak (sm [] [(4, .e (.one (.pure (.val (.int .i64 1)))))] [] rfl rfl) (Ax ?_)
     exact ⟨⟨[_], ⟨.tmp _ _ rfl, trivial⟩, rfl⟩, trivial⟩
    ·have h := Al c7 h
     refine Ar (Ab (Aa Ac rfl (qa rfl (Ad ?_))))
     obtain rfl := sj h
     refine Ak (sm [] [(4, .e (.one (.pure (.val (.int .i64 0)))))] [] rfl rfl) (Ax ?_)
     exact ⟨⟨[_], ⟨.tmp _ _ rfl, trivial⟩, rfl⟩, trivial⟩
set_option maxRecDepth 10000 in
theorem Gm (N : Nat) (p0 : List Int) (p1 : List Int) (r : Int) (h : Dj N p0 p1 = some r) : Az Tryz.prog 64 [.e (.one (.pure (.sl (p0.map Bk)))), .e (.one (.pure (.sl (p1.map Bk))))] [] (.e (.one (.pure (.val (.int .i64 r))))) := by
 unfold Dj at h
 refine As (n := 36) (rs := [.tmp 4]) Tryz.func64 rfl rfl rfl (A1 rfl) (A1 rfl) rfl fun w0 S0 => ?_
 refine Ab (Aa Ac rfl (qa rfl (Ad (Ab (Ab (Aa Ac rfl (qm rfl (AR C5 rfl (qm rfl (Ad ?_))))))))))
 refine AJ (L := Cb N p0 p1) h (fun v1 => mk [(0, .e (.one (.pure (.sl (p0.map Bk))))), (1, .e (.one (.pure (.sl (p1.map Bk))))), (9, .e (.one (.pure (.sl (p0.map Bk))))), (10, .e (.one (.pure (.val (.int .i64 ((p0.length : Int))))))), (11, .e (.one (.pure (.val (.int .i64 v1)))))] []) (fun v2 => mk [(0, .e (.one (.pure (.sl (p0.map Bk))))), (1, .e (.one (.pure (.sl (p1.map Bk)))))] []) (fun _ _ => rfl) (sm [] _ _ rfl rfl) (fun j1 n1 v1 h => ?_) (fun v2 s h hs => ?_)
 ·unfold Cb at h
  refine Ab (Aa Ac rfl (AY rfl (Ad (Ab ?_))))
  refine Ao rfl (fun c3 => ?_) (fun c3 => ?_)
  ·have h := Am c3 h
   refine Ar (Ab (AN (Ab (Aa Ac rfl (qm rfl ?_)))))
   obtain ⟨v4, a4, b4, h⟩ := Aj h
   refine qi C5 Fa a4 (Ag b4) rfl (qk IF rfl (qa rfl (qa rfl (Ad (Ab (Ab (Aa Ac rfl (qm rfl (qm rfl (AR C5 rfl (C6 rfl (Ad ?_))))))))))))
   refine Ao rfl (fun c5 => ?_) (fun c5 => ?_)
   ·have h := Am c5 h
    refine Ab (Aa Ac rfl (qa rfl (Ad ?_)))
    obtain rfl := sj h
    refine Ak (sm [] [(4, .e (.one (.pure (.val (.int .i64 1)))))] [] rfl rfl) (Ax ?_)
    exact ⟨⟨[_], ⟨.tmp _ _ rfl, trivial⟩, rfl⟩, trivial⟩
   ·have h := Al c5 h
    refine Ar (Ab (Aa Ac rfl (qm rfl (qm rfl ?_))))
    obtain ⟨v6, a6, b6, h⟩ := Aj h
    refine qi C5 Fa a6 (Ag b6) rfl (qk IF rfl (qa rfl (Ad (Ab (Aa Ac rfl (qm rfl (qm rfl ?_)))))))
    obtain ⟨v7, a7, h⟩ := bind_some h
    refine AD [] (IE N v4 v6 v7 a7) Ul rfl (qa rfl (Ad (Ab (Aa Ac rfl (qm rfl (BX rfl (Ad ?_)))))))
    refine Ao rfl (fun c8 => ?_) (fun c8 => ?_)
    ·have h := Am c8 h
     refine Ab (Aa Ac rfl (qm rfl (qa rfl (Ad ?_))))
     obtain rfl := sj h
     refine Ak (sm [] [(4, .e (.one (.pure (.val (.int .i64 v7)))))] [] rfl rfl) (Ax ?_)
     exact ⟨⟨[_], ⟨.tmp _ _ rfl, trivial⟩, rfl⟩, trivial⟩
    ·have h := Al c8 h
     refine Ar (Aa Ac rfl (AU rfl (qm rfl (Ad ?_))))
     exact Au _ h (sm [] _ _ rfl rfl)
  ·have h := Al c3 h
   refine AW ?_
   exact Au _ h (sm [] _ _ rfl rfl)
 ·refine Ak hs (Ab (Ab (Aa Ac rfl (qm rfl (AR C5 rfl (qm rfl (AR C5 rfl (AY rfl (Ad ?_)))))))))
  refine Ao rfl (fun c9 => ?_) (fun c9 => ?_)
  ·have h := Am c9 h
   refine Ab (Aa Ac rfl (qa rfl (Ad ?_)))
   obtain rfl := sj h
   refine Ak (sm [] [(4, .e (.one (.pure (.val (.int .i64 ((-1)))))))] [] rfl rfl) (Ax ?_)
   exact ⟨⟨[_], ⟨.tmp _ _ rfl, trivial⟩, rfl⟩, trivial⟩
  ·have h := Al c9 h
   refine Ar (Ab (Aa Ac rfl (qa rfl (Ad ?_))))
   obtain rfl := sj h
   refine Ak (sm [] [(4, .e (.one (.pure (.val (.int .i64 0)))))] [] rfl rfl) (Ax ?_)
   exact ⟨⟨[_], ⟨.tmp _ _ rfl, trivial⟩, rfl⟩, trivial⟩
set_option maxRecDepth 10000 in
theorem ML (N : Nat) (p0 : List Int) (r : Int) (h : HU N p0 = some r) : Az Tryz.prog 62 [.e (.one (.pure (.sl (p0.map Ai))))] [] (.e (.one (.pure (.val (.int .i64 r))))) := by
 unfold HU at h
 refine As (n := 18) (rs := [.tmp 2]) Tryz.func62 rfl rfl rfl (A1 rfl) (A1 rfl) rfl fun w0 S0 => ?_
 refine Ab (Aa Ac rfl (qa rfl (Ad (Ab (Aa Ac rfl (qa rfl (Ad (Ab (Ab (Aa Ac rfl (qm rfl (AR AE rfl (qm rfl (Ad ?_))))))))))))))
 refine AJ (L := Ft N p0) h (fun v1 => mk [(3, .e (.one (.pure (.val (.int .i64 0))))), (6, .e (.one (.pure (.sl (p0.map Ai))))), (7, .e (.one (.pure (.val (.int .i64 ((p0.length : Int))))))), (8, .e (.one (.pure (.val (.int .i64 v1)))))] []) (fun v2 => mk [(3, .e (.one (.pure (.val (.int .i64 0)))))] []) (fun _ _ => rfl) (sm [] _ _ rfl rfl) (fun j1 n1 v1 h => ?_) (fun v2 s h hs => ?_)
 ·unfold Ft at h
  refine Ab (Aa Ac rfl (AY rfl (Ad (Ab ?_))))
  refine Ao rfl (fun c3 => ?_) (fun c3 => ?_)
  ·have h := Am c3 h
   refine Ar (Ab (AN (Ab (Aa Ac rfl ?_))))
   obtain ⟨v4, a4, b4, h⟩ := Aj h
   refine qi AE Dm a4 (Ag b4) rfl (qk Ci rfl (qa rfl (Ad (Ab (Aa Ac rfl (qm rfl (qm rfl (BX rfl (Ad ?_)))))))))
   refine Ao rfl (fun c5 => ?_) (fun c5 => ?_)
   ·have h := Am c5 h
    refine Ab (Aa Ac rfl (qm rfl (qa rfl (Ad ?_))))
    obtain rfl := sj h
    refine Ak (sm [] [(2, .e (.one (.pure (.val (.int .i64 v4)))))] [] rfl rfl) (Ax ?_)
    exact ⟨⟨[_], ⟨.tmp _ _ rfl, trivial⟩, rfl⟩, trivial⟩
   ·have h := Al c5 h
    refine Ar (Aa Ac rfl (AU rfl (qm rfl (Ad ?_))))
    exact Au _ h (sm [] _ _ rfl rfl)
  ·have h := Al c3 h
   refine AW ?_
   exact Au _ h (sm [] _ _ rfl rfl)
 ·refine Ak hs (Ab (Aa Ac rfl (qm rfl (qa rfl (Ad ?_)))))
  obtain rfl := sj h
  refine Ak (sm [] [(2, .e (.one (.pure (.val (.int .i64 0)))))] [] rfl rfl) (Ax ?_)
  exact ⟨⟨[_], ⟨.tmp _ _ rfl, trivial⟩, rfl⟩, trivial⟩
set_option maxRecDepth 10000 in
theorem HS (N : Nat) (p0 : Ae) (p1 : Ae) (r : Int) (h : D8 N p0 p1 = some r) : Az Tryz.prog 39 [.e (.agg [.pure (.sl (p0.fBase.map Ai)), .pure (.sl (p0.fNext.map Ai)), .pure (.sl (p0.fHeld.map Bk))]), .e (.agg [.pure (.sl (p1.fBase.map Ai)), .pure (.sl (p1.fNext.map Ai)), .pure (.sl (p1.fHeld.map Bk))])] [] (.e (.one (.pure (.val (.int .i64 r))))) := by
 unfold D8 at h
 refine As (n := 22) (rs := [.tmp 4]) Tryz.func39 rfl rfl rfl (A1 rfl) (A1 rfl) rfl fun w0 S0 => ?_
 refine Ab (Aa Ac rfl (qb rfl (qb rfl (qa rfl (Ad (Ab (Aa Ac rfl (qf CB rfl (ql Bc rfl (qf CB rfl (ql Bc rfl ?_)))))))))))
 obtain ⟨v1, a1, h⟩ := bind_some h
 refine AD [] (FF N p0.fBase p1.fBase v1 a1) S7 rfl (qf BR rfl (ql Bc rfl (qf BR rfl (ql Bc rfl ?_))))
 obtain ⟨v2, a2, h⟩ := bind_some h
 refine AD [] (FF N p0.fNext p1.fNext v2 a2) S7 rfl (qf Cx rfl (ql Gq rfl (qf Cx rfl (ql Gq rfl ?_))))
 obtain ⟨v3, a3, h⟩ := bind_some h
 refine AD [] (Gm N p0.fHeld p1.fHeld v3 a3) Ur rfl (D4 AE Dm Kj rfl ?_)
 obtain ⟨v4, a4, h⟩ := bind_some h
 refine GN [] [20] (ML N (([v1, v2, v3] : List Int)) v4 a4) UC EY rfl (qa rfl (AI (by kernel_rfl) ?_))
 obtain rfl := sj h
 refine Ak (sm [] [(4, .e (.one (.pure (.val (.int .i64 v4)))))] [] rfl rfl) (Ax ?_)
 exact ⟨⟨[_], ⟨.tmp _ _ rfl, trivial⟩, rfl⟩, trivial⟩
set_option maxRecDepth 10000 in
theorem IX (N : Nat) (p0 : Ah) (r : (List Ae) × Int) (h : FP N p0 = some r) : Az Tryz.prog 18 [.e (.agg [.pure (.sl (p0.fVersions.map Ai)), .pure (.sl (p0.fNow.map Ai)), .pure (.sl (p0.fTarget.map Ai)), .pure (.sl (p0.fTables.map Aq))])] [(3, r.1.map Af)] (.tup [.one (.own 0), .one (.pure (.val (.int .i64 r.2)))]) := by
 unfold FP at h
 refine As (n := 73) (rs := [.tmp 2, .tmp 3]) Tryz.func18 rfl rfl rfl (A1 rfl) (A1 rfl) rfl fun w0 S0 => ?_
 refine Ab (Aa Ac rfl (qb rfl (qa rfl (qa rfl (Ad (Ab (Aa Ac rfl (qL DY DI rfl ?_))))))))
 obtain ⟨v1, a1, h⟩ := bind_some h
 refine AD [2001, 2002, 2003] (Jg N p0 v1 a1) SV rfl (qm rfl (qx rfl (qx rfl (qx rfl (qz Ct rfl (qs Av rfl (qa rfl (qa rfl (Ad (Ab ?_))))))))))
 refine AP h (fun v2 => mk [(1, .e (.one (.ptr 1 0))), (4, .e (.one (.ptr 4 0))), (6, .e (.one (.pure (.val (.int .i64 v1.2.2))))), (25, .e (.one (.pure (.val (.bool v2)))))] [(1, .box [.pure (.sl (p0.fVersions.map Ai)), .pure (.sl (p0.fNow.map Ai)), .pure (.sl (p0.fTarget.map Ai)), .pure (.sl (p0.fTables.map Aq))]), (4, .box [.own 2004, .own 2005, .own 2006]), (2004, .vec 1 (v1.1.fBase.map Ai)), (2005, .vec 1 (v1.1.fNext.map Ai)), (2006, .vec 1 (v1.1.fHeld.map Bk))]) (fun j2 h => ?_) (fun v2 h => ?_)
 ·refine Aa Ac rfl (qm rfl (BX rfl (qm rfl ?_)))
  refine AB (t := 22) rfl (fun c3 => ?_) (fun c3 => ?_)
  ·have h := Am c3 h
   refine qn rfl (qn rfl (qp rfl (Ad ?_)))
   exact Au _ h (sm [(2004, 2001), (2005, 2002), (2006, 2003)] _ _ rfl rfl)
  ·have h := Al c3 h
   refine qm rfl (Cu rfl (qp rfl (Ad ?_)))
   exact Au _ h (sm [(2004, 2001), (2005, 2002), (2006, 2003)] _ _ rfl rfl)
 ·refine Ao rfl (fun c4 => ?_) (fun c4 => ?_)
  ·have h := Am c4 h
   refine Ab (Aa Ac rfl (qm rfl (qa rfl (qa rfl (Ad ?_)))))
   obtain rfl := sj h
   refine Ak ((Bo 2 2007 3 rfl rfl rfl).trans (sm [(1000, 2007)] [(2, .e (.one (.own 1000))), (3, .e (.one (.pure (.val (.int .i64 v1.2.2)))))] [(1000, .vec 3 ((([] : List Ae)).map Af))] rfl rfl)) (Ax ?_)
   exact ⟨⟨[_, _], ⟨.tmp _ _ rfl, ⟨.tmp _ _ rfl, trivial⟩⟩, rfl⟩, ⟨rfl, trivial⟩⟩
  ·have h := Al c4 h
   refine Ar (Ab (Aa Ac rfl (qL AV Av rfl (CQ (AZ 2004 _ _ rfl rfl) (CQ (AZ 2005 _ _ rfl rfl) (CQ (AZ 2006 _ _ rfl rfl) (D4 AL Av Ct rfl (qa rfl (Ad (Ab (Aa Ac rfl ?_)))))))))))
   refine Pi (.p rfl) rfl ?_
   refine qL AV Av rfl ?_
   obtain ⟨v5, a5, h⟩ := bind_some h
   refine AD [] (I0 N v1.1 v5 a5) Sb rfl ?_
   refine Ny (kv := Value.string) (vt := tB) (m := ([] : List (ByteArray × Bool))) (k := v5) (v := true) rfl (.inr rfl) rfl rfl rfl rfl (Ko OS SJ) rfl ?_
   refine qm rfl (qa rfl (Ad (Ab (Ab (Aa Ac rfl (qa rfl (Ad ?_)))))))
   refine AJ (L := EK N p0) h (fun v6 => mk [(1, .e (.one (.ptr 1 0))), (7, .e (.one (.own 2008))), (8, .e (.one (.mref 2009))), (9, .e (.one (.pure (.val (.int .i64 v6.2.2)))))] [(1, .box [.pure (.sl (p0.fVersions.map Ai)), .pure (.sl (p0.fNow.map Ai)), .pure (.sl (p0.fTarget.map Ai)), .pure (.sl (p0.fTables.map Aq))]), (2008, .vec 3 (v6.1.map Af)), (2009, .mp (H3 Value.string tB v6.2.1))]) (fun v7 => mk [(7, .e (.one (.own 2010)))] [(2010, .vec 3 (v7.map Af))]) (fun _ _ => rfl) (sm [(2008, 28), (2009, 29)] _ _ rfl rfl) (fun j6 n6 v6 h => ?_) (fun v7 s h hs => ?_)
   ·unfold EK at h
    refine Ab (Ab (Aa Ac rfl (qm rfl (qm rfl (DZ AL rfl (AY rfl (Ad ?_)))))))
    refine Ao rfl (fun c8 => ?_) (fun c8 => ?_)
    ·have h := Am c8 h
     refine Ar (Ab (AN (Ab (Aa Ac rfl (qL DY DI rfl (qm rfl (qm rfl ?_)))))))
     obtain ⟨v9, a9, b9, h⟩ := Aj h
     refine qI AL Av a9 (Ag b9) rfl (qJ AV Av (Ag b9) rfl ?_)
     obtain ⟨v10, a10, h⟩ := bind_some h
     refine AD [2011, 2012] (JY N p0 v9 v10 a10) SY rfl (qm rfl (qx rfl (qx rfl (qa rfl (qa rfl (AI (by kernel_rfl) (Ab (Ab (Aa Ac rfl (qm rfl (DZ AL rfl (qm rfl (Ad ?_)))))))))))))
     refine AJ (L := Et N v10) h (fun v11 => mk [(1, .e (.one (.ptr 1 0))), (7, .e (.one (.own 2013))), (8, .e (.one (.mref 2014))), (9, .e (.one (.pure (.val (.int .i64 v6.2.2))))), (48, .e (.one (.own 2015))), (49, .e (.one (.pure (.val (.int .i64 ((v10.2.length : Int))))))), (50, .e (.one (.pure (.val (.int .i64 v11.2.2)))))] [(1, .box [.pure (.sl (p0.fVersions.map Ai)), .pure (.sl (p0.fNow.map Ai)), .pure (.sl (p0.fTarget.map Ai)), .pure (.sl (p0.fTables.map Aq))]), (2013, .vec 3 (v11.1.map Af)), (2014, .mp (H3 Value.string tB v11.2.1)), (2015, .vec 3 (v10.2.map Af))]) (fun v12 => mk [(1, .e (.one (.ptr 1 0))), (7, .e (.one (.own 2016))), (8, .e (.one (.mref 2017))), (9, .e (.one (.pure (.val (.int .i64 v6.2.2)))))] [(1, .box [.pure (.sl (p0.fVersions.map Ai)), .pure (.sl (p0.fNow.map Ai)), .pure (.sl (p0.fTarget.map Ai)), .pure (.sl (p0.fTables.map Aq))]), (2016, .vec 3 (v12.1.map Af)), (2017, .mp (H3 Value.string tB v12.2))]) (fun _ _ => rfl) (sm [(2013, 2008), (2014, 2009), (2015, 2012)] _ _ rfl rfl) (fun j11 n11 v11 h => ?_) (fun v12 s h hs => ?_)
     ·unfold Et at h
      refine Ab (Aa Ac rfl (AY rfl (Ad (Ab ?_))))
      refine Ao rfl (fun c13 => ?_) (fun c13 => ?_)
      ·have h := Am c13 h
       refine Ar ?_
       refine AP h (fun v14 => mk [(1, .e (.one (.ptr 1 0))), (7, .e (.one (.own 2018))), (8, .e (.one (.mref 2019))), (9, .e (.one (.pure (.val (.int .i64 v6.2.2))))), (48, .e (.one (.own 2020))), (49, .e (.one (.pure (.val (.int .i64 ((v10.2.length : Int))))))), (50, .e (.one (.pure (.val (.int .i64 v11.2.2)))))] [(1, .box [.pure (.sl (p0.fVersions.map Ai)), .pure (.sl (p0.fNow.map Ai)), .pure (.sl (p0.fTarget.map Ai)), .pure (.sl (p0.fTables.map Aq))]), (2018, .vec 3 (v14.1.map Af)), (2019, .mp (H3 Value.string tB v14.2)), (2020, .vec 3 (v10.2.map Af))]) (fun j14 h => ?_) (fun v14 h => ?_)
       ·refine AN (Ab (Aa Ac rfl ?_))
        obtain ⟨v15, a15, b15, h⟩ := Aj h
        refine qI AL Av a15 (Ag b15) rfl (qJ AV Av (Ag b15) rfl (qz Ct rfl (qs Av rfl (Ad (Ab (Aa Ac rfl (qm rfl (qL AV Av rfl ?_))))))))
        obtain ⟨v16, a16, h⟩ := bind_some h
        refine AD [] (I0 N v15 v16 a16) Sb rfl ?_
        refine Qi (kv := Value.string) (vt := tB) (m := v11.2.1) (dv := false) (.p rfl) rfl rfl rfl (Ko OS SJ) (by rw [OS]; rfl) Q7 rfl rfl rfl ?_
        refine Cu rfl (Ad ?_)
        refine Ao rfl (fun c17 => ?_) (fun c17 => ?_)
        ·have h := Am c17 h
         refine Ab (Aa Ac rfl (qm rfl (qL AV Av rfl ?_)))
         obtain ⟨v18, a18, h⟩ := bind_some h
         refine AD [] (I0 N v15 v18 a18) Sb rfl ?_
         refine Ny (kv := Value.string) (vt := tB) (m := v11.2.1) (k := v18) (v := true) rfl (.inl rfl) rfl rfl rfl rfl (Ko OS SJ) rfl ?_
         refine Ad (Aa Ac rfl (qm rfl (qL AV Av rfl (D4 AL Av Ct rfl ?_))))
         obtain ⟨c19, h⟩ := AK h
         refine Dx (f := Af) AL AL Av Mq Ct c19 rfl (qa rfl (Ad ?_))
         exact Au _ h (sm [(2018, 65), (2019, 2014), (2020, 2015)] _ _ rfl rfl)
        ·have h := Al c17 h
         refine Ar ?_
         exact Au _ h (sm [(2018, 2013), (2019, 2014), (2020, 2015)] _ _ rfl rfl)
       ·refine Aa Ac rfl (AU rfl (qm rfl (Ad ?_)))
        exact Au _ h (sm [(2013, 2018), (2014, 2019), (2015, 2020)] _ _ rfl rfl)
      ·have h := Al c13 h
       refine AW ?_
       exact Au _ h (sm [(2016, 2013), (2017, 2014)] _ _ rfl rfl)
     ·refine Ak hs (Ab (Aa Ac rfl (qm rfl (DZ AL rfl (Ew rfl (Ad ?_))))))
      refine Ao rfl (fun c20 => ?_) (fun c20 => ?_)
      ·have h := Am c20 h
       refine Ab (Aa Ac rfl (qa rfl (qa rfl (Ad ?_))))
       obtain rfl := sj h
       refine Ak ((Bo 2 2021 3 rfl rfl rfl).trans (sm [(1000, 2021)] [(2, .e (.one (.own 1000))), (3, .e (.one (.pure (.val (.int .i64 3)))))] [(1000, .vec 3 ((([] : List Ae)).map Af))] rfl rfl)) (Ax ?_)
       exact ⟨⟨[_, _], ⟨.tmp _ _ rfl, ⟨.tmp _ _ rfl, trivial⟩⟩, rfl⟩, ⟨rfl, trivial⟩⟩
      ·have h := Al c20 h
       refine Ar (Aa Ac rfl (qm rfl (AU rfl (qa rfl (Ad ?_)))))
       exact Au _ h (sm [(2008, 2016), (2009, 2017)] _ _ rfl rfl)
    ·have h := Al c8 h
     refine AW ?_
     exact Au _ h (sm [(2010, 2008)] _ _ rfl rfl)
   ·refine Ak hs (Ab (Aa Ac rfl (qm rfl ?_)))
    obtain ⟨v21, a21, h⟩ := bind_some h
    refine CM (ds0 := [_, _]) [2010] [] [true] (Bv.weak (ds' := [_, .e (.one (.fnc 39))]) (Ed N v7 ((fun (x : Ae × Ae) => D8 N x.1 x.2)) v21 a21) ⟨(fun _ _ _ hh => hh), (fun _ _ _ hh => K5 SB (fun ar t ht => by obtain ⟨x, r, rfl, hq, rfl⟩ := Ib ht; exact HS N x.1 x.2 r hq) hh), trivial⟩) (.p rfl) TE rfl ⟨rfl, rfl, trivial⟩ rfl rfl (by decide) ⟨rfl, trivial⟩ rfl (A9 rfl) trivial ⟨(fun h => by cases h), trivial⟩ rfl rfl rfl ?_
    refine Ad (Ab (Aa Ac rfl (qm rfl (qa rfl (qa rfl (Ad ?_))))))
    obtain rfl := sj h
    refine Ak (sm [(1000, 2010)] [(2, .e (.one (.own 1000))), (3, .e (.one (.pure (.val (.int .i64 0)))))] [(1000, .vec 3 (v21.map Af))] rfl rfl) (Ax ?_)
    exact ⟨⟨[_, _], ⟨.tmp _ _ rfl, ⟨.tmp _ _ rfl, trivial⟩⟩, rfl⟩, ⟨rfl, trivial⟩⟩
set_option maxRecDepth 10000 in
theorem MG (N : Nat) (p0 : Ah) (p1 : List Int) (r : (List Ap) × Int) (h : HV N p0 p1 = some r) : Az Tryz.prog 20 [.e (.agg [.pure (.sl (p0.fVersions.map Ai)), .pure (.sl (p0.fNow.map Ai)), .pure (.sl (p0.fTarget.map Ai)), .pure (.sl (p0.fTables.map Aq))]), .e (.one (.pure (.sl (p1.map Bk))))] [(3, r.1.map AF)] (.tup [.one (.own 0), .one (.pure (.val (.int .i64 r.2)))]) := by
 unfold HV at h
 refine As (n := 61) (rs := [.tmp 4, .tmp 5]) Tryz.func20 rfl rfl rfl (A1 rfl) (A1 rfl) rfl fun w0 S0 => ?_
 refine Ab (Aa Ac rfl (qb rfl (qa rfl (qa rfl (Ad (Ab (Aa Ac rfl (qL DY DI rfl ?_))))))))
 obtain ⟨v1, a1, h⟩ := bind_some h
 refine AD [2001, 2002, 2003] (Jg N p0 v1 a1) SV rfl (qm rfl (qx rfl (qx rfl (qx rfl (qz Ct rfl (qs Av rfl (qa rfl (qa rfl (Ad (Ab ?_))))))))))
 refine AP h (fun v2 => mk [(1, .e (.one (.pure (.sl (p1.map Bk))))), (2, .e (.one (.ptr 2 0))), (6, .e (.one (.ptr 6 0))), (8, .e (.one (.pure (.val (.int .i64 v1.2.2))))), (26, .e (.one (.pure (.val (.bool v2)))))] [(2, .box [.pure (.sl (p0.fVersions.map Ai)), .pure (.sl (p0.fNow.map Ai)), .pure (.sl (p0.fTarget.map Ai)), .pure (.sl (p0.fTables.map Aq))]), (6, .box [.own 2004, .own 2005, .own 2006]), (2004, .vec 1 (v1.1.fBase.map Ai)), (2005, .vec 1 (v1.1.fNext.map Ai)), (2006, .vec 1 (v1.1.fHeld.map Bk))]) (fun j2 h => ?_) (fun v2 h => ?_)
 ·refine Aa Ac rfl (qm rfl (BX rfl (qm rfl ?_)))
  refine AB (t := 23) rfl (fun c3 => ?_) (fun c3 => ?_)
  ·have h := Am c3 h
   refine qn rfl (qn rfl (qp rfl (Ad ?_)))
   exact Au _ h (sm [(2004, 2001), (2005, 2002), (2006, 2003)] _ _ rfl rfl)
  ·have h := Al c3 h
   refine qm rfl (Cu rfl (qp rfl (Ad ?_)))
   exact Au _ h (sm [(2004, 2001), (2005, 2002), (2006, 2003)] _ _ rfl rfl)
 ·refine Ao rfl (fun c4 => ?_) (fun c4 => ?_)
  ·have h := Am c4 h
   refine Ab (Aa Ac rfl (qm rfl (qa rfl (qa rfl (Ad ?_)))))
   obtain rfl := sj h
   refine Ak ((Bo 4 2007 3 rfl rfl rfl).trans (sm [(1000, 2007)] [(4, .e (.one (.own 1000))), (5, .e (.one (.pure (.val (.int .i64 v1.2.2)))))] [(1000, .vec 3 ((([] : List Ap)).map AF))] rfl rfl)) (Ax ?_)
   exact ⟨⟨[_, _], ⟨.tmp _ _ rfl, ⟨.tmp _ _ rfl, trivial⟩⟩, rfl⟩, ⟨rfl, trivial⟩⟩
  ·have h := Al c4 h
   refine Ar (Ab (Aa Ac rfl (qa rfl (Ad (Ab (Ab (Aa Ac rfl (qm rfl (AR HM rfl (qm rfl (Ad ?_)))))))))))
   refine AJ (L := Fy N p0 p1) h (fun v5 => mk [(2, .e (.one (.ptr 2 0))), (6, .e (.one (.ptr 6 0))), (9, .e (.one (.own 2008))), (28, .e (.one (.pure (.sl (p1.map Bk))))), (29, .e (.one (.pure (.val (.int .i64 ((p1.length : Int))))))), (30, .e (.one (.pure (.val (.int .i64 v5.2.2.2.2)))))] [(2, .box [.pure (.sl (p0.fVersions.map Ai)), .pure (.sl (p0.fNow.map Ai)), .pure (.sl (p0.fTarget.map Ai)), .pure (.sl (p0.fTables.map Aq))]), (6, .box [.pure (.sl (v5.1.map Ai)), .pure (.sl (v5.2.1.map Ai)), .pure (.sl (v5.2.2.1.map Bk))]), (2008, .vec 3 (v5.2.2.2.1.map AF))]) (fun v6 => mk [(9, .e (.one (.own 2009)))] [(2009, .vec 3 (v6.map AF))]) (fun _ _ => rfl) ((Bo 9 2012 3 rfl rfl rfl).trans ((AZ 2004 _ _ rfl rfl).trans ((AZ 2005 _ _ rfl rfl).trans ((AZ 2006 _ _ rfl rfl).trans (sm [(2008, 2012)] _ _ rfl rfl))))) (fun j5 n5 v5 h => ?_) (fun v6 s h hs => ?_)
   ·unfold Fy at h
    refine Ab (Aa Ac rfl (AY rfl (Ad (Ab ?_))))
    refine Ao rfl (fun c7 => ?_) (fun c7 => ?_)
    ·have h := Am c7 h
     refine Ar (Ab (AN (Ab (Aa Ac rfl ?_))))
     obtain ⟨v8, a8, b8, h⟩ := Aj h
     refine qi HM RM a8 (Ag b8) rfl (qk SM rfl (qa rfl (Ad (Ab (Aa Ac rfl (qL DY DI rfl (qL AV Av rfl ?_)))))))
     obtain ⟨v9, a9, h⟩ := bind_some h
     refine AD [2010, 2011] (JY N p0 ((Ae.mk v5.1 v5.2.1 v5.2.2.1)) v9 a9) SY rfl (qm rfl (qx rfl (qx rfl (qa rfl (qa rfl (Ad (Ab (Ab (Aa Ac rfl (qm rfl (DZ Db rfl (BA rfl (Ad ?_)))))))))))))
     refine Ao rfl (fun c10 => ?_) (fun c10 => ?_)
     ·have h := Am c10 h
      refine AW ?_
      exact Au _ h (sm [(2009, 2008)] _ _ rfl rfl)
     ·have h := Al c10 h
      refine Ar (Ab (Aa Ac rfl (qm rfl (F8 Rw Pu rfl (qm rfl (DZ Db rfl ?_))))))
      obtain ⟨c11, h⟩ := AK h
      refine J7 rfl c11 (qa rfl (Ad (Aa Ac rfl (qm rfl (qm rfl (qm rfl ?_))))))
      obtain ⟨v12, a12, b12, h⟩ := Aj h
      refine qI Db Ee a12 (Ag b12) rfl (qJ Iq Ee (Ag b12) rfl (D4 Db Ee HW rfl ?_))
      obtain ⟨c13, h⟩ := AK h
      refine Dx (f := AF) Db Db Ee MD HW c13 rfl (qm rfl (qm rfl ?_))
      obtain ⟨v14, a14, b14, h⟩ := Aj h
      refine qI AL Av a14 (Ag b14) rfl (qJ AV Av (Ag b14) rfl (qa rfl (qs Av rfl (AI (by kernel_rfl) (Aa Ac rfl (AU rfl (qm rfl (Ad ?_))))))))
      exact Au _ h (sm [(2008, 54)] _ _ rfl rfl)
    ·have h := Al c7 h
     refine AW ?_
     exact Au _ h (sm [(2009, 2008)] _ _ rfl rfl)
   ·refine Ak hs (Ab (Aa Ac rfl (qm rfl (qa rfl (qa rfl (Ad ?_))))))
    obtain rfl := sj h
    refine Ak (sm [(1000, 2009)] [(4, .e (.one (.own 1000))), (5, .e (.one (.pure (.val (.int .i64 0)))))] [(1000, .vec 3 (v6.map AF))] rfl rfl) (Ax ?_)
    exact ⟨⟨[_, _], ⟨.tmp _ _ rfl, ⟨.tmp _ _ rfl, trivial⟩⟩, rfl⟩, ⟨rfl, trivial⟩⟩
set_option maxRecDepth 10000 in
theorem Og (N : Nat) (p0 : Ah) (p1 : Ae) (p2 : List Ap) (r : (List Ae) × Int × Int) (h : GY N p0 p1 p2 = some r) : Az Tryz.prog 56 [.e (.agg [.pure (.sl (p0.fVersions.map Ai)), .pure (.sl (p0.fNow.map Ai)), .pure (.sl (p0.fTarget.map Ai)), .pure (.sl (p0.fTables.map Aq))]), .e (.agg [.pure (.sl (p1.fBase.map Ai)), .pure (.sl (p1.fNext.map Ai)), .pure (.sl (p1.fHeld.map Bk))]), .e (.one (.pure (.sl (p2.map AF))))] [(3, r.1.map Af)] (.tup [.one (.own 0), .one (.pure (.val (.int .i64 r.2.1))), .one (.pure (.val (.int .i64 r.2.2)))]) := by
 unfold GY at h
 refine As (n := 53) (rs := [.tmp 6, .tmp 7, .tmp 8]) Tryz.func56 rfl rfl rfl (A1 rfl) (A1 rfl) rfl fun w0 S0 => ?_
 refine Ab (Aa Ac rfl (qb rfl (qb rfl (qa rfl (qa rfl (qa rfl (Ad (Ab (Ab (Aa Ac rfl (qL DY DI rfl (qL AV Av rfl ?_))))))))))))
 obtain ⟨v1, a1, h⟩ := bind_some h
 refine AD [] (HL N p0 p1 v1 a1) Rr rfl (qa rfl (Ad (Ab (Aa Ac rfl (qm rfl (BX rfl (Ad ?_)))))))
 refine Ao rfl (fun c2 => ?_) (fun c2 => ?_)
 ·have h := Am c2 h
  refine Ab (Aa Ac rfl (qm rfl (qa rfl (qa rfl (qa rfl (Ad ?_))))))
  obtain rfl := sj h
  refine Ak ((Bo 6 2001 3 rfl rfl rfl).trans (sm [(1000, 2001)] [(6, .e (.one (.own 1000))), (7, .e (.one (.pure (.val (.int .i64 0))))), (8, .e (.one (.pure (.val (.int .i64 v1)))))] [(1000, .vec 3 ((([] : List Ae)).map Af))] rfl rfl)) (Ax ?_)
  exact ⟨⟨[_, _, _], ⟨.tmp _ _ rfl, ⟨.tmp _ _ rfl, ⟨.tmp _ _ rfl, trivial⟩⟩⟩, rfl⟩, ⟨rfl, trivial⟩⟩
 ·have h := Al c2 h
  refine Ar (Ab (Aa Ac rfl (qL AV Av rfl ?_)))
  obtain ⟨v3, a3, h⟩ := bind_some h
  refine AD [2002, 2003, 2004] (Jf N p1 v3 a3) TS rfl (CQ (AZ 2002 _ _ rfl rfl) (CQ (AZ 2003 _ _ rfl rfl) (CQ (AZ 2004 _ _ rfl rfl) (D4 AL Av Ct rfl (qa rfl (Ad (Ab (Ab (Aa Ac rfl (qm rfl (AR Db rfl (qm rfl (Ad ?_)))))))))))))
  refine AJ (L := EA N p0 p2) h (fun v4 => mk [(2, .e (.one (.pure (.sl (p2.map AF))))), (3, .e (.one (.ptr 3 0))), (10, .e (.one (.own 2005))), (24, .e (.one (.pure (.sl (p2.map AF))))), (25, .e (.one (.pure (.val (.int .i64 ((p2.length : Int))))))), (26, .e (.one (.pure (.val (.int .i64 v4.2)))))] [(3, .box [.pure (.sl (p0.fVersions.map Ai)), .pure (.sl (p0.fNow.map Ai)), .pure (.sl (p0.fTarget.map Ai)), .pure (.sl (p0.fTables.map Aq))]), (2005, .vec 3 (v4.1.map Af))]) (fun v5 => mk [(2, .e (.one (.pure (.sl (p2.map AF))))), (10, .e (.one (.own 2006)))] [(2006, .vec 3 (v5.map Af))]) (fun _ _ => rfl) (sm [(2005, 23)] _ _ rfl rfl) (fun j4 n4 v4 h => ?_) (fun v5 s h hs => ?_)
  ·unfold EA at h
   refine Ab (Aa Ac rfl (AY rfl (Ad (Ab ?_))))
   refine Ao rfl (fun c6 => ?_) (fun c6 => ?_)
   ·have h := Am c6 h
    refine Ar (Ab (AN (Ab (Aa Ac rfl (qm rfl ?_)))))
    obtain ⟨v7, a7, b7, h⟩ := Aj h
    refine qi Db Ee a7 (Ag b7) rfl (qK Iq Ee rfl (qz HW rfl (qa rfl (qs Ee rfl (Ad (Ab (Aa Ac rfl (qL DY DI rfl (qm rfl (qm rfl ?_))))))))))
    obtain ⟨v8, a8, b8, h⟩ := Aj h
    refine qI AL Av a8 (Ag b8) rfl (qJ AV Av (Ag b8) rfl (qL Iq Ee rfl ?_))
    obtain ⟨v9, a9, h⟩ := bind_some h
    refine AD [2007, 2008, 2009] (JW N p0 v8 v7 v9 a9) TP rfl (qm rfl (qx rfl (qx rfl (qz Ct rfl (qs Av rfl (qa rfl (AI (by kernel_rfl) (Ab (Ab (Aa Ac rfl (qm rfl (BX rfl (Ad ?_)))))))))))))
    refine Ao rfl (fun c10 => ?_) (fun c10 => ?_)
    ·have h := Am c10 h
     refine Ab (Aa Ac rfl (qm rfl (qm rfl (qa rfl (qa rfl (qa rfl (Ad ?_)))))))
     obtain rfl := sj h
     refine Ak ((Bo 6 2010 3 rfl rfl rfl).trans (sm [(1000, 2010)] [(6, .e (.one (.own 1000))), (7, .e (.one (.pure (.val (.int .i64 v4.2))))), (8, .e (.one (.pure (.val (.int .i64 v9.2)))))] [(1000, .vec 3 ((([] : List Ae)).map Af))] rfl rfl)) (Ax ?_)
     exact ⟨⟨[_, _, _], ⟨.tmp _ _ rfl, ⟨.tmp _ _ rfl, ⟨.tmp _ _ rfl, trivial⟩⟩⟩, rfl⟩, ⟨rfl, trivial⟩⟩
    ·have h := Al c10 h
     refine Ar (Aa Ac rfl (qm rfl (qL AV Av rfl (CQ (AZ 2007 _ _ rfl rfl) (CQ (AZ 2008 _ _ rfl rfl) (CQ (AZ 2009 _ _ rfl rfl) (D4 AL Av Ct rfl ?_)))))))
     obtain ⟨c11, h⟩ := AK h
     refine Dx (f := Af) AL AL Av Mq Ct c11 rfl (qa rfl (Ad (Aa Ac rfl (AU rfl (qm rfl (Ad ?_))))))
     exact Au _ h (sm [(2005, 48)] _ _ rfl rfl)
   ·have h := Al c6 h
    refine AW ?_
    exact Au _ h (sm [(2006, 2005)] _ _ rfl rfl)
  ·refine Ak hs (Ab (Aa Ac rfl (qm rfl (qm rfl (AR Db rfl (qa rfl (qa rfl (qa rfl (Ad ?_)))))))))
   obtain rfl := sj h
   refine Ak (sm [(1000, 2006)] [(6, .e (.one (.own 1000))), (7, .e (.one (.pure (.val (.int .i64 ((p2.length : Int))))))), (8, .e (.one (.pure (.val (.int .i64 0)))))] [(1000, .vec 3 (v5.map Af))] rfl rfl) (Ax ?_)
   exact ⟨⟨[_, _, _], ⟨.tmp _ _ rfl, ⟨.tmp _ _ rfl, ⟨.tmp _ _ rfl, trivial⟩⟩⟩, rfl⟩, ⟨rfl, trivial⟩⟩
set_option maxRecDepth 10000 in
theorem IK (N : Nat) (p0 : Ah) (p1 : List Ap) (r : (List Ae) × Int × Int) (h : EN N p0 p1 = some r) : Az Tryz.prog 36 [.e (.agg [.pure (.sl (p0.fVersions.map Ai)), .pure (.sl (p0.fNow.map Ai)), .pure (.sl (p0.fTarget.map Ai)), .pure (.sl (p0.fTables.map Aq))]), .e (.one (.pure (.sl (p1.map AF))))] [(3, r.1.map Af)] (.tup [.one (.own 0), .one (.pure (.val (.int .i64 r.2.1))), .one (.pure (.val (.int .i64 r.2.2)))]) := by
 unfold EN at h
 refine As (n := 24) (rs := [.tmp 4, .tmp 5, .tmp 6]) Tryz.func36 rfl rfl rfl (A1 rfl) (A1 rfl) rfl fun w0 S0 => ?_
 refine Ab (Aa Ac rfl (qb rfl (qa rfl (qa rfl (qa rfl (Ad (Ab (Aa Ac rfl (qL DY DI rfl ?_)))))))))
 obtain ⟨v1, a1, h⟩ := bind_some h
 refine AD [2001, 2002, 2003] (KI N p0 v1 a1) TU rfl (qm rfl (qx rfl (qx rfl (qz Ct rfl (qs Av rfl (qa rfl (Ad (Ab (Ab (Aa Ac rfl (qm rfl (BX rfl (Ad ?_)))))))))))))
 refine Ao rfl (fun c2 => ?_) (fun c2 => ?_)
 ·have h := Am c2 h
  refine Ab (Aa Ac rfl (qm rfl (qa rfl (qa rfl (qa rfl (Ad ?_))))))
  obtain rfl := sj h
  refine Ak ((Bo 4 2004 3 rfl rfl rfl).trans (sm [(1000, 2004)] [(4, .e (.one (.own 1000))), (5, .e (.one (.pure (.val (.int .i64 0))))), (6, .e (.one (.pure (.val (.int .i64 v1.2)))))] [(1000, .vec 3 ((([] : List Ae)).map Af))] rfl rfl)) (Ax ?_)
  exact ⟨⟨[_, _, _], ⟨.tmp _ _ rfl, ⟨.tmp _ _ rfl, ⟨.tmp _ _ rfl, trivial⟩⟩⟩, rfl⟩, ⟨rfl, trivial⟩⟩
 ·have h := Al c2 h
  refine Ar (Ab (Aa Ac rfl (qL DY DI rfl (qL AV Av rfl (qm rfl (CQ (AZ 2001 _ _ rfl rfl) (CQ (AZ 2002 _ _ rfl rfl) (CQ (AZ 2003 _ _ rfl rfl) ?_))))))))
  obtain ⟨v3, a3, h⟩ := bind_some h
  refine AD [2005] (Og N p0 v1.1 p1 v3 a3) Uk rfl (qx rfl (qx rfl (qx rfl (qa rfl (qa rfl (qa rfl (Ad ?_)))))))
  obtain rfl := sj h
  refine Ak (sm [(1000, 2005)] [(4, .e (.one (.own 1000))), (5, .e (.one (.pure (.val (.int .i64 v3.2.1))))), (6, .e (.one (.pure (.val (.int .i64 v3.2.2)))))] [(1000, .vec 3 (v3.1.map Af))] rfl rfl) (Ax ?_)
  exact ⟨⟨[_, _, _], ⟨.tmp _ _ rfl, ⟨.tmp _ _ rfl, ⟨.tmp _ _ rfl, trivial⟩⟩⟩, rfl⟩, ⟨rfl, trivial⟩⟩
set_option maxRecDepth 10000 in
theorem FB (N : Nat) (p0 : List Ae) (p1 : (Ae × Ae) → Option Bool) (r : Nat × (List Ae)) (h : CL N p0 p1 = some r) : Bv Tryz.prog 40 [.e (.one (.own 90000)), .e (.one (.clo (BJ (DU true Af true Af) tB p1)))] [(.vec 3 (p0.map Af), .vec 3 (r.2.map Af))] [] (.e (.one (.view 90000 3 0 r.1))) := by
 unfold CL at h
 refine Bn (n := 66) (rs := [.tmp 4]) Tryz.func40 rfl rfl rfl (A1 rfl) (A1 rfl) rfl rfl (A1 rfl) rfl (A1 rfl) fun w0 S0 GL => ?_
 refine Ak (sm [] [(0, .e (.one (.own 90000))), (1, .e (.one (.clo (BJ (DU true Af true Af) tB p1))))] [(90000, .vec 3 (p0.map Af))] rfl rfl) (Ab (Aa Ac rfl (qa rfl (Ad (Ab (Ab (Aa Ac rfl (qm rfl (DZ AL rfl (AY rfl (Ad ?_)))))))))))
 refine Ao rfl (fun c1 => ?_) (fun c1 => ?_)
 ·have h := Am c1 h
  refine Ab (Aa Ac rfl (qm rfl (qa rfl (Ad ?_))))
  obtain rfl := sj h
  refine Ak ((Na Af p0 4 90000 3 rfl rfl).trans (sm [] [(4, .e (.one (.view 90000 3 0 p0.length)))] [(90000, .vec 3 (p0.map Af))] rfl rfl)) (Ax ?_)
  exact ⟨⟨[_], ⟨.tmp _ _ rfl, trivial⟩, rfl⟩, ⟨rfl, trivial⟩, trivial⟩
 ·have h := Al c1 h
  refine Ar (Ab (Ab (Aa Ac rfl (qa rfl (Ad ?_)))))
  refine AJ (L := BP N p0 p1) h (fun v2 => mk [(0, .e (.one (.own 90000))), (1, .e (.one (.clo (BJ (DU true Af true Af) tB p1)))), (5, .e (.one (.pure (.val (.int .i64 v2)))))] [(90000, .vec 3 (p0.map Af))]) (fun v3 => mk [(0, .e (.one (.own 90000)))] [(90000, .vec 3 (p0.map Af))]) (fun _ _ => rfl) (sm [] _ _ rfl rfl) (fun j2 n2 v2 h => ?_) (fun v3 s h hs => ?_)
  ·unfold BP at h
   refine Ab (Ab (Aa Ac rfl (qm rfl (qm rfl (DZ AL rfl (AY rfl (Ad ?_)))))))
   refine Ao rfl (fun c4 => ?_) (fun c4 => ?_)
   ·have h := Am c4 h
    refine Ar (Ab (AN (Ab (Aa Ac rfl (qm rfl (qm rfl (qm rfl ?_)))))))
    obtain ⟨v5, a5, b5, h⟩ := Aj h
    refine qI AL Av a5 (Ag b5) rfl (qJ AV Av (Ag b5) rfl (qm rfl (qm rfl (Cs rfl ?_))))
    obtain ⟨v6, a6, b6, h⟩ := Aj h
    refine qI AL Av a6 (Ag b6) rfl (qJ AV Av (Ag b6) rfl ?_)
    obtain ⟨v7, a7, h⟩ := bind_some h
    refine DW (ds0 := [_, _]) (ar := (DU true Af true Af) ((v5, v6))) (.p rfl) rfl rfl ⟨rfl, rfl, trivial⟩ rfl rfl rfl (DV (Es _ _ _ _ Bh Bh) a7) ?_
    refine AI (by kernel_rfl) ?_
    refine Ao rfl (fun c8 => ?_) (fun c8 => ?_)
    ·have h := Am c8 h
     refine Ab (Aa Ac rfl (qm rfl (qm rfl ?_)))
     obtain ⟨c9, h⟩ := AK h
     have w10 : ((v2).toNat) + ((p0.length - (v2).toNat)) ≤ p0.length := by have := c9.2.1; have := c9.2.2; omega
     refine Hx Af p0 (.p rfl) rfl (GU Af _ _ p0) rfl AL Av (.some _ _ _ _ c9.1) (.none _) ⟨rfl, trivial⟩ trivial c9.2.1 (by rw [Nat.zero_add]; exact c9.2.2) (Nat.zero_add _) rfl ?_
     refine qa rfl (Ad (Ab (Ab (Aa Ac rfl (qa rfl (Ad ?_))))))
     refine AJ (L := BN N p0 p1 v2) h (fun v11 => mk [(0, .e (.one (.own 90000))), (1, .e (.one (.clo (BJ (DU true Af true Af) tB p1)))), (5, .e (.one (.pure (.val (.int .i64 v11.2.1))))), (6, .e (.one (.view 90000 3 ((v2).toNat) ((p0.length - (v2).toNat))))), (7, .e (.one (.pure (.val (.int .i64 v11.2.2)))))] [(90000, .vec 3 (v11.1.map Af))]) (fun v12 => mk [(0, .e (.one (.own 90000))), (5, .e (.one (.pure (.val (.int .i64 v12.2)))))] [(90000, .vec 3 (v12.1.map Af))]) (fun _ _ => rfl) (sm [] _ _ rfl rfl) (fun j11 n11 v11 h => ?_) (fun v12 s h hs => ?_)
     ·unfold BN at h
      refine Ab (Ab (Aa Ac rfl (qm rfl (qm rfl ?_))))
      refine Q6 (.p rfl) rfl AL ?_
      refine AY rfl (Ad ?_)
      refine Ao rfl (fun c13 => ?_) (fun c13 => ?_)
      ·have h := Am c13 h
       refine Ar ?_
       refine AP h (fun v14 => mk [(0, .e (.one (.own 90000))), (1, .e (.one (.clo (BJ (DU true Af true Af) tB p1)))), (5, .e (.one (.pure (.val (.int .i64 v14.2))))), (6, .e (.one (.view 90000 3 ((v2).toNat) ((p0.length - (v2).toNat))))), (7, .e (.one (.pure (.val (.int .i64 v11.2.2)))))] [(90000, .vec 3 (v14.1.map Af))]) (fun j14 h => ?_) (fun v14 h => ?_)
       ·refine AN (Ab (Aa Ac rfl (qm rfl (qm rfl (qm rfl ?_)))))
        obtain ⟨c16, h⟩ := AK h
        obtain ⟨v15, a15, b15, h⟩ := Aj h
        refine Kw Af v11.1 (.p rfl) rfl c16 rfl rfl AL Av a15 (Ih b15).1 rfl ?_
        refine J8 (.p rfl) rfl AV Av rfl (Ag (Ih b15).2) ?_
        refine qm rfl (qm rfl (Cs rfl ?_))
        obtain ⟨v17, a17, b17, h⟩ := Aj h
        refine Kw Af v11.1 (.p rfl) rfl c16 rfl rfl AL Av a17 (Ih b17).1 rfl ?_
        refine J8 (.p rfl) rfl AV Av rfl (Ag (Ih b17).2) ?_
        obtain ⟨v18, a18, h⟩ := bind_some h
        refine DW (ds0 := [_, _]) (ar := (DU true Af true Af) ((v15, v17))) (.p rfl) rfl rfl ⟨rfl, rfl, trivial⟩ rfl rfl rfl (DV (Es _ _ _ _ Bh Bh) a18) ?_
        refine Cu rfl (AI (by kernel_rfl) ?_)
        refine Ao rfl (fun c19 => ?_) (fun c19 => ?_)
        ·have h := Am c19 h
         refine Ab (Aa Ac rfl (qm rfl (qm rfl (qm rfl (qm rfl ?_)))))
         obtain ⟨v20, a20, b20, h⟩ := Aj h
         refine Kw Af v11.1 (.p rfl) rfl c16 rfl rfl AL Av a20 (Ih b20).1 rfl ?_
         refine J8 (.p rfl) rfl AV Av rfl (Ag (Ih b20).2) ?_
         obtain ⟨v21, a21, b21, h⟩ := Aj h
         refine qI AL Av a21 (Ag b21) rfl ?_
         refine A2 rfl rfl rfl rfl (Ag b21) rfl Av rfl (A1 rfl) (A3 Af v11.1 _ v20) ?_
         refine Ad (Aa Ac rfl (qm rfl (AU rfl (qa rfl (Ad ?_)))))
         exact Au _ h (sm [] _ _ rfl rfl)
        ·have h := Al c19 h
         refine Ar ?_
         exact Au _ h (sm [] _ _ rfl rfl)
       ·refine Aa Ac rfl (qm rfl (AU rfl (qa rfl (Ad ?_))))
        exact Au _ h (sm [] _ _ rfl rfl)
      ·have h := Al c13 h
       refine AW ?_
       exact Au _ h (sm [] _ _ rfl rfl)
     ·refine Ak hs (Ab (Aa Ac rfl (qm rfl (qm rfl ?_))))
      obtain ⟨c22, h⟩ := AK h
      have w23 : ((v12.2).toNat) + ((v12.1.length - (v12.2).toNat)) ≤ v12.1.length := by have := c22.2.1; have := c22.2.2; omega
      refine Hx Af v12.1 (.p rfl) rfl (GU Af _ _ v12.1) rfl AL Av (.some _ _ _ _ c22.1) (.none _) ⟨rfl, trivial⟩ trivial c22.2.1 (by rw [Nat.zero_add]; exact c22.2.2) (Nat.zero_add _) rfl ?_
      have w24 : (H1 v12.1 ((v12.2).toNat) (List.replicate ((v12.1.length - (v12.2).toNat)) ((Ae.mk (([] : List Int)) (([] : List Int)) (([] : List Int)))))).length = v12.1.length := Ir (by rw [List.length_replicate]; exact w23)
      refine N1 Af v12.1 ((Ae.mk (([] : List Int)) (([] : List Int)) (([] : List Int)))) rfl rfl (Ks Af _ _ ((v12.2).toNat) ((v12.1.length - (v12.2).toNat)) v12.1 w23) rfl AL Ct rfl rfl rfl rfl ?_
      refine Ad (Ab (Aa Ac rfl (qm rfl (qm rfl ?_))))
      obtain ⟨c25, h⟩ := AK h
      have w26 : 0 + ((v12.2).toNat) ≤ (H1 v12.1 ((v12.2).toNat) (List.replicate ((v12.1.length - (v12.2).toNat)) ((Ae.mk (([] : List Int)) (([] : List Int)) (([] : List Int)))))).length := by have := c25.2.1; have := c25.2.2; omega
      refine Hx Af (H1 v12.1 ((v12.2).toNat) (List.replicate ((v12.1.length - (v12.2).toNat)) ((Ae.mk (([] : List Int)) (([] : List Int)) (([] : List Int)))))) (.p rfl) rfl (GU Af _ _ (H1 v12.1 ((v12.2).toNat) (List.replicate ((v12.1.length - (v12.2).toNat)) ((Ae.mk (([] : List Int)) (([] : List Int)) (([] : List Int))))))) rfl AL Av (.none _) (.some _ _ _ _ c25.1) trivial ⟨rfl, trivial⟩ c25.2.1 (by rw [Nat.zero_add]; exact c25.2.2) (Nat.zero_add _) rfl ?_
      refine qa rfl (Ad ?_)
      obtain rfl := sj h
      refine Ak (sm [] [(4, .e (.one (.view 90000 3 0 ((v12.2).toNat))))] [(90000, .vec 3 ((H1 v12.1 ((v12.2).toNat) (List.replicate ((v12.1.length - (v12.2).toNat)) ((Ae.mk (([] : List Int)) (([] : List Int)) (([] : List Int)))))).map Af))] rfl rfl) (Ax ?_)
      exact ⟨⟨[_], ⟨.tmp _ _ rfl, trivial⟩, rfl⟩, ⟨rfl, trivial⟩, trivial⟩
    ·have h := Al c8 h
     refine Ar (Aa Ac rfl (qm rfl (AU rfl (qa rfl (Ad ?_)))))
     exact Au _ h (sm [] _ _ rfl rfl)
   ·have h := Al c4 h
    refine AW ?_
    exact Au _ h (sm [] _ _ rfl rfl)
  ·refine Ak hs (Ab (Aa Ac rfl (qm rfl (qa rfl (Ad ?_)))))
   obtain rfl := sj h
   refine Ak ((Na Af p0 4 90000 3 rfl rfl).trans (sm [] [(4, .e (.one (.view 90000 3 0 p0.length)))] [(90000, .vec 3 (p0.map Af))] rfl rfl)) (Ax ?_)
   exact ⟨⟨[_], ⟨.tmp _ _ rfl, trivial⟩, rfl⟩, ⟨rfl, trivial⟩, trivial⟩
set_option maxRecDepth 10000 in
theorem KU (N : Nat) (p0 : Ae) (p1 : Ae) (r : Bool) (h : Fw N p0 p1 = some r) : Az Tryz.prog 41 [.e (.agg [.pure (.sl (p0.fBase.map Ai)), .pure (.sl (p0.fNext.map Ai)), .pure (.sl (p0.fHeld.map Bk))]), .e (.agg [.pure (.sl (p1.fBase.map Ai)), .pure (.sl (p1.fNext.map Ai)), .pure (.sl (p1.fHeld.map Bk))])] [] (.e (.one (.pure (.val (.bool r))))) := by
 unfold Fw at h
 refine As (n := 9) (rs := [.tmp 4]) Tryz.func41 rfl rfl rfl (A1 rfl) (A1 rfl) rfl fun w0 S0 => ?_
 refine Ab (Aa Ac rfl (qb rfl (qb rfl (qa rfl (Ad (Ab (Aa Ac rfl (qL AV Av rfl (qL AV Av rfl ?_)))))))))
 obtain ⟨v1, a1, h⟩ := bind_some h
 refine AD [] (HS N p0 p1 v1 a1) SB rfl (BA rfl (qa rfl (Ad ?_)))
 obtain rfl := sj h
 refine Ak (sm [] [(4, .e (.one (.pure (.val (.bool ((v1 == 0)))))))] [] rfl rfl) (Ax ?_)
 exact ⟨⟨[_], ⟨.tmp _ _ rfl, trivial⟩, rfl⟩, trivial⟩
set_option maxRecDepth 10000 in
theorem LX (N : Nat) (p0 : Ah) (p1 : List Ap) (r : (List Ae) × Int) (h : Ho N p0 p1 = some r) : Az Tryz.prog 11 [.e (.agg [.pure (.sl (p0.fVersions.map Ai)), .pure (.sl (p0.fNow.map Ai)), .pure (.sl (p0.fTarget.map Ai)), .pure (.sl (p0.fTables.map Aq))]), .e (.one (.pure (.sl (p1.map AF))))] [(3, r.1.map Af)] (.tup [.one (.own 0), .one (.pure (.val (.int .i64 r.2)))]) := by
 unfold Ho at h
 refine As (n := 47) (rs := [.tmp 4, .tmp 5]) Tryz.func11 rfl rfl rfl (A1 rfl) (A1 rfl) rfl fun w0 S0 => ?_
 refine Ab (Aa Ac rfl (qb rfl (qa rfl (qa rfl (Ad (Ab (Aa Ac rfl (qL DY DI rfl (qm rfl ?_)))))))))
 obtain ⟨v1, a1, h⟩ := bind_some h
 refine AD [2001] (IK N p0 p1 v1 a1) R6 rfl (qm rfl (qx rfl (qx rfl (qx rfl (qa rfl (qa rfl (qa rfl (Ad (Ab (Ab (Aa Ac rfl (qm rfl (BX rfl (Ad ?_))))))))))))))
 refine Ao rfl (fun c2 => ?_) (fun c2 => ?_)
 ·have h := Am c2 h
  refine Ab (Aa Ac rfl (qm rfl (qa rfl (qa rfl (Ad ?_)))))
  obtain rfl := sj h
  refine Ak ((Bo 4 2002 3 rfl rfl rfl).trans (sm [(1000, 2002)] [(4, .e (.one (.own 1000))), (5, .e (.one (.pure (.val (.int .i64 v1.2.2)))))] [(1000, .vec 3 ((([] : List Ae)).map Af))] rfl rfl)) (Ax ?_)
  exact ⟨⟨[_, _], ⟨.tmp _ _ rfl, ⟨.tmp _ _ rfl, trivial⟩⟩, rfl⟩, ⟨rfl, trivial⟩⟩
 ·have h := Al c2 h
  refine Ar (Ab (Aa Ac rfl (qa rfl (Ad (Ab (Ab (Aa Ac rfl (qm rfl (DZ AL rfl (qm rfl (Ad ?_)))))))))))
  refine AJ (L := E4 N p0 v1) h (fun v3 => mk [(2, .e (.one (.ptr 2 0))), (9, .e (.one (.own 2003))), (24, .e (.one (.own 2004))), (25, .e (.one (.pure (.val (.int .i64 ((v1.1.length : Int))))))), (26, .e (.one (.pure (.val (.int .i64 v3.2)))))] [(2, .box [.pure (.sl (p0.fVersions.map Ai)), .pure (.sl (p0.fNow.map Ai)), .pure (.sl (p0.fTarget.map Ai)), .pure (.sl (p0.fTables.map Aq))]), (2003, .vec 3 (v3.1.map Af)), (2004, .vec 3 (v1.1.map Af))]) (fun v4 => mk [(9, .e (.one (.own 2005)))] [(2005, .vec 3 (v4.map Af))]) (fun _ _ => rfl) ((Bo 9 2008 3 rfl rfl rfl).trans (sm [(2003, 2008), (2004, 2001)] _ _ rfl rfl)) (fun j3 n3 v3 h => ?_) (fun v4 s h hs => ?_)
  ·unfold E4 at h
   refine Ab (Aa Ac rfl (AY rfl (Ad (Ab ?_))))
   refine Ao rfl (fun c5 => ?_) (fun c5 => ?_)
   ·have h := Am c5 h
    refine Ar (Ab (AN (Ab (Aa Ac rfl ?_))))
    obtain ⟨v6, a6, b6, h⟩ := Aj h
    refine qI AL Av a6 (Ag b6) rfl (qJ AV Av (Ag b6) rfl (qz Ct rfl (qs Av rfl (Ad (Ab (Aa Ac rfl (qL DY DI rfl (qL AV Av rfl ?_))))))))
    obtain ⟨v7, a7, h⟩ := bind_some h
    refine AD [2006] (JF N p0 v6 v7 a7) Ty rfl (qm rfl (qx rfl (qx rfl (qa rfl (qa rfl (Ad (Ab (Ab (Aa Ac rfl (qm rfl (BX rfl (Ad ?_))))))))))))
    refine Ao rfl (fun c8 => ?_) (fun c8 => ?_)
    ·have h := Am c8 h
     refine Ab (Aa Ac rfl (qm rfl (qa rfl (qa rfl (Ad ?_)))))
     obtain rfl := sj h
     refine Ak ((Bo 4 2007 3 rfl rfl rfl).trans (sm [(1000, 2007)] [(4, .e (.one (.own 1000))), (5, .e (.one (.pure (.val (.int .i64 v7.2)))))] [(1000, .vec 3 ((([] : List Ae)).map Af))] rfl rfl)) (Ax ?_)
     exact ⟨⟨[_, _], ⟨.tmp _ _ rfl, ⟨.tmp _ _ rfl, trivial⟩⟩, rfl⟩, ⟨rfl, trivial⟩⟩
    ·have h := Al c8 h
     refine Ar (Aa Ac rfl (qm rfl (qm rfl ?_)))
     obtain ⟨c9, h⟩ := AK h
     refine Dx (f := Af) AL AL Av Mq Ct c9 rfl (qa rfl (Ad (Aa Ac rfl (AU rfl (qm rfl (Ad ?_))))))
     exact Au _ h (sm [(2003, 41)] _ _ rfl rfl)
   ·have h := Al c5 h
    refine AW ?_
    exact Au _ h (sm [(2005, 2003)] _ _ rfl rfl)
  ·refine Ak hs (Ab (Aa Ac rfl (qm rfl ?_)))
   obtain ⟨v10, a10, h⟩ := bind_some h
   refine CM (ds0 := [_, _]) [2005] [] [true] (Bv.weak (ds' := [_, .e (.one (.fnc 39))]) (Ed N v4 ((fun (x : Ae × Ae) => D8 N x.1 x.2)) v10 a10) ⟨(fun _ _ _ hh => hh), (fun _ _ _ hh => K5 SB (fun ar t ht => by obtain ⟨x, r, rfl, hq, rfl⟩ := Ib ht; exact HS N x.1 x.2 r hq) hh), trivial⟩) (.p rfl) TE rfl ⟨rfl, rfl, trivial⟩ rfl rfl (by decide) ⟨rfl, trivial⟩ rfl (A9 rfl) trivial ⟨(fun h => by cases h), trivial⟩ rfl rfl rfl ?_
   refine Ad (Ab (Aa Ac rfl (qm rfl ?_)))
   obtain ⟨v11, a11, h⟩ := bind_some h
   obtain ⟨c12, h⟩ := AK h
   have w13 : 0 + v11.1 ≤ v11.2.length := by rw [Nat.zero_add]; exact c12
   refine CM (ds0 := [_, _]) [2005] [] [true] (Bv.weak (ds' := [_, .e (.one (.fnc 41))]) (FB N v10 ((fun (x : Ae × Ae) => Fw N x.1 x.2)) v11 a11) ⟨(fun _ _ _ hh => hh), (fun _ _ _ hh => K5 UE (fun ar t ht => by obtain ⟨x, r, rfl, hq, rfl⟩ := Ib ht; exact KU N x.1 x.2 r hq) hh), trivial⟩) (.p rfl) Uc rfl ⟨rfl, rfl, trivial⟩ rfl rfl (by decide) ⟨rfl, trivial⟩ rfl (A9 rfl) trivial ⟨(fun h => by cases h), trivial⟩ rfl rfl rfl ?_
   refine CQ (PI Af v11.2 46 2005 2009 3 v11.1 rfl rfl rfl rfl rfl c12) (qa rfl (qa rfl (Ad ?_)))
   obtain rfl := sj h
   refine Ak (sm [(1000, 2009)] [(4, .e (.one (.own 1000))), (5, .e (.one (.pure (.val (.int .i64 0)))))] [(1000, .vec 3 ((v11.2.take v11.1).map Af))] rfl rfl) (Ax ?_)
   exact ⟨⟨[_, _], ⟨.tmp _ _ rfl, ⟨.tmp _ _ rfl, trivial⟩⟩, rfl⟩, ⟨rfl, trivial⟩⟩
set_option maxRecDepth 10000 in
theorem MS (N : Nat) (p0 : Ah) (p1 : List Ap) (r : Bool × Int) (h : HZ N p0 p1 = some r) : Az Tryz.prog 14 [.e (.agg [.pure (.sl (p0.fVersions.map Ai)), .pure (.sl (p0.fNow.map Ai)), .pure (.sl (p0.fTarget.map Ai)), .pure (.sl (p0.fTables.map Aq))]), .e (.one (.pure (.sl (p1.map AF))))] [] (.tup [.one (.pure (.val (.bool r.1))), .one (.pure (.val (.int .i64 r.2)))]) := by
 unfold HZ at h
 refine As (n := 43) (rs := [.tmp 4, .tmp 5]) Tryz.func14 rfl rfl rfl (A1 rfl) (A1 rfl) rfl fun w0 S0 => ?_
 refine Ab (Aa Ac rfl (qb rfl (qa rfl (qa rfl (Ad (Ab (Aa Ac rfl (qL DY DI rfl (qm rfl ?_)))))))))
 obtain ⟨v1, a1, h⟩ := bind_some h
 refine AD [2001] (IK N p0 p1 v1 a1) R6 rfl (qm rfl (qx rfl (qx rfl (qx rfl (qa rfl (qa rfl (qa rfl (Ad (Ab (Ab (Aa Ac rfl (qm rfl (BX rfl (Ad ?_))))))))))))))
 refine Ao rfl (fun c2 => ?_) (fun c2 => ?_)
 ·have h := Am c2 h
  refine Ab (Aa Ac rfl (qm rfl (qa rfl (qa rfl (Ad ?_)))))
  obtain rfl := sj h
  refine Ak (sm [] [(4, .e (.one (.pure (.val (.bool false))))), (5, .e (.one (.pure (.val (.int .i64 v1.2.2)))))] [] rfl rfl) (Ax ?_)
  exact ⟨⟨[_, _], ⟨.tmp _ _ rfl, ⟨.tmp _ _ rfl, trivial⟩⟩, rfl⟩, trivial⟩
 ·have h := Al c2 h
  refine Ar (Ab (Ab (Aa Ac rfl (qm rfl (DZ AL rfl (qm rfl (Ad ?_)))))))
  refine AJ (L := Fu N p0 v1) h (fun v3 => mk [(2, .e (.one (.ptr 2 0))), (23, .e (.one (.own 2002))), (24, .e (.one (.pure (.val (.int .i64 ((v1.1.length : Int))))))), (25, .e (.one (.pure (.val (.int .i64 v3)))))] [(2, .box [.pure (.sl (p0.fVersions.map Ai)), .pure (.sl (p0.fNow.map Ai)), .pure (.sl (p0.fTarget.map Ai)), .pure (.sl (p0.fTables.map Aq))]), (2002, .vec 3 (v1.1.map Af))]) (fun v4 => mk [] []) (fun _ _ => rfl) (sm [(2002, 2001)] _ _ rfl rfl) (fun j3 n3 v3 h => ?_) (fun v4 s h hs => ?_)
  ·unfold Fu at h
   refine Ab (Aa Ac rfl (AY rfl (Ad (Ab ?_))))
   refine Ao rfl (fun c5 => ?_) (fun c5 => ?_)
   ·have h := Am c5 h
    refine Ar (Ab (AN (Ab (Aa Ac rfl ?_))))
    obtain ⟨v6, a6, b6, h⟩ := Aj h
    refine qI AL Av a6 (Ag b6) rfl (qJ AV Av (Ag b6) rfl (qz Ct rfl (qs Av rfl (Ad (Ab (Aa Ac rfl (qL DY DI rfl (qL AV Av rfl ?_))))))))
    obtain ⟨v7, a7, h⟩ := bind_some h
    refine AD [] (Iy N p0 v6 v7 a7) SF rfl (qm rfl (qx rfl (qx rfl (qa rfl (qa rfl (Ad ?_))))))
    refine AP h (fun v8 => mk [(2, .e (.one (.ptr 2 0))), (12, .e (.one (.pure (.val (.int .i64 v7.2))))), (23, .e (.one (.own 2003))), (24, .e (.one (.pure (.val (.int .i64 ((v1.1.length : Int))))))), (25, .e (.one (.pure (.val (.int .i64 v3))))), (40, .e (.one (.pure (.val (.bool v8)))))] [(2, .box [.pure (.sl (p0.fVersions.map Ai)), .pure (.sl (p0.fNow.map Ai)), .pure (.sl (p0.fTarget.map Ai)), .pure (.sl (p0.fTables.map Aq))]), (2003, .vec 3 (v1.1.map Af))]) (fun j8 h => ?_) (fun v8 h => ?_)
    ·refine Aa Ac rfl (qm rfl (BX rfl (qm rfl ?_)))
     refine AB (t := 37) rfl (fun c9 => ?_) (fun c9 => ?_)
     ·have h := Am c9 h
      refine qn rfl (qn rfl (qp rfl (Ad ?_)))
      exact Au _ h (sm [(2003, 2002)] _ _ rfl rfl)
     ·have h := Al c9 h
      refine qm rfl (Cu rfl (qp rfl (Ad ?_)))
      exact Au _ h (sm [(2003, 2002)] _ _ rfl rfl)
    ·refine Ao rfl (fun c10 => ?_) (fun c10 => ?_)
     ·have h := Am c10 h
      refine Ab (Aa Ac rfl (qm rfl (qa rfl (qa rfl (Ad ?_)))))
      obtain rfl := sj h
      refine Ak (sm [] [(4, .e (.one (.pure (.val (.bool false))))), (5, .e (.one (.pure (.val (.int .i64 v7.2)))))] [] rfl rfl) (Ax ?_)
      exact ⟨⟨[_, _], ⟨.tmp _ _ rfl, ⟨.tmp _ _ rfl, trivial⟩⟩, rfl⟩, trivial⟩
     ·have h := Al c10 h
      refine Ar (Aa Ac rfl (AU rfl (qm rfl (Ad ?_))))
      exact Au _ h (sm [(2002, 2003)] _ _ rfl rfl)
   ·have h := Al c5 h
    refine AW ?_
    exact Au _ h (sm [] _ _ rfl rfl)
  ·refine Ak hs (Ab (Aa Ac rfl (qa rfl (qa rfl (Ad ?_)))))
   obtain rfl := sj h
   refine Ak (sm [] [(4, .e (.one (.pure (.val (.bool true))))), (5, .e (.one (.pure (.val (.int .i64 0)))))] [] rfl rfl) (Ax ?_)
   exact ⟨⟨[_, _], ⟨.tmp _ _ rfl, ⟨.tmp _ _ rfl, trivial⟩⟩, rfl⟩, trivial⟩
set_option maxRecDepth 10000 in
theorem Hb (N : Nat) (r : Bool) (h : DK N = some r) : Az Tryz.prog 10 [] [] (.e (.one (.pure (.val (.bool r))))) := by
 unfold DK at h
 refine As (n := 84) (rs := [.tmp 0]) Tryz.func10 rfl rfl rfl (A1 rfl) (A1 rfl) rfl fun w0 S0 => ?_
 refine Ab (Aa Ac rfl (qa rfl (Ad (Ab (Aa Ac rfl ?_)))))
 obtain ⟨v1, a1, h⟩ := bind_some h
 refine AD [2001, 2002, 2003, 2004] (Dz N false v1 a1) Qn rfl (CQ (AZ 2001 _ _ rfl rfl) (CQ (AZ 2002 _ _ rfl rfl) (CQ (AZ 2003 _ _ rfl rfl) (CQ (AZ 2004 _ _ rfl rfl) ?_))))
 obtain ⟨v2, a2, h⟩ := bind_some h
 refine AD [2005] (IX N v1 v2 a2) Td rfl (qm rfl (qx rfl (qx rfl (qa rfl (qa rfl (Ad (Ab (Aa Ac rfl ?_))))))))
 obtain ⟨v3, a3, h⟩ := bind_some h
 refine AD [2006, 2007, 2008, 2009] (Dz N true v3 a3) Qn rfl (CQ (AZ 2006 _ _ rfl rfl) (CQ (AZ 2007 _ _ rfl rfl) (CQ (AZ 2008 _ _ rfl rfl) (CQ (AZ 2009 _ _ rfl rfl) ?_))))
 obtain ⟨v4, a4, h⟩ := bind_some h
 refine AD [2010] (IX N v3 v4 a4) Td rfl (qm rfl (qx rfl (qx rfl (qa rfl (qa rfl (Ad (Ab (Aa Ac rfl ?_))))))))
 obtain ⟨v5, a5, h⟩ := bind_some h
 refine AD [2011, 2012, 2013, 2014] (Dz N false v5 a5) Qn rfl (D4 HM RM T1 rfl ?_)
 obtain ⟨v6, a6, h⟩ := bind_some h
 refine GN [2015] [2011, 2012, 2013, 2014, 24] (MG N v5 (([1, 2, 3] : List Int)) v6 a6) UU (LL (fun _ => rfl) EY) rfl (qm rfl (qx rfl (qx rfl (qa rfl (qa rfl (Ad (Ab (Aa Ac rfl (BE HW Rz rfl (D4 Db Ee HW rfl (qa rfl (Ad (Ab (Aa Ac rfl ?_))))))))))))))
 obtain ⟨v7, a7, h⟩ := bind_some h
 refine AD [2016, 2017, 2018, 2019] (Dz N false v7 a7) Qn rfl (qm rfl (CQ (AZ 2016 _ _ rfl rfl) (CQ (AZ 2017 _ _ rfl rfl) (CQ (AZ 2018 _ _ rfl rfl) (CQ (AZ 2019 _ _ rfl rfl) (CQ (AZ 29 _ _ rfl rfl) ?_))))))
 obtain ⟨v8, a8, h⟩ := bind_some h
 refine AD [2020] (LX N v7 (([(Ap.mk 1 0 1)] : List Ap)) v8 a8) US rfl (qm rfl (qx rfl (qx rfl (qa rfl (qa rfl (Ad (Ab (Aa Ac rfl ?_))))))))
 obtain ⟨v9, a9, h⟩ := bind_some h
 refine AD [2021, 2022, 2023, 2024] (Dz N false v9 a9) Qn rfl (qm rfl ?_)
 obtain ⟨v10, a10, h⟩ := bind_some h
 refine GN [] [2021, 2022, 2023, 2024] (MS N v9 (([(Ap.mk 1 0 1)] : List Ap)) v10 a10) UG EY rfl (qm rfl (qx rfl (qx rfl (qa rfl (qa rfl (Ad ?_))))))
 refine AP h (fun v11 => mk [(0, .e (.one (.pure (.val (.bool v11)))))] []) (fun j11 h => ?_) (fun v11 h => ?_)
 ·refine Aa Ac rfl (qm rfl (BA rfl (qm rfl ?_)))
  refine AB (t := 44) rfl (fun c12 => ?_) (fun c12 => ?_)
  ·have h := Am c12 h
   refine qm rfl (BA rfl (qp rfl (qm rfl ?_)))
   refine AB (t := 48) rfl (fun c13 => ?_) (fun c13 => ?_)
   ·have h := Am c13 h
    refine qm rfl (BA rfl (qp rfl (qm rfl ?_)))
    refine AB (t := 52) rfl (fun c14 => ?_) (fun c14 => ?_)
    ·have h := Am c14 h
     refine qm rfl (BA rfl (qp rfl (qm rfl ?_)))
     refine AB (t := 56) rfl (fun c15 => ?_) (fun c15 => ?_)
     ·have h := Am c15 h
      refine qm rfl (BA rfl (qp rfl (qm rfl ?_)))
      refine AB (t := 60) rfl (fun c16 => ?_) (fun c16 => ?_)
      ·have h := Am c16 h
       refine qm rfl (DZ AL rfl (BA rfl (qp rfl (qm rfl ?_))))
       refine AB (t := 65) rfl (fun c17 => ?_) (fun c17 => ?_)
       ·have h := Am c17 h
        refine qm rfl (DZ AL rfl (BA rfl (qp rfl (qm rfl ?_))))
        refine AB (t := 70) rfl (fun c18 => ?_) (fun c18 => ?_)
        ·have h := Am c18 h
         refine qm rfl (DZ Db rfl (BA rfl (qp rfl (qm rfl ?_))))
         refine AB (t := 75) rfl (fun c19 => ?_) (fun c19 => ?_)
         ·have h := Am c19 h
          refine qm rfl (DZ AL rfl (BA rfl (qp rfl (qm rfl ?_))))
          refine AB (t := 80) rfl (fun c20 => ?_) (fun c20 => ?_)
          ·have h := Am c20 h
           refine qm rfl (Cu rfl (qp rfl (qa rfl (Ad ?_))))
           exact Au _ h (sm [] _ _ rfl rfl)
          ·have h := Al c20 h
           refine qn rfl (qn rfl (qp rfl (qa rfl (Ad ?_))))
           exact Au _ h (sm [] _ _ rfl rfl)
         ·have h := Al c19 h
          refine qn rfl (qn rfl (qn rfl (qp rfl (qm rfl (qn rfl (qn rfl (qp rfl (qa rfl (Ad ?_)))))))))
          exact Au _ h (sm [] _ _ rfl rfl)
        ·have h := Al c18 h
         refine qn rfl (qn rfl (qn rfl (qp rfl (qm rfl (qn rfl (qn rfl (qn rfl (qp rfl (qm rfl (qn rfl (qn rfl (qp rfl (qa rfl (Ad ?_))))))))))))))
         exact Au _ h (sm [] _ _ rfl rfl)
       ·have h := Al c17 h
        refine qn rfl (qn rfl (qn rfl (qp rfl (qm rfl (qn rfl (qn rfl (qn rfl (qp rfl (qm rfl (qn rfl (qn rfl (qn rfl (qp rfl (qm rfl (qn rfl (qn rfl (qp rfl (qa rfl (Ad ?_)))))))))))))))))))
        exact Au _ h (sm [] _ _ rfl rfl)
      ·have h := Al c16 h
       refine qn rfl (qn rfl (qn rfl (qp rfl (qm rfl (qn rfl (qn rfl (qn rfl (qp rfl (qm rfl (qn rfl (qn rfl (qn rfl (qp rfl (qm rfl (qn rfl (qn rfl (qn rfl (qp rfl (qm rfl (qn rfl (qn rfl (qp rfl (qa rfl (Ad ?_))))))))))))))))))))))))
       exact Au _ h (sm [] _ _ rfl rfl)
     ·have h := Al c15 h
      refine qn rfl (qn rfl (qp rfl (qm rfl (qn rfl (qn rfl (qn rfl (qp rfl (qm rfl (qn rfl (qn rfl (qn rfl (qp rfl (qm rfl (qn rfl (qn rfl (qn rfl (qp rfl (qm rfl (qn rfl (qn rfl (qn rfl (qp rfl (qm rfl (qn rfl (qn rfl (qp rfl (qa rfl (Ad ?_))))))))))))))))))))))))))))
      exact Au _ h (sm [] _ _ rfl rfl)
    ·have h := Al c14 h
     refine qn rfl (qn rfl (qp rfl (qm rfl (qn rfl (qn rfl (qp rfl (qm rfl (qn rfl (qn rfl (qn rfl (qp rfl (qm rfl (qn rfl (qn rfl (qn rfl (qp rfl (qm rfl (qn rfl (qn rfl (qn rfl (qp rfl (qm rfl (qn rfl (qn rfl (qn rfl (qp rfl (qm rfl (qn rfl (qn rfl (qp rfl (qa rfl (Ad ?_))))))))))))))))))))))))))))))))
     exact Au _ h (sm [] _ _ rfl rfl)
   ·have h := Al c13 h
    refine qn rfl (qn rfl (qp rfl (qm rfl (qn rfl (qn rfl (qp rfl (qm rfl (qn rfl (qn rfl (qp rfl (qm rfl (qn rfl (qn rfl (qn rfl (qp rfl (qm rfl (qn rfl (qn rfl (qn rfl (qp rfl (qm rfl (qn rfl (qn rfl (qn rfl (qp rfl (qm rfl (qn rfl (qn rfl (qn rfl (qp rfl (qm rfl (qn rfl (qn rfl (qp rfl (qa rfl (Ad ?_))))))))))))))))))))))))))))))))))))
    exact Au _ h (sm [] _ _ rfl rfl)
  ·have h := Al c12 h
   refine qn rfl (qn rfl (qp rfl (qm rfl (qn rfl (qn rfl (qp rfl (qm rfl (qn rfl (qn rfl (qp rfl (qm rfl (qn rfl (qn rfl (qp rfl (qm rfl (qn rfl (qn rfl (qn rfl (qp rfl (qm rfl (qn rfl (qn rfl (qn rfl (qp rfl (qm rfl (qn rfl (qn rfl (qn rfl (qp rfl (qm rfl (qn rfl (qn rfl (qn rfl (qp rfl (qm rfl (qn rfl (qn rfl (qp rfl (qa rfl ?_)))))))))))))))))))))))))))))))))))))))
   refine Ad ?_
   exact Au _ h (sm [] _ _ rfl rfl)
 ·obtain rfl := sj h
  refine Ak (sm [] [(0, .e (.one (.pure (.val (.bool v11)))))] [] rfl rfl) (Ax ?_)
  exact ⟨⟨[_], ⟨.tmp _ _ rfl, trivial⟩, rfl⟩, trivial⟩
set_option maxRecDepth 10000 in
theorem Ge (N : Nat) (p0 : List Ap) (r : (List Ap)) (h : BV N p0 = some r) : Az Tryz.prog 12 [.e (.one (.pure (.sl (p0.map AF))))] [(3, r.map AF)] (.e (.one (.own 0))) := by
 unfold BV at h
 refine As (n := 8) (rs := [.tmp 2]) Tryz.func12 rfl rfl rfl (A1 rfl) (A1 rfl) rfl fun w0 S0 => ?_
 refine Ab (Aa Ac rfl (qa rfl (Ad (Ab (Ab (Aa Ac rfl (qm rfl ?_)))))))
 refine M5 (.p rfl) rfl Db ?_
 refine Ad ?_
 refine MP rfl (fun c2 => ?_) ?_
 ·have c2 := List.map_eq_nil_iff.1 c2
  rw [c2] at h
  have h : (some (([] : List Ap))) = some r := h
  refine Ab (Aa Ac rfl (qa rfl (Ad ?_)))
  obtain rfl := sj h
  refine Ak ((Bo 2 2001 3 rfl rfl rfl).trans (sm [(1000, 2001)] [(2, .e (.one (.own 1000)))] [(1000, .vec 3 ((([] : List Ap)).map AF))] rfl rfl)) (Ax ?_)
  exact ⟨⟨[_], ⟨.tmp _ _ rfl, trivial⟩, rfl⟩, ⟨rfl, trivial⟩⟩
 ·refine Ar (Ab (Aa Ac rfl (D4 Db Ee HW rfl (qm rfl ?_))))
  obtain ⟨c1, h⟩ := AK h
  refine Kk (f := AF) Db Db Ee MD HW (fun _ => rfl) c1 rfl (qa rfl (Ad ?_))
  obtain rfl := sj h
  refine Ak (sm [(1000, 7)] [(2, .e (.one (.own 1000)))] [(1000, .vec 3 (((([] : List Ap)) ++ p0).map AF))] rfl rfl) (Ax ?_)
  exact ⟨⟨[_], ⟨.tmp _ _ rfl, trivial⟩, rfl⟩, ⟨rfl, trivial⟩⟩
set_option maxRecDepth 10000 in
theorem MU (N : Nat) (p0 : Ah) (p1 : List Ap) (r : Ae × Int × Int) (h : EX N p0 p1 = some r) : Az Tryz.prog 28 [.e (.agg [.pure (.sl (p0.fVersions.map Ai)), .pure (.sl (p0.fNow.map Ai)), .pure (.sl (p0.fTarget.map Ai)), .pure (.sl (p0.fTables.map Aq))]), .e (.one (.pure (.sl (p1.map AF))))] [] (.tup [.agg [.pure (.sl (r.1.fBase.map Ai)), .pure (.sl (r.1.fNext.map Ai)), .pure (.sl (r.1.fHeld.map Bk))], .one (.pure (.val (.int .i64 r.2.1))), .one (.pure (.val (.int .i64 r.2.2)))]) := by
 unfold EX at h
 refine As (n := 27) (rs := [.cell 4 50, .tmp 5, .tmp 6]) Tryz.func28 rfl rfl rfl (A1 rfl) (A1 rfl) rfl fun w0 S0 => ?_
 refine Ab (Aa Ac rfl (qb rfl (qz Ct rfl (qa rfl (qa rfl (Ad (Ab (Aa Ac rfl (qL DY DI rfl (qm rfl ?_))))))))))
 obtain ⟨v1, a1, h⟩ := bind_some h
 refine AD [2001] (IK N p0 p1 v1 a1) R6 rfl (qm rfl (qx rfl (qx rfl (qx rfl (qa rfl (qa rfl (qa rfl (Ad (Ab (Ab (Aa Ac rfl (qm rfl (BX rfl (Ad ?_))))))))))))))
 refine Ao rfl (fun c2 => ?_) (fun c2 => ?_)
 ·have h := Am c2 h
  refine Ab (Aa Ac rfl (BE Ct GE rfl (qm rfl (qm rfl (qs Av rfl (qa rfl (qa rfl (Ad ?_))))))))
  obtain rfl := sj h
  refine Ak ((H6 4 _ rfl).trans (sm [] [(4, .e (.one (.ptr 4 0))), (5, .e (.one (.pure (.val (.int .i64 v1.2.1))))), (6, .e (.one (.pure (.val (.int .i64 v1.2.2)))))] [(4, .box [.pure (.sl ((([] : List Int)).map Ai)), .pure (.sl ((([] : List Int)).map Ai)), .pure (.sl ((([] : List Int)).map Bk))])] rfl rfl)) (Ax ?_)
  exact ⟨⟨[_, _, _], ⟨.cellN _ _ _ _ _ _ _ rfl rfl AV Av rfl rfl (HC rfl), ⟨.tmp _ _ rfl, ⟨.tmp _ _ rfl, trivial⟩⟩⟩, rfl⟩, trivial⟩
 ·have h := Al c2 h
  refine Ar (Ab (Aa Ac rfl (qm rfl (qm rfl ?_))))
  obtain ⟨v3, a3, b3, h⟩ := Aj h
  refine qI AL Av a3 (Ag b3) rfl (qJ AV Av (Ag b3) rfl (qm rfl (qs Av rfl (qa rfl (qa rfl (Ad ?_))))))
  obtain rfl := sj h
  refine Ak (sm [] [(4, .e (.one (.ptr 4 0))), (5, .e (.one (.pure (.val (.int .i64 v1.2.1))))), (6, .e (.one (.pure (.val (.int .i64 0)))))] [(4, .box [.pure (.sl (v3.fBase.map Ai)), .pure (.sl (v3.fNext.map Ai)), .pure (.sl (v3.fHeld.map Bk))])] rfl rfl) (Ax ?_)
  exact ⟨⟨[_, _, _], ⟨.cellN _ _ _ _ _ _ _ rfl rfl AV Av rfl rfl (HC rfl), ⟨.tmp _ _ rfl, ⟨.tmp _ _ rfl, trivial⟩⟩⟩, rfl⟩, trivial⟩
set_option maxRecDepth 10000 in
theorem GR (N : Nat) (p0 : List (List Bool)) (p1 : Int) (p2 : Int) (r : Bool) (h : CX N p0 p1 p2 = some r) : Az Tryz.prog 99 [.e (.one (.pure (.sl (p0.map (EQ eB))))), .e (.one (.pure (.val (.int .i64 p1)))), .e (.one (.pure (.val (.int .i64 p2))))] [] (.e (.one (.pure (.val (.bool r))))) := by
 unfold CX at h
 refine As (n := 24) (rs := [.tmp 6]) Tryz.func99 rfl rfl rfl (A1 rfl) (A1 rfl) rfl fun w0 S0 => ?_
 refine Ab (Aa Ac rfl (qa rfl (Ad (Ab (Ab (Aa Ac rfl (qm rfl (AR F3 rfl (qm rfl (BX rfl (Ad ?_)))))))))))
 refine Ao rfl (fun c1 => ?_) (fun c1 => ?_)
 ·have h := Am c1 h
  refine Ab (Aa Ac rfl (qa rfl (Ad ?_)))
  obtain rfl := sj h
  refine Ak (sm [] [(6, .e (.one (.pure (.val (.bool false)))))] [] rfl rfl) (Ax ?_)
  exact ⟨⟨[_], ⟨.tmp _ _ rfl, trivial⟩, rfl⟩, trivial⟩
 ·have h := Al c1 h
  refine Ar (Ab (Ab (Aa Ac rfl (qa rfl (Ad ?_)))))
  refine AJ (L := B6 N p0 p1 p2) h (fun v2 => mk [(0, .e (.one (.pure (.sl (p0.map (EQ eB)))))), (1, .e (.one (.pure (.val (.int .i64 p1))))), (2, .e (.one (.pure (.val (.int .i64 p2))))), (7, .e (.one (.pure (.val (.int .i64 v2)))))] []) (fun v3 => mk [] []) (fun _ _ => rfl) (sm [] _ _ rfl rfl) (fun j2 n2 v2 h => ?_) (fun v3 s h hs => ?_)
  ·unfold B6 at h
   refine Ab (Ab (Aa Ac rfl (qm rfl (qm rfl (AY rfl (Ad ?_))))))
   refine Ao rfl (fun c4 => ?_) (fun c4 => ?_)
   ·have h := Am c4 h
    refine Ar (Ab (AN (Ab (Aa Ac rfl (qm rfl (qm rfl ?_))))))
    obtain ⟨v5, a5, b5, h⟩ := Aj h
    refine qi F3 Ji a5 (Ag b5) rfl (qk Li rfl (AR EO rfl (qm rfl (BX rfl (Ad ?_)))))
    refine Ao rfl (fun c6 => ?_) (fun c6 => ?_)
    ·have h := Am c6 h
     refine Ab (Aa Ac rfl (qa rfl (Ad ?_)))
     obtain rfl := sj h
     refine Ak (sm [] [(6, .e (.one (.pure (.val (.bool false)))))] [] rfl rfl) (Ax ?_)
     exact ⟨⟨[_], ⟨.tmp _ _ rfl, trivial⟩, rfl⟩, trivial⟩
    ·have h := Al c6 h
     refine Ar (Aa Ac rfl (qm rfl (AU rfl (qa rfl (Ad ?_)))))
     exact Au _ h (sm [] _ _ rfl rfl)
   ·have h := Al c4 h
    refine AW ?_
    exact Au _ h (sm [] _ _ rfl rfl)
  ·refine Ak hs (Ab (Aa Ac rfl (qa rfl (Ad ?_))))
   obtain rfl := sj h
   refine Ak (sm [] [(6, .e (.one (.pure (.val (.bool true)))))] [] rfl rfl) (Ax ?_)
   exact ⟨⟨[_], ⟨.tmp _ _ rfl, trivial⟩, rfl⟩, trivial⟩
set_option maxRecDepth 10000 in
theorem I8 (N : Nat) (p0 : Ah) (p1 : AH) (r : Int) (h : DL N p0 p1 = some r) : Az Tryz.prog 72 [.e (.agg [.pure (.sl (p0.fVersions.map Ai)), .pure (.sl (p0.fNow.map Ai)), .pure (.sl (p0.fTarget.map Ai)), .pure (.sl (p0.fTables.map Aq))]), .e (.agg [.pure (.val (.int .i64 p1.fKind)), .pure (.val (.int .i64 p1.fFrom)), .pure (.val (.int .i64 p1.fTo)), .pure (.val (.bool p1.fAware)), .pure (.sl (p1.fOK.map (EQ eB))), .pure (.sl (p1.fRewrite.map (EQ eB)))])] [] (.e (.one (.pure (.val (.int .i64 r))))) := by
 unfold DL at h
 refine As (n := 101) (rs := [.tmp 4]) Tryz.func72 rfl rfl rfl (A1 rfl) (A1 rfl) rfl fun w0 S0 => ?_
 refine Ab (Aa Ac rfl (qb rfl (qb rfl (qa rfl (Ad (Ab ?_))))))
 refine AP h (fun v1 => mk [(2, .e (.one (.ptr 2 0))), (3, .e (.one (.ptr 3 0))), (22, .e (.one (.pure (.val (.bool v1)))))] [(2, .box [.pure (.sl (p0.fVersions.map Ai)), .pure (.sl (p0.fNow.map Ai)), .pure (.sl (p0.fTarget.map Ai)), .pure (.sl (p0.fTables.map Aq))]), (3, .box [.pure (.val (.int .i64 p1.fKind)), .pure (.val (.int .i64 p1.fFrom)), .pure (.val (.int .i64 p1.fTo)), .pure (.val (.bool p1.fAware)), .pure (.sl (p1.fOK.map (EQ eB))), .pure (.sl (p1.fRewrite.map (EQ eB)))])]) (fun j1 h => ?_) (fun v1 h => ?_)
 ·refine Aa Ac rfl (qf E3 rfl (ql Ci rfl (AY rfl (qm rfl ?_))))
  refine AB (t := 10) rfl (fun c2 => ?_) (fun c2 => ?_)
  ·have h := Am c2 h
   refine qn rfl (qn rfl (qn rfl (qp rfl (qm rfl (qn rfl (qn rfl (qn rfl (qu rfl (qu rfl (qn rfl (qp rfl (Ad ?_))))))))))))
   exact Au _ h (sm [] _ _ rfl rfl)
  ·have h := Al c2 h
   refine qf E3 rfl (ql Ci rfl (Ew rfl (qp rfl (qm rfl ?_))))
   refine AB (t := 15) rfl (fun c3 => ?_) (fun c3 => ?_)
   ·have h := Am c3 h
    refine qn rfl (qn rfl (qn rfl (qu rfl (qu rfl (qn rfl (qp rfl (Ad ?_)))))))
    exact Au _ h (sm [] _ _ rfl rfl)
   ·have h := Al c3 h
    refine qf I5 rfl (ql QE rfl (qm rfl ?_))
    refine AB (t := 18) rfl (fun c4 => ?_) (fun c4 => ?_)
    ·have h := Am c4 h
     refine qL GT DP rfl ?_
     obtain ⟨v5, a5, h⟩ := bind_some h
     refine AD [] (Cl N p1 v5 a5) Nq rfl (qp rfl (qp rfl (Ad ?_)))
     exact Au _ h (sm [] _ _ rfl rfl)
    ·have h := Al c4 h
     refine qn rfl (qn rfl (qp rfl (qp rfl (Ad ?_))))
     exact Au _ h (sm [] _ _ rfl rfl)
 ·refine Ao rfl (fun c6 => ?_) (fun c6 => ?_)
  ·have h := Am c6 h
   refine Ab (Aa Ac rfl (qa rfl (Ad ?_)))
   obtain rfl := sj h
   refine Ak (sm [] [(4, .e (.one (.pure (.val (.int .i64 1)))))] [] rfl rfl) (Ax ?_)
   exact ⟨⟨[_], ⟨.tmp _ _ rfl, trivial⟩, rfl⟩, trivial⟩
  ·have h := Al c6 h
   refine Ar (Ab (Aa Ac rfl (qf Bs rfl (ql Bc rfl (AR AE rfl (qa rfl (Ad (Ab ?_))))))))
   refine AP h (fun v7 => mk [(2, .e (.one (.ptr 2 0))), (3, .e (.one (.ptr 3 0))), (45, .e (.one (.pure (.val (.bool v7)))))] [(2, .box [.pure (.sl (p0.fVersions.map Ai)), .pure (.sl (p0.fNow.map Ai)), .pure (.sl (p0.fTarget.map Ai)), .pure (.sl (p0.fTables.map Aq))]), (3, .box [.pure (.val (.int .i64 p1.fKind)), .pure (.val (.int .i64 p1.fFrom)), .pure (.val (.int .i64 p1.fTo)), .pure (.val (.bool p1.fAware)), .pure (.sl (p1.fOK.map (EQ eB))), .pure (.sl (p1.fRewrite.map (EQ eB)))])]) (fun j7 h => ?_) (fun v7 h => ?_)
   ·refine Aa Ac rfl (qf C3 rfl (ql Ci rfl (AY rfl (qm rfl ?_))))
    refine AB (t := 29) rfl (fun c8 => ?_) (fun c8 => ?_)
    ·have h := Am c8 h
     refine qn rfl (qn rfl (qn rfl (qn rfl (qp rfl (qm rfl (qn rfl (qn rfl (qn rfl (qp rfl (qm rfl (qn rfl (qn rfl (qn rfl (qn rfl (qp rfl (Ad ?_))))))))))))))))
     exact Au _ h (sm [] _ _ rfl rfl)
    ·have h := Al c8 h
     refine qf C3 rfl (ql Ci rfl (qm rfl (C6 rfl (qp rfl (qm rfl ?_)))))
     refine AB (t := 35) rfl (fun c9 => ?_) (fun c9 => ?_)
     ·have h := Am c9 h
      refine qn rfl (qn rfl (qn rfl (qp rfl (qm rfl (qn rfl (qn rfl (qn rfl (qn rfl (qp rfl (Ad ?_))))))))))
      exact Au _ h (sm [] _ _ rfl rfl)
     ·have h := Al c9 h
      refine qf Iv rfl (ql Ci rfl (AY rfl (qp rfl (qm rfl ?_))))
      refine AB (t := 40) rfl (fun c10 => ?_) (fun c10 => ?_)
      ·have h := Am c10 h
       refine qn rfl (qn rfl (qn rfl (qn rfl (qp rfl (Ad ?_)))))
       exact Au _ h (sm [] _ _ rfl rfl)
      ·have h := Al c10 h
       refine qf Iv rfl (ql Ci rfl (qm rfl (C6 rfl (qp rfl (Ad ?_)))))
       exact Au _ h (sm [] _ _ rfl rfl)
   ·refine Ao rfl (fun c11 => ?_) (fun c11 => ?_)
    ·have h := Am c11 h
     refine Ab (Aa Ac rfl (qa rfl (Ad ?_)))
     obtain rfl := sj h
     refine Ak (sm [] [(4, .e (.one (.pure (.val (.int .i64 4)))))] [] rfl rfl) (Ax ?_)
     exact ⟨⟨[_], ⟨.tmp _ _ rfl, trivial⟩, rfl⟩, trivial⟩
    ·have h := Al c11 h
     refine Ar (Ab (Ab (Aa Ac rfl (qf J4 rfl (ql Js rfl (qf Bs rfl (ql Bc rfl (qf C3 rfl (ql Ci rfl ?_)))))))))
     obtain ⟨v12, a12, b12, h⟩ := Aj h
     refine qi AE Dm a12 (Ag b12) rfl (qk Ci rfl (qf Bs rfl (ql Bc rfl (qf Iv rfl (ql Ci rfl ?_)))))
     obtain ⟨v13, a13, b13, h⟩ := Aj h
     refine qi AE Dm a13 (Ag b13) rfl (qk Ci rfl ?_)
     obtain ⟨v14, a14, h⟩ := bind_some h
     refine AD [] (GR N p1.fOK v12 v13 v14 a14) TW rfl (Cu rfl (AI (by kernel_rfl) ?_))
     refine Ao rfl (fun c15 => ?_) (fun c15 => ?_)
     ·have h := Am c15 h
      refine Ab (Aa Ac rfl (qa rfl (Ad ?_)))
      obtain rfl := sj h
      refine Ak (sm [] [(4, .e (.one (.pure (.val (.int .i64 6)))))] [] rfl rfl) (Ax ?_)
      exact ⟨⟨[_], ⟨.tmp _ _ rfl, trivial⟩, rfl⟩, trivial⟩
     ·have h := Al c15 h
      refine Ar (Ab (Ab (Aa Ac rfl (qf E3 rfl (ql Ci rfl (BX rfl (Ad ?_)))))))
      refine Ao rfl (fun c16 => ?_) (fun c16 => ?_)
      ·have h := Am c16 h
       refine Ab (Ab (Aa Ac rfl (qf FO rfl (ql Js rfl (AR F3 rfl (BX rfl (Ad ?_)))))))
       refine Ao rfl (fun c17 => ?_) (fun c17 => ?_)
       ·have h := Am c17 h
        refine Ab (Aa Ac rfl (qa rfl (Ad ?_)))
        obtain rfl := sj h
        refine Ak (sm [] [(4, .e (.one (.pure (.val (.int .i64 6)))))] [] rfl rfl) (Ax ?_)
        exact ⟨⟨[_], ⟨.tmp _ _ rfl, trivial⟩, rfl⟩, trivial⟩
       ·have h := Al c17 h
        refine Ar (Ab (Aa Ac rfl (qa rfl (Ad ?_))))
        obtain rfl := sj h
        refine Ak (sm [] [(4, .e (.one (.pure (.val (.int .i64 0)))))] [] rfl rfl) (Ax ?_)
        exact ⟨⟨[_], ⟨.tmp _ _ rfl, trivial⟩, rfl⟩, trivial⟩
      ·have h := Al c16 h
       refine Ar (Ab (Ab (Aa Ac rfl (qf FO rfl (ql Js rfl (qf Bs rfl (ql Bc rfl (qf C3 rfl (ql Ci rfl ?_)))))))))
       obtain ⟨v18, a18, b18, h⟩ := Aj h
       refine qi AE Dm a18 (Ag b18) rfl (qk Ci rfl (qf Bs rfl (ql Bc rfl (qf C3 rfl (ql Ci rfl ?_)))))
       obtain ⟨v19, a19, b19, h⟩ := Aj h
       refine qi AE Dm a19 (Ag b19) rfl (qk Ci rfl ?_)
       obtain ⟨v20, a20, h⟩ := bind_some h
       refine AD [] (GR N p1.fRewrite v18 v19 v20 a20) TW rfl (Cu rfl (AI (by kernel_rfl) ?_))
       refine Ao rfl (fun c21 => ?_) (fun c21 => ?_)
       ·have h := Am c21 h
        refine Ab (Aa Ac rfl (qa rfl (Ad ?_)))
        obtain rfl := sj h
        refine Ak (sm [] [(4, .e (.one (.pure (.val (.int .i64 6)))))] [] rfl rfl) (Ax ?_)
        exact ⟨⟨[_], ⟨.tmp _ _ rfl, trivial⟩, rfl⟩, trivial⟩
       ·have h := Al c21 h
        refine Ar (Ab (Ab (Aa Ac rfl (qa rfl (Ad ?_)))))
        refine AJ (L := BG N p1) h (fun v22 => mk [(3, .e (.one (.ptr 3 0))), (6, .e (.one (.pure (.val (.int .i64 v22)))))] [(3, .box [.pure (.val (.int .i64 p1.fKind)), .pure (.val (.int .i64 p1.fFrom)), .pure (.val (.int .i64 p1.fTo)), .pure (.val (.bool p1.fAware)), .pure (.sl (p1.fOK.map (EQ eB))), .pure (.sl (p1.fRewrite.map (EQ eB)))])]) (fun v23 => mk [] []) (fun _ _ => rfl) (sm [] _ _ rfl rfl) (fun j22 n22 v22 h => ?_) (fun v23 s h hs => ?_)
        ·unfold BG at h
         refine Ab (Ab (Aa Ac rfl (qm rfl (qf FO rfl (ql Js rfl (AR F3 rfl (AY rfl (Ad ?_))))))))
         refine Ao rfl (fun c24 => ?_) (fun c24 => ?_)
         ·have h := Am c24 h
          refine Ar (Ab (AN (Ab (Aa Ac rfl (qf FO rfl (ql Js rfl (qm rfl ?_)))))))
          obtain ⟨v25, a25, b25, h⟩ := Aj h
          refine qi F3 Ji a25 (Ag b25) rfl (qk Li rfl (qm rfl ?_))
          obtain ⟨v26, a26, b26, h⟩ := Aj h
          refine qi EO Oj a26 (Ag b26) rfl (qk QE rfl (Cu rfl (Ad ?_)))
          refine Ao rfl (fun c27 => ?_) (fun c27 => ?_)
          ·have h := Am c27 h
           refine Ab (Aa Ac rfl (qa rfl (Ad ?_)))
           obtain rfl := sj h
           refine Ak (sm [] [(4, .e (.one (.pure (.val (.int .i64 1)))))] [] rfl rfl) (Ax ?_)
           exact ⟨⟨[_], ⟨.tmp _ _ rfl, trivial⟩, rfl⟩, trivial⟩
          ·have h := Al c27 h
           refine Ar (Aa Ac rfl (qm rfl (AU rfl (qa rfl (Ad ?_)))))
           exact Au _ h (sm [] _ _ rfl rfl)
         ·have h := Al c24 h
          refine AW ?_
          exact Au _ h (sm [] _ _ rfl rfl)
        ·refine Ak hs (Ab (Aa Ac rfl (qa rfl (Ad ?_))))
         obtain rfl := sj h
         refine Ak (sm [] [(4, .e (.one (.pure (.val (.int .i64 0)))))] [] rfl rfl) (Ax ?_)
         exact ⟨⟨[_], ⟨.tmp _ _ rfl, trivial⟩, rfl⟩, trivial⟩
set_option maxRecDepth 10000 in
theorem Fd (N : Nat) (p0 : Ah) (r : Int) (h : B7 N p0 = some r) : Az Tryz.prog 50 [.e (.agg [.pure (.sl (p0.fVersions.map Ai)), .pure (.sl (p0.fNow.map Ai)), .pure (.sl (p0.fTarget.map Ai)), .pure (.sl (p0.fTables.map Aq))])] [] (.e (.one (.pure (.val (.int .i64 r))))) := by
 unfold B7 at h
 refine As (n := 102) (rs := [.tmp 2]) Tryz.func50 rfl rfl rfl (A1 rfl) (A1 rfl) rfl fun w0 S0 => ?_
 refine Ab (Aa Ac rfl (qb rfl (qa rfl (Ad (Ab ?_)))))
 refine AP h (fun v1 => mk [(1, .e (.one (.ptr 1 0))), (16, .e (.one (.pure (.val (.bool v1)))))] [(1, .box [.pure (.sl (p0.fVersions.map Ai)), .pure (.sl (p0.fNow.map Ai)), .pure (.sl (p0.fTarget.map Ai)), .pure (.sl (p0.fTables.map Aq))])]) (fun j1 h => ?_) (fun v1 h => ?_)
 ·refine Aa Ac rfl (qf Bs rfl (ql Bc rfl (AR AE rfl (Ew rfl (qm rfl ?_)))))
  refine AB (t := 11) rfl (fun c2 => ?_) (fun c2 => ?_)
  ·have h := Am c2 h
   refine qn rfl (qn rfl (qn rfl (qn rfl (qp rfl (Ad ?_)))))
   exact Au _ h (sm [] _ _ rfl rfl)
  ·have h := Al c2 h
   refine qf CO rfl (ql GV rfl (AR DR rfl (Ew rfl (qp rfl (Ad ?_)))))
   exact Au _ h (sm [] _ _ rfl rfl)
 ·refine Ao rfl (fun c3 => ?_) (fun c3 => ?_)
  ·have h := Am c3 h
   refine Ab (Aa Ac rfl (qa rfl (Ad ?_)))
   obtain rfl := sj h
   refine Ak (sm [] [(2, .e (.one (.pure (.val (.int .i64 3)))))] [] rfl rfl) (Ax ?_)
   exact ⟨⟨[_], ⟨.tmp _ _ rfl, trivial⟩, rfl⟩, trivial⟩
  ·have h := Al c3 h
   refine Ar (Ab ?_)
   refine AP h (fun v4 => mk [(1, .e (.one (.ptr 1 0))), (32, .e (.one (.pure (.val (.bool v4)))))] [(1, .box [.pure (.sl (p0.fVersions.map Ai)), .pure (.sl (p0.fNow.map Ai)), .pure (.sl (p0.fTarget.map Ai)), .pure (.sl (p0.fTables.map Aq))])]) (fun j4 h => ?_) (fun v4 h => ?_)
   ·refine Aa Ac rfl (qf FM rfl (ql Bc rfl (AR AE rfl (qf Bs rfl (ql Bc rfl (AR AE rfl (BX rfl (qm rfl ?_))))))))
    refine AB (t := 24) rfl (fun c5 => ?_) (fun c5 => ?_)
    ·have h := Am c5 h
     refine qn rfl (qn rfl (qn rfl (qn rfl (qn rfl (qn rfl (qn rfl (qp rfl (Ad ?_))))))))
     exact Au _ h (sm [] _ _ rfl rfl)
    ·have h := Al c5 h
     refine qf Iu rfl (ql Bc rfl (AR AE rfl (qf Bs rfl (ql Bc rfl (AR AE rfl (BX rfl (qp rfl (Ad ?_))))))))
     exact Au _ h (sm [] _ _ rfl rfl)
   ·refine Ao rfl (fun c6 => ?_) (fun c6 => ?_)
    ·have h := Am c6 h
     refine Ab (Aa Ac rfl (qa rfl (Ad ?_)))
     obtain rfl := sj h
     refine Ak (sm [] [(2, .e (.one (.pure (.val (.int .i64 6)))))] [] rfl rfl) (Ax ?_)
     exact ⟨⟨[_], ⟨.tmp _ _ rfl, trivial⟩, rfl⟩, trivial⟩
    ·have h := Al c6 h
     refine Ar (Ab (Ab (Aa Ac rfl (qa rfl (Ad ?_)))))
     refine AJ (L := Ba N p0) h (fun v7 => mk [(1, .e (.one (.ptr 1 0))), (3, .e (.one (.pure (.val (.int .i64 v7)))))] [(1, .box [.pure (.sl (p0.fVersions.map Ai)), .pure (.sl (p0.fNow.map Ai)), .pure (.sl (p0.fTarget.map Ai)), .pure (.sl (p0.fTables.map Aq))])]) (fun v8 => mk [(1, .e (.one (.ptr 1 0)))] [(1, .box [.pure (.sl (p0.fVersions.map Ai)), .pure (.sl (p0.fNow.map Ai)), .pure (.sl (p0.fTarget.map Ai)), .pure (.sl (p0.fTables.map Aq))])]) (fun _ _ => rfl) (sm [] _ _ rfl rfl) (fun j7 n7 v7 h => ?_) (fun v8 s h hs => ?_)
     ·unfold Ba at h
      refine Ab (Ab (Aa Ac rfl (qm rfl (qf Bs rfl (ql Bc rfl (AR AE rfl (AY rfl (Ad ?_))))))))
      refine Ao rfl (fun c9 => ?_) (fun c9 => ?_)
      ·have h := Am c9 h
       refine Ar (Ab (AN (Ab (Aa Ac rfl (qf Bs rfl (ql Bc rfl (qm rfl ?_)))))))
       obtain ⟨v10, a10, b10, h⟩ := Aj h
       refine qi AE Dm a10 (Ag b10) rfl (qk Ci rfl (qa rfl (Ad ?_)))
       refine AP h (fun v11 => mk [(1, .e (.one (.ptr 1 0))), (3, .e (.one (.pure (.val (.int .i64 v7))))), (84, .e (.one (.pure (.val (.bool v11)))))] [(1, .box [.pure (.sl (p0.fVersions.map Ai)), .pure (.sl (p0.fNow.map Ai)), .pure (.sl (p0.fTarget.map Ai)), .pure (.sl (p0.fTables.map Aq))])]) (fun j11 h => ?_) (fun v11 h => ?_)
       ·refine Aa Ac rfl (qm rfl (AY rfl (qm rfl ?_)))
        refine AB (t := 47) rfl (fun c12 => ?_) (fun c12 => ?_)
        ·have h := Am c12 h
         refine qn rfl (qn rfl (qp rfl (qm rfl (qn rfl (qn rfl (qn rfl (qn rfl (qn rfl (qn rfl (qp rfl (qm rfl (qn rfl (qn rfl (qn rfl (qn rfl (qn rfl (qn rfl (qn rfl (qp rfl (qm rfl (qn rfl (qn rfl (qn rfl (qn rfl (qn rfl (qn rfl (qp rfl (qm rfl (qn rfl (qn rfl (qn rfl (qn rfl (qn rfl (qn rfl (qn rfl (qp rfl (Ad ?_)))))))))))))))))))))))))))))))))))))
         exact Au _ h (sm [] _ _ rfl rfl)
        ·have h := Al c12 h
         refine qm rfl (Ew rfl (qp rfl (qm rfl ?_)))
         refine AB (t := 51) rfl (fun c13 => ?_) (fun c13 => ?_)
         ·have h := Am c13 h
          refine qn rfl (qn rfl (qn rfl (qn rfl (qn rfl (qn rfl (qp rfl (qm rfl (qn rfl (qn rfl (qn rfl (qn rfl (qn rfl (qn rfl (qn rfl (qp rfl (qm rfl (qn rfl (qn rfl (qn rfl (qn rfl (qn rfl (qn rfl (qp rfl (qm rfl (qn rfl (qn rfl (qn rfl (qn rfl (qn rfl (qn rfl (qn rfl (qp rfl (Ad ?_)))))))))))))))))))))))))))))))))
          exact Au _ h (sm [] _ _ rfl rfl)
         ·have h := Al c13 h
          refine qf FM rfl (ql Bc rfl (qm rfl ?_))
          obtain ⟨v14, a14, b14, h⟩ := Aj h
          refine qi AE Dm a14 (Ag b14) rfl (qk Ci rfl (AY rfl (qp rfl (qm rfl ?_))))
          refine AB (t := 59) rfl (fun c15 => ?_) (fun c15 => ?_)
          ·have h := Am c15 h
           refine qn rfl (qn rfl (qn rfl (qn rfl (qn rfl (qn rfl (qn rfl (qp rfl (qm rfl (qn rfl (qn rfl (qn rfl (qn rfl (qn rfl (qn rfl (qp rfl (qm rfl (qn rfl (qn rfl (qn rfl (qn rfl (qn rfl (qn rfl (qn rfl (qp rfl (Ad ?_)))))))))))))))))))))))))
           exact Au _ h (sm [] _ _ rfl rfl)
          ·have h := Al c15 h
           refine qf FM rfl (ql Bc rfl (qm rfl ?_))
           obtain ⟨v16, a16, b16, h⟩ := Aj h
           refine qi AE Dm a16 (Ag b16) rfl (qk Ci rfl (qm rfl (C6 rfl (qp rfl (qm rfl ?_)))))
           refine AB (t := 68) rfl (fun c17 => ?_) (fun c17 => ?_)
           ·have h := Am c17 h
            refine qn rfl (qn rfl (qn rfl (qn rfl (qn rfl (qn rfl (qp rfl (qm rfl (qn rfl (qn rfl (qn rfl (qn rfl (qn rfl (qn rfl (qn rfl (qp rfl (Ad ?_))))))))))))))))
            exact Au _ h (sm [] _ _ rfl rfl)
           ·have h := Al c17 h
            refine qf Iu rfl (ql Bc rfl (qm rfl ?_))
            obtain ⟨v18, a18, b18, h⟩ := Aj h
            refine qi AE Dm a18 (Ag b18) rfl (qk Ci rfl (AY rfl (qp rfl (qm rfl ?_))))
            refine AB (t := 76) rfl (fun c19 => ?_) (fun c19 => ?_)
            ·have h := Am c19 h
             refine qn rfl (qn rfl (qn rfl (qn rfl (qn rfl (qn rfl (qn rfl (qp rfl (Ad ?_))))))))
             exact Au _ h (sm [] _ _ rfl rfl)
            ·have h := Al c19 h
             refine qf Iu rfl (ql Bc rfl (qm rfl ?_))
             obtain ⟨v20, a20, b20, h⟩ := Aj h
             refine qi AE Dm a20 (Ag b20) rfl (qk Ci rfl (qm rfl (C6 rfl (qp rfl (Ad ?_)))))
             exact Au _ h (sm [] _ _ rfl rfl)
       ·refine Ao rfl (fun c21 => ?_) (fun c21 => ?_)
        ·have h := Am c21 h
         refine Ab (Aa Ac rfl (qa rfl (Ad ?_)))
         obtain rfl := sj h
         refine Ak (sm [] [(2, .e (.one (.pure (.val (.int .i64 7)))))] [] rfl rfl) (Ax ?_)
         exact ⟨⟨[_], ⟨.tmp _ _ rfl, trivial⟩, rfl⟩, trivial⟩
        ·have h := Al c21 h
         refine Ar (Aa Ac rfl (qm rfl (AU rfl (qa rfl (Ad ?_)))))
         exact Au _ h (sm [] _ _ rfl rfl)
      ·have h := Al c9 h
       refine AW ?_
       exact Au _ h (sm [] _ _ rfl rfl)
     ·refine Ak hs (Ab (Ab (Aa Ac rfl (qa rfl (Ad ?_)))))
      refine AJ (L := A6 N p0) h (fun v22 => mk [(1, .e (.one (.ptr 1 0))), (5, .e (.one (.pure (.val (.int .i64 v22)))))] [(1, .box [.pure (.sl (p0.fVersions.map Ai)), .pure (.sl (p0.fNow.map Ai)), .pure (.sl (p0.fTarget.map Ai)), .pure (.sl (p0.fTables.map Aq))])]) (fun v23 => mk [] []) (fun _ _ => rfl) (sm [] _ _ rfl rfl) (fun j22 n22 v22 h => ?_) (fun v23 s h hs => ?_)
      ·unfold A6 at h
       refine Ab (Ab (Aa Ac rfl (qm rfl (qf CO rfl (ql GV rfl (AR DR rfl (AY rfl (Ad ?_))))))))
       refine Ao rfl (fun c24 => ?_) (fun c24 => ?_)
       ·have h := Am c24 h
        refine Ar (Ab (AN (Ab (Aa Ac rfl (qL DY DI rfl (qf CO rfl (ql GV rfl (qm rfl ?_))))))))
        obtain ⟨v25, a25, b25, h⟩ := Aj h
        refine qi DR DP a25 (Ag b25) rfl (qK GT DP rfl ?_)
        obtain ⟨v26, a26, h⟩ := bind_some h
        refine AD [] (I8 N p0 v25 v26 a26) Um rfl (qa rfl (AI (by kernel_rfl) (Ab (Aa Ac rfl (qm rfl (BX rfl (Ad ?_)))))))
        refine Ao rfl (fun c27 => ?_) (fun c27 => ?_)
        ·have h := Am c27 h
         refine Ab (Aa Ac rfl (qm rfl (qa rfl (Ad ?_))))
         obtain rfl := sj h
         refine Ak (sm [] [(2, .e (.one (.pure (.val (.int .i64 v26)))))] [] rfl rfl) (Ax ?_)
         exact ⟨⟨[_], ⟨.tmp _ _ rfl, trivial⟩, rfl⟩, trivial⟩
        ·have h := Al c27 h
         refine Ar (Aa Ac rfl (qm rfl (AU rfl (qa rfl (Ad ?_)))))
         exact Au _ h (sm [] _ _ rfl rfl)
       ·have h := Al c24 h
        refine AW ?_
        exact Au _ h (sm [] _ _ rfl rfl)
      ·refine Ak hs (Ab (Aa Ac rfl (qa rfl (Ad ?_))))
       obtain rfl := sj h
       refine Ak (sm [] [(2, .e (.one (.pure (.val (.int .i64 0)))))] [] rfl rfl) (Ax ?_)
       exact ⟨⟨[_], ⟨.tmp _ _ rfl, trivial⟩, rfl⟩, trivial⟩
end Go.Lift

/- That the code does what the shallow programs do, function by function. Written by a program (gen.py). -/
namespace Go.Lift
open Go.RowKit
open Go.Proofs
set_option maxRecDepth 10000 in
theorem I9 (N : Nat) (p0 : Ah) (r : Ae × Int) (h : DM N p0 = some r) : Az Tryz.prog 24 [.e (.agg [.pure (.sl (p0.fVersions.map Ai)), .pure (.sl (p0.fNow.map Ai)), .pure (.sl (p0.fTarget.map Ai)), .pure (.sl (p0.fTables.map Aq))])] [(1, r.1.fBase.map Ai), (1, r.1.fNext.map Ai), (1, r.1.fHeld.map Bk)] (.tup [.agg [.own 0, .own 1, .own 2], .one (.pure (.val (.int .i64 r.2)))]) := by
 unfold DM at h
 refine As (n := 68) (rs := [.cell 2 50, .tmp 3]) Tryz.func24 rfl rfl rfl (A1 rfl) (A1 rfl) rfl fun w0 S0 => ?_
 refine Ab (Aa Ac rfl (qb rfl (qz Ct rfl (qa rfl (Ad (Ab (Ab (Aa Ac rfl (qL DY DI rfl ?_)))))))))
 obtain ⟨v1, a1, h⟩ := bind_some h
 refine AD [] (Fd N p0 v1 a1) Tj rfl (qa rfl (Ad (Ab (Aa Ac rfl (qm rfl (BX rfl (Ad ?_)))))))
 refine Ao rfl (fun c2 => ?_) (fun c2 => ?_)
 ·have h := Am c2 h
  refine Ab (Aa Ac rfl (BE Ct GE rfl (qm rfl (qs Av rfl (qa rfl (Ad ?_))))))
  obtain rfl := sj h
  refine Ak ((AA 2 0 2001 1 _ rfl rfl rfl rfl).trans ((AA 2 1 2002 1 _ rfl rfl rfl rfl).trans ((AA 2 2 2003 1 _ rfl rfl rfl rfl).trans (sm [(1000, 2001), (1001, 2002), (1002, 2003)] [(2, .e (.one (.ptr 2 0))), (3, .e (.one (.pure (.val (.int .i64 v1)))))] [(2, .box [.own 1000, .own 1001, .own 1002]), (1000, .vec 1 ((([] : List Int)).map Ai)), (1001, .vec 1 ((([] : List Int)).map Ai)), (1002, .vec 1 ((([] : List Int)).map Bk))] rfl rfl)))) (Ax ?_)
  exact ⟨⟨[_, _], ⟨.cellN _ _ _ _ _ _ _ rfl rfl AV Av rfl rfl (HC rfl), ⟨.tmp _ _ rfl, trivial⟩⟩, rfl⟩, ⟨rfl, rfl, rfl, trivial⟩⟩
 ·have h := Al c2 h
  refine Ar (Ab (Aa Ac rfl (qz Ct rfl (Ad (Ab (Ab (Aa Ac rfl (qa rfl (Ad ?_)))))))))
  refine AJ (L := BT N p0) h (fun v3 => mk [(1, .e (.one (.ptr 1 0))), (2, .e (.one (.ptr 2 0))), (5, .e (.one (.ptr 5 0))), (6, .e (.one (.pure (.val (.int .i64 v3.2.2)))))] [(1, .box [.pure (.sl (p0.fVersions.map Ai)), .pure (.sl (p0.fNow.map Ai)), .pure (.sl (p0.fTarget.map Ai)), .pure (.sl (p0.fTables.map Aq))]), (2, .box [.pure (.nil0), .pure (.nil0), .pure (.nil0)]), (5, .box [.own 2004, .own 2005, .pure (.nil0)]), (2004, .vec 1 (v3.1.map Ai)), (2005, .vec 1 (v3.2.1.map Ai))]) (fun v4 => mk [(1, .e (.one (.ptr 1 0))), (2, .e (.one (.ptr 2 0))), (5, .e (.one (.ptr 5 0)))] [(1, .box [.pure (.sl (p0.fVersions.map Ai)), .pure (.sl (p0.fNow.map Ai)), .pure (.sl (p0.fTarget.map Ai)), .pure (.sl (p0.fTables.map Aq))]), (2, .box [.pure (.nil0), .pure (.nil0), .pure (.nil0)]), (5, .box [.own 2006, .own 2007, .pure (.nil0)]), (2006, .vec 1 (v4.1.map Ai)), (2007, .vec 1 (v4.2.map Ai))]) (fun _ _ => rfl) ((AA 5 0 2008 1 _ rfl rfl rfl rfl).trans ((AA 5 1 2009 1 _ rfl rfl rfl rfl).trans (sm [(2004, 2008), (2005, 2009)] _ _ rfl rfl))) (fun j3 n3 v3 h => ?_) (fun v4 s h hs => ?_)
  ·unfold BT at h
   refine Ab (Ab (Aa Ac rfl (qm rfl (qf Bs rfl (ql Bc rfl (AR AE rfl (AY rfl (Ad ?_))))))))
   refine Ao rfl (fun c5 => ?_) (fun c5 => ?_)
   ·have h := Am c5 h
    refine Ar (Ab (AN (Ab (Aa Ac rfl (qf CB rfl (ql Bc rfl (qf FM rfl (ql Bc rfl (qm rfl ?_)))))))))
    obtain ⟨v6, a6, b6, h⟩ := Aj h
    refine qi AE Dm a6 (Ag b6) rfl (qk Ci rfl (D4 AE Dm Kj rfl ?_))
    obtain ⟨c7, h⟩ := AK h
    refine Dx (f := Ai) AE AE Dm Lg Kj c7 rfl (qf CB rfl (qs PW rfl (AI (by kernel_rfl) (Aa Ac rfl (qf BR rfl (ql Bc rfl (D4 AE Dm Kj rfl ?_)))))))
    obtain ⟨c8, h⟩ := AK h
    refine Dx (f := Ai) AE AE Dm Lg Kj c8 rfl (qf BR rfl (qs PW rfl (Ad (Aa Ac rfl (qm rfl (AU rfl (qa rfl (Ad ?_))))))))
    exact Au _ h (sm [(2004, 30), (2005, 35)] _ _ rfl rfl)
   ·have h := Al c5 h
    refine AW ?_
    exact Au _ h (sm [(2006, 2004), (2007, 2005)] _ _ rfl rfl)
  ·refine Ak hs (Ab (Ab (Aa Ac rfl (qa rfl (Ad ?_)))))
   refine AJ (L := A8 N p0) h (fun v9 => mk [(1, .e (.one (.ptr 1 0))), (2, .e (.one (.ptr 2 0))), (5, .e (.one (.ptr 5 0))), (7, .e (.one (.pure (.val (.int .i64 v9.2)))))] [(1, .box [.pure (.sl (p0.fVersions.map Ai)), .pure (.sl (p0.fNow.map Ai)), .pure (.sl (p0.fTarget.map Ai)), .pure (.sl (p0.fTables.map Aq))]), (2, .box [.pure (.nil0), .pure (.nil0), .pure (.nil0)]), (5, .box [.own 2010, .own 2011, .own 2012]), (2010, .vec 1 (v4.1.map Ai)), (2011, .vec 1 (v4.2.map Ai)), (2012, .vec 1 (v9.1.map Bk))]) (fun v10 => mk [(2, .e (.one (.ptr 2 0))), (5, .e (.one (.ptr 5 0)))] [(2, .box [.pure (.nil0), .pure (.nil0), .pure (.nil0)]), (5, .box [.own 2013, .own 2014, .own 2015]), (2013, .vec 1 (v4.1.map Ai)), (2014, .vec 1 (v4.2.map Ai)), (2015, .vec 1 (v10.map Bk))]) (fun _ _ => rfl) ((AA 5 2 2019 1 _ rfl rfl rfl rfl).trans (sm [(2010, 2006), (2011, 2007), (2012, 2019)] _ _ rfl rfl)) (fun j9 n9 v9 h => ?_) (fun v10 s h hs => ?_)
   ·unfold A8 at h
    refine Ab (Ab (Aa Ac rfl (qm rfl (qf CO rfl (ql GV rfl (AR DR rfl (AY rfl (Ad ?_))))))))
    refine Ao rfl (fun c11 => ?_) (fun c11 => ?_)
    ·have h := Am c11 h
     refine Ar (Ab (AN (Ab (Aa Ac rfl (qa rfl (Ad ?_))))))
     refine AP h (fun v12 => mk [(1, .e (.one (.ptr 1 0))), (2, .e (.one (.ptr 2 0))), (5, .e (.one (.ptr 5 0))), (7, .e (.one (.pure (.val (.int .i64 v9.2))))), (8, .e (.one (.pure (.val (.int .u8 v12)))))] [(1, .box [.pure (.sl (p0.fVersions.map Ai)), .pure (.sl (p0.fNow.map Ai)), .pure (.sl (p0.fTarget.map Ai)), .pure (.sl (p0.fTables.map Aq))]), (2, .box [.pure (.nil0), .pure (.nil0), .pure (.nil0)]), (5, .box [.own 2016, .own 2017, .own 2018]), (2016, .vec 1 (v4.1.map Ai)), (2017, .vec 1 (v4.2.map Ai)), (2018, .vec 1 (v9.1.map Bk))]) (fun j12 h => ?_) (fun v12 h => ?_)
     ·refine Ab (Aa Ac rfl (qf CO rfl (ql GV rfl (qm rfl ?_))))
      obtain ⟨v13, a13, b13, h⟩ := Aj h
      refine qi DR DP a13 (Ag b13) rfl (qK GT DP rfl ?_)
      obtain ⟨v14, a14, h⟩ := bind_some h
      refine AD [] (Cl N v13 v14 a14) Nq rfl (Ad ?_)
      refine Ao rfl (fun c15 => ?_) (fun c15 => ?_)
      ·have h := Am c15 h
       refine Aa Ac rfl (qf FM rfl (ql Bc rfl (qf CO rfl (ql GV rfl (qm rfl ?_)))))
       obtain ⟨v16, a16, b16, h⟩ := Aj h
       refine qi DR DP a16 (Ag b16) rfl (qg C3 rfl (qk Ci rfl ?_))
       obtain ⟨v17, a17, b17, h⟩ := Aj h
       refine qi AE Dm a17 (Ag b17) rfl (qk Ci rfl ?_)
       obtain ⟨c18, h⟩ := AK h
       refine G8 rfl c18 (qa rfl (AI (by kernel_rfl) ?_))
       exact Au _ h (sm [(2016, 2010), (2017, 2011), (2018, 2012)] _ _ rfl rfl)
      ·have h := Al c15 h
       refine Ar ?_
       exact Au _ h (sm [(2016, 2010), (2017, 2011), (2018, 2012)] _ _ rfl rfl)
     ·refine Aa Ac rfl (qf Cx rfl (ql Gq rfl (qm rfl (D4 C5 Fa Ol rfl ?_))))
      obtain ⟨c19, h⟩ := AK h
      refine Dx (f := Bk) C5 C5 Fa OY Ol c19 rfl (qf Cx rfl (qs Uh rfl (Ad (Aa Ac rfl (qm rfl (AU rfl (qa rfl (Ad ?_))))))))
      exact Au _ h (sm [(2010, 2016), (2011, 2017), (2012, 65)] _ _ rfl rfl)
    ·have h := Al c11 h
     refine AW ?_
     exact Au _ h (sm [(2013, 2010), (2014, 2011), (2015, 2012)] _ _ rfl rfl)
   ·refine Ak hs (Ab (Aa Ac rfl (qL AV Av rfl (qs Av rfl (qa rfl (Ad ?_))))))
    obtain rfl := sj h
    refine Ak (sm [(1000, 2013), (1001, 2014), (1002, 2015)] [(2, .e (.one (.ptr 2 0))), (3, .e (.one (.pure (.val (.int .i64 0)))))] [(2, .box [.own 1000, .own 1001, .own 1002]), (1000, .vec 1 (v4.1.map Ai)), (1001, .vec 1 (v4.2.map Ai)), (1002, .vec 1 (v10.map Bk))] rfl rfl) (Ax ?_)
    exact ⟨⟨[_, _], ⟨.cellN _ _ _ _ _ _ _ rfl rfl AV Av rfl rfl (HC rfl), ⟨.tmp _ _ rfl, trivial⟩⟩, rfl⟩, ⟨rfl, rfl, rfl, trivial⟩⟩
set_option maxRecDepth 10000 in
theorem E1 (N : Nat) (p0 : Ae) (p1 : Int) (r : Int) (h : Cq N p0 p1 = some r) : Az Tryz.prog 52 [.e (.agg [.pure (.sl (p0.fBase.map Ai)), .pure (.sl (p0.fNext.map Ai)), .pure (.sl (p0.fHeld.map Bk))]), .e (.one (.pure (.val (.int .i64 p1))))] [] (.e (.one (.pure (.val (.int .u8 r))))) := by
 unfold Cq at h
 refine As (n := 27) (rs := [.tmp 4]) Tryz.func52 rfl rfl rfl (A1 rfl) (A1 rfl) rfl fun w0 S0 => ?_
 refine Ab (Aa Ac rfl (qb rfl (qa rfl (Ad (Ab (Aa Ac rfl (qf CB rfl (ql Bc rfl (qm rfl ?_)))))))))
 obtain ⟨v1, a1, b1, h⟩ := Aj h
 refine qi AE Dm a1 (Ag b1) rfl (qk Ci rfl ?_)
 obtain ⟨c2, h⟩ := AK h
 refine G8 rfl c2 (qa rfl (Ad ?_))
 refine AP h (fun v3 => mk [(5, .e (.one (.pure (.val (.int .u8 v3)))))] []) (fun j3 h => ?_) (fun v3 h => ?_)
 ·refine Ab (Aa Ac rfl (qf BR rfl (ql Bc rfl (qm rfl ?_))))
  obtain ⟨v4, a4, b4, h⟩ := Aj h
  refine qi AE Dm a4 (Ag b4) rfl (qk Ci rfl (C6 rfl (Ad ?_)))
  refine Ao rfl (fun c5 => ?_) (fun c5 => ?_)
  ·have h := Am c5 h
   refine Aa Ac rfl (qm rfl (qf BR rfl (ql Bc rfl (qm rfl ?_))))
   obtain ⟨v6, a6, b6, h⟩ := Aj h
   refine qi AE Dm a6 (Ag b6) rfl (qk Ci rfl ?_)
   obtain ⟨c7, h⟩ := AK h
   refine G8 rfl c7 (PO rfl (qa rfl (Ad ?_)))
   exact Au _ h (sm [] _ _ rfl rfl)
  ·have h := Al c5 h
   refine Ar ?_
   exact Au _ h (sm [] _ _ rfl rfl)
 ·refine Ab (Aa Ac rfl (qm rfl (qa rfl (Ad ?_))))
  obtain rfl := sj h
  refine Ak (sm [] [(4, .e (.one (.pure (.val (.int .u8 v3)))))] [] rfl rfl) (Ax ?_)
  exact ⟨⟨[_], ⟨.tmp _ _ rfl, trivial⟩, rfl⟩, trivial⟩
set_option maxRecDepth 10000 in
theorem Ha (N : Nat) (p0 : Ah) (p1 : Ae) (r : Int) (h : Dc N p0 p1 = some r) : Az Tryz.prog 65 [.e (.agg [.pure (.sl (p0.fVersions.map Ai)), .pure (.sl (p0.fNow.map Ai)), .pure (.sl (p0.fTarget.map Ai)), .pure (.sl (p0.fTables.map Aq))]), .e (.agg [.pure (.sl (p1.fBase.map Ai)), .pure (.sl (p1.fNext.map Ai)), .pure (.sl (p1.fHeld.map Bk))])] [] (.e (.one (.pure (.val (.int .i64 r))))) := by
 unfold Dc at h
 refine As (n := 154) (rs := [.tmp 4]) Tryz.func65 rfl rfl rfl (A1 rfl) (A1 rfl) rfl fun w0 S0 => ?_
 refine Ab (Aa Ac rfl (qb rfl (qb rfl (qa rfl (Ad (Ab (Ab (Aa Ac rfl (qL DY DI rfl ?_)))))))))
 obtain ⟨v1, a1, h⟩ := bind_some h
 refine AD [] (Fd N p0 v1 a1) Tj rfl (qa rfl (Ad (Ab (Aa Ac rfl (qm rfl (BX rfl (Ad ?_)))))))
 refine Ao rfl (fun c2 => ?_) (fun c2 => ?_)
 ·have h := Am c2 h
  refine Ab (Aa Ac rfl (qm rfl (qa rfl (Ad ?_))))
  obtain rfl := sj h
  refine Ak (sm [] [(4, .e (.one (.pure (.val (.int .i64 v1)))))] [] rfl rfl) (Ax ?_)
  exact ⟨⟨[_], ⟨.tmp _ _ rfl, trivial⟩, rfl⟩, trivial⟩
 ·have h := Al c2 h
  refine Ar (Ab (Aa Ac rfl (qf Bs rfl (ql Bc rfl (AR AE rfl (qa rfl (Ad (Ab ?_))))))))
  refine AP h (fun v3 => mk [(2, .e (.one (.ptr 2 0))), (3, .e (.one (.ptr 3 0))), (6, .e (.one (.pure (.val (.int .i64 ((p0.fVersions.length : Int))))))), (39, .e (.one (.pure (.val (.bool v3)))))] [(2, .box [.pure (.sl (p0.fVersions.map Ai)), .pure (.sl (p0.fNow.map Ai)), .pure (.sl (p0.fTarget.map Ai)), .pure (.sl (p0.fTables.map Aq))]), (3, .box [.pure (.sl (p1.fBase.map Ai)), .pure (.sl (p1.fNext.map Ai)), .pure (.sl (p1.fHeld.map Bk))])]) (fun j3 h => ?_) (fun v3 h => ?_)
  ·refine Aa Ac rfl (qf CB rfl (ql Bc rfl (AR AE rfl (qm rfl (BX rfl (qm rfl ?_))))))
   refine AB (t := 24) rfl (fun c4 => ?_) (fun c4 => ?_)
   ·have h := Am c4 h
    refine qn rfl (qn rfl (qn rfl (qn rfl (qn rfl (qp rfl (qm rfl (qn rfl (qn rfl (qn rfl (qn rfl (qn rfl (qn rfl (qn rfl (qp rfl (Ad ?_)))))))))))))))
    exact Au _ h (sm [] _ _ rfl rfl)
   ·have h := Al c4 h
    refine qf BR rfl (ql Bc rfl (AR AE rfl (qm rfl (BX rfl (qp rfl (qm rfl ?_))))))
    refine AB (t := 31) rfl (fun c5 => ?_) (fun c5 => ?_)
    ·have h := Am c5 h
     refine qn rfl (qn rfl (qn rfl (qn rfl (qn rfl (qn rfl (qn rfl (qp rfl (Ad ?_))))))))
     exact Au _ h (sm [] _ _ rfl rfl)
    ·have h := Al c5 h
     refine qf Cx rfl (ql Gq rfl (AR C5 rfl (qf CO rfl (ql GV rfl (AR DR rfl (BX rfl (qp rfl (Ad ?_))))))))
     exact Au _ h (sm [] _ _ rfl rfl)
  ·refine Ao rfl (fun c6 => ?_) (fun c6 => ?_)
   ·have h := Am c6 h
    refine Ab (Aa Ac rfl (qa rfl (Ad ?_)))
    obtain rfl := sj h
    refine Ak (sm [] [(4, .e (.one (.pure (.val (.int .i64 6)))))] [] rfl rfl) (Ax ?_)
    exact ⟨⟨[_], ⟨.tmp _ _ rfl, trivial⟩, rfl⟩, trivial⟩
   ·have h := Al c6 h
    refine Ar (Ab (Ab (Aa Ac rfl (qa rfl (Ad ?_)))))
    refine AJ (L := BU N p0 p1) h (fun v7 => mk [(2, .e (.one (.ptr 2 0))), (3, .e (.one (.ptr 3 0))), (6, .e (.one (.pure (.val (.int .i64 ((p0.fVersions.length : Int))))))), (7, .e (.one (.pure (.val (.int .i64 v7)))))] [(2, .box [.pure (.sl (p0.fVersions.map Ai)), .pure (.sl (p0.fNow.map Ai)), .pure (.sl (p0.fTarget.map Ai)), .pure (.sl (p0.fTables.map Aq))]), (3, .box [.pure (.sl (p1.fBase.map Ai)), .pure (.sl (p1.fNext.map Ai)), .pure (.sl (p1.fHeld.map Bk))])]) (fun v8 => mk [(2, .e (.one (.ptr 2 0))), (3, .e (.one (.ptr 3 0)))] [(2, .box [.pure (.sl (p0.fVersions.map Ai)), .pure (.sl (p0.fNow.map Ai)), .pure (.sl (p0.fTarget.map Ai)), .pure (.sl (p0.fTables.map Aq))]), (3, .box [.pure (.sl (p1.fBase.map Ai)), .pure (.sl (p1.fNext.map Ai)), .pure (.sl (p1.fHeld.map Bk))])]) (fun _ _ => rfl) (sm [] _ _ rfl rfl) (fun j7 n7 v7 h => ?_) (fun v8 s h hs => ?_)
    ·unfold BU at h
     refine Ab (Ab (Aa Ac rfl (qm rfl (qm rfl (AY rfl (Ad ?_))))))
     refine Ao rfl (fun c9 => ?_) (fun c9 => ?_)
     ·have h := Am c9 h
      refine Ar (Ab (AN (Ab ?_)))
      refine AP h (fun v10 => mk [(2, .e (.one (.ptr 2 0))), (3, .e (.one (.ptr 3 0))), (6, .e (.one (.pure (.val (.int .i64 ((p0.fVersions.length : Int))))))), (7, .e (.one (.pure (.val (.int .i64 v7))))), (84, .e (.one (.pure (.val (.bool v10)))))] [(2, .box [.pure (.sl (p0.fVersions.map Ai)), .pure (.sl (p0.fNow.map Ai)), .pure (.sl (p0.fTarget.map Ai)), .pure (.sl (p0.fTables.map Aq))]), (3, .box [.pure (.sl (p1.fBase.map Ai)), .pure (.sl (p1.fNext.map Ai)), .pure (.sl (p1.fHeld.map Bk))])]) (fun j10 h => ?_) (fun v10 h => ?_)
      ·refine Aa Ac rfl (qf CB rfl (ql Bc rfl (qm rfl ?_)))
       obtain ⟨v11, a11, b11, h⟩ := Aj h
       refine qi AE Dm a11 (Ag b11) rfl (qk Ci rfl (AY rfl (qm rfl ?_)))
       refine AB (t := 51) rfl (fun c12 => ?_) (fun c12 => ?_)
       ·have h := Am c12 h
        refine qn rfl (qn rfl (qn rfl (qn rfl (qn rfl (qn rfl (qn rfl (qn rfl (qn rfl (qn rfl (qn rfl (qp rfl (qm rfl (qn rfl (qn rfl (qn rfl (qn rfl (qn rfl (qn rfl (qp rfl (qm rfl (qn rfl (qn rfl (qn rfl (qn rfl (qn rfl (qn rfl (qn rfl (qn rfl (qn rfl (qn rfl (qn rfl (qp rfl (AI (by kernel_rfl) ?_)))))))))))))))))))))))))))))))))
        exact Au _ h (sm [] _ _ rfl rfl)
       ·have h := Al c12 h
        refine qf CB rfl (ql Bc rfl (qm rfl ?_))
        obtain ⟨v13, a13, b13, h⟩ := Aj h
        refine qi AE Dm a13 (Ag b13) rfl (qk Ci rfl (qf Bs rfl (ql Bc rfl (qm rfl ?_))))
        obtain ⟨v14, a14, b14, h⟩ := Aj h
        refine qi AE Dm a14 (Ag b14) rfl (qk Ci rfl (C6 rfl (qp rfl (qm rfl ?_))))
        refine AB (t := 64) rfl (fun c15 => ?_) (fun c15 => ?_)
        ·have h := Am c15 h
         refine qn rfl (qn rfl (qn rfl (qn rfl (qn rfl (qn rfl (qp rfl (qm rfl (qn rfl (qn rfl (qn rfl (qn rfl (qn rfl (qn rfl (qn rfl (qn rfl (qn rfl (qn rfl (qn rfl (qp rfl (AI (by kernel_rfl) ?_))))))))))))))))))))
         exact Au _ h (sm [] _ _ rfl rfl)
        ·have h := Al c15 h
         refine qf BR rfl (ql Bc rfl (qm rfl ?_))
         obtain ⟨v16, a16, b16, h⟩ := Aj h
         refine qi AE Dm a16 (Ag b16) rfl (qk Ci rfl (AY rfl (qp rfl (qm rfl ?_))))
         refine AB (t := 72) rfl (fun c17 => ?_) (fun c17 => ?_)
         ·have h := Am c17 h
          refine qn rfl (qn rfl (qn rfl (qn rfl (qn rfl (qn rfl (qn rfl (qn rfl (qn rfl (qn rfl (qn rfl (qp rfl (AI (by kernel_rfl) ?_))))))))))))
          exact Au _ h (sm [] _ _ rfl rfl)
         ·have h := Al c17 h
          refine qf BR rfl (ql Bc rfl (qm rfl ?_))
          obtain ⟨v18, a18, b18, h⟩ := Aj h
          refine qi AE Dm a18 (Ag b18) rfl (qk Ci rfl (qf Bs rfl (ql Bc rfl (qm rfl ?_))))
          obtain ⟨v19, a19, b19, h⟩ := Aj h
          refine qi AE Dm a19 (Ag b19) rfl (qk Ci rfl (C6 rfl (qp rfl (AI (by kernel_rfl) ?_))))
          exact Au _ h (sm [] _ _ rfl rfl)
      ·refine Ao rfl (fun c20 => ?_) (fun c20 => ?_)
       ·have h := Am c20 h
        refine Ab (Aa Ac rfl (qa rfl (Ad ?_)))
        obtain rfl := sj h
        refine Ak (sm [] [(4, .e (.one (.pure (.val (.int .i64 7)))))] [] rfl rfl) (Ax ?_)
        exact ⟨⟨[_], ⟨.tmp _ _ rfl, trivial⟩, rfl⟩, trivial⟩
       ·have h := Al c20 h
        refine Ar (Ab (Aa Ac rfl (qf CB rfl (ql Bc rfl (qm rfl ?_)))))
        obtain ⟨v21, a21, b21, h⟩ := Aj h
        refine qi AE Dm a21 (Ag b21) rfl (qk Ci rfl (qf BR rfl (ql Bc rfl (qm rfl ?_))))
        obtain ⟨v22, a22, b22, h⟩ := Aj h
        refine qi AE Dm a22 (Ag b22) rfl (qk Ci rfl (BA rfl (AI (by kernel_rfl) ?_)))
        refine Ao rfl (fun c23 => ?_) (fun c23 => ?_)
        ·have h := Am c23 h
         refine Ab (Aa Ac rfl (qa rfl (Ad ?_)))
         obtain rfl := sj h
         refine Ak (sm [] [(4, .e (.one (.pure (.val (.int .i64 1)))))] [] rfl rfl) (Ax ?_)
         exact ⟨⟨[_], ⟨.tmp _ _ rfl, trivial⟩, rfl⟩, trivial⟩
        ·have h := Al c23 h
         refine Ar (Aa Ac rfl (qm rfl (AU rfl (qa rfl (Ad ?_)))))
         exact Au _ h (sm [] _ _ rfl rfl)
     ·have h := Al c9 h
      refine AW ?_
      exact Au _ h (sm [] _ _ rfl rfl)
    ·refine Ak hs (Ab (Ab (Aa Ac rfl (qa rfl (Ad ?_)))))
     refine AJ (L := BH N p0 p1) h (fun v24 => mk [(2, .e (.one (.ptr 2 0))), (3, .e (.one (.ptr 3 0))), (8, .e (.one (.pure (.val (.int .i64 v24)))))] [(2, .box [.pure (.sl (p0.fVersions.map Ai)), .pure (.sl (p0.fNow.map Ai)), .pure (.sl (p0.fTarget.map Ai)), .pure (.sl (p0.fTables.map Aq))]), (3, .box [.pure (.sl (p1.fBase.map Ai)), .pure (.sl (p1.fNext.map Ai)), .pure (.sl (p1.fHeld.map Bk))])]) (fun v25 => mk [] []) (fun _ _ => rfl) (sm [] _ _ rfl rfl) (fun j24 n24 v24 h => ?_) (fun v25 s h hs => ?_)
     ·unfold BH at h
      refine Ab (Ab (Aa Ac rfl (qm rfl (qf CO rfl (ql GV rfl (AR DR rfl (AY rfl (Ad ?_))))))))
      refine Ao rfl (fun c26 => ?_) (fun c26 => ?_)
      ·have h := Am c26 h
       refine Ar (Ab (AN (Ab (Aa Ac rfl (qf CO rfl (ql GV rfl (qm rfl ?_)))))))
       obtain ⟨v27, a27, b27, h⟩ := Aj h
       refine qi DR DP a27 (Ag b27) rfl (qK GT DP rfl (qz JA rfl (qs DP rfl (Ad (Ab (Aa Ac rfl (qf Bs rfl (ql Bc rfl (qf C3 rfl (ql Ci rfl ?_))))))))))
       obtain ⟨v28, a28, b28, h⟩ := Aj h
       refine qi AE Dm a28 (Ag b28) rfl (qk Ci rfl ?_)
       obtain ⟨c29, h⟩ := AK h
       refine G8 rfl c29 (Cs rfl (qa rfl (Ad ?_)))
       refine AP h (fun v30 => mk [(2, .e (.one (.ptr 2 0))), (3, .e (.one (.ptr 3 0))), (8, .e (.one (.pure (.val (.int .i64 v24))))), (153, .e (.one (.pure (.val (.bool v30)))))] [(2, .box [.pure (.sl (p0.fVersions.map Ai)), .pure (.sl (p0.fNow.map Ai)), .pure (.sl (p0.fTarget.map Ai)), .pure (.sl (p0.fTables.map Aq))]), (3, .box [.pure (.sl (p1.fBase.map Ai)), .pure (.sl (p1.fNext.map Ai)), .pure (.sl (p1.fHeld.map Bk))])]) (fun j30 h => ?_) (fun v30 h => ?_)
       ·refine Aa Ac rfl (qL GT DP rfl ?_)
        obtain ⟨v31, a31, h⟩ := bind_some h
        refine AD [] (Cl N v27 v31 a31) Nq rfl (Cu rfl (qm rfl ?_))
        refine AB (t := 119) rfl (fun c32 => ?_) (fun c32 => ?_)
        ·have h := Am c32 h
         refine qf Cx rfl (ql Gq rfl (qm rfl ?_))
         obtain ⟨v33, a33, b33, h⟩ := Aj h
         refine qi C5 Fa a33 (Ag b33) rfl (qk IF rfl (BX rfl (qp rfl (qm rfl ?_))))
         refine AB (t := 127) rfl (fun c34 => ?_) (fun c34 => ?_)
         ·have h := Am c34 h
          refine qn rfl (qn rfl (qn rfl (qu rfl (qu rfl (qu rfl (qu rfl (qu rfl (qu rfl (qu rfl (qu rfl (qu rfl (qu rfl (qu rfl (qu rfl (qu rfl (qu rfl (qu rfl (qu rfl (qu rfl (qu rfl (qu rfl (qu rfl (qu rfl (qn rfl (qp rfl (AI (by kernel_rfl) ?_))))))))))))))))))))))))))
          exact Au _ h (sm [] _ _ rfl rfl)
         ·have h := Al c34 h
          refine qL GT DP rfl ?_
          obtain ⟨v35, a35, h⟩ := bind_some h
          refine AD [] (Cl N v27 v35 a35) Nq rfl (qm rfl ?_)
          refine AB (t := 130) rfl (fun c36 => ?_) (fun c36 => ?_)
          ·have h := Am c36 h
           refine qf Cx rfl (ql Gq rfl (qm rfl ?_))
           obtain ⟨v37, a37, b37, h⟩ := Aj h
           refine qi C5 Fa a37 (Ag b37) rfl (qk IF rfl (qm rfl (Hv rfl (BX rfl (qm rfl ?_)))))
           refine AB (t := 139) rfl (fun c38 => ?_) (fun c38 => ?_)
           ·have h := Am c38 h
            refine qn rfl (qn rfl (qn rfl (qn rfl (qn rfl (qn rfl (qn rfl (qn rfl (qn rfl (qn rfl (qn rfl (qp rfl (qp rfl (qp rfl (AI (by kernel_rfl) ?_))))))))))))))
            exact Au _ h (sm [] _ _ rfl rfl)
           ·have h := Al c38 h
            refine qL AV Av rfl (qf C3 rfl (ql Ci rfl ?_))
            obtain ⟨v39, a39, h⟩ := bind_some h
            refine AD [] (E1 N p1 v27.fFrom v39 a39) SG rfl (qf Cx rfl (ql Gq rfl (qm rfl ?_)))
            obtain ⟨v40, a40, b40, h⟩ := Aj h
            refine qi C5 Fa a40 (Ag b40) rfl (qk IF rfl (Hv rfl (BX rfl (qp rfl (qp rfl (qp rfl (AI (by kernel_rfl) ?_)))))))
            exact Au _ h (sm [] _ _ rfl rfl)
          ·have h := Al c36 h
           refine qn rfl (qn rfl (qn rfl (qn rfl (qn rfl (qn rfl (qn rfl (qn rfl (qn rfl (qu rfl (qu rfl (qu rfl (qu rfl (qu rfl (qu rfl (qu rfl (qu rfl (qu rfl (qu rfl (qu rfl (qn rfl (qp rfl (qp rfl (AI (by kernel_rfl) ?_)))))))))))))))))))))))
           exact Au _ h (sm [] _ _ rfl rfl)
        ·have h := Al c32 h
         refine qn rfl (qn rfl (qn rfl (qn rfl (qn rfl (qn rfl (qp rfl (qm rfl (qL GT DP rfl ?_))))))))
         obtain ⟨v41, a41, h⟩ := bind_some h
         refine AD [] (Cl N v27 v41 a41) Nq rfl (qm rfl ?_)
         refine AB (t := 130) rfl (fun c42 => ?_) (fun c42 => ?_)
         ·have h := Am c42 h
          refine qf Cx rfl (ql Gq rfl (qm rfl ?_))
          obtain ⟨v43, a43, b43, h⟩ := Aj h
          refine qi C5 Fa a43 (Ag b43) rfl (qk IF rfl (qm rfl (Hv rfl (BX rfl (qm rfl ?_)))))
          refine AB (t := 139) rfl (fun c44 => ?_) (fun c44 => ?_)
          ·have h := Am c44 h
           refine qn rfl (qn rfl (qn rfl (qn rfl (qn rfl (qn rfl (qn rfl (qn rfl (qn rfl (qn rfl (qn rfl (qp rfl (qp rfl (qp rfl (AI (by kernel_rfl) ?_))))))))))))))
           exact Au _ h (sm [] _ _ rfl rfl)
          ·have h := Al c44 h
           refine qL AV Av rfl (qf C3 rfl (ql Ci rfl ?_))
           obtain ⟨v45, a45, h⟩ := bind_some h
           refine AD [] (E1 N p1 v27.fFrom v45 a45) SG rfl (qf Cx rfl (ql Gq rfl (qm rfl ?_)))
           obtain ⟨v46, a46, b46, h⟩ := Aj h
           refine qi C5 Fa a46 (Ag b46) rfl (qk IF rfl (Hv rfl (BX rfl (qp rfl (qp rfl (qp rfl (AI (by kernel_rfl) ?_)))))))
           exact Au _ h (sm [] _ _ rfl rfl)
         ·have h := Al c42 h
          refine qn rfl (qn rfl (qn rfl (qn rfl (qn rfl (qn rfl (qn rfl (qn rfl (qn rfl (qu rfl (qu rfl (qu rfl (qu rfl (qu rfl (qu rfl (qu rfl (qu rfl (qu rfl (qu rfl (qu rfl (qn rfl (qp rfl (qp rfl (AI (by kernel_rfl) ?_)))))))))))))))))))))))
          exact Au _ h (sm [] _ _ rfl rfl)
       ·refine Ao rfl (fun c47 => ?_) (fun c47 => ?_)
        ·have h := Am c47 h
         refine Ab (Aa Ac rfl (qa rfl (Ad ?_)))
         obtain rfl := sj h
         refine Ak (sm [] [(4, .e (.one (.pure (.val (.int .i64 1)))))] [] rfl rfl) (Ax ?_)
         exact ⟨⟨[_], ⟨.tmp _ _ rfl, trivial⟩, rfl⟩, trivial⟩
        ·have h := Al c47 h
         refine Ar (Aa Ac rfl (qm rfl (AU rfl (qa rfl (Ad ?_)))))
         exact Au _ h (sm [] _ _ rfl rfl)
      ·have h := Al c26 h
       refine AW ?_
       exact Au _ h (sm [] _ _ rfl rfl)
     ·refine Ak hs (Ab (Aa Ac rfl (qa rfl (Ad ?_))))
      obtain rfl := sj h
      refine Ak (sm [] [(4, .e (.one (.pure (.val (.int .i64 0)))))] [] rfl rfl) (Ax ?_)
      exact ⟨⟨[_], ⟨.tmp _ _ rfl, trivial⟩, rfl⟩, trivial⟩
set_option maxRecDepth 10000 in
theorem Jd (N : Nat) (p0 : Ap) (r : Bool) (h : DO N p0 = some r) : Az Tryz.prog 93 [.e (.agg [.pure (.val (.int .i64 p0.fKind)), .pure (.val (.int .i64 p0.fIndex)), .pure (.val (.int .i64 p0.fVersion))])] [] (.e (.one (.pure (.val (.bool r))))) := by
 unfold DO at h
 refine As (n := 31) (rs := [.tmp 2]) Tryz.func93 rfl rfl rfl (A1 rfl) (A1 rfl) rfl fun w0 S0 => ?_
 refine Ab (Aa Ac rfl (qb rfl (qa rfl (Ad ?_))))
 refine AP h (fun v1 => mk [(2, .e (.one (.pure (.val (.bool v1)))))] []) (fun j1 h => ?_) (fun v1 h => ?_)
 ·refine Aa Ac rfl (qf EM rfl (ql Ci rfl (C6 rfl (qm rfl ?_))))
  refine AB (t := 6) rfl (fun c2 => ?_) (fun c2 => ?_)
  ·have h := Am c2 h
   refine qf EM rfl (ql Ci rfl (JH rfl (qp rfl (qm rfl ?_))))
   refine AB (t := 11) rfl (fun c3 => ?_) (fun c3 => ?_)
   ·have h := Am c3 h
    refine qf Eb rfl (ql Ci rfl (C6 rfl (qp rfl (qm rfl ?_))))
    refine AB (t := 16) rfl (fun c4 => ?_) (fun c4 => ?_)
    ·have h := Am c4 h
     refine qf FN rfl (ql Ci rfl (C6 rfl (qp rfl (qm rfl ?_))))
     refine AB (t := 21) rfl (fun c5 => ?_) (fun c5 => ?_)
     ·have h := Am c5 h
      refine qf EM rfl (ql Ci rfl (BA rfl (qm rfl ?_)))
      refine AB (t := 25) rfl (fun c6 => ?_) (fun c6 => ?_)
      ·have h := Am c6 h
       refine qn rfl (qn rfl (qn rfl (qp rfl (qp rfl (qa rfl (Ad ?_))))))
       exact Au _ h (sm [] _ _ rfl rfl)
      ·have h := Al c6 h
       refine qf FN rfl (ql Ci rfl (BA rfl (qp rfl (qp rfl (qa rfl (Ad ?_))))))
       exact Au _ h (sm [] _ _ rfl rfl)
     ·have h := Al c5 h
      refine qn rfl (qn rfl (qn rfl (qn rfl (qu rfl (qu rfl (qu rfl (qn rfl (qp rfl (qa rfl (Ad ?_))))))))))
      exact Au _ h (sm [] _ _ rfl rfl)
    ·have h := Al c4 h
     refine qn rfl (qn rfl (qn rfl (qp rfl (qm rfl (qn rfl (qn rfl (qn rfl (qn rfl (qu rfl (qu rfl (qu rfl (qn rfl (qp rfl (qa rfl (Ad ?_)))))))))))))))
     exact Au _ h (sm [] _ _ rfl rfl)
   ·have h := Al c3 h
    refine qn rfl (qn rfl (qn rfl (qp rfl (qm rfl (qn rfl (qn rfl (qn rfl (qp rfl (qm rfl (qn rfl (qn rfl (qn rfl (qn rfl (qu rfl (qu rfl (qu rfl (qn rfl (qp rfl (qa rfl (Ad ?_))))))))))))))))))))
    exact Au _ h (sm [] _ _ rfl rfl)
  ·have h := Al c2 h
   refine qn rfl (qn rfl (qn rfl (qp rfl (qm rfl (qn rfl (qn rfl (qn rfl (qp rfl (qm rfl (qn rfl (qn rfl (qn rfl (qp rfl (qm rfl (qn rfl (qn rfl (qn rfl (qn rfl (qu rfl (qu rfl (qu rfl (qn rfl (qp rfl (qa rfl (Ad ?_)))))))))))))))))))))))))
   exact Au _ h (sm [] _ _ rfl rfl)
 ·obtain rfl := sj h
  refine Ak (sm [] [(2, .e (.one (.pure (.val (.bool v1)))))] [] rfl rfl) (Ax ?_)
  exact ⟨⟨[_], ⟨.tmp _ _ rfl, trivial⟩, rfl⟩, trivial⟩
set_option maxRecDepth 10000 in
theorem HB (N : Nat) (p0 : Int) (p1 : Int) (r : Bool) (h : DA N p0 p1 = some r) : Az Tryz.prog 53 [.e (.one (.pure (.val (.int .u8 p0)))), .e (.one (.pure (.val (.int .i64 p1))))] [] (.e (.one (.pure (.val (.bool r))))) := by
 unfold DA at h
 refine As (n := 10) (rs := [.tmp 4]) Tryz.func53 rfl rfl rfl (A1 rfl) (A1 rfl) rfl fun w0 S0 => ?_
 refine Ab (Aa Ac rfl (qa rfl (Ad (Ab (Aa Ac rfl (qm rfl (qm rfl ?_)))))))
 obtain ⟨c1, h⟩ := AK h
 refine Gz rfl c1 (J1 rfl (BA rfl (qa rfl (Ad ?_))))
 obtain rfl := sj h
 refine Ak (sm [] [(4, .e (.one (.pure (.val (.bool (((Fm .u8 ((D0 .u8 p0 p1)) 1) == 1)))))))] [] rfl rfl) (Ax ?_)
 exact ⟨⟨[_], ⟨.tmp _ _ rfl, trivial⟩, rfl⟩, trivial⟩
set_option maxRecDepth 10000 in
theorem Jb (N : Nat) (p0 : Ah) (p1 : Ae) (p2 : Ap) (r : Ae × Bool) (h : De N p0 p1 p2 = some r) : Az Tryz.prog 27 [.e (.agg [.pure (.sl (p0.fVersions.map Ai)), .pure (.sl (p0.fNow.map Ai)), .pure (.sl (p0.fTarget.map Ai)), .pure (.sl (p0.fTables.map Aq))]), .e (.agg [.pure (.sl (p1.fBase.map Ai)), .pure (.sl (p1.fNext.map Ai)), .pure (.sl (p1.fHeld.map Bk))]), .e (.agg [.pure (.val (.int .i64 p2.fKind)), .pure (.val (.int .i64 p2.fIndex)), .pure (.val (.int .i64 p2.fVersion))])] [(1, r.1.fBase.map Ai), (1, r.1.fNext.map Ai), (1, r.1.fHeld.map Bk)] (.tup [.agg [.own 0, .own 1, .own 2], .one (.pure (.val (.bool r.2)))]) := by
 unfold De at h
 refine As (n := 201) (rs := [.cell 6 50, .tmp 7]) Tryz.func27 rfl rfl rfl (A1 rfl) (A1 rfl) rfl fun w0 S0 => ?_
 refine Ab (Aa Ac rfl (qb rfl (qb rfl (qb rfl (qz Ct rfl (qa rfl (Ad (Ab (Aa Ac rfl (D4 AE Dm Kj rfl (qf CB rfl (ql Bc rfl ?_))))))))))))
 obtain ⟨c1, h⟩ := AK h
 refine Kk (f := Ai) AE AE Dm Lg Kj (fun _ => rfl) c1 rfl (D4 AE Dm Kj rfl (qf BR rfl (ql Bc rfl ?_)))
 obtain ⟨c2, h⟩ := AK h
 refine Kk (f := Ai) AE AE Dm Lg Kj (fun _ => rfl) c2 rfl (D4 C5 Fa Ol rfl (qf Cx rfl (ql Gq rfl ?_)))
 obtain ⟨c3, h⟩ := AK h
 refine Kk (f := Bk) C5 C5 Fa OY Ol (fun _ => rfl) c3 rfl (BE Ct GE rfl (qz Ct rfl (qs Av rfl (AI (by kernel_rfl) (Ab (Aa Ac rfl (qf Eb rfl (ql Ci rfl (qa rfl (Ad ?_))))))))))
 refine AP h (fun v4 => mk [(6, .e (.one (.ptr 6 0))), (8, .e (.one (.ptr 8 0)))] [(6, .box [.pure (.nil0), .pure (.nil0), .pure (.nil0)]), (8, .box [.own 2001, .own 2002, .own 2003]), (2001, .vec 1 (v4.1.map Ai)), (2002, .vec 1 (v4.2.1.map Ai)), (2003, .vec 1 (v4.2.2.map Bk))]) (fun j4 h => ?_) (fun v4 h => ?_)
 ·refine Ab (Aa Ac rfl (qf EM rfl (ql Ci rfl (Ad (AN (Ab (Aa Ac rfl (BA rfl (qa rfl (Ad ?_))))))))))
  refine Ao rfl (fun c5 => ?_) (fun c5 => ?_)
  ·have h := Am c5 h
   refine Ab ?_
   refine AP h (fun v6 => mk [(3, .e (.one (.ptr 3 0))), (5, .e (.one (.ptr 5 0))), (6, .e (.one (.ptr 6 0))), (8, .e (.one (.ptr 8 0))), (9, .e (.one (.pure (.val (.int .i64 p2.fIndex))))), (60, .e (.one (.pure (.val (.bool v6)))))] [(3, .box [.pure (.sl (p0.fVersions.map Ai)), .pure (.sl (p0.fNow.map Ai)), .pure (.sl (p0.fTarget.map Ai)), .pure (.sl (p0.fTables.map Aq))]), (5, .box [.pure (.val (.int .i64 p2.fKind)), .pure (.val (.int .i64 p2.fIndex)), .pure (.val (.int .i64 p2.fVersion))]), (6, .box [.pure (.nil0), .pure (.nil0), .pure (.nil0)]), (8, .box [.own 2004, .own 2005, .own 2006]), (2004, .vec 1 (((([] : List Int)) ++ p1.fBase).map Ai)), (2005, .vec 1 (((([] : List Int)) ++ p1.fNext).map Ai)), (2006, .vec 1 (((([] : List Int)) ++ p1.fHeld).map Bk))]) (fun j6 h => ?_) (fun v6 h => ?_)
   ·refine Aa Ac rfl (qf BR rfl (ql Bc rfl (qm rfl ?_)))
    obtain ⟨v7, a7, b7, h⟩ := Aj h
    refine qi AE Dm a7 (Ag b7) rfl (qk Ci rfl (C6 rfl (qm rfl ?_)))
    refine AB (t := 51) rfl (fun c8 => ?_) (fun c8 => ?_)
    ·have h := Am c8 h
     refine qn rfl (qn rfl (qn rfl (qn rfl (qn rfl (qn rfl (qn rfl (qn rfl (qp rfl (AI (by kernel_rfl) ?_)))))))))
     exact Au _ h (sm [(2004, 18), (2005, 22), (2006, 26)] _ _ rfl rfl)
    ·have h := Al c8 h
     refine qf FN rfl (ql Ci rfl (qf CB rfl (ql Bc rfl (qm rfl ?_))))
     obtain ⟨v9, a9, b9, h⟩ := Aj h
     refine qi AE Dm a9 (Ag b9) rfl (qk Ci rfl (BA rfl (qp rfl (AI (by kernel_rfl) ?_))))
     exact Au _ h (sm [(2004, 18), (2005, 22), (2006, 26)] _ _ rfl rfl)
   ·refine Ao rfl (fun c10 => ?_) (fun c10 => ?_)
    ·have h := Am c10 h
     refine Ab (Aa Ac rfl (BE Ct GE rfl (qs Av rfl (qa rfl (Ad ?_)))))
     obtain rfl := sj h
     refine Ak ((AA 6 0 2007 1 _ rfl rfl rfl rfl).trans ((AA 6 1 2008 1 _ rfl rfl rfl rfl).trans ((AA 6 2 2009 1 _ rfl rfl rfl rfl).trans (sm [(1000, 2007), (1001, 2008), (1002, 2009)] [(6, .e (.one (.ptr 6 0))), (7, .e (.one (.pure (.val (.bool false)))))] [(6, .box [.own 1000, .own 1001, .own 1002]), (1000, .vec 1 ((([] : List Int)).map Ai)), (1001, .vec 1 ((([] : List Int)).map Ai)), (1002, .vec 1 ((([] : List Int)).map Bk))] rfl rfl)))) (Ax ?_)
     exact ⟨⟨[_, _], ⟨.cellN _ _ _ _ _ _ _ rfl rfl AV Av rfl rfl (HC rfl), ⟨.tmp _ _ rfl, trivial⟩⟩, rfl⟩, ⟨rfl, rfl, rfl, trivial⟩⟩
    ·have h := Al c10 h
     refine Ar (Ab (Aa Ac rfl (qf BR rfl (ql Bc rfl (qm rfl (qf FN rfl (ql Ci rfl ?_)))))))
     obtain ⟨v11, a11, b11, h⟩ := Aj h
     refine qI AE Dm a11 (Ag b11) rfl ?_
     refine A2 rfl rfl rfl rfl (Ag b11) rfl Dm rfl (A1 rfl) (A3 Ai ((([] : List Int)) ++ p1.fNext) _ p2.fVersion) ?_
     refine Ad (Ab (Aa Ac rfl (qa rfl (Ad ?_))))
     refine AJ (L := BF N p0 p2) h (fun v12 => mk [(3, .e (.one (.ptr 3 0))), (5, .e (.one (.ptr 5 0))), (6, .e (.one (.ptr 6 0))), (8, .e (.one (.ptr 8 0))), (9, .e (.one (.pure (.val (.int .i64 p2.fIndex))))), (10, .e (.one (.pure (.val (.int .i64 v12.2)))))] [(3, .box [.pure (.sl (p0.fVersions.map Ai)), .pure (.sl (p0.fNow.map Ai)), .pure (.sl (p0.fTarget.map Ai)), .pure (.sl (p0.fTables.map Aq))]), (5, .box [.pure (.val (.int .i64 p2.fKind)), .pure (.val (.int .i64 p2.fIndex)), .pure (.val (.int .i64 p2.fVersion))]), (6, .box [.pure (.nil0), .pure (.nil0), .pure (.nil0)]), (8, .box [.own 2010, .own 2011, .own 2012]), (2010, .vec 1 (((([] : List Int)) ++ p1.fBase).map Ai)), (2011, .vec 1 ((((([] : List Int)) ++ p1.fNext).set ((p2.fIndex).toNat) p2.fVersion).map Ai)), (2012, .vec 1 (v12.1.map Bk))]) (fun v13 => mk [(6, .e (.one (.ptr 6 0))), (8, .e (.one (.ptr 8 0)))] [(6, .box [.pure (.nil0), .pure (.nil0), .pure (.nil0)]), (8, .box [.own 2013, .own 2014, .own 2015]), (2013, .vec 1 (((([] : List Int)) ++ p1.fBase).map Ai)), (2014, .vec 1 ((((([] : List Int)) ++ p1.fNext).set ((p2.fIndex).toNat) p2.fVersion).map Ai)), (2015, .vec 1 (v13.map Bk))]) (fun _ _ => rfl) (sm [(2010, 2004), (2011, 2005), (2012, 2006)] _ _ rfl rfl) (fun j12 n12 v12 h => ?_) (fun v13 s h hs => ?_)
     ·unfold BF at h
      refine Ab (Ab (Aa Ac rfl (qm rfl (qf CO rfl (ql GV rfl (AR DR rfl (AY rfl (Ad ?_))))))))
      refine Ao rfl (fun c14 => ?_) (fun c14 => ?_)
      ·have h := Am c14 h
       refine Ar ?_
       refine AP h (fun v15 => mk [(3, .e (.one (.ptr 3 0))), (5, .e (.one (.ptr 5 0))), (6, .e (.one (.ptr 6 0))), (8, .e (.one (.ptr 8 0))), (9, .e (.one (.pure (.val (.int .i64 p2.fIndex))))), (10, .e (.one (.pure (.val (.int .i64 v12.2)))))] [(3, .box [.pure (.sl (p0.fVersions.map Ai)), .pure (.sl (p0.fNow.map Ai)), .pure (.sl (p0.fTarget.map Ai)), .pure (.sl (p0.fTables.map Aq))]), (5, .box [.pure (.val (.int .i64 p2.fKind)), .pure (.val (.int .i64 p2.fIndex)), .pure (.val (.int .i64 p2.fVersion))]), (6, .box [.pure (.nil0), .pure (.nil0), .pure (.nil0)]), (8, .box [.own 2016, .own 2017, .own 2018]), (2016, .vec 1 (((([] : List Int)) ++ p1.fBase).map Ai)), (2017, .vec 1 ((((([] : List Int)) ++ p1.fNext).set ((p2.fIndex).toNat) p2.fVersion).map Ai)), (2018, .vec 1 (v15.map Bk))]) (fun j15 h => ?_) (fun v15 h => ?_)
       ·refine AN ?_
        refine AP h (fun v16 => mk [(3, .e (.one (.ptr 3 0))), (5, .e (.one (.ptr 5 0))), (6, .e (.one (.ptr 6 0))), (8, .e (.one (.ptr 8 0))), (9, .e (.one (.pure (.val (.int .i64 p2.fIndex))))), (10, .e (.one (.pure (.val (.int .i64 v12.2))))), (90, .e (.one (.pure (.val (.bool v16)))))] [(3, .box [.pure (.sl (p0.fVersions.map Ai)), .pure (.sl (p0.fNow.map Ai)), .pure (.sl (p0.fTarget.map Ai)), .pure (.sl (p0.fTables.map Aq))]), (5, .box [.pure (.val (.int .i64 p2.fKind)), .pure (.val (.int .i64 p2.fIndex)), .pure (.val (.int .i64 p2.fVersion))]), (6, .box [.pure (.nil0), .pure (.nil0), .pure (.nil0)]), (8, .box [.own 2019, .own 2020, .own 2021]), (2019, .vec 1 (((([] : List Int)) ++ p1.fBase).map Ai)), (2020, .vec 1 ((((([] : List Int)) ++ p1.fNext).set ((p2.fIndex).toNat) p2.fVersion).map Ai)), (2021, .vec 1 (v12.1.map Bk))]) (fun j16 h => ?_) (fun v16 h => ?_)
        ·refine Aa Ac rfl (qf CO rfl (ql GV rfl (qm rfl ?_)))
         obtain ⟨v17, a17, b17, h⟩ := Aj h
         refine qi DR DP a17 (Ag b17) rfl (qg C3 rfl (qk Ci rfl (qm rfl (BA rfl (qm rfl ?_)))))
         refine AB (t := 83) rfl (fun c18 => ?_) (fun c18 => ?_)
         ·have h := Am c18 h
          refine qf CO rfl (ql GV rfl (qm rfl ?_))
          obtain ⟨v19, a19, b19, h⟩ := Aj h
          refine qi DR DP a19 (Ag b19) rfl (qK GT DP rfl ?_)
          obtain ⟨v20, a20, h⟩ := bind_some h
          refine AD [] (Cl N v19 v20 a20) Nq rfl (qp rfl (Ad ?_))
          exact Au _ h (sm [(2019, 2010), (2020, 2011), (2021, 2012)] _ _ rfl rfl)
         ·have h := Al c18 h
          refine qn rfl (qn rfl (qn rfl (qn rfl (qn rfl (qn rfl (qp rfl (Ad ?_)))))))
          exact Au _ h (sm [(2019, 2010), (2020, 2011), (2021, 2012)] _ _ rfl rfl)
        ·refine Ao rfl (fun c21 => ?_) (fun c21 => ?_)
         ·have h := Am c21 h
          refine Aa Ac rfl (qf Cx rfl (ql Gq rfl (qm rfl (qf Cx rfl (ql Gq rfl (qm rfl ?_))))))
          obtain ⟨v22, a22, b22, h⟩ := Aj h
          refine qI C5 Fa a22 (Ag b22) rfl (qj IF (Ag b22) rfl (qf FN rfl (ql Ci rfl ?_)))
          obtain ⟨c23, h⟩ := AK h
          refine G8 rfl c23 (PO rfl ?_)
          obtain ⟨v24, a24, b24, h⟩ := Aj h
          refine qI C5 Fa a24 (Ag b24) rfl ?_
          refine A2 rfl rfl rfl rfl (Ag b24) rfl Fa rfl (A1 rfl) (A3 Bk v12.1 _ ((LU .u8 v22 ((Co .u8 1 p2.fVersion))))) ?_
          refine AI (by kernel_rfl) ?_
          exact Au _ h (sm [(2016, 2019), (2017, 2020), (2018, 2021)] _ _ rfl rfl)
         ·have h := Al c21 h
          refine Ar ?_
          exact Au _ h (sm [(2016, 2019), (2017, 2020), (2018, 2021)] _ _ rfl rfl)
       ·refine Aa Ac rfl (qm rfl (AU rfl (qa rfl (Ad ?_))))
        exact Au _ h (sm [(2010, 2016), (2011, 2017), (2012, 2018)] _ _ rfl rfl)
      ·have h := Al c14 h
       refine AW ?_
       exact Au _ h (sm [(2013, 2010), (2014, 2011), (2015, 2012)] _ _ rfl rfl)
     ·exact Au _ h (hs.trans (sm [(2001, 2013), (2002, 2014), (2003, 2015)] _ _ rfl rfl))
  ·have h := Al c5 h
   refine Ab (Aa Ac rfl (BA rfl (qa rfl (Ad ?_))))
   refine Ao rfl (fun c25 => ?_) (fun c25 => ?_)
   ·have h := Am c25 h
    refine Ab (Ab (Aa Ac rfl (qf BR rfl (ql Bc rfl (qm rfl ?_)))))
    obtain ⟨v26, a26, b26, h⟩ := Aj h
    refine qi AE Dm a26 (Ag b26) rfl (qk Ci rfl (AY rfl (Ad ?_)))
    refine Ao rfl (fun c27 => ?_) (fun c27 => ?_)
    ·have h := Am c27 h
     refine Ab (Aa Ac rfl (BE Ct GE rfl (qs Av rfl (qa rfl (Ad ?_)))))
     obtain rfl := sj h
     refine Ak ((AA 6 0 2022 1 _ rfl rfl rfl rfl).trans ((AA 6 1 2023 1 _ rfl rfl rfl rfl).trans ((AA 6 2 2024 1 _ rfl rfl rfl rfl).trans (sm [(1000, 2022), (1001, 2023), (1002, 2024)] [(6, .e (.one (.ptr 6 0))), (7, .e (.one (.pure (.val (.bool false)))))] [(6, .box [.own 1000, .own 1001, .own 1002]), (1000, .vec 1 ((([] : List Int)).map Ai)), (1001, .vec 1 ((([] : List Int)).map Ai)), (1002, .vec 1 ((([] : List Int)).map Bk))] rfl rfl)))) (Ax ?_)
     exact ⟨⟨[_, _], ⟨.cellN _ _ _ _ _ _ _ rfl rfl AV Av rfl rfl (HC rfl), ⟨.tmp _ _ rfl, trivial⟩⟩, rfl⟩, ⟨rfl, rfl, rfl, trivial⟩⟩
    ·have h := Al c27 h
     refine Ar (Aa Ac rfl (qf CB rfl (ql Bc rfl (qm rfl (qf BR rfl (ql Bc rfl (qm rfl (qf BR rfl (ql Bc rfl (qm rfl ?_))))))))))
     obtain ⟨v28, a28, b28, h⟩ := Aj h
     refine qi AE Dm a28 (Ag b28) rfl (qk Ci rfl ?_)
     obtain ⟨v29, a29, b29, h⟩ := Aj h
     refine qI AE Dm a29 (Ag b29) rfl ?_
     refine A2 rfl rfl rfl rfl (Ag b29) rfl Dm rfl (A1 rfl) (A3 Ai ((([] : List Int)) ++ p1.fBase) _ v28) ?_
     obtain ⟨v30, a30, b30, h⟩ := Aj h
     refine qI AE Dm a30 (Ag b30) rfl ?_
     refine A2 rfl rfl rfl rfl (Ag b30) rfl Dm rfl (A1 rfl) (A3 Ai ((([] : List Int)) ++ p1.fNext) _ ((-1))) ?_
     refine AI (by kernel_rfl) ?_
     exact Au _ h (sm [(2001, 18), (2002, 22), (2003, 26)] _ _ rfl rfl)
   ·have h := Al c25 h
    refine Ab (Aa Ac rfl (BA rfl (qa rfl (Ad ?_))))
    refine Ao rfl (fun c31 => ?_) (fun c31 => ?_)
    ·have h := Am c31 h
     refine Ab (Aa Ac rfl (qf CO rfl (ql GV rfl (qm rfl ?_))))
     obtain ⟨v32, a32, b32, h⟩ := Aj h
     refine qi DR DP a32 (Ag b32) rfl (qK GT DP rfl (qz JA rfl (qs DP rfl (Ad (Ab (Ab (Aa Ac rfl (qL GT DP rfl ?_))))))))
     obtain ⟨v33, a33, h⟩ := bind_some h
     refine AD [] (Cl N v32 v33 a33) Nq rfl (Cu rfl (Ad ?_))
     refine Ao rfl (fun c34 => ?_) (fun c34 => ?_)
     ·have h := Am c34 h
      refine Ab (Aa Ac rfl (BE Ct GE rfl (qs Av rfl (qa rfl (Ad ?_)))))
      obtain rfl := sj h
      refine Ak ((AA 6 0 2025 1 _ rfl rfl rfl rfl).trans ((AA 6 1 2026 1 _ rfl rfl rfl rfl).trans ((AA 6 2 2027 1 _ rfl rfl rfl rfl).trans (sm [(1000, 2025), (1001, 2026), (1002, 2027)] [(6, .e (.one (.ptr 6 0))), (7, .e (.one (.pure (.val (.bool false)))))] [(6, .box [.own 1000, .own 1001, .own 1002]), (1000, .vec 1 ((([] : List Int)).map Ai)), (1001, .vec 1 ((([] : List Int)).map Ai)), (1002, .vec 1 ((([] : List Int)).map Bk))] rfl rfl)))) (Ax ?_)
      exact ⟨⟨[_, _], ⟨.cellN _ _ _ _ _ _ _ rfl rfl AV Av rfl rfl (HC rfl), ⟨.tmp _ _ rfl, trivial⟩⟩, rfl⟩, ⟨rfl, rfl, rfl, trivial⟩⟩
     ·have h := Al c34 h
      refine Ar (Ab (Aa Ac rfl (qL AV Av rfl (qf C3 rfl (ql Ci rfl ?_)))))
      obtain ⟨v35, a35, h⟩ := bind_some h
      refine AD [] (E1 N p1 v32.fFrom v35 a35) SG rfl (qa rfl (Ad (Ab (Ab (Aa Ac rfl (qf Cx rfl (ql Gq rfl (qm rfl ?_))))))))
      obtain ⟨v36, a36, b36, h⟩ := Aj h
      refine qi C5 Fa a36 (Ag b36) rfl (qk IF rfl (qm rfl (BA rfl (Ad ?_))))
      refine Ao rfl (fun c37 => ?_) (fun c37 => ?_)
      ·have h := Am c37 h
       refine Ab (Aa Ac rfl (BE Ct GE rfl (qs Av rfl (qa rfl (Ad ?_)))))
       obtain rfl := sj h
       refine Ak ((AA 6 0 2028 1 _ rfl rfl rfl rfl).trans ((AA 6 1 2029 1 _ rfl rfl rfl rfl).trans ((AA 6 2 2030 1 _ rfl rfl rfl rfl).trans (sm [(1000, 2028), (1001, 2029), (1002, 2030)] [(6, .e (.one (.ptr 6 0))), (7, .e (.one (.pure (.val (.bool false)))))] [(6, .box [.own 1000, .own 1001, .own 1002]), (1000, .vec 1 ((([] : List Int)).map Ai)), (1001, .vec 1 ((([] : List Int)).map Ai)), (1002, .vec 1 ((([] : List Int)).map Bk))] rfl rfl)))) (Ax ?_)
       exact ⟨⟨[_, _], ⟨.cellN _ _ _ _ _ _ _ rfl rfl AV Av rfl rfl (HC rfl), ⟨.tmp _ _ rfl, trivial⟩⟩, rfl⟩, ⟨rfl, rfl, rfl, trivial⟩⟩
      ·have h := Al c37 h
       refine Ar (Ab (Ab (Aa Ac rfl (qa rfl (Ad ?_)))))
       refine AJ (L := Br N p0 p1 p2 v32 v35) h (fun v38 => mk [(3, .e (.one (.ptr 3 0))), (4, .e (.one (.ptr 4 0))), (6, .e (.one (.ptr 6 0))), (8, .e (.one (.ptr 8 0))), (9, .e (.one (.pure (.val (.int .i64 p2.fIndex))))), (11, .e (.one (.ptr 11 0))), (12, .e (.one (.pure (.val (.int .u8 v35))))), (13, .e (.one (.pure (.val (.int .i64 v38)))))] [(3, .box [.pure (.sl (p0.fVersions.map Ai)), .pure (.sl (p0.fNow.map Ai)), .pure (.sl (p0.fTarget.map Ai)), .pure (.sl (p0.fTables.map Aq))]), (4, .box [.pure (.sl (p1.fBase.map Ai)), .pure (.sl (p1.fNext.map Ai)), .pure (.sl (p1.fHeld.map Bk))]), (6, .box [.pure (.nil0), .pure (.nil0), .pure (.nil0)]), (8, .box [.own 2031, .own 2032, .own 2033]), (11, .box [.pure (.val (.int .i64 v32.fKind)), .pure (.val (.int .i64 v32.fFrom)), .pure (.val (.int .i64 v32.fTo)), .pure (.val (.bool v32.fAware)), .pure (.sl (v32.fOK.map (EQ eB))), .pure (.sl (v32.fRewrite.map (EQ eB)))]), (2031, .vec 1 (((([] : List Int)) ++ p1.fBase).map Ai)), (2032, .vec 1 (((([] : List Int)) ++ p1.fNext).map Ai)), (2033, .vec 1 (((([] : List Int)) ++ p1.fHeld).map Bk))]) (fun v39 => mk [(6, .e (.one (.ptr 6 0))), (8, .e (.one (.ptr 8 0))), (9, .e (.one (.pure (.val (.int .i64 p2.fIndex))))), (12, .e (.one (.pure (.val (.int .u8 v35)))))] [(6, .box [.pure (.nil0), .pure (.nil0), .pure (.nil0)]), (8, .box [.own 2034, .own 2035, .own 2036]), (2034, .vec 1 (((([] : List Int)) ++ p1.fBase).map Ai)), (2035, .vec 1 (((([] : List Int)) ++ p1.fNext).map Ai)), (2036, .vec 1 (((([] : List Int)) ++ p1.fHeld).map Bk))]) (fun _ _ => rfl) (sm [(2031, 18), (2032, 22), (2033, 26)] _ _ rfl rfl) (fun j38 n38 v38 h => ?_) (fun v39 s h hs => ?_)
       ·unfold Br at h
        refine Ab (Ab (Aa Ac rfl (qm rfl (qf Bs rfl (ql Bc rfl (qf C3 rfl (ql Ci rfl ?_)))))))
        obtain ⟨v40, a40, b40, h⟩ := Aj h
        refine qi AE Dm a40 (Ag b40) rfl (qk Ci rfl (AY rfl (Ad ?_)))
        refine Ao rfl (fun c41 => ?_) (fun c41 => ?_)
        ·have h := Am c41 h
         refine Ar (Ab (AN ?_))
         refine AP h (fun v42 => mk [(3, .e (.one (.ptr 3 0))), (4, .e (.one (.ptr 4 0))), (6, .e (.one (.ptr 6 0))), (8, .e (.one (.ptr 8 0))), (9, .e (.one (.pure (.val (.int .i64 p2.fIndex))))), (11, .e (.one (.ptr 11 0))), (12, .e (.one (.pure (.val (.int .u8 v35))))), (13, .e (.one (.pure (.val (.int .i64 v38))))), (14, .e (.one (.pure (.val (.bool v42)))))] [(3, .box [.pure (.sl (p0.fVersions.map Ai)), .pure (.sl (p0.fNow.map Ai)), .pure (.sl (p0.fTarget.map Ai)), .pure (.sl (p0.fTables.map Aq))]), (4, .box [.pure (.sl (p1.fBase.map Ai)), .pure (.sl (p1.fNext.map Ai)), .pure (.sl (p1.fHeld.map Bk))]), (6, .box [.pure (.nil0), .pure (.nil0), .pure (.nil0)]), (8, .box [.own 2037, .own 2038, .own 2039]), (11, .box [.pure (.val (.int .i64 v32.fKind)), .pure (.val (.int .i64 v32.fFrom)), .pure (.val (.int .i64 v32.fTo)), .pure (.val (.bool v32.fAware)), .pure (.sl (v32.fOK.map (EQ eB))), .pure (.sl (v32.fRewrite.map (EQ eB)))]), (2037, .vec 1 (((([] : List Int)) ++ p1.fBase).map Ai)), (2038, .vec 1 (((([] : List Int)) ++ p1.fNext).map Ai)), (2039, .vec 1 (((([] : List Int)) ++ p1.fHeld).map Bk))]) (fun j42 h => ?_) (fun v42 h => ?_)
         ·refine Aa Ac rfl (qf Cx rfl (ql Gq rfl (qm rfl ?_)))
          obtain ⟨v43, a43, b43, h⟩ := Aj h
          refine qi C5 Fa a43 (Ag b43) rfl (qk IF rfl (qm rfl ?_))
          obtain ⟨v44, a44, h⟩ := bind_some h
          refine AD [] (HB N v43 v38 v44 a44) Tv rfl (qm rfl ?_)
          refine AB (t := 166) rfl (fun c45 => ?_) (fun c45 => ?_)
          ·have h := Am c45 h
           refine qm rfl (qm rfl ?_)
           obtain ⟨v46, a46, h⟩ := bind_some h
           refine AD [] (HB N v35 v38 v46 a46) Tv rfl (Cu rfl (qp rfl (qa rfl (Ad ?_))))
           exact Au _ h (sm [(2037, 2031), (2038, 2032), (2039, 2033)] _ _ rfl rfl)
          ·have h := Al c45 h
           refine qn rfl (qn rfl (qn rfl (qn rfl (qp rfl (qa rfl (Ad ?_))))))
           exact Au _ h (sm [(2037, 2031), (2038, 2032), (2039, 2033)] _ _ rfl rfl)
         ·refine AP h (fun v47 => mk [(3, .e (.one (.ptr 3 0))), (4, .e (.one (.ptr 4 0))), (6, .e (.one (.ptr 6 0))), (8, .e (.one (.ptr 8 0))), (9, .e (.one (.pure (.val (.int .i64 p2.fIndex))))), (11, .e (.one (.ptr 11 0))), (12, .e (.one (.pure (.val (.int .u8 v35))))), (13, .e (.one (.pure (.val (.int .i64 v38))))), (193, .e (.one (.pure (.val (.bool v47)))))] [(3, .box [.pure (.sl (p0.fVersions.map Ai)), .pure (.sl (p0.fNow.map Ai)), .pure (.sl (p0.fTarget.map Ai)), .pure (.sl (p0.fTables.map Aq))]), (4, .box [.pure (.sl (p1.fBase.map Ai)), .pure (.sl (p1.fNext.map Ai)), .pure (.sl (p1.fHeld.map Bk))]), (6, .box [.pure (.nil0), .pure (.nil0), .pure (.nil0)]), (8, .box [.own 2040, .own 2041, .own 2042]), (11, .box [.pure (.val (.int .i64 v32.fKind)), .pure (.val (.int .i64 v32.fFrom)), .pure (.val (.int .i64 v32.fTo)), .pure (.val (.bool v32.fAware)), .pure (.sl (v32.fOK.map (EQ eB))), .pure (.sl (v32.fRewrite.map (EQ eB)))]), (2040, .vec 1 (((([] : List Int)) ++ p1.fBase).map Ai)), (2041, .vec 1 (((([] : List Int)) ++ p1.fNext).map Ai)), (2042, .vec 1 (((([] : List Int)) ++ p1.fHeld).map Bk))]) (fun j47 h => ?_) (fun v47 h => ?_)
          ·refine Aa Ac rfl (qm rfl (qm rfl ?_))
           refine AB (t := 173) rfl (fun c48 => ?_) (fun c48 => ?_)
           ·have h := Am c48 h
            refine qf E3 rfl (ql Ci rfl (BA rfl (qp rfl (qm rfl ?_))))
            refine AB (t := 178) rfl (fun c49 => ?_) (fun c49 => ?_)
            ·have h := Am c49 h
             refine qf FO rfl (ql Js rfl (qm rfl ?_))
             obtain ⟨v50, a50, b50, h⟩ := Aj h
             refine qi F3 Ji a50 (Ag b50) rfl (qk Li rfl (qf CB rfl (ql Bc rfl (qf C3 rfl (ql Ci rfl ?_)))))
             obtain ⟨v51, a51, b51, h⟩ := Aj h
             refine qi AE Dm a51 (Ag b51) rfl (qk Ci rfl ?_)
             obtain ⟨v52, a52, b52, h⟩ := Aj h
             refine qi EO Oj a52 (Ag b52) rfl (qk QE rfl (Cu rfl (qp rfl (AI (by kernel_rfl) ?_))))
             exact Au _ h (sm [(2040, 2037), (2041, 2038), (2042, 2039)] _ _ rfl rfl)
            ·have h := Al c49 h
             refine qn rfl (qn rfl (qn rfl (qn rfl (qn rfl (qn rfl (qn rfl (qn rfl (qn rfl (qn rfl (qn rfl (qn rfl (qn rfl (qn rfl (qp rfl (AI (by kernel_rfl) ?_)))))))))))))))
             exact Au _ h (sm [(2040, 2037), (2041, 2038), (2042, 2039)] _ _ rfl rfl)
           ·have h := Al c48 h
            refine qn rfl (qn rfl (qn rfl (qp rfl (qm rfl (qn rfl (qn rfl (qn rfl (qn rfl (qn rfl (qn rfl (qn rfl (qn rfl (qn rfl (qn rfl (qn rfl (qn rfl (qn rfl (qn rfl (qp rfl (AI (by kernel_rfl) ?_))))))))))))))))))))
            exact Au _ h (sm [(2040, 2037), (2041, 2038), (2042, 2039)] _ _ rfl rfl)
          ·refine Ao rfl (fun c53 => ?_) (fun c53 => ?_)
           ·have h := Am c53 h
            refine Ab (Aa Ac rfl (BE Ct GE rfl (qs Av rfl (qa rfl (Ad ?_)))))
            obtain rfl := sj h
            refine Ak ((AA 6 0 2043 1 _ rfl rfl rfl rfl).trans ((AA 6 1 2044 1 _ rfl rfl rfl rfl).trans ((AA 6 2 2045 1 _ rfl rfl rfl rfl).trans (sm [(1000, 2043), (1001, 2044), (1002, 2045)] [(6, .e (.one (.ptr 6 0))), (7, .e (.one (.pure (.val (.bool false)))))] [(6, .box [.own 1000, .own 1001, .own 1002]), (1000, .vec 1 ((([] : List Int)).map Ai)), (1001, .vec 1 ((([] : List Int)).map Ai)), (1002, .vec 1 ((([] : List Int)).map Bk))] rfl rfl)))) (Ax ?_)
            exact ⟨⟨[_, _], ⟨.cellN _ _ _ _ _ _ _ rfl rfl AV Av rfl rfl (HC rfl), ⟨.tmp _ _ rfl, trivial⟩⟩, rfl⟩, ⟨rfl, rfl, rfl, trivial⟩⟩
           ·have h := Al c53 h
            refine Ar (Aa Ac rfl (qm rfl (AU rfl (qa rfl (Ad ?_)))))
            exact Au _ h (sm [(2031, 2040), (2032, 2041), (2033, 2042)] _ _ rfl rfl)
        ·have h := Al c41 h
         refine AW ?_
         exact Au _ h (sm [(2034, 2031), (2035, 2032), (2036, 2033)] _ _ rfl rfl)
       ·refine Ak hs (Aa Ac rfl (qf Cx rfl (ql Gq rfl (qm rfl (qm rfl ?_)))))
        obtain ⟨v54, a54, b54, h⟩ := Aj h
        refine qI C5 Fa a54 (Ag b54) rfl ?_
        refine A2 rfl rfl rfl rfl (Ag b54) rfl Fa rfl (A1 rfl) (A3 Bk ((([] : List Int)) ++ p1.fHeld) _ v35) ?_
        refine Ad ?_
        exact Au _ h (sm [(2001, 2034), (2002, 2035), (2003, 2036)] _ _ rfl rfl)
    ·have h := Al c31 h
     refine Ab (Ab (Aa Ac rfl (qf BR rfl (ql Bc rfl (qm rfl ?_)))))
     obtain ⟨v55, a55, b55, h⟩ := Aj h
     refine qi AE Dm a55 (Ag b55) rfl (qk Ci rfl (AY rfl (Ad ?_)))
     refine Ao rfl (fun c56 => ?_) (fun c56 => ?_)
     ·have h := Am c56 h
      refine Ab (Aa Ac rfl (BE Ct GE rfl (qs Av rfl (qa rfl (Ad ?_)))))
      obtain rfl := sj h
      refine Ak ((AA 6 0 2046 1 _ rfl rfl rfl rfl).trans ((AA 6 1 2047 1 _ rfl rfl rfl rfl).trans ((AA 6 2 2048 1 _ rfl rfl rfl rfl).trans (sm [(1000, 2046), (1001, 2047), (1002, 2048)] [(6, .e (.one (.ptr 6 0))), (7, .e (.one (.pure (.val (.bool false)))))] [(6, .box [.own 1000, .own 1001, .own 1002]), (1000, .vec 1 ((([] : List Int)).map Ai)), (1001, .vec 1 ((([] : List Int)).map Ai)), (1002, .vec 1 ((([] : List Int)).map Bk))] rfl rfl)))) (Ax ?_)
      exact ⟨⟨[_, _], ⟨.cellN _ _ _ _ _ _ _ rfl rfl AV Av rfl rfl (HC rfl), ⟨.tmp _ _ rfl, trivial⟩⟩, rfl⟩, ⟨rfl, rfl, rfl, trivial⟩⟩
     ·have h := Al c56 h
      refine Ar (Aa Ac rfl (qf BR rfl (ql Bc rfl (qm rfl ?_))))
      obtain ⟨v57, a57, b57, h⟩ := Aj h
      refine qI AE Dm a57 (Ag b57) rfl ?_
      refine A2 rfl rfl rfl rfl (Ag b57) rfl Dm rfl (A1 rfl) (A3 Ai ((([] : List Int)) ++ p1.fNext) _ ((-1))) ?_
      refine Ad ?_
      exact Au _ h (sm [(2001, 18), (2002, 22), (2003, 26)] _ _ rfl rfl)
 ·refine Ab (Aa Ac rfl (qL AV Av rfl (qs Av rfl (qa rfl (Ad ?_)))))
  obtain rfl := sj h
  refine Ak (sm [(1000, 2001), (1001, 2002), (1002, 2003)] [(6, .e (.one (.ptr 6 0))), (7, .e (.one (.pure (.val (.bool true)))))] [(6, .box [.own 1000, .own 1001, .own 1002]), (1000, .vec 1 (v4.1.map Ai)), (1001, .vec 1 (v4.2.1.map Ai)), (1002, .vec 1 (v4.2.2.map Bk))] rfl rfl) (Ax ?_)
  exact ⟨⟨[_, _], ⟨.cellN _ _ _ _ _ _ _ rfl rfl AV Av rfl rfl (HC rfl), ⟨.tmp _ _ rfl, trivial⟩⟩, rfl⟩, ⟨rfl, rfl, rfl, trivial⟩⟩
set_option maxRecDepth 10000 in
theorem Je (N : Nat) (p0 : Ah) (p1 : Ae) (p2 : Ap) (r : Ae × Int) (h : DN N p0 p1 p2 = some r) : Az Tryz.prog 66 [.e (.agg [.pure (.sl (p0.fVersions.map Ai)), .pure (.sl (p0.fNow.map Ai)), .pure (.sl (p0.fTarget.map Ai)), .pure (.sl (p0.fTables.map Aq))]), .e (.agg [.pure (.sl (p1.fBase.map Ai)), .pure (.sl (p1.fNext.map Ai)), .pure (.sl (p1.fHeld.map Bk))]), .e (.agg [.pure (.val (.int .i64 p2.fKind)), .pure (.val (.int .i64 p2.fIndex)), .pure (.val (.int .i64 p2.fVersion))])] [(1, r.1.fBase.map Ai), (1, r.1.fNext.map Ai), (1, r.1.fHeld.map Bk)] (.tup [.agg [.own 0, .own 1, .own 2], .one (.pure (.val (.int .i64 r.2)))]) := by
 unfold DN at h
 refine As (n := 73) (rs := [.cell 6 50, .tmp 7]) Tryz.func66 rfl rfl rfl (A1 rfl) (A1 rfl) rfl fun w0 S0 => ?_
 refine Ab (Aa Ac rfl (qb rfl (qb rfl (qb rfl (qz Ct rfl (qa rfl (Ad (Ab (Ab (Aa Ac rfl (qL DY DI rfl (qL AV Av rfl ?_))))))))))))
 obtain ⟨v1, a1, h⟩ := bind_some h
 refine AD [] (Ha N p0 p1 v1 a1) Tw rfl (qa rfl (Ad (Ab (Aa Ac rfl (qm rfl (BX rfl (Ad ?_)))))))
 refine Ao rfl (fun c2 => ?_) (fun c2 => ?_)
 ·have h := Am c2 h
  refine Ab (Aa Ac rfl (BE Ct GE rfl (qm rfl (qs Av rfl (qa rfl (Ad ?_))))))
  obtain rfl := sj h
  refine Ak ((AA 6 0 2001 1 _ rfl rfl rfl rfl).trans ((AA 6 1 2002 1 _ rfl rfl rfl rfl).trans ((AA 6 2 2003 1 _ rfl rfl rfl rfl).trans (sm [(1000, 2001), (1001, 2002), (1002, 2003)] [(6, .e (.one (.ptr 6 0))), (7, .e (.one (.pure (.val (.int .i64 v1)))))] [(6, .box [.own 1000, .own 1001, .own 1002]), (1000, .vec 1 ((([] : List Int)).map Ai)), (1001, .vec 1 ((([] : List Int)).map Ai)), (1002, .vec 1 ((([] : List Int)).map Bk))] rfl rfl)))) (Ax ?_)
  exact ⟨⟨[_, _], ⟨.cellN _ _ _ _ _ _ _ rfl rfl AV Av rfl rfl (HC rfl), ⟨.tmp _ _ rfl, trivial⟩⟩, rfl⟩, ⟨rfl, rfl, rfl, trivial⟩⟩
 ·have h := Al c2 h
  refine Ar (Ab (Ab (Aa Ac rfl (qL Iq Ee rfl ?_))))
  obtain ⟨v3, a3, h⟩ := bind_some h
  refine AD [] (Jd N p2 v3 a3) Ug rfl (Cu rfl (Ad ?_))
  refine Ao rfl (fun c4 => ?_) (fun c4 => ?_)
  ·have h := Am c4 h
   refine Ab (Aa Ac rfl (BE Ct GE rfl (qs Av rfl (qa rfl (Ad ?_)))))
   obtain rfl := sj h
   refine Ak ((AA 6 0 2004 1 _ rfl rfl rfl rfl).trans ((AA 6 1 2005 1 _ rfl rfl rfl rfl).trans ((AA 6 2 2006 1 _ rfl rfl rfl rfl).trans (sm [(1000, 2004), (1001, 2005), (1002, 2006)] [(6, .e (.one (.ptr 6 0))), (7, .e (.one (.pure (.val (.int .i64 1)))))] [(6, .box [.own 1000, .own 1001, .own 1002]), (1000, .vec 1 ((([] : List Int)).map Ai)), (1001, .vec 1 ((([] : List Int)).map Ai)), (1002, .vec 1 ((([] : List Int)).map Bk))] rfl rfl)))) (Ax ?_)
   exact ⟨⟨[_, _], ⟨.cellN _ _ _ _ _ _ _ rfl rfl AV Av rfl rfl (HC rfl), ⟨.tmp _ _ rfl, trivial⟩⟩, rfl⟩, ⟨rfl, rfl, rfl, trivial⟩⟩
  ·have h := Al c4 h
   refine Ar (Ab ?_)
   refine AP h (fun v5 => mk [(3, .e (.one (.ptr 3 0))), (4, .e (.one (.ptr 4 0))), (5, .e (.one (.ptr 5 0))), (6, .e (.one (.ptr 6 0))), (45, .e (.one (.pure (.val (.bool v5)))))] [(3, .box [.pure (.sl (p0.fVersions.map Ai)), .pure (.sl (p0.fNow.map Ai)), .pure (.sl (p0.fTarget.map Ai)), .pure (.sl (p0.fTables.map Aq))]), (4, .box [.pure (.sl (p1.fBase.map Ai)), .pure (.sl (p1.fNext.map Ai)), .pure (.sl (p1.fHeld.map Bk))]), (5, .box [.pure (.val (.int .i64 p2.fKind)), .pure (.val (.int .i64 p2.fIndex)), .pure (.val (.int .i64 p2.fVersion))]), (6, .box [.pure (.nil0), .pure (.nil0), .pure (.nil0)])]) (fun j5 h => ?_) (fun v5 h => ?_)
   ·refine Aa Ac rfl (qf EM rfl (ql Ci rfl (BA rfl (qm rfl ?_))))
    refine AB (t := 25) rfl (fun c6 => ?_) (fun c6 => ?_)
    ·have h := Am c6 h
     refine qf Eb rfl (ql Ci rfl (qf CO rfl (ql GV rfl (AR DR rfl (C6 rfl (qp rfl (qm rfl ?_)))))))
     refine AB (t := 33) rfl (fun c7 => ?_) (fun c7 => ?_)
     ·have h := Am c7 h
      refine qn rfl (qn rfl (qn rfl (qn rfl (qu rfl (qu rfl (qu rfl (qu rfl (qu rfl (qu rfl (qn rfl (qp rfl (Ad ?_))))))))))))
      exact Au _ h (sm [] _ _ rfl rfl)
     ·have h := Al c7 h
      refine qf EM rfl (ql Ci rfl (BX rfl (qm rfl ?_)))
      refine AB (t := 37) rfl (fun c8 => ?_) (fun c8 => ?_)
      ·have h := Am c8 h
       refine qf Eb rfl (ql Ci rfl (qf Bs rfl (ql Bc rfl (AR AE rfl (C6 rfl (qp rfl (qp rfl (Ad ?_))))))))
       exact Au _ h (sm [] _ _ rfl rfl)
      ·have h := Al c8 h
       refine qn rfl (qn rfl (qn rfl (qn rfl (qn rfl (qn rfl (qp rfl (qp rfl (Ad ?_))))))))
       exact Au _ h (sm [] _ _ rfl rfl)
    ·have h := Al c6 h
     refine qn rfl (qn rfl (qn rfl (qn rfl (qn rfl (qn rfl (qp rfl (qm rfl (qf EM rfl (ql Ci rfl (BX rfl (qm rfl ?_)))))))))))
     refine AB (t := 37) rfl (fun c9 => ?_) (fun c9 => ?_)
     ·have h := Am c9 h
      refine qf Eb rfl (ql Ci rfl (qf Bs rfl (ql Bc rfl (AR AE rfl (C6 rfl (qp rfl (qp rfl (Ad ?_))))))))
      exact Au _ h (sm [] _ _ rfl rfl)
     ·have h := Al c9 h
      refine qn rfl (qn rfl (qn rfl (qn rfl (qn rfl (qn rfl (qp rfl (qp rfl (Ad ?_))))))))
      exact Au _ h (sm [] _ _ rfl rfl)
   ·refine Ao rfl (fun c10 => ?_) (fun c10 => ?_)
    ·have h := Am c10 h
     refine Ab (Aa Ac rfl (BE Ct GE rfl (qs Av rfl (qa rfl (Ad ?_)))))
     obtain rfl := sj h
     refine Ak ((AA 6 0 2007 1 _ rfl rfl rfl rfl).trans ((AA 6 1 2008 1 _ rfl rfl rfl rfl).trans ((AA 6 2 2009 1 _ rfl rfl rfl rfl).trans (sm [(1000, 2007), (1001, 2008), (1002, 2009)] [(6, .e (.one (.ptr 6 0))), (7, .e (.one (.pure (.val (.int .i64 4)))))] [(6, .box [.own 1000, .own 1001, .own 1002]), (1000, .vec 1 ((([] : List Int)).map Ai)), (1001, .vec 1 ((([] : List Int)).map Ai)), (1002, .vec 1 ((([] : List Int)).map Bk))] rfl rfl)))) (Ax ?_)
     exact ⟨⟨[_, _], ⟨.cellN _ _ _ _ _ _ _ rfl rfl AV Av rfl rfl (HC rfl), ⟨.tmp _ _ rfl, trivial⟩⟩, rfl⟩, ⟨rfl, rfl, rfl, trivial⟩⟩
    ·have h := Al c10 h
     refine Ar (Ab ?_)
     refine AP h (fun v11 => mk [(3, .e (.one (.ptr 3 0))), (4, .e (.one (.ptr 4 0))), (5, .e (.one (.ptr 5 0))), (6, .e (.one (.ptr 6 0))), (60, .e (.one (.pure (.val (.bool v11)))))] [(3, .box [.pure (.sl (p0.fVersions.map Ai)), .pure (.sl (p0.fNow.map Ai)), .pure (.sl (p0.fTarget.map Ai)), .pure (.sl (p0.fTables.map Aq))]), (4, .box [.pure (.sl (p1.fBase.map Ai)), .pure (.sl (p1.fNext.map Ai)), .pure (.sl (p1.fHeld.map Bk))]), (5, .box [.pure (.val (.int .i64 p2.fKind)), .pure (.val (.int .i64 p2.fIndex)), .pure (.val (.int .i64 p2.fVersion))]), (6, .box [.pure (.nil0), .pure (.nil0), .pure (.nil0)])]) (fun j11 h => ?_) (fun v11 h => ?_)
     ·refine Aa Ac rfl (qf EM rfl (ql Ci rfl (BA rfl (qm rfl ?_))))
      refine AB (t := 50) rfl (fun c12 => ?_) (fun c12 => ?_)
      ·have h := Am c12 h
       refine qf FN rfl (ql Ci rfl (qf Bs rfl (ql Bc rfl (qf Eb rfl (ql Ci rfl ?_)))))
       obtain ⟨v13, a13, b13, h⟩ := Aj h
       refine qi AE Dm a13 (Ag b13) rfl (qk Ci rfl (C6 rfl (qp rfl (AI (by kernel_rfl) ?_))))
       exact Au _ h (sm [] _ _ rfl rfl)
      ·have h := Al c12 h
       refine qn rfl (qn rfl (qn rfl (qn rfl (qn rfl (qn rfl (qn rfl (qn rfl (qn rfl (qp rfl (AI (by kernel_rfl) ?_))))))))))
       exact Au _ h (sm [] _ _ rfl rfl)
     ·refine Ao rfl (fun c14 => ?_) (fun c14 => ?_)
      ·have h := Am c14 h
       refine Ab (Aa Ac rfl (BE Ct GE rfl (qs Av rfl (qa rfl (Ad ?_)))))
       obtain rfl := sj h
       refine Ak ((AA 6 0 2010 1 _ rfl rfl rfl rfl).trans ((AA 6 1 2011 1 _ rfl rfl rfl rfl).trans ((AA 6 2 2012 1 _ rfl rfl rfl rfl).trans (sm [(1000, 2010), (1001, 2011), (1002, 2012)] [(6, .e (.one (.ptr 6 0))), (7, .e (.one (.pure (.val (.int .i64 4)))))] [(6, .box [.own 1000, .own 1001, .own 1002]), (1000, .vec 1 ((([] : List Int)).map Ai)), (1001, .vec 1 ((([] : List Int)).map Ai)), (1002, .vec 1 ((([] : List Int)).map Bk))] rfl rfl)))) (Ax ?_)
       exact ⟨⟨[_, _], ⟨.cellN _ _ _ _ _ _ _ rfl rfl AV Av rfl rfl (HC rfl), ⟨.tmp _ _ rfl, trivial⟩⟩, rfl⟩, ⟨rfl, rfl, rfl, trivial⟩⟩
      ·have h := Al c14 h
       refine Ar (Ab (Aa Ac rfl (qL DY DI rfl (qL AV Av rfl (qL Iq Ee rfl ?_)))))
       obtain ⟨v15, a15, h⟩ := bind_some h
       refine AD [2013, 2014, 2015] (Jb N p0 p1 p2 v15 a15) U1 rfl (qm rfl (qx rfl (qx rfl (qz Ct rfl (qs Av rfl (qa rfl (Ad (Ab (Ab (Aa Ac rfl (qm rfl (Cu rfl (Ad ?_)))))))))))))
       refine Ao rfl (fun c16 => ?_) (fun c16 => ?_)
       ·have h := Am c16 h
        refine Ab (Aa Ac rfl (BE Ct GE rfl (qs Av rfl (qa rfl (Ad ?_)))))
        obtain rfl := sj h
        refine Ak ((AA 6 0 2016 1 _ rfl rfl rfl rfl).trans ((AA 6 1 2017 1 _ rfl rfl rfl rfl).trans ((AA 6 2 2018 1 _ rfl rfl rfl rfl).trans (sm [(1000, 2016), (1001, 2017), (1002, 2018)] [(6, .e (.one (.ptr 6 0))), (7, .e (.one (.pure (.val (.int .i64 11)))))] [(6, .box [.own 1000, .own 1001, .own 1002]), (1000, .vec 1 ((([] : List Int)).map Ai)), (1001, .vec 1 ((([] : List Int)).map Ai)), (1002, .vec 1 ((([] : List Int)).map Bk))] rfl rfl)))) (Ax ?_)
        exact ⟨⟨[_, _], ⟨.cellN _ _ _ _ _ _ _ rfl rfl AV Av rfl rfl (HC rfl), ⟨.tmp _ _ rfl, trivial⟩⟩, rfl⟩, ⟨rfl, rfl, rfl, trivial⟩⟩
       ·have h := Al c16 h
        refine Ar (Ab (Aa Ac rfl (qL AV Av rfl (qs Av rfl (qa rfl (Ad ?_))))))
        obtain rfl := sj h
        refine Ak (sm [(1000, 2013), (1001, 2014), (1002, 2015)] [(6, .e (.one (.ptr 6 0))), (7, .e (.one (.pure (.val (.int .i64 0)))))] [(6, .box [.own 1000, .own 1001, .own 1002]), (1000, .vec 1 (v15.1.fBase.map Ai)), (1001, .vec 1 (v15.1.fNext.map Ai)), (1002, .vec 1 (v15.1.fHeld.map Bk))] rfl rfl) (Ax ?_)
        exact ⟨⟨[_, _], ⟨.cellN _ _ _ _ _ _ _ rfl rfl AV Av rfl rfl (HC rfl), ⟨.tmp _ _ rfl, trivial⟩⟩, rfl⟩, ⟨rfl, rfl, rfl, trivial⟩⟩
set_option maxRecDepth 10000 in
theorem JV (N : Nat) (p0 : Ah) (p1 : Ae) (p2 : List Ap) (r : (List Ae) × Int × Int) (h : D2 N p0 p1 p2 = some r) : Az Tryz.prog 42 [.e (.agg [.pure (.sl (p0.fVersions.map Ai)), .pure (.sl (p0.fNow.map Ai)), .pure (.sl (p0.fTarget.map Ai)), .pure (.sl (p0.fTables.map Aq))]), .e (.agg [.pure (.sl (p1.fBase.map Ai)), .pure (.sl (p1.fNext.map Ai)), .pure (.sl (p1.fHeld.map Bk))]), .e (.one (.pure (.sl (p2.map AF))))] [(3, r.1.map Af)] (.tup [.one (.own 0), .one (.pure (.val (.int .i64 r.2.1))), .one (.pure (.val (.int .i64 r.2.2)))]) := by
 unfold D2 at h
 refine As (n := 52) (rs := [.tmp 6, .tmp 7, .tmp 8]) Tryz.func42 rfl rfl rfl (A1 rfl) (A1 rfl) rfl fun w0 S0 => ?_
 refine Ab (Aa Ac rfl (qb rfl (qb rfl (qa rfl (qa rfl (qa rfl (Ad (Ab (Ab (Aa Ac rfl (qL DY DI rfl (qL AV Av rfl ?_))))))))))))
 obtain ⟨v1, a1, h⟩ := bind_some h
 refine AD [] (Ha N p0 p1 v1 a1) Tw rfl (qa rfl (Ad (Ab (Aa Ac rfl (qm rfl (BX rfl (Ad ?_)))))))
 refine Ao rfl (fun c2 => ?_) (fun c2 => ?_)
 ·have h := Am c2 h
  refine Ab (Aa Ac rfl (qm rfl (qa rfl (qa rfl (qa rfl (Ad ?_))))))
  obtain rfl := sj h
  refine Ak ((Bo 6 2001 3 rfl rfl rfl).trans (sm [(1000, 2001)] [(6, .e (.one (.own 1000))), (7, .e (.one (.pure (.val (.int .i64 0))))), (8, .e (.one (.pure (.val (.int .i64 v1)))))] [(1000, .vec 3 ((([] : List Ae)).map Af))] rfl rfl)) (Ax ?_)
  exact ⟨⟨[_, _, _], ⟨.tmp _ _ rfl, ⟨.tmp _ _ rfl, ⟨.tmp _ _ rfl, trivial⟩⟩⟩, rfl⟩, ⟨rfl, trivial⟩⟩
 ·have h := Al c2 h
  refine Ar (Ab (Aa Ac rfl (qL AV Av rfl (D4 AL Av Ct rfl (qa rfl (Ad (Ab (Ab (Aa Ac rfl (qa rfl (Ad ?_)))))))))))
  refine AJ (L := CY N p0 p2) h (fun v3 => mk [(2, .e (.one (.pure (.sl (p2.map AF))))), (3, .e (.one (.ptr 3 0))), (10, .e (.one (.own 2002))), (11, .e (.one (.pure (.val (.int .i64 v3.2)))))] [(3, .box [.pure (.sl (p0.fVersions.map Ai)), .pure (.sl (p0.fNow.map Ai)), .pure (.sl (p0.fTarget.map Ai)), .pure (.sl (p0.fTables.map Aq))]), (2002, .vec 3 (v3.1.map Af))]) (fun v4 => mk [(2, .e (.one (.pure (.sl (p2.map AF))))), (10, .e (.one (.own 2003)))] [(2003, .vec 3 (v4.map Af))]) (fun _ _ => rfl) (sm [(2002, 21)] _ _ rfl rfl) (fun j3 n3 v3 h => ?_) (fun v4 s h hs => ?_)
  ·unfold CY at h
   refine Ab (Ab (Aa Ac rfl (qm rfl (qm rfl (AR Db rfl (AY rfl (Ad ?_)))))))
   refine Ao rfl (fun c5 => ?_) (fun c5 => ?_)
   ·have h := Am c5 h
    refine Ar (Ab (AN (Ab (Aa Ac rfl (qL DY DI rfl (qm rfl (qm rfl ?_)))))))
    obtain ⟨v6, a6, b6, h⟩ := Aj h
    refine qI AL Av a6 (Ag b6) rfl (qJ AV Av (Ag b6) rfl (qm rfl (qm rfl ?_)))
    obtain ⟨v7, a7, b7, h⟩ := Aj h
    refine qi Db Ee a7 (Ag b7) rfl (qK Iq Ee rfl ?_)
    obtain ⟨v8, a8, h⟩ := bind_some h
    refine AD [2004, 2005, 2006] (Je N p0 v6 v7 v8 a8) UV rfl (qm rfl (qx rfl (qx rfl (qz Ct rfl (qs Av rfl (qa rfl (AI (by kernel_rfl) (Ab (Ab (Aa Ac rfl (qm rfl (BX rfl (Ad ?_)))))))))))))
    refine Ao rfl (fun c9 => ?_) (fun c9 => ?_)
    ·have h := Am c9 h
     refine Ab (Aa Ac rfl (qm rfl (qm rfl (qa rfl (qa rfl (qa rfl (Ad ?_)))))))
     obtain rfl := sj h
     refine Ak ((Bo 6 2007 3 rfl rfl rfl).trans (sm [(1000, 2007)] [(6, .e (.one (.own 1000))), (7, .e (.one (.pure (.val (.int .i64 v3.2))))), (8, .e (.one (.pure (.val (.int .i64 v8.2)))))] [(1000, .vec 3 ((([] : List Ae)).map Af))] rfl rfl)) (Ax ?_)
     exact ⟨⟨[_, _, _], ⟨.tmp _ _ rfl, ⟨.tmp _ _ rfl, ⟨.tmp _ _ rfl, trivial⟩⟩⟩, rfl⟩, ⟨rfl, trivial⟩⟩
    ·have h := Al c9 h
     refine Ar (Aa Ac rfl (qm rfl (qL AV Av rfl (CQ (AZ 2004 _ _ rfl rfl) (CQ (AZ 2005 _ _ rfl rfl) (CQ (AZ 2006 _ _ rfl rfl) (D4 AL Av Ct rfl ?_)))))))
     obtain ⟨c10, h⟩ := AK h
     refine Dx (f := Af) AL AL Av Mq Ct c10 rfl (qa rfl (Ad (Aa Ac rfl (qm rfl (AU rfl (qa rfl (Ad ?_)))))))
     exact Au _ h (sm [(2002, 48)] _ _ rfl rfl)
   ·have h := Al c5 h
    refine AW ?_
    exact Au _ h (sm [(2003, 2002)] _ _ rfl rfl)
  ·refine Ak hs (Ab (Aa Ac rfl (qm rfl (qm rfl (AR Db rfl (qa rfl (qa rfl (qa rfl (Ad ?_)))))))))
   obtain rfl := sj h
   refine Ak (sm [(1000, 2003)] [(6, .e (.one (.own 1000))), (7, .e (.one (.pure (.val (.int .i64 ((p2.length : Int))))))), (8, .e (.one (.pure (.val (.int .i64 0)))))] [(1000, .vec 3 (v4.map Af))] rfl rfl) (Ax ?_)
   exact ⟨⟨[_, _, _], ⟨.tmp _ _ rfl, ⟨.tmp _ _ rfl, ⟨.tmp _ _ rfl, trivial⟩⟩⟩, rfl⟩, ⟨rfl, trivial⟩⟩
set_option maxRecDepth 10000 in
theorem Jw (N : Nat) (p0 : Ah) (p1 : List Ap) (r : Ae × Int × Int) (h : Dr N p0 p1 = some r) : Az Tryz.prog 29 [.e (.agg [.pure (.sl (p0.fVersions.map Ai)), .pure (.sl (p0.fNow.map Ai)), .pure (.sl (p0.fTarget.map Ai)), .pure (.sl (p0.fTables.map Aq))]), .e (.one (.pure (.sl (p1.map AF))))] [] (.tup [.agg [.pure (.sl (r.1.fBase.map Ai)), .pure (.sl (r.1.fNext.map Ai)), .pure (.sl (r.1.fHeld.map Bk))], .one (.pure (.val (.int .i64 r.2.1))), .one (.pure (.val (.int .i64 r.2.2)))]) := by
 unfold Dr at h
 refine As (n := 38) (rs := [.cell 4 50, .tmp 5, .tmp 6]) Tryz.func29 rfl rfl rfl (A1 rfl) (A1 rfl) rfl fun w0 S0 => ?_
 refine Ab (Aa Ac rfl (qb rfl (qz Ct rfl (qa rfl (qa rfl (Ad (Ab (Aa Ac rfl (qL DY DI rfl ?_)))))))))
 obtain ⟨v1, a1, h⟩ := bind_some h
 refine AD [2001, 2002, 2003] (I9 N p0 v1 a1) UB rfl (qm rfl (qx rfl (qx rfl (qz Ct rfl (qs Av rfl (qa rfl (Ad (Ab (Ab (Aa Ac rfl (qm rfl (BX rfl (Ad ?_)))))))))))))
 refine Ao rfl (fun c2 => ?_) (fun c2 => ?_)
 ·have h := Am c2 h
  refine Ab (Aa Ac rfl (BE Ct GE rfl (qm rfl (qs Av rfl (qa rfl (qa rfl (Ad ?_)))))))
  obtain rfl := sj h
  refine Ak ((H6 4 _ rfl).trans (sm [] [(4, .e (.one (.ptr 4 0))), (5, .e (.one (.pure (.val (.int .i64 0))))), (6, .e (.one (.pure (.val (.int .i64 v1.2)))))] [(4, .box [.pure (.sl ((([] : List Int)).map Ai)), .pure (.sl ((([] : List Int)).map Ai)), .pure (.sl ((([] : List Int)).map Bk))])] rfl rfl)) (Ax ?_)
  exact ⟨⟨[_, _, _], ⟨.cellN _ _ _ _ _ _ _ rfl rfl AV Av rfl rfl (HC rfl), ⟨.tmp _ _ rfl, ⟨.tmp _ _ rfl, trivial⟩⟩⟩, rfl⟩, trivial⟩
 ·have h := Al c2 h
  refine Ar (Ab (Aa Ac rfl (qL DY DI rfl (qL AV Av rfl (qm rfl (CQ (AZ 2001 _ _ rfl rfl) (CQ (AZ 2002 _ _ rfl rfl) (CQ (AZ 2003 _ _ rfl rfl) ?_))))))))
  obtain ⟨v3, a3, h⟩ := bind_some h
  refine AD [2004] (JV N p0 v1.1 p1 v3 a3) UH rfl (qm rfl (qx rfl (qx rfl (qx rfl (qa rfl (qa rfl (qa rfl (Ad (Ab (Ab (Aa Ac rfl (qm rfl (BX rfl (Ad ?_))))))))))))))
  refine Ao rfl (fun c4 => ?_) (fun c4 => ?_)
  ·have h := Am c4 h
   refine Ab (Aa Ac rfl (BE Ct GE rfl (qm rfl (qm rfl (qs Av rfl (qa rfl (qa rfl (Ad ?_))))))))
   obtain rfl := sj h
   refine Ak ((H6 4 _ rfl).trans (sm [] [(4, .e (.one (.ptr 4 0))), (5, .e (.one (.pure (.val (.int .i64 v3.2.1))))), (6, .e (.one (.pure (.val (.int .i64 v3.2.2)))))] [(4, .box [.pure (.sl ((([] : List Int)).map Ai)), .pure (.sl ((([] : List Int)).map Ai)), .pure (.sl ((([] : List Int)).map Bk))])] rfl rfl)) (Ax ?_)
   exact ⟨⟨[_, _, _], ⟨.cellN _ _ _ _ _ _ _ rfl rfl AV Av rfl rfl (HC rfl), ⟨.tmp _ _ rfl, ⟨.tmp _ _ rfl, trivial⟩⟩⟩, rfl⟩, trivial⟩
  ·have h := Al c4 h
   refine Ar (Ab (Aa Ac rfl (qm rfl (qm rfl ?_))))
   obtain ⟨v5, a5, b5, h⟩ := Aj h
   refine qI AL Av a5 (Ag b5) rfl (qJ AV Av (Ag b5) rfl (qm rfl (qs Av rfl (qa rfl (qa rfl (Ad ?_))))))
   obtain rfl := sj h
   refine Ak (sm [] [(4, .e (.one (.ptr 4 0))), (5, .e (.one (.pure (.val (.int .i64 v3.2.1))))), (6, .e (.one (.pure (.val (.int .i64 0)))))] [(4, .box [.pure (.sl (v5.fBase.map Ai)), .pure (.sl (v5.fNext.map Ai)), .pure (.sl (v5.fHeld.map Bk))])] rfl rfl) (Ax ?_)
   exact ⟨⟨[_, _, _], ⟨.cellN _ _ _ _ _ _ _ rfl rfl AV Av rfl rfl (HC rfl), ⟨.tmp _ _ rfl, ⟨.tmp _ _ rfl, trivial⟩⟩⟩, rfl⟩, trivial⟩
set_option maxRecDepth 10000 in
theorem FU (N : Nat) (p0 : List Int) (p1 : List Int) (r : Int) (h : CS N p0 p1 = some r) : Az Tryz.prog 73 [.e (.one (.pure (.sl (p0.map Ai)))), .e (.one (.pure (.sl (p1.map Ai))))] [] (.e (.one (.pure (.val (.int .i64 r))))) := by
 unfold CS at h
 refine As (n := 46) (rs := [.tmp 4]) Tryz.func73 rfl rfl rfl (A1 rfl) (A1 rfl) rfl fun w0 S0 => ?_
 refine Ab (Aa Ac rfl (qa rfl (Ad (Ab (Ab (Aa Ac rfl (qa rfl (Ad ?_))))))))
 refine AJ (L := CP N p0 p1) h (fun v1 => mk [(0, .e (.one (.pure (.sl (p0.map Ai))))), (1, .e (.one (.pure (.sl (p1.map Ai))))), (5, .e (.one (.pure (.val (.int .i64 v1)))))] []) (fun v2 => mk [(0, .e (.one (.pure (.sl (p0.map Ai))))), (1, .e (.one (.pure (.sl (p1.map Ai)))))] []) (fun _ _ => rfl) (sm [] _ _ rfl rfl) (fun j1 n1 v1 h => ?_) (fun v2 s h hs => ?_)
 ·unfold CP at h
  refine Ab ?_
  refine AP h (fun v3 => mk [(0, .e (.one (.pure (.sl (p0.map Ai))))), (1, .e (.one (.pure (.sl (p1.map Ai))))), (5, .e (.one (.pure (.val (.int .i64 v1))))), (15, .e (.one (.pure (.val (.bool v3)))))] []) (fun j3 h => ?_) (fun v3 h => ?_)
  ·refine Aa Ac rfl (qm rfl (qm rfl (AR AE rfl (AY rfl (qm rfl ?_)))))
   refine AB (t := 10) rfl (fun c4 => ?_) (fun c4 => ?_)
   ·have h := Am c4 h
    refine qm rfl (qm rfl (AR AE rfl (AY rfl (qp rfl (Ad ?_)))))
    exact Au _ h (sm [] _ _ rfl rfl)
   ·have h := Al c4 h
    refine qn rfl (qn rfl (qn rfl (qn rfl (qp rfl (Ad ?_)))))
    exact Au _ h (sm [] _ _ rfl rfl)
  ·refine Ao rfl (fun c5 => ?_) (fun c5 => ?_)
   ·have h := Am c5 h
    refine Ar (Ab (AN (Ab (Ab (Aa Ac rfl (qm rfl (qm rfl ?_)))))))
    obtain ⟨v6, a6, b6, h⟩ := Aj h
    refine qi AE Dm a6 (Ag b6) rfl (qk Ci rfl (qm rfl (qm rfl ?_)))
    obtain ⟨v7, a7, b7, h⟩ := Aj h
    refine qi AE Dm a7 (Ag b7) rfl (qk Ci rfl (AY rfl (AI (by kernel_rfl) ?_)))
    refine Ao rfl (fun c8 => ?_) (fun c8 => ?_)
    ·have h := Am c8 h
     refine Ab (Aa Ac rfl (qa rfl (Ad ?_)))
     obtain rfl := sj h
     refine Ak (sm [] [(4, .e (.one (.pure (.val (.int .i64 ((-1)))))))] [] rfl rfl) (Ax ?_)
     exact ⟨⟨[_], ⟨.tmp _ _ rfl, trivial⟩, rfl⟩, trivial⟩
    ·have h := Al c8 h
     refine Ar (Ab (Aa Ac rfl (qm rfl (qm rfl ?_))))
     obtain ⟨v9, a9, b9, h⟩ := Aj h
     refine qi AE Dm a9 (Ag b9) rfl (qk Ci rfl (qm rfl (qm rfl ?_)))
     obtain ⟨v10, a10, b10, h⟩ := Aj h
     refine qi AE Dm a10 (Ag b10) rfl (qk Ci rfl (Ew rfl (AI (by kernel_rfl) ?_)))
     refine Ao rfl (fun c11 => ?_) (fun c11 => ?_)
     ·have h := Am c11 h
      refine Ab (Aa Ac rfl (qa rfl (Ad ?_)))
      obtain rfl := sj h
      refine Ak (sm [] [(4, .e (.one (.pure (.val (.int .i64 1)))))] [] rfl rfl) (Ax ?_)
      exact ⟨⟨[_], ⟨.tmp _ _ rfl, trivial⟩, rfl⟩, trivial⟩
     ·have h := Al c11 h
      refine Ar (Aa Ac rfl (qm rfl (AU rfl (qa rfl (Ad ?_)))))
      exact Au _ h (sm [] _ _ rfl rfl)
   ·have h := Al c5 h
    refine AW ?_
    exact Au _ h (sm [] _ _ rfl rfl)
 ·refine Ak hs (Ab (Ab (Aa Ac rfl (qm rfl (AR AE rfl (qm rfl (AR AE rfl (AY rfl (Ad ?_)))))))))
  refine Ao rfl (fun c12 => ?_) (fun c12 => ?_)
  ·have h := Am c12 h
   refine Ab (Aa Ac rfl (qa rfl (Ad ?_)))
   obtain rfl := sj h
   refine Ak (sm [] [(4, .e (.one (.pure (.val (.int .i64 ((-1)))))))] [] rfl rfl) (Ax ?_)
   exact ⟨⟨[_], ⟨.tmp _ _ rfl, trivial⟩, rfl⟩, trivial⟩
  ·have h := Al c12 h
   refine Ar (Ab (Ab (Aa Ac rfl (qm rfl (AR AE rfl (qm rfl (AR AE rfl (Ew rfl (Ad ?_)))))))))
   refine Ao rfl (fun c13 => ?_) (fun c13 => ?_)
   ·have h := Am c13 h
    refine Ab (Aa Ac rfl (qa rfl (Ad ?_)))
    obtain rfl := sj h
    refine Ak (sm [] [(4, .e (.one (.pure (.val (.int .i64 1)))))] [] rfl rfl) (Ax ?_)
    exact ⟨⟨[_], ⟨.tmp _ _ rfl, trivial⟩, rfl⟩, trivial⟩
   ·have h := Al c13 h
    refine Ar (Ab (Aa Ac rfl (qa rfl (Ad ?_))))
    obtain rfl := sj h
    refine Ak (sm [] [(4, .e (.one (.pure (.val (.int .i64 0)))))] [] rfl rfl) (Ax ?_)
    exact ⟨⟨[_], ⟨.tmp _ _ rfl, trivial⟩, rfl⟩, trivial⟩
set_option maxRecDepth 10000 in
theorem Gx (N : Nat) (p0 : List Int) (r : (List Int)) (h : CI N p0 = some r) : Az Tryz.prog 74 [.e (.one (.pure (.sl (p0.map Bk))))] [(1, r.map Ai)] (.e (.one (.own 0))) := by
 unfold CI at h
 refine As (n := 20) (rs := [.tmp 2]) Tryz.func74 rfl rfl rfl (A1 rfl) (A1 rfl) rfl fun w0 S0 => ?_
 refine Ab (Aa Ac rfl (qa rfl (Ad (Ab (Aa Ac rfl (qa rfl (Ad (Ab (Ab (Aa Ac rfl (qa rfl (Ad ?_))))))))))))
 refine AJ (L := Cm N p0) h (fun v1 => mk [(0, .e (.one (.pure (.sl (p0.map Bk))))), (3, .e (.one (.own 2001))), (4, .e (.one (.pure (.val (.int .i64 v1.2)))))] [(2001, .vec 1 (v1.1.map Ai))]) (fun v2 => mk [(3, .e (.one (.own 2002)))] [(2002, .vec 1 (v2.map Ai))]) (fun _ _ => rfl) ((Bo 3 2003 1 rfl rfl rfl).trans (sm [(2001, 2003)] _ _ rfl rfl)) (fun j1 n1 v1 h => ?_) (fun v2 s h hs => ?_)
 ·unfold Cm at h
  refine Ab (Ab (Aa Ac rfl (qm rfl (qm rfl (AR C5 rfl (AY rfl (Ad ?_)))))))
  refine Ao rfl (fun c3 => ?_) (fun c3 => ?_)
  ·have h := Am c3 h
   refine Ar (Ab (AN (Aa Ac rfl (qm rfl (qm rfl (qm rfl ?_))))))
   obtain ⟨v4, a4, b4, h⟩ := Aj h
   refine qi C5 Fa a4 (Ag b4) rfl (qk IF rfl (F8 Up Pu rfl (D4 AE Dm Kj rfl ?_)))
   obtain ⟨c5, h⟩ := AK h
   refine Dx (f := Ai) AE AE Dm Lg Kj c5 rfl (qa rfl (Ad (Aa Ac rfl (qm rfl (AU rfl (qa rfl (Ad ?_)))))))
   exact Au _ h (sm [(2001, 18)] _ _ rfl rfl)
  ·have h := Al c3 h
   refine AW ?_
   exact Au _ h (sm [(2002, 2001)] _ _ rfl rfl)
 ·refine Ak hs (Ab (Aa Ac rfl (qm rfl (qa rfl (Ad ?_)))))
  obtain rfl := sj h
  refine Ak (sm [(1000, 2002)] [(2, .e (.one (.own 1000)))] [(1000, .vec 1 (v2.map Ai))] rfl rfl) (Ax ?_)
  exact ⟨⟨[_], ⟨.tmp _ _ rfl, trivial⟩, rfl⟩, ⟨rfl, trivial⟩⟩
set_option maxRecDepth 10000 in
theorem ID (N : Nat) (p0 : Ae) (p1 : Ae) (r : Int) (h : Dk N p0 p1 = some r) : Az Tryz.prog 54 [.e (.agg [.pure (.sl (p0.fBase.map Ai)), .pure (.sl (p0.fNext.map Ai)), .pure (.sl (p0.fHeld.map Bk))]), .e (.agg [.pure (.sl (p1.fBase.map Ai)), .pure (.sl (p1.fNext.map Ai)), .pure (.sl (p1.fHeld.map Bk))])] [] (.e (.one (.pure (.val (.int .i64 r))))) := by
 unfold Dk at h
 refine As (n := 30) (rs := [.tmp 4]) Tryz.func54 rfl rfl rfl (A1 rfl) (A1 rfl) rfl fun w0 S0 => ?_
 refine Ab (Aa Ac rfl (qb rfl (qb rfl (qa rfl (Ad (Ab (Ab (Aa Ac rfl (qf CB rfl (ql Bc rfl (qf CB rfl (ql Bc rfl ?_))))))))))))
 obtain ⟨v1, a1, h⟩ := bind_some h
 refine AD [] (FU N p0.fBase p1.fBase v1 a1) Sg rfl (qa rfl (Ad (Ab (Aa Ac rfl (qm rfl (BX rfl (Ad ?_)))))))
 refine Ao rfl (fun c2 => ?_) (fun c2 => ?_)
 ·have h := Am c2 h
  refine Ab (Aa Ac rfl (qm rfl (qa rfl (Ad ?_))))
  obtain rfl := sj h
  refine Ak (sm [] [(4, .e (.one (.pure (.val (.int .i64 v1)))))] [] rfl rfl) (Ax ?_)
  exact ⟨⟨[_], ⟨.tmp _ _ rfl, trivial⟩, rfl⟩, trivial⟩
 ·have h := Al c2 h
  refine Ar (Ab (Ab (Aa Ac rfl (qf BR rfl (ql Bc rfl (qf BR rfl (ql Bc rfl ?_)))))))
  obtain ⟨v3, a3, h⟩ := bind_some h
  refine AD [] (FU N p0.fNext p1.fNext v3 a3) Sg rfl (qa rfl (Ad (Ab (Aa Ac rfl (qm rfl (BX rfl (Ad ?_)))))))
  refine Ao rfl (fun c4 => ?_) (fun c4 => ?_)
  ·have h := Am c4 h
   refine Ab (Aa Ac rfl (qm rfl (qa rfl (Ad ?_))))
   obtain rfl := sj h
   refine Ak (sm [] [(4, .e (.one (.pure (.val (.int .i64 v3)))))] [] rfl rfl) (Ax ?_)
   exact ⟨⟨[_], ⟨.tmp _ _ rfl, trivial⟩, rfl⟩, trivial⟩
  ·have h := Al c4 h
   refine Ar (Ab (Aa Ac rfl (qf Cx rfl (ql Gq rfl ?_))))
   obtain ⟨v5, a5, h⟩ := bind_some h
   refine AD [2001] (Gx N p0.fHeld v5 a5) Tp rfl (qf Cx rfl (ql Gq rfl ?_))
   obtain ⟨v6, a6, h⟩ := bind_some h
   refine AD [2002] (Gx N p1.fHeld v6 a6) Tp rfl ?_
   obtain ⟨v7, a7, h⟩ := bind_some h
   refine GN [] [2001, 2002] (FU N v5 v6 v7 a7) Sg EY rfl (qa rfl (AI (by kernel_rfl) ?_))
   obtain rfl := sj h
   refine Ak (sm [] [(4, .e (.one (.pure (.val (.int .i64 v7)))))] [] rfl rfl) (Ax ?_)
   exact ⟨⟨[_], ⟨.tmp _ _ rfl, trivial⟩, rfl⟩, trivial⟩
set_option maxRecDepth 10000 in
theorem Jc (N : Nat) (p0 : Ae) (p1 : Ae) (r : Bool) (h : Df N p0 p1 = some r) : Az Tryz.prog 30 [.e (.agg [.pure (.sl (p0.fBase.map Ai)), .pure (.sl (p0.fNext.map Ai)), .pure (.sl (p0.fHeld.map Bk))]), .e (.agg [.pure (.sl (p1.fBase.map Ai)), .pure (.sl (p1.fNext.map Ai)), .pure (.sl (p1.fHeld.map Bk))])] [] (.e (.one (.pure (.val (.bool r))))) := by
 unfold Df at h
 refine As (n := 9) (rs := [.tmp 4]) Tryz.func30 rfl rfl rfl (A1 rfl) (A1 rfl) rfl fun w0 S0 => ?_
 refine Ab (Aa Ac rfl (qb rfl (qb rfl (qa rfl (Ad (Ab (Aa Ac rfl (qL AV Av rfl (qL AV Av rfl ?_)))))))))
 obtain ⟨v1, a1, h⟩ := bind_some h
 refine AD [] (ID N p0 p1 v1 a1) UT rfl (BA rfl (qa rfl (Ad ?_)))
 obtain rfl := sj h
 refine Ak (sm [] [(4, .e (.one (.pure (.val (.bool ((v1 == 0)))))))] [] rfl rfl) (Ax ?_)
 exact ⟨⟨[_], ⟨.tmp _ _ rfl, trivial⟩, rfl⟩, trivial⟩
set_option maxRecDepth 10000 in
theorem H5 (N : Nat) (p0 : Ch) (p1 : List Ap) (r : Bool) (h : C1 N p0 p1 = some r) : Az Tryz.prog 7 [.e (.agg [.pure (.sl (p0.fVersions.map Bk)), .pure (.sl (p0.fNow.map Bk)), .pure (.sl (p0.fTarget.map Bk)), .pure (.sl (p0.fLinks.map BZ))]), .e (.one (.pure (.sl (p1.map AF))))] [] (.e (.one (.pure (.val (.bool r))))) := by
 unfold C1 at h
 refine As (n := 58) (rs := [.tmp 4]) Tryz.func7 rfl rfl rfl (A1 rfl) (A1 rfl) rfl fun w0 S0 => ?_
 refine Ab (Aa Ac rfl (qb rfl (qa rfl (Ad (Ab (Aa Ac rfl (qL Ux U0 rfl ?_)))))))
 obtain ⟨v1, a1, h⟩ := bind_some h
 refine AD [2001, 2002, 2003, 2004] (Kn N p0 v1 a1) U4 rfl (qm rfl (qx rfl (qx rfl (qz Pl rfl (qs DI rfl (qa rfl (Ad (Ab ?_))))))))
 refine AP h (fun v2 => mk [(1, .e (.one (.pure (.sl (p1.map AF))))), (5, .e (.one (.ptr 5 0))), (28, .e (.one (.pure (.val (.bool v2)))))] [(5, .box [.own 2005, .own 2006, .own 2007, .own 2008]), (2005, .vec 1 (v1.1.fVersions.map Ai)), (2006, .vec 1 (v1.1.fNow.map Ai)), (2007, .vec 1 (v1.1.fTarget.map Ai)), (2008, .vec 6 (v1.1.fTables.map Aq))]) (fun j2 h => ?_) (fun v2 h => ?_)
 ·refine Aa Ac rfl ?_
  obtain ⟨v3, a3, h⟩ := bind_some h
  refine AD [] (Hb N v3 a3) TR rfl (Cu rfl (qm rfl ?_))
  refine AB (t := 20) rfl (fun c4 => ?_) (fun c4 => ?_)
  ·have h := Am c4 h
   refine qn rfl (qn rfl (qp rfl (qm rfl (qn rfl (qn rfl (qn rfl (qp rfl (Ad ?_))))))))
   exact Au _ h (sm [(2005, 2001), (2006, 2002), (2007, 2003), (2008, 2004)] _ _ rfl rfl)
  ·have h := Al c4 h
   refine qm rfl (Cu rfl (qp rfl (qm rfl ?_)))
   refine AB (t := 24) rfl (fun c5 => ?_) (fun c5 => ?_)
   ·have h := Am c5 h
    refine qn rfl (qn rfl (qn rfl (qp rfl (Ad ?_))))
    exact Au _ h (sm [(2005, 2001), (2006, 2002), (2007, 2003), (2008, 2004)] _ _ rfl rfl)
   ·have h := Al c5 h
    refine qm rfl (AR Db rfl (Ew rfl (qp rfl (Ad ?_))))
    exact Au _ h (sm [(2005, 2001), (2006, 2002), (2007, 2003), (2008, 2004)] _ _ rfl rfl)
 ·refine Ao rfl (fun c6 => ?_) (fun c6 => ?_)
  ·have h := Am c6 h
   refine Ab (Aa Ac rfl ?_)
   obtain ⟨v7, a7, h⟩ := bind_some h
   refine AD [] (Hb N v7 a7) TR rfl (qa rfl (Ad ?_))
   obtain rfl := sj h
   refine Ak (sm [] [(4, .e (.one (.pure (.val (.bool v7)))))] [] rfl rfl) (Ax ?_)
   exact ⟨⟨[_], ⟨.tmp _ _ rfl, trivial⟩, rfl⟩, trivial⟩
  ·have h := Al c6 h
   refine Ar (Ab (Ak (AZ 2005 _ _ rfl rfl) (Ak (AZ 2006 _ _ rfl rfl) (Ak (AZ 2007 _ _ rfl rfl) (Ak (AZ 2008 _ _ rfl rfl) (Aa Ac rfl (qL DY DI rfl (qm rfl ?_))))))))
   obtain ⟨v8, a8, h⟩ := bind_some h
   refine AD [] ((Ge N p1 v8 a8).share rfl) Uq rfl ?_
   obtain ⟨v9, a9, h⟩ := bind_some h
   refine AD [] (MU N v1.1 v8 v9 a9) UX rfl (qm rfl (qx rfl (qx rfl (qx rfl (qz Ct rfl (qs Av rfl (qa rfl (qa rfl (AI (by kernel_rfl) (Ab (Aa Ac rfl (qL DY DI rfl (qm rfl ?_)))))))))))))
   obtain ⟨v10, a10, h⟩ := bind_some h
   refine AD [] (Jw N v1.1 p1 v10 a10) Uy rfl (qm rfl (qx rfl (qx rfl (qx rfl (qz Ct rfl (qs Av rfl (qa rfl (qa rfl (Ad ?_)))))))))
   refine AP h (fun v11 => mk [(4, .e (.one (.pure (.val (.bool v11)))))] []) (fun j11 h => ?_) (fun v11 h => ?_)
   ·refine Aa Ac rfl (qm rfl (qm rfl (BA rfl (qm rfl ?_))))
    refine AB (t := 48) rfl (fun c12 => ?_) (fun c12 => ?_)
    ·have h := Am c12 h
     refine qm rfl (qm rfl (BA rfl (qp rfl (qm rfl ?_))))
     refine AB (t := 53) rfl (fun c13 => ?_) (fun c13 => ?_)
     ·have h := Am c13 h
      refine qL AV Av rfl (qL AV Av rfl ?_)
      obtain ⟨v14, a14, h⟩ := bind_some h
      refine AD [] (Jc N v9.1 v10.1 v14 a14) Uo rfl (qp rfl (qa rfl (Ad ?_)))
      exact Au _ h (sm [] _ _ rfl rfl)
     ·have h := Al c13 h
      refine qn rfl (qn rfl (qn rfl (qp rfl (qa rfl (Ad ?_)))))
      exact Au _ h (sm [] _ _ rfl rfl)
    ·have h := Al c12 h
     refine qn rfl (qn rfl (qn rfl (qp rfl (qm rfl (qn rfl (qn rfl (qn rfl (qp rfl (qa rfl (Ad ?_))))))))))
     exact Au _ h (sm [] _ _ rfl rfl)
   ·obtain rfl := sj h
    refine Ak (sm [] [(4, .e (.one (.pure (.val (.bool v11)))))] [] rfl rfl) (Ax ?_)
    exact ⟨⟨[_], ⟨.tmp _ _ rfl, trivial⟩, rfl⟩, trivial⟩
end Go.Lift

