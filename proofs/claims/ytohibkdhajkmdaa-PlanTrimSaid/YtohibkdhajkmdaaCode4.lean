/- Lemmas for PlanTrimSaid, which YtohibkdhajkmdaaFinP9 proves. -/
import Derived.Test.YtohibkdhajkmdaaCode1
/- That the code does what the shallow programs do, function by function. Written by a program (gen.py). -/
namespace Go.Lift
open Go.RowKit
open Go.Proofs
set_option maxRecDepth 10000 in
theorem PW (N : Nat) (p0 : Ae) (r : (List Ag)) (h : IU N p0 = some r) : AD Try.prog 104 [.e (.agg [.pure (.sl (p0.fVersions.map Af)), .pure (.sl (p0.fNow.map Af)), .pure (.sl (p0.fTarget.map Af)), .pure (.sl (p0.fTables.map Ak))])] [(3, r.map Ar)] (.e (.one (.own 0))) := by
 unfold IU at h
 refine As (n := 54) (rs := [.tmp 2]) Try.func104 rfl rfl rfl (Bz rfl) (Bz rfl) rfl fun w0 S0 => ?_
 refine Ab (Aa Ad rfl (qb rfl (qa rfl (Ac (Ab (Aa Ad rfl (qa rfl (Ac (Ab (Ab (Aa Ad rfl (qf Bk rfl (ql A0 rfl (AQ AE rfl (qm rfl (Ac ?_))))))))))))))))
 refine AP (L := Gb N p0) h (fun v1 => mk [(1, .e (.one (.ptr 1 0))), (3, .e (.one (.own 2001))), (10, .e (.one (.pure (.sl (p0.fVersions.map Af))))), (11, .e (.one (.pure (.val (.int .i64 ((p0.fVersions.length : Int))))))), (12, .e (.one (.pure (.val (.int .i64 v1.2)))))] [(1, .box [.pure (.sl (p0.fVersions.map Af)), .pure (.sl (p0.fNow.map Af)), .pure (.sl (p0.fTarget.map Af)), .pure (.sl (p0.fTables.map Ak))]), (2001, .vec 3 (v1.1.map Ar))]) (fun v2 => mk [(1, .e (.one (.ptr 1 0))), (3, .e (.one (.own 2002)))] [(1, .box [.pure (.sl (p0.fVersions.map Af)), .pure (.sl (p0.fNow.map Af)), .pure (.sl (p0.fTarget.map Af)), .pure (.sl (p0.fTables.map Ak))]), (2002, .vec 3 (v2.map Ar))]) (fun _ _ => rfl) ((BR 3 2005 3 rfl rfl rfl).trans (sm [(2001, 2005)] _ _ rfl rfl)) (fun j1 n1 v1 h => ?_) (fun v2 s h hs => ?_)
 ·unfold Gb at h
  refine Ab (Aa Ad rfl (Bc rfl (Ac (Ab ?_))))
  refine Au rfl (fun c3 => ?_) (fun c3 => ?_)
  ·have h := Ap c3 h
   refine Av (Ab (AW (Ab (Aa Ad rfl (qm rfl ?_)))))
   obtain ⟨v4, a4, b4, h⟩ := An h
   refine qi AE CS a4 (Al b4) rfl (qk B1 rfl (qa rfl (qa rfl (Ac (Ab (Aa Ad rfl (qm rfl (qm rfl (Ac ?_)))))))))
   refine AP (L := F5 N v1 v4) h (fun v5 => mk [(1, .e (.one (.ptr 1 0))), (3, .e (.one (.own 2003))), (4, .e (.one (.pure (.val (.int .i64 v1.2))))), (10, .e (.one (.pure (.sl (p0.fVersions.map Af))))), (11, .e (.one (.pure (.val (.int .i64 ((p0.fVersions.length : Int))))))), (12, .e (.one (.pure (.val (.int .i64 v1.2))))), (17, .e (.one (.pure (.val (.int .i64 v4))))), (18, .e (.one (.pure (.val (.int .i64 v5.2)))))] [(1, .box [.pure (.sl (p0.fVersions.map Af)), .pure (.sl (p0.fNow.map Af)), .pure (.sl (p0.fTarget.map Af)), .pure (.sl (p0.fTables.map Ak))]), (2003, .vec 3 (v5.1.map Ar))]) (fun v6 => mk [(1, .e (.one (.ptr 1 0))), (3, .e (.one (.own 2004))), (10, .e (.one (.pure (.sl (p0.fVersions.map Af))))), (11, .e (.one (.pure (.val (.int .i64 ((p0.fVersions.length : Int))))))), (12, .e (.one (.pure (.val (.int .i64 v1.2)))))] [(1, .box [.pure (.sl (p0.fVersions.map Af)), .pure (.sl (p0.fNow.map Af)), .pure (.sl (p0.fTarget.map Af)), .pure (.sl (p0.fTables.map Ak))]), (2004, .vec 3 (v6.map Ar))]) (fun _ _ => rfl) (sm [(2003, 2001)] _ _ rfl rfl) (fun j5 n5 v5 h => ?_) (fun v6 s h hs => ?_)
   ·unfold F5 at h
    refine Ab (Aa Ad rfl (Bc rfl (Ac (Ab ?_))))
    refine Au rfl (fun c7 => ?_) (fun c7 => ?_)
    ·have h := Ap c7 h
     refine Av (Ab (AW (Ab (Aa Ad rfl (qm rfl (qa rfl (Ac (Aa Ad rfl (qm rfl (qm rfl (qm rfl (AV Fi Oq rfl (D2 Bg Cs Fi rfl ?_)))))))))))))
     obtain ⟨c8, h⟩ := AG h
     refine DM (f := Ar) Bg Bg Cs JJ Fi c8 rfl (qa rfl (Ac (Aa Ad rfl (Bm rfl (qm rfl (Ac ?_))))))
     exact Ax _ h (sm [(2003, 26)] _ _ rfl rfl)
    ·have h := Aq c7 h
     refine A1 ?_
     exact Ax _ h (sm [(2004, 2003)] _ _ rfl rfl)
   ·refine Am hs (Aa Ad rfl (Bm rfl (qm rfl (Ac ?_))))
    exact Ax _ h (sm [(2001, 2004)] _ _ rfl rfl)
  ·have h := Aq c3 h
   refine A1 ?_
   exact Ax _ h (sm [(2002, 2001)] _ _ rfl rfl)
 ·refine Am hs (Ab (Ab (Aa Ad rfl (qf Bk rfl (ql A0 rfl (AQ AE rfl (qm rfl (Ac ?_))))))))
  refine AP (L := F1 N p0) h (fun v9 => mk [(1, .e (.one (.ptr 1 0))), (3, .e (.one (.own 2006))), (31, .e (.one (.pure (.val (.int .i64 ((p0.fVersions.length : Int))))))), (32, .e (.one (.pure (.val (.int .i64 v9.2)))))] [(1, .box [.pure (.sl (p0.fVersions.map Af)), .pure (.sl (p0.fNow.map Af)), .pure (.sl (p0.fTarget.map Af)), .pure (.sl (p0.fTables.map Ak))]), (2006, .vec 3 (v9.1.map Ar))]) (fun v10 => mk [(1, .e (.one (.ptr 1 0))), (3, .e (.one (.own 2007)))] [(1, .box [.pure (.sl (p0.fVersions.map Af)), .pure (.sl (p0.fNow.map Af)), .pure (.sl (p0.fTarget.map Af)), .pure (.sl (p0.fTables.map Ak))]), (2007, .vec 3 (v10.map Ar))]) (fun _ _ => rfl) (sm [(2006, 2002)] _ _ rfl rfl) (fun j9 n9 v9 h => ?_) (fun v10 s h hs => ?_)
  ·unfold F1 at h
   refine Ab (Aa Ad rfl (Bc rfl (Ac (Ab ?_))))
   refine Au rfl (fun c11 => ?_) (fun c11 => ?_)
   ·have h := Ap c11 h
    refine Av (Ab (AW (Ab (Aa Ad rfl (qm rfl (qa rfl (Ac (Aa Ad rfl (qm rfl (qm rfl (AV Fi Oq rfl (D2 Bg Cs Fi rfl ?_))))))))))))
    obtain ⟨c12, h⟩ := AG h
    refine DM (f := Ar) Bg Bg Cs JJ Fi c12 rfl (qa rfl (Ac (Aa Ad rfl (Bm rfl (qm rfl (Ac ?_))))))
    exact Ax _ h (sm [(2006, 39)] _ _ rfl rfl)
   ·have h := Aq c11 h
    refine A1 ?_
    exact Ax _ h (sm [(2007, 2006)] _ _ rfl rfl)
  ·refine Am hs (Ab (Ab (Aa Ad rfl (qf Cl rfl (ql Gr rfl (AQ Dz rfl (qm rfl (Ac ?_))))))))
   refine AP (L := FE N p0) h (fun v13 => mk [(3, .e (.one (.own 2008))), (43, .e (.one (.pure (.val (.int .i64 ((p0.fTables.length : Int))))))), (44, .e (.one (.pure (.val (.int .i64 v13.2)))))] [(2008, .vec 3 (v13.1.map Ar))]) (fun v14 => mk [(3, .e (.one (.own 2009)))] [(2009, .vec 3 (v14.map Ar))]) (fun _ _ => rfl) (sm [(2008, 2007)] _ _ rfl rfl) (fun j13 n13 v13 h => ?_) (fun v14 s h hs => ?_)
   ·unfold FE at h
    refine Ab (Aa Ad rfl (Bc rfl (Ac (Ab ?_))))
    refine Au rfl (fun c15 => ?_) (fun c15 => ?_)
    ·have h := Ap c15 h
     refine Av (Ab (AW (Ab (Aa Ad rfl (qm rfl (qa rfl (Ac (Aa Ad rfl (qm rfl (qm rfl (AV Fi Oq rfl (D2 Bg Cs Fi rfl ?_))))))))))))
     obtain ⟨c16, h⟩ := AG h
     refine DM (f := Ar) Bg Bg Cs JJ Fi c16 rfl (qa rfl (Ac (Aa Ad rfl (Bm rfl (qm rfl (Ac ?_))))))
     exact Ax _ h (sm [(2008, 51)] _ _ rfl rfl)
    ·have h := Aq c15 h
     refine A1 ?_
     exact Ax _ h (sm [(2009, 2008)] _ _ rfl rfl)
   ·refine Am hs (Ab (Aa Ad rfl (qm rfl (qa rfl (Ac ?_)))))
    obtain rfl := sj h
    refine Am (sm [(1000, 2009)] [(2, .e (.one (.own 1000)))] [(1000, .vec 3 (v14.map Ar))] rfl rfl) (AB ?_)
    exact ⟨⟨[_], ⟨.tmp _ _ rfl, trivial⟩, rfl⟩, ⟨rfl, trivial⟩⟩
set_option maxRecDepth 10000 in
theorem MN (N : Nat) (p0 : Ah) (r : Ah) (h : EX N p0 = some r) : AD Try.prog 93 [.e (.agg [.pure (.sl (p0.fBase.map Af)), .pure (.sl (p0.fNext.map Af)), .pure (.sl (p0.fHeld.map A3))])] [(1, r.fBase.map Af), (1, r.fNext.map Af), (1, r.fHeld.map A3)] (.e (.agg [.own 0, .own 1, .own 2])) := by
 unfold EX at h
 refine As (n := 13) (rs := [.cell 2 43]) Try.func93 rfl rfl rfl (Bz rfl) (Bz rfl) rfl fun w0 S0 => ?_
 refine Ab (Aa Ad rfl (qb rfl (qz Co rfl (Ac (Ab (Aa Ad rfl (qf Cp rfl (ql A0 rfl ?_))))))))
 obtain ⟨v1, a1, h⟩ := bind_some h
 refine AI [2001] (Da N p0.fBase v1 a1) RW rfl (qf Bu rfl (ql A0 rfl ?_))
 obtain ⟨v2, a2, h⟩ := bind_some h
 refine AI [2002] (Da N p0.fNext v2 a2) RW rfl (qf Cn rfl (ql Gq rfl ?_))
 obtain ⟨v3, a3, h⟩ := bind_some h
 refine AI [2003] (Es N p0.fHeld v3 a3) UM rfl (AV Co Fa rfl (qs AO rfl (AX (by kernel_rfl) ?_)))
 obtain rfl := sj h
 refine Am (sm [(1000, 2001), (1001, 2002), (1002, 2003)] [(2, .e (.one (.ptr 2 0)))] [(2, .box [.own 1000, .own 1001, .own 1002]), (1000, .vec 1 (v1.map Af)), (1001, .vec 1 (v2.map Af)), (1002, .vec 1 (v3.map A3))] rfl rfl) (AB ?_)
 exact ⟨⟨[_], ⟨.cellN _ _ _ _ _ _ _ rfl rfl Bl AO rfl rfl (Fp rfl), trivial⟩, rfl⟩, ⟨rfl, rfl, rfl, trivial⟩⟩
set_option maxRecDepth 10000 in
theorem JC (N : Nat) (p0 : AC) (r : Bool) (h : Et N p0 = some r) : AD Try.prog 119 [.e (.agg [.pure (.val (.int .i64 p0.fKind)), .pure (.val (.int .i64 p0.fFrom)), .pure (.val (.int .i64 p0.fTo)), .pure (.val (.bool p0.fAware)), .pure (.sl (p0.fOK.map (DY eB))), .pure (.sl (p0.fRewrite.map (DY eB)))])] [] (.e (.one (.pure (.val (.bool r))))) := by
 unfold Et at h
 refine As (n := 11) (rs := [.tmp 2]) Try.func119 rfl rfl rfl (Bz rfl) (Bz rfl) rfl fun w0 S0 => ?_
 refine Ab (Aa Ad rfl (qb rfl (qa rfl (Ac ?_))))
 refine AR h (fun v1 => mk [(2, .e (.one (.pure (.val (.bool v1)))))] []) (fun j1 h => ?_) (fun v1 h => ?_)
 ·refine Aa Ad rfl (qf ER rfl (ql B1 rfl (BO rfl (qm rfl ?_))))
  refine AF (t := 6) rfl (fun c2 => ?_) (fun c2 => ?_)
  ·have h := Ap c2 h
   refine qn rfl (qn rfl (qn rfl (qp rfl (qa rfl (Ac ?_)))))
   exact Ax _ h (sm [] _ _ rfl rfl)
  ·have h := Aq c2 h
   refine qf ER rfl (ql B1 rfl (BO rfl (qp rfl (qa rfl (Ac ?_)))))
   exact Ax _ h (sm [] _ _ rfl rfl)
 ·obtain rfl := sj h
  refine Am (sm [] [(2, .e (.one (.pure (.val (.bool v1)))))] [] rfl rfl) (AB ?_)
  exact ⟨⟨[_], ⟨.tmp _ _ rfl, trivial⟩, rfl⟩, trivial⟩
set_option maxRecDepth 10000 in
theorem NE (N : Nat) (p0 : Ae) (p1 : Ah) (p2 : Ag) (r : Bool × (List Int) × (List Int)) (h : GI N p0 p1 p2 = some r) : EG Try.prog 112 [.e (.agg [.pure (.sl (p0.fVersions.map Af)), .pure (.sl (p0.fNow.map Af)), .pure (.sl (p0.fTarget.map Af)), .pure (.sl (p0.fTables.map Ak))]), .e (.one (.ptr 90000 0)), .e (.agg [.pure (.val (.int .i64 p2.fKind)), .pure (.val (.int .i64 p2.fIndex)), .pure (.val (.int .i64 p2.fVersion))])] [(.box [.own 90001, .own 90002, .own 90003], .box [.own 90001, .own 90002, .own 90003]), (.vec 1 (p1.fBase.map Af), .vec 1 (p1.fBase.map Af)), (.vec 1 (p1.fNext.map Af), .vec 1 (r.2.1.map Af)), (.vec 1 (p1.fHeld.map A3), .vec 1 (r.2.2.map A3))] [] (.e (.one (.pure (.val (.bool r.1))))) := by
 unfold GI at h
 refine E6 (n := 70) (rs := [.tmp 6]) Try.func112 rfl rfl rfl (Bz rfl) (Bz rfl) rfl rfl (Bz rfl) rfl (Bz rfl) fun w0 S0 GL => ?_
 refine Am (sm [] [(0, .e (.agg [.pure (.sl (p0.fVersions.map Af)), .pure (.sl (p0.fNow.map Af)), .pure (.sl (p0.fTarget.map Af)), .pure (.sl (p0.fTables.map Ak))])), (1, .e (.one (.ptr 90000 0))), (2, .e (.agg [.pure (.val (.int .i64 p2.fKind)), .pure (.val (.int .i64 p2.fIndex)), .pure (.val (.int .i64 p2.fVersion))]))] [(90000, .box [.own 90001, .own 90002, .own 90003]), (90001, .vec 1 (p1.fBase.map Af)), (90002, .vec 1 (p1.fNext.map Af)), (90003, .vec 1 (p1.fHeld.map A3))] rfl rfl) (Ab (Aa Ad rfl (qb rfl (qb rfl (qa rfl (Ac (Ab ?_)))))))
 refine AR h (fun v1 => mk [(1, .e (.one (.ptr 90000 0))), (3, .e (.one (.ptr 3 0))), (5, .e (.one (.ptr 5 0))), (30, .e (.one (.pure (.val (.bool v1)))))] [(3, .box [.pure (.sl (p0.fVersions.map Af)), .pure (.sl (p0.fNow.map Af)), .pure (.sl (p0.fTarget.map Af)), .pure (.sl (p0.fTables.map Ak))]), (5, .box [.pure (.val (.int .i64 p2.fKind)), .pure (.val (.int .i64 p2.fIndex)), .pure (.val (.int .i64 p2.fVersion))]), (90000, .box [.own 90001, .own 90002, .own 90003]), (90001, .vec 1 (p1.fBase.map Af)), (90002, .vec 1 (p1.fNext.map Af)), (90003, .vec 1 (p1.fHeld.map A3))]) (fun j1 h => ?_) (fun v1 h => ?_)
 ·refine Aa Ad rfl (qm rfl (Si rfl (qf Bu rfl (ql A0 rfl (qf D8 rfl (ql B1 rfl ?_))))))
  obtain ⟨v2, a2, b2, h⟩ := An h
  refine qI AE CS a2 (Al b2) rfl (qj B1 (Al b2) rfl (DX rfl (qm rfl ?_)))
  refine AF (t := 18) rfl (fun c3 => ?_) (fun c3 => ?_)
  ·have h := Ap c3 h
   refine qn rfl (qn rfl (qn rfl (qn rfl (qn rfl (qn rfl (qn rfl (qn rfl (qn rfl (qn rfl (qn rfl (qp rfl (AX (by kernel_rfl) ?_))))))))))))
   exact Ax _ h (sm [] _ _ rfl rfl)
  ·have h := Aq c3 h
   refine qm rfl (Si rfl (qf Cp rfl (ql A0 rfl (qf D8 rfl (ql B1 rfl ?_)))))
   obtain ⟨v4, a4, b4, h⟩ := An h
   refine qI AE CS a4 (Al b4) rfl (qj B1 (Al b4) rfl (qf FH rfl (ql B1 rfl (BO rfl (qp rfl (AX (by kernel_rfl) ?_))))))
   exact Ax _ h (sm [] _ _ rfl rfl)
 ·refine Au rfl (fun c5 => ?_) (fun c5 => ?_)
  ·have h := Ap c5 h
   refine Ab (Aa Ad rfl (qa rfl (Ac ?_)))
   obtain rfl := sj h
   refine Am (sm [] [(6, .e (.one (.pure (.val (.bool false)))))] [(90000, .box [.own 90001, .own 90002, .own 90003]), (90001, .vec 1 (p1.fBase.map Af)), (90002, .vec 1 (p1.fNext.map Af)), (90003, .vec 1 (p1.fHeld.map A3))] rfl rfl) (AB ?_)
   exact ⟨⟨[_], ⟨.tmp _ _ rfl, trivial⟩, rfl⟩, ⟨rfl, rfl, rfl, rfl, trivial⟩, trivial⟩
  ·have h := Aq c5 h
   refine Av (Ab (Aa Ad rfl (qm rfl (Si rfl (qf Bu rfl (ql A0 rfl (qf D8 rfl (ql B1 rfl (qf FH rfl (ql B1 rfl ?_))))))))))
   obtain ⟨v6, a6, b6, h⟩ := An h
   refine qI AE CS a6 (Al b6) rfl ?_
   refine DH rfl rfl rfl rfl (Al b6) rfl CS rfl (Bz rfl) (Dr Af p1.fNext _ p2.fVersion) ?_
   refine AX (by kernel_rfl) (Ab (Ab (Aa Ad rfl (qf Cl rfl (ql Gr rfl (AQ Dz rfl (qm rfl (Ac ?_))))))))
   refine AP (L := CY N p0 p2) h (fun v7 => mk [(1, .e (.one (.ptr 90000 0))), (5, .e (.one (.ptr 5 0))), (41, .e (.one (.pure (.sl (p0.fTables.map Ak))))), (42, .e (.one (.pure (.val (.int .i64 ((p0.fTables.length : Int))))))), (43, .e (.one (.pure (.val (.int .i64 v7.2)))))] [(5, .box [.pure (.val (.int .i64 p2.fKind)), .pure (.val (.int .i64 p2.fIndex)), .pure (.val (.int .i64 p2.fVersion))]), (90000, .box [.own 90001, .own 90002, .own 90003]), (90001, .vec 1 (p1.fBase.map Af)), (90002, .vec 1 ((p1.fNext.set ((p2.fIndex).toNat) p2.fVersion).map Af)), (90003, .vec 1 (v7.1.map A3))]) (fun v8 => mk [] [(90000, .box [.own 90001, .own 90002, .own 90003]), (90001, .vec 1 (p1.fBase.map Af)), (90002, .vec 1 ((p1.fNext.set ((p2.fIndex).toNat) p2.fVersion).map Af)), (90003, .vec 1 (v8.map A3))]) (fun _ _ => rfl) (sm [] _ _ rfl rfl) (fun j7 n7 v7 h => ?_) (fun v8 s h hs => ?_)
   ·unfold CY at h
    refine Ab (Aa Ad rfl (Bc rfl (Ac (Ab ?_))))
    refine Au rfl (fun c9 => ?_) (fun c9 => ?_)
    ·have h := Ap c9 h
     refine Av ?_
     refine AR h (fun v10 => mk [(1, .e (.one (.ptr 90000 0))), (5, .e (.one (.ptr 5 0))), (41, .e (.one (.pure (.sl (p0.fTables.map Ak))))), (42, .e (.one (.pure (.val (.int .i64 ((p0.fTables.length : Int))))))), (43, .e (.one (.pure (.val (.int .i64 v7.2)))))] [(5, .box [.pure (.val (.int .i64 p2.fKind)), .pure (.val (.int .i64 p2.fIndex)), .pure (.val (.int .i64 p2.fVersion))]), (90000, .box [.own 90001, .own 90002, .own 90003]), (90001, .vec 1 (p1.fBase.map Af)), (90002, .vec 1 ((p1.fNext.set ((p2.fIndex).toNat) p2.fVersion).map Af)), (90003, .vec 1 (v10.map A3))]) (fun j10 h => ?_) (fun v10 h => ?_)
     ·refine AW (Ab (Aa Ad rfl (qm rfl ?_)))
      obtain ⟨v11, a11, b11, h⟩ := An h
      refine qi Dz Dt a11 (Al b11) rfl (qK Gm Dt rfl (qz Jx rfl (qa rfl (qs Dt rfl (Ac ?_)))))
      refine AR h (fun v12 => mk [(1, .e (.one (.ptr 90000 0))), (5, .e (.one (.ptr 5 0))), (7, .e (.one (.pure (.val (.int .i64 v7.2))))), (41, .e (.one (.pure (.sl (p0.fTables.map Ak))))), (42, .e (.one (.pure (.val (.int .i64 ((p0.fTables.length : Int))))))), (43, .e (.one (.pure (.val (.int .i64 v7.2))))), (56, .e (.one (.pure (.val (.bool v12)))))] [(5, .box [.pure (.val (.int .i64 p2.fKind)), .pure (.val (.int .i64 p2.fIndex)), .pure (.val (.int .i64 p2.fVersion))]), (90000, .box [.own 90001, .own 90002, .own 90003]), (90001, .vec 1 (p1.fBase.map Af)), (90002, .vec 1 ((p1.fNext.set ((p2.fIndex).toNat) p2.fVersion).map Af)), (90003, .vec 1 (v7.1.map A3))]) (fun j12 h => ?_) (fun v12 h => ?_)
      ·refine Aa Ad rfl (qf CF rfl (ql B1 rfl (qf D8 rfl (ql B1 rfl (BO rfl (qm rfl ?_))))))
       refine AF (t := 53) rfl (fun c13 => ?_) (fun c13 => ?_)
       ·have h := Ap c13 h
        refine qL Gm Dt rfl ?_
        obtain ⟨v14, a14, h⟩ := bind_some h
        refine AI [] (JC N v11 v14 a14) Tf rfl (qp rfl (Ac ?_))
        exact Ax _ h (sm [] _ _ rfl rfl)
       ·have h := Aq c13 h
        refine qn rfl (qn rfl (qp rfl (Ac ?_)))
        exact Ax _ h (sm [] _ _ rfl rfl)
      ·refine Au rfl (fun c15 => ?_) (fun c15 => ?_)
       ·have h := Ap c15 h
        refine Aa Ad rfl (qm rfl (Si rfl (qf Cn rfl (ql Gq rfl (qm rfl ?_)))))
        obtain ⟨v16, a16, b16, h⟩ := An h
        refine qI C8 E5 a16 (Al b16) rfl (qj Jv (Al b16) rfl (qf FH rfl (ql B1 rfl ?_)))
        obtain ⟨c17, h⟩ := AG h
        refine HD rfl c17 (RY rfl ?_)
        obtain ⟨v18, a18, b18, h⟩ := An h
        refine qI C8 E5 a18 (Al b18) rfl ?_
        refine DH rfl rfl rfl rfl (Al b18) rfl E5 rfl (Bz rfl) (Dr A3 v7.1 _ ((MB .u8 v16 ((C3 .u8 1 p2.fVersion))))) ?_
        refine AX (by kernel_rfl) ?_
        exact Ax _ h (sm [] _ _ rfl rfl)
       ·have h := Aq c15 h
        refine Av ?_
        exact Ax _ h (sm [] _ _ rfl rfl)
     ·refine Aa Ad rfl (Bm rfl (qm rfl (Ac ?_)))
      exact Ax _ h (sm [] _ _ rfl rfl)
    ·have h := Aq c9 h
     refine A1 ?_
     exact Ax _ h (sm [] _ _ rfl rfl)
   ·refine Am hs (Ab (Aa Ad rfl (qa rfl (Ac ?_))))
    obtain rfl := sj h
    refine Am (sm [] [(6, .e (.one (.pure (.val (.bool true)))))] [(90000, .box [.own 90001, .own 90002, .own 90003]), (90001, .vec 1 (p1.fBase.map Af)), (90002, .vec 1 ((p1.fNext.set ((p2.fIndex).toNat) p2.fVersion).map Af)), (90003, .vec 1 (v8.map A3))] rfl rfl) (AB ?_)
    exact ⟨⟨[_], ⟨.tmp _ _ rfl, trivial⟩, rfl⟩, ⟨rfl, rfl, rfl, rfl, trivial⟩, trivial⟩
set_option maxRecDepth 10000 in
theorem Mo (N : Nat) (p0 : Ah) (p1 : Int) (r : Int) (h : EF N p0 p1 = some r) : AD Try.prog 120 [.e (.agg [.pure (.sl (p0.fBase.map Af)), .pure (.sl (p0.fNext.map Af)), .pure (.sl (p0.fHeld.map A3))]), .e (.one (.pure (.val (.int .i64 p1))))] [] (.e (.one (.pure (.val (.int .u8 r))))) := by
 unfold EF at h
 refine As (n := 27) (rs := [.tmp 4]) Try.func120 rfl rfl rfl (Bz rfl) (Bz rfl) rfl fun w0 S0 => ?_
 refine Ab (Aa Ad rfl (qb rfl (qa rfl (Ac (Ab (Aa Ad rfl (qf Cp rfl (ql A0 rfl (qm rfl ?_)))))))))
 obtain ⟨v1, a1, b1, h⟩ := An h
 refine qi AE CS a1 (Al b1) rfl (qk B1 rfl ?_)
 obtain ⟨c2, h⟩ := AG h
 refine HD rfl c2 (qa rfl (Ac ?_))
 refine AR h (fun v3 => mk [(5, .e (.one (.pure (.val (.int .u8 v3)))))] []) (fun j3 h => ?_) (fun v3 h => ?_)
 ·refine Ab (Aa Ad rfl (qf Bu rfl (ql A0 rfl (qm rfl ?_))))
  obtain ⟨v4, a4, b4, h⟩ := An h
  refine qi AE CS a4 (Al b4) rfl (qk B1 rfl (DX rfl (Ac ?_)))
  refine Au rfl (fun c5 => ?_) (fun c5 => ?_)
  ·have h := Ap c5 h
   refine Aa Ad rfl (qm rfl (qf Bu rfl (ql A0 rfl (qm rfl ?_))))
   obtain ⟨v6, a6, b6, h⟩ := An h
   refine qi AE CS a6 (Al b6) rfl (qk B1 rfl ?_)
   obtain ⟨c7, h⟩ := AG h
   refine HD rfl c7 (RY rfl (qa rfl (Ac ?_)))
   exact Ax _ h (sm [] _ _ rfl rfl)
  ·have h := Aq c5 h
   refine Av ?_
   exact Ax _ h (sm [] _ _ rfl rfl)
 ·refine Ab (Aa Ad rfl (qm rfl (qa rfl (Ac ?_))))
  obtain rfl := sj h
  refine Am (sm [] [(4, .e (.one (.pure (.val (.int .u8 v3)))))] [] rfl rfl) (AB ?_)
  exact ⟨⟨[_], ⟨.tmp _ _ rfl, trivial⟩, rfl⟩, trivial⟩
set_option maxRecDepth 10000 in
theorem Hj (N : Nat) (p0 : Int) (r : Int) (h : Ck N p0 = some r) : AD Try.prog 123 [.e (.one (.pure (.val (.int .u8 p0))))] [] (.e (.one (.pure (.val (.int .i64 r))))) := by
 unfold Ck at h
 refine As (n := 6) (rs := [.tmp 2]) Try.func123 rfl rfl rfl (Bz rfl) (Bz rfl) rfl fun w0 S0 => ?_
 refine Ab (Aa Ad rfl (qa rfl (Ac (Ab (Aa Ad rfl (qm rfl ?_))))))
 obtain ⟨v1, a1, h⟩ := bind_some h
 refine Qq (.p rfl) rfl rfl Vt a1 ?_
 refine It Up Ue rfl (qa rfl (Ac ?_))
 obtain rfl := sj h
 refine Am (sm [] [(2, .e (.one (.pure (.val (.int .i64 ((IntKind.wrap .i64 v1)))))))] [] rfl rfl) (AB ?_)
 exact ⟨⟨[_], ⟨.tmp _ _ rfl, trivial⟩, rfl⟩, trivial⟩
set_option maxRecDepth 10000 in
theorem KF (N : Nat) (p0 : AC) (p1 : Int) (p2 : Int) (r : Bool) (h : EB N p0 p1 p2 = some r) : AD Try.prog 121 [.e (.agg [.pure (.val (.int .i64 p0.fKind)), .pure (.val (.int .i64 p0.fFrom)), .pure (.val (.int .i64 p0.fTo)), .pure (.val (.bool p0.fAware)), .pure (.sl (p0.fOK.map (DY eB))), .pure (.sl (p0.fRewrite.map (DY eB)))]), .e (.one (.pure (.val (.int .u8 p1)))), .e (.one (.pure (.val (.int .i64 p2))))] [] (.e (.one (.pure (.val (.bool r))))) := by
 unfold EB at h
 refine As (n := 25) (rs := [.tmp 6]) Try.func121 rfl rfl rfl (Bz rfl) (Bz rfl) rfl fun w0 S0 => ?_
 refine Ab (Aa Ad rfl (qb rfl (qa rfl (Ac (Ab (Ab (Aa Ad rfl (qm rfl (qa rfl (Ac ?_))))))))))
 refine AP (L := CM N p0 p2) h (fun v1 => mk [(2, .e (.one (.pure (.val (.int .i64 p2))))), (3, .e (.one (.ptr 3 0))), (7, .e (.one (.pure (.val (.int .u8 v1)))))] [(3, .box [.pure (.val (.int .i64 p0.fKind)), .pure (.val (.int .i64 p0.fFrom)), .pure (.val (.int .i64 p0.fTo)), .pure (.val (.bool p0.fAware)), .pure (.sl (p0.fOK.map (DY eB))), .pure (.sl (p0.fRewrite.map (DY eB)))])]) (fun v2 => mk [] []) (fun _ _ => rfl) (sm [] _ _ rfl rfl) (fun j1 n1 v1 h => ?_) (fun v2 s h hs => ?_)
 ·unfold CM at h
  refine Ab (Ab (Aa Ad rfl (qm rfl (B0 rfl (Ac ?_)))))
  refine Au rfl (fun c3 => ?_) (fun c3 => ?_)
  ·have h := Ap c3 h
   refine Av (Ab (AW (Ab (Aa Ad rfl (qf FF rfl (ql IL rfl (qm rfl ?_)))))))
   obtain ⟨v4, a4, h⟩ := bind_some h
   refine AI [] (Hj N v1 v4 a4) UK rfl ?_
   obtain ⟨v5, a5, b5, h⟩ := An h
   refine qi Ff Lz a5 (Al b5) rfl (qk Nz rfl (qm rfl ?_))
   obtain ⟨v6, a6, b6, h⟩ := An h
   refine qi Fx OS a6 (Al b6) rfl (qk P1 rfl (Ch rfl (AX (by kernel_rfl) ?_)))
   refine Au rfl (fun c7 => ?_) (fun c7 => ?_)
   ·have h := Ap c7 h
    refine Ab (Aa Ad rfl (qa rfl (Ac ?_)))
    obtain rfl := sj h
    refine Am (sm [] [(6, .e (.one (.pure (.val (.bool false)))))] [] rfl rfl) (AB ?_)
    exact ⟨⟨[_], ⟨.tmp _ _ rfl, trivial⟩, rfl⟩, trivial⟩
   ·have h := Aq c7 h
    refine Av (Aa Ad rfl (qm rfl (qm rfl (KA rfl (Lp rfl (qa rfl (Ac ?_)))))))
    exact Ax _ h (sm [] _ _ rfl rfl)
  ·have h := Aq c3 h
   refine A1 ?_
   exact Ax _ h (sm [] _ _ rfl rfl)
 ·refine Am hs (Ab (Aa Ad rfl (qa rfl (Ac ?_))))
  obtain rfl := sj h
  refine Am (sm [] [(6, .e (.one (.pure (.val (.bool true)))))] [] rfl rfl) (AB ?_)
  exact ⟨⟨[_], ⟨.tmp _ _ rfl, trivial⟩, rfl⟩, trivial⟩
set_option maxRecDepth 10000 in
theorem NG (N : Nat) (p0 : Ae) (p1 : Ah) (p2 : Int) (r : Bool × (List Int)) (h : FA N p0 p1 p2 = some r) : EG Try.prog 113 [.e (.agg [.pure (.sl (p0.fVersions.map Af)), .pure (.sl (p0.fNow.map Af)), .pure (.sl (p0.fTarget.map Af)), .pure (.sl (p0.fTables.map Ak))]), .e (.one (.ptr 90000 0)), .e (.one (.pure (.val (.int .i64 p2))))] [(.box [.own 90001, .own 90002, .own 90003], .box [.own 90001, .own 90002, .own 90003]), (.vec 1 (p1.fBase.map Af), .vec 1 (p1.fBase.map Af)), (.vec 1 (p1.fNext.map Af), .vec 1 (p1.fNext.map Af)), (.vec 1 (p1.fHeld.map A3), .vec 1 (r.2.map A3))] [] (.e (.one (.pure (.val (.bool r.1))))) := by
 unfold FA at h
 refine E6 (n := 68) (rs := [.tmp 6]) Try.func113 rfl rfl rfl (Bz rfl) (Bz rfl) rfl rfl (Bz rfl) rfl (Bz rfl) fun w0 S0 GL => ?_
 refine Am (sm [] [(0, .e (.agg [.pure (.sl (p0.fVersions.map Af)), .pure (.sl (p0.fNow.map Af)), .pure (.sl (p0.fTarget.map Af)), .pure (.sl (p0.fTables.map Ak))])), (1, .e (.one (.ptr 90000 0))), (2, .e (.one (.pure (.val (.int .i64 p2)))))] [(90000, .box [.own 90001, .own 90002, .own 90003]), (90001, .vec 1 (p1.fBase.map Af)), (90002, .vec 1 (p1.fNext.map Af)), (90003, .vec 1 (p1.fHeld.map A3))] rfl rfl) (Ab (Aa Ad rfl (qb rfl (qa rfl (Ac (Ab (Aa Ad rfl (qf Cl rfl (ql Gr rfl (qm rfl ?_))))))))))
 obtain ⟨v1, a1, b1, h⟩ := An h
 refine qi Dz Dt a1 (Al b1) rfl (qK Gm Dt rfl (qz Jx rfl (qs Dt rfl (Ac (Ab (Ab (Aa Ad rfl (qL Gm Dt rfl ?_))))))))
 obtain ⟨v2, a2, h⟩ := bind_some h
 refine AI [] (JC N v1 v2 a2) Tf rfl (Ch rfl (Ac ?_))
 refine Au rfl (fun c3 => ?_) (fun c3 => ?_)
 ·have h := Ap c3 h
  refine Ab (Aa Ad rfl (qa rfl (Ac ?_)))
  obtain rfl := sj h
  refine Am (sm [] [(6, .e (.one (.pure (.val (.bool false)))))] [(90000, .box [.own 90001, .own 90002, .own 90003]), (90001, .vec 1 (p1.fBase.map Af)), (90002, .vec 1 (p1.fNext.map Af)), (90003, .vec 1 (p1.fHeld.map A3))] rfl rfl) (AB ?_)
  exact ⟨⟨[_], ⟨.tmp _ _ rfl, trivial⟩, rfl⟩, ⟨rfl, rfl, rfl, rfl, trivial⟩, trivial⟩
 ·have h := Aq c3 h
  refine Av (Ab (Aa Ad rfl (qm rfl (Si rfl (qL Bl AO rfl (qf CF rfl (ql B1 rfl ?_)))))))
  obtain ⟨v4, a4, h⟩ := bind_some h
  refine D5 [] [90001, 90002, 90003] (Mo N p1 v1.fFrom v4 a4) U7 CN rfl (qa rfl (AX (by kernel_rfl) (Ab (Aa Ad rfl (qm rfl (Si rfl (qf Cn rfl (ql Gq rfl (qm rfl ?_)))))))))
  obtain ⟨v5, a5, b5, h⟩ := An h
  refine qI C8 E5 a5 (Al b5) rfl (qj Jv (Al b5) rfl (qm rfl (Hg rfl (qa rfl (Ac (Ab ?_))))))
  refine AR h (fun v6 => mk [(1, .e (.one (.ptr 90000 0))), (2, .e (.one (.pure (.val (.int .i64 p2))))), (8, .e (.one (.pure (.val (.int .u8 v4))))), (60, .e (.one (.pure (.val (.bool v6)))))] [(90000, .box [.own 90001, .own 90002, .own 90003]), (90001, .vec 1 (p1.fBase.map Af)), (90002, .vec 1 (p1.fNext.map Af)), (90003, .vec 1 (p1.fHeld.map A3))]) (fun j6 h => ?_) (fun v6 h => ?_)
  ·refine Aa Ad rfl (qm rfl (Si rfl (qf Cn rfl (ql Gq rfl (qm rfl ?_)))))
   obtain ⟨v7, a7, b7, h⟩ := An h
   refine qI C8 E5 a7 (Al b7) rfl (qj Jv (Al b7) rfl (qm rfl (BO rfl (qm rfl ?_))))
   refine AF (t := 42) rfl (fun c8 => ?_) (fun c8 => ?_)
   ·have h := Ap c8 h
    refine qn rfl (qn rfl (qn rfl (qn rfl (qu rfl (qu rfl (qu rfl (qu rfl (qu rfl (qu rfl (qu rfl (qu rfl (qu rfl (qu rfl (qu rfl (qu rfl (qn rfl (qp rfl (AX (by kernel_rfl) ?_))))))))))))))))))
    exact Ax _ h (sm [] _ _ rfl rfl)
   ·have h := Aq c8 h
    refine qf ER rfl (ql B1 rfl (BO rfl (qm rfl ?_)))
    refine AF (t := 46) rfl (fun c9 => ?_) (fun c9 => ?_)
    ·have h := Ap c9 h
     refine qL Gm Dt rfl (qm rfl (qm rfl (Si rfl (qf Cp rfl (ql A0 rfl (qf CF rfl (ql B1 rfl ?_)))))))
     obtain ⟨v10, a10, b10, h⟩ := An h
     refine qI AE CS a10 (Al b10) rfl (qj B1 (Al b10) rfl ?_)
     obtain ⟨v11, a11, h⟩ := bind_some h
     refine AI [] (KF N v1 ((CE .u8 v5 v4)) v10 v11 a11) UX rfl (Ch rfl (qp rfl (qp rfl (AX (by kernel_rfl) ?_))))
     exact Ax _ h (sm [] _ _ rfl rfl)
    ·have h := Aq c9 h
     refine qn rfl (qn rfl (qn rfl (qn rfl (qn rfl (qn rfl (qn rfl (qn rfl (qn rfl (qn rfl (qn rfl (qn rfl (qp rfl (qp rfl (AX (by kernel_rfl) ?_))))))))))))))
     exact Ax _ h (sm [] _ _ rfl rfl)
  ·refine Au rfl (fun c12 => ?_) (fun c12 => ?_)
   ·have h := Ap c12 h
    refine Ab (Aa Ad rfl (qa rfl (Ac ?_)))
    obtain rfl := sj h
    refine Am (sm [] [(6, .e (.one (.pure (.val (.bool false)))))] [(90000, .box [.own 90001, .own 90002, .own 90003]), (90001, .vec 1 (p1.fBase.map Af)), (90002, .vec 1 (p1.fNext.map Af)), (90003, .vec 1 (p1.fHeld.map A3))] rfl rfl) (AB ?_)
    exact ⟨⟨[_], ⟨.tmp _ _ rfl, trivial⟩, rfl⟩, ⟨rfl, rfl, rfl, rfl, trivial⟩, trivial⟩
   ·have h := Aq c12 h
    refine Av (Ab (Aa Ad rfl (qm rfl (Si rfl (qf Cn rfl (ql Gq rfl (qm rfl (qm rfl ?_))))))))
    obtain ⟨v13, a13, b13, h⟩ := An h
    refine qI C8 E5 a13 (Al b13) rfl ?_
    refine DH rfl rfl rfl rfl (Al b13) rfl E5 rfl (Bz rfl) (Dr A3 p1.fHeld _ v4) ?_
    refine Ac (Ab (Aa Ad rfl (qa rfl (Ac ?_))))
    obtain rfl := sj h
    refine Am (sm [] [(6, .e (.one (.pure (.val (.bool true)))))] [(90000, .box [.own 90001, .own 90002, .own 90003]), (90001, .vec 1 (p1.fBase.map Af)), (90002, .vec 1 (p1.fNext.map Af)), (90003, .vec 1 ((p1.fHeld.set ((p2).toNat) v4).map A3))] rfl rfl) (AB ?_)
    exact ⟨⟨[_], ⟨.tmp _ _ rfl, trivial⟩, rfl⟩, ⟨rfl, rfl, rfl, rfl, trivial⟩, trivial⟩
set_option maxRecDepth 10000 in
theorem J8 (N : Nat) (p0 : Ae) (p1 : Ah) (p2 : Ag) (r : Ah × Bool) (h : EI N p0 p1 p2 = some r) : AD Try.prog 102 [.e (.agg [.pure (.sl (p0.fVersions.map Af)), .pure (.sl (p0.fNow.map Af)), .pure (.sl (p0.fTarget.map Af)), .pure (.sl (p0.fTables.map Ak))]), .e (.agg [.pure (.sl (p1.fBase.map Af)), .pure (.sl (p1.fNext.map Af)), .pure (.sl (p1.fHeld.map A3))]), .e (.agg [.pure (.val (.int .i64 p2.fKind)), .pure (.val (.int .i64 p2.fIndex)), .pure (.val (.int .i64 p2.fVersion))])] [(1, r.1.fBase.map Af), (1, r.1.fNext.map Af), (1, r.1.fHeld.map A3)] (.tup [.agg [.own 0, .own 1, .own 2], .one (.pure (.val (.bool r.2)))]) := by
 unfold EI at h
 refine As (n := 51) (rs := [.cell 6 43, .tmp 7]) Try.func102 rfl rfl rfl (Bz rfl) (Bz rfl) rfl fun w0 S0 => ?_
 refine Ab (Aa Ad rfl (qb rfl (qb rfl (qb rfl (qz Co rfl (qa rfl (Ac (Ab (Aa Ad rfl (qL Bl AO rfl ?_))))))))))
 obtain ⟨v1, a1, h⟩ := bind_some h
 refine AI [2001, 2002, 2003] (MN N p1 v1 a1) V1 rfl (qz Co rfl (qs AO rfl (Ac (Ab (Ab (Aa Ad rfl (qf Ei rfl (ql B1 rfl (Ac (AW (Ab (Aa Ad rfl (BO rfl (qa rfl (Ac ?_)))))))))))))))
 refine Au rfl (fun c2 => ?_) (fun c2 => ?_)
 ·have h := Ap c2 h
  refine Ab (Aa Ad rfl (qL Bl AO rfl (qL C5 CR rfl (qL Hb Cs rfl ?_))))
  obtain ⟨v3, a3, h⟩ := bind_some h
  refine J5 (ds0 := [_, _, _]) [8, 2001, 2002, 2003] [] [false, false, true, true] (NE N p0 v1 p2 v3 a3) (.p rfl) UH rfl ⟨rfl, rfl, rfl, trivial⟩ rfl rfl (by decide) ⟨rfl, rfl, rfl, rfl, trivial⟩ rfl (GO rfl) trivial ⟨(fun _ => rfl), (fun _ => rfl), (fun h => by cases h), (fun h => by cases h), trivial⟩ rfl rfl rfl ?_
  refine qs AO rfl (qa rfl (AX (by kernel_rfl) ?_))
  obtain rfl := sj h
  refine Am (sm [(1000, 2001), (1001, 2002), (1002, 2003)] [(6, .e (.one (.ptr 6 0))), (7, .e (.one (.pure (.val (.bool v3.1)))))] [(6, .box [.own 1000, .own 1001, .own 1002]), (1000, .vec 1 (v1.fBase.map Af)), (1001, .vec 1 (v3.2.1.map Af)), (1002, .vec 1 (v3.2.2.map A3))] rfl rfl) (AB ?_)
  exact ⟨⟨[_, _], ⟨.cellN _ _ _ _ _ _ _ rfl rfl Bl AO rfl rfl (Fp rfl), ⟨.tmp _ _ rfl, trivial⟩⟩, rfl⟩, ⟨rfl, rfl, rfl, trivial⟩⟩
 ·have h := Aq c2 h
  refine Ab (Aa Ad rfl (BO rfl (qa rfl (Ac ?_))))
  refine Au rfl (fun c4 => ?_) (fun c4 => ?_)
  ·have h := Ap c4 h
   refine Ab (Aa Ad rfl (qL Bl AO rfl (qL C5 CR rfl (qf D8 rfl (ql B1 rfl ?_)))))
   obtain ⟨v5, a5, h⟩ := bind_some h
   refine J5 (ds0 := [_, _, _]) [8, 2001, 2002, 2003] [] [false, false, false, true] (NG N p0 v1 p2.fIndex v5 a5) (.p rfl) Vk rfl ⟨rfl, rfl, rfl, trivial⟩ rfl rfl (by decide) ⟨rfl, rfl, rfl, rfl, trivial⟩ rfl (GO rfl) trivial ⟨(fun _ => rfl), (fun _ => rfl), (fun _ => rfl), (fun h => by cases h), trivial⟩ rfl rfl rfl ?_
   refine qs AO rfl (qa rfl (AX (by kernel_rfl) ?_))
   obtain rfl := sj h
   refine Am (sm [(1000, 2001), (1001, 2002), (1002, 2003)] [(6, .e (.one (.ptr 6 0))), (7, .e (.one (.pure (.val (.bool v5.1)))))] [(6, .box [.own 1000, .own 1001, .own 1002]), (1000, .vec 1 (v1.fBase.map Af)), (1001, .vec 1 (v1.fNext.map Af)), (1002, .vec 1 (v5.2.map A3))] rfl rfl) (AB ?_)
   exact ⟨⟨[_, _], ⟨.cellN _ _ _ _ _ _ _ rfl rfl Bl AO rfl rfl (Fp rfl), ⟨.tmp _ _ rfl, trivial⟩⟩, rfl⟩, ⟨rfl, rfl, rfl, trivial⟩⟩
  ·have h := Aq c4 h
   refine Av (Ab (Aa Ad rfl (qf Bu rfl (ql A0 rfl (qf D8 rfl (ql B1 rfl ?_))))))
   obtain ⟨v6, a6, b6, h⟩ := An h
   refine qI AE CS a6 (Al b6) rfl (qj B1 (Al b6) rfl (qa rfl (Ac (Ab (Ab (Aa Ad rfl (qm rfl (Bc rfl (Ac ?_)))))))))
   refine Au rfl (fun c7 => ?_) (fun c7 => ?_)
   ·have h := Ap c7 h
    refine Ab (Aa Ad rfl (qL Bl AO rfl (qs AO rfl (qa rfl (Ac ?_)))))
    obtain rfl := sj h
    refine Am (sm [(1000, 2001), (1001, 2002), (1002, 2003)] [(6, .e (.one (.ptr 6 0))), (7, .e (.one (.pure (.val (.bool false)))))] [(6, .box [.own 1000, .own 1001, .own 1002]), (1000, .vec 1 (v1.fBase.map Af)), (1001, .vec 1 (v1.fNext.map Af)), (1002, .vec 1 (v1.fHeld.map A3))] rfl rfl) (AB ?_)
    exact ⟨⟨[_, _], ⟨.cellN _ _ _ _ _ _ _ rfl rfl Bl AO rfl rfl (Fp rfl), ⟨.tmp _ _ rfl, trivial⟩⟩, rfl⟩, ⟨rfl, rfl, rfl, trivial⟩⟩
   ·have h := Aq c7 h
    refine Av (Ab (Aa Ad rfl (qf Bu rfl (ql A0 rfl (qf D8 rfl (ql B1 rfl ?_))))))
    obtain ⟨v8, a8, b8, h⟩ := An h
    refine qI AE CS a8 (Al b8) rfl ?_
    refine DH rfl rfl rfl rfl (Al b8) rfl CS rfl (Bz rfl) (Dr Af v1.fNext _ ((-1))) ?_
    refine Ac ?_
    refine AR h (fun v9 => mk [(6, .e (.one (.ptr 6 0))), (8, .e (.one (.ptr 8 0)))] [(6, .box [.pure (.nil0), .pure (.nil0), .pure (.nil0)]), (8, .box [.own 2004, .own 2005, .own 2006]), (2004, .vec 1 (v9.map Af)), (2005, .vec 1 ((v1.fNext.set ((p2.fIndex).toNat) ((-1))).map Af)), (2006, .vec 1 (v1.fHeld.map A3))]) (fun j9 h => ?_) (fun v9 h => ?_)
    ·refine Ab (Aa Ad rfl (qf Ei rfl (ql B1 rfl (BO rfl (Ac ?_)))))
     refine Au rfl (fun c10 => ?_) (fun c10 => ?_)
     ·have h := Ap c10 h
      refine Aa Ad rfl (qf Cp rfl (ql A0 rfl (qf D8 rfl (ql B1 rfl (qm rfl ?_)))))
      obtain ⟨v11, a11, b11, h⟩ := An h
      refine qI AE CS a11 (Al b11) rfl ?_
      refine DH rfl rfl rfl rfl (Al b11) rfl CS rfl (Bz rfl) (Dr Af v1.fBase _ v6) ?_
      refine Ac ?_
      exact Ax _ h (sm [(2004, 2001), (2005, 2002), (2006, 2003)] _ _ rfl rfl)
     ·have h := Aq c10 h
      refine Av ?_
      exact Ax _ h (sm [(2004, 2001), (2005, 2002), (2006, 2003)] _ _ rfl rfl)
    ·refine Ab (Aa Ad rfl (qL Bl AO rfl (qs AO rfl (qa rfl (Ac ?_)))))
     obtain rfl := sj h
     refine Am (sm [(1000, 2004), (1001, 2005), (1002, 2006)] [(6, .e (.one (.ptr 6 0))), (7, .e (.one (.pure (.val (.bool true)))))] [(6, .box [.own 1000, .own 1001, .own 1002]), (1000, .vec 1 (v9.map Af)), (1001, .vec 1 ((v1.fNext.set ((p2.fIndex).toNat) ((-1))).map Af)), (1002, .vec 1 (v1.fHeld.map A3))] rfl rfl) (AB ?_)
     exact ⟨⟨[_, _], ⟨.cellN _ _ _ _ _ _ _ rfl rfl Bl AO rfl rfl (Fp rfl), ⟨.tmp _ _ rfl, trivial⟩⟩, rfl⟩, ⟨rfl, rfl, rfl, trivial⟩⟩
set_option maxRecDepth 10000 in
theorem KU (N : Nat) (p0 : Ag) (p1 : List Int) (p2 : List Int) (p3 : List Int) (p4 : List AC) (p5 : List Int) (p6 : List Int) (p7 : List Int) (r : Bool) (h : Ek N p0 p1 p2 p3 p4 p5 p6 p7 = some r) : AD Try.prog 105 [.e (.agg [.pure (.val (.int .i64 p0.fKind)), .pure (.val (.int .i64 p0.fIndex)), .pure (.val (.int .i64 p0.fVersion))]), .e (.one (.rop [.sl (p1.map Af), .sl (p2.map Af), .sl (p3.map Af), .sl (p4.map Ak)])), .e (.one (.rop [.sl (p5.map Af), .sl (p6.map Af), .sl (p7.map A3)]))] [] (.e (.one (.pure (.val (.bool r))))) := by
 unfold Ek at h
 refine As (n := 16) (rs := [.tmp 4]) Try.func105 rfl rfl rfl (Bz rfl) (Bz rfl) rfl fun w0 S0 => ?_
 refine Ab (Aa Ad rfl (qb rfl (qa rfl (Ac (Ab (Aa Ad rfl (qK C5 CR rfl (qK Bl AO rfl (qL Hb Cs rfl ?_)))))))))
 obtain ⟨v1, a1, h⟩ := bind_some h
 refine AI [2001, 2002, 2003] (J8 N ((Ae.mk p1 p2 p3 p4)) ((Ah.mk p5 p6 p7)) p0 v1 a1) Tw rfl (qm rfl (qx rfl (qx rfl (qz Co rfl (qs AO rfl (qa rfl (Ac (Ab (Aa Ad rfl (qm rfl (Ch rfl (qa rfl (Ac ?_)))))))))))))
 obtain rfl := sj h
 refine Am (sm [] [(4, .e (.one (.pure (.val (.bool ((!v1.2)))))))] [] rfl rfl) (AB ?_)
 exact ⟨⟨[_], ⟨.tmp _ _ rfl, trivial⟩, rfl⟩, trivial⟩
set_option maxRecDepth 10000 in
theorem Fl (N : Nat) (p0 : List Ag) (p1 : Ag → Option Bool) (r : Int) (h : CD N p0 p1 = some r) : AD Try.prog 114 [.e (.one (.pure (.sl (p0.map Ar)))), .e (.one (.clo (HV (Ly true Ar) tB p1)))] [] (.e (.one (.pure (.val (.int .i64 r))))) := by
 unfold CD at h
 refine As (n := 19) (rs := [.tmp 4]) Try.func114 rfl rfl rfl (Bz rfl) (Bz rfl) rfl fun w0 S0 => ?_
 refine Ab (Aa Ad rfl (qa rfl (Ac (Ab (Ab (Aa Ad rfl (qm rfl (AQ Bg rfl (qm rfl (Ac ?_))))))))))
 refine AP (L := BN N p0 p1) h (fun v1 => mk [(0, .e (.one (.pure (.sl (p0.map Ar))))), (1, .e (.one (.clo (HV (Ly true Ar) tB p1)))), (7, .e (.one (.pure (.val (.int .i64 ((p0.length : Int))))))), (8, .e (.one (.pure (.val (.int .i64 v1)))))] []) (fun v2 => mk [] []) (fun _ _ => rfl) (sm [] _ _ rfl rfl) (fun j1 n1 v1 h => ?_) (fun v2 s h hs => ?_)
 ·unfold BN at h
  refine Ab (Aa Ad rfl (Bc rfl (Ac (Ab ?_))))
  refine Au rfl (fun c3 => ?_) (fun c3 => ?_)
  ·have h := Ap c3 h
   refine Av (Ab (AW (Ab (Aa Ad rfl (qm rfl (qa rfl (Ac (Ab (Aa Ad rfl (qm rfl (qm rfl (qm rfl ?_))))))))))))
   obtain ⟨v4, a4, b4, h⟩ := An h
   refine qi Bg Cs a4 (Al b4) rfl (qK Hb Cs rfl ?_)
   obtain ⟨v5, a5, h⟩ := bind_some h
   refine Kp (ds0 := [_]) (ar := (Ly true Ar) v4) (.p rfl) rfl rfl ⟨rfl, trivial⟩ rfl rfl rfl (Kb (J9 _ _ LT) a5) ?_
   refine Ac ?_
   refine Au rfl (fun c6 => ?_) (fun c6 => ?_)
   ·have h := Ap c6 h
    refine Ab (Aa Ad rfl (qm rfl (qa rfl (Ac ?_))))
    obtain rfl := sj h
    refine Am (sm [] [(4, .e (.one (.pure (.val (.int .i64 v1)))))] [] rfl rfl) (AB ?_)
    exact ⟨⟨[_], ⟨.tmp _ _ rfl, trivial⟩, rfl⟩, trivial⟩
   ·have h := Aq c6 h
    refine Av (Aa Ad rfl (Bm rfl (qm rfl (Ac ?_))))
    exact Ax _ h (sm [] _ _ rfl rfl)
  ·have h := Aq c3 h
   refine A1 ?_
   exact Ax _ h (sm [] _ _ rfl rfl)
 ·refine Am hs (Ab (Aa Ad rfl (qa rfl (Ac ?_))))
  obtain rfl := sj h
  refine Am (sm [] [(4, .e (.one (.pure (.val (.int .i64 ((-1)))))))] [] rfl rfl) (AB ?_)
  exact ⟨⟨[_], ⟨.tmp _ _ rfl, trivial⟩, rfl⟩, trivial⟩
set_option maxRecDepth 10000 in
theorem E9 (N : Nat) (p0 : List Ag) (p1 : Ag → Option Bool) (r : Nat × (List Ag)) (h : Cz N p0 p1 = some r) : EG Try.prog 103 [.e (.one (.own 90000)), .e (.one (.clo (HV (Ly true Ar) tB p1)))] [(.vec 3 (p0.map Ar), .vec 3 (r.2.map Ar))] [] (.e (.one (.view 90000 3 0 r.1))) := by
 unfold Cz at h
 refine E6 (n := 42) (rs := [.tmp 4]) Try.func103 rfl rfl rfl (Bz rfl) (Bz rfl) rfl rfl (Bz rfl) rfl (Bz rfl) fun w0 S0 GL => ?_
 refine Am (sm [] [(0, .e (.one (.own 90000))), (1, .e (.one (.clo (HV (Ly true Ar) tB p1))))] [(90000, .vec 3 (p0.map Ar))] rfl rfl) (Ab (Aa Ad rfl (qa rfl (Ac (Ab (Aa Ad rfl (qm rfl (qm rfl ?_))))))))
 obtain ⟨v1, a1, h⟩ := bind_some h
 refine D5 [] [90000] (Fl N p0 p1 v1 a1) UI CN rfl (qa rfl (Ac (Ab (Ab (Aa Ad rfl (qm rfl (BO rfl (Ac ?_))))))))
 refine Au rfl (fun c2 => ?_) (fun c2 => ?_)
 ·have h := Ap c2 h
  refine Ab (Aa Ad rfl (qm rfl (qa rfl (Ac ?_))))
  obtain rfl := sj h
  refine Am ((Qm Ar p0 4 90000 3 rfl rfl).trans (sm [] [(4, .e (.one (.view 90000 3 0 p0.length)))] [(90000, .vec 3 (p0.map Ar))] rfl rfl)) (AB ?_)
  exact ⟨⟨[_], ⟨.tmp _ _ rfl, trivial⟩, rfl⟩, ⟨rfl, trivial⟩, trivial⟩
 ·have h := Aq c2 h
  refine Av (Ab (Ab (Aa Ad rfl (qm rfl (Bm rfl (qa rfl (Ac ?_)))))))
  refine AP (L := BK N p1) h (fun v3 => mk [(0, .e (.one (.own 90000))), (1, .e (.one (.clo (HV (Ly true Ar) tB p1)))), (5, .e (.one (.pure (.val (.int .i64 v3.2.1))))), (6, .e (.one (.pure (.val (.int .i64 v3.2.2)))))] [(90000, .vec 3 (v3.1.map Ar))]) (fun v4 => mk [(0, .e (.one (.own 90000))), (5, .e (.one (.pure (.val (.int .i64 v4.2)))))] [(90000, .vec 3 (v4.1.map Ar))]) (fun _ _ => rfl) (sm [] _ _ rfl rfl) (fun j3 n3 v3 h => ?_) (fun v4 s h hs => ?_)
  ·unfold BK at h
   refine Ab (Ab (Aa Ad rfl (qm rfl (qm rfl (EZ Bg rfl (Bc rfl (Ac ?_)))))))
   refine Au rfl (fun c5 => ?_) (fun c5 => ?_)
   ·have h := Ap c5 h
    refine Av ?_
    refine AR h (fun v6 => mk [(0, .e (.one (.own 90000))), (1, .e (.one (.clo (HV (Ly true Ar) tB p1)))), (5, .e (.one (.pure (.val (.int .i64 v6.2))))), (6, .e (.one (.pure (.val (.int .i64 v3.2.2)))))] [(90000, .vec 3 (v6.1.map Ar))]) (fun j6 h => ?_) (fun v6 h => ?_)
    ·refine AW (Ab (Aa Ad rfl (qm rfl (qm rfl ?_))))
     obtain ⟨v7, a7, b7, h⟩ := An h
     refine qI Bg Cs a7 (Al b7) rfl (qJ Hb Cs (Al b7) rfl (qz Fi rfl (qs Cs rfl (Ac (Ab (Aa Ad rfl (qm rfl (qL Hb Cs rfl ?_))))))))
     obtain ⟨v8, a8, h⟩ := bind_some h
     refine Kp (ds0 := [_]) (ar := (Ly true Ar) v7) (.p rfl) rfl rfl ⟨rfl, trivial⟩ rfl rfl rfl (Kb (J9 _ _ LT) a8) ?_
     refine Ch rfl (Ac ?_)
     refine Au rfl (fun c9 => ?_) (fun c9 => ?_)
     ·have h := Ap c9 h
      refine Ab (Aa Ad rfl (qm rfl (qm rfl (qL Hb Cs rfl ?_))))
      obtain ⟨v10, a10, b10, h⟩ := An h
      refine qI Bg Cs a10 (Al b10) rfl ?_
      refine DH rfl rfl rfl rfl (Al b10) rfl Cs rfl (Bz rfl) (Dr Ar v3.1 _ v7) ?_
      refine Ac (Aa Ad rfl (qm rfl (Bm rfl (qa rfl (Ac ?_)))))
      exact Ax _ h (sm [] _ _ rfl rfl)
     ·have h := Aq c9 h
      refine Av ?_
      exact Ax _ h (sm [] _ _ rfl rfl)
    ·refine Aa Ad rfl (qm rfl (Bm rfl (qa rfl (Ac ?_))))
     exact Ax _ h (sm [] _ _ rfl rfl)
   ·have h := Aq c5 h
    refine A1 ?_
    exact Ax _ h (sm [] _ _ rfl rfl)
  ·refine Am hs (Ab (Aa Ad rfl (qm rfl (qm rfl ?_))))
   obtain ⟨c11, h⟩ := AG h
   have w12 : ((v4.2).toNat) + ((v4.1.length - (v4.2).toNat)) ≤ v4.1.length := by have := c11.2.1; have := c11.2.2; omega
   refine Hp Ar v4.1 (.p rfl) rfl (Hf Ar _ _ v4.1) rfl Bg Cs (.some _ _ _ _ c11.1) (.none _) ⟨rfl, trivial⟩ trivial c11.2.1 (by rw [Nat.zero_add]; exact c11.2.2) (Nat.zero_add _) rfl ?_
   have w13 : (F4 v4.1 ((v4.2).toNat) (List.replicate ((v4.1.length - (v4.2).toNat)) ((Ag.mk 0 0 0)))).length = v4.1.length := FM (by rw [List.length_replicate]; exact w12)
   refine OT Ar v4.1 ((Ag.mk 0 0 0)) rfl rfl (H1 Ar _ _ ((v4.2).toNat) ((v4.1.length - (v4.2).toNat)) v4.1 w12) rfl Bg Fi rfl rfl rfl rfl ?_
   refine Ac (Ab (Aa Ad rfl (qm rfl (qm rfl ?_))))
   obtain ⟨c14, h⟩ := AG h
   have w15 : 0 + ((v4.2).toNat) ≤ (F4 v4.1 ((v4.2).toNat) (List.replicate ((v4.1.length - (v4.2).toNat)) ((Ag.mk 0 0 0)))).length := by have := c14.2.1; have := c14.2.2; omega
   refine Hp Ar (F4 v4.1 ((v4.2).toNat) (List.replicate ((v4.1.length - (v4.2).toNat)) ((Ag.mk 0 0 0)))) (.p rfl) rfl (Hf Ar _ _ (F4 v4.1 ((v4.2).toNat) (List.replicate ((v4.1.length - (v4.2).toNat)) ((Ag.mk 0 0 0))))) rfl Bg Cs (.none _) (.some _ _ _ _ c14.1) trivial ⟨rfl, trivial⟩ c14.2.1 (by rw [Nat.zero_add]; exact c14.2.2) (Nat.zero_add _) rfl ?_
   refine qa rfl (Ac ?_)
   obtain rfl := sj h
   refine Am (sm [] [(4, .e (.one (.view 90000 3 0 ((v4.2).toNat))))] [(90000, .vec 3 ((F4 v4.1 ((v4.2).toNat) (List.replicate ((v4.1.length - (v4.2).toNat)) ((Ag.mk 0 0 0)))).map Ar))] rfl rfl) (AB ?_)
   exact ⟨⟨[_], ⟨.tmp _ _ rfl, trivial⟩, rfl⟩, ⟨rfl, trivial⟩, trivial⟩
set_option maxRecDepth 10000 in
theorem Mp (N : Nat) (p0 : Ae) (p1 : Ah) (r : (List Ag) × Int) (h : GR N p0 p1 = some r) : AD Try.prog 87 [.e (.agg [.pure (.sl (p0.fVersions.map Af)), .pure (.sl (p0.fNow.map Af)), .pure (.sl (p0.fTarget.map Af)), .pure (.sl (p0.fTables.map Ak))]), .e (.agg [.pure (.sl (p1.fBase.map Af)), .pure (.sl (p1.fNext.map Af)), .pure (.sl (p1.fHeld.map A3))])] [(3, r.1.map Ar)] (.tup [.one (.own 0), .one (.pure (.val (.int .i64 r.2)))]) := by
 unfold GR at h
 refine As (n := 17) (rs := [.tmp 4, .tmp 5]) Try.func87 rfl rfl rfl (Bz rfl) (Bz rfl) rfl fun w0 S0 => ?_
 refine Ab (Aa Ad rfl (qb rfl (qb rfl (qa rfl (qa rfl (Ac (Ab (Ab (Aa Ad rfl (qL C5 CR rfl (qL Bl AO rfl ?_)))))))))))
 obtain ⟨v1, a1, h⟩ := bind_some h
 refine AI [] (HJ N p0 p1 v1 a1) Sa rfl (qa rfl (Ac (Ab (Aa Ad rfl (qm rfl (B0 rfl (Ac ?_)))))))
 refine Au rfl (fun c2 => ?_) (fun c2 => ?_)
 ·have h := Ap c2 h
  refine Ab (Aa Ad rfl (qm rfl (qa rfl (qa rfl (Ac ?_)))))
  obtain rfl := sj h
  refine Am ((BR 4 2001 3 rfl rfl rfl).trans (sm [(1000, 2001)] [(4, .e (.one (.own 1000))), (5, .e (.one (.pure (.val (.int .i64 v1)))))] [(1000, .vec 3 ((([] : List Ag)).map Ar))] rfl rfl)) (AB ?_)
  exact ⟨⟨[_, _], ⟨.tmp _ _ rfl, ⟨.tmp _ _ rfl, trivial⟩⟩, rfl⟩, ⟨rfl, trivial⟩⟩
 ·have h := Aq c2 h
  refine Av (Ab (Aa Ad rfl (qL C5 CR rfl ?_)))
  obtain ⟨v3, a3, h⟩ := bind_some h
  refine AI [2002] (PW N p0 v3 a3) UU rfl (Dg (KE 2 [.sl (p0.fVersions.map Af), .sl (p0.fNow.map Af), .sl (p0.fTarget.map Af), .sl (p0.fTables.map Ak)] rfl rfl) (Dg (KE 3 [.sl (p1.fBase.map Af), .sl (p1.fNext.map Af), .sl (p1.fHeld.map A3)] rfl rfl) ?_))
  refine J1 (capD := [_, _]) (HV (Ly true Ar) tB ((fun (x : Ag) => Ek N x p0.fVersions p0.fNow p0.fTarget p0.fTables p1.fBase p1.fNext p1.fHeld))) (.p rfl) Vs rfl ⟨rfl, rfl, trivial⟩ rfl (fun ar t ht => by obtain ⟨x, r, rfl, hq, rfl⟩ := Ji ht; exact KU N x p0.fVersions p0.fNow p0.fTarget p0.fTables p1.fBase p1.fNext p1.fHeld r hq) ?_
  obtain ⟨v4, a4, h⟩ := bind_some h
  obtain ⟨c5, h⟩ := AG h
  have w6 : 0 + v4.1 ≤ v4.2.length := by rw [Nat.zero_add]; exact c5
  refine J5 (ds0 := [_, _]) [2002] [] [true] (E9 N v3 ((fun (x : Ag) => Ek N x p0.fVersions p0.fNow p0.fTarget p0.fTables p1.fBase p1.fNext p1.fHeld)) v4 a4) (.p rfl) Uw rfl ⟨rfl, rfl, trivial⟩ rfl rfl (by decide) ⟨rfl, trivial⟩ rfl (GO rfl) trivial ⟨(fun h => by cases h), trivial⟩ rfl rfl rfl ?_
  refine Dg (Re Ar v4.2 16 2002 2003 3 v4.1 rfl rfl rfl rfl rfl c5) (qa rfl (qa rfl (Ac ?_)))
  obtain rfl := sj h
  refine Am (sm [(1000, 2003)] [(4, .e (.one (.own 1000))), (5, .e (.one (.pure (.val (.int .i64 0)))))] [(1000, .vec 3 ((v4.2.take v4.1).map Ar))] rfl rfl) (AB ?_)
  exact ⟨⟨[_, _], ⟨.tmp _ _ rfl, ⟨.tmp _ _ rfl, trivial⟩⟩, rfl⟩, ⟨rfl, trivial⟩⟩
set_option maxRecDepth 10000 in
theorem ND (N : Nat) (p0 : Ag) (r : Bool) (h : FC N p0 = some r) : AD Try.prog 100 [.e (.agg [.pure (.val (.int .i64 p0.fKind)), .pure (.val (.int .i64 p0.fIndex)), .pure (.val (.int .i64 p0.fVersion))])] [] (.e (.one (.pure (.val (.bool r))))) := by
 unfold FC at h
 refine As (n := 27) (rs := [.tmp 2]) Try.func100 rfl rfl rfl (Bz rfl) (Bz rfl) rfl fun w0 S0 => ?_
 refine Ab (Aa Ad rfl (qb rfl (qa rfl (Ac (Ab ?_)))))
 refine AR h (fun v1 => mk [(1, .e (.one (.ptr 1 0))), (18, .e (.one (.pure (.val (.bool v1)))))] [(1, .box [.pure (.val (.int .i64 p0.fKind)), .pure (.val (.int .i64 p0.fIndex)), .pure (.val (.int .i64 p0.fVersion))])]) (fun j1 h => ?_) (fun v1 h => ?_)
 ·refine Aa Ad rfl (qf D8 rfl (ql B1 rfl (qf FH rfl (ql B1 rfl ?_))))
  refine Vo (.p rfl) rfl rfl ?_
  refine Bc rfl (qm rfl ?_)
  refine AF (t := 9) rfl (fun c2 => ?_) (fun c2 => ?_)
  ·have h := Ap c2 h
   refine qn rfl (qn rfl (qn rfl (qp rfl (qm rfl (qn rfl (qn rfl (qn rfl (qp rfl (Ac ?_)))))))))
   exact Ax _ h (sm [] _ _ rfl rfl)
  ·have h := Aq c2 h
   refine qf Ei rfl (ql B1 rfl (Bc rfl (qp rfl (qm rfl ?_))))
   refine AF (t := 14) rfl (fun c3 => ?_) (fun c3 => ?_)
   ·have h := Ap c3 h
    refine qn rfl (qn rfl (qn rfl (qp rfl (Ac ?_))))
    exact Ax _ h (sm [] _ _ rfl rfl)
   ·have h := Aq c3 h
    refine qf Ei rfl (ql B1 rfl (FY rfl (qp rfl (Ac ?_))))
    exact Ax _ h (sm [] _ _ rfl rfl)
 ·refine Au rfl (fun c4 => ?_) (fun c4 => ?_)
  ·have h := Ap c4 h
   refine Ab (Aa Ad rfl (qa rfl (Ac ?_)))
   obtain rfl := sj h
   refine Am (sm [] [(2, .e (.one (.pure (.val (.bool false)))))] [] rfl rfl) (AB ?_)
   exact ⟨⟨[_], ⟨.tmp _ _ rfl, trivial⟩, rfl⟩, trivial⟩
  ·have h := Aq c4 h
   refine Av ?_
   refine AR h (fun v5 => mk [(2, .e (.one (.pure (.val (.bool v5)))))] []) (fun j5 h => ?_) (fun v5 h => ?_)
   ·refine Aa Ad rfl (qf Ei rfl (ql B1 rfl (BO rfl (qm rfl ?_))))
    refine AF (t := 22) rfl (fun c6 => ?_) (fun c6 => ?_)
    ·have h := Ap c6 h
     refine qn rfl (qn rfl (qn rfl (qp rfl (qa rfl (Ac ?_)))))
     exact Ax _ h (sm [] _ _ rfl rfl)
    ·have h := Aq c6 h
     refine qf FH rfl (ql B1 rfl (BO rfl (qp rfl (qa rfl (Ac ?_)))))
     exact Ax _ h (sm [] _ _ rfl rfl)
   ·obtain rfl := sj h
    refine Am (sm [] [(2, .e (.one (.pure (.val (.bool v5)))))] [] rfl rfl) (AB ?_)
    exact ⟨⟨[_], ⟨.tmp _ _ rfl, trivial⟩, rfl⟩, trivial⟩
set_option maxRecDepth 10000 in
theorem MK (N : Nat) (p0 : Ae) (p1 : Ag) (r : Bool) (h : EW N p0 p1 = some r) : AD Try.prog 101 [.e (.agg [.pure (.sl (p0.fVersions.map Af)), .pure (.sl (p0.fNow.map Af)), .pure (.sl (p0.fTarget.map Af)), .pure (.sl (p0.fTables.map Ak))]), .e (.agg [.pure (.val (.int .i64 p1.fKind)), .pure (.val (.int .i64 p1.fIndex)), .pure (.val (.int .i64 p1.fVersion))])] [] (.e (.one (.pure (.val (.bool r))))) := by
 unfold EW at h
 refine As (n := 36) (rs := [.tmp 4]) Try.func101 rfl rfl rfl (Bz rfl) (Bz rfl) rfl fun w0 S0 => ?_
 refine Ab (Aa Ad rfl (qb rfl (qb rfl (qa rfl (Ac (Ab (Ab (Aa Ad rfl (qf Ei rfl (ql B1 rfl (BO rfl (Ac ?_))))))))))))
 refine Au rfl (fun c1 => ?_) (fun c1 => ?_)
 ·have h := Ap c1 h
  refine Ab (Aa Ad rfl (qf D8 rfl (ql B1 rfl (qf Cl rfl (ql Gr rfl (AQ Dz rfl (Bc rfl (qa rfl (Ac ?_)))))))))
  obtain rfl := sj h
  refine Am (sm [] [(4, .e (.one (.pure (.val (.bool ((decide (p1.fIndex < (p0.fTables.length : Int)))))))))] [] rfl rfl) (AB ?_)
  exact ⟨⟨[_], ⟨.tmp _ _ rfl, trivial⟩, rfl⟩, trivial⟩
 ·have h := Aq c1 h
  refine Av ?_
  refine AR h (fun v2 => mk [(4, .e (.one (.pure (.val (.bool v2)))))] []) (fun j2 h => ?_) (fun v2 h => ?_)
  ·refine Aa Ad rfl (qf D8 rfl (ql B1 rfl (qf Bk rfl (ql A0 rfl (AQ AE rfl (Bc rfl (qm rfl ?_)))))))
   refine AF (t := 20) rfl (fun c3 => ?_) (fun c3 => ?_)
   ·have h := Ap c3 h
    refine qf Ei rfl (ql B1 rfl (B0 rfl (qm rfl ?_)))
    refine AF (t := 24) rfl (fun c4 => ?_) (fun c4 => ?_)
    ·have h := Ap c4 h
     refine qn rfl (qn rfl (qn rfl (qn rfl (qn rfl (qn rfl (qn rfl (qn rfl (qn rfl (qp rfl (qp rfl (qa rfl (AX (by kernel_rfl) ?_))))))))))))
     exact Ax _ h (sm [] _ _ rfl rfl)
    ·have h := Aq c4 h
     refine qf FH rfl (ql B1 rfl (qf Bk rfl (ql A0 rfl (qf D8 rfl (ql B1 rfl ?_)))))
     obtain ⟨v5, a5, b5, h⟩ := An h
     refine qi AE CS a5 (Al b5) rfl (qk B1 rfl (Bc rfl (qp rfl (qp rfl (qa rfl (AX (by kernel_rfl) ?_))))))
     exact Ax _ h (sm [] _ _ rfl rfl)
   ·have h := Aq c3 h
    refine qn rfl (qn rfl (qn rfl (qn rfl (qu rfl (qu rfl (qu rfl (qu rfl (qu rfl (qu rfl (qu rfl (qu rfl (qu rfl (qn rfl (qp rfl (qa rfl (AX (by kernel_rfl) ?_))))))))))))))))
    exact Ax _ h (sm [] _ _ rfl rfl)
  ·obtain rfl := sj h
   refine Am (sm [] [(4, .e (.one (.pure (.val (.bool v2)))))] [] rfl rfl) (AB ?_)
   exact ⟨⟨[_], ⟨.tmp _ _ rfl, trivial⟩, rfl⟩, trivial⟩
set_option maxRecDepth 10000 in
theorem NC (N : Nat) (p0 : Ae) (p1 : Ah) (p2 : Ag) (r : Ah × Int) (h : Ft N p0 p1 p2 = some r) : AD Try.prog 78 [.e (.agg [.pure (.sl (p0.fVersions.map Af)), .pure (.sl (p0.fNow.map Af)), .pure (.sl (p0.fTarget.map Af)), .pure (.sl (p0.fTables.map Ak))]), .e (.agg [.pure (.sl (p1.fBase.map Af)), .pure (.sl (p1.fNext.map Af)), .pure (.sl (p1.fHeld.map A3))]), .e (.agg [.pure (.val (.int .i64 p2.fKind)), .pure (.val (.int .i64 p2.fIndex)), .pure (.val (.int .i64 p2.fVersion))])] [(1, r.1.fBase.map Af), (1, r.1.fNext.map Af), (1, r.1.fHeld.map A3)] (.tup [.agg [.own 0, .own 1, .own 2], .one (.pure (.val (.int .i64 r.2)))]) := by
 unfold Ft at h
 refine As (n := 32) (rs := [.cell 6 43, .tmp 7]) Try.func78 rfl rfl rfl (Bz rfl) (Bz rfl) rfl fun w0 S0 => ?_
 refine Ab (Aa Ad rfl (qb rfl (qb rfl (qb rfl (qz Co rfl (qa rfl (Ac (Ab (AW (Ab (Aa Ad rfl (qL Hb Cs rfl ?_))))))))))))
 obtain ⟨v1, a1, h⟩ := bind_some h
 refine AI [] (ND N p2 v1 a1) UZ rfl (Ch rfl (qa rfl (Ac ?_)))
 refine Au rfl (fun c2 => ?_) (fun c2 => ?_)
 ·have h := Ap c2 h
  refine Ab (Aa Ad rfl (AV Co Fa rfl (qs AO rfl (qa rfl (Ac ?_)))))
  obtain rfl := sj h
  refine Am ((AA 6 0 2001 1 _ rfl rfl rfl rfl).trans ((AA 6 1 2002 1 _ rfl rfl rfl rfl).trans ((AA 6 2 2003 1 _ rfl rfl rfl rfl).trans (sm [(1000, 2001), (1001, 2002), (1002, 2003)] [(6, .e (.one (.ptr 6 0))), (7, .e (.one (.pure (.val (.int .i64 1)))))] [(6, .box [.own 1000, .own 1001, .own 1002]), (1000, .vec 1 ((([] : List Int)).map Af)), (1001, .vec 1 ((([] : List Int)).map Af)), (1002, .vec 1 ((([] : List Int)).map A3))] rfl rfl)))) (AB ?_)
  exact ⟨⟨[_, _], ⟨.cellN _ _ _ _ _ _ _ rfl rfl Bl AO rfl rfl (Fp rfl), ⟨.tmp _ _ rfl, trivial⟩⟩, rfl⟩, ⟨rfl, rfl, rfl, trivial⟩⟩
 ·have h := Aq c2 h
  refine Ab (Aa Ad rfl (qL C5 CR rfl (qL Hb Cs rfl ?_)))
  obtain ⟨v3, a3, h⟩ := bind_some h
  refine AI [] (MK N p0 p2 v3 a3) Va rfl (Ch rfl (qa rfl (Ac ?_)))
  refine Au rfl (fun c4 => ?_) (fun c4 => ?_)
  ·have h := Ap c4 h
   refine Ab (Aa Ad rfl (AV Co Fa rfl (qs AO rfl (qa rfl (Ac ?_)))))
   obtain rfl := sj h
   refine Am ((AA 6 0 2004 1 _ rfl rfl rfl rfl).trans ((AA 6 1 2005 1 _ rfl rfl rfl rfl).trans ((AA 6 2 2006 1 _ rfl rfl rfl rfl).trans (sm [(1000, 2004), (1001, 2005), (1002, 2006)] [(6, .e (.one (.ptr 6 0))), (7, .e (.one (.pure (.val (.int .i64 4)))))] [(6, .box [.own 1000, .own 1001, .own 1002]), (1000, .vec 1 ((([] : List Int)).map Af)), (1001, .vec 1 ((([] : List Int)).map Af)), (1002, .vec 1 ((([] : List Int)).map A3))] rfl rfl)))) (AB ?_)
   exact ⟨⟨[_, _], ⟨.cellN _ _ _ _ _ _ _ rfl rfl Bl AO rfl rfl (Fp rfl), ⟨.tmp _ _ rfl, trivial⟩⟩, rfl⟩, ⟨rfl, rfl, rfl, trivial⟩⟩
  ·have h := Aq c4 h
   refine Av (Ab (Aa Ad rfl (qL C5 CR rfl (qL Bl AO rfl (qL Hb Cs rfl ?_)))))
   obtain ⟨v5, a5, h⟩ := bind_some h
   refine AI [2007, 2008, 2009] (J8 N p0 p1 p2 v5 a5) Tw rfl (qm rfl (qx rfl (qx rfl (qz Co rfl (qs AO rfl (qa rfl (Ac (Ab (Ab (Aa Ad rfl (qm rfl (Ch rfl (Ac ?_)))))))))))))
   refine Au rfl (fun c6 => ?_) (fun c6 => ?_)
   ·have h := Ap c6 h
    refine Ab (Aa Ad rfl (AV Co Fa rfl (qs AO rfl (qa rfl (Ac ?_)))))
    obtain rfl := sj h
    refine Am ((AA 6 0 2010 1 _ rfl rfl rfl rfl).trans ((AA 6 1 2011 1 _ rfl rfl rfl rfl).trans ((AA 6 2 2012 1 _ rfl rfl rfl rfl).trans (sm [(1000, 2010), (1001, 2011), (1002, 2012)] [(6, .e (.one (.ptr 6 0))), (7, .e (.one (.pure (.val (.int .i64 11)))))] [(6, .box [.own 1000, .own 1001, .own 1002]), (1000, .vec 1 ((([] : List Int)).map Af)), (1001, .vec 1 ((([] : List Int)).map Af)), (1002, .vec 1 ((([] : List Int)).map A3))] rfl rfl)))) (AB ?_)
    exact ⟨⟨[_, _], ⟨.cellN _ _ _ _ _ _ _ rfl rfl Bl AO rfl rfl (Fp rfl), ⟨.tmp _ _ rfl, trivial⟩⟩, rfl⟩, ⟨rfl, rfl, rfl, trivial⟩⟩
   ·have h := Aq c6 h
    refine Av (Ab (Aa Ad rfl (qL Bl AO rfl (qs AO rfl (qa rfl (Ac ?_))))))
    obtain rfl := sj h
    refine Am (sm [(1000, 2007), (1001, 2008), (1002, 2009)] [(6, .e (.one (.ptr 6 0))), (7, .e (.one (.pure (.val (.int .i64 0)))))] [(6, .box [.own 1000, .own 1001, .own 1002]), (1000, .vec 1 (v5.1.fBase.map Af)), (1001, .vec 1 (v5.1.fNext.map Af)), (1002, .vec 1 (v5.1.fHeld.map A3))] rfl rfl) (AB ?_)
    exact ⟨⟨[_, _], ⟨.cellN _ _ _ _ _ _ _ rfl rfl Bl AO rfl rfl (Fp rfl), ⟨.tmp _ _ rfl, trivial⟩⟩, rfl⟩, ⟨rfl, rfl, rfl, trivial⟩⟩
set_option maxRecDepth 10000 in
theorem Kf (N : Nat) (p0 : Ae) (p1 : Ah) (p2 : Ag) (r : Ah × Int) (h : EH N p0 p1 p2 = some r) : AD Try.prog 39 [.e (.agg [.pure (.sl (p0.fVersions.map Af)), .pure (.sl (p0.fNow.map Af)), .pure (.sl (p0.fTarget.map Af)), .pure (.sl (p0.fTables.map Ak))]), .e (.agg [.pure (.sl (p1.fBase.map Af)), .pure (.sl (p1.fNext.map Af)), .pure (.sl (p1.fHeld.map A3))]), .e (.agg [.pure (.val (.int .i64 p2.fKind)), .pure (.val (.int .i64 p2.fIndex)), .pure (.val (.int .i64 p2.fVersion))])] [(1, r.1.fBase.map Af), (1, r.1.fNext.map Af), (1, r.1.fHeld.map A3)] (.tup [.agg [.own 0, .own 1, .own 2], .one (.pure (.val (.int .i64 r.2)))]) := by
 unfold EH at h
 refine As (n := 22) (rs := [.cell 6 43, .tmp 7]) Try.func39 rfl rfl rfl (Bz rfl) (Bz rfl) rfl fun w0 S0 => ?_
 refine Ab (Aa Ad rfl (qb rfl (qb rfl (qb rfl (qz Co rfl (qa rfl (Ac (Ab (Ab (Aa Ad rfl (qL C5 CR rfl (qL Bl AO rfl ?_))))))))))))
 obtain ⟨v1, a1, h⟩ := bind_some h
 refine AI [] (HJ N p0 p1 v1 a1) Sa rfl (qa rfl (Ac (Ab (Aa Ad rfl (qm rfl (B0 rfl (Ac ?_)))))))
 refine Au rfl (fun c2 => ?_) (fun c2 => ?_)
 ·have h := Ap c2 h
  refine Ab (Aa Ad rfl (AV Co Fa rfl (qm rfl (qs AO rfl (qa rfl (Ac ?_))))))
  obtain rfl := sj h
  refine Am ((AA 6 0 2001 1 _ rfl rfl rfl rfl).trans ((AA 6 1 2002 1 _ rfl rfl rfl rfl).trans ((AA 6 2 2003 1 _ rfl rfl rfl rfl).trans (sm [(1000, 2001), (1001, 2002), (1002, 2003)] [(6, .e (.one (.ptr 6 0))), (7, .e (.one (.pure (.val (.int .i64 v1)))))] [(6, .box [.own 1000, .own 1001, .own 1002]), (1000, .vec 1 ((([] : List Int)).map Af)), (1001, .vec 1 ((([] : List Int)).map Af)), (1002, .vec 1 ((([] : List Int)).map A3))] rfl rfl)))) (AB ?_)
  exact ⟨⟨[_, _], ⟨.cellN _ _ _ _ _ _ _ rfl rfl Bl AO rfl rfl (Fp rfl), ⟨.tmp _ _ rfl, trivial⟩⟩, rfl⟩, ⟨rfl, rfl, rfl, trivial⟩⟩
 ·have h := Aq c2 h
  refine Av (Ab (Aa Ad rfl (qL C5 CR rfl (qL Bl AO rfl (qL Hb Cs rfl ?_)))))
  obtain ⟨v3, a3, h⟩ := bind_some h
  refine AI [2004, 2005, 2006] (NC N p0 p1 p2 v3 a3) VN rfl (qx rfl (qx rfl (qs AO rfl (qa rfl (Ac ?_)))))
  obtain rfl := sj h
  refine Am (sm [(1000, 2004), (1001, 2005), (1002, 2006)] [(6, .e (.one (.ptr 6 0))), (7, .e (.one (.pure (.val (.int .i64 v3.2)))))] [(6, .box [.own 1000, .own 1001, .own 1002]), (1000, .vec 1 (v3.1.fBase.map Af)), (1001, .vec 1 (v3.1.fNext.map Af)), (1002, .vec 1 (v3.1.fHeld.map A3))] rfl rfl) (AB ?_)
  exact ⟨⟨[_, _], ⟨.cellN _ _ _ _ _ _ _ rfl rfl Bl AO rfl rfl (Fp rfl), ⟨.tmp _ _ rfl, trivial⟩⟩, rfl⟩, ⟨rfl, rfl, rfl, trivial⟩⟩
set_option maxRecDepth 10000 in
theorem MR (N : Nat) (p0 : Ae) (p1 : Ah) (r : (List AS) × Int) (h : Hw N p0 p1 = some r) : AD Try.prog 55 [.e (.agg [.pure (.sl (p0.fVersions.map Af)), .pure (.sl (p0.fNow.map Af)), .pure (.sl (p0.fTarget.map Af)), .pure (.sl (p0.fTables.map Ak))]), .e (.agg [.pure (.sl (p1.fBase.map Af)), .pure (.sl (p1.fNext.map Af)), .pure (.sl (p1.fHeld.map A3))])] [] (.tup [.one (.pure (.sl (r.1.map A4))), .one (.pure (.val (.int .i64 r.2)))]) := by
 unfold Hw at h
 refine As (n := 119) (rs := [.tmp 4, .tmp 5]) Try.func55 rfl rfl rfl (Bz rfl) (Bz rfl) rfl fun w0 S0 => ?_
 refine Ab (Aa Ad rfl (qb rfl (qb rfl (qa rfl (qa rfl (Ac (Ab (Aa Ad rfl (qL Bl AO rfl (AV OM TC rfl ?_))))))))))
 refine JE [(0, .tmp 21, _)] (.p rfl) rfl ⟨rfl, trivial⟩ rfl GV ID OM rfl rfl (Bz rfl) rfl rfl ?_
 refine Dg (MW 22 8 [.s, .s, .s, .s, .s, .s, .s, .x 1 []] _ ((([(AS.mk p1 ((-1)) ((Ag.mk 0 0 0)) (([] : List Int)))] : List AS)).map A4) rfl rfl) (qa rfl (Ac (Ab (Aa Ad rfl ?_))))
 refine Qy (.p rfl) rfl ?_
 refine qL Bl AO rfl ?_
 obtain ⟨v1, a1, h⟩ := bind_some h
 refine AI [] (My N p1 v1 a1) UB rfl ?_
 refine O5 (kv := Value.string) (vt := MQ) (m := ([] : List (ByteArray × Int))) (k := v1) (v := 0) rfl (.inr rfl) rfl rfl rfl rfl (K0 NP TY) rfl ?_
 refine qm rfl (qa rfl (Ac (Ab (Ab (Aa Ad rfl (qa rfl (Ac ?_)))))))
 refine AP (L := EN N p0) h (fun v2 => mk [(2, .e (.one (.ptr 2 0))), (6, .e (.one (.own 2001))), (7, .e (.one (.mref 2002))), (8, .e (.one (.pure (.val (.int .i64 v2.2.2)))))] [(2, .box [.pure (.sl (p0.fVersions.map Af)), .pure (.sl (p0.fNow.map Af)), .pure (.sl (p0.fTarget.map Af)), .pure (.sl (p0.fTables.map Ak))]), (2001, .dvec 8 [.s, .s, .s, .s, .s, .s, .s, .x 1 []] (v2.1.map A4)), (2002, .mp (Hc Value.string MQ v2.2.1))]) (fun v3 => mk [(6, .e (.one (.own 2003)))] [(2003, .dvec 8 [.s, .s, .s, .s, .s, .s, .s, .x 1 []] (v3.map A4))]) (fun _ _ => rfl) (sm [(2001, 22), (2002, 23)] _ _ rfl rfl) (fun j2 n2 v2 h => ?_) (fun v3 s h hs => ?_)
 ·unfold EN at h
  refine Ab (Ab (Aa Ad rfl (qm rfl (qm rfl ?_))))
  refine PS (.p rfl) rfl rfl (Jn A4 v2.1 _ _) GV ?_
  refine Bc rfl (Ac ?_)
  refine Au rfl (fun c4 => ?_) (fun c4 => ?_)
  ·have h := Ap c4 h
   refine Av (Ab (AW (Ab (Aa Ad rfl (qL C5 CR rfl (qm rfl (qm rfl ?_)))))))
   obtain ⟨v5, a5, b5, h⟩ := An h
   refine KK (.p rfl) rfl rfl rfl (Jn A4 v2.1 _ _) GV ID a5 (AH b5) ?_
   refine qh LX rfl ?_
   refine Om (.p rfl) rfl Bl AO rfl (Al b5) rfl rfl (by decide) rfl ?_
   obtain ⟨v6, a6, h⟩ := bind_some h
   refine AI [2004] (Mp N p0 ((Ah.mk v5.fM.fBase v5.fM.fNext v5.fM.fHeld)) v6 a6) Wq rfl (qm rfl (qx rfl (qx rfl (qa rfl (qa rfl (AX (by kernel_rfl) (Ab (Ab (Aa Ad rfl (qm rfl (B0 rfl (Ac ?_))))))))))))
   refine Au rfl (fun c7 => ?_) (fun c7 => ?_)
   ·have h := Ap c7 h
    refine Ab (Aa Ad rfl (qm rfl (qa rfl (qa rfl (Ac ?_)))))
    obtain rfl := sj h
    refine Am ((Jd 4 _ rfl).trans (sm [] [(4, .e (.one (.pure (.sl ((([] : List AS)).map A4))))), (5, .e (.one (.pure (.val (.int .i64 v6.2)))))] [] rfl rfl)) (AB ?_)
    exact ⟨⟨[_, _], ⟨.tmp _ _ rfl, ⟨.tmp _ _ rfl, trivial⟩⟩, rfl⟩, trivial⟩
   ·have h := Aq c7 h
    refine Av (Ab (Aa Ad rfl (qm rfl (EZ Bg rfl (qm rfl (Ac ?_))))))
    refine AP (L := ES N p0 v2 v6) h (fun v8 => mk [(2, .e (.one (.ptr 2 0))), (6, .e (.one (.own 2005))), (7, .e (.one (.mref 2006))), (8, .e (.one (.pure (.val (.int .i64 v2.2.2))))), (46, .e (.one (.own 2007))), (47, .e (.one (.pure (.val (.int .i64 ((v6.1.length : Int))))))), (48, .e (.one (.pure (.val (.int .i64 v8.2.2)))))] [(2, .box [.pure (.sl (p0.fVersions.map Af)), .pure (.sl (p0.fNow.map Af)), .pure (.sl (p0.fTarget.map Af)), .pure (.sl (p0.fTables.map Ak))]), (2005, .dvec 8 [.s, .s, .s, .s, .s, .s, .s, .x 1 []] (v8.1.map A4)), (2006, .mp (Hc Value.string MQ v8.2.1)), (2007, .vec 3 (v6.1.map Ar))]) (fun v9 => mk [(2, .e (.one (.ptr 2 0))), (6, .e (.one (.own 2008))), (7, .e (.one (.mref 2009))), (8, .e (.one (.pure (.val (.int .i64 v2.2.2)))))] [(2, .box [.pure (.sl (p0.fVersions.map Af)), .pure (.sl (p0.fNow.map Af)), .pure (.sl (p0.fTarget.map Af)), .pure (.sl (p0.fTables.map Ak))]), (2008, .dvec 8 [.s, .s, .s, .s, .s, .s, .s, .x 1 []] (v9.1.map A4)), (2009, .mp (Hc Value.string MQ v9.2))]) (fun _ _ => rfl) (sm [(2005, 2001), (2006, 2002), (2007, 2004)] _ _ rfl rfl) (fun j8 n8 v8 h => ?_) (fun v9 s h hs => ?_)
    ·unfold ES at h
     refine Ab (Aa Ad rfl (Bc rfl (Ac (Ab ?_))))
     refine Au rfl (fun c10 => ?_) (fun c10 => ?_)
     ·have h := Ap c10 h
      refine Av (Ab (AW (Ab (Aa Ad rfl ?_))))
      obtain ⟨v11, a11, b11, h⟩ := An h
      refine qI Bg Cs a11 (Al b11) rfl (qJ Hb Cs (Al b11) rfl (qz Fi rfl (qs Cs rfl (Ac (Ab (Aa Ad rfl (qL C5 CR rfl (qm rfl (qm rfl ?_)))))))))
      obtain ⟨v12, a12, b12, h⟩ := An h
      refine KK (.p rfl) rfl rfl rfl (Jn A4 v8.1 _ _) GV ID a12 (AH b12) ?_
      refine qh LX rfl ?_
      refine Om (.p rfl) rfl Bl AO rfl (Al b12) rfl rfl (by decide) rfl ?_
      refine qL Hb Cs rfl ?_
      obtain ⟨v13, a13, h⟩ := bind_some h
      refine AI [2010, 2011, 2012] (Kf N p0 ((Ah.mk v12.fM.fBase v12.fM.fNext v12.fM.fHeld)) v11 v13 a13) Vf rfl (qm rfl (qx rfl (qx rfl (qz Co rfl (qs AO rfl (qa rfl (AX (by kernel_rfl) (Ab (Ab (Aa Ad rfl (qm rfl (B0 rfl (Ac ?_)))))))))))))
      refine Au rfl (fun c14 => ?_) (fun c14 => ?_)
      ·have h := Ap c14 h
       refine Ab (Aa Ad rfl (qm rfl (qa rfl (qa rfl (Ac ?_)))))
       obtain rfl := sj h
       refine Am ((Jd 4 _ rfl).trans (sm [] [(4, .e (.one (.pure (.sl ((([] : List AS)).map A4))))), (5, .e (.one (.pure (.val (.int .i64 v13.2)))))] [] rfl rfl)) (AB ?_)
       exact ⟨⟨[_, _], ⟨.tmp _ _ rfl, ⟨.tmp _ _ rfl, trivial⟩⟩, rfl⟩, trivial⟩
      ·have h := Aq c14 h
       refine Av (Ab (Aa Ad rfl (qL Bl AO rfl ?_)))
       obtain ⟨v15, a15, h⟩ := bind_some h
       refine D5 [] [2010, 2011, 2012] (My N v13.1 v15 a15) UB CN rfl (qa rfl (Ac (Ab (Aa Ad rfl (qm rfl (qm rfl ?_))))))
       refine Rh (kv := Value.string) (vt := MQ) (m := v8.2.1) (dv := 0) (.p rfl) rfl rfl rfl (K0 NP TY) (by rw [NP]; rfl) J4 rfl rfl rfl ?_
       refine qm rfl (qx rfl (qx rfl (qa rfl (qa rfl (Ac ?_)))))
       refine AR h (fun v16 => mk [(2, .e (.one (.ptr 2 0))), (6, .e (.one (.own 2013))), (7, .e (.one (.mref 2014))), (8, .e (.one (.pure (.val (.int .i64 v2.2.2))))), (16, .e (.one (.pure (.val (.int .i64 v16.2.2))))), (46, .e (.one (.own 2015))), (47, .e (.one (.pure (.val (.int .i64 ((v6.1.length : Int))))))), (48, .e (.one (.pure (.val (.int .i64 v8.2.2)))))] [(2, .box [.pure (.sl (p0.fVersions.map Af)), .pure (.sl (p0.fNow.map Af)), .pure (.sl (p0.fTarget.map Af)), .pure (.sl (p0.fTables.map Ak))]), (2013, .dvec 8 [.s, .s, .s, .s, .s, .s, .s, .x 1 []] (v16.1.map A4)), (2014, .mp (Hc Value.string MQ v16.2.1)), (2015, .vec 3 (v6.1.map Ar))]) (fun j16 h => ?_) (fun v16 h => ?_)
       ·refine Ab (Aa Ad rfl (qm rfl (Ch rfl (Ac ?_))))
        refine Au rfl (fun c17 => ?_) (fun c17 => ?_)
        ·have h := Ap c17 h
         refine AR h (fun v18 => mk [(2, .e (.one (.ptr 2 0))), (6, .e (.one (.own 2016))), (7, .e (.one (.mref 2017))), (8, .e (.one (.pure (.val (.int .i64 v2.2.2))))), (15, .e (.one (.pure (.val (.string v15))))), (16, .e (.one (.pure (.val (.int .i64 v18.2))))), (46, .e (.one (.own 2018))), (47, .e (.one (.pure (.val (.int .i64 ((v6.1.length : Int))))))), (48, .e (.one (.pure (.val (.int .i64 v8.2.2)))))] [(2, .box [.pure (.sl (p0.fVersions.map Af)), .pure (.sl (p0.fNow.map Af)), .pure (.sl (p0.fTarget.map Af)), .pure (.sl (p0.fTables.map Ak))]), (2016, .dvec 8 [.s, .s, .s, .s, .s, .s, .s, .x 1 []] (v18.1.map A4)), (2017, .mp (Hc Value.string MQ v8.2.1)), (2018, .vec 3 (v6.1.map Ar))]) (fun j18 h => ?_) (fun v18 h => ?_)
         ·refine Ab (Aa Ad rfl (qL C5 CR rfl (qL Bl AO rfl ?_)))
          obtain ⟨v19, a19, h⟩ := bind_some h
          refine D5 [] [2010, 2011, 2012] (KC N p0 v13.1 v19 a19) Ut CN rfl (qm rfl (qx rfl (qx rfl (qa rfl (qa rfl (Ac ?_))))))
          refine AR h (fun v20 => mk [(2, .e (.one (.ptr 2 0))), (6, .e (.one (.own 2022))), (7, .e (.one (.mref 2023))), (8, .e (.one (.pure (.val (.int .i64 v2.2.2))))), (12, .e (.one (.ptr 12 0))), (13, .e (.one (.ptr 13 0))), (15, .e (.one (.pure (.val (.string v15))))), (46, .e (.one (.own 2024))), (47, .e (.one (.pure (.val (.int .i64 ((v6.1.length : Int))))))), (48, .e (.one (.pure (.val (.int .i64 v8.2.2))))), (87, .e (.one (.pure (.val (.bool v20)))))] [(2, .box [.pure (.sl (p0.fVersions.map Af)), .pure (.sl (p0.fNow.map Af)), .pure (.sl (p0.fTarget.map Af)), .pure (.sl (p0.fTables.map Ak))]), (12, .box [.pure (.val (.int .i64 v11.fKind)), .pure (.val (.int .i64 v11.fIndex)), .pure (.val (.int .i64 v11.fVersion))]), (13, .box [.own 2019, .own 2020, .own 2021]), (2019, .vec 1 (v13.1.fBase.map Af)), (2020, .vec 1 (v13.1.fNext.map Af)), (2021, .vec 1 (v13.1.fHeld.map A3)), (2022, .dvec 8 [.s, .s, .s, .s, .s, .s, .s, .x 1 []] (v8.1.map A4)), (2023, .mp (Hc Value.string MQ v8.2.1)), (2024, .vec 3 (v6.1.map Ar))]) (fun j20 h => ?_) (fun v20 h => ?_)
          ·refine Aa Ad rfl (qm rfl (B0 rfl (qm rfl ?_)))
           refine AF (t := 84) rfl (fun c21 => ?_) (fun c21 => ?_)
           ·have h := Ap c21 h
            refine qn rfl (qn rfl (qp rfl (Ac ?_)))
            exact Ax _ h (sm [(2019, 2010), (2020, 2011), (2021, 2012), (2022, 2005), (2023, 2006), (2024, 2007)] _ _ rfl rfl)
           ·have h := Aq c21 h
            refine qm rfl (Ch rfl (qp rfl (Ac ?_)))
            exact Ax _ h (sm [(2019, 2010), (2020, 2011), (2021, 2012), (2022, 2005), (2023, 2006), (2024, 2007)] _ _ rfl rfl)
          ·refine Au rfl (fun c22 => ?_) (fun c22 => ?_)
           ·have h := Ap c22 h
            refine Aa Ad rfl (qa rfl (Ac ?_))
            exact Ax _ h (sm [(2016, 2022), (2017, 2023), (2018, 2024)] _ _ rfl rfl)
           ·have h := Aq c22 h
            refine Ab (Aa Ad rfl (qm rfl ?_))
            refine PS (.p rfl) rfl rfl (Jn A4 v8.1 _ _) GV ?_
            refine qa rfl (Ac (Aa Ad rfl (qm rfl (qL Bl AO rfl (qm rfl (qL Hb Cs rfl (AV OM TC rfl (Dg (Bf 2019 _ _ rfl rfl) (Dg (Bf 2020 _ _ rfl rfl) (Dg (Bf 2021 _ _ rfl rfl) ?_))))))))))
            refine JE [(0, .tmp 94, _)] (.p rfl) rfl ⟨rfl, trivial⟩ rfl GV ID OM rfl rfl (Bz rfl) rfl rfl ?_
            refine Dg (MW 95 8 [.s, .s, .s, .s, .s, .s, .s, .x 1 []] _ ((([(AS.mk v13.1 v2.2.2 v11 (([] : List Int)))] : List AS)).map A4) rfl rfl) ?_
            obtain ⟨c23, h⟩ := AG h
            refine QD (.p rfl) rfl rfl rfl rfl rfl (by decide) GV GV ID Uj (Bz rfl) OM rfl (Sd (f := A4) (g := A4) (xs := v8.1) (ys := (([(AS.mk v13.1 v2.2.2 v11 (([] : List Int)))] : List AS))) c23) (SG A4 v8.1 (([(AS.mk v13.1 v2.2.2 v11 (([] : List Int)))] : List AS))) rfl rfl ?_
            refine qa rfl (Ac ?_)
            exact Ax _ h (sm [(2016, 96), (2017, 2023), (2018, 2024)] _ _ rfl rfl)
         ·refine Aa Ad rfl (qm rfl (qm rfl (qm rfl ?_)))
          refine O5 (kv := Value.string) (vt := MQ) (m := v8.2.1) (k := v15) (v := v18.2) rfl (.inl rfl) rfl rfl rfl rfl (K0 NP TY) rfl ?_
          refine Ac ?_
          exact Ax _ h (sm [(2013, 2016), (2014, 2017), (2015, 2018)] _ _ rfl rfl)
        ·have h := Aq c17 h
         refine Av ?_
         exact Ax _ h (sm [(2013, 2005), (2014, 2006), (2015, 2007)] _ _ rfl rfl)
       ·refine AR h (fun v24 => mk [(2, .e (.one (.ptr 2 0))), (6, .e (.one (.own 2025))), (7, .e (.one (.mref 2026))), (8, .e (.one (.pure (.val (.int .i64 v2.2.2))))), (46, .e (.one (.own 2027))), (47, .e (.one (.pure (.val (.int .i64 ((v6.1.length : Int))))))), (48, .e (.one (.pure (.val (.int .i64 v8.2.2)))))] [(2, .box [.pure (.sl (p0.fVersions.map Af)), .pure (.sl (p0.fNow.map Af)), .pure (.sl (p0.fTarget.map Af)), .pure (.sl (p0.fTables.map Ak))]), (2025, .dvec 8 [.s, .s, .s, .s, .s, .s, .s, .x 1 []] (v24.map A4)), (2026, .mp (Hc Value.string MQ v16.2.1)), (2027, .vec 3 (v6.1.map Ar))]) (fun j24 h => ?_) (fun v24 h => ?_)
        ·refine Ab (Aa Ad rfl (qm rfl (DX rfl (Ac ?_))))
         refine Au rfl (fun c25 => ?_) (fun c25 => ?_)
         ·have h := Ap c25 h
          refine Aa Ad rfl (qm rfl (qm rfl (qm rfl (qm rfl ?_))))
          obtain ⟨v26, a26, b26, h⟩ := An h
          refine KK (.p rfl) rfl rfl rfl (Jn A4 v16.1 _ _) GV ID a26 (AH b26) ?_
          refine qh Ov rfl ?_
          refine TS (.p rfl) rfl A0 rfl (Al b26) rfl rfl rfl rfl ?_
          refine qm rfl (D2 AE CS J4 rfl ?_)
          obtain ⟨c27, h⟩ := AG h
          refine DM (f := Af) AE AE CS K2 J4 c27 rfl ?_
          obtain ⟨v28, a28, b28, h⟩ := An h
          refine KK (.p rfl) rfl rfl rfl (T2 A4 v16.1 _ _ _ _ _) GV ID a28 (AH b28) ?_
          refine qh Ov rfl ?_
          refine Q2 rfl rfl rfl rfl (rows2 := (v26.fNext ++ (([v16.2.2] : List Int))).map Af) (cols2 := []) rfl rfl (Al b28) (by decide) QN rfl rfl (Dr A4 v16.1 _ ((AS.mk ((Ah.mk v28.fM.fBase v28.fM.fNext v28.fM.fHeld)) v28.fFrom ((Ag.mk v28.fBy.fKind v28.fBy.fIndex v28.fBy.fVersion)) (v26.fNext ++ (([v16.2.2] : List Int)))))) ?_
          refine Ac ?_
          exact Ax _ h (sm [(2025, 2013), (2026, 2014), (2027, 2015)] _ _ rfl rfl)
         ·have h := Aq c25 h
          refine Av ?_
          exact Ax _ h (sm [(2025, 2013), (2026, 2014), (2027, 2015)] _ _ rfl rfl)
        ·refine Ab (Aa Ad rfl (qm rfl ?_))
         refine PS (.p rfl) rfl rfl (Jn A4 v24 _ _) GV ?_
         refine FY rfl (Ac ?_)
         refine Au rfl (fun c29 => ?_) (fun c29 => ?_)
         ·have h := Ap c29 h
          refine Ab (Aa Ad rfl (qa rfl (qa rfl (Ac ?_))))
          obtain rfl := sj h
          refine Am ((Jd 4 _ rfl).trans (sm [] [(4, .e (.one (.pure (.sl ((([] : List AS)).map A4))))), (5, .e (.one (.pure (.val (.int .i64 3)))))] [] rfl rfl)) (AB ?_)
          exact ⟨⟨[_, _], ⟨.tmp _ _ rfl, ⟨.tmp _ _ rfl, trivial⟩⟩, rfl⟩, trivial⟩
         ·have h := Aq c29 h
          refine Av (Aa Ad rfl (Bm rfl (qm rfl (Ac ?_))))
          exact Ax _ h (sm [(2005, 2025), (2006, 2026), (2007, 2027)] _ _ rfl rfl)
     ·have h := Aq c10 h
      refine A1 ?_
      exact Ax _ h (sm [(2008, 2005), (2009, 2006)] _ _ rfl rfl)
    ·refine Am hs (Aa Ad rfl (qm rfl (Bm rfl (qa rfl (Ac ?_)))))
     exact Ax _ h (sm [(2001, 2008), (2002, 2009)] _ _ rfl rfl)
  ·have h := Aq c4 h
   refine A1 ?_
   exact Ax _ h (sm [(2003, 2001)] _ _ rfl rfl)
 ·refine Am hs (Ab (Aa Ad rfl (qm rfl (qa rfl (qa rfl (Ac ?_))))))
  obtain rfl := sj h
  refine Am ((QI 2003 _ _ _ rfl rfl).trans (sm [] [(4, .e (.one (.pure (.sl (v3.map A4))))), (5, .e (.one (.pure (.val (.int .i64 0)))))] [] rfl rfl)) (AB ?_)
  exact ⟨⟨[_, _], ⟨.tmp _ _ rfl, ⟨.tmp _ _ rfl, trivial⟩⟩, rfl⟩, trivial⟩
set_option maxRecDepth 10000 in
theorem Ik (N : Nat) (p0 : List Int) (p1 : List Int) (r : Bool) (h : CT N p0 p1 = some r) : AD Try.prog 65 [.e (.one (.pure (.sl (p0.map Af)))), .e (.one (.pure (.sl (p1.map Af))))] [] (.e (.one (.pure (.val (.bool r))))) := by
 unfold CT at h
 refine As (n := 26) (rs := [.tmp 4]) Try.func65 rfl rfl rfl (Bz rfl) (Bz rfl) rfl fun w0 S0 => ?_
 refine Ab (Aa Ad rfl (qa rfl (Ac (Ab (Ab (Aa Ad rfl (qm rfl (AQ AE rfl (qm rfl (AQ AE rfl (B0 rfl (Ac ?_))))))))))))
 refine Au rfl (fun c1 => ?_) (fun c1 => ?_)
 ·have h := Ap c1 h
  refine Ab (Aa Ad rfl (qa rfl (Ac ?_)))
  obtain rfl := sj h
  refine Am (sm [] [(4, .e (.one (.pure (.val (.bool false)))))] [] rfl rfl) (AB ?_)
  exact ⟨⟨[_], ⟨.tmp _ _ rfl, trivial⟩, rfl⟩, trivial⟩
 ·have h := Aq c1 h
  refine Av (Ab (Ab (Aa Ad rfl (qm rfl (AQ AE rfl (qm rfl (Ac ?_)))))))
  refine AP (L := BM N p0 p1) h (fun v2 => mk [(0, .e (.one (.pure (.sl (p0.map Af))))), (1, .e (.one (.pure (.sl (p1.map Af))))), (12, .e (.one (.pure (.val (.int .i64 ((p0.length : Int))))))), (13, .e (.one (.pure (.val (.int .i64 v2)))))] []) (fun v3 => mk [] []) (fun _ _ => rfl) (sm [] _ _ rfl rfl) (fun j2 n2 v2 h => ?_) (fun v3 s h hs => ?_)
  ·unfold BM at h
   refine Ab (Aa Ad rfl (Bc rfl (Ac (Ab ?_))))
   refine Au rfl (fun c4 => ?_) (fun c4 => ?_)
   ·have h := Ap c4 h
    refine Av (Ab (AW (Ab (Aa Ad rfl (qm rfl (qa rfl (Ac (Ab (Aa Ad rfl (qm rfl (qm rfl ?_)))))))))))
    obtain ⟨v5, a5, b5, h⟩ := An h
    refine qi AE CS a5 (Al b5) rfl (qk B1 rfl (qm rfl (qm rfl ?_)))
    obtain ⟨v6, a6, b6, h⟩ := An h
    refine qi AE CS a6 (Al b6) rfl (qk B1 rfl (B0 rfl (AX (by kernel_rfl) ?_)))
    refine Au rfl (fun c7 => ?_) (fun c7 => ?_)
    ·have h := Ap c7 h
     refine Ab (Aa Ad rfl (qa rfl (Ac ?_)))
     obtain rfl := sj h
     refine Am (sm [] [(4, .e (.one (.pure (.val (.bool false)))))] [] rfl rfl) (AB ?_)
     exact ⟨⟨[_], ⟨.tmp _ _ rfl, trivial⟩, rfl⟩, trivial⟩
    ·have h := Aq c7 h
     refine Av (Aa Ad rfl (Bm rfl (qm rfl (Ac ?_))))
     exact Ax _ h (sm [] _ _ rfl rfl)
   ·have h := Aq c4 h
    refine A1 ?_
    exact Ax _ h (sm [] _ _ rfl rfl)
  ·refine Am hs (Ab (Aa Ad rfl (qa rfl (Ac ?_))))
   obtain rfl := sj h
   refine Am (sm [] [(4, .e (.one (.pure (.val (.bool true)))))] [] rfl rfl) (AB ?_)
   exact ⟨⟨[_], ⟨.tmp _ _ rfl, trivial⟩, rfl⟩, trivial⟩
set_option maxRecDepth 10000 in
theorem Hu (N : Nat) (p0 : List Int) (p1 : Int → Option Bool) (r : Int) (h : C1 N p0 p1 = some r) : AD Try.prog 92 [.e (.one (.pure (.sl (p0.map Af)))), .e (.one (.clo (HV (Ly false Af) tB p1)))] [] (.e (.one (.pure (.val (.int .i64 r))))) := by
 unfold C1 at h
 refine As (n := 19) (rs := [.tmp 4]) Try.func92 rfl rfl rfl (Bz rfl) (Bz rfl) rfl fun w0 S0 => ?_
 refine Ab (Aa Ad rfl (qa rfl (Ac (Ab (Ab (Aa Ad rfl (qm rfl (AQ AE rfl (qm rfl (Ac ?_))))))))))
 refine AP (L := A8 N p0 p1) h (fun v1 => mk [(0, .e (.one (.pure (.sl (p0.map Af))))), (1, .e (.one (.clo (HV (Ly false Af) tB p1)))), (7, .e (.one (.pure (.val (.int .i64 ((p0.length : Int))))))), (8, .e (.one (.pure (.val (.int .i64 v1)))))] []) (fun v2 => mk [] []) (fun _ _ => rfl) (sm [] _ _ rfl rfl) (fun j1 n1 v1 h => ?_) (fun v2 s h hs => ?_)
 ·unfold A8 at h
  refine Ab (Aa Ad rfl (Bc rfl (Ac (Ab ?_))))
  refine Au rfl (fun c3 => ?_) (fun c3 => ?_)
  ·have h := Ap c3 h
   refine Av (Ab (AW (Ab (Aa Ad rfl (qm rfl (qa rfl (Ac (Ab (Aa Ad rfl (qm rfl (qm rfl (qm rfl ?_))))))))))))
   obtain ⟨v4, a4, b4, h⟩ := An h
   refine qi AE CS a4 (Al b4) rfl (qk B1 rfl ?_)
   obtain ⟨v5, a5, h⟩ := bind_some h
   refine Kp (ds0 := [_]) (ar := (Ly false Af) v4) (.p rfl) rfl rfl ⟨rfl, trivial⟩ rfl rfl rfl (Kb (J9 _ _ NM) a5) ?_
   refine Ac ?_
   refine Au rfl (fun c6 => ?_) (fun c6 => ?_)
   ·have h := Ap c6 h
    refine Ab (Aa Ad rfl (qm rfl (qa rfl (Ac ?_))))
    obtain rfl := sj h
    refine Am (sm [] [(4, .e (.one (.pure (.val (.int .i64 v1)))))] [] rfl rfl) (AB ?_)
    exact ⟨⟨[_], ⟨.tmp _ _ rfl, trivial⟩, rfl⟩, trivial⟩
   ·have h := Aq c6 h
    refine Av (Aa Ad rfl (Bm rfl (qm rfl (Ac ?_))))
    exact Ax _ h (sm [] _ _ rfl rfl)
  ·have h := Aq c3 h
   refine A1 ?_
   exact Ax _ h (sm [] _ _ rfl rfl)
 ·refine Am hs (Ab (Aa Ad rfl (qa rfl (Ac ?_))))
  obtain rfl := sj h
  refine Am (sm [] [(4, .e (.one (.pure (.val (.int .i64 ((-1)))))))] [] rfl rfl) (AB ?_)
  exact ⟨⟨[_], ⟨.tmp _ _ rfl, trivial⟩, rfl⟩, trivial⟩
set_option maxRecDepth 10000 in
theorem GM (N : Nat) (p0 : List Int) (p1 : Int → Option Bool) (r : Bool) (h : Cb N p0 p1 = some r) : AD Try.prog 66 [.e (.one (.pure (.sl (p0.map Af)))), .e (.one (.clo (HV (Ly false Af) tB p1)))] [] (.e (.one (.pure (.val (.bool r))))) := by
 unfold Cb at h
 refine As (n := 9) (rs := [.tmp 4]) Try.func66 rfl rfl rfl (Bz rfl) (Bz rfl) rfl fun w0 S0 => ?_
 refine Ab (Aa Ad rfl (qa rfl (Ac (Ab (Aa Ad rfl (qm rfl (qm rfl ?_)))))))
 obtain ⟨v1, a1, h⟩ := bind_some h
 refine AI [] (Hu N p0 p1 v1 a1) Wi rfl (DX rfl (qa rfl (Ac ?_)))
 obtain rfl := sj h
 refine Am (sm [] [(4, .e (.one (.pure (.val (.bool ((decide (0 ≤ v1))))))))] [] rfl rfl) (AB ?_)
 exact ⟨⟨[_], ⟨.tmp _ _ rfl, trivial⟩, rfl⟩, trivial⟩
set_option maxRecDepth 10000 in
theorem NN (N : Nat) (p0 : Int) (r : Bool) (h : Fw N p0 = some r) : AD Try.prog 79 [.e (.one (.pure (.val (.int .i64 p0))))] [] (.e (.one (.pure (.val (.bool r))))) := by
 unfold Fw at h
 refine As (n := 5) (rs := [.tmp 2]) Try.func79 rfl rfl rfl (Bz rfl) (Bz rfl) rfl fun w0 S0 => ?_
 refine Ab (Aa Ad rfl (qa rfl (Ac (Ab (Aa Ad rfl (qm rfl (DX rfl (qa rfl (Ac ?_)))))))))
 obtain rfl := sj h
 refine Am (sm [] [(2, .e (.one (.pure (.val (.bool ((decide (0 ≤ p0))))))))] [] rfl rfl) (AB ?_)
 exact ⟨⟨[_], ⟨.tmp _ _ rfl, trivial⟩, rfl⟩, trivial⟩
set_option maxRecDepth 10000 in
theorem Mu (N : Nat) (p0 : Ae) (p1 : Ah) (r : Bool) (h : E3 N p0 p1 = some r) : AD Try.prog 40 [.e (.agg [.pure (.sl (p0.fVersions.map Af)), .pure (.sl (p0.fNow.map Af)), .pure (.sl (p0.fTarget.map Af)), .pure (.sl (p0.fTables.map Ak))]), .e (.agg [.pure (.sl (p1.fBase.map Af)), .pure (.sl (p1.fNext.map Af)), .pure (.sl (p1.fHeld.map A3))])] [] (.e (.one (.pure (.val (.bool r))))) := by
 unfold E3 at h
 refine As (n := 22) (rs := [.tmp 4]) Try.func40 rfl rfl rfl (Bz rfl) (Bz rfl) rfl fun w0 S0 => ?_
 refine Ab (Aa Ad rfl (qb rfl (qb rfl (qa rfl (Ac ?_)))))
 refine AR h (fun v1 => mk [(4, .e (.one (.pure (.val (.bool v1)))))] []) (fun j1 h => ?_) (fun v1 h => ?_)
 ·refine Aa Ad rfl (qL C5 CR rfl (qL Bl AO rfl ?_))
  obtain ⟨v2, a2, h⟩ := bind_some h
  refine AI [] (HJ N p0 p1 v2 a2) Sa rfl (BO rfl (qm rfl ?_))
  refine AF (t := 9) rfl (fun c3 => ?_) (fun c3 => ?_)
  ·have h := Ap c3 h
   refine qf Cp rfl (ql A0 rfl (qf G6 rfl (ql A0 rfl ?_)))
   obtain ⟨v4, a4, h⟩ := bind_some h
   refine AI [] (Ik N p1.fBase p0.fTarget v4 a4) V9 rfl (qp rfl (qm rfl ?_))
   refine AF (t := 16) rfl (fun c5 => ?_) (fun c5 => ?_)
   ·have h := Ap c5 h
    refine qf Bu rfl (ql A0 rfl ?_)
    obtain ⟨v6, a6, h⟩ := bind_some h
    refine AI [] (AD.weak (ds' := [.e (.one (.pure (.sl (p1.fNext.map Af)))), .e (.one (.fnc 79))]) (GM N p1.fNext ((fun (x : Int) => Fw N x)) v6 a6) ⟨(fun _ _ _ hh => hh), (fun _ _ _ hh => Tb VE (fun ar t ht => by obtain ⟨x, r, rfl, hq, rfl⟩ := Ji ht; exact NN N x r hq) hh), trivial⟩) Wg rfl ?_
    refine Ch rfl (qp rfl (qa rfl (Ac ?_)))
    exact Ax _ h (sm [] _ _ rfl rfl)
   ·have h := Aq c5 h
    refine qn rfl (qn rfl (qn rfl (qn rfl (qp rfl (qa rfl (Ac ?_))))))
    exact Ax _ h (sm [] _ _ rfl rfl)
  ·have h := Aq c3 h
   refine qn rfl (qn rfl (qn rfl (qn rfl (qn rfl (qp rfl (qm rfl (qn rfl (qn rfl (qn rfl (qn rfl (qp rfl (qa rfl (Ac ?_)))))))))))))
   exact Ax _ h (sm [] _ _ rfl rfl)
 ·obtain rfl := sj h
  refine Am (sm [] [(4, .e (.one (.pure (.val (.bool v1)))))] [] rfl rfl) (AB ?_)
  exact ⟨⟨[_], ⟨.tmp _ _ rfl, trivial⟩, rfl⟩, trivial⟩
set_option maxRecDepth 10000 in
theorem MH (N : Nat) (p0 : AS) (p1 : List Int) (p2 : List Int) (p3 : List Int) (p4 : List AC) (r : Bool) (h : E4 N p0 p1 p2 p3 p4 = some r) : AD Try.prog 57 [.e (.agg [.pure (.sl (p0.fM.fBase.map Af)), .pure (.sl (p0.fM.fNext.map Af)), .pure (.sl (p0.fM.fHeld.map A3)), .pure (.val (.int .i64 p0.fFrom)), .pure (.val (.int .i64 p0.fBy.fKind)), .pure (.val (.int .i64 p0.fBy.fIndex)), .pure (.val (.int .i64 p0.fBy.fVersion)), .pure (.sl (p0.fNext.map Af))]), .e (.one (.rop [.sl (p1.map Af), .sl (p2.map Af), .sl (p3.map Af), .sl (p4.map Ak)]))] [] (.e (.one (.pure (.val (.bool r))))) := by
 unfold E4 at h
 refine As (n := 8) (rs := [.tmp 3]) Try.func57 rfl rfl rfl (Bz rfl) (Bz rfl) rfl fun w0 S0 => ?_
 refine Ab (Aa Ad rfl (qb rfl (qa rfl (Ac (Ab (Aa Ad rfl (qK C5 CR rfl (qf LX rfl (qL Bl AO rfl ?_)))))))))
 obtain ⟨v1, a1, h⟩ := bind_some h
 refine AI [] (Mu N ((Ae.mk p1 p2 p3 p4)) ((Ah.mk p0.fM.fBase p0.fM.fNext p0.fM.fHeld)) v1 a1) Uu rfl (qa rfl (Ac ?_))
 obtain rfl := sj h
 refine Am (sm [] [(3, .e (.one (.pure (.val (.bool v1)))))] [] rfl rfl) (AB ?_)
 exact ⟨⟨[_], ⟨.tmp _ _ rfl, trivial⟩, rfl⟩, trivial⟩
set_option maxRecDepth 10000 in
theorem E1 (N : Nat) (p0 : List AS) (p1 : AS → Option Bool) (r : Int) (h : Cv N p0 p1 = some r) : AD Try.prog 56 [.e (.one (.pure (.sl (p0.map A4)))), .e (.one (.clo (HV (Ly true A4) tB p1)))] [] (.e (.one (.pure (.val (.int .i64 r))))) := by
 unfold Cv at h
 refine As (n := 19) (rs := [.tmp 4]) Try.func56 rfl rfl rfl (Bz rfl) (Bz rfl) rfl fun w0 S0 => ?_
 refine Ab (Aa Ad rfl (qa rfl (Ac (Ab (Ab (Aa Ad rfl (qm rfl (AQ GV rfl (qm rfl (Ac ?_))))))))))
 refine AP (L := BC N p0 p1) h (fun v1 => mk [(0, .e (.one (.pure (.sl (p0.map A4))))), (1, .e (.one (.clo (HV (Ly true A4) tB p1)))), (7, .e (.one (.pure (.val (.int .i64 ((p0.length : Int))))))), (8, .e (.one (.pure (.val (.int .i64 v1)))))] []) (fun v2 => mk [] []) (fun _ _ => rfl) (sm [] _ _ rfl rfl) (fun j1 n1 v1 h => ?_) (fun v2 s h hs => ?_)
 ·unfold BC at h
  refine Ab (Aa Ad rfl (Bc rfl (Ac (Ab ?_))))
  refine Au rfl (fun c3 => ?_) (fun c3 => ?_)
  ·have h := Ap c3 h
   refine Av (Ab (AW (Ab (Aa Ad rfl (qm rfl (qa rfl (Ac (Ab (Aa Ad rfl (qm rfl (qm rfl (qm rfl ?_))))))))))))
   obtain ⟨v4, a4, b4, h⟩ := An h
   refine qi GV ID a4 (Al b4) rfl (qK Vd ID rfl ?_)
   obtain ⟨v5, a5, h⟩ := bind_some h
   refine Kp (ds0 := [_]) (ar := (Ly true A4) ((AS.mk ((Ah.mk v4.fM.fBase v4.fM.fNext v4.fM.fHeld)) v4.fFrom ((Ag.mk v4.fBy.fKind v4.fBy.fIndex v4.fBy.fVersion)) v4.fNext))) (.p rfl) rfl rfl ⟨rfl, trivial⟩ rfl rfl rfl (Kb (J9 _ _ O1) a5) ?_
   refine Ac ?_
   refine Au rfl (fun c6 => ?_) (fun c6 => ?_)
   ·have h := Ap c6 h
    refine Ab (Aa Ad rfl (qm rfl (qa rfl (Ac ?_))))
    obtain rfl := sj h
    refine Am (sm [] [(4, .e (.one (.pure (.val (.int .i64 v1)))))] [] rfl rfl) (AB ?_)
    exact ⟨⟨[_], ⟨.tmp _ _ rfl, trivial⟩, rfl⟩, trivial⟩
   ·have h := Aq c6 h
    refine Av (Aa Ad rfl (Bm rfl (qm rfl (Ac ?_))))
    exact Ax _ h (sm [] _ _ rfl rfl)
  ·have h := Aq c3 h
   refine A1 ?_
   exact Ax _ h (sm [] _ _ rfl rfl)
 ·refine Am hs (Ab (Aa Ad rfl (qa rfl (Ac ?_))))
  obtain rfl := sj h
  refine Am (sm [] [(4, .e (.one (.pure (.val (.int .i64 ((-1)))))))] [] rfl rfl) (AB ?_)
  exact ⟨⟨[_], ⟨.tmp _ _ rfl, trivial⟩, rfl⟩, trivial⟩
set_option maxRecDepth 10000 in
theorem FN (N : Nat) (p0 : List Ag) (r : (List Ag)) (h : CP N p0 = some r) : EG Try.prog 88 [.e (.one (.own 90000))] [(.vec 3 (p0.map Ar), .vec 3 (r.map Ar))] [] (.tup []) := by
 unfold CP at h
 refine E6 (n := 28) (rs := []) Try.func88 rfl rfl rfl (Bz rfl) (Bz rfl) rfl rfl (Bz rfl) rfl (Bz rfl) fun w0 S0 GL => UE ?_
 refine Am (sm [] [(0, .e (.one (.own 90000)))] [(90000, .vec 3 (p0.map Ar))] rfl rfl) (Ab (Aa Ad rfl (qm rfl (EZ Bg rfl (KA rfl (qa rfl (qa rfl (Ac ?_))))))))
 refine AP (L := BW N) h (fun v1 => mk [(0, .e (.one (.own 90000))), (2, .e (.one (.pure (.val (.int .i64 v1.2.1))))), (3, .e (.one (.pure (.val (.int .i64 v1.2.2)))))] [(90000, .vec 3 (v1.1.map Ar))]) (fun v2 => mk [] [(90000, .vec 3 (v2.map Ar))]) (fun _ _ => rfl) (sm [] _ _ rfl rfl) (fun j1 n1 v1 h => ?_) (fun v2 s h hs => ?_)
 ·unfold BW at h
  refine Ab (Ab (Aa Ad rfl (qm rfl (qm rfl (Bc rfl (Ac ?_))))))
  refine Au rfl (fun c3 => ?_) (fun c3 => ?_)
  ·have h := Ap c3 h
   refine Av (Ab (AW (Aa Ad rfl (qm rfl (qm rfl (qm rfl (qm rfl (qm rfl (qm rfl ?_)))))))))
   obtain ⟨v4, a4, b4, h⟩ := An h
   refine qI Bg Cs a4 (Al b4) rfl (qJ Hb Cs (Al b4) rfl (qm rfl (qm rfl ?_)))
   obtain ⟨v5, a5, b5, h⟩ := An h
   refine qI Bg Cs a5 (Al b5) rfl (qJ Hb Cs (Al b5) rfl ?_)
   obtain ⟨v6, a6, b6, h⟩ := An h
   refine qI Bg Cs a6 (Al b6) rfl ?_
   refine DH rfl rfl rfl rfl (Al b6) rfl Cs rfl (Bz rfl) (Dr Ar v1.1 _ v4) ?_
   obtain ⟨v7, a7, b7, h⟩ := An h
   refine qI Bg Cs a7 (Al b7) rfl ?_
   refine DH rfl rfl rfl rfl (Al b7) rfl Cs rfl (Bz rfl) (Dr Ar (v1.1.set ((v1.2.1).toNat) v4) _ v5) ?_
   refine AX (by kernel_rfl) (Aa Ad rfl (qm rfl (Bm rfl (qm rfl (KA rfl (qa rfl (qa rfl (Ac ?_))))))))
   exact Ax _ h (sm [] _ _ rfl rfl)
  ·have h := Aq c3 h
   refine A1 ?_
   exact Ax _ h (sm [] _ _ rfl rfl)
 ·obtain rfl := sj h
  refine ⟨_, hs.trans (sm [] [] [(90000, .vec 3 (v2.map Ar))] rfl rfl), ?_⟩
  exact ⟨⟨[], trivial, rfl⟩, ⟨rfl, trivial⟩, trivial⟩
set_option maxRecDepth 10000 in
theorem PB (N : Nat) (p0 : List AS) (p1 : Int) (r : (List Ag)) (h : I0 N p0 p1 = some r) : AD Try.prog 58 [.e (.one (.pure (.sl (p0.map A4)))), .e (.one (.pure (.val (.int .i64 p1))))] [(3, r.map Ar)] (.e (.one (.own 0))) := by
 unfold I0 at h
 refine As (n := 28) (rs := [.tmp 4]) Try.func58 rfl rfl rfl (Bz rfl) (Bz rfl) rfl fun w0 S0 => ?_
 refine Ab (Aa Ad rfl (qa rfl (Ac (Ab (Aa Ad rfl (qa rfl (Ac (Ab ?_))))))))
 refine AP (L := Gj N p0) h (fun v1 => mk [(0, .e (.one (.pure (.sl (p0.map A4))))), (1, .e (.one (.pure (.val (.int .i64 v1.1))))), (5, .e (.one (.own 2001)))] [(2001, .vec 3 (v1.2.map Ar))]) (fun v2 => mk [(5, .e (.one (.own 2002)))] [(2002, .vec 3 (v2.map Ar))]) (fun _ _ => rfl) ((BR 5 2003 3 rfl rfl rfl).trans (sm [(2001, 2003)] _ _ rfl rfl)) (fun j1 n1 v1 h => ?_) (fun v2 s h hs => ?_)
 ·unfold Gj at h
  refine Ab (Ab (Aa Ad rfl (qm rfl (qm rfl ?_))))
  obtain ⟨v3, a3, b3, h⟩ := An h
  refine qi GV ID a3 (Al b3) rfl (qg O4 rfl (qk B1 rfl (DX rfl (Ac ?_))))
  refine Au rfl (fun c4 => ?_) (fun c4 => ?_)
  ·have h := Ap c4 h
   refine Av (Ab (AW (Aa Ad rfl (qm rfl (qm rfl (qm rfl ?_))))))
   obtain ⟨v5, a5, b5, h⟩ := An h
   refine qi GV ID a5 (Al b5) rfl (qg RH rfl (qK Hb Cs rfl (D2 Bg Cs Fi rfl ?_)))
   obtain ⟨c6, h⟩ := AG h
   refine DM (f := Ar) Bg Bg Cs JJ Fi c6 rfl (qa rfl (Ac (Aa Ad rfl (qm rfl (qm rfl ?_)))))
   obtain ⟨v7, a7, b7, h⟩ := An h
   refine qi GV ID a7 (Al b7) rfl (qg O4 rfl (qk B1 rfl (qa rfl (Ac ?_))))
   exact Ax _ h (sm [(2001, 24)] _ _ rfl rfl)
  ·have h := Aq c4 h
   refine A1 ?_
   exact Ax _ h (sm [(2002, 2001)] _ _ rfl rfl)
 ·refine Am hs (Ab (Aa Ad rfl (qm rfl ?_)))
  obtain ⟨v8, a8, h⟩ := bind_some h
  refine J5 (ds0 := [_]) [2002] [] [true] (FN N v2 v8 a8) (.p rfl) V2 rfl ⟨rfl, trivial⟩ rfl rfl (by decide) ⟨rfl, trivial⟩ rfl (GO rfl) trivial ⟨(fun h => by cases h), trivial⟩ rfl rfl rfl ?_
  refine Ac (Ab (Aa Ad rfl (qm rfl (qa rfl (Ac ?_)))))
  obtain rfl := sj h
  refine Am (sm [(1000, 2002)] [(4, .e (.one (.own 1000)))] [(1000, .vec 3 (v8.map Ar))] rfl rfl) (AB ?_)
  exact ⟨⟨[_], ⟨.tmp _ _ rfl, trivial⟩, rfl⟩, ⟨rfl, trivial⟩⟩
set_option maxRecDepth 10000 in
theorem OI (N : Nat) (p0 : Ae) (p1 : Ah) (r : (List Ag) × Int) (h : Ii N p0 p1 = some r) : AD Try.prog 27 [.e (.agg [.pure (.sl (p0.fVersions.map Af)), .pure (.sl (p0.fNow.map Af)), .pure (.sl (p0.fTarget.map Af)), .pure (.sl (p0.fTables.map Ak))]), .e (.agg [.pure (.sl (p1.fBase.map Af)), .pure (.sl (p1.fNext.map Af)), .pure (.sl (p1.fHeld.map A3))])] [(3, r.1.map Ar)] (.tup [.one (.own 0), .one (.pure (.val (.int .i64 r.2)))]) := by
 unfold Ii at h
 refine As (n := 38) (rs := [.tmp 4, .tmp 5]) Try.func27 rfl rfl rfl (Bz rfl) (Bz rfl) rfl fun w0 S0 => ?_
 refine Ab (Aa Ad rfl (qb rfl (qb rfl (qa rfl (qa rfl (Ac (Ab (Aa Ad rfl (qL C5 CR rfl (qL Bl AO rfl ?_))))))))))
 obtain ⟨v1, a1, h⟩ := bind_some h
 refine AI [] (KC N p0 p1 v1 a1) Ut rfl (qm rfl (qx rfl (qx rfl (qa rfl (qa rfl (Ac (Ab (Ab (Aa Ad rfl (qm rfl (B0 rfl (Ac ?_))))))))))))
 refine Au rfl (fun c2 => ?_) (fun c2 => ?_)
 ·have h := Ap c2 h
  refine Ab (Aa Ad rfl (qm rfl (qa rfl (qa rfl (Ac ?_)))))
  obtain rfl := sj h
  refine Am ((BR 4 2001 3 rfl rfl rfl).trans (sm [(1000, 2001)] [(4, .e (.one (.own 1000))), (5, .e (.one (.pure (.val (.int .i64 v1.2)))))] [(1000, .vec 3 ((([] : List Ag)).map Ar))] rfl rfl)) (AB ?_)
  exact ⟨⟨[_, _], ⟨.tmp _ _ rfl, ⟨.tmp _ _ rfl, trivial⟩⟩, rfl⟩, ⟨rfl, trivial⟩⟩
 ·have h := Aq c2 h
  refine Av (Ab (Ab (Aa Ad rfl (qm rfl (Ch rfl (Ac ?_))))))
  refine Au rfl (fun c3 => ?_) (fun c3 => ?_)
  ·have h := Ap c3 h
   refine Ab (Aa Ad rfl (qa rfl (qa rfl (Ac ?_))))
   obtain rfl := sj h
   refine Am ((BR 4 2002 3 rfl rfl rfl).trans (sm [(1000, 2002)] [(4, .e (.one (.own 1000))), (5, .e (.one (.pure (.val (.int .i64 13)))))] [(1000, .vec 3 ((([] : List Ag)).map Ar))] rfl rfl)) (AB ?_)
   exact ⟨⟨[_, _], ⟨.tmp _ _ rfl, ⟨.tmp _ _ rfl, trivial⟩⟩, rfl⟩, ⟨rfl, trivial⟩⟩
  ·have h := Aq c3 h
   refine Av (Ab (Aa Ad rfl (qL C5 CR rfl (qL Bl AO rfl ?_))))
   obtain ⟨v4, a4, h⟩ := bind_some h
   refine AI [] (MR N p0 p1 v4 a4) V4 rfl (qm rfl (qx rfl (qx rfl (qa rfl (qa rfl (Ac (Ab (Ab (Aa Ad rfl (qm rfl (B0 rfl (Ac ?_))))))))))))
   refine Au rfl (fun c5 => ?_) (fun c5 => ?_)
   ·have h := Ap c5 h
    refine Ab (Aa Ad rfl (qm rfl (qa rfl (qa rfl (Ac ?_)))))
    obtain rfl := sj h
    refine Am ((BR 4 2003 3 rfl rfl rfl).trans (sm [(1000, 2003)] [(4, .e (.one (.own 1000))), (5, .e (.one (.pure (.val (.int .i64 v4.2)))))] [(1000, .vec 3 ((([] : List Ag)).map Ar))] rfl rfl)) (AB ?_)
    exact ⟨⟨[_, _], ⟨.tmp _ _ rfl, ⟨.tmp _ _ rfl, trivial⟩⟩, rfl⟩, ⟨rfl, trivial⟩⟩
   ·have h := Aq c5 h
    refine Av (Ab (Aa Ad rfl (qm rfl (Dg (KE 2 [.sl (p0.fVersions.map Af), .sl (p0.fNow.map Af), .sl (p0.fTarget.map Af), .sl (p0.fTables.map Ak)] rfl rfl) ?_))))
    refine J1 (capD := [_]) (HV (Ly true A4) tB ((fun (x : AS) => E4 N x p0.fVersions p0.fNow p0.fTarget p0.fTables))) (.p rfl) Wp rfl ⟨rfl, trivial⟩ rfl (fun ar t ht => by obtain ⟨x, r, rfl, hq, rfl⟩ := Ji ht; exact MH N x p0.fVersions p0.fNow p0.fTarget p0.fTables r hq) ?_
    obtain ⟨v6, a6, h⟩ := bind_some h
    refine AI [] (E1 N v4.1 ((fun (x : AS) => E4 N x p0.fVersions p0.fNow p0.fTarget p0.fTables)) v6 a6) Wf rfl (qa rfl (Ac (Ab (Ab (Aa Ad rfl (qm rfl (Bc rfl (Ac ?_))))))))
    refine Au rfl (fun c7 => ?_) (fun c7 => ?_)
    ·have h := Ap c7 h
     refine Ab (Aa Ad rfl (qa rfl (qa rfl (Ac ?_))))
     obtain rfl := sj h
     refine Am ((BR 4 2004 3 rfl rfl rfl).trans (sm [(1000, 2004)] [(4, .e (.one (.own 1000))), (5, .e (.one (.pure (.val (.int .i64 14)))))] [(1000, .vec 3 ((([] : List Ag)).map Ar))] rfl rfl)) (AB ?_)
     exact ⟨⟨[_, _], ⟨.tmp _ _ rfl, ⟨.tmp _ _ rfl, trivial⟩⟩, rfl⟩, ⟨rfl, trivial⟩⟩
    ·have h := Aq c7 h
     refine Av (Ab (Aa Ad rfl (qm rfl (qm rfl ?_))))
     obtain ⟨v8, a8, h⟩ := bind_some h
     refine AI [2005] (PB N v4.1 v6 v8 a8) Wc rfl (qa rfl (qa rfl (Ac ?_)))
     obtain rfl := sj h
     refine Am (sm [(1000, 2005)] [(4, .e (.one (.own 1000))), (5, .e (.one (.pure (.val (.int .i64 0)))))] [(1000, .vec 3 (v8.map Ar))] rfl rfl) (AB ?_)
     exact ⟨⟨[_, _], ⟨.tmp _ _ rfl, ⟨.tmp _ _ rfl, trivial⟩⟩, rfl⟩, ⟨rfl, trivial⟩⟩
set_option maxRecDepth 10000 in
theorem II (N : Nat) (p0 : Ae) (r : (List Ag) × Int) (h : Gd N p0 = some r) : AD Try.prog 13 [.e (.agg [.pure (.sl (p0.fVersions.map Af)), .pure (.sl (p0.fNow.map Af)), .pure (.sl (p0.fTarget.map Af)), .pure (.sl (p0.fTables.map Ak))])] [(3, r.1.map Ar)] (.tup [.one (.own 0), .one (.pure (.val (.int .i64 r.2)))]) := by
 unfold Gd at h
 refine As (n := 19) (rs := [.tmp 2, .tmp 3]) Try.func13 rfl rfl rfl (Bz rfl) (Bz rfl) rfl fun w0 S0 => ?_
 refine Ab (Aa Ad rfl (qb rfl (qa rfl (qa rfl (Ac (Ab (Aa Ad rfl (qL C5 CR rfl ?_))))))))
 obtain ⟨v1, a1, h⟩ := bind_some h
 refine AI [2001, 2002, 2003] (Lj N p0 v1 a1) U4 rfl (qm rfl (qx rfl (qx rfl (qz Co rfl (qs AO rfl (qa rfl (Ac (Ab (Ab (Aa Ad rfl (qm rfl (B0 rfl (Ac ?_)))))))))))))
 refine Au rfl (fun c2 => ?_) (fun c2 => ?_)
 ·have h := Ap c2 h
  refine Ab (Aa Ad rfl (qm rfl (qa rfl (qa rfl (Ac ?_)))))
  obtain rfl := sj h
  refine Am ((BR 2 2004 3 rfl rfl rfl).trans (sm [(1000, 2004)] [(2, .e (.one (.own 1000))), (3, .e (.one (.pure (.val (.int .i64 v1.2)))))] [(1000, .vec 3 ((([] : List Ag)).map Ar))] rfl rfl)) (AB ?_)
  exact ⟨⟨[_, _], ⟨.tmp _ _ rfl, ⟨.tmp _ _ rfl, trivial⟩⟩, rfl⟩, ⟨rfl, trivial⟩⟩
 ·have h := Aq c2 h
  refine Av (Ab (Aa Ad rfl (qL C5 CR rfl (qL Bl AO rfl ?_))))
  obtain ⟨v3, a3, h⟩ := bind_some h
  refine D5 [2005] [2001, 2002, 2003] (OI N p0 v1.1 v3 a3) V7 (FP (fun _ => rfl) CN) rfl (qx rfl (qx rfl (qa rfl (qa rfl (Ac ?_)))))
  obtain rfl := sj h
  refine Am (sm [(1000, 2005)] [(2, .e (.one (.own 1000))), (3, .e (.one (.pure (.val (.int .i64 v3.2)))))] [(1000, .vec 3 (v3.1.map Ar))] rfl rfl) (AB ?_)
  exact ⟨⟨[_, _], ⟨.tmp _ _ rfl, ⟨.tmp _ _ rfl, trivial⟩⟩, rfl⟩, ⟨rfl, trivial⟩⟩
set_option maxRecDepth 10000 in
theorem IW (N : Nat) (p0 : Ae) (p1 : List Ag) (r : Int × Ah × Aj × Int) (h : Ee N p0 p1 = some r) : AD Try.prog 19 [.e (.agg [.pure (.sl (p0.fVersions.map Af)), .pure (.sl (p0.fNow.map Af)), .pure (.sl (p0.fTarget.map Af)), .pure (.sl (p0.fTables.map Ak))]), .e (.one (.pure (.sl (p1.map Ar))))] [] (.tup [.one (.pure (.val (.int .i64 r.1))), .agg [.pure (.sl (r.2.1.fBase.map Af)), .pure (.sl (r.2.1.fNext.map Af)), .pure (.sl (r.2.1.fHeld.map A3))], .agg [.pure (.val (.int .i64 r.2.2.1.fTable)), .pure (.val (.int .i64 r.2.2.1.fWriter)), .pure (.val (.int .i64 r.2.2.1.fReader))], .one (.pure (.val (.int .i64 r.2.2.2)))]) := by
 unfold Ee at h
 refine As (n := 89) (rs := [.tmp 4, .cell 5 43, .cell 6 45, .tmp 7]) Try.func19 rfl rfl rfl (Bz rfl) (Bz rfl) rfl fun w0 S0 => ?_
 refine Ab (Aa Ad rfl (qb rfl (qa rfl (qz Co rfl (qz EU rfl (qa rfl (Ac (Ab (Aa Ad rfl (qL C5 CR rfl ?_))))))))))
 obtain ⟨v1, a1, h⟩ := bind_some h
 refine AI [2001, 2002, 2003] (Lj N p0 v1 a1) U4 rfl (qm rfl (qx rfl (qx rfl (qz Co rfl (qs AO rfl (qa rfl (Ac (Ab (Ab (Aa Ad rfl (qm rfl (B0 rfl (Ac ?_)))))))))))))
 refine Au rfl (fun c2 => ?_) (fun c2 => ?_)
 ·have h := Ap c2 h
  refine Ab (Aa Ad rfl (AV Co Fa rfl (AV EU Jg rfl (qm rfl (qa rfl (qs AO rfl (qs Dm rfl (qa rfl (Ac ?_)))))))))
  obtain rfl := sj h
  refine Am ((Eb 5 _ rfl).trans (sm [] [(4, .e (.one (.pure (.val (.int .i64 0))))), (5, .e (.one (.ptr 5 0))), (6, .e (.one (.ptr 6 0))), (7, .e (.one (.pure (.val (.int .i64 v1.2)))))] [(5, .box [.pure (.sl ((([] : List Int)).map Af)), .pure (.sl ((([] : List Int)).map Af)), .pure (.sl ((([] : List Int)).map A3))]), (6, .box [.pure (.val (.int .i64 0)), .pure (.val (.int .i64 0)), .pure (.val (.int .i64 0))])] rfl rfl)) (AB ?_)
  exact ⟨⟨[_, _, _, _], ⟨.tmp _ _ rfl, ⟨.cellN _ _ _ _ _ _ _ rfl rfl Bl AO rfl rfl (Fp rfl), ⟨.cellN _ _ _ _ _ _ _ rfl rfl Hl Dm rfl rfl (Fp rfl), ⟨.tmp _ _ rfl, trivial⟩⟩⟩⟩, rfl⟩, trivial⟩
 ·have h := Aq c2 h
  refine Av (Ab (Ab (Aa Ad rfl (qL C5 CR rfl (qL Bl AO rfl (Dg (Bf 2001 _ _ rfl rfl) (Dg (Bf 2002 _ _ rfl rfl) (Dg (Bf 2003 _ _ rfl rfl) ?_))))))))
  obtain ⟨v3, a3, h⟩ := bind_some h
  refine AI [] (IS N p0 v1.1 v3 a3) TF rfl (qm rfl (qx rfl (qx rfl (qx rfl (qz Co rfl (qz EU rfl (qs AO rfl (qs Dm rfl (qa rfl (Ac (Ab (Aa Ad rfl (qm rfl (BO rfl (Ac ?_)))))))))))))))
  refine Au rfl (fun c4 => ?_) (fun c4 => ?_)
  ·have h := Ap c4 h
   refine Ab (Aa Ad rfl (qL Bl AO rfl (qL Hl Dm rfl (qa rfl (qs AO rfl (qs Dm rfl (qa rfl (AX (by kernel_rfl) ?_))))))))
   obtain rfl := sj h
   refine Am (sm [] [(4, .e (.one (.pure (.val (.int .i64 ((-1))))))), (5, .e (.one (.ptr 5 0))), (6, .e (.one (.ptr 6 0))), (7, .e (.one (.pure (.val (.int .i64 0)))))] [(5, .box [.pure (.sl (v3.1.fBase.map Af)), .pure (.sl (v3.1.fNext.map Af)), .pure (.sl (v3.1.fHeld.map A3))]), (6, .box [.pure (.val (.int .i64 v3.2.1.fTable)), .pure (.val (.int .i64 v3.2.1.fWriter)), .pure (.val (.int .i64 v3.2.1.fReader))])] rfl rfl) (AB ?_)
   exact ⟨⟨[_, _, _, _], ⟨.tmp _ _ rfl, ⟨.cellN _ _ _ _ _ _ _ rfl rfl Bl AO rfl rfl (Fp rfl), ⟨.cellN _ _ _ _ _ _ _ rfl rfl Hl Dm rfl rfl (Fp rfl), ⟨.tmp _ _ rfl, trivial⟩⟩⟩⟩, rfl⟩, trivial⟩
  ·have h := Aq c4 h
   refine Av (Ab (Ab (Aa Ad rfl (qm rfl (AQ Bg rfl (qm rfl (Ac ?_)))))))
   refine AP (L := Dx N p0 p1) h (fun v5 => mk [(1, .e (.one (.pure (.sl (p1.map Ar))))), (2, .e (.one (.ptr 2 0))), (5, .e (.one (.ptr 5 0))), (6, .e (.one (.ptr 6 0))), (8, .e (.one (.ptr 8 0))), (41, .e (.one (.pure (.sl (p1.map Ar))))), (42, .e (.one (.pure (.val (.int .i64 ((p1.length : Int))))))), (43, .e (.one (.pure (.val (.int .i64 v5.2)))))] [(2, .box [.pure (.sl (p0.fVersions.map Af)), .pure (.sl (p0.fNow.map Af)), .pure (.sl (p0.fTarget.map Af)), .pure (.sl (p0.fTables.map Ak))]), (5, .box [.pure (.nil0), .pure (.nil0), .pure (.nil0)]), (6, .box [.pure (.val (.int .i64 0)), .pure (.val (.int .i64 0)), .pure (.val (.int .i64 0))]), (8, .box [.pure (.sl (v5.1.fBase.map Af)), .pure (.sl (v5.1.fNext.map Af)), .pure (.sl (v5.1.fHeld.map A3))])]) (fun v6 => mk [(1, .e (.one (.pure (.sl (p1.map Ar))))), (2, .e (.one (.ptr 2 0))), (5, .e (.one (.ptr 5 0))), (6, .e (.one (.ptr 6 0))), (8, .e (.one (.ptr 8 0)))] [(2, .box [.pure (.sl (p0.fVersions.map Af)), .pure (.sl (p0.fNow.map Af)), .pure (.sl (p0.fTarget.map Af)), .pure (.sl (p0.fTables.map Ak))]), (5, .box [.pure (.nil0), .pure (.nil0), .pure (.nil0)]), (6, .box [.pure (.val (.int .i64 0)), .pure (.val (.int .i64 0)), .pure (.val (.int .i64 0))]), (8, .box [.pure (.sl (v6.fBase.map Af)), .pure (.sl (v6.fNext.map Af)), .pure (.sl (v6.fHeld.map A3))])]) (fun _ _ => rfl) (sm [] _ _ rfl rfl) (fun j5 n5 v5 h => ?_) (fun v6 s h hs => ?_)
   ·unfold Dx at h
    refine Ab (Aa Ad rfl (Bc rfl (Ac (Ab ?_))))
    refine Au rfl (fun c7 => ?_) (fun c7 => ?_)
    ·have h := Ap c7 h
     refine Av (Ab (AW (Ab (Aa Ad rfl (qm rfl ?_)))))
     obtain ⟨v8, a8, b8, h⟩ := An h
     refine qi Bg Cs a8 (Al b8) rfl (qK Hb Cs rfl (qz Fi rfl (qa rfl (qs Cs rfl (Ac (Ab (Aa Ad rfl (qL C5 CR rfl (qL Bl AO rfl (qL Hb Cs rfl ?_))))))))))
     obtain ⟨v9, a9, h⟩ := bind_some h
     refine AI [2004, 2005, 2006] (Kf N p0 v5.1 v8 v9 a9) Vf rfl (qm rfl (qx rfl (qx rfl (qz Co rfl (qs AO rfl (qa rfl (Ac (Ab ?_))))))))
     refine AR h (fun v10 => mk [(1, .e (.one (.pure (.sl (p1.map Ar))))), (2, .e (.one (.ptr 2 0))), (5, .e (.one (.ptr 5 0))), (6, .e (.one (.ptr 6 0))), (8, .e (.one (.ptr 8 0))), (13, .e (.one (.pure (.val (.int .i64 v5.2))))), (15, .e (.one (.ptr 15 0))), (41, .e (.one (.pure (.sl (p1.map Ar))))), (42, .e (.one (.pure (.val (.int .i64 ((p1.length : Int))))))), (43, .e (.one (.pure (.val (.int .i64 v5.2))))), (61, .e (.one (.pure (.val (.bool v10)))))] [(2, .box [.pure (.sl (p0.fVersions.map Af)), .pure (.sl (p0.fNow.map Af)), .pure (.sl (p0.fTarget.map Af)), .pure (.sl (p0.fTables.map Ak))]), (5, .box [.pure (.nil0), .pure (.nil0), .pure (.nil0)]), (6, .box [.pure (.val (.int .i64 0)), .pure (.val (.int .i64 0)), .pure (.val (.int .i64 0))]), (8, .box [.pure (.sl (v5.1.fBase.map Af)), .pure (.sl (v5.1.fNext.map Af)), .pure (.sl (v5.1.fHeld.map A3))]), (15, .box [.own 2007, .own 2008, .own 2009]), (2007, .vec 1 (v9.1.fBase.map Af)), (2008, .vec 1 (v9.1.fNext.map Af)), (2009, .vec 1 (v9.1.fHeld.map A3))]) (fun j10 h => ?_) (fun v10 h => ?_)
     ·refine Aa Ad rfl (qm rfl (B0 rfl (qm rfl ?_)))
      refine AF (t := 57) rfl (fun c11 => ?_) (fun c11 => ?_)
      ·have h := Ap c11 h
       refine qn rfl (qn rfl (qn rfl (qp rfl (Ac ?_))))
       exact Ax _ h (sm [(2007, 2004), (2008, 2005), (2009, 2006)] _ _ rfl rfl)
      ·have h := Aq c11 h
       refine qf Ei rfl (ql B1 rfl (BO rfl (qp rfl (Ac ?_))))
       exact Ax _ h (sm [(2007, 2004), (2008, 2005), (2009, 2006)] _ _ rfl rfl)
     ·refine Au rfl (fun c12 => ?_) (fun c12 => ?_)
      ·have h := Ap c12 h
       refine Ab (Aa Ad rfl (qm rfl (AV Co Fa rfl (AV EU Jg rfl (qa rfl (qs AO rfl (qs Dm rfl (qa rfl (Ac ?_)))))))))
       obtain rfl := sj h
       refine Am ((Eb 5 _ rfl).trans (sm [] [(4, .e (.one (.pure (.val (.int .i64 v5.2))))), (5, .e (.one (.ptr 5 0))), (6, .e (.one (.ptr 6 0))), (7, .e (.one (.pure (.val (.int .i64 0)))))] [(5, .box [.pure (.sl ((([] : List Int)).map Af)), .pure (.sl ((([] : List Int)).map Af)), .pure (.sl ((([] : List Int)).map A3))]), (6, .box [.pure (.val (.int .i64 0)), .pure (.val (.int .i64 0)), .pure (.val (.int .i64 0))])] rfl rfl)) (AB ?_)
       exact ⟨⟨[_, _, _, _], ⟨.tmp _ _ rfl, ⟨.cellN _ _ _ _ _ _ _ rfl rfl Bl AO rfl rfl (Fp rfl), ⟨.cellN _ _ _ _ _ _ _ rfl rfl Hl Dm rfl rfl (Fp rfl), ⟨.tmp _ _ rfl, trivial⟩⟩⟩⟩, rfl⟩, trivial⟩
      ·have h := Aq c12 h
       refine Av (Ab (Ab (Aa Ad rfl (qL C5 CR rfl (qL Bl AO rfl (Dg (Bf 2007 _ _ rfl rfl) (Dg (Bf 2008 _ _ rfl rfl) (Dg (Bf 2009 _ _ rfl rfl) ?_))))))))
       obtain ⟨v13, a13, h⟩ := bind_some h
       refine AI [] (IS N p0 v9.1 v13 a13) TF rfl (qm rfl (qx rfl (qx rfl (qx rfl (qz Co rfl (qz EU rfl (qs AO rfl (qs Dm rfl (qa rfl (Ac (Ab (Aa Ad rfl (qm rfl (BO rfl (Ac ?_)))))))))))))))
       refine Au rfl (fun c14 => ?_) (fun c14 => ?_)
       ·have h := Ap c14 h
        refine Ab (Aa Ad rfl (qm rfl (qL Bl AO rfl (qL Hl Dm rfl (qa rfl (qs AO rfl (qs Dm rfl (qa rfl (AX (by kernel_rfl) ?_)))))))))
        obtain rfl := sj h
        refine Am (sm [] [(4, .e (.one (.pure (.val (.int .i64 v5.2))))), (5, .e (.one (.ptr 5 0))), (6, .e (.one (.ptr 6 0))), (7, .e (.one (.pure (.val (.int .i64 0)))))] [(5, .box [.pure (.sl (v13.1.fBase.map Af)), .pure (.sl (v13.1.fNext.map Af)), .pure (.sl (v13.1.fHeld.map A3))]), (6, .box [.pure (.val (.int .i64 v13.2.1.fTable)), .pure (.val (.int .i64 v13.2.1.fWriter)), .pure (.val (.int .i64 v13.2.1.fReader))])] rfl rfl) (AB ?_)
        exact ⟨⟨[_, _, _, _], ⟨.tmp _ _ rfl, ⟨.cellN _ _ _ _ _ _ _ rfl rfl Bl AO rfl rfl (Fp rfl), ⟨.cellN _ _ _ _ _ _ _ rfl rfl Hl Dm rfl rfl (Fp rfl), ⟨.tmp _ _ rfl, trivial⟩⟩⟩⟩, rfl⟩, trivial⟩
       ·have h := Aq c14 h
        refine Av (Aa Ad rfl (qL Bl AO rfl (qs AO rfl (Ac (Aa Ad rfl (Bm rfl (qm rfl (Ac ?_))))))))
        exact Ax _ h (sm [] _ _ rfl rfl)
    ·have h := Aq c7 h
     refine A1 ?_
     exact Ax _ h (sm [] _ _ rfl rfl)
   ·refine Am hs (Ab (Ab (Aa Ad rfl (qL C5 CR rfl (qL Bl AO rfl ?_)))))
    obtain ⟨v15, a15, h⟩ := bind_some h
    refine AI [] (Mu N p0 v6 v15 a15) Uu rfl (Ch rfl (Ac ?_))
    refine Au rfl (fun c16 => ?_) (fun c16 => ?_)
    ·have h := Ap c16 h
     refine Ab (Aa Ad rfl (qm rfl (AQ Bg rfl (AV Co Fa rfl (AV EU Jg rfl (qa rfl (qs AO rfl (qs Dm rfl (qa rfl (Ac ?_))))))))))
     obtain rfl := sj h
     refine Am ((Eb 5 _ rfl).trans (sm [] [(4, .e (.one (.pure (.val (.int .i64 ((p1.length : Int))))))), (5, .e (.one (.ptr 5 0))), (6, .e (.one (.ptr 6 0))), (7, .e (.one (.pure (.val (.int .i64 14)))))] [(5, .box [.pure (.sl ((([] : List Int)).map Af)), .pure (.sl ((([] : List Int)).map Af)), .pure (.sl ((([] : List Int)).map A3))]), (6, .box [.pure (.val (.int .i64 0)), .pure (.val (.int .i64 0)), .pure (.val (.int .i64 0))])] rfl rfl)) (AB ?_)
     exact ⟨⟨[_, _, _, _], ⟨.tmp _ _ rfl, ⟨.cellN _ _ _ _ _ _ _ rfl rfl Bl AO rfl rfl (Fp rfl), ⟨.cellN _ _ _ _ _ _ _ rfl rfl Hl Dm rfl rfl (Fp rfl), ⟨.tmp _ _ rfl, trivial⟩⟩⟩⟩, rfl⟩, trivial⟩
    ·have h := Aq c16 h
     refine Av (Ab (Aa Ad rfl (AV Co Fa rfl (AV EU Jg rfl (qa rfl (qs AO rfl (qs Dm rfl (qa rfl (Ac ?_)))))))))
     obtain rfl := sj h
     refine Am ((Eb 5 _ rfl).trans (sm [] [(4, .e (.one (.pure (.val (.int .i64 0))))), (5, .e (.one (.ptr 5 0))), (6, .e (.one (.ptr 6 0))), (7, .e (.one (.pure (.val (.int .i64 15)))))] [(5, .box [.pure (.sl ((([] : List Int)).map Af)), .pure (.sl ((([] : List Int)).map Af)), .pure (.sl ((([] : List Int)).map A3))]), (6, .box [.pure (.val (.int .i64 0)), .pure (.val (.int .i64 0)), .pure (.val (.int .i64 0))])] rfl rfl)) (AB ?_)
     exact ⟨⟨[_, _, _, _], ⟨.tmp _ _ rfl, ⟨.cellN _ _ _ _ _ _ _ rfl rfl Bl AO rfl rfl (Fp rfl), ⟨.cellN _ _ _ _ _ _ _ rfl rfl Hl Dm rfl rfl (Fp rfl), ⟨.tmp _ _ rfl, trivial⟩⟩⟩⟩, rfl⟩, trivial⟩
set_option maxRecDepth 10000 in
theorem FO (N : Nat) (p0 : List Ag) (p1 : List Ag) (r : Bool) (h : CG N p0 p1 = some r) : AD Try.prog 15 [.e (.one (.pure (.sl (p0.map Ar)))), .e (.one (.pure (.sl (p1.map Ar))))] [] (.e (.one (.pure (.val (.bool r))))) := by
 unfold CG at h
 refine As (n := 26) (rs := [.tmp 4]) Try.func15 rfl rfl rfl (Bz rfl) (Bz rfl) rfl fun w0 S0 => ?_
 refine Ab (Aa Ad rfl (qa rfl (Ac (Ab (Ab (Aa Ad rfl (qm rfl (AQ Bg rfl (qm rfl (AQ Bg rfl (B0 rfl (Ac ?_))))))))))))
 refine Au rfl (fun c1 => ?_) (fun c1 => ?_)
 ·have h := Ap c1 h
  refine Ab (Aa Ad rfl (qa rfl (Ac ?_)))
  obtain rfl := sj h
  refine Am (sm [] [(4, .e (.one (.pure (.val (.bool false)))))] [] rfl rfl) (AB ?_)
  exact ⟨⟨[_], ⟨.tmp _ _ rfl, trivial⟩, rfl⟩, trivial⟩
 ·have h := Aq c1 h
  refine Av (Ab (Ab (Aa Ad rfl (qa rfl (Ac ?_)))))
  refine AP (L := Ce N p0 p1) h (fun v2 => mk [(0, .e (.one (.pure (.sl (p0.map Ar))))), (1, .e (.one (.pure (.sl (p1.map Ar))))), (5, .e (.one (.pure (.val (.int .i64 v2)))))] []) (fun v3 => mk [] []) (fun _ _ => rfl) (sm [] _ _ rfl rfl) (fun j2 n2 v2 h => ?_) (fun v3 s h hs => ?_)
  ·unfold Ce at h
   refine Ab (Ab (Aa Ad rfl (qm rfl (qm rfl (AQ Bg rfl (Bc rfl (Ac ?_)))))))
   refine Au rfl (fun c4 => ?_) (fun c4 => ?_)
   ·have h := Ap c4 h
    refine Av (Ab (AW (Ab (Aa Ad rfl (qm rfl (qm rfl ?_))))))
    obtain ⟨v5, a5, b5, h⟩ := An h
    refine qi Bg Cs a5 (Al b5) rfl (qK Hb Cs rfl (qm rfl (qm rfl ?_)))
    obtain ⟨v6, a6, b6, h⟩ := An h
    refine qi Bg Cs a6 (Al b6) rfl (qK Hb Cs rfl ?_)
    refine UL [.int .i64 v5.fKind, .int .i64 v5.fIndex, .int .i64 v5.fVersion] [.int .i64 v6.fKind, .int .i64 v6.fIndex, .int .i64 v6.fVersion] (.p rfl) rfl rfl Vi rfl ?_
    refine AX (by kernel_rfl) ?_
    refine Au rfl (fun c7 => ?_) (fun c7 => ?_)
    ·have h := Ap c7 h
     refine Ab (Aa Ad rfl (qa rfl (Ac ?_)))
     obtain rfl := sj h
     refine Am (sm [] [(4, .e (.one (.pure (.val (.bool false)))))] [] rfl rfl) (AB ?_)
     exact ⟨⟨[_], ⟨.tmp _ _ rfl, trivial⟩, rfl⟩, trivial⟩
    ·have h := Aq c7 h
     refine Av (Aa Ad rfl (qm rfl (Bm rfl (qa rfl (Ac ?_)))))
     exact Ax _ h (sm [] _ _ rfl rfl)
   ·have h := Aq c4 h
    refine A1 ?_
    exact Ax _ h (sm [] _ _ rfl rfl)
  ·refine Am hs (Ab (Aa Ad rfl (qa rfl (Ac ?_))))
   obtain rfl := sj h
   refine Am (sm [] [(4, .e (.one (.pure (.val (.bool true)))))] [] rfl rfl) (AB ?_)
   exact ⟨⟨[_], ⟨.tmp _ _ rfl, trivial⟩, rfl⟩, trivial⟩
set_option maxRecDepth 10000 in
theorem F8 (N : Nat) (p0 : Ae) (p1 : List Ag) (r : Bool) (h : C4 N p0 p1 = some r) : AD Try.prog 16 [.e (.agg [.pure (.sl (p0.fVersions.map Af)), .pure (.sl (p0.fNow.map Af)), .pure (.sl (p0.fTarget.map Af)), .pure (.sl (p0.fTables.map Ak))]), .e (.one (.pure (.sl (p1.map Ar))))] [] (.e (.one (.pure (.val (.bool r))))) := by
 unfold C4 at h
 refine As (n := 19) (rs := [.tmp 4]) Try.func16 rfl rfl rfl (Bz rfl) (Bz rfl) rfl fun w0 S0 => ?_
 refine Ab (Aa Ad rfl (qb rfl (qa rfl (Ac (Ab (Aa Ad rfl (qL C5 CR rfl (qm rfl ?_))))))))
 obtain ⟨v1, a1, h⟩ := bind_some h
 refine AI [] (IW N p0 p1 v1 a1) U3 rfl (qm rfl (qx rfl (qx rfl (qx rfl (qx rfl (qz Co rfl (qz EU rfl (qa rfl (qs AO rfl (qs Dm rfl (qa rfl (Ac (Ab (Aa Ad rfl (qm rfl (BO rfl (qa rfl (Ac ?_))))))))))))))))))
 obtain rfl := sj h
 refine Am (sm [] [(4, .e (.one (.pure (.val (.bool ((v1.2.2.2 == 15)))))))] [] rfl rfl) (AB ?_)
 exact ⟨⟨[_], ⟨.tmp _ _ rfl, trivial⟩, rfl⟩, trivial⟩
set_option maxRecDepth 10000 in
theorem GW (N : Nat) (r : Bool) (h : DI N = some r) : AD Try.prog 11 [] [] (.e (.one (.pure (.val (.bool r))))) := by
 unfold DI at h
 refine As (n := 74) (rs := [.tmp 0]) Try.func11 rfl rfl rfl (Bz rfl) (Bz rfl) rfl fun w0 S0 => ?_
 refine Ab (Aa Ad rfl (qa rfl (Ac (Ab (Aa Ad rfl ?_)))))
 obtain ⟨v1, a1, h⟩ := bind_some h
 refine AI [2001, 2002, 2003, 2004] (Dq N false false v1 a1) RF rfl ?_
 obtain ⟨v2, a2, h⟩ := bind_some h
 refine D5 [2005] [2001, 2002, 2003, 2004] (II N v1 v2 a2) T7 (FP (fun _ => rfl) CN) rfl (qm rfl (qx rfl (qx rfl (qa rfl (qa rfl (Ac (Ab (Aa Ad rfl ?_))))))))
 obtain ⟨v3, a3, h⟩ := bind_some h
 refine AI [2006, 2007, 2008, 2009] (Dq N true false v3 a3) RF rfl ?_
 obtain ⟨v4, a4, h⟩ := bind_some h
 refine D5 [2010] [2006, 2007, 2008, 2009] (II N v3 v4 a4) T7 (FP (fun _ => rfl) CN) rfl (qm rfl (qx rfl (qx rfl (qa rfl (qa rfl (Ac (Ab (Aa Ad rfl ?_))))))))
 obtain ⟨v5, a5, h⟩ := bind_some h
 refine AI [2011, 2012, 2013, 2014] (Dq N true true v5 a5) RF rfl ?_
 obtain ⟨v6, a6, h⟩ := bind_some h
 refine D5 [2015] [2011, 2012, 2013, 2014] (II N v5 v6 a6) T7 (FP (fun _ => rfl) CN) rfl (qm rfl (qx rfl (qx rfl (qa rfl (qa rfl (Ac (Ab (Aa Ad rfl ?_))))))))
 obtain ⟨v7, a7, h⟩ := bind_some h
 refine AI [2016, 2017, 2018, 2019] (Dq N false false v7 a7) RF rfl (AV Fi Oq rfl (D2 Bg Cs Fi rfl (Dg (Bf 2016 _ _ rfl rfl) (Dg (Bf 2017 _ _ rfl rfl) (Dg (Bf 2018 _ _ rfl rfl) (Dg (Bf 2019 _ _ rfl rfl) (Dg (Bf 30 _ _ rfl rfl) ?_)))))))
 obtain ⟨v8, a8, h⟩ := bind_some h
 refine AI [] (IW N v7 (([(Ag.mk 1 0 1)] : List Ag)) v8 a8) U3 rfl (qm rfl (qx rfl (qx rfl (qx rfl (qx rfl (qz Co rfl (qz EU rfl (qa rfl (qs AO rfl (qs Dm rfl (qa rfl (Ac (Ab (Aa Ad rfl (AV Fi Oq rfl (AV Fi Oq rfl (AV Fi Oq rfl (AV Fi Oq rfl (D2 Bg Cs Fi rfl (qa rfl (Ac ?_)))))))))))))))))))))
 refine AR h (fun v9 => mk [(0, .e (.one (.pure (.val (.bool v9)))))] []) (fun j9 h => ?_) (fun v9 h => ?_)
 ·refine Aa Ad rfl (qm rfl (BO rfl (qm rfl ?_)))
  refine AF (t := 43) rfl (fun c10 => ?_) (fun c10 => ?_)
  ·have h := Ap c10 h
   refine qm rfl (qm rfl ?_)
   obtain ⟨v11, a11, h⟩ := bind_some h
   refine D5 [] [2005, 40] (FO N v2.1 (([(Ag.mk 1 1 1), (Ag.mk 2 1 0), (Ag.mk 1 0 1), (Ag.mk 2 0 0)] : List Ag)) v11 a11) T8 CN rfl (qp rfl (qm rfl ?_))
   refine AF (t := 48) rfl (fun c12 => ?_) (fun c12 => ?_)
   ·have h := Ap c12 h
    refine qm rfl (BO rfl (qp rfl (qm rfl ?_)))
    refine AF (t := 52) rfl (fun c13 => ?_) (fun c13 => ?_)
    ·have h := Ap c13 h
     refine qm rfl (BO rfl (qp rfl (qm rfl ?_)))
     refine AF (t := 56) rfl (fun c14 => ?_) (fun c14 => ?_)
     ·have h := Ap c14 h
      refine qm rfl (BO rfl (qp rfl (qm rfl ?_)))
      refine AF (t := 60) rfl (fun c15 => ?_) (fun c15 => ?_)
      ·have h := Ap c15 h
       refine qm rfl (BO rfl (qp rfl (qm rfl ?_)))
       refine AF (t := 64) rfl (fun c16 => ?_) (fun c16 => ?_)
       ·have h := Ap c16 h
        refine qL Hl Dm rfl (AV EU Jg rfl ?_)
        refine U1 [.int .i64 v8.2.2.1.fTable, .int .i64 v8.2.2.1.fWriter, .int .i64 v8.2.2.1.fReader] [.int .i64 0, .int .i64 1, .int .i64 0] (.g rfl rfl) rfl rfl UT rfl ?_
        refine qp rfl (qm rfl ?_)
        refine AF (t := 69) rfl (fun c17 => ?_) (fun c17 => ?_)
        ·have h := Ap c17 h
         obtain ⟨v18, a18, h⟩ := bind_some h
         refine AI [2020, 2021, 2022, 2023] (Dq N false false v18 a18) RF rfl (qm rfl ?_)
         obtain ⟨v19, a19, h⟩ := bind_some h
         refine D5 [] [2020, 2021, 2022, 2023, 40] (F8 N v18 (([(Ag.mk 1 1 1), (Ag.mk 2 1 0), (Ag.mk 1 0 1), (Ag.mk 2 0 0)] : List Ag)) v19 a19) Q6 CN rfl (qp rfl (qa rfl (Ac ?_)))
         exact Ax _ h (sm [] _ _ rfl rfl)
        ·have h := Aq c17 h
         refine qn rfl (qn rfl (qn rfl (qp rfl (qa rfl (Ac ?_)))))
         exact Ax _ h (sm [] _ _ rfl rfl)
       ·have h := Aq c16 h
        refine qn rfl (qn rfl (qn rfl (qp rfl (qm rfl (qn rfl (qn rfl (qn rfl (qp rfl (qa rfl (Ac ?_))))))))))
        exact Ax _ h (sm [] _ _ rfl rfl)
      ·have h := Aq c15 h
       refine qn rfl (qn rfl (qp rfl (qm rfl (qn rfl (qn rfl (qn rfl (qp rfl (qm rfl (qn rfl (qn rfl (qn rfl (qp rfl (qa rfl (Ac ?_))))))))))))))
       exact Ax _ h (sm [] _ _ rfl rfl)
     ·have h := Aq c14 h
      refine qn rfl (qn rfl (qp rfl (qm rfl (qn rfl (qn rfl (qp rfl (qm rfl (qn rfl (qn rfl (qn rfl (qp rfl (qm rfl (qn rfl (qn rfl (qn rfl (qp rfl (qa rfl (Ac ?_))))))))))))))))))
      exact Ax _ h (sm [] _ _ rfl rfl)
    ·have h := Aq c13 h
     refine qn rfl (qn rfl (qp rfl (qm rfl (qn rfl (qn rfl (qp rfl (qm rfl (qn rfl (qn rfl (qp rfl (qm rfl (qn rfl (qn rfl (qn rfl (qp rfl (qm rfl (qn rfl (qn rfl (qn rfl (qp rfl (qa rfl (Ac ?_))))))))))))))))))))))
     exact Ax _ h (sm [] _ _ rfl rfl)
   ·have h := Aq c12 h
    refine qn rfl (qn rfl (qp rfl (qm rfl (qn rfl (qn rfl (qp rfl (qm rfl (qn rfl (qn rfl (qp rfl (qm rfl (qn rfl (qn rfl (qp rfl (qm rfl (qn rfl (qn rfl (qn rfl (qp rfl (qm rfl (qn rfl (qn rfl (qn rfl (qp rfl (qa rfl (Ac ?_))))))))))))))))))))))))))
    exact Ax _ h (sm [] _ _ rfl rfl)
  ·have h := Aq c10 h
   refine qn rfl (qn rfl (qn rfl (qp rfl (qm rfl (qn rfl (qn rfl (qp rfl (qm rfl (qn rfl (qn rfl (qp rfl (qm rfl (qn rfl (qn rfl (qp rfl (qm rfl (qn rfl (qn rfl (qp rfl (qm rfl (qn rfl (qn rfl (qn rfl (qp rfl (qm rfl (qn rfl (qn rfl (qn rfl (qp rfl (qa rfl (Ac ?_)))))))))))))))))))))))))))))))
   exact Ax _ h (sm [] _ _ rfl rfl)
 ·obtain rfl := sj h
  refine Am (sm [] [(0, .e (.one (.pure (.val (.bool v9)))))] [] rfl rfl) (AB ?_)
  exact ⟨⟨[_], ⟨.tmp _ _ rfl, trivial⟩, rfl⟩, trivial⟩
set_option maxRecDepth 10000 in
theorem Eh (N : Nat) (p0 : List Ag) (r : (List Ag)) (h : Bq N p0 = some r) : AD Try.prog 62 [.e (.one (.pure (.sl (p0.map Ar))))] [(3, r.map Ar)] (.e (.one (.own 0))) := by
 unfold Bq at h
 refine As (n := 8) (rs := [.tmp 2]) Try.func62 rfl rfl rfl (Bz rfl) (Bz rfl) rfl fun w0 S0 => ?_
 refine Ab (Aa Ad rfl (qa rfl (Ac (Ab (Ab (Aa Ad rfl (qm rfl ?_)))))))
 refine N6 (.p rfl) rfl Bg ?_
 refine Ac ?_
 refine N8 rfl (fun c2 => ?_) ?_
 ·have c2 := List.map_eq_nil_iff.1 c2
  rw [c2] at h
  have h : (some (([] : List Ag))) = some r := h
  refine Ab (Aa Ad rfl (qa rfl (Ac ?_)))
  obtain rfl := sj h
  refine Am ((BR 2 2001 3 rfl rfl rfl).trans (sm [(1000, 2001)] [(2, .e (.one (.own 1000)))] [(1000, .vec 3 ((([] : List Ag)).map Ar))] rfl rfl)) (AB ?_)
  exact ⟨⟨[_], ⟨.tmp _ _ rfl, trivial⟩, rfl⟩, ⟨rfl, trivial⟩⟩
 ·refine Av (Ab (Aa Ad rfl (D2 Bg Cs Fi rfl (qm rfl ?_))))
  obtain ⟨c1, h⟩ := AG h
  refine F0 (f := Ar) Bg Bg Cs JJ Fi (fun _ => rfl) c1 rfl (qa rfl (Ac ?_))
  obtain rfl := sj h
  refine Am (sm [(1000, 7)] [(2, .e (.one (.own 1000)))] [(1000, .vec 3 (((([] : List Ag)) ++ p0).map Ar))] rfl rfl) (AB ?_)
  exact ⟨⟨[_], ⟨.tmp _ _ rfl, trivial⟩, rfl⟩, ⟨rfl, trivial⟩⟩
set_option maxRecDepth 10000 in
theorem FW (N : Nat) (p0 : List Ag) (p1 : Int) (p2 : Int) (r : Nat × (List Ag)) (h : BL N p0 p1 p2 = some r) : EG Try.prog 63 [.e (.one (.own 90000)), .e (.one (.pure (.val (.int .i64 p1)))), .e (.one (.pure (.val (.int .i64 p2))))] [(.vec 3 (p0.map Ar), .vec 3 (r.2.map Ar))] [] (.e (.one (.view 90000 3 0 r.1))) := by
 unfold BL at h
 refine E6 (n := 33) (rs := [.tmp 6]) Try.func63 rfl rfl rfl (Bz rfl) (Bz rfl) rfl rfl (Bz rfl) rfl (Bz rfl) fun w0 S0 GL => ?_
 refine Am (sm [] [(0, .e (.one (.own 90000))), (1, .e (.one (.pure (.val (.int .i64 p1))))), (2, .e (.one (.pure (.val (.int .i64 p2)))))] [(90000, .vec 3 (p0.map Ar))] rfl rfl) (Ab (Aa Ad rfl (qa rfl (Ac (Ab (Aa Ad rfl (qm rfl (qm rfl (qm rfl (qm rfl (EZ Bg rfl ?_)))))))))))
 obtain ⟨c1, h⟩ := AG h
 refine RA (.p rfl) rfl rfl Bg Cs rfl rfl rfl c1.1 c1.2.1 c1.2.2.1 c1.2.2.2.1 c1.2.2.2.2.1 (by rw [List.length_map]; exact c1.2.2.2.2.2) ?_
 refine Ac (Ab (Ab (Aa Ad rfl (qm rfl (qm rfl (BO rfl (Ac ?_)))))))
 refine Au rfl (fun c2 => ?_) (fun c2 => ?_)
 ·have h := Ap c2 h
  refine Ab (Aa Ad rfl (qm rfl (qa rfl (Ac ?_))))
  obtain rfl := sj h
  refine Am ((Qm Ar p0 6 90000 3 rfl rfl).trans (sm [] [(6, .e (.one (.view 90000 3 0 p0.length)))] [(90000, .vec 3 (p0.map Ar))] rfl rfl)) (AB ?_)
  exact ⟨⟨[_], ⟨.tmp _ _ rfl, trivial⟩, rfl⟩, ⟨rfl, trivial⟩, trivial⟩
 ·have h := Aq c2 h
  refine Av (Ab (Aa Ad rfl (qm rfl (EZ Bg rfl (qa rfl (Ac (Ab (Aa Ad rfl (qm rfl (qm rfl ?_))))))))))
  obtain ⟨c3, h⟩ := AG h
  have w4 : 0 + ((p1).toNat) ≤ p0.length := by have := c3.2.1; have := c3.2.2; omega
  refine Hp Ar p0 (.p rfl) rfl (Hf Ar _ _ p0) rfl Bg Cs (.none _) (.some _ _ _ _ c3.1) trivial ⟨rfl, trivial⟩ c3.2.1 (by rw [Nat.zero_add]; exact c3.2.2) (Nat.zero_add _) rfl ?_
  refine qm rfl (qm rfl ?_)
  obtain ⟨c5, h⟩ := AG h
  have w6 : ((p2).toNat) + ((p0.length - (p2).toNat)) ≤ p0.length := by have := c5.2.1; have := c5.2.2; omega
  refine Hp Ar p0 (.p rfl) rfl (Hf Ar _ _ p0) rfl Bg Cs (.some _ _ _ _ c5.1) (.none _) ⟨rfl, trivial⟩ trivial c5.2.1 (by rw [Nat.zero_add]; exact c5.2.2) (Nat.zero_add _) rfl ?_
  obtain ⟨c7, h⟩ := AG h
  have w9f : 0 + ((p1).toNat) + (((p0.drop ((p2).toNat)).take ((p0.length - (p2).toNat)))).length ≤ p0.length := by have := c7; omega
  have w8 : (F4 p0 (0 + ((p1).toNat)) (((p0.drop ((p2).toNat)).take ((p0.length - (p2).toNat))))).length = p0.length := FM w9f
  have w9 : 0 + ((p1).toNat + (((p0.drop ((p2).toNat)).take ((p0.length - (p2).toNat)))).length) ≤ (F4 p0 (0 + ((p1).toNat)) (((p0.drop ((p2).toNat)).take ((p0.length - (p2).toNat))))).length := by rw [w8]; have := c7; omega
  refine PO Ar p0 (((p0.drop ((p2).toNat)).take ((p0.length - (p2).toNat)))) (.p rfl) rfl (H1 Ar _ _ 0 ((p1).toNat) p0 w4) rfl rfl (MY Ar _ _ ((p2).toNat) ((p0.length - (p2).toNat)) p0 w6) ⟨rfl, trivial⟩ Bg Bg Cs w9f rfl ?_
  refine qa rfl (AX (by kernel_rfl) (Ab (Aa Ad rfl (qm rfl (qm rfl ?_)))))
  refine Sq (.p rfl) rfl Bg ?_
  refine qm rfl ?_
  obtain ⟨c10, h⟩ := AG h
  have w11 : (((((((p1).toNat + (((p0.drop ((p2).toNat)).take ((p0.length - (p2).toNat)))).length)) : Nat) : Int)).toNat) + ((((p0.length : Int)).toNat - ((((((p1).toNat + (((p0.drop ((p2).toNat)).take ((p0.length - (p2).toNat)))).length)) : Nat) : Int)).toNat)) ≤ (F4 p0 (0 + ((p1).toNat)) (((p0.drop ((p2).toNat)).take ((p0.length - (p2).toNat))))).length := by have := c10.2.2.1; have := c10.2.2.2; omega
  refine Hp Ar (F4 p0 (0 + ((p1).toNat)) (((p0.drop ((p2).toNat)).take ((p0.length - (p2).toNat))))) (.p rfl) rfl (H1 Ar _ _ 0 (((p1).toNat + (((p0.drop ((p2).toNat)).take ((p0.length - (p2).toNat)))).length)) (F4 p0 (0 + ((p1).toNat)) (((p0.drop ((p2).toNat)).take ((p0.length - (p2).toNat))))) w9) rfl Bg Cs (.some _ _ _ _ c10.1) (.some _ _ _ _ c10.2.1) ⟨rfl, trivial⟩ ⟨rfl, trivial⟩ c10.2.2.1 (by rw [Nat.zero_add]; exact c10.2.2.2) (Nat.zero_add _) rfl ?_
  have w12 : (F4 (F4 p0 (0 + ((p1).toNat)) (((p0.drop ((p2).toNat)).take ((p0.length - (p2).toNat))))) (((((((p1).toNat + (((p0.drop ((p2).toNat)).take ((p0.length - (p2).toNat)))).length)) : Nat) : Int)).toNat) (List.replicate ((((p0.length : Int)).toNat - ((((((p1).toNat + (((p0.drop ((p2).toNat)).take ((p0.length - (p2).toNat)))).length)) : Nat) : Int)).toNat)) ((Ag.mk 0 0 0)))).length = (F4 p0 (0 + ((p1).toNat)) (((p0.drop ((p2).toNat)).take ((p0.length - (p2).toNat))))).length := FM (by rw [List.length_replicate]; exact w11)
  refine OT Ar (F4 p0 (0 + ((p1).toNat)) (((p0.drop ((p2).toNat)).take ((p0.length - (p2).toNat))))) ((Ag.mk 0 0 0)) rfl rfl (H1 Ar _ _ (((((((p1).toNat + (((p0.drop ((p2).toNat)).take ((p0.length - (p2).toNat)))).length)) : Nat) : Int)).toNat) ((((p0.length : Int)).toNat - ((((((p1).toNat + (((p0.drop ((p2).toNat)).take ((p0.length - (p2).toNat)))).length)) : Nat) : Int)).toNat)) (F4 p0 (0 + ((p1).toNat)) (((p0.drop ((p2).toNat)).take ((p0.length - (p2).toNat))))) w11) rfl Bg Fi rfl rfl rfl rfl ?_
  refine Ac (Ab (Aa Ad rfl (qm rfl (qa rfl (Ac ?_)))))
  obtain rfl := sj h
  refine Am (sm [] [(6, .e (.one (.view 90000 3 0 (((p1).toNat + (((p0.drop ((p2).toNat)).take ((p0.length - (p2).toNat)))).length)))))] [(90000, .vec 3 ((F4 (F4 p0 (0 + ((p1).toNat)) (((p0.drop ((p2).toNat)).take ((p0.length - (p2).toNat))))) (((((((p1).toNat + (((p0.drop ((p2).toNat)).take ((p0.length - (p2).toNat)))).length)) : Nat) : Int)).toNat) (List.replicate ((((p0.length : Int)).toNat - ((((((p1).toNat + (((p0.drop ((p2).toNat)).take ((p0.length - (p2).toNat)))).length)) : Nat) : Int)).toNat)) ((Ag.mk 0 0 0)))).map Ar))] rfl rfl) (AB ?_)
  exact ⟨⟨[_], ⟨.tmp _ _ rfl, trivial⟩, rfl⟩, ⟨rfl, trivial⟩, trivial⟩
set_option maxRecDepth 10000 in
theorem O8 (N : Nat) (p0 : Ae) (p1 : List Ag) (r : (List Ag) × Int) (h : F2 N p0 p1 = some r) : AD Try.prog 31 [.e (.agg [.pure (.sl (p0.fVersions.map Af)), .pure (.sl (p0.fNow.map Af)), .pure (.sl (p0.fTarget.map Af)), .pure (.sl (p0.fTables.map Ak))]), .e (.one (.pure (.sl (p1.map Ar))))] [(3, r.1.map Ar)] (.tup [.one (.own 0), .one (.pure (.val (.int .i64 r.2)))]) := by
 unfold F2 at h
 refine As (n := 39) (rs := [.tmp 4, .tmp 5]) Try.func31 rfl rfl rfl (Bz rfl) (Bz rfl) rfl fun w0 S0 => ?_
 refine Ab (Aa Ad rfl (qb rfl (qa rfl (qa rfl (Ac (Ab (Ab (Aa Ad rfl (qL C5 CR rfl ?_)))))))))
 obtain ⟨v1, a1, h⟩ := bind_some h
 refine AI [] (EY N p0 v1 a1) TE rfl (qa rfl (Ac (Ab (Aa Ad rfl (qm rfl (B0 rfl (Ac ?_)))))))
 refine Au rfl (fun c2 => ?_) (fun c2 => ?_)
 ·have h := Ap c2 h
  refine Ab (Aa Ad rfl (qm rfl (qa rfl (qa rfl (Ac ?_)))))
  obtain rfl := sj h
  refine Am ((BR 4 2001 3 rfl rfl rfl).trans (sm [(1000, 2001)] [(4, .e (.one (.own 1000))), (5, .e (.one (.pure (.val (.int .i64 v1)))))] [(1000, .vec 3 ((([] : List Ag)).map Ar))] rfl rfl)) (AB ?_)
  exact ⟨⟨[_, _], ⟨.tmp _ _ rfl, ⟨.tmp _ _ rfl, trivial⟩⟩, rfl⟩, ⟨rfl, trivial⟩⟩
 ·have h := Aq c2 h
  refine Av (Ab (Ab (Aa Ad rfl (qL C5 CR rfl (qm rfl ?_)))))
  obtain ⟨v3, a3, h⟩ := bind_some h
  refine AI [] (F8 N p0 p1 v3 a3) Q6 rfl (Ch rfl (Ac ?_))
  refine Au rfl (fun c4 => ?_) (fun c4 => ?_)
  ·have h := Ap c4 h
   refine Ab (Aa Ad rfl (qa rfl (qa rfl (Ac ?_))))
   obtain rfl := sj h
   refine Am ((BR 4 2002 3 rfl rfl rfl).trans (sm [(1000, 2002)] [(4, .e (.one (.own 1000))), (5, .e (.one (.pure (.val (.int .i64 13)))))] [(1000, .vec 3 ((([] : List Ag)).map Ar))] rfl rfl)) (AB ?_)
   exact ⟨⟨[_, _], ⟨.tmp _ _ rfl, ⟨.tmp _ _ rfl, trivial⟩⟩, rfl⟩, ⟨rfl, trivial⟩⟩
  ·have h := Aq c4 h
   refine Av (Ab (Aa Ad rfl (qm rfl ?_)))
   obtain ⟨v5, a5, h⟩ := bind_some h
   refine AI [2003] (Eh N p1 v5 a5) Vv rfl (qa rfl (Ac (Ab (Ab (Aa Ad rfl (qm rfl (EZ Bg rfl (KA rfl (qa rfl (Ac ?_))))))))))
   refine AP (L := DO N p0) h (fun v6 => mk [(2, .e (.one (.ptr 2 0))), (7, .e (.one (.own 2004))), (8, .e (.one (.pure (.val (.int .i64 v6.2)))))] [(2, .box [.pure (.sl (p0.fVersions.map Af)), .pure (.sl (p0.fNow.map Af)), .pure (.sl (p0.fTarget.map Af)), .pure (.sl (p0.fTables.map Ak))]), (2004, .vec 3 (v6.1.map Ar))]) (fun v7 => mk [(7, .e (.one (.own 2005)))] [(2005, .vec 3 (v7.map Ar))]) (fun _ _ => rfl) (sm [(2004, 2003)] _ _ rfl rfl) (fun j6 n6 v6 h => ?_) (fun v7 s h hs => ?_)
   ·unfold DO at h
    refine Ab (Ab (Aa Ad rfl (qm rfl (DX rfl (Ac ?_)))))
    refine Au rfl (fun c8 => ?_) (fun c8 => ?_)
    ·have h := Ap c8 h
     refine Av ?_
     refine AR h (fun v9 => mk [(2, .e (.one (.ptr 2 0))), (7, .e (.one (.own 2006))), (8, .e (.one (.pure (.val (.int .i64 v6.2)))))] [(2, .box [.pure (.sl (p0.fVersions.map Af)), .pure (.sl (p0.fNow.map Af)), .pure (.sl (p0.fTarget.map Af)), .pure (.sl (p0.fTables.map Ak))]), (2006, .vec 3 (v9.map Ar))]) (fun j9 h => ?_) (fun v9 h => ?_)
     ·refine AW (Ab (Aa Ad rfl (qm rfl ?_)))
      obtain ⟨v10, a10, h⟩ := bind_some h
      refine D5 [2007] [2004] (Eh N v6.1 v10 a10) Vv (FP (fun _ => rfl) CN) rfl (qm rfl (qm rfl (Bm rfl ?_)))
      obtain ⟨v11, a11, h⟩ := bind_some h
      obtain ⟨c12, h⟩ := AG h
      have w13 : 0 + v11.1 ≤ v11.2.length := by rw [Nat.zero_add]; exact c12
      refine J5 (ds0 := [_, _, _]) [2007] [] [true] (FW N v10 v6.2 ((IntKind.wrap .i64 (v6.2 + 1))) v11 a11) (.p rfl) V0 rfl ⟨rfl, rfl, rfl, trivial⟩ rfl rfl (by decide) ⟨rfl, trivial⟩ rfl (GO rfl) trivial ⟨(fun h => by cases h), trivial⟩ rfl rfl rfl ?_
      refine Dg (Re Ar v11.2 33 2007 2008 3 v11.1 rfl rfl rfl rfl rfl c12) (qa rfl (Ac (Ab (Aa Ad rfl (qL C5 CR rfl (qm rfl ?_))))))
      obtain ⟨v14, a14, h⟩ := bind_some h
      refine D5 [] [2008] (F8 N p0 (v11.2.take v11.1) v14 a14) Q6 CN rfl (Ac ?_)
      refine Au rfl (fun c15 => ?_) (fun c15 => ?_)
      ·have h := Ap c15 h
       refine Aa Ad rfl (qm rfl (qa rfl (Ac ?_)))
       exact Ax _ h (sm [(2006, 2008)] _ _ rfl rfl)
      ·have h := Aq c15 h
       refine Av ?_
       exact Ax _ h (sm [(2006, 2004)] _ _ rfl rfl)
     ·refine Aa Ad rfl (qm rfl (KA rfl (qa rfl (Ac ?_))))
      exact Ax _ h (sm [(2004, 2006)] _ _ rfl rfl)
    ·have h := Aq c8 h
     refine A1 ?_
     exact Ax _ h (sm [(2005, 2004)] _ _ rfl rfl)
   ·refine Am hs (Ab (Aa Ad rfl (qm rfl (qa rfl (qa rfl (Ac ?_))))))
    obtain rfl := sj h
    refine Am (sm [(1000, 2005)] [(4, .e (.one (.own 1000))), (5, .e (.one (.pure (.val (.int .i64 0)))))] [(1000, .vec 3 (v7.map Ar))] rfl rfl) (AB ?_)
    exact ⟨⟨[_, _], ⟨.tmp _ _ rfl, ⟨.tmp _ _ rfl, trivial⟩⟩, rfl⟩, ⟨rfl, trivial⟩⟩
set_option maxRecDepth 10000 in
theorem GN (N : Nat) (p0 : List (List Bool)) (p1 : Int) (p2 : Int) (r : Bool) (h : CL N p0 p1 p2 = some r) : AD Try.prog 91 [.e (.one (.pure (.sl (p0.map (DY eB))))), .e (.one (.pure (.val (.int .i64 p1)))), .e (.one (.pure (.val (.int .i64 p2))))] [] (.e (.one (.pure (.val (.bool r))))) := by
 unfold CL at h
 refine As (n := 24) (rs := [.tmp 6]) Try.func91 rfl rfl rfl (Bz rfl) (Bz rfl) rfl fun w0 S0 => ?_
 refine Ab (Aa Ad rfl (qa rfl (Ac (Ab (Ab (Aa Ad rfl (qm rfl (AQ Ff rfl (qm rfl (B0 rfl (Ac ?_)))))))))))
 refine Au rfl (fun c1 => ?_) (fun c1 => ?_)
 ·have h := Ap c1 h
  refine Ab (Aa Ad rfl (qa rfl (Ac ?_)))
  obtain rfl := sj h
  refine Am (sm [] [(6, .e (.one (.pure (.val (.bool false)))))] [] rfl rfl) (AB ?_)
  exact ⟨⟨[_], ⟨.tmp _ _ rfl, trivial⟩, rfl⟩, trivial⟩
 ·have h := Aq c1 h
  refine Av (Ab (Ab (Aa Ad rfl (qa rfl (Ac ?_)))))
  refine AP (L := B4 N p0 p1 p2) h (fun v2 => mk [(0, .e (.one (.pure (.sl (p0.map (DY eB)))))), (1, .e (.one (.pure (.val (.int .i64 p1))))), (2, .e (.one (.pure (.val (.int .i64 p2))))), (7, .e (.one (.pure (.val (.int .i64 v2)))))] []) (fun v3 => mk [] []) (fun _ _ => rfl) (sm [] _ _ rfl rfl) (fun j2 n2 v2 h => ?_) (fun v3 s h hs => ?_)
  ·unfold B4 at h
   refine Ab (Ab (Aa Ad rfl (qm rfl (qm rfl (Bc rfl (Ac ?_))))))
   refine Au rfl (fun c4 => ?_) (fun c4 => ?_)
   ·have h := Ap c4 h
    refine Av (Ab (AW (Ab (Aa Ad rfl (qm rfl (qm rfl ?_))))))
    obtain ⟨v5, a5, b5, h⟩ := An h
    refine qi Ff Lz a5 (Al b5) rfl (qk Nz rfl (AQ Fx rfl (qm rfl (B0 rfl (Ac ?_)))))
    refine Au rfl (fun c6 => ?_) (fun c6 => ?_)
    ·have h := Ap c6 h
     refine Ab (Aa Ad rfl (qa rfl (Ac ?_)))
     obtain rfl := sj h
     refine Am (sm [] [(6, .e (.one (.pure (.val (.bool false)))))] [] rfl rfl) (AB ?_)
     exact ⟨⟨[_], ⟨.tmp _ _ rfl, trivial⟩, rfl⟩, trivial⟩
    ·have h := Aq c6 h
     refine Av (Aa Ad rfl (qm rfl (Bm rfl (qa rfl (Ac ?_)))))
     exact Ax _ h (sm [] _ _ rfl rfl)
   ·have h := Aq c4 h
    refine A1 ?_
    exact Ax _ h (sm [] _ _ rfl rfl)
  ·refine Am hs (Ab (Aa Ad rfl (qa rfl (Ac ?_))))
   obtain rfl := sj h
   refine Am (sm [] [(6, .e (.one (.pure (.val (.bool true)))))] [] rfl rfl) (AB ?_)
   exact ⟨⟨[_], ⟨.tmp _ _ rfl, trivial⟩, rfl⟩, trivial⟩
end Go.Lift

/- That the code does what the shallow programs do, function by function. Written by a program (gen.py). -/
namespace Go.Lift
open Go.RowKit
open Go.Proofs
set_option maxRecDepth 10000 in
theorem Js (N : Nat) (p0 : Ae) (p1 : AC) (r : Int) (h : DE N p0 p1 = some r) : AD Try.prog 64 [.e (.agg [.pure (.sl (p0.fVersions.map Af)), .pure (.sl (p0.fNow.map Af)), .pure (.sl (p0.fTarget.map Af)), .pure (.sl (p0.fTables.map Ak))]), .e (.agg [.pure (.val (.int .i64 p1.fKind)), .pure (.val (.int .i64 p1.fFrom)), .pure (.val (.int .i64 p1.fTo)), .pure (.val (.bool p1.fAware)), .pure (.sl (p1.fOK.map (DY eB))), .pure (.sl (p1.fRewrite.map (DY eB)))])] [] (.e (.one (.pure (.val (.int .i64 r))))) := by
 unfold DE at h
 refine As (n := 101) (rs := [.tmp 4]) Try.func64 rfl rfl rfl (Bz rfl) (Bz rfl) rfl fun w0 S0 => ?_
 refine Ab (Aa Ad rfl (qb rfl (qb rfl (qa rfl (Ac (Ab ?_))))))
 refine AR h (fun v1 => mk [(2, .e (.one (.ptr 2 0))), (3, .e (.one (.ptr 3 0))), (22, .e (.one (.pure (.val (.bool v1)))))] [(2, .box [.pure (.sl (p0.fVersions.map Af)), .pure (.sl (p0.fNow.map Af)), .pure (.sl (p0.fTarget.map Af)), .pure (.sl (p0.fTables.map Ak))]), (3, .box [.pure (.val (.int .i64 p1.fKind)), .pure (.val (.int .i64 p1.fFrom)), .pure (.val (.int .i64 p1.fTo)), .pure (.val (.bool p1.fAware)), .pure (.sl (p1.fOK.map (DY eB))), .pure (.sl (p1.fRewrite.map (DY eB)))])]) (fun j1 h => ?_) (fun v1 h => ?_)
 ·refine Aa Ad rfl (qf ER rfl (ql B1 rfl (Bc rfl (qm rfl ?_))))
  refine AF (t := 10) rfl (fun c2 => ?_) (fun c2 => ?_)
  ·have h := Ap c2 h
   refine qn rfl (qn rfl (qn rfl (qp rfl (qm rfl (qn rfl (qn rfl (qn rfl (qu rfl (qu rfl (qn rfl (qp rfl (Ac ?_))))))))))))
   exact Ax _ h (sm [] _ _ rfl rfl)
  ·have h := Aq c2 h
   refine qf ER rfl (ql B1 rfl (FY rfl (qp rfl (qm rfl ?_))))
   refine AF (t := 15) rfl (fun c3 => ?_) (fun c3 => ?_)
   ·have h := Ap c3 h
    refine qn rfl (qn rfl (qn rfl (qu rfl (qu rfl (qn rfl (qp rfl (Ac ?_)))))))
    exact Ax _ h (sm [] _ _ rfl rfl)
   ·have h := Aq c3 h
    refine qf HN rfl (ql P1 rfl (qm rfl ?_))
    refine AF (t := 18) rfl (fun c4 => ?_) (fun c4 => ?_)
    ·have h := Ap c4 h
     refine qL Gm Dt rfl ?_
     obtain ⟨v5, a5, h⟩ := bind_some h
     refine AI [] (BZ N p1 v5 a5) NB rfl (qp rfl (qp rfl (Ac ?_)))
     exact Ax _ h (sm [] _ _ rfl rfl)
    ·have h := Aq c4 h
     refine qn rfl (qn rfl (qp rfl (qp rfl (Ac ?_))))
     exact Ax _ h (sm [] _ _ rfl rfl)
 ·refine Au rfl (fun c6 => ?_) (fun c6 => ?_)
  ·have h := Ap c6 h
   refine Ab (Aa Ad rfl (qa rfl (Ac ?_)))
   obtain rfl := sj h
   refine Am (sm [] [(4, .e (.one (.pure (.val (.int .i64 1)))))] [] rfl rfl) (AB ?_)
   exact ⟨⟨[_], ⟨.tmp _ _ rfl, trivial⟩, rfl⟩, trivial⟩
  ·have h := Aq c6 h
   refine Av (Ab (Aa Ad rfl (qf Bk rfl (ql A0 rfl (AQ AE rfl (qa rfl (Ac (Ab ?_))))))))
   refine AR h (fun v7 => mk [(2, .e (.one (.ptr 2 0))), (3, .e (.one (.ptr 3 0))), (45, .e (.one (.pure (.val (.bool v7)))))] [(2, .box [.pure (.sl (p0.fVersions.map Af)), .pure (.sl (p0.fNow.map Af)), .pure (.sl (p0.fTarget.map Af)), .pure (.sl (p0.fTables.map Ak))]), (3, .box [.pure (.val (.int .i64 p1.fKind)), .pure (.val (.int .i64 p1.fFrom)), .pure (.val (.int .i64 p1.fTo)), .pure (.val (.bool p1.fAware)), .pure (.sl (p1.fOK.map (DY eB))), .pure (.sl (p1.fRewrite.map (DY eB)))])]) (fun j7 h => ?_) (fun v7 h => ?_)
   ·refine Aa Ad rfl (qf CF rfl (ql B1 rfl (Bc rfl (qm rfl ?_))))
    refine AF (t := 29) rfl (fun c8 => ?_) (fun c8 => ?_)
    ·have h := Ap c8 h
     refine qn rfl (qn rfl (qn rfl (qn rfl (qp rfl (qm rfl (qn rfl (qn rfl (qn rfl (qp rfl (qm rfl (qn rfl (qn rfl (qn rfl (qn rfl (qp rfl (Ac ?_))))))))))))))))
     exact Ax _ h (sm [] _ _ rfl rfl)
    ·have h := Aq c8 h
     refine qf CF rfl (ql B1 rfl (qm rfl (DX rfl (qp rfl (qm rfl ?_)))))
     refine AF (t := 35) rfl (fun c9 => ?_) (fun c9 => ?_)
     ·have h := Ap c9 h
      refine qn rfl (qn rfl (qn rfl (qp rfl (qm rfl (qn rfl (qn rfl (qn rfl (qn rfl (qp rfl (Ac ?_))))))))))
      exact Ax _ h (sm [] _ _ rfl rfl)
     ·have h := Aq c9 h
      refine qf GZ rfl (ql B1 rfl (Bc rfl (qp rfl (qm rfl ?_))))
      refine AF (t := 40) rfl (fun c10 => ?_) (fun c10 => ?_)
      ·have h := Ap c10 h
       refine qn rfl (qn rfl (qn rfl (qn rfl (qp rfl (Ac ?_)))))
       exact Ax _ h (sm [] _ _ rfl rfl)
      ·have h := Aq c10 h
       refine qf GZ rfl (ql B1 rfl (qm rfl (DX rfl (qp rfl (Ac ?_)))))
       exact Ax _ h (sm [] _ _ rfl rfl)
   ·refine Au rfl (fun c11 => ?_) (fun c11 => ?_)
    ·have h := Ap c11 h
     refine Ab (Aa Ad rfl (qa rfl (Ac ?_)))
     obtain rfl := sj h
     refine Am (sm [] [(4, .e (.one (.pure (.val (.int .i64 4)))))] [] rfl rfl) (AB ?_)
     exact ⟨⟨[_], ⟨.tmp _ _ rfl, trivial⟩, rfl⟩, trivial⟩
    ·have h := Aq c11 h
     refine Av (Ab (Ab (Aa Ad rfl (qf Il rfl (ql IL rfl (qf Bk rfl (ql A0 rfl (qf CF rfl (ql B1 rfl ?_)))))))))
     obtain ⟨v12, a12, b12, h⟩ := An h
     refine qi AE CS a12 (Al b12) rfl (qk B1 rfl (qf Bk rfl (ql A0 rfl (qf GZ rfl (ql B1 rfl ?_)))))
     obtain ⟨v13, a13, b13, h⟩ := An h
     refine qi AE CS a13 (Al b13) rfl (qk B1 rfl ?_)
     obtain ⟨v14, a14, h⟩ := bind_some h
     refine AI [] (GN N p1.fOK v12 v13 v14 a14) UO rfl (Ch rfl (AX (by kernel_rfl) ?_))
     refine Au rfl (fun c15 => ?_) (fun c15 => ?_)
     ·have h := Ap c15 h
      refine Ab (Aa Ad rfl (qa rfl (Ac ?_)))
      obtain rfl := sj h
      refine Am (sm [] [(4, .e (.one (.pure (.val (.int .i64 6)))))] [] rfl rfl) (AB ?_)
      exact ⟨⟨[_], ⟨.tmp _ _ rfl, trivial⟩, rfl⟩, trivial⟩
     ·have h := Aq c15 h
      refine Av (Ab (Ab (Aa Ad rfl (qf ER rfl (ql B1 rfl (B0 rfl (Ac ?_)))))))
      refine Au rfl (fun c16 => ?_) (fun c16 => ?_)
      ·have h := Ap c16 h
       refine Ab (Ab (Aa Ad rfl (qf FF rfl (ql IL rfl (AQ Ff rfl (B0 rfl (Ac ?_)))))))
       refine Au rfl (fun c17 => ?_) (fun c17 => ?_)
       ·have h := Ap c17 h
        refine Ab (Aa Ad rfl (qa rfl (Ac ?_)))
        obtain rfl := sj h
        refine Am (sm [] [(4, .e (.one (.pure (.val (.int .i64 6)))))] [] rfl rfl) (AB ?_)
        exact ⟨⟨[_], ⟨.tmp _ _ rfl, trivial⟩, rfl⟩, trivial⟩
       ·have h := Aq c17 h
        refine Av (Ab (Aa Ad rfl (qa rfl (Ac ?_))))
        obtain rfl := sj h
        refine Am (sm [] [(4, .e (.one (.pure (.val (.int .i64 0)))))] [] rfl rfl) (AB ?_)
        exact ⟨⟨[_], ⟨.tmp _ _ rfl, trivial⟩, rfl⟩, trivial⟩
      ·have h := Aq c16 h
       refine Av (Ab (Ab (Aa Ad rfl (qf FF rfl (ql IL rfl (qf Bk rfl (ql A0 rfl (qf CF rfl (ql B1 rfl ?_)))))))))
       obtain ⟨v18, a18, b18, h⟩ := An h
       refine qi AE CS a18 (Al b18) rfl (qk B1 rfl (qf Bk rfl (ql A0 rfl (qf CF rfl (ql B1 rfl ?_)))))
       obtain ⟨v19, a19, b19, h⟩ := An h
       refine qi AE CS a19 (Al b19) rfl (qk B1 rfl ?_)
       obtain ⟨v20, a20, h⟩ := bind_some h
       refine AI [] (GN N p1.fRewrite v18 v19 v20 a20) UO rfl (Ch rfl (AX (by kernel_rfl) ?_))
       refine Au rfl (fun c21 => ?_) (fun c21 => ?_)
       ·have h := Ap c21 h
        refine Ab (Aa Ad rfl (qa rfl (Ac ?_)))
        obtain rfl := sj h
        refine Am (sm [] [(4, .e (.one (.pure (.val (.int .i64 6)))))] [] rfl rfl) (AB ?_)
        exact ⟨⟨[_], ⟨.tmp _ _ rfl, trivial⟩, rfl⟩, trivial⟩
       ·have h := Aq c21 h
        refine Av (Ab (Ab (Aa Ad rfl (qa rfl (Ac ?_)))))
        refine AP (L := BE N p1) h (fun v22 => mk [(3, .e (.one (.ptr 3 0))), (6, .e (.one (.pure (.val (.int .i64 v22)))))] [(3, .box [.pure (.val (.int .i64 p1.fKind)), .pure (.val (.int .i64 p1.fFrom)), .pure (.val (.int .i64 p1.fTo)), .pure (.val (.bool p1.fAware)), .pure (.sl (p1.fOK.map (DY eB))), .pure (.sl (p1.fRewrite.map (DY eB)))])]) (fun v23 => mk [] []) (fun _ _ => rfl) (sm [] _ _ rfl rfl) (fun j22 n22 v22 h => ?_) (fun v23 s h hs => ?_)
        ·unfold BE at h
         refine Ab (Ab (Aa Ad rfl (qm rfl (qf FF rfl (ql IL rfl (AQ Ff rfl (Bc rfl (Ac ?_))))))))
         refine Au rfl (fun c24 => ?_) (fun c24 => ?_)
         ·have h := Ap c24 h
          refine Av (Ab (AW (Ab (Aa Ad rfl (qf FF rfl (ql IL rfl (qm rfl ?_)))))))
          obtain ⟨v25, a25, b25, h⟩ := An h
          refine qi Ff Lz a25 (Al b25) rfl (qk Nz rfl (qm rfl ?_))
          obtain ⟨v26, a26, b26, h⟩ := An h
          refine qi Fx OS a26 (Al b26) rfl (qk P1 rfl (Ch rfl (Ac ?_)))
          refine Au rfl (fun c27 => ?_) (fun c27 => ?_)
          ·have h := Ap c27 h
           refine Ab (Aa Ad rfl (qa rfl (Ac ?_)))
           obtain rfl := sj h
           refine Am (sm [] [(4, .e (.one (.pure (.val (.int .i64 1)))))] [] rfl rfl) (AB ?_)
           exact ⟨⟨[_], ⟨.tmp _ _ rfl, trivial⟩, rfl⟩, trivial⟩
          ·have h := Aq c27 h
           refine Av (Aa Ad rfl (qm rfl (Bm rfl (qa rfl (Ac ?_)))))
           exact Ax _ h (sm [] _ _ rfl rfl)
         ·have h := Aq c24 h
          refine A1 ?_
          exact Ax _ h (sm [] _ _ rfl rfl)
        ·refine Am hs (Ab (Aa Ad rfl (qa rfl (Ac ?_))))
         obtain rfl := sj h
         refine Am (sm [] [(4, .e (.one (.pure (.val (.int .i64 0)))))] [] rfl rfl) (AB ?_)
         exact ⟨⟨[_], ⟨.tmp _ _ rfl, trivial⟩, rfl⟩, trivial⟩
set_option maxRecDepth 10000 in
theorem D3 (N : Nat) (p0 : Ae) (r : Int) (h : BB N p0 = some r) : AD Try.prog 33 [.e (.agg [.pure (.sl (p0.fVersions.map Af)), .pure (.sl (p0.fNow.map Af)), .pure (.sl (p0.fTarget.map Af)), .pure (.sl (p0.fTables.map Ak))])] [] (.e (.one (.pure (.val (.int .i64 r))))) := by
 unfold BB at h
 refine As (n := 102) (rs := [.tmp 2]) Try.func33 rfl rfl rfl (Bz rfl) (Bz rfl) rfl fun w0 S0 => ?_
 refine Ab (Aa Ad rfl (qb rfl (qa rfl (Ac (Ab ?_)))))
 refine AR h (fun v1 => mk [(1, .e (.one (.ptr 1 0))), (16, .e (.one (.pure (.val (.bool v1)))))] [(1, .box [.pure (.sl (p0.fVersions.map Af)), .pure (.sl (p0.fNow.map Af)), .pure (.sl (p0.fTarget.map Af)), .pure (.sl (p0.fTables.map Ak))])]) (fun j1 h => ?_) (fun v1 h => ?_)
 ·refine Aa Ad rfl (qf Bk rfl (ql A0 rfl (AQ AE rfl (FY rfl (qm rfl ?_)))))
  refine AF (t := 11) rfl (fun c2 => ?_) (fun c2 => ?_)
  ·have h := Ap c2 h
   refine qn rfl (qn rfl (qn rfl (qn rfl (qp rfl (Ac ?_)))))
   exact Ax _ h (sm [] _ _ rfl rfl)
  ·have h := Aq c2 h
   refine qf Cl rfl (ql Gr rfl (AQ Dz rfl (FY rfl (qp rfl (Ac ?_)))))
   exact Ax _ h (sm [] _ _ rfl rfl)
 ·refine Au rfl (fun c3 => ?_) (fun c3 => ?_)
  ·have h := Ap c3 h
   refine Ab (Aa Ad rfl (qa rfl (Ac ?_)))
   obtain rfl := sj h
   refine Am (sm [] [(2, .e (.one (.pure (.val (.int .i64 3)))))] [] rfl rfl) (AB ?_)
   exact ⟨⟨[_], ⟨.tmp _ _ rfl, trivial⟩, rfl⟩, trivial⟩
  ·have h := Aq c3 h
   refine Av (Ab ?_)
   refine AR h (fun v4 => mk [(1, .e (.one (.ptr 1 0))), (32, .e (.one (.pure (.val (.bool v4)))))] [(1, .box [.pure (.sl (p0.fVersions.map Af)), .pure (.sl (p0.fNow.map Af)), .pure (.sl (p0.fTarget.map Af)), .pure (.sl (p0.fTables.map Ak))])]) (fun j4 h => ?_) (fun v4 h => ?_)
   ·refine Aa Ad rfl (qf FD rfl (ql A0 rfl (AQ AE rfl (qf Bk rfl (ql A0 rfl (AQ AE rfl (B0 rfl (qm rfl ?_))))))))
    refine AF (t := 24) rfl (fun c5 => ?_) (fun c5 => ?_)
    ·have h := Ap c5 h
     refine qn rfl (qn rfl (qn rfl (qn rfl (qn rfl (qn rfl (qn rfl (qp rfl (Ac ?_))))))))
     exact Ax _ h (sm [] _ _ rfl rfl)
    ·have h := Aq c5 h
     refine qf G6 rfl (ql A0 rfl (AQ AE rfl (qf Bk rfl (ql A0 rfl (AQ AE rfl (B0 rfl (qp rfl (Ac ?_))))))))
     exact Ax _ h (sm [] _ _ rfl rfl)
   ·refine Au rfl (fun c6 => ?_) (fun c6 => ?_)
    ·have h := Ap c6 h
     refine Ab (Aa Ad rfl (qa rfl (Ac ?_)))
     obtain rfl := sj h
     refine Am (sm [] [(2, .e (.one (.pure (.val (.int .i64 6)))))] [] rfl rfl) (AB ?_)
     exact ⟨⟨[_], ⟨.tmp _ _ rfl, trivial⟩, rfl⟩, trivial⟩
    ·have h := Aq c6 h
     refine Av (Ab (Ab (Aa Ad rfl (qa rfl (Ac ?_)))))
     refine AP (L := A9 N p0) h (fun v7 => mk [(1, .e (.one (.ptr 1 0))), (3, .e (.one (.pure (.val (.int .i64 v7)))))] [(1, .box [.pure (.sl (p0.fVersions.map Af)), .pure (.sl (p0.fNow.map Af)), .pure (.sl (p0.fTarget.map Af)), .pure (.sl (p0.fTables.map Ak))])]) (fun v8 => mk [(1, .e (.one (.ptr 1 0)))] [(1, .box [.pure (.sl (p0.fVersions.map Af)), .pure (.sl (p0.fNow.map Af)), .pure (.sl (p0.fTarget.map Af)), .pure (.sl (p0.fTables.map Ak))])]) (fun _ _ => rfl) (sm [] _ _ rfl rfl) (fun j7 n7 v7 h => ?_) (fun v8 s h hs => ?_)
     ·unfold A9 at h
      refine Ab (Ab (Aa Ad rfl (qm rfl (qf Bk rfl (ql A0 rfl (AQ AE rfl (Bc rfl (Ac ?_))))))))
      refine Au rfl (fun c9 => ?_) (fun c9 => ?_)
      ·have h := Ap c9 h
       refine Av (Ab (AW (Ab (Aa Ad rfl (qf Bk rfl (ql A0 rfl (qm rfl ?_)))))))
       obtain ⟨v10, a10, b10, h⟩ := An h
       refine qi AE CS a10 (Al b10) rfl (qk B1 rfl (qa rfl (Ac ?_)))
       refine AR h (fun v11 => mk [(1, .e (.one (.ptr 1 0))), (3, .e (.one (.pure (.val (.int .i64 v7))))), (84, .e (.one (.pure (.val (.bool v11)))))] [(1, .box [.pure (.sl (p0.fVersions.map Af)), .pure (.sl (p0.fNow.map Af)), .pure (.sl (p0.fTarget.map Af)), .pure (.sl (p0.fTables.map Ak))])]) (fun j11 h => ?_) (fun v11 h => ?_)
       ·refine Aa Ad rfl (qm rfl (Bc rfl (qm rfl ?_)))
        refine AF (t := 47) rfl (fun c12 => ?_) (fun c12 => ?_)
        ·have h := Ap c12 h
         refine qn rfl (qn rfl (qp rfl (qm rfl (qn rfl (qn rfl (qn rfl (qn rfl (qn rfl (qn rfl (qp rfl (qm rfl (qn rfl (qn rfl (qn rfl (qn rfl (qn rfl (qn rfl (qn rfl (qp rfl (qm rfl (qn rfl (qn rfl (qn rfl (qn rfl (qn rfl (qn rfl (qp rfl (qm rfl (qn rfl (qn rfl (qn rfl (qn rfl (qn rfl (qn rfl (qn rfl (qp rfl (Ac ?_)))))))))))))))))))))))))))))))))))))
         exact Ax _ h (sm [] _ _ rfl rfl)
        ·have h := Aq c12 h
         refine qm rfl (FY rfl (qp rfl (qm rfl ?_)))
         refine AF (t := 51) rfl (fun c13 => ?_) (fun c13 => ?_)
         ·have h := Ap c13 h
          refine qn rfl (qn rfl (qn rfl (qn rfl (qn rfl (qn rfl (qp rfl (qm rfl (qn rfl (qn rfl (qn rfl (qn rfl (qn rfl (qn rfl (qn rfl (qp rfl (qm rfl (qn rfl (qn rfl (qn rfl (qn rfl (qn rfl (qn rfl (qp rfl (qm rfl (qn rfl (qn rfl (qn rfl (qn rfl (qn rfl (qn rfl (qn rfl (qp rfl (Ac ?_)))))))))))))))))))))))))))))))))
          exact Ax _ h (sm [] _ _ rfl rfl)
         ·have h := Aq c13 h
          refine qf FD rfl (ql A0 rfl (qm rfl ?_))
          obtain ⟨v14, a14, b14, h⟩ := An h
          refine qi AE CS a14 (Al b14) rfl (qk B1 rfl (Bc rfl (qp rfl (qm rfl ?_))))
          refine AF (t := 59) rfl (fun c15 => ?_) (fun c15 => ?_)
          ·have h := Ap c15 h
           refine qn rfl (qn rfl (qn rfl (qn rfl (qn rfl (qn rfl (qn rfl (qp rfl (qm rfl (qn rfl (qn rfl (qn rfl (qn rfl (qn rfl (qn rfl (qp rfl (qm rfl (qn rfl (qn rfl (qn rfl (qn rfl (qn rfl (qn rfl (qn rfl (qp rfl (Ac ?_)))))))))))))))))))))))))
           exact Ax _ h (sm [] _ _ rfl rfl)
          ·have h := Aq c15 h
           refine qf FD rfl (ql A0 rfl (qm rfl ?_))
           obtain ⟨v16, a16, b16, h⟩ := An h
           refine qi AE CS a16 (Al b16) rfl (qk B1 rfl (qm rfl (DX rfl (qp rfl (qm rfl ?_)))))
           refine AF (t := 68) rfl (fun c17 => ?_) (fun c17 => ?_)
           ·have h := Ap c17 h
            refine qn rfl (qn rfl (qn rfl (qn rfl (qn rfl (qn rfl (qp rfl (qm rfl (qn rfl (qn rfl (qn rfl (qn rfl (qn rfl (qn rfl (qn rfl (qp rfl (Ac ?_))))))))))))))))
            exact Ax _ h (sm [] _ _ rfl rfl)
           ·have h := Aq c17 h
            refine qf G6 rfl (ql A0 rfl (qm rfl ?_))
            obtain ⟨v18, a18, b18, h⟩ := An h
            refine qi AE CS a18 (Al b18) rfl (qk B1 rfl (Bc rfl (qp rfl (qm rfl ?_))))
            refine AF (t := 76) rfl (fun c19 => ?_) (fun c19 => ?_)
            ·have h := Ap c19 h
             refine qn rfl (qn rfl (qn rfl (qn rfl (qn rfl (qn rfl (qn rfl (qp rfl (Ac ?_))))))))
             exact Ax _ h (sm [] _ _ rfl rfl)
            ·have h := Aq c19 h
             refine qf G6 rfl (ql A0 rfl (qm rfl ?_))
             obtain ⟨v20, a20, b20, h⟩ := An h
             refine qi AE CS a20 (Al b20) rfl (qk B1 rfl (qm rfl (DX rfl (qp rfl (Ac ?_)))))
             exact Ax _ h (sm [] _ _ rfl rfl)
       ·refine Au rfl (fun c21 => ?_) (fun c21 => ?_)
        ·have h := Ap c21 h
         refine Ab (Aa Ad rfl (qa rfl (Ac ?_)))
         obtain rfl := sj h
         refine Am (sm [] [(2, .e (.one (.pure (.val (.int .i64 7)))))] [] rfl rfl) (AB ?_)
         exact ⟨⟨[_], ⟨.tmp _ _ rfl, trivial⟩, rfl⟩, trivial⟩
        ·have h := Aq c21 h
         refine Av (Aa Ad rfl (qm rfl (Bm rfl (qa rfl (Ac ?_)))))
         exact Ax _ h (sm [] _ _ rfl rfl)
      ·have h := Aq c9 h
       refine A1 ?_
       exact Ax _ h (sm [] _ _ rfl rfl)
     ·refine Am hs (Ab (Ab (Aa Ad rfl (qa rfl (Ac ?_)))))
      refine AP (L := A2 N p0) h (fun v22 => mk [(1, .e (.one (.ptr 1 0))), (5, .e (.one (.pure (.val (.int .i64 v22)))))] [(1, .box [.pure (.sl (p0.fVersions.map Af)), .pure (.sl (p0.fNow.map Af)), .pure (.sl (p0.fTarget.map Af)), .pure (.sl (p0.fTables.map Ak))])]) (fun v23 => mk [] []) (fun _ _ => rfl) (sm [] _ _ rfl rfl) (fun j22 n22 v22 h => ?_) (fun v23 s h hs => ?_)
      ·unfold A2 at h
       refine Ab (Ab (Aa Ad rfl (qm rfl (qf Cl rfl (ql Gr rfl (AQ Dz rfl (Bc rfl (Ac ?_))))))))
       refine Au rfl (fun c24 => ?_) (fun c24 => ?_)
       ·have h := Ap c24 h
        refine Av (Ab (AW (Ab (Aa Ad rfl (qL C5 CR rfl (qf Cl rfl (ql Gr rfl (qm rfl ?_))))))))
        obtain ⟨v25, a25, b25, h⟩ := An h
        refine qi Dz Dt a25 (Al b25) rfl (qK Gm Dt rfl ?_)
        obtain ⟨v26, a26, h⟩ := bind_some h
        refine AI [] (Js N p0 v25 v26 a26) VR rfl (qa rfl (AX (by kernel_rfl) (Ab (Aa Ad rfl (qm rfl (B0 rfl (Ac ?_)))))))
        refine Au rfl (fun c27 => ?_) (fun c27 => ?_)
        ·have h := Ap c27 h
         refine Ab (Aa Ad rfl (qm rfl (qa rfl (Ac ?_))))
         obtain rfl := sj h
         refine Am (sm [] [(2, .e (.one (.pure (.val (.int .i64 v26)))))] [] rfl rfl) (AB ?_)
         exact ⟨⟨[_], ⟨.tmp _ _ rfl, trivial⟩, rfl⟩, trivial⟩
        ·have h := Aq c27 h
         refine Av (Aa Ad rfl (qm rfl (Bm rfl (qa rfl (Ac ?_)))))
         exact Ax _ h (sm [] _ _ rfl rfl)
       ·have h := Aq c24 h
        refine A1 ?_
        exact Ax _ h (sm [] _ _ rfl rfl)
      ·refine Am hs (Ab (Aa Ad rfl (qa rfl (Ac ?_))))
       obtain rfl := sj h
       refine Am (sm [] [(2, .e (.one (.pure (.val (.int .i64 0)))))] [] rfl rfl) (AB ?_)
       exact ⟨⟨[_], ⟨.tmp _ _ rfl, trivial⟩, rfl⟩, trivial⟩
set_option maxRecDepth 10000 in
theorem Ju (N : Nat) (p0 : Ae) (r : Ah × Int) (h : DB N p0 = some r) : AD Try.prog 29 [.e (.agg [.pure (.sl (p0.fVersions.map Af)), .pure (.sl (p0.fNow.map Af)), .pure (.sl (p0.fTarget.map Af)), .pure (.sl (p0.fTables.map Ak))])] [(1, r.1.fBase.map Af), (1, r.1.fNext.map Af), (1, r.1.fHeld.map A3)] (.tup [.agg [.own 0, .own 1, .own 2], .one (.pure (.val (.int .i64 r.2)))]) := by
 unfold DB at h
 refine As (n := 68) (rs := [.cell 2 43, .tmp 3]) Try.func29 rfl rfl rfl (Bz rfl) (Bz rfl) rfl fun w0 S0 => ?_
 refine Ab (Aa Ad rfl (qb rfl (qz Co rfl (qa rfl (Ac (Ab (Ab (Aa Ad rfl (qL C5 CR rfl ?_)))))))))
 obtain ⟨v1, a1, h⟩ := bind_some h
 refine AI [] (D3 N p0 v1 a1) TM rfl (qa rfl (Ac (Ab (Aa Ad rfl (qm rfl (B0 rfl (Ac ?_)))))))
 refine Au rfl (fun c2 => ?_) (fun c2 => ?_)
 ·have h := Ap c2 h
  refine Ab (Aa Ad rfl (AV Co Fa rfl (qm rfl (qs AO rfl (qa rfl (Ac ?_))))))
  obtain rfl := sj h
  refine Am ((AA 2 0 2001 1 _ rfl rfl rfl rfl).trans ((AA 2 1 2002 1 _ rfl rfl rfl rfl).trans ((AA 2 2 2003 1 _ rfl rfl rfl rfl).trans (sm [(1000, 2001), (1001, 2002), (1002, 2003)] [(2, .e (.one (.ptr 2 0))), (3, .e (.one (.pure (.val (.int .i64 v1)))))] [(2, .box [.own 1000, .own 1001, .own 1002]), (1000, .vec 1 ((([] : List Int)).map Af)), (1001, .vec 1 ((([] : List Int)).map Af)), (1002, .vec 1 ((([] : List Int)).map A3))] rfl rfl)))) (AB ?_)
  exact ⟨⟨[_, _], ⟨.cellN _ _ _ _ _ _ _ rfl rfl Bl AO rfl rfl (Fp rfl), ⟨.tmp _ _ rfl, trivial⟩⟩, rfl⟩, ⟨rfl, rfl, rfl, trivial⟩⟩
 ·have h := Aq c2 h
  refine Av (Ab (Aa Ad rfl (qz Co rfl (Ac (Ab (Ab (Aa Ad rfl (qa rfl (Ac ?_)))))))))
  refine AP (L := BP N p0) h (fun v3 => mk [(1, .e (.one (.ptr 1 0))), (2, .e (.one (.ptr 2 0))), (5, .e (.one (.ptr 5 0))), (6, .e (.one (.pure (.val (.int .i64 v3.2.2)))))] [(1, .box [.pure (.sl (p0.fVersions.map Af)), .pure (.sl (p0.fNow.map Af)), .pure (.sl (p0.fTarget.map Af)), .pure (.sl (p0.fTables.map Ak))]), (2, .box [.pure (.nil0), .pure (.nil0), .pure (.nil0)]), (5, .box [.own 2004, .own 2005, .pure (.nil0)]), (2004, .vec 1 (v3.1.map Af)), (2005, .vec 1 (v3.2.1.map Af))]) (fun v4 => mk [(1, .e (.one (.ptr 1 0))), (2, .e (.one (.ptr 2 0))), (5, .e (.one (.ptr 5 0)))] [(1, .box [.pure (.sl (p0.fVersions.map Af)), .pure (.sl (p0.fNow.map Af)), .pure (.sl (p0.fTarget.map Af)), .pure (.sl (p0.fTables.map Ak))]), (2, .box [.pure (.nil0), .pure (.nil0), .pure (.nil0)]), (5, .box [.own 2006, .own 2007, .pure (.nil0)]), (2006, .vec 1 (v4.1.map Af)), (2007, .vec 1 (v4.2.map Af))]) (fun _ _ => rfl) ((AA 5 0 2008 1 _ rfl rfl rfl rfl).trans ((AA 5 1 2009 1 _ rfl rfl rfl rfl).trans (sm [(2004, 2008), (2005, 2009)] _ _ rfl rfl))) (fun j3 n3 v3 h => ?_) (fun v4 s h hs => ?_)
  ·unfold BP at h
   refine Ab (Ab (Aa Ad rfl (qm rfl (qf Bk rfl (ql A0 rfl (AQ AE rfl (Bc rfl (Ac ?_))))))))
   refine Au rfl (fun c5 => ?_) (fun c5 => ?_)
   ·have h := Ap c5 h
    refine Av (Ab (AW (Ab (Aa Ad rfl (qf Cp rfl (ql A0 rfl (qf FD rfl (ql A0 rfl (qm rfl ?_)))))))))
    obtain ⟨v6, a6, b6, h⟩ := An h
    refine qi AE CS a6 (Al b6) rfl (qk B1 rfl (D2 AE CS J4 rfl ?_))
    obtain ⟨c7, h⟩ := AG h
    refine DM (f := Af) AE AE CS K2 J4 c7 rfl (qf Cp rfl (qs QN rfl (AX (by kernel_rfl) (Aa Ad rfl (qf Bu rfl (ql A0 rfl (D2 AE CS J4 rfl ?_)))))))
    obtain ⟨c8, h⟩ := AG h
    refine DM (f := Af) AE AE CS K2 J4 c8 rfl (qf Bu rfl (qs QN rfl (Ac (Aa Ad rfl (qm rfl (Bm rfl (qa rfl (Ac ?_))))))))
    exact Ax _ h (sm [(2004, 30), (2005, 35)] _ _ rfl rfl)
   ·have h := Aq c5 h
    refine A1 ?_
    exact Ax _ h (sm [(2006, 2004), (2007, 2005)] _ _ rfl rfl)
  ·refine Am hs (Ab (Ab (Aa Ad rfl (qa rfl (Ac ?_)))))
   refine AP (L := Ba N p0) h (fun v9 => mk [(1, .e (.one (.ptr 1 0))), (2, .e (.one (.ptr 2 0))), (5, .e (.one (.ptr 5 0))), (7, .e (.one (.pure (.val (.int .i64 v9.2)))))] [(1, .box [.pure (.sl (p0.fVersions.map Af)), .pure (.sl (p0.fNow.map Af)), .pure (.sl (p0.fTarget.map Af)), .pure (.sl (p0.fTables.map Ak))]), (2, .box [.pure (.nil0), .pure (.nil0), .pure (.nil0)]), (5, .box [.own 2010, .own 2011, .own 2012]), (2010, .vec 1 (v4.1.map Af)), (2011, .vec 1 (v4.2.map Af)), (2012, .vec 1 (v9.1.map A3))]) (fun v10 => mk [(2, .e (.one (.ptr 2 0))), (5, .e (.one (.ptr 5 0)))] [(2, .box [.pure (.nil0), .pure (.nil0), .pure (.nil0)]), (5, .box [.own 2013, .own 2014, .own 2015]), (2013, .vec 1 (v4.1.map Af)), (2014, .vec 1 (v4.2.map Af)), (2015, .vec 1 (v10.map A3))]) (fun _ _ => rfl) ((AA 5 2 2019 1 _ rfl rfl rfl rfl).trans (sm [(2010, 2006), (2011, 2007), (2012, 2019)] _ _ rfl rfl)) (fun j9 n9 v9 h => ?_) (fun v10 s h hs => ?_)
   ·unfold Ba at h
    refine Ab (Ab (Aa Ad rfl (qm rfl (qf Cl rfl (ql Gr rfl (AQ Dz rfl (Bc rfl (Ac ?_))))))))
    refine Au rfl (fun c11 => ?_) (fun c11 => ?_)
    ·have h := Ap c11 h
     refine Av (Ab (AW (Ab (Aa Ad rfl (qa rfl (Ac ?_))))))
     refine AR h (fun v12 => mk [(1, .e (.one (.ptr 1 0))), (2, .e (.one (.ptr 2 0))), (5, .e (.one (.ptr 5 0))), (7, .e (.one (.pure (.val (.int .i64 v9.2))))), (8, .e (.one (.pure (.val (.int .u8 v12)))))] [(1, .box [.pure (.sl (p0.fVersions.map Af)), .pure (.sl (p0.fNow.map Af)), .pure (.sl (p0.fTarget.map Af)), .pure (.sl (p0.fTables.map Ak))]), (2, .box [.pure (.nil0), .pure (.nil0), .pure (.nil0)]), (5, .box [.own 2016, .own 2017, .own 2018]), (2016, .vec 1 (v4.1.map Af)), (2017, .vec 1 (v4.2.map Af)), (2018, .vec 1 (v9.1.map A3))]) (fun j12 h => ?_) (fun v12 h => ?_)
     ·refine Ab (Aa Ad rfl (qf Cl rfl (ql Gr rfl (qm rfl ?_))))
      obtain ⟨v13, a13, b13, h⟩ := An h
      refine qi Dz Dt a13 (Al b13) rfl (qK Gm Dt rfl ?_)
      obtain ⟨v14, a14, h⟩ := bind_some h
      refine AI [] (BZ N v13 v14 a14) NB rfl (Ac ?_)
      refine Au rfl (fun c15 => ?_) (fun c15 => ?_)
      ·have h := Ap c15 h
       refine Aa Ad rfl (qf FD rfl (ql A0 rfl (qf Cl rfl (ql Gr rfl (qm rfl ?_)))))
       obtain ⟨v16, a16, b16, h⟩ := An h
       refine qi Dz Dt a16 (Al b16) rfl (qg CF rfl (qk B1 rfl ?_))
       obtain ⟨v17, a17, b17, h⟩ := An h
       refine qi AE CS a17 (Al b17) rfl (qk B1 rfl ?_)
       obtain ⟨c18, h⟩ := AG h
       refine HD rfl c18 (qa rfl (AX (by kernel_rfl) ?_))
       exact Ax _ h (sm [(2016, 2010), (2017, 2011), (2018, 2012)] _ _ rfl rfl)
      ·have h := Aq c15 h
       refine Av ?_
       exact Ax _ h (sm [(2016, 2010), (2017, 2011), (2018, 2012)] _ _ rfl rfl)
     ·refine Aa Ad rfl (qf Cn rfl (ql Gq rfl (qm rfl (D2 C8 E5 NF rfl ?_))))
      obtain ⟨c19, h⟩ := AG h
      refine DM (f := A3) C8 C8 E5 Po NF c19 rfl (qf Cn rfl (qs VT rfl (Ac (Aa Ad rfl (qm rfl (Bm rfl (qa rfl (Ac ?_))))))))
      exact Ax _ h (sm [(2010, 2016), (2011, 2017), (2012, 65)] _ _ rfl rfl)
    ·have h := Aq c11 h
     refine A1 ?_
     exact Ax _ h (sm [(2013, 2010), (2014, 2011), (2015, 2012)] _ _ rfl rfl)
   ·refine Am hs (Ab (Aa Ad rfl (qL Bl AO rfl (qs AO rfl (qa rfl (Ac ?_))))))
    obtain rfl := sj h
    refine Am (sm [(1000, 2013), (1001, 2014), (1002, 2015)] [(2, .e (.one (.ptr 2 0))), (3, .e (.one (.pure (.val (.int .i64 0)))))] [(2, .box [.own 1000, .own 1001, .own 1002]), (1000, .vec 1 (v4.1.map Af)), (1001, .vec 1 (v4.2.map Af)), (1002, .vec 1 (v10.map A3))] rfl rfl) (AB ?_)
    exact ⟨⟨[_, _], ⟨.cellN _ _ _ _ _ _ _ rfl rfl Bl AO rfl rfl (Fp rfl), ⟨.tmp _ _ rfl, trivial⟩⟩, rfl⟩, ⟨rfl, rfl, rfl, trivial⟩⟩
set_option maxRecDepth 10000 in
theorem Dp (N : Nat) (p0 : Ah) (p1 : Int) (r : Int) (h : BA N p0 p1 = some r) : AD Try.prog 49 [.e (.agg [.pure (.sl (p0.fBase.map Af)), .pure (.sl (p0.fNext.map Af)), .pure (.sl (p0.fHeld.map A3))]), .e (.one (.pure (.val (.int .i64 p1))))] [] (.e (.one (.pure (.val (.int .u8 r))))) := by
 unfold BA at h
 refine As (n := 27) (rs := [.tmp 4]) Try.func49 rfl rfl rfl (Bz rfl) (Bz rfl) rfl fun w0 S0 => ?_
 refine Ab (Aa Ad rfl (qb rfl (qa rfl (Ac (Ab (Aa Ad rfl (qf Cp rfl (ql A0 rfl (qm rfl ?_)))))))))
 obtain ⟨v1, a1, b1, h⟩ := An h
 refine qi AE CS a1 (Al b1) rfl (qk B1 rfl ?_)
 obtain ⟨c2, h⟩ := AG h
 refine HD rfl c2 (qa rfl (Ac ?_))
 refine AR h (fun v3 => mk [(5, .e (.one (.pure (.val (.int .u8 v3)))))] []) (fun j3 h => ?_) (fun v3 h => ?_)
 ·refine Ab (Aa Ad rfl (qf Bu rfl (ql A0 rfl (qm rfl ?_))))
  obtain ⟨v4, a4, b4, h⟩ := An h
  refine qi AE CS a4 (Al b4) rfl (qk B1 rfl (DX rfl (Ac ?_)))
  refine Au rfl (fun c5 => ?_) (fun c5 => ?_)
  ·have h := Ap c5 h
   refine Aa Ad rfl (qm rfl (qf Bu rfl (ql A0 rfl (qm rfl ?_))))
   obtain ⟨v6, a6, b6, h⟩ := An h
   refine qi AE CS a6 (Al b6) rfl (qk B1 rfl ?_)
   obtain ⟨c7, h⟩ := AG h
   refine HD rfl c7 (RY rfl (qa rfl (Ac ?_)))
   exact Ax _ h (sm [] _ _ rfl rfl)
  ·have h := Aq c5 h
   refine Av ?_
   exact Ax _ h (sm [] _ _ rfl rfl)
 ·refine Ab (Aa Ad rfl (qm rfl (qa rfl (Ac ?_))))
  obtain rfl := sj h
  refine Am (sm [] [(4, .e (.one (.pure (.val (.int .u8 v3)))))] [] rfl rfl) (AB ?_)
  exact ⟨⟨[_], ⟨.tmp _ _ rfl, trivial⟩, rfl⟩, trivial⟩
set_option maxRecDepth 10000 in
theorem Fn (N : Nat) (p0 : Ae) (p1 : Ah) (r : Int) (h : Cy N p0 p1 = some r) : AD Try.prog 24 [.e (.agg [.pure (.sl (p0.fVersions.map Af)), .pure (.sl (p0.fNow.map Af)), .pure (.sl (p0.fTarget.map Af)), .pure (.sl (p0.fTables.map Ak))]), .e (.agg [.pure (.sl (p1.fBase.map Af)), .pure (.sl (p1.fNext.map Af)), .pure (.sl (p1.fHeld.map A3))])] [] (.e (.one (.pure (.val (.int .i64 r))))) := by
 unfold Cy at h
 refine As (n := 154) (rs := [.tmp 4]) Try.func24 rfl rfl rfl (Bz rfl) (Bz rfl) rfl fun w0 S0 => ?_
 refine Ab (Aa Ad rfl (qb rfl (qb rfl (qa rfl (Ac (Ab (Ab (Aa Ad rfl (qL C5 CR rfl ?_)))))))))
 obtain ⟨v1, a1, h⟩ := bind_some h
 refine AI [] (D3 N p0 v1 a1) TM rfl (qa rfl (Ac (Ab (Aa Ad rfl (qm rfl (B0 rfl (Ac ?_)))))))
 refine Au rfl (fun c2 => ?_) (fun c2 => ?_)
 ·have h := Ap c2 h
  refine Ab (Aa Ad rfl (qm rfl (qa rfl (Ac ?_))))
  obtain rfl := sj h
  refine Am (sm [] [(4, .e (.one (.pure (.val (.int .i64 v1)))))] [] rfl rfl) (AB ?_)
  exact ⟨⟨[_], ⟨.tmp _ _ rfl, trivial⟩, rfl⟩, trivial⟩
 ·have h := Aq c2 h
  refine Av (Ab (Aa Ad rfl (qf Bk rfl (ql A0 rfl (AQ AE rfl (qa rfl (Ac (Ab ?_))))))))
  refine AR h (fun v3 => mk [(2, .e (.one (.ptr 2 0))), (3, .e (.one (.ptr 3 0))), (6, .e (.one (.pure (.val (.int .i64 ((p0.fVersions.length : Int))))))), (39, .e (.one (.pure (.val (.bool v3)))))] [(2, .box [.pure (.sl (p0.fVersions.map Af)), .pure (.sl (p0.fNow.map Af)), .pure (.sl (p0.fTarget.map Af)), .pure (.sl (p0.fTables.map Ak))]), (3, .box [.pure (.sl (p1.fBase.map Af)), .pure (.sl (p1.fNext.map Af)), .pure (.sl (p1.fHeld.map A3))])]) (fun j3 h => ?_) (fun v3 h => ?_)
  ·refine Aa Ad rfl (qf Cp rfl (ql A0 rfl (AQ AE rfl (qm rfl (B0 rfl (qm rfl ?_))))))
   refine AF (t := 24) rfl (fun c4 => ?_) (fun c4 => ?_)
   ·have h := Ap c4 h
    refine qn rfl (qn rfl (qn rfl (qn rfl (qn rfl (qp rfl (qm rfl (qn rfl (qn rfl (qn rfl (qn rfl (qn rfl (qn rfl (qn rfl (qp rfl (Ac ?_)))))))))))))))
    exact Ax _ h (sm [] _ _ rfl rfl)
   ·have h := Aq c4 h
    refine qf Bu rfl (ql A0 rfl (AQ AE rfl (qm rfl (B0 rfl (qp rfl (qm rfl ?_))))))
    refine AF (t := 31) rfl (fun c5 => ?_) (fun c5 => ?_)
    ·have h := Ap c5 h
     refine qn rfl (qn rfl (qn rfl (qn rfl (qn rfl (qn rfl (qn rfl (qp rfl (Ac ?_))))))))
     exact Ax _ h (sm [] _ _ rfl rfl)
    ·have h := Aq c5 h
     refine qf Cn rfl (ql Gq rfl (AQ C8 rfl (qf Cl rfl (ql Gr rfl (AQ Dz rfl (B0 rfl (qp rfl (Ac ?_))))))))
     exact Ax _ h (sm [] _ _ rfl rfl)
  ·refine Au rfl (fun c6 => ?_) (fun c6 => ?_)
   ·have h := Ap c6 h
    refine Ab (Aa Ad rfl (qa rfl (Ac ?_)))
    obtain rfl := sj h
    refine Am (sm [] [(4, .e (.one (.pure (.val (.int .i64 6)))))] [] rfl rfl) (AB ?_)
    exact ⟨⟨[_], ⟨.tmp _ _ rfl, trivial⟩, rfl⟩, trivial⟩
   ·have h := Aq c6 h
    refine Av (Ab (Ab (Aa Ad rfl (qa rfl (Ac ?_)))))
    refine AP (L := BQ N p0 p1) h (fun v7 => mk [(2, .e (.one (.ptr 2 0))), (3, .e (.one (.ptr 3 0))), (6, .e (.one (.pure (.val (.int .i64 ((p0.fVersions.length : Int))))))), (7, .e (.one (.pure (.val (.int .i64 v7)))))] [(2, .box [.pure (.sl (p0.fVersions.map Af)), .pure (.sl (p0.fNow.map Af)), .pure (.sl (p0.fTarget.map Af)), .pure (.sl (p0.fTables.map Ak))]), (3, .box [.pure (.sl (p1.fBase.map Af)), .pure (.sl (p1.fNext.map Af)), .pure (.sl (p1.fHeld.map A3))])]) (fun v8 => mk [(2, .e (.one (.ptr 2 0))), (3, .e (.one (.ptr 3 0)))] [(2, .box [.pure (.sl (p0.fVersions.map Af)), .pure (.sl (p0.fNow.map Af)), .pure (.sl (p0.fTarget.map Af)), .pure (.sl (p0.fTables.map Ak))]), (3, .box [.pure (.sl (p1.fBase.map Af)), .pure (.sl (p1.fNext.map Af)), .pure (.sl (p1.fHeld.map A3))])]) (fun _ _ => rfl) (sm [] _ _ rfl rfl) (fun j7 n7 v7 h => ?_) (fun v8 s h hs => ?_)
    ·unfold BQ at h
     refine Ab (Ab (Aa Ad rfl (qm rfl (qm rfl (Bc rfl (Ac ?_))))))
     refine Au rfl (fun c9 => ?_) (fun c9 => ?_)
     ·have h := Ap c9 h
      refine Av (Ab (AW (Ab ?_)))
      refine AR h (fun v10 => mk [(2, .e (.one (.ptr 2 0))), (3, .e (.one (.ptr 3 0))), (6, .e (.one (.pure (.val (.int .i64 ((p0.fVersions.length : Int))))))), (7, .e (.one (.pure (.val (.int .i64 v7))))), (84, .e (.one (.pure (.val (.bool v10)))))] [(2, .box [.pure (.sl (p0.fVersions.map Af)), .pure (.sl (p0.fNow.map Af)), .pure (.sl (p0.fTarget.map Af)), .pure (.sl (p0.fTables.map Ak))]), (3, .box [.pure (.sl (p1.fBase.map Af)), .pure (.sl (p1.fNext.map Af)), .pure (.sl (p1.fHeld.map A3))])]) (fun j10 h => ?_) (fun v10 h => ?_)
      ·refine Aa Ad rfl (qf Cp rfl (ql A0 rfl (qm rfl ?_)))
       obtain ⟨v11, a11, b11, h⟩ := An h
       refine qi AE CS a11 (Al b11) rfl (qk B1 rfl (Bc rfl (qm rfl ?_)))
       refine AF (t := 51) rfl (fun c12 => ?_) (fun c12 => ?_)
       ·have h := Ap c12 h
        refine qn rfl (qn rfl (qn rfl (qn rfl (qn rfl (qn rfl (qn rfl (qn rfl (qn rfl (qn rfl (qn rfl (qp rfl (qm rfl (qn rfl (qn rfl (qn rfl (qn rfl (qn rfl (qn rfl (qp rfl (qm rfl (qn rfl (qn rfl (qn rfl (qn rfl (qn rfl (qn rfl (qn rfl (qn rfl (qn rfl (qn rfl (qn rfl (qp rfl (AX (by kernel_rfl) ?_)))))))))))))))))))))))))))))))))
        exact Ax _ h (sm [] _ _ rfl rfl)
       ·have h := Aq c12 h
        refine qf Cp rfl (ql A0 rfl (qm rfl ?_))
        obtain ⟨v13, a13, b13, h⟩ := An h
        refine qi AE CS a13 (Al b13) rfl (qk B1 rfl (qf Bk rfl (ql A0 rfl (qm rfl ?_))))
        obtain ⟨v14, a14, b14, h⟩ := An h
        refine qi AE CS a14 (Al b14) rfl (qk B1 rfl (DX rfl (qp rfl (qm rfl ?_))))
        refine AF (t := 64) rfl (fun c15 => ?_) (fun c15 => ?_)
        ·have h := Ap c15 h
         refine qn rfl (qn rfl (qn rfl (qn rfl (qn rfl (qn rfl (qp rfl (qm rfl (qn rfl (qn rfl (qn rfl (qn rfl (qn rfl (qn rfl (qn rfl (qn rfl (qn rfl (qn rfl (qn rfl (qp rfl (AX (by kernel_rfl) ?_))))))))))))))))))))
         exact Ax _ h (sm [] _ _ rfl rfl)
        ·have h := Aq c15 h
         refine qf Bu rfl (ql A0 rfl (qm rfl ?_))
         obtain ⟨v16, a16, b16, h⟩ := An h
         refine qi AE CS a16 (Al b16) rfl (qk B1 rfl (Bc rfl (qp rfl (qm rfl ?_))))
         refine AF (t := 72) rfl (fun c17 => ?_) (fun c17 => ?_)
         ·have h := Ap c17 h
          refine qn rfl (qn rfl (qn rfl (qn rfl (qn rfl (qn rfl (qn rfl (qn rfl (qn rfl (qn rfl (qn rfl (qp rfl (AX (by kernel_rfl) ?_))))))))))))
          exact Ax _ h (sm [] _ _ rfl rfl)
         ·have h := Aq c17 h
          refine qf Bu rfl (ql A0 rfl (qm rfl ?_))
          obtain ⟨v18, a18, b18, h⟩ := An h
          refine qi AE CS a18 (Al b18) rfl (qk B1 rfl (qf Bk rfl (ql A0 rfl (qm rfl ?_))))
          obtain ⟨v19, a19, b19, h⟩ := An h
          refine qi AE CS a19 (Al b19) rfl (qk B1 rfl (DX rfl (qp rfl (AX (by kernel_rfl) ?_))))
          exact Ax _ h (sm [] _ _ rfl rfl)
      ·refine Au rfl (fun c20 => ?_) (fun c20 => ?_)
       ·have h := Ap c20 h
        refine Ab (Aa Ad rfl (qa rfl (Ac ?_)))
        obtain rfl := sj h
        refine Am (sm [] [(4, .e (.one (.pure (.val (.int .i64 7)))))] [] rfl rfl) (AB ?_)
        exact ⟨⟨[_], ⟨.tmp _ _ rfl, trivial⟩, rfl⟩, trivial⟩
       ·have h := Aq c20 h
        refine Av (Ab (Aa Ad rfl (qf Cp rfl (ql A0 rfl (qm rfl ?_)))))
        obtain ⟨v21, a21, b21, h⟩ := An h
        refine qi AE CS a21 (Al b21) rfl (qk B1 rfl (qf Bu rfl (ql A0 rfl (qm rfl ?_))))
        obtain ⟨v22, a22, b22, h⟩ := An h
        refine qi AE CS a22 (Al b22) rfl (qk B1 rfl (BO rfl (AX (by kernel_rfl) ?_)))
        refine Au rfl (fun c23 => ?_) (fun c23 => ?_)
        ·have h := Ap c23 h
         refine Ab (Aa Ad rfl (qa rfl (Ac ?_)))
         obtain rfl := sj h
         refine Am (sm [] [(4, .e (.one (.pure (.val (.int .i64 1)))))] [] rfl rfl) (AB ?_)
         exact ⟨⟨[_], ⟨.tmp _ _ rfl, trivial⟩, rfl⟩, trivial⟩
        ·have h := Aq c23 h
         refine Av (Aa Ad rfl (qm rfl (Bm rfl (qa rfl (Ac ?_)))))
         exact Ax _ h (sm [] _ _ rfl rfl)
     ·have h := Aq c9 h
      refine A1 ?_
      exact Ax _ h (sm [] _ _ rfl rfl)
    ·refine Am hs (Ab (Ab (Aa Ad rfl (qa rfl (Ac ?_)))))
     refine AP (L := BF N p0 p1) h (fun v24 => mk [(2, .e (.one (.ptr 2 0))), (3, .e (.one (.ptr 3 0))), (8, .e (.one (.pure (.val (.int .i64 v24)))))] [(2, .box [.pure (.sl (p0.fVersions.map Af)), .pure (.sl (p0.fNow.map Af)), .pure (.sl (p0.fTarget.map Af)), .pure (.sl (p0.fTables.map Ak))]), (3, .box [.pure (.sl (p1.fBase.map Af)), .pure (.sl (p1.fNext.map Af)), .pure (.sl (p1.fHeld.map A3))])]) (fun v25 => mk [] []) (fun _ _ => rfl) (sm [] _ _ rfl rfl) (fun j24 n24 v24 h => ?_) (fun v25 s h hs => ?_)
     ·unfold BF at h
      refine Ab (Ab (Aa Ad rfl (qm rfl (qf Cl rfl (ql Gr rfl (AQ Dz rfl (Bc rfl (Ac ?_))))))))
      refine Au rfl (fun c26 => ?_) (fun c26 => ?_)
      ·have h := Ap c26 h
       refine Av (Ab (AW (Ab (Aa Ad rfl (qf Cl rfl (ql Gr rfl (qm rfl ?_)))))))
       obtain ⟨v27, a27, b27, h⟩ := An h
       refine qi Dz Dt a27 (Al b27) rfl (qK Gm Dt rfl (qz Jx rfl (qs Dt rfl (Ac (Ab (Aa Ad rfl (qf Bk rfl (ql A0 rfl (qf CF rfl (ql B1 rfl ?_))))))))))
       obtain ⟨v28, a28, b28, h⟩ := An h
       refine qi AE CS a28 (Al b28) rfl (qk B1 rfl ?_)
       obtain ⟨c29, h⟩ := AG h
       refine HD rfl c29 (KA rfl (qa rfl (Ac ?_)))
       refine AR h (fun v30 => mk [(2, .e (.one (.ptr 2 0))), (3, .e (.one (.ptr 3 0))), (8, .e (.one (.pure (.val (.int .i64 v24))))), (153, .e (.one (.pure (.val (.bool v30)))))] [(2, .box [.pure (.sl (p0.fVersions.map Af)), .pure (.sl (p0.fNow.map Af)), .pure (.sl (p0.fTarget.map Af)), .pure (.sl (p0.fTables.map Ak))]), (3, .box [.pure (.sl (p1.fBase.map Af)), .pure (.sl (p1.fNext.map Af)), .pure (.sl (p1.fHeld.map A3))])]) (fun j30 h => ?_) (fun v30 h => ?_)
       ·refine Aa Ad rfl (qL Gm Dt rfl ?_)
        obtain ⟨v31, a31, h⟩ := bind_some h
        refine AI [] (BZ N v27 v31 a31) NB rfl (Ch rfl (qm rfl ?_))
        refine AF (t := 119) rfl (fun c32 => ?_) (fun c32 => ?_)
        ·have h := Ap c32 h
         refine qf Cn rfl (ql Gq rfl (qm rfl ?_))
         obtain ⟨v33, a33, b33, h⟩ := An h
         refine qi C8 E5 a33 (Al b33) rfl (qk Jv rfl (B0 rfl (qp rfl (qm rfl ?_))))
         refine AF (t := 127) rfl (fun c34 => ?_) (fun c34 => ?_)
         ·have h := Ap c34 h
          refine qn rfl (qn rfl (qn rfl (qu rfl (qu rfl (qu rfl (qu rfl (qu rfl (qu rfl (qu rfl (qu rfl (qu rfl (qu rfl (qu rfl (qu rfl (qu rfl (qu rfl (qu rfl (qu rfl (qu rfl (qu rfl (qu rfl (qu rfl (qu rfl (qn rfl (qp rfl (AX (by kernel_rfl) ?_))))))))))))))))))))))))))
          exact Ax _ h (sm [] _ _ rfl rfl)
         ·have h := Aq c34 h
          refine qL Gm Dt rfl ?_
          obtain ⟨v35, a35, h⟩ := bind_some h
          refine AI [] (BZ N v27 v35 a35) NB rfl (qm rfl ?_)
          refine AF (t := 130) rfl (fun c36 => ?_) (fun c36 => ?_)
          ·have h := Ap c36 h
           refine qf Cn rfl (ql Gq rfl (qm rfl ?_))
           obtain ⟨v37, a37, b37, h⟩ := An h
           refine qi C8 E5 a37 (Al b37) rfl (qk Jv rfl (qm rfl (Hg rfl (B0 rfl (qm rfl ?_)))))
           refine AF (t := 139) rfl (fun c38 => ?_) (fun c38 => ?_)
           ·have h := Ap c38 h
            refine qn rfl (qn rfl (qn rfl (qn rfl (qn rfl (qn rfl (qn rfl (qn rfl (qn rfl (qn rfl (qn rfl (qp rfl (qp rfl (qp rfl (AX (by kernel_rfl) ?_))))))))))))))
            exact Ax _ h (sm [] _ _ rfl rfl)
           ·have h := Aq c38 h
            refine qL Bl AO rfl (qf CF rfl (ql B1 rfl ?_))
            obtain ⟨v39, a39, h⟩ := bind_some h
            refine AI [] (Dp N p1 v27.fFrom v39 a39) QY rfl (qf Cn rfl (ql Gq rfl (qm rfl ?_)))
            obtain ⟨v40, a40, b40, h⟩ := An h
            refine qi C8 E5 a40 (Al b40) rfl (qk Jv rfl (Hg rfl (B0 rfl (qp rfl (qp rfl (qp rfl (AX (by kernel_rfl) ?_)))))))
            exact Ax _ h (sm [] _ _ rfl rfl)
          ·have h := Aq c36 h
           refine qn rfl (qn rfl (qn rfl (qn rfl (qn rfl (qn rfl (qn rfl (qn rfl (qn rfl (qu rfl (qu rfl (qu rfl (qu rfl (qu rfl (qu rfl (qu rfl (qu rfl (qu rfl (qu rfl (qu rfl (qn rfl (qp rfl (qp rfl (AX (by kernel_rfl) ?_)))))))))))))))))))))))
           exact Ax _ h (sm [] _ _ rfl rfl)
        ·have h := Aq c32 h
         refine qn rfl (qn rfl (qn rfl (qn rfl (qn rfl (qn rfl (qp rfl (qm rfl (qL Gm Dt rfl ?_))))))))
         obtain ⟨v41, a41, h⟩ := bind_some h
         refine AI [] (BZ N v27 v41 a41) NB rfl (qm rfl ?_)
         refine AF (t := 130) rfl (fun c42 => ?_) (fun c42 => ?_)
         ·have h := Ap c42 h
          refine qf Cn rfl (ql Gq rfl (qm rfl ?_))
          obtain ⟨v43, a43, b43, h⟩ := An h
          refine qi C8 E5 a43 (Al b43) rfl (qk Jv rfl (qm rfl (Hg rfl (B0 rfl (qm rfl ?_)))))
          refine AF (t := 139) rfl (fun c44 => ?_) (fun c44 => ?_)
          ·have h := Ap c44 h
           refine qn rfl (qn rfl (qn rfl (qn rfl (qn rfl (qn rfl (qn rfl (qn rfl (qn rfl (qn rfl (qn rfl (qp rfl (qp rfl (qp rfl (AX (by kernel_rfl) ?_))))))))))))))
           exact Ax _ h (sm [] _ _ rfl rfl)
          ·have h := Aq c44 h
           refine qL Bl AO rfl (qf CF rfl (ql B1 rfl ?_))
           obtain ⟨v45, a45, h⟩ := bind_some h
           refine AI [] (Dp N p1 v27.fFrom v45 a45) QY rfl (qf Cn rfl (ql Gq rfl (qm rfl ?_)))
           obtain ⟨v46, a46, b46, h⟩ := An h
           refine qi C8 E5 a46 (Al b46) rfl (qk Jv rfl (Hg rfl (B0 rfl (qp rfl (qp rfl (qp rfl (AX (by kernel_rfl) ?_)))))))
           exact Ax _ h (sm [] _ _ rfl rfl)
         ·have h := Aq c42 h
          refine qn rfl (qn rfl (qn rfl (qn rfl (qn rfl (qn rfl (qn rfl (qn rfl (qn rfl (qu rfl (qu rfl (qu rfl (qu rfl (qu rfl (qu rfl (qu rfl (qu rfl (qu rfl (qu rfl (qu rfl (qn rfl (qp rfl (qp rfl (AX (by kernel_rfl) ?_)))))))))))))))))))))))
          exact Ax _ h (sm [] _ _ rfl rfl)
       ·refine Au rfl (fun c47 => ?_) (fun c47 => ?_)
        ·have h := Ap c47 h
         refine Ab (Aa Ad rfl (qa rfl (Ac ?_)))
         obtain rfl := sj h
         refine Am (sm [] [(4, .e (.one (.pure (.val (.int .i64 1)))))] [] rfl rfl) (AB ?_)
         exact ⟨⟨[_], ⟨.tmp _ _ rfl, trivial⟩, rfl⟩, trivial⟩
        ·have h := Aq c47 h
         refine Av (Aa Ad rfl (qm rfl (Bm rfl (qa rfl (Ac ?_)))))
         exact Ax _ h (sm [] _ _ rfl rfl)
      ·have h := Aq c26 h
       refine A1 ?_
       exact Ax _ h (sm [] _ _ rfl rfl)
     ·refine Am hs (Ab (Aa Ad rfl (qa rfl (Ac ?_))))
      obtain rfl := sj h
      refine Am (sm [] [(4, .e (.one (.pure (.val (.int .i64 0)))))] [] rfl rfl) (AB ?_)
      exact ⟨⟨[_], ⟨.tmp _ _ rfl, trivial⟩, rfl⟩, trivial⟩
set_option maxRecDepth 10000 in
theorem Jw (N : Nat) (p0 : Ag) (r : Bool) (h : DD N p0 = some r) : AD Try.prog 80 [.e (.agg [.pure (.val (.int .i64 p0.fKind)), .pure (.val (.int .i64 p0.fIndex)), .pure (.val (.int .i64 p0.fVersion))])] [] (.e (.one (.pure (.val (.bool r))))) := by
 unfold DD at h
 refine As (n := 31) (rs := [.tmp 2]) Try.func80 rfl rfl rfl (Bz rfl) (Bz rfl) rfl fun w0 S0 => ?_
 refine Ab (Aa Ad rfl (qb rfl (qa rfl (Ac ?_))))
 refine AR h (fun v1 => mk [(2, .e (.one (.pure (.val (.bool v1)))))] []) (fun j1 h => ?_) (fun v1 h => ?_)
 ·refine Aa Ad rfl (qf Ei rfl (ql B1 rfl (DX rfl (qm rfl ?_))))
  refine AF (t := 6) rfl (fun c2 => ?_) (fun c2 => ?_)
  ·have h := Ap c2 h
   refine qf Ei rfl (ql B1 rfl (Vc rfl (qp rfl (qm rfl ?_))))
   refine AF (t := 11) rfl (fun c3 => ?_) (fun c3 => ?_)
   ·have h := Ap c3 h
    refine qf D8 rfl (ql B1 rfl (DX rfl (qp rfl (qm rfl ?_))))
    refine AF (t := 16) rfl (fun c4 => ?_) (fun c4 => ?_)
    ·have h := Ap c4 h
     refine qf FH rfl (ql B1 rfl (DX rfl (qp rfl (qm rfl ?_))))
     refine AF (t := 21) rfl (fun c5 => ?_) (fun c5 => ?_)
     ·have h := Ap c5 h
      refine qf Ei rfl (ql B1 rfl (BO rfl (qm rfl ?_)))
      refine AF (t := 25) rfl (fun c6 => ?_) (fun c6 => ?_)
      ·have h := Ap c6 h
       refine qn rfl (qn rfl (qn rfl (qp rfl (qp rfl (qa rfl (Ac ?_))))))
       exact Ax _ h (sm [] _ _ rfl rfl)
      ·have h := Aq c6 h
       refine qf FH rfl (ql B1 rfl (BO rfl (qp rfl (qp rfl (qa rfl (Ac ?_))))))
       exact Ax _ h (sm [] _ _ rfl rfl)
     ·have h := Aq c5 h
      refine qn rfl (qn rfl (qn rfl (qn rfl (qu rfl (qu rfl (qu rfl (qn rfl (qp rfl (qa rfl (Ac ?_))))))))))
      exact Ax _ h (sm [] _ _ rfl rfl)
    ·have h := Aq c4 h
     refine qn rfl (qn rfl (qn rfl (qp rfl (qm rfl (qn rfl (qn rfl (qn rfl (qn rfl (qu rfl (qu rfl (qu rfl (qn rfl (qp rfl (qa rfl (Ac ?_)))))))))))))))
     exact Ax _ h (sm [] _ _ rfl rfl)
   ·have h := Aq c3 h
    refine qn rfl (qn rfl (qn rfl (qp rfl (qm rfl (qn rfl (qn rfl (qn rfl (qp rfl (qm rfl (qn rfl (qn rfl (qn rfl (qn rfl (qu rfl (qu rfl (qu rfl (qn rfl (qp rfl (qa rfl (Ac ?_))))))))))))))))))))
    exact Ax _ h (sm [] _ _ rfl rfl)
  ·have h := Aq c2 h
   refine qn rfl (qn rfl (qn rfl (qp rfl (qm rfl (qn rfl (qn rfl (qn rfl (qp rfl (qm rfl (qn rfl (qn rfl (qn rfl (qp rfl (qm rfl (qn rfl (qn rfl (qn rfl (qn rfl (qu rfl (qu rfl (qu rfl (qn rfl (qp rfl (qa rfl (Ac ?_)))))))))))))))))))))))))
   exact Ax _ h (sm [] _ _ rfl rfl)
 ·obtain rfl := sj h
  refine Am (sm [] [(2, .e (.one (.pure (.val (.bool v1)))))] [] rfl rfl) (AB ?_)
  exact ⟨⟨[_], ⟨.tmp _ _ rfl, trivial⟩, rfl⟩, trivial⟩
set_option maxRecDepth 10000 in
theorem EP (N : Nat) (p0 : Int) (p1 : Int) (r : Bool) (h : B2 N p0 p1 = some r) : AD Try.prog 60 [.e (.one (.pure (.val (.int .u8 p0)))), .e (.one (.pure (.val (.int .i64 p1))))] [] (.e (.one (.pure (.val (.bool r))))) := by
 unfold B2 at h
 refine As (n := 10) (rs := [.tmp 4]) Try.func60 rfl rfl rfl (Bz rfl) (Bz rfl) rfl fun w0 S0 => ?_
 refine Ab (Aa Ad rfl (qa rfl (Ac (Ab (Aa Ad rfl (qm rfl (qm rfl ?_)))))))
 obtain ⟨c1, h⟩ := AG h
 refine Ia rfl c1 (Lp rfl (BO rfl (qa rfl (Ac ?_))))
 obtain rfl := sj h
 refine Am (sm [] [(4, .e (.one (.pure (.val (.bool (((Fb .u8 ((Ew .u8 p0 p1)) 1) == 1)))))))] [] rfl rfl) (AB ?_)
 exact ⟨⟨[_], ⟨.tmp _ _ rfl, trivial⟩, rfl⟩, trivial⟩
set_option maxRecDepth 10000 in
theorem Jz (N : Nat) (p0 : Ae) (p1 : Ah) (p2 : Ag) (r : Ah × Bool) (h : CV N p0 p1 p2 = some r) : AD Try.prog 30 [.e (.agg [.pure (.sl (p0.fVersions.map Af)), .pure (.sl (p0.fNow.map Af)), .pure (.sl (p0.fTarget.map Af)), .pure (.sl (p0.fTables.map Ak))]), .e (.agg [.pure (.sl (p1.fBase.map Af)), .pure (.sl (p1.fNext.map Af)), .pure (.sl (p1.fHeld.map A3))]), .e (.agg [.pure (.val (.int .i64 p2.fKind)), .pure (.val (.int .i64 p2.fIndex)), .pure (.val (.int .i64 p2.fVersion))])] [(1, r.1.fBase.map Af), (1, r.1.fNext.map Af), (1, r.1.fHeld.map A3)] (.tup [.agg [.own 0, .own 1, .own 2], .one (.pure (.val (.bool r.2)))]) := by
 unfold CV at h
 refine As (n := 201) (rs := [.cell 6 43, .tmp 7]) Try.func30 rfl rfl rfl (Bz rfl) (Bz rfl) rfl fun w0 S0 => ?_
 refine Ab (Aa Ad rfl (qb rfl (qb rfl (qb rfl (qz Co rfl (qa rfl (Ac (Ab (Aa Ad rfl (D2 AE CS J4 rfl (qf Cp rfl (ql A0 rfl ?_))))))))))))
 obtain ⟨c1, h⟩ := AG h
 refine F0 (f := Af) AE AE CS K2 J4 (fun _ => rfl) c1 rfl (D2 AE CS J4 rfl (qf Bu rfl (ql A0 rfl ?_)))
 obtain ⟨c2, h⟩ := AG h
 refine F0 (f := Af) AE AE CS K2 J4 (fun _ => rfl) c2 rfl (D2 C8 E5 NF rfl (qf Cn rfl (ql Gq rfl ?_)))
 obtain ⟨c3, h⟩ := AG h
 refine F0 (f := A3) C8 C8 E5 Po NF (fun _ => rfl) c3 rfl (AV Co Fa rfl (qz Co rfl (qs AO rfl (AX (by kernel_rfl) (Ab (Aa Ad rfl (qf D8 rfl (ql B1 rfl (qa rfl (Ac ?_))))))))))
 refine AR h (fun v4 => mk [(6, .e (.one (.ptr 6 0))), (8, .e (.one (.ptr 8 0)))] [(6, .box [.pure (.nil0), .pure (.nil0), .pure (.nil0)]), (8, .box [.own 2001, .own 2002, .own 2003]), (2001, .vec 1 (v4.1.map Af)), (2002, .vec 1 (v4.2.1.map Af)), (2003, .vec 1 (v4.2.2.map A3))]) (fun j4 h => ?_) (fun v4 h => ?_)
 ·refine Ab (Aa Ad rfl (qf Ei rfl (ql B1 rfl (Ac (AW (Ab (Aa Ad rfl (BO rfl (qa rfl (Ac ?_))))))))))
  refine Au rfl (fun c5 => ?_) (fun c5 => ?_)
  ·have h := Ap c5 h
   refine Ab ?_
   refine AR h (fun v6 => mk [(3, .e (.one (.ptr 3 0))), (5, .e (.one (.ptr 5 0))), (6, .e (.one (.ptr 6 0))), (8, .e (.one (.ptr 8 0))), (9, .e (.one (.pure (.val (.int .i64 p2.fIndex))))), (60, .e (.one (.pure (.val (.bool v6)))))] [(3, .box [.pure (.sl (p0.fVersions.map Af)), .pure (.sl (p0.fNow.map Af)), .pure (.sl (p0.fTarget.map Af)), .pure (.sl (p0.fTables.map Ak))]), (5, .box [.pure (.val (.int .i64 p2.fKind)), .pure (.val (.int .i64 p2.fIndex)), .pure (.val (.int .i64 p2.fVersion))]), (6, .box [.pure (.nil0), .pure (.nil0), .pure (.nil0)]), (8, .box [.own 2004, .own 2005, .own 2006]), (2004, .vec 1 (((([] : List Int)) ++ p1.fBase).map Af)), (2005, .vec 1 (((([] : List Int)) ++ p1.fNext).map Af)), (2006, .vec 1 (((([] : List Int)) ++ p1.fHeld).map A3))]) (fun j6 h => ?_) (fun v6 h => ?_)
   ·refine Aa Ad rfl (qf Bu rfl (ql A0 rfl (qm rfl ?_)))
    obtain ⟨v7, a7, b7, h⟩ := An h
    refine qi AE CS a7 (Al b7) rfl (qk B1 rfl (DX rfl (qm rfl ?_)))
    refine AF (t := 51) rfl (fun c8 => ?_) (fun c8 => ?_)
    ·have h := Ap c8 h
     refine qn rfl (qn rfl (qn rfl (qn rfl (qn rfl (qn rfl (qn rfl (qn rfl (qp rfl (AX (by kernel_rfl) ?_)))))))))
     exact Ax _ h (sm [(2004, 18), (2005, 22), (2006, 26)] _ _ rfl rfl)
    ·have h := Aq c8 h
     refine qf FH rfl (ql B1 rfl (qf Cp rfl (ql A0 rfl (qm rfl ?_))))
     obtain ⟨v9, a9, b9, h⟩ := An h
     refine qi AE CS a9 (Al b9) rfl (qk B1 rfl (BO rfl (qp rfl (AX (by kernel_rfl) ?_))))
     exact Ax _ h (sm [(2004, 18), (2005, 22), (2006, 26)] _ _ rfl rfl)
   ·refine Au rfl (fun c10 => ?_) (fun c10 => ?_)
    ·have h := Ap c10 h
     refine Ab (Aa Ad rfl (AV Co Fa rfl (qs AO rfl (qa rfl (Ac ?_)))))
     obtain rfl := sj h
     refine Am ((AA 6 0 2007 1 _ rfl rfl rfl rfl).trans ((AA 6 1 2008 1 _ rfl rfl rfl rfl).trans ((AA 6 2 2009 1 _ rfl rfl rfl rfl).trans (sm [(1000, 2007), (1001, 2008), (1002, 2009)] [(6, .e (.one (.ptr 6 0))), (7, .e (.one (.pure (.val (.bool false)))))] [(6, .box [.own 1000, .own 1001, .own 1002]), (1000, .vec 1 ((([] : List Int)).map Af)), (1001, .vec 1 ((([] : List Int)).map Af)), (1002, .vec 1 ((([] : List Int)).map A3))] rfl rfl)))) (AB ?_)
     exact ⟨⟨[_, _], ⟨.cellN _ _ _ _ _ _ _ rfl rfl Bl AO rfl rfl (Fp rfl), ⟨.tmp _ _ rfl, trivial⟩⟩, rfl⟩, ⟨rfl, rfl, rfl, trivial⟩⟩
    ·have h := Aq c10 h
     refine Av (Ab (Aa Ad rfl (qf Bu rfl (ql A0 rfl (qm rfl (qf FH rfl (ql B1 rfl ?_)))))))
     obtain ⟨v11, a11, b11, h⟩ := An h
     refine qI AE CS a11 (Al b11) rfl ?_
     refine DH rfl rfl rfl rfl (Al b11) rfl CS rfl (Bz rfl) (Dr Af ((([] : List Int)) ++ p1.fNext) _ p2.fVersion) ?_
     refine Ac (Ab (Aa Ad rfl (qa rfl (Ac ?_))))
     refine AP (L := BG N p0 p2) h (fun v12 => mk [(3, .e (.one (.ptr 3 0))), (5, .e (.one (.ptr 5 0))), (6, .e (.one (.ptr 6 0))), (8, .e (.one (.ptr 8 0))), (9, .e (.one (.pure (.val (.int .i64 p2.fIndex))))), (10, .e (.one (.pure (.val (.int .i64 v12.2)))))] [(3, .box [.pure (.sl (p0.fVersions.map Af)), .pure (.sl (p0.fNow.map Af)), .pure (.sl (p0.fTarget.map Af)), .pure (.sl (p0.fTables.map Ak))]), (5, .box [.pure (.val (.int .i64 p2.fKind)), .pure (.val (.int .i64 p2.fIndex)), .pure (.val (.int .i64 p2.fVersion))]), (6, .box [.pure (.nil0), .pure (.nil0), .pure (.nil0)]), (8, .box [.own 2010, .own 2011, .own 2012]), (2010, .vec 1 (((([] : List Int)) ++ p1.fBase).map Af)), (2011, .vec 1 ((((([] : List Int)) ++ p1.fNext).set ((p2.fIndex).toNat) p2.fVersion).map Af)), (2012, .vec 1 (v12.1.map A3))]) (fun v13 => mk [(6, .e (.one (.ptr 6 0))), (8, .e (.one (.ptr 8 0)))] [(6, .box [.pure (.nil0), .pure (.nil0), .pure (.nil0)]), (8, .box [.own 2013, .own 2014, .own 2015]), (2013, .vec 1 (((([] : List Int)) ++ p1.fBase).map Af)), (2014, .vec 1 ((((([] : List Int)) ++ p1.fNext).set ((p2.fIndex).toNat) p2.fVersion).map Af)), (2015, .vec 1 (v13.map A3))]) (fun _ _ => rfl) (sm [(2010, 2004), (2011, 2005), (2012, 2006)] _ _ rfl rfl) (fun j12 n12 v12 h => ?_) (fun v13 s h hs => ?_)
     ·unfold BG at h
      refine Ab (Ab (Aa Ad rfl (qm rfl (qf Cl rfl (ql Gr rfl (AQ Dz rfl (Bc rfl (Ac ?_))))))))
      refine Au rfl (fun c14 => ?_) (fun c14 => ?_)
      ·have h := Ap c14 h
       refine Av ?_
       refine AR h (fun v15 => mk [(3, .e (.one (.ptr 3 0))), (5, .e (.one (.ptr 5 0))), (6, .e (.one (.ptr 6 0))), (8, .e (.one (.ptr 8 0))), (9, .e (.one (.pure (.val (.int .i64 p2.fIndex))))), (10, .e (.one (.pure (.val (.int .i64 v12.2)))))] [(3, .box [.pure (.sl (p0.fVersions.map Af)), .pure (.sl (p0.fNow.map Af)), .pure (.sl (p0.fTarget.map Af)), .pure (.sl (p0.fTables.map Ak))]), (5, .box [.pure (.val (.int .i64 p2.fKind)), .pure (.val (.int .i64 p2.fIndex)), .pure (.val (.int .i64 p2.fVersion))]), (6, .box [.pure (.nil0), .pure (.nil0), .pure (.nil0)]), (8, .box [.own 2016, .own 2017, .own 2018]), (2016, .vec 1 (((([] : List Int)) ++ p1.fBase).map Af)), (2017, .vec 1 ((((([] : List Int)) ++ p1.fNext).set ((p2.fIndex).toNat) p2.fVersion).map Af)), (2018, .vec 1 (v15.map A3))]) (fun j15 h => ?_) (fun v15 h => ?_)
       ·refine AW ?_
        refine AR h (fun v16 => mk [(3, .e (.one (.ptr 3 0))), (5, .e (.one (.ptr 5 0))), (6, .e (.one (.ptr 6 0))), (8, .e (.one (.ptr 8 0))), (9, .e (.one (.pure (.val (.int .i64 p2.fIndex))))), (10, .e (.one (.pure (.val (.int .i64 v12.2))))), (90, .e (.one (.pure (.val (.bool v16)))))] [(3, .box [.pure (.sl (p0.fVersions.map Af)), .pure (.sl (p0.fNow.map Af)), .pure (.sl (p0.fTarget.map Af)), .pure (.sl (p0.fTables.map Ak))]), (5, .box [.pure (.val (.int .i64 p2.fKind)), .pure (.val (.int .i64 p2.fIndex)), .pure (.val (.int .i64 p2.fVersion))]), (6, .box [.pure (.nil0), .pure (.nil0), .pure (.nil0)]), (8, .box [.own 2019, .own 2020, .own 2021]), (2019, .vec 1 (((([] : List Int)) ++ p1.fBase).map Af)), (2020, .vec 1 ((((([] : List Int)) ++ p1.fNext).set ((p2.fIndex).toNat) p2.fVersion).map Af)), (2021, .vec 1 (v12.1.map A3))]) (fun j16 h => ?_) (fun v16 h => ?_)
        ·refine Aa Ad rfl (qf Cl rfl (ql Gr rfl (qm rfl ?_)))
         obtain ⟨v17, a17, b17, h⟩ := An h
         refine qi Dz Dt a17 (Al b17) rfl (qg CF rfl (qk B1 rfl (qm rfl (BO rfl (qm rfl ?_)))))
         refine AF (t := 83) rfl (fun c18 => ?_) (fun c18 => ?_)
         ·have h := Ap c18 h
          refine qf Cl rfl (ql Gr rfl (qm rfl ?_))
          obtain ⟨v19, a19, b19, h⟩ := An h
          refine qi Dz Dt a19 (Al b19) rfl (qK Gm Dt rfl ?_)
          obtain ⟨v20, a20, h⟩ := bind_some h
          refine AI [] (BZ N v19 v20 a20) NB rfl (qp rfl (Ac ?_))
          exact Ax _ h (sm [(2019, 2010), (2020, 2011), (2021, 2012)] _ _ rfl rfl)
         ·have h := Aq c18 h
          refine qn rfl (qn rfl (qn rfl (qn rfl (qn rfl (qn rfl (qp rfl (Ac ?_)))))))
          exact Ax _ h (sm [(2019, 2010), (2020, 2011), (2021, 2012)] _ _ rfl rfl)
        ·refine Au rfl (fun c21 => ?_) (fun c21 => ?_)
         ·have h := Ap c21 h
          refine Aa Ad rfl (qf Cn rfl (ql Gq rfl (qm rfl (qf Cn rfl (ql Gq rfl (qm rfl ?_))))))
          obtain ⟨v22, a22, b22, h⟩ := An h
          refine qI C8 E5 a22 (Al b22) rfl (qj Jv (Al b22) rfl (qf FH rfl (ql B1 rfl ?_)))
          obtain ⟨c23, h⟩ := AG h
          refine HD rfl c23 (RY rfl ?_)
          obtain ⟨v24, a24, b24, h⟩ := An h
          refine qI C8 E5 a24 (Al b24) rfl ?_
          refine DH rfl rfl rfl rfl (Al b24) rfl E5 rfl (Bz rfl) (Dr A3 v12.1 _ ((MB .u8 v22 ((C3 .u8 1 p2.fVersion))))) ?_
          refine AX (by kernel_rfl) ?_
          exact Ax _ h (sm [(2016, 2019), (2017, 2020), (2018, 2021)] _ _ rfl rfl)
         ·have h := Aq c21 h
          refine Av ?_
          exact Ax _ h (sm [(2016, 2019), (2017, 2020), (2018, 2021)] _ _ rfl rfl)
       ·refine Aa Ad rfl (qm rfl (Bm rfl (qa rfl (Ac ?_))))
        exact Ax _ h (sm [(2010, 2016), (2011, 2017), (2012, 2018)] _ _ rfl rfl)
      ·have h := Aq c14 h
       refine A1 ?_
       exact Ax _ h (sm [(2013, 2010), (2014, 2011), (2015, 2012)] _ _ rfl rfl)
     ·exact Ax _ h (hs.trans (sm [(2001, 2013), (2002, 2014), (2003, 2015)] _ _ rfl rfl))
  ·have h := Aq c5 h
   refine Ab (Aa Ad rfl (BO rfl (qa rfl (Ac ?_))))
   refine Au rfl (fun c25 => ?_) (fun c25 => ?_)
   ·have h := Ap c25 h
    refine Ab (Ab (Aa Ad rfl (qf Bu rfl (ql A0 rfl (qm rfl ?_)))))
    obtain ⟨v26, a26, b26, h⟩ := An h
    refine qi AE CS a26 (Al b26) rfl (qk B1 rfl (Bc rfl (Ac ?_)))
    refine Au rfl (fun c27 => ?_) (fun c27 => ?_)
    ·have h := Ap c27 h
     refine Ab (Aa Ad rfl (AV Co Fa rfl (qs AO rfl (qa rfl (Ac ?_)))))
     obtain rfl := sj h
     refine Am ((AA 6 0 2022 1 _ rfl rfl rfl rfl).trans ((AA 6 1 2023 1 _ rfl rfl rfl rfl).trans ((AA 6 2 2024 1 _ rfl rfl rfl rfl).trans (sm [(1000, 2022), (1001, 2023), (1002, 2024)] [(6, .e (.one (.ptr 6 0))), (7, .e (.one (.pure (.val (.bool false)))))] [(6, .box [.own 1000, .own 1001, .own 1002]), (1000, .vec 1 ((([] : List Int)).map Af)), (1001, .vec 1 ((([] : List Int)).map Af)), (1002, .vec 1 ((([] : List Int)).map A3))] rfl rfl)))) (AB ?_)
     exact ⟨⟨[_, _], ⟨.cellN _ _ _ _ _ _ _ rfl rfl Bl AO rfl rfl (Fp rfl), ⟨.tmp _ _ rfl, trivial⟩⟩, rfl⟩, ⟨rfl, rfl, rfl, trivial⟩⟩
    ·have h := Aq c27 h
     refine Av (Aa Ad rfl (qf Cp rfl (ql A0 rfl (qm rfl (qf Bu rfl (ql A0 rfl (qm rfl (qf Bu rfl (ql A0 rfl (qm rfl ?_))))))))))
     obtain ⟨v28, a28, b28, h⟩ := An h
     refine qi AE CS a28 (Al b28) rfl (qk B1 rfl ?_)
     obtain ⟨v29, a29, b29, h⟩ := An h
     refine qI AE CS a29 (Al b29) rfl ?_
     refine DH rfl rfl rfl rfl (Al b29) rfl CS rfl (Bz rfl) (Dr Af ((([] : List Int)) ++ p1.fBase) _ v28) ?_
     obtain ⟨v30, a30, b30, h⟩ := An h
     refine qI AE CS a30 (Al b30) rfl ?_
     refine DH rfl rfl rfl rfl (Al b30) rfl CS rfl (Bz rfl) (Dr Af ((([] : List Int)) ++ p1.fNext) _ ((-1))) ?_
     refine AX (by kernel_rfl) ?_
     exact Ax _ h (sm [(2001, 18), (2002, 22), (2003, 26)] _ _ rfl rfl)
   ·have h := Aq c25 h
    refine Ab (Aa Ad rfl (BO rfl (qa rfl (Ac ?_))))
    refine Au rfl (fun c31 => ?_) (fun c31 => ?_)
    ·have h := Ap c31 h
     refine Ab (Aa Ad rfl (qf Cl rfl (ql Gr rfl (qm rfl ?_))))
     obtain ⟨v32, a32, b32, h⟩ := An h
     refine qi Dz Dt a32 (Al b32) rfl (qK Gm Dt rfl (qz Jx rfl (qs Dt rfl (Ac (Ab (Ab (Aa Ad rfl (qL Gm Dt rfl ?_))))))))
     obtain ⟨v33, a33, h⟩ := bind_some h
     refine AI [] (BZ N v32 v33 a33) NB rfl (Ch rfl (Ac ?_))
     refine Au rfl (fun c34 => ?_) (fun c34 => ?_)
     ·have h := Ap c34 h
      refine Ab (Aa Ad rfl (AV Co Fa rfl (qs AO rfl (qa rfl (Ac ?_)))))
      obtain rfl := sj h
      refine Am ((AA 6 0 2025 1 _ rfl rfl rfl rfl).trans ((AA 6 1 2026 1 _ rfl rfl rfl rfl).trans ((AA 6 2 2027 1 _ rfl rfl rfl rfl).trans (sm [(1000, 2025), (1001, 2026), (1002, 2027)] [(6, .e (.one (.ptr 6 0))), (7, .e (.one (.pure (.val (.bool false)))))] [(6, .box [.own 1000, .own 1001, .own 1002]), (1000, .vec 1 ((([] : List Int)).map Af)), (1001, .vec 1 ((([] : List Int)).map Af)), (1002, .vec 1 ((([] : List Int)).map A3))] rfl rfl)))) (AB ?_)
      exact ⟨⟨[_, _], ⟨.cellN _ _ _ _ _ _ _ rfl rfl Bl AO rfl rfl (Fp rfl), ⟨.tmp _ _ rfl, trivial⟩⟩, rfl⟩, ⟨rfl, rfl, rfl, trivial⟩⟩
     ·have h := Aq c34 h
      refine Av (Ab (Aa Ad rfl (qL Bl AO rfl (qf CF rfl (ql B1 rfl ?_)))))
      obtain ⟨v35, a35, h⟩ := bind_some h
      refine AI [] (Dp N p1 v32.fFrom v35 a35) QY rfl (qa rfl (Ac (Ab (Ab (Aa Ad rfl (qf Cn rfl (ql Gq rfl (qm rfl ?_))))))))
      obtain ⟨v36, a36, b36, h⟩ := An h
      refine qi C8 E5 a36 (Al b36) rfl (qk Jv rfl (qm rfl (BO rfl (Ac ?_))))
      refine Au rfl (fun c37 => ?_) (fun c37 => ?_)
      ·have h := Ap c37 h
       refine Ab (Aa Ad rfl (AV Co Fa rfl (qs AO rfl (qa rfl (Ac ?_)))))
       obtain rfl := sj h
       refine Am ((AA 6 0 2028 1 _ rfl rfl rfl rfl).trans ((AA 6 1 2029 1 _ rfl rfl rfl rfl).trans ((AA 6 2 2030 1 _ rfl rfl rfl rfl).trans (sm [(1000, 2028), (1001, 2029), (1002, 2030)] [(6, .e (.one (.ptr 6 0))), (7, .e (.one (.pure (.val (.bool false)))))] [(6, .box [.own 1000, .own 1001, .own 1002]), (1000, .vec 1 ((([] : List Int)).map Af)), (1001, .vec 1 ((([] : List Int)).map Af)), (1002, .vec 1 ((([] : List Int)).map A3))] rfl rfl)))) (AB ?_)
       exact ⟨⟨[_, _], ⟨.cellN _ _ _ _ _ _ _ rfl rfl Bl AO rfl rfl (Fp rfl), ⟨.tmp _ _ rfl, trivial⟩⟩, rfl⟩, ⟨rfl, rfl, rfl, trivial⟩⟩
      ·have h := Aq c37 h
       refine Av (Ab (Ab (Aa Ad rfl (qa rfl (Ac ?_)))))
       refine AP (L := Bp N p0 p1 p2 v32 v35) h (fun v38 => mk [(3, .e (.one (.ptr 3 0))), (4, .e (.one (.ptr 4 0))), (6, .e (.one (.ptr 6 0))), (8, .e (.one (.ptr 8 0))), (9, .e (.one (.pure (.val (.int .i64 p2.fIndex))))), (11, .e (.one (.ptr 11 0))), (12, .e (.one (.pure (.val (.int .u8 v35))))), (13, .e (.one (.pure (.val (.int .i64 v38)))))] [(3, .box [.pure (.sl (p0.fVersions.map Af)), .pure (.sl (p0.fNow.map Af)), .pure (.sl (p0.fTarget.map Af)), .pure (.sl (p0.fTables.map Ak))]), (4, .box [.pure (.sl (p1.fBase.map Af)), .pure (.sl (p1.fNext.map Af)), .pure (.sl (p1.fHeld.map A3))]), (6, .box [.pure (.nil0), .pure (.nil0), .pure (.nil0)]), (8, .box [.own 2031, .own 2032, .own 2033]), (11, .box [.pure (.val (.int .i64 v32.fKind)), .pure (.val (.int .i64 v32.fFrom)), .pure (.val (.int .i64 v32.fTo)), .pure (.val (.bool v32.fAware)), .pure (.sl (v32.fOK.map (DY eB))), .pure (.sl (v32.fRewrite.map (DY eB)))]), (2031, .vec 1 (((([] : List Int)) ++ p1.fBase).map Af)), (2032, .vec 1 (((([] : List Int)) ++ p1.fNext).map Af)), (2033, .vec 1 (((([] : List Int)) ++ p1.fHeld).map A3))]) (fun v39 => mk [(6, .e (.one (.ptr 6 0))), (8, .e (.one (.ptr 8 0))), (9, .e (.one (.pure (.val (.int .i64 p2.fIndex))))), (12, .e (.one (.pure (.val (.int .u8 v35)))))] [(6, .box [.pure (.nil0), .pure (.nil0), .pure (.nil0)]), (8, .box [.own 2034, .own 2035, .own 2036]), (2034, .vec 1 (((([] : List Int)) ++ p1.fBase).map Af)), (2035, .vec 1 (((([] : List Int)) ++ p1.fNext).map Af)), (2036, .vec 1 (((([] : List Int)) ++ p1.fHeld).map A3))]) (fun _ _ => rfl) (sm [(2031, 18), (2032, 22), (2033, 26)] _ _ rfl rfl) (fun j38 n38 v38 h => ?_) (fun v39 s h hs => ?_)
       ·unfold Bp at h
        refine Ab (Ab (Aa Ad rfl (qm rfl (qf Bk rfl (ql A0 rfl (qf CF rfl (ql B1 rfl ?_)))))))
        obtain ⟨v40, a40, b40, h⟩ := An h
        refine qi AE CS a40 (Al b40) rfl (qk B1 rfl (Bc rfl (Ac ?_)))
        refine Au rfl (fun c41 => ?_) (fun c41 => ?_)
        ·have h := Ap c41 h
         refine Av (Ab (AW ?_))
         refine AR h (fun v42 => mk [(3, .e (.one (.ptr 3 0))), (4, .e (.one (.ptr 4 0))), (6, .e (.one (.ptr 6 0))), (8, .e (.one (.ptr 8 0))), (9, .e (.one (.pure (.val (.int .i64 p2.fIndex))))), (11, .e (.one (.ptr 11 0))), (12, .e (.one (.pure (.val (.int .u8 v35))))), (13, .e (.one (.pure (.val (.int .i64 v38))))), (14, .e (.one (.pure (.val (.bool v42)))))] [(3, .box [.pure (.sl (p0.fVersions.map Af)), .pure (.sl (p0.fNow.map Af)), .pure (.sl (p0.fTarget.map Af)), .pure (.sl (p0.fTables.map Ak))]), (4, .box [.pure (.sl (p1.fBase.map Af)), .pure (.sl (p1.fNext.map Af)), .pure (.sl (p1.fHeld.map A3))]), (6, .box [.pure (.nil0), .pure (.nil0), .pure (.nil0)]), (8, .box [.own 2037, .own 2038, .own 2039]), (11, .box [.pure (.val (.int .i64 v32.fKind)), .pure (.val (.int .i64 v32.fFrom)), .pure (.val (.int .i64 v32.fTo)), .pure (.val (.bool v32.fAware)), .pure (.sl (v32.fOK.map (DY eB))), .pure (.sl (v32.fRewrite.map (DY eB)))]), (2037, .vec 1 (((([] : List Int)) ++ p1.fBase).map Af)), (2038, .vec 1 (((([] : List Int)) ++ p1.fNext).map Af)), (2039, .vec 1 (((([] : List Int)) ++ p1.fHeld).map A3))]) (fun j42 h => ?_) (fun v42 h => ?_)
         ·refine Aa Ad rfl (qf Cn rfl (ql Gq rfl (qm rfl ?_)))
          obtain ⟨v43, a43, b43, h⟩ := An h
          refine qi C8 E5 a43 (Al b43) rfl (qk Jv rfl (qm rfl ?_))
          obtain ⟨v44, a44, h⟩ := bind_some h
          refine AI [] (EP N v43 v38 v44 a44) Se rfl (qm rfl ?_)
          refine AF (t := 166) rfl (fun c45 => ?_) (fun c45 => ?_)
          ·have h := Ap c45 h
           refine qm rfl (qm rfl ?_)
           obtain ⟨v46, a46, h⟩ := bind_some h
           refine AI [] (EP N v35 v38 v46 a46) Se rfl (Ch rfl (qp rfl (qa rfl (Ac ?_))))
           exact Ax _ h (sm [(2037, 2031), (2038, 2032), (2039, 2033)] _ _ rfl rfl)
          ·have h := Aq c45 h
           refine qn rfl (qn rfl (qn rfl (qn rfl (qp rfl (qa rfl (Ac ?_))))))
           exact Ax _ h (sm [(2037, 2031), (2038, 2032), (2039, 2033)] _ _ rfl rfl)
         ·refine AR h (fun v47 => mk [(3, .e (.one (.ptr 3 0))), (4, .e (.one (.ptr 4 0))), (6, .e (.one (.ptr 6 0))), (8, .e (.one (.ptr 8 0))), (9, .e (.one (.pure (.val (.int .i64 p2.fIndex))))), (11, .e (.one (.ptr 11 0))), (12, .e (.one (.pure (.val (.int .u8 v35))))), (13, .e (.one (.pure (.val (.int .i64 v38))))), (193, .e (.one (.pure (.val (.bool v47)))))] [(3, .box [.pure (.sl (p0.fVersions.map Af)), .pure (.sl (p0.fNow.map Af)), .pure (.sl (p0.fTarget.map Af)), .pure (.sl (p0.fTables.map Ak))]), (4, .box [.pure (.sl (p1.fBase.map Af)), .pure (.sl (p1.fNext.map Af)), .pure (.sl (p1.fHeld.map A3))]), (6, .box [.pure (.nil0), .pure (.nil0), .pure (.nil0)]), (8, .box [.own 2040, .own 2041, .own 2042]), (11, .box [.pure (.val (.int .i64 v32.fKind)), .pure (.val (.int .i64 v32.fFrom)), .pure (.val (.int .i64 v32.fTo)), .pure (.val (.bool v32.fAware)), .pure (.sl (v32.fOK.map (DY eB))), .pure (.sl (v32.fRewrite.map (DY eB)))]), (2040, .vec 1 (((([] : List Int)) ++ p1.fBase).map Af)), (2041, .vec 1 (((([] : List Int)) ++ p1.fNext).map Af)), (2042, .vec 1 (((([] : List Int)) ++ p1.fHeld).map A3))]) (fun j47 h => ?_) (fun v47 h => ?_)
          ·refine Aa Ad rfl (qm rfl (qm rfl ?_))
           refine AF (t := 173) rfl (fun c48 => ?_) (fun c48 => ?_)
           ·have h := Ap c48 h
            refine qf ER rfl (ql B1 rfl (BO rfl (qp rfl (qm rfl ?_))))
            refine AF (t := 178) rfl (fun c49 => ?_) (fun c49 => ?_)
            ·have h := Ap c49 h
             refine qf FF rfl (ql IL rfl (qm rfl ?_))
             obtain ⟨v50, a50, b50, h⟩ := An h
             refine qi Ff Lz a50 (Al b50) rfl (qk Nz rfl (qf Cp rfl (ql A0 rfl (qf CF rfl (ql B1 rfl ?_)))))
             obtain ⟨v51, a51, b51, h⟩ := An h
             refine qi AE CS a51 (Al b51) rfl (qk B1 rfl ?_)
             obtain ⟨v52, a52, b52, h⟩ := An h
             refine qi Fx OS a52 (Al b52) rfl (qk P1 rfl (Ch rfl (qp rfl (AX (by kernel_rfl) ?_))))
             exact Ax _ h (sm [(2040, 2037), (2041, 2038), (2042, 2039)] _ _ rfl rfl)
            ·have h := Aq c49 h
             refine qn rfl (qn rfl (qn rfl (qn rfl (qn rfl (qn rfl (qn rfl (qn rfl (qn rfl (qn rfl (qn rfl (qn rfl (qn rfl (qn rfl (qp rfl (AX (by kernel_rfl) ?_)))))))))))))))
             exact Ax _ h (sm [(2040, 2037), (2041, 2038), (2042, 2039)] _ _ rfl rfl)
           ·have h := Aq c48 h
            refine qn rfl (qn rfl (qn rfl (qp rfl (qm rfl (qn rfl (qn rfl (qn rfl (qn rfl (qn rfl (qn rfl (qn rfl (qn rfl (qn rfl (qn rfl (qn rfl (qn rfl (qn rfl (qn rfl (qp rfl (AX (by kernel_rfl) ?_))))))))))))))))))))
            exact Ax _ h (sm [(2040, 2037), (2041, 2038), (2042, 2039)] _ _ rfl rfl)
          ·refine Au rfl (fun c53 => ?_) (fun c53 => ?_)
           ·have h := Ap c53 h
            refine Ab (Aa Ad rfl (AV Co Fa rfl (qs AO rfl (qa rfl (Ac ?_)))))
            obtain rfl := sj h
            refine Am ((AA 6 0 2043 1 _ rfl rfl rfl rfl).trans ((AA 6 1 2044 1 _ rfl rfl rfl rfl).trans ((AA 6 2 2045 1 _ rfl rfl rfl rfl).trans (sm [(1000, 2043), (1001, 2044), (1002, 2045)] [(6, .e (.one (.ptr 6 0))), (7, .e (.one (.pure (.val (.bool false)))))] [(6, .box [.own 1000, .own 1001, .own 1002]), (1000, .vec 1 ((([] : List Int)).map Af)), (1001, .vec 1 ((([] : List Int)).map Af)), (1002, .vec 1 ((([] : List Int)).map A3))] rfl rfl)))) (AB ?_)
            exact ⟨⟨[_, _], ⟨.cellN _ _ _ _ _ _ _ rfl rfl Bl AO rfl rfl (Fp rfl), ⟨.tmp _ _ rfl, trivial⟩⟩, rfl⟩, ⟨rfl, rfl, rfl, trivial⟩⟩
           ·have h := Aq c53 h
            refine Av (Aa Ad rfl (qm rfl (Bm rfl (qa rfl (Ac ?_)))))
            exact Ax _ h (sm [(2031, 2040), (2032, 2041), (2033, 2042)] _ _ rfl rfl)
        ·have h := Aq c41 h
         refine A1 ?_
         exact Ax _ h (sm [(2034, 2031), (2035, 2032), (2036, 2033)] _ _ rfl rfl)
       ·refine Am hs (Aa Ad rfl (qf Cn rfl (ql Gq rfl (qm rfl (qm rfl ?_)))))
        obtain ⟨v54, a54, b54, h⟩ := An h
        refine qI C8 E5 a54 (Al b54) rfl ?_
        refine DH rfl rfl rfl rfl (Al b54) rfl E5 rfl (Bz rfl) (Dr A3 ((([] : List Int)) ++ p1.fHeld) _ v35) ?_
        refine Ac ?_
        exact Ax _ h (sm [(2001, 2034), (2002, 2035), (2003, 2036)] _ _ rfl rfl)
    ·have h := Aq c31 h
     refine Ab (Ab (Aa Ad rfl (qf Bu rfl (ql A0 rfl (qm rfl ?_)))))
     obtain ⟨v55, a55, b55, h⟩ := An h
     refine qi AE CS a55 (Al b55) rfl (qk B1 rfl (Bc rfl (Ac ?_)))
     refine Au rfl (fun c56 => ?_) (fun c56 => ?_)
     ·have h := Ap c56 h
      refine Ab (Aa Ad rfl (AV Co Fa rfl (qs AO rfl (qa rfl (Ac ?_)))))
      obtain rfl := sj h
      refine Am ((AA 6 0 2046 1 _ rfl rfl rfl rfl).trans ((AA 6 1 2047 1 _ rfl rfl rfl rfl).trans ((AA 6 2 2048 1 _ rfl rfl rfl rfl).trans (sm [(1000, 2046), (1001, 2047), (1002, 2048)] [(6, .e (.one (.ptr 6 0))), (7, .e (.one (.pure (.val (.bool false)))))] [(6, .box [.own 1000, .own 1001, .own 1002]), (1000, .vec 1 ((([] : List Int)).map Af)), (1001, .vec 1 ((([] : List Int)).map Af)), (1002, .vec 1 ((([] : List Int)).map A3))] rfl rfl)))) (AB ?_)
      exact ⟨⟨[_, _], ⟨.cellN _ _ _ _ _ _ _ rfl rfl Bl AO rfl rfl (Fp rfl), ⟨.tmp _ _ rfl, trivial⟩⟩, rfl⟩, ⟨rfl, rfl, rfl, trivial⟩⟩
     ·have h := Aq c56 h
      refine Av (Aa Ad rfl (qf Bu rfl (ql A0 rfl (qm rfl ?_))))
      obtain ⟨v57, a57, b57, h⟩ := An h
      refine qI AE CS a57 (Al b57) rfl ?_
      refine DH rfl rfl rfl rfl (Al b57) rfl CS rfl (Bz rfl) (Dr Af ((([] : List Int)) ++ p1.fNext) _ ((-1))) ?_
      refine Ac ?_
      exact Ax _ h (sm [(2001, 18), (2002, 22), (2003, 26)] _ _ rfl rfl)
 ·refine Ab (Aa Ad rfl (qL Bl AO rfl (qs AO rfl (qa rfl (Ac ?_)))))
  obtain rfl := sj h
  refine Am (sm [(1000, 2001), (1001, 2002), (1002, 2003)] [(6, .e (.one (.ptr 6 0))), (7, .e (.one (.pure (.val (.bool true)))))] [(6, .box [.own 1000, .own 1001, .own 1002]), (1000, .vec 1 (v4.1.map Af)), (1001, .vec 1 (v4.2.1.map Af)), (1002, .vec 1 (v4.2.2.map A3))] rfl rfl) (AB ?_)
  exact ⟨⟨[_, _], ⟨.cellN _ _ _ _ _ _ _ rfl rfl Bl AO rfl rfl (Fp rfl), ⟨.tmp _ _ rfl, trivial⟩⟩, rfl⟩, ⟨rfl, rfl, rfl, trivial⟩⟩
set_option maxRecDepth 10000 in
theorem JA (N : Nat) (p0 : Ae) (p1 : Ah) (p2 : Ag) (r : Ah × Int) (h : DF N p0 p1 p2 = some r) : AD Try.prog 41 [.e (.agg [.pure (.sl (p0.fVersions.map Af)), .pure (.sl (p0.fNow.map Af)), .pure (.sl (p0.fTarget.map Af)), .pure (.sl (p0.fTables.map Ak))]), .e (.agg [.pure (.sl (p1.fBase.map Af)), .pure (.sl (p1.fNext.map Af)), .pure (.sl (p1.fHeld.map A3))]), .e (.agg [.pure (.val (.int .i64 p2.fKind)), .pure (.val (.int .i64 p2.fIndex)), .pure (.val (.int .i64 p2.fVersion))])] [(1, r.1.fBase.map Af), (1, r.1.fNext.map Af), (1, r.1.fHeld.map A3)] (.tup [.agg [.own 0, .own 1, .own 2], .one (.pure (.val (.int .i64 r.2)))]) := by
 unfold DF at h
 refine As (n := 73) (rs := [.cell 6 43, .tmp 7]) Try.func41 rfl rfl rfl (Bz rfl) (Bz rfl) rfl fun w0 S0 => ?_
 refine Ab (Aa Ad rfl (qb rfl (qb rfl (qb rfl (qz Co rfl (qa rfl (Ac (Ab (Ab (Aa Ad rfl (qL C5 CR rfl (qL Bl AO rfl ?_))))))))))))
 obtain ⟨v1, a1, h⟩ := bind_some h
 refine AI [] (Fn N p0 p1 v1 a1) Ud rfl (qa rfl (Ac (Ab (Aa Ad rfl (qm rfl (B0 rfl (Ac ?_)))))))
 refine Au rfl (fun c2 => ?_) (fun c2 => ?_)
 ·have h := Ap c2 h
  refine Ab (Aa Ad rfl (AV Co Fa rfl (qm rfl (qs AO rfl (qa rfl (Ac ?_))))))
  obtain rfl := sj h
  refine Am ((AA 6 0 2001 1 _ rfl rfl rfl rfl).trans ((AA 6 1 2002 1 _ rfl rfl rfl rfl).trans ((AA 6 2 2003 1 _ rfl rfl rfl rfl).trans (sm [(1000, 2001), (1001, 2002), (1002, 2003)] [(6, .e (.one (.ptr 6 0))), (7, .e (.one (.pure (.val (.int .i64 v1)))))] [(6, .box [.own 1000, .own 1001, .own 1002]), (1000, .vec 1 ((([] : List Int)).map Af)), (1001, .vec 1 ((([] : List Int)).map Af)), (1002, .vec 1 ((([] : List Int)).map A3))] rfl rfl)))) (AB ?_)
  exact ⟨⟨[_, _], ⟨.cellN _ _ _ _ _ _ _ rfl rfl Bl AO rfl rfl (Fp rfl), ⟨.tmp _ _ rfl, trivial⟩⟩, rfl⟩, ⟨rfl, rfl, rfl, trivial⟩⟩
 ·have h := Aq c2 h
  refine Av (Ab (Ab (Aa Ad rfl (qL Hb Cs rfl ?_))))
  obtain ⟨v3, a3, h⟩ := bind_some h
  refine AI [] (Jw N p2 v3 a3) VK rfl (Ch rfl (Ac ?_))
  refine Au rfl (fun c4 => ?_) (fun c4 => ?_)
  ·have h := Ap c4 h
   refine Ab (Aa Ad rfl (AV Co Fa rfl (qs AO rfl (qa rfl (Ac ?_)))))
   obtain rfl := sj h
   refine Am ((AA 6 0 2004 1 _ rfl rfl rfl rfl).trans ((AA 6 1 2005 1 _ rfl rfl rfl rfl).trans ((AA 6 2 2006 1 _ rfl rfl rfl rfl).trans (sm [(1000, 2004), (1001, 2005), (1002, 2006)] [(6, .e (.one (.ptr 6 0))), (7, .e (.one (.pure (.val (.int .i64 1)))))] [(6, .box [.own 1000, .own 1001, .own 1002]), (1000, .vec 1 ((([] : List Int)).map Af)), (1001, .vec 1 ((([] : List Int)).map Af)), (1002, .vec 1 ((([] : List Int)).map A3))] rfl rfl)))) (AB ?_)
   exact ⟨⟨[_, _], ⟨.cellN _ _ _ _ _ _ _ rfl rfl Bl AO rfl rfl (Fp rfl), ⟨.tmp _ _ rfl, trivial⟩⟩, rfl⟩, ⟨rfl, rfl, rfl, trivial⟩⟩
  ·have h := Aq c4 h
   refine Av (Ab ?_)
   refine AR h (fun v5 => mk [(3, .e (.one (.ptr 3 0))), (4, .e (.one (.ptr 4 0))), (5, .e (.one (.ptr 5 0))), (6, .e (.one (.ptr 6 0))), (45, .e (.one (.pure (.val (.bool v5)))))] [(3, .box [.pure (.sl (p0.fVersions.map Af)), .pure (.sl (p0.fNow.map Af)), .pure (.sl (p0.fTarget.map Af)), .pure (.sl (p0.fTables.map Ak))]), (4, .box [.pure (.sl (p1.fBase.map Af)), .pure (.sl (p1.fNext.map Af)), .pure (.sl (p1.fHeld.map A3))]), (5, .box [.pure (.val (.int .i64 p2.fKind)), .pure (.val (.int .i64 p2.fIndex)), .pure (.val (.int .i64 p2.fVersion))]), (6, .box [.pure (.nil0), .pure (.nil0), .pure (.nil0)])]) (fun j5 h => ?_) (fun v5 h => ?_)
   ·refine Aa Ad rfl (qf Ei rfl (ql B1 rfl (BO rfl (qm rfl ?_))))
    refine AF (t := 25) rfl (fun c6 => ?_) (fun c6 => ?_)
    ·have h := Ap c6 h
     refine qf D8 rfl (ql B1 rfl (qf Cl rfl (ql Gr rfl (AQ Dz rfl (DX rfl (qp rfl (qm rfl ?_)))))))
     refine AF (t := 33) rfl (fun c7 => ?_) (fun c7 => ?_)
     ·have h := Ap c7 h
      refine qn rfl (qn rfl (qn rfl (qn rfl (qu rfl (qu rfl (qu rfl (qu rfl (qu rfl (qu rfl (qn rfl (qp rfl (Ac ?_))))))))))))
      exact Ax _ h (sm [] _ _ rfl rfl)
     ·have h := Aq c7 h
      refine qf Ei rfl (ql B1 rfl (B0 rfl (qm rfl ?_)))
      refine AF (t := 37) rfl (fun c8 => ?_) (fun c8 => ?_)
      ·have h := Ap c8 h
       refine qf D8 rfl (ql B1 rfl (qf Bk rfl (ql A0 rfl (AQ AE rfl (DX rfl (qp rfl (qp rfl (Ac ?_))))))))
       exact Ax _ h (sm [] _ _ rfl rfl)
      ·have h := Aq c8 h
       refine qn rfl (qn rfl (qn rfl (qn rfl (qn rfl (qn rfl (qp rfl (qp rfl (Ac ?_))))))))
       exact Ax _ h (sm [] _ _ rfl rfl)
    ·have h := Aq c6 h
     refine qn rfl (qn rfl (qn rfl (qn rfl (qn rfl (qn rfl (qp rfl (qm rfl (qf Ei rfl (ql B1 rfl (B0 rfl (qm rfl ?_)))))))))))
     refine AF (t := 37) rfl (fun c9 => ?_) (fun c9 => ?_)
     ·have h := Ap c9 h
      refine qf D8 rfl (ql B1 rfl (qf Bk rfl (ql A0 rfl (AQ AE rfl (DX rfl (qp rfl (qp rfl (Ac ?_))))))))
      exact Ax _ h (sm [] _ _ rfl rfl)
     ·have h := Aq c9 h
      refine qn rfl (qn rfl (qn rfl (qn rfl (qn rfl (qn rfl (qp rfl (qp rfl (Ac ?_))))))))
      exact Ax _ h (sm [] _ _ rfl rfl)
   ·refine Au rfl (fun c10 => ?_) (fun c10 => ?_)
    ·have h := Ap c10 h
     refine Ab (Aa Ad rfl (AV Co Fa rfl (qs AO rfl (qa rfl (Ac ?_)))))
     obtain rfl := sj h
     refine Am ((AA 6 0 2007 1 _ rfl rfl rfl rfl).trans ((AA 6 1 2008 1 _ rfl rfl rfl rfl).trans ((AA 6 2 2009 1 _ rfl rfl rfl rfl).trans (sm [(1000, 2007), (1001, 2008), (1002, 2009)] [(6, .e (.one (.ptr 6 0))), (7, .e (.one (.pure (.val (.int .i64 4)))))] [(6, .box [.own 1000, .own 1001, .own 1002]), (1000, .vec 1 ((([] : List Int)).map Af)), (1001, .vec 1 ((([] : List Int)).map Af)), (1002, .vec 1 ((([] : List Int)).map A3))] rfl rfl)))) (AB ?_)
     exact ⟨⟨[_, _], ⟨.cellN _ _ _ _ _ _ _ rfl rfl Bl AO rfl rfl (Fp rfl), ⟨.tmp _ _ rfl, trivial⟩⟩, rfl⟩, ⟨rfl, rfl, rfl, trivial⟩⟩
    ·have h := Aq c10 h
     refine Av (Ab ?_)
     refine AR h (fun v11 => mk [(3, .e (.one (.ptr 3 0))), (4, .e (.one (.ptr 4 0))), (5, .e (.one (.ptr 5 0))), (6, .e (.one (.ptr 6 0))), (60, .e (.one (.pure (.val (.bool v11)))))] [(3, .box [.pure (.sl (p0.fVersions.map Af)), .pure (.sl (p0.fNow.map Af)), .pure (.sl (p0.fTarget.map Af)), .pure (.sl (p0.fTables.map Ak))]), (4, .box [.pure (.sl (p1.fBase.map Af)), .pure (.sl (p1.fNext.map Af)), .pure (.sl (p1.fHeld.map A3))]), (5, .box [.pure (.val (.int .i64 p2.fKind)), .pure (.val (.int .i64 p2.fIndex)), .pure (.val (.int .i64 p2.fVersion))]), (6, .box [.pure (.nil0), .pure (.nil0), .pure (.nil0)])]) (fun j11 h => ?_) (fun v11 h => ?_)
     ·refine Aa Ad rfl (qf Ei rfl (ql B1 rfl (BO rfl (qm rfl ?_))))
      refine AF (t := 50) rfl (fun c12 => ?_) (fun c12 => ?_)
      ·have h := Ap c12 h
       refine qf FH rfl (ql B1 rfl (qf Bk rfl (ql A0 rfl (qf D8 rfl (ql B1 rfl ?_)))))
       obtain ⟨v13, a13, b13, h⟩ := An h
       refine qi AE CS a13 (Al b13) rfl (qk B1 rfl (DX rfl (qp rfl (AX (by kernel_rfl) ?_))))
       exact Ax _ h (sm [] _ _ rfl rfl)
      ·have h := Aq c12 h
       refine qn rfl (qn rfl (qn rfl (qn rfl (qn rfl (qn rfl (qn rfl (qn rfl (qn rfl (qp rfl (AX (by kernel_rfl) ?_))))))))))
       exact Ax _ h (sm [] _ _ rfl rfl)
     ·refine Au rfl (fun c14 => ?_) (fun c14 => ?_)
      ·have h := Ap c14 h
       refine Ab (Aa Ad rfl (AV Co Fa rfl (qs AO rfl (qa rfl (Ac ?_)))))
       obtain rfl := sj h
       refine Am ((AA 6 0 2010 1 _ rfl rfl rfl rfl).trans ((AA 6 1 2011 1 _ rfl rfl rfl rfl).trans ((AA 6 2 2012 1 _ rfl rfl rfl rfl).trans (sm [(1000, 2010), (1001, 2011), (1002, 2012)] [(6, .e (.one (.ptr 6 0))), (7, .e (.one (.pure (.val (.int .i64 4)))))] [(6, .box [.own 1000, .own 1001, .own 1002]), (1000, .vec 1 ((([] : List Int)).map Af)), (1001, .vec 1 ((([] : List Int)).map Af)), (1002, .vec 1 ((([] : List Int)).map A3))] rfl rfl)))) (AB ?_)
       exact ⟨⟨[_, _], ⟨.cellN _ _ _ _ _ _ _ rfl rfl Bl AO rfl rfl (Fp rfl), ⟨.tmp _ _ rfl, trivial⟩⟩, rfl⟩, ⟨rfl, rfl, rfl, trivial⟩⟩
      ·have h := Aq c14 h
       refine Av (Ab (Aa Ad rfl (qL C5 CR rfl (qL Bl AO rfl (qL Hb Cs rfl ?_)))))
       obtain ⟨v15, a15, h⟩ := bind_some h
       refine AI [2013, 2014, 2015] (Jz N p0 p1 p2 v15 a15) Wj rfl (qm rfl (qx rfl (qx rfl (qz Co rfl (qs AO rfl (qa rfl (Ac (Ab (Ab (Aa Ad rfl (qm rfl (Ch rfl (Ac ?_)))))))))))))
       refine Au rfl (fun c16 => ?_) (fun c16 => ?_)
       ·have h := Ap c16 h
        refine Ab (Aa Ad rfl (AV Co Fa rfl (qs AO rfl (qa rfl (Ac ?_)))))
        obtain rfl := sj h
        refine Am ((AA 6 0 2016 1 _ rfl rfl rfl rfl).trans ((AA 6 1 2017 1 _ rfl rfl rfl rfl).trans ((AA 6 2 2018 1 _ rfl rfl rfl rfl).trans (sm [(1000, 2016), (1001, 2017), (1002, 2018)] [(6, .e (.one (.ptr 6 0))), (7, .e (.one (.pure (.val (.int .i64 11)))))] [(6, .box [.own 1000, .own 1001, .own 1002]), (1000, .vec 1 ((([] : List Int)).map Af)), (1001, .vec 1 ((([] : List Int)).map Af)), (1002, .vec 1 ((([] : List Int)).map A3))] rfl rfl)))) (AB ?_)
        exact ⟨⟨[_, _], ⟨.cellN _ _ _ _ _ _ _ rfl rfl Bl AO rfl rfl (Fp rfl), ⟨.tmp _ _ rfl, trivial⟩⟩, rfl⟩, ⟨rfl, rfl, rfl, trivial⟩⟩
       ·have h := Aq c16 h
        refine Av (Ab (Aa Ad rfl (qL Bl AO rfl (qs AO rfl (qa rfl (Ac ?_))))))
        obtain rfl := sj h
        refine Am (sm [(1000, 2013), (1001, 2014), (1002, 2015)] [(6, .e (.one (.ptr 6 0))), (7, .e (.one (.pure (.val (.int .i64 0)))))] [(6, .box [.own 1000, .own 1001, .own 1002]), (1000, .vec 1 (v15.1.fBase.map Af)), (1001, .vec 1 (v15.1.fNext.map Af)), (1002, .vec 1 (v15.1.fHeld.map A3))] rfl rfl) (AB ?_)
        exact ⟨⟨[_, _], ⟨.cellN _ _ _ _ _ _ _ rfl rfl Bl AO rfl rfl (Fp rfl), ⟨.tmp _ _ rfl, trivial⟩⟩, rfl⟩, ⟨rfl, rfl, rfl, trivial⟩⟩
set_option maxRecDepth 10000 in
theorem IH (N : Nat) (p0 : Ah) (r : Ah) (h : Du N p0 = some r) : AD Try.prog 85 [.e (.agg [.pure (.sl (p0.fBase.map Af)), .pure (.sl (p0.fNext.map Af)), .pure (.sl (p0.fHeld.map A3))])] [(1, r.fBase.map Af), (1, r.fNext.map Af), (1, r.fHeld.map A3)] (.e (.agg [.own 0, .own 1, .own 2])) := by
 unfold Du at h
 refine As (n := 16) (rs := [.cell 2 43]) Try.func85 rfl rfl rfl (Bz rfl) (Bz rfl) rfl fun w0 S0 => ?_
 refine Ab (Aa Ad rfl (qb rfl (qz Co rfl (Ac (Ab (Aa Ad rfl (D2 AE CS J4 rfl (qf Cp rfl (ql A0 rfl ?_)))))))))
 obtain ⟨c1, h⟩ := AG h
 refine F0 (f := Af) AE AE CS K2 J4 (fun _ => rfl) c1 rfl (D2 AE CS J4 rfl (qf Bu rfl (ql A0 rfl ?_)))
 obtain ⟨c2, h⟩ := AG h
 refine F0 (f := Af) AE AE CS K2 J4 (fun _ => rfl) c2 rfl (D2 C8 E5 NF rfl (qf Cn rfl (ql Gq rfl ?_)))
 obtain ⟨c3, h⟩ := AG h
 refine F0 (f := A3) C8 C8 E5 Po NF (fun _ => rfl) c3 rfl (AV Co Fa rfl (qs AO rfl (AX (by kernel_rfl) ?_)))
 obtain rfl := sj h
 refine Am (sm [(1000, 6), (1001, 10), (1002, 14)] [(2, .e (.one (.ptr 2 0)))] [(2, .box [.own 1000, .own 1001, .own 1002]), (1000, .vec 1 (((([] : List Int)) ++ p0.fBase).map Af)), (1001, .vec 1 (((([] : List Int)) ++ p0.fNext).map Af)), (1002, .vec 1 (((([] : List Int)) ++ p0.fHeld).map A3))] rfl rfl) (AB ?_)
 exact ⟨⟨[_], ⟨.cellN _ _ _ _ _ _ _ rfl rfl Bl AO rfl rfl (Fp rfl), trivial⟩, rfl⟩, ⟨rfl, rfl, rfl, trivial⟩⟩
set_option maxRecDepth 10000 in
theorem Ky (N : Nat) (p0 : Ah) (r : (List Ah)) (h : Dw N p0 = some r) : AD Try.prog 50 [.e (.agg [.pure (.sl (p0.fBase.map Af)), .pure (.sl (p0.fNext.map Af)), .pure (.sl (p0.fHeld.map A3))])] [(3, r.map Db)] (.e (.one (.own 0))) := by
 unfold Dw at h
 refine As (n := 62) (rs := [.tmp 2]) Try.func50 rfl rfl rfl (Bz rfl) (Bz rfl) rfl fun w0 S0 => ?_
 refine Ab (Aa Ad rfl (qb rfl (qa rfl (Ac (Ab (Aa Ad rfl (qa rfl (Ac (Ab (Ab (Aa Ad rfl (qa rfl (Ac ?_)))))))))))))
 refine AP (L := B7 N p0) h (fun v1 => mk [(1, .e (.one (.ptr 1 0))), (3, .e (.one (.pure (.val (.int .i64 v1.1))))), (4, .e (.one (.pure (.val (.int .i64 v1.2)))))] [(1, .box [.pure (.sl (p0.fBase.map Af)), .pure (.sl (p0.fNext.map Af)), .pure (.sl (p0.fHeld.map A3))])]) (fun v2 => mk [(1, .e (.one (.ptr 1 0))), (3, .e (.one (.pure (.val (.int .i64 v2)))))] [(1, .box [.pure (.sl (p0.fBase.map Af)), .pure (.sl (p0.fNext.map Af)), .pure (.sl (p0.fHeld.map A3))])]) (fun _ _ => rfl) (sm [] _ _ rfl rfl) (fun j1 n1 v1 h => ?_) (fun v2 s h hs => ?_)
 ·unfold B7 at h
  refine Ab (Ab (Aa Ad rfl (qm rfl (qf Bu rfl (ql A0 rfl (AQ AE rfl (Bc rfl (Ac ?_))))))))
  refine Au rfl (fun c3 => ?_) (fun c3 => ?_)
  ·have h := Ap c3 h
   refine Av ?_
   refine AR h (fun v4 => mk [(1, .e (.one (.ptr 1 0))), (3, .e (.one (.pure (.val (.int .i64 v4))))), (4, .e (.one (.pure (.val (.int .i64 v1.2)))))] [(1, .box [.pure (.sl (p0.fBase.map Af)), .pure (.sl (p0.fNext.map Af)), .pure (.sl (p0.fHeld.map A3))])]) (fun j4 h => ?_) (fun v4 h => ?_)
   ·refine AW (Ab (Aa Ad rfl (qf Bu rfl (ql A0 rfl (qm rfl ?_)))))
    obtain ⟨v5, a5, b5, h⟩ := An h
    refine qi AE CS a5 (Al b5) rfl (qk B1 rfl (DX rfl (Ac ?_)))
    refine Au rfl (fun c6 => ?_) (fun c6 => ?_)
    ·have h := Ap c6 h
     refine Aa Ad rfl (qm rfl (Bm rfl (qa rfl (Ac ?_))))
     exact Ax _ h (sm [] _ _ rfl rfl)
    ·have h := Aq c6 h
     refine Av ?_
     exact Ax _ h (sm [] _ _ rfl rfl)
   ·refine Aa Ad rfl (qm rfl (Bm rfl (qa rfl (Ac ?_))))
    exact Ax _ h (sm [] _ _ rfl rfl)
  ·have h := Aq c3 h
   refine A1 ?_
   exact Ax _ h (sm [] _ _ rfl rfl)
 ·refine Am hs (Ab (Aa Ad rfl (qa rfl (Ac (Ab (Ab (Aa Ad rfl (qa rfl (Ac ?_)))))))))
  refine AP (L := Bi N p0 v2) h (fun v7 => mk [(1, .e (.one (.ptr 1 0))), (3, .e (.one (.pure (.val (.int .i64 v2))))), (5, .e (.one (.own 2001))), (6, .e (.one (.pure (.val (.int .i64 v7.2)))))] [(1, .box [.pure (.sl (p0.fBase.map Af)), .pure (.sl (p0.fNext.map Af)), .pure (.sl (p0.fHeld.map A3))]), (2001, .vec 3 (v7.1.map Db))]) (fun v8 => mk [(5, .e (.one (.own 2002)))] [(2002, .vec 3 (v8.map Db))]) (fun _ _ => rfl) ((BR 5 2022 3 rfl rfl rfl).trans (sm [(2001, 2022)] _ _ rfl rfl)) (fun j7 n7 v7 h => ?_) (fun v8 s h hs => ?_)
  ·unfold Bi at h
   refine Ab (Ab (Aa Ad rfl (qm rfl (qm rfl ?_))))
   obtain ⟨c9, h⟩ := AG h
   refine HD rfl c9 (Bc rfl (Ac ?_))
   refine Au rfl (fun c10 => ?_) (fun c10 => ?_)
   ·have h := Ap c10 h
    refine Av (Ab (AW (Ab (Aa Ad rfl (qL Bl AO rfl ?_)))))
    obtain ⟨v11, a11, h⟩ := bind_some h
    refine AI [2003, 2004, 2005] (IH N p0 v11 a11) Wm rfl (qz Co rfl (qs AO rfl (Ac (Ab (Aa Ad rfl (qa rfl (Ac (Ab (Ab (Aa Ad rfl (qa rfl (Ac ?_))))))))))))
    refine AP (L := BD N p0 v7) h (fun v12 => mk [(1, .e (.one (.ptr 1 0))), (3, .e (.one (.pure (.val (.int .i64 v2))))), (5, .e (.one (.own 2009))), (6, .e (.one (.pure (.val (.int .i64 v7.2))))), (7, .e (.one (.ptr 7 0))), (8, .e (.one (.pure (.val (.int .i64 v12.2.1))))), (9, .e (.one (.pure (.val (.int .i64 v12.2.2)))))] [(1, .box [.pure (.sl (p0.fBase.map Af)), .pure (.sl (p0.fNext.map Af)), .pure (.sl (p0.fHeld.map A3))]), (7, .box [.own 2006, .own 2007, .own 2008]), (2006, .vec 1 (v11.fBase.map Af)), (2007, .vec 1 (v12.1.map Af)), (2008, .vec 1 (v11.fHeld.map A3)), (2009, .vec 3 (v7.1.map Db))]) (fun v13 => mk [(1, .e (.one (.ptr 1 0))), (3, .e (.one (.pure (.val (.int .i64 v2))))), (5, .e (.one (.own 2013))), (6, .e (.one (.pure (.val (.int .i64 v7.2))))), (7, .e (.one (.ptr 7 0)))] [(1, .box [.pure (.sl (p0.fBase.map Af)), .pure (.sl (p0.fNext.map Af)), .pure (.sl (p0.fHeld.map A3))]), (7, .box [.own 2010, .own 2011, .own 2012]), (2010, .vec 1 (v11.fBase.map Af)), (2011, .vec 1 (v13.map Af)), (2012, .vec 1 (v11.fHeld.map A3)), (2013, .vec 3 (v7.1.map Db))]) (fun _ _ => rfl) (sm [(2006, 2003), (2007, 2004), (2008, 2005), (2009, 2001)] _ _ rfl rfl) (fun j12 n12 v12 h => ?_) (fun v13 s h hs => ?_)
    ·unfold BD at h
     refine Ab (Ab (Aa Ad rfl (qm rfl (qf Bu rfl (ql A0 rfl (AQ AE rfl (Bc rfl (Ac ?_))))))))
     refine Au rfl (fun c14 => ?_) (fun c14 => ?_)
     ·have h := Ap c14 h
      refine Av ?_
      refine AR h (fun v15 => mk [(1, .e (.one (.ptr 1 0))), (3, .e (.one (.pure (.val (.int .i64 v2))))), (5, .e (.one (.own 2017))), (6, .e (.one (.pure (.val (.int .i64 v7.2))))), (7, .e (.one (.ptr 7 0))), (8, .e (.one (.pure (.val (.int .i64 v15.2))))), (9, .e (.one (.pure (.val (.int .i64 v12.2.2)))))] [(1, .box [.pure (.sl (p0.fBase.map Af)), .pure (.sl (p0.fNext.map Af)), .pure (.sl (p0.fHeld.map A3))]), (7, .box [.own 2014, .own 2015, .own 2016]), (2014, .vec 1 (v11.fBase.map Af)), (2015, .vec 1 (v15.1.map Af)), (2016, .vec 1 (v11.fHeld.map A3)), (2017, .vec 3 (v7.1.map Db))]) (fun j15 h => ?_) (fun v15 h => ?_)
      ·refine AW (Ab (Ab (Aa Ad rfl (qf Bu rfl (ql A0 rfl (qm rfl ?_))))))
       obtain ⟨v16, a16, b16, h⟩ := An h
       refine qi AE CS a16 (Al b16) rfl (qk B1 rfl (Bc rfl (Ac ?_)))
       refine Au rfl (fun c17 => ?_) (fun c17 => ?_)
       ·have h := Ap c17 h
        refine A1 ?_
        exact Ax _ h (sm [(2014, 2006), (2015, 2007), (2016, 2008), (2017, 2009)] _ _ rfl rfl)
       ·have h := Aq c17 h
        refine Av ?_
        refine AR h (fun v18 => mk [(1, .e (.one (.ptr 1 0))), (3, .e (.one (.pure (.val (.int .i64 v2))))), (5, .e (.one (.own 2021))), (6, .e (.one (.pure (.val (.int .i64 v7.2))))), (7, .e (.one (.ptr 7 0))), (8, .e (.one (.pure (.val (.int .i64 v12.2.1))))), (9, .e (.one (.pure (.val (.int .i64 v12.2.2)))))] [(1, .box [.pure (.sl (p0.fBase.map Af)), .pure (.sl (p0.fNext.map Af)), .pure (.sl (p0.fHeld.map A3))]), (7, .box [.own 2018, .own 2019, .own 2020]), (2018, .vec 1 (v11.fBase.map Af)), (2019, .vec 1 (v18.map Af)), (2020, .vec 1 (v11.fHeld.map A3)), (2021, .vec 3 (v7.1.map Db))]) (fun j18 h => ?_) (fun v18 h => ?_)
        ·refine Ab (Aa Ad rfl (qm rfl (qm rfl ?_)))
         obtain ⟨c19, h⟩ := AG h
         refine Ia rfl c19 (KI rfl (by decide) (BO rfl (Ac ?_)))
         refine Au rfl (fun c20 => ?_) (fun c20 => ?_)
         ·have h := Ap c20 h
          refine Aa Ad rfl (qf Bu rfl (ql A0 rfl (qm rfl ?_)))
          obtain ⟨v21, a21, b21, h⟩ := An h
          refine qI AE CS a21 (Al b21) rfl ?_
          refine DH rfl rfl rfl rfl (Al b21) rfl CS rfl (Bz rfl) (Dr Af v12.1 _ ((-1))) ?_
          refine Ac ?_
          exact Ax _ h (sm [(2018, 2006), (2019, 2007), (2020, 2008), (2021, 2009)] _ _ rfl rfl)
         ·have h := Aq c20 h
          refine Av ?_
          exact Ax _ h (sm [(2018, 2006), (2019, 2007), (2020, 2008), (2021, 2009)] _ _ rfl rfl)
        ·refine Aa Ad rfl (qm rfl (Bm rfl (qa rfl (Ac ?_))))
         exact Ax _ h (sm [(2014, 2018), (2015, 2019), (2016, 2020), (2017, 2021)] _ _ rfl rfl)
      ·refine Aa Ad rfl (qm rfl (Bm rfl (qa rfl (Ac ?_))))
       exact Ax _ h (sm [(2006, 2014), (2007, 2015), (2008, 2016), (2009, 2017)] _ _ rfl rfl)
     ·have h := Aq c14 h
      refine A1 ?_
      exact Ax _ h (sm [(2010, 2006), (2011, 2007), (2012, 2008), (2013, 2009)] _ _ rfl rfl)
    ·refine Am hs (Aa Ad rfl (qm rfl (qL Bl AO rfl (Dg (Bf 2010 _ _ rfl rfl) (Dg (Bf 2011 _ _ rfl rfl) (Dg (Bf 2012 _ _ rfl rfl) (D2 I7 AO Co rfl ?_)))))))
     obtain ⟨c22, h⟩ := AG h
     refine DM (f := Db) I7 I7 AO To Co c22 rfl (qa rfl (Ac (Aa Ad rfl (qm rfl (Bm rfl (qa rfl (Ac ?_)))))))
     exact Ax _ h (sm [(2001, 60)] _ _ rfl rfl)
   ·have h := Aq c10 h
    refine A1 ?_
    exact Ax _ h (sm [(2002, 2001)] _ _ rfl rfl)
  ·refine Am hs (Ab (Aa Ad rfl (qm rfl (qa rfl (Ac ?_)))))
   obtain rfl := sj h
   refine Am (sm [(1000, 2002)] [(2, .e (.one (.own 1000)))] [(1000, .vec 3 (v8.map Db))] rfl rfl) (AB ?_)
   exact ⟨⟨[_], ⟨.tmp _ _ rfl, trivial⟩, rfl⟩, ⟨rfl, trivial⟩⟩
set_option maxRecDepth 10000 in
theorem IG (N : Nat) (p0 : Ae) (p1 : Ah) (r : (List Ah) × Int) (h : D6 N p0 p1 = some r) : AD Try.prog 81 [.e (.agg [.pure (.sl (p0.fVersions.map Af)), .pure (.sl (p0.fNow.map Af)), .pure (.sl (p0.fTarget.map Af)), .pure (.sl (p0.fTables.map Ak))]), .e (.agg [.pure (.sl (p1.fBase.map Af)), .pure (.sl (p1.fNext.map Af)), .pure (.sl (p1.fHeld.map A3))])] [(3, r.1.map Db)] (.tup [.one (.own 0), .one (.pure (.val (.int .i64 r.2)))]) := by
 unfold D6 at h
 refine As (n := 15) (rs := [.tmp 4, .tmp 5]) Try.func81 rfl rfl rfl (Bz rfl) (Bz rfl) rfl fun w0 S0 => ?_
 refine Ab (Aa Ad rfl (qb rfl (qb rfl (qa rfl (qa rfl (Ac (Ab (Ab (Aa Ad rfl (qL C5 CR rfl (qL Bl AO rfl ?_)))))))))))
 obtain ⟨v1, a1, h⟩ := bind_some h
 refine AI [] (Fn N p0 p1 v1 a1) Ud rfl (qa rfl (Ac (Ab (Aa Ad rfl (qm rfl (B0 rfl (Ac ?_)))))))
 refine Au rfl (fun c2 => ?_) (fun c2 => ?_)
 ·have h := Ap c2 h
  refine Ab (Aa Ad rfl (qm rfl (qa rfl (qa rfl (Ac ?_)))))
  obtain rfl := sj h
  refine Am ((BR 4 2001 3 rfl rfl rfl).trans (sm [(1000, 2001)] [(4, .e (.one (.own 1000))), (5, .e (.one (.pure (.val (.int .i64 v1)))))] [(1000, .vec 3 ((([] : List Ah)).map Db))] rfl rfl)) (AB ?_)
  exact ⟨⟨[_, _], ⟨.tmp _ _ rfl, ⟨.tmp _ _ rfl, trivial⟩⟩, rfl⟩, ⟨rfl, trivial⟩⟩
 ·have h := Aq c2 h
  refine Av (Ab (Aa Ad rfl (qL Bl AO rfl ?_)))
  obtain ⟨v3, a3, h⟩ := bind_some h
  refine AI [2002] (Ky N p1 v3 a3) V3 rfl (qa rfl (qa rfl (Ac ?_)))
  obtain rfl := sj h
  refine Am (sm [(1000, 2002)] [(4, .e (.one (.own 1000))), (5, .e (.one (.pure (.val (.int .i64 0)))))] [(1000, .vec 3 (v3.map Db))] rfl rfl) (AB ?_)
  exact ⟨⟨[_, _], ⟨.tmp _ _ rfl, ⟨.tmp _ _ rfl, trivial⟩⟩, rfl⟩, ⟨rfl, trivial⟩⟩
set_option maxRecDepth 10000 in
theorem Jt (N : Nat) (p0 : Ae) (p1 : Ah) (r : (List Aj)) (h : DG N p0 p1 = some r) : AD Try.prog 82 [.e (.agg [.pure (.sl (p0.fVersions.map Af)), .pure (.sl (p0.fNow.map Af)), .pure (.sl (p0.fTarget.map Af)), .pure (.sl (p0.fTables.map Ak))]), .e (.agg [.pure (.sl (p1.fBase.map Af)), .pure (.sl (p1.fNext.map Af)), .pure (.sl (p1.fHeld.map A3))])] [(3, r.map AU)] (.e (.one (.own 0))) := by
 unfold DG at h
 refine As (n := 111) (rs := [.tmp 4]) Try.func82 rfl rfl rfl (Bz rfl) (Bz rfl) rfl fun w0 S0 => ?_
 refine Ab (Aa Ad rfl (qb rfl (qb rfl (qa rfl (Ac (Ab (Aa Ad rfl (qa rfl (Ac (Ab (Ab (Aa Ad rfl (qa rfl (Ac ?_))))))))))))))
 refine AP (L := B9 N p0 p1) h (fun v1 => mk [(2, .e (.one (.ptr 2 0))), (3, .e (.one (.ptr 3 0))), (5, .e (.one (.own 2001))), (6, .e (.one (.pure (.val (.int .i64 v1.2)))))] [(2, .box [.pure (.sl (p0.fVersions.map Af)), .pure (.sl (p0.fNow.map Af)), .pure (.sl (p0.fTarget.map Af)), .pure (.sl (p0.fTables.map Ak))]), (3, .box [.pure (.sl (p1.fBase.map Af)), .pure (.sl (p1.fNext.map Af)), .pure (.sl (p1.fHeld.map A3))]), (2001, .vec 3 (v1.1.map AU))]) (fun v2 => mk [(5, .e (.one (.own 2002)))] [(2002, .vec 3 (v2.map AU))]) (fun _ _ => rfl) ((BR 5 2013 3 rfl rfl rfl).trans (sm [(2001, 2013)] _ _ rfl rfl)) (fun j1 n1 v1 h => ?_) (fun v2 s h hs => ?_)
 ·unfold B9 at h
  refine Ab (Ab (Aa Ad rfl (qm rfl (qf Cl rfl (ql Gr rfl (AQ Dz rfl (Bc rfl (Ac ?_))))))))
  refine Au rfl (fun c3 => ?_) (fun c3 => ?_)
  ·have h := Ap c3 h
   refine Av (Ab (AW (Ab (Aa Ad rfl (qf Cl rfl (ql Gr rfl (qm rfl ?_)))))))
   obtain ⟨v4, a4, b4, h⟩ := An h
   refine qi Dz Dt a4 (Al b4) rfl (qK Gm Dt rfl (qz Jx rfl (qs Dt rfl (Ac (Ab (Aa Ad rfl (qL Bl AO rfl (qf CF rfl (ql B1 rfl ?_)))))))))
   obtain ⟨v5, a5, h⟩ := bind_some h
   refine AI [] (Dp N p1 v4.fFrom v5 a5) QY rfl (qa rfl (Ac ?_))
   refine AR h (fun v6 => mk [(2, .e (.one (.ptr 2 0))), (3, .e (.one (.ptr 3 0))), (5, .e (.one (.own 2003))), (6, .e (.one (.pure (.val (.int .i64 v1.2))))), (7, .e (.one (.ptr 7 0))), (8, .e (.one (.pure (.val (.int .u8 v6)))))] [(2, .box [.pure (.sl (p0.fVersions.map Af)), .pure (.sl (p0.fNow.map Af)), .pure (.sl (p0.fTarget.map Af)), .pure (.sl (p0.fTables.map Ak))]), (3, .box [.pure (.sl (p1.fBase.map Af)), .pure (.sl (p1.fNext.map Af)), .pure (.sl (p1.fHeld.map A3))]), (7, .box [.pure (.val (.int .i64 v4.fKind)), .pure (.val (.int .i64 v4.fFrom)), .pure (.val (.int .i64 v4.fTo)), .pure (.val (.bool v4.fAware)), .pure (.sl (v4.fOK.map (DY eB))), .pure (.sl (v4.fRewrite.map (DY eB)))]), (2003, .vec 3 (v1.1.map AU))]) (fun j6 h => ?_) (fun v6 h => ?_)
   ·refine Ab (Aa Ad rfl (qL Gm Dt rfl ?_))
    obtain ⟨v7, a7, h⟩ := bind_some h
    refine AI [] (BZ N v4 v7 a7) NB rfl (Ac ?_)
    refine Au rfl (fun c8 => ?_) (fun c8 => ?_)
    ·have h := Ap c8 h
     refine Aa Ad rfl (qf Cn rfl (ql Gq rfl (qm rfl ?_)))
     obtain ⟨v9, a9, b9, h⟩ := An h
     refine qi C8 E5 a9 (Al b9) rfl (qk Jv rfl (qa rfl (Ac ?_)))
     exact Ax _ h (sm [(2003, 2001)] _ _ rfl rfl)
    ·have h := Aq c8 h
     refine Av ?_
     exact Ax _ h (sm [(2003, 2001)] _ _ rfl rfl)
   ·refine Ab (Aa Ad rfl (qa rfl (Ac ?_)))
    refine AP (L := Bo N p0 p1 v1 v4 v6) h (fun v10 => mk [(2, .e (.one (.ptr 2 0))), (3, .e (.one (.ptr 3 0))), (5, .e (.one (.own 2004))), (6, .e (.one (.pure (.val (.int .i64 v1.2))))), (7, .e (.one (.ptr 7 0))), (8, .e (.one (.pure (.val (.int .u8 v6))))), (9, .e (.one (.pure (.val (.int .i64 v10.2)))))] [(2, .box [.pure (.sl (p0.fVersions.map Af)), .pure (.sl (p0.fNow.map Af)), .pure (.sl (p0.fTarget.map Af)), .pure (.sl (p0.fTables.map Ak))]), (3, .box [.pure (.sl (p1.fBase.map Af)), .pure (.sl (p1.fNext.map Af)), .pure (.sl (p1.fHeld.map A3))]), (7, .box [.pure (.val (.int .i64 v4.fKind)), .pure (.val (.int .i64 v4.fFrom)), .pure (.val (.int .i64 v4.fTo)), .pure (.val (.bool v4.fAware)), .pure (.sl (v4.fOK.map (DY eB))), .pure (.sl (v4.fRewrite.map (DY eB)))]), (2004, .vec 3 (v10.1.map AU))]) (fun v11 => mk [(2, .e (.one (.ptr 2 0))), (3, .e (.one (.ptr 3 0))), (5, .e (.one (.own 2005))), (6, .e (.one (.pure (.val (.int .i64 v1.2)))))] [(2, .box [.pure (.sl (p0.fVersions.map Af)), .pure (.sl (p0.fNow.map Af)), .pure (.sl (p0.fTarget.map Af)), .pure (.sl (p0.fTables.map Ak))]), (3, .box [.pure (.sl (p1.fBase.map Af)), .pure (.sl (p1.fNext.map Af)), .pure (.sl (p1.fHeld.map A3))]), (2005, .vec 3 (v11.map AU))]) (fun _ _ => rfl) (sm [(2004, 2003)] _ _ rfl rfl) (fun j10 n10 v10 h => ?_) (fun v11 s h hs => ?_)
    ·unfold Bo at h
     refine Ab (Ab (Aa Ad rfl (qm rfl (qf Bk rfl (ql A0 rfl (qf CF rfl (ql B1 rfl ?_)))))))
     obtain ⟨v12, a12, b12, h⟩ := An h
     refine qi AE CS a12 (Al b12) rfl (qk B1 rfl (Bc rfl (Ac ?_)))
     refine Au rfl (fun c13 => ?_) (fun c13 => ?_)
     ·have h := Ap c13 h
      refine Av ?_
      refine AR h (fun v14 => mk [(2, .e (.one (.ptr 2 0))), (3, .e (.one (.ptr 3 0))), (5, .e (.one (.own 2006))), (6, .e (.one (.pure (.val (.int .i64 v1.2))))), (7, .e (.one (.ptr 7 0))), (8, .e (.one (.pure (.val (.int .u8 v6))))), (9, .e (.one (.pure (.val (.int .i64 v10.2)))))] [(2, .box [.pure (.sl (p0.fVersions.map Af)), .pure (.sl (p0.fNow.map Af)), .pure (.sl (p0.fTarget.map Af)), .pure (.sl (p0.fTables.map Ak))]), (3, .box [.pure (.sl (p1.fBase.map Af)), .pure (.sl (p1.fNext.map Af)), .pure (.sl (p1.fHeld.map A3))]), (7, .box [.pure (.val (.int .i64 v4.fKind)), .pure (.val (.int .i64 v4.fFrom)), .pure (.val (.int .i64 v4.fTo)), .pure (.val (.bool v4.fAware)), .pure (.sl (v4.fOK.map (DY eB))), .pure (.sl (v4.fRewrite.map (DY eB)))]), (2006, .vec 3 (v14.map AU))]) (fun j14 h => ?_) (fun v14 h => ?_)
      ·refine AW (Ab (Ab (Aa Ad rfl (qm rfl (qm rfl ?_)))))
       obtain ⟨v15, a15, h⟩ := bind_some h
       refine AI [] (EP N v6 v10.2 v15 a15) Se rfl (Ch rfl (Ac ?_))
       refine Au rfl (fun c16 => ?_) (fun c16 => ?_)
       ·have h := Ap c16 h
        refine A1 ?_
        exact Ax _ h (sm [(2006, 2004)] _ _ rfl rfl)
       ·have h := Aq c16 h
        refine Av (Ab (Aa Ad rfl (qa rfl (Ac (Ab (Ab (Aa Ad rfl (qa rfl (Ac ?_)))))))))
        refine AP (L := Bd N p0 p1 v1 v4 v10) h (fun v17 => mk [(2, .e (.one (.ptr 2 0))), (3, .e (.one (.ptr 3 0))), (5, .e (.one (.own 2007))), (6, .e (.one (.pure (.val (.int .i64 v1.2))))), (7, .e (.one (.ptr 7 0))), (8, .e (.one (.pure (.val (.int .u8 v6))))), (9, .e (.one (.pure (.val (.int .i64 v10.2))))), (10, .e (.one (.pure (.val (.bool v17.2.1))))), (11, .e (.one (.pure (.val (.int .i64 v17.2.2)))))] [(2, .box [.pure (.sl (p0.fVersions.map Af)), .pure (.sl (p0.fNow.map Af)), .pure (.sl (p0.fTarget.map Af)), .pure (.sl (p0.fTables.map Ak))]), (3, .box [.pure (.sl (p1.fBase.map Af)), .pure (.sl (p1.fNext.map Af)), .pure (.sl (p1.fHeld.map A3))]), (7, .box [.pure (.val (.int .i64 v4.fKind)), .pure (.val (.int .i64 v4.fFrom)), .pure (.val (.int .i64 v4.fTo)), .pure (.val (.bool v4.fAware)), .pure (.sl (v4.fOK.map (DY eB))), .pure (.sl (v4.fRewrite.map (DY eB)))]), (2007, .vec 3 (v17.1.map AU))]) (fun v18 => mk [(2, .e (.one (.ptr 2 0))), (3, .e (.one (.ptr 3 0))), (5, .e (.one (.own 2008))), (6, .e (.one (.pure (.val (.int .i64 v1.2))))), (7, .e (.one (.ptr 7 0))), (8, .e (.one (.pure (.val (.int .u8 v6))))), (9, .e (.one (.pure (.val (.int .i64 v10.2))))), (10, .e (.one (.pure (.val (.bool v18.2)))))] [(2, .box [.pure (.sl (p0.fVersions.map Af)), .pure (.sl (p0.fNow.map Af)), .pure (.sl (p0.fTarget.map Af)), .pure (.sl (p0.fTables.map Ak))]), (3, .box [.pure (.sl (p1.fBase.map Af)), .pure (.sl (p1.fNext.map Af)), .pure (.sl (p1.fHeld.map A3))]), (7, .box [.pure (.val (.int .i64 v4.fKind)), .pure (.val (.int .i64 v4.fFrom)), .pure (.val (.int .i64 v4.fTo)), .pure (.val (.bool v4.fAware)), .pure (.sl (v4.fOK.map (DY eB))), .pure (.sl (v4.fRewrite.map (DY eB)))]), (2008, .vec 3 (v18.1.map AU))]) (fun _ _ => rfl) (sm [(2007, 2004)] _ _ rfl rfl) (fun j17 n17 v17 h => ?_) (fun v18 s h hs => ?_)
        ·unfold Bd at h
         refine Ab (Ab (Aa Ad rfl (qm rfl (qf Bk rfl (ql A0 rfl (qf GZ rfl (ql B1 rfl ?_)))))))
         obtain ⟨v19, a19, b19, h⟩ := An h
         refine qi AE CS a19 (Al b19) rfl (qk B1 rfl (Bc rfl (Ac ?_)))
         refine Au rfl (fun c20 => ?_) (fun c20 => ?_)
         ·have h := Ap c20 h
          refine Av ?_
          refine AR h (fun v21 => mk [(2, .e (.one (.ptr 2 0))), (3, .e (.one (.ptr 3 0))), (5, .e (.one (.own 2009))), (6, .e (.one (.pure (.val (.int .i64 v1.2))))), (7, .e (.one (.ptr 7 0))), (8, .e (.one (.pure (.val (.int .u8 v6))))), (9, .e (.one (.pure (.val (.int .i64 v10.2))))), (10, .e (.one (.pure (.val (.bool v21.2))))), (11, .e (.one (.pure (.val (.int .i64 v17.2.2)))))] [(2, .box [.pure (.sl (p0.fVersions.map Af)), .pure (.sl (p0.fNow.map Af)), .pure (.sl (p0.fTarget.map Af)), .pure (.sl (p0.fTables.map Ak))]), (3, .box [.pure (.sl (p1.fBase.map Af)), .pure (.sl (p1.fNext.map Af)), .pure (.sl (p1.fHeld.map A3))]), (7, .box [.pure (.val (.int .i64 v4.fKind)), .pure (.val (.int .i64 v4.fFrom)), .pure (.val (.int .i64 v4.fTo)), .pure (.val (.bool v4.fAware)), .pure (.sl (v4.fOK.map (DY eB))), .pure (.sl (v4.fRewrite.map (DY eB)))]), (2009, .vec 3 (v21.1.map AU))]) (fun j21 h => ?_) (fun v21 h => ?_)
          ·refine AW (Ab (Ab (Aa Ad rfl (qL Bl AO rfl (qf GZ rfl (ql B1 rfl ?_))))))
           obtain ⟨v22, a22, h⟩ := bind_some h
           refine AI [] (Dp N p1 v4.fTo v22 a22) QY rfl (qm rfl ?_)
           obtain ⟨v23, a23, h⟩ := bind_some h
           refine AI [] (EP N v22 v17.2.2 v23 a23) Se rfl (Ch rfl (Ac ?_))
           refine Au rfl (fun c24 => ?_) (fun c24 => ?_)
           ·have h := Ap c24 h
            refine A1 ?_
            exact Ax _ h (sm [(2009, 2007)] _ _ rfl rfl)
           ·have h := Aq c24 h
            refine Av ?_
            refine AR h (fun v25 => mk [(2, .e (.one (.ptr 2 0))), (3, .e (.one (.ptr 3 0))), (5, .e (.one (.own 2010))), (6, .e (.one (.pure (.val (.int .i64 v1.2))))), (7, .e (.one (.ptr 7 0))), (8, .e (.one (.pure (.val (.int .u8 v6))))), (9, .e (.one (.pure (.val (.int .i64 v10.2))))), (10, .e (.one (.pure (.val (.bool v25))))), (11, .e (.one (.pure (.val (.int .i64 v17.2.2)))))] [(2, .box [.pure (.sl (p0.fVersions.map Af)), .pure (.sl (p0.fNow.map Af)), .pure (.sl (p0.fTarget.map Af)), .pure (.sl (p0.fTables.map Ak))]), (3, .box [.pure (.sl (p1.fBase.map Af)), .pure (.sl (p1.fNext.map Af)), .pure (.sl (p1.fHeld.map A3))]), (7, .box [.pure (.val (.int .i64 v4.fKind)), .pure (.val (.int .i64 v4.fFrom)), .pure (.val (.int .i64 v4.fTo)), .pure (.val (.bool v4.fAware)), .pure (.sl (v4.fOK.map (DY eB))), .pure (.sl (v4.fRewrite.map (DY eB)))]), (2010, .vec 3 (v17.1.map AU))]) (fun j25 h => ?_) (fun v25 h => ?_)
            ·refine Aa Ad rfl (qm rfl (qm rfl ?_))
             refine AF (t := 67) rfl (fun c26 => ?_) (fun c26 => ?_)
             ·have h := Ap c26 h
              refine qn rfl (qn rfl (qn rfl (qn rfl (qn rfl (qn rfl (qn rfl (qn rfl (qp rfl (qa rfl (Ac ?_))))))))))
              exact Ax _ h (sm [(2010, 2007)] _ _ rfl rfl)
             ·have h := Aq c26 h
              refine qf Il rfl (ql IL rfl (qm rfl ?_))
              obtain ⟨v27, a27, b27, h⟩ := An h
              refine qi Ff Lz a27 (Al b27) rfl (qk Nz rfl (qm rfl ?_))
              obtain ⟨v28, a28, b28, h⟩ := An h
              refine qi Fx OS a28 (Al b28) rfl (qk P1 rfl (qp rfl (qa rfl (Ac ?_))))
              exact Ax _ h (sm [(2010, 2007)] _ _ rfl rfl)
            ·refine AR h (fun v29 => mk [(2, .e (.one (.ptr 2 0))), (3, .e (.one (.ptr 3 0))), (5, .e (.one (.own 2011))), (6, .e (.one (.pure (.val (.int .i64 v1.2))))), (7, .e (.one (.ptr 7 0))), (8, .e (.one (.pure (.val (.int .u8 v6))))), (9, .e (.one (.pure (.val (.int .i64 v10.2))))), (10, .e (.one (.pure (.val (.bool v25))))), (11, .e (.one (.pure (.val (.int .i64 v17.2.2))))), (90, .e (.one (.pure (.val (.bool v29)))))] [(2, .box [.pure (.sl (p0.fVersions.map Af)), .pure (.sl (p0.fNow.map Af)), .pure (.sl (p0.fTarget.map Af)), .pure (.sl (p0.fTables.map Ak))]), (3, .box [.pure (.sl (p1.fBase.map Af)), .pure (.sl (p1.fNext.map Af)), .pure (.sl (p1.fHeld.map A3))]), (7, .box [.pure (.val (.int .i64 v4.fKind)), .pure (.val (.int .i64 v4.fFrom)), .pure (.val (.int .i64 v4.fTo)), .pure (.val (.bool v4.fAware)), .pure (.sl (v4.fOK.map (DY eB))), .pure (.sl (v4.fRewrite.map (DY eB)))]), (2011, .vec 3 (v17.1.map AU))]) (fun j29 h => ?_) (fun v29 h => ?_)
             ·refine Aa Ad rfl (qf HN rfl (ql P1 rfl (Ch rfl (qm rfl ?_))))
              refine AF (t := 80) rfl (fun c30 => ?_) (fun c30 => ?_)
              ·have h := Ap c30 h
               refine qf Il rfl (ql IL rfl (qm rfl ?_))
               obtain ⟨v31, a31, b31, h⟩ := An h
               refine qi Ff Lz a31 (Al b31) rfl (qk Nz rfl (qm rfl ?_))
               obtain ⟨v32, a32, b32, h⟩ := An h
               refine qi Fx OS a32 (Al b32) rfl (qk P1 rfl (Ch rfl (qp rfl (Ac ?_))))
               exact Ax _ h (sm [(2011, 2010)] _ _ rfl rfl)
              ·have h := Aq c30 h
               refine qn rfl (qn rfl (qn rfl (qn rfl (qn rfl (qn rfl (qn rfl (qn rfl (qn rfl (qp rfl (Ac ?_))))))))))
               exact Ax _ h (sm [(2011, 2010)] _ _ rfl rfl)
             ·refine Au rfl (fun c33 => ?_) (fun c33 => ?_)
              ·have h := Ap c33 h
               refine Aa Ad rfl (qm rfl (qm rfl (qm rfl (qm rfl (AV EU Jg rfl (D2 Fm Dm EU rfl ?_))))))
               obtain ⟨c34, h⟩ := AG h
               refine DM (f := AU) Fm Fm Dm P6 EU c34 rfl (qa rfl (Ac ?_))
               exact Ax _ h (sm [(2009, 97)] _ _ rfl rfl)
              ·have h := Aq c33 h
               refine Av ?_
               exact Ax _ h (sm [(2009, 2011)] _ _ rfl rfl)
          ·refine Aa Ad rfl (qm rfl (Bm rfl (qa rfl (Ac ?_))))
           exact Ax _ h (sm [(2007, 2009)] _ _ rfl rfl)
         ·have h := Aq c20 h
          refine A1 ?_
          exact Ax _ h (sm [(2008, 2007)] _ _ rfl rfl)
        ·refine Am hs ?_
         refine AR h (fun v35 => mk [(2, .e (.one (.ptr 2 0))), (3, .e (.one (.ptr 3 0))), (5, .e (.one (.own 2012))), (6, .e (.one (.pure (.val (.int .i64 v1.2))))), (7, .e (.one (.ptr 7 0))), (8, .e (.one (.pure (.val (.int .u8 v6))))), (9, .e (.one (.pure (.val (.int .i64 v10.2))))), (103, .e (.one (.pure (.val (.bool v35)))))] [(2, .box [.pure (.sl (p0.fVersions.map Af)), .pure (.sl (p0.fNow.map Af)), .pure (.sl (p0.fTarget.map Af)), .pure (.sl (p0.fTables.map Ak))]), (3, .box [.pure (.sl (p1.fBase.map Af)), .pure (.sl (p1.fNext.map Af)), .pure (.sl (p1.fHeld.map A3))]), (7, .box [.pure (.val (.int .i64 v4.fKind)), .pure (.val (.int .i64 v4.fFrom)), .pure (.val (.int .i64 v4.fTo)), .pure (.val (.bool v4.fAware)), .pure (.sl (v4.fOK.map (DY eB))), .pure (.sl (v4.fRewrite.map (DY eB)))]), (2012, .vec 3 (v18.1.map AU))]) (fun j35 h => ?_) (fun v35 h => ?_)
         ·refine Aa Ad rfl (qf HN rfl (ql P1 rfl (qm rfl ?_)))
          refine AF (t := 100) rfl (fun c36 => ?_) (fun c36 => ?_)
          ·have h := Ap c36 h
           refine qm rfl (Ch rfl (qp rfl (Ac ?_)))
           exact Ax _ h (sm [(2012, 2008)] _ _ rfl rfl)
          ·have h := Aq c36 h
           refine qn rfl (qn rfl (qp rfl (Ac ?_)))
           exact Ax _ h (sm [(2012, 2008)] _ _ rfl rfl)
         ·refine Au rfl (fun c37 => ?_) (fun c37 => ?_)
          ·have h := Ap c37 h
           refine Aa Ad rfl (qm rfl (qm rfl (qm rfl (AV EU Jg rfl (D2 Fm Dm EU rfl ?_)))))
           obtain ⟨c38, h⟩ := AG h
           refine DM (f := AU) Fm Fm Dm P6 EU c38 rfl (qa rfl (Ac ?_))
           exact Ax _ h (sm [(2006, 109)] _ _ rfl rfl)
          ·have h := Aq c37 h
           refine Av ?_
           exact Ax _ h (sm [(2006, 2012)] _ _ rfl rfl)
      ·refine Aa Ad rfl (qm rfl (Bm rfl (qa rfl (Ac ?_))))
       exact Ax _ h (sm [(2004, 2006)] _ _ rfl rfl)
     ·have h := Aq c13 h
      refine A1 ?_
      exact Ax _ h (sm [(2005, 2004)] _ _ rfl rfl)
    ·refine Am hs (Aa Ad rfl (qm rfl (Bm rfl (qa rfl (Ac ?_)))))
     exact Ax _ h (sm [(2001, 2005)] _ _ rfl rfl)
  ·have h := Aq c3 h
   refine A1 ?_
   exact Ax _ h (sm [(2002, 2001)] _ _ rfl rfl)
 ·refine Am hs (Ab (Aa Ad rfl (qm rfl (qa rfl (Ac ?_)))))
  obtain rfl := sj h
  refine Am (sm [(1000, 2002)] [(4, .e (.one (.own 1000)))] [(1000, .vec 3 (v2.map AU))] rfl rfl) (AB ?_)
  exact ⟨⟨[_], ⟨.tmp _ _ rfl, trivial⟩, rfl⟩, ⟨rfl, trivial⟩⟩
set_option maxRecDepth 10000 in
theorem Jr (N : Nat) (p0 : Ae) (p1 : Ah) (r : Ah × Aj × Int) (h : DC N p0 p1 = some r) : AD Try.prog 42 [.e (.agg [.pure (.sl (p0.fVersions.map Af)), .pure (.sl (p0.fNow.map Af)), .pure (.sl (p0.fTarget.map Af)), .pure (.sl (p0.fTables.map Ak))]), .e (.agg [.pure (.sl (p1.fBase.map Af)), .pure (.sl (p1.fNext.map Af)), .pure (.sl (p1.fHeld.map A3))])] [] (.tup [.agg [.pure (.sl (r.1.fBase.map Af)), .pure (.sl (r.1.fNext.map Af)), .pure (.sl (r.1.fHeld.map A3))], .agg [.pure (.val (.int .i64 r.2.1.fTable)), .pure (.val (.int .i64 r.2.1.fWriter)), .pure (.val (.int .i64 r.2.1.fReader))], .one (.pure (.val (.int .i64 r.2.2)))]) := by
 unfold DC at h
 refine As (n := 46) (rs := [.cell 4 43, .cell 5 45, .tmp 6]) Try.func42 rfl rfl rfl (Bz rfl) (Bz rfl) rfl fun w0 S0 => ?_
 refine Ab (Aa Ad rfl (qb rfl (qb rfl (qz Co rfl (qz EU rfl (qa rfl (Ac (Ab (Aa Ad rfl (qL C5 CR rfl (qL Bl AO rfl ?_)))))))))))
 obtain ⟨v1, a1, h⟩ := bind_some h
 refine AI [2001] (IG N p0 p1 v1 a1) Wk rfl (qm rfl (qx rfl (qx rfl (qa rfl (qa rfl (Ac (Ab (Ab (Aa Ad rfl (qm rfl (B0 rfl (Ac ?_))))))))))))
 refine Au rfl (fun c2 => ?_) (fun c2 => ?_)
 ·have h := Ap c2 h
  refine Ab (Aa Ad rfl (AV Co Fa rfl (AV EU Jg rfl (qm rfl (qs AO rfl (qs Dm rfl (qa rfl (Ac ?_))))))))
  obtain rfl := sj h
  refine Am ((Eb 4 _ rfl).trans (sm [] [(4, .e (.one (.ptr 4 0))), (5, .e (.one (.ptr 5 0))), (6, .e (.one (.pure (.val (.int .i64 v1.2)))))] [(4, .box [.pure (.sl ((([] : List Int)).map Af)), .pure (.sl ((([] : List Int)).map Af)), .pure (.sl ((([] : List Int)).map A3))]), (5, .box [.pure (.val (.int .i64 0)), .pure (.val (.int .i64 0)), .pure (.val (.int .i64 0))])] rfl rfl)) (AB ?_)
  exact ⟨⟨[_, _, _], ⟨.cellN _ _ _ _ _ _ _ rfl rfl Bl AO rfl rfl (Fp rfl), ⟨.cellN _ _ _ _ _ _ _ rfl rfl Hl Dm rfl rfl (Fp rfl), ⟨.tmp _ _ rfl, trivial⟩⟩⟩, rfl⟩, trivial⟩
 ·have h := Aq c2 h
  refine Av (Ab (Ab (Aa Ad rfl (qa rfl (Ac ?_)))))
  refine AP (L := B8 N p0 v1) h (fun v3 => mk [(2, .e (.one (.ptr 2 0))), (4, .e (.one (.ptr 4 0))), (5, .e (.one (.ptr 5 0))), (7, .e (.one (.own 2002))), (9, .e (.one (.pure (.val (.int .i64 v3)))))] [(2, .box [.pure (.sl (p0.fVersions.map Af)), .pure (.sl (p0.fNow.map Af)), .pure (.sl (p0.fTarget.map Af)), .pure (.sl (p0.fTables.map Ak))]), (4, .box [.pure (.nil0), .pure (.nil0), .pure (.nil0)]), (5, .box [.pure (.val (.int .i64 0)), .pure (.val (.int .i64 0)), .pure (.val (.int .i64 0))]), (2002, .vec 3 (v1.1.map Db))]) (fun v4 => mk [(4, .e (.one (.ptr 4 0))), (5, .e (.one (.ptr 5 0)))] [(4, .box [.pure (.nil0), .pure (.nil0), .pure (.nil0)]), (5, .box [.pure (.val (.int .i64 0)), .pure (.val (.int .i64 0)), .pure (.val (.int .i64 0))])]) (fun _ _ => rfl) (sm [(2002, 2001)] _ _ rfl rfl) (fun j3 n3 v3 h => ?_) (fun v4 s h hs => ?_)
  ·unfold B8 at h
   refine Ab (Ab (Aa Ad rfl (qm rfl (qm rfl (EZ I7 rfl (Bc rfl (Ac ?_)))))))
   refine Au rfl (fun c5 => ?_) (fun c5 => ?_)
   ·have h := Ap c5 h
    refine Av (Ab (AW (Ab (Aa Ad rfl (qL C5 CR rfl (qm rfl (qm rfl ?_)))))))
    obtain ⟨v6, a6, b6, h⟩ := An h
    refine qI I7 AO a6 (Al b6) rfl (qJ Bl AO (Al b6) rfl ?_)
    obtain ⟨v7, a7, h⟩ := bind_some h
    refine AI [2003] (Jt N p0 v6 v7 a7) Wa rfl (qa rfl (AX (by kernel_rfl) (Ab (Aa Ad rfl (qm rfl (EZ Fm rfl (FY rfl (Ac ?_))))))))
    refine Au rfl (fun c8 => ?_) (fun c8 => ?_)
    ·have h := Ap c8 h
     refine Ab (Aa Ad rfl (qm rfl (qm rfl ?_)))
     obtain ⟨v9, a9, b9, h⟩ := An h
     refine qI I7 AO a9 (Al b9) rfl (qJ Bl AO (Al b9) rfl (qm rfl ?_))
     obtain ⟨v10, a10, b10, h⟩ := An h
     refine qI Fm Dm a10 (Al b10) rfl (qJ Hl Dm (Al b10) rfl (qs AO rfl (qs Dm rfl (qa rfl (AX (by kernel_rfl) ?_)))))
     obtain rfl := sj h
     refine Am (sm [] [(4, .e (.one (.ptr 4 0))), (5, .e (.one (.ptr 5 0))), (6, .e (.one (.pure (.val (.int .i64 0)))))] [(4, .box [.pure (.sl (v9.fBase.map Af)), .pure (.sl (v9.fNext.map Af)), .pure (.sl (v9.fHeld.map A3))]), (5, .box [.pure (.val (.int .i64 v10.fTable)), .pure (.val (.int .i64 v10.fWriter)), .pure (.val (.int .i64 v10.fReader))])] rfl rfl) (AB ?_)
     exact ⟨⟨[_, _, _], ⟨.cellN _ _ _ _ _ _ _ rfl rfl Bl AO rfl rfl (Fp rfl), ⟨.cellN _ _ _ _ _ _ _ rfl rfl Hl Dm rfl rfl (Fp rfl), ⟨.tmp _ _ rfl, trivial⟩⟩⟩, rfl⟩, trivial⟩
    ·have h := Aq c8 h
     refine Av (Aa Ad rfl (qm rfl (Bm rfl (qa rfl (Ac ?_)))))
     exact Ax _ h (sm [] _ _ rfl rfl)
   ·have h := Aq c5 h
    refine A1 ?_
    exact Ax _ h (sm [] _ _ rfl rfl)
  ·refine Am hs (Ab (Aa Ad rfl (AV Co Fa rfl (AV EU Jg rfl (qs AO rfl (qs Dm rfl (qa rfl (Ac ?_))))))))
   obtain rfl := sj h
   refine Am ((Eb 4 _ rfl).trans (sm [] [(4, .e (.one (.ptr 4 0))), (5, .e (.one (.ptr 5 0))), (6, .e (.one (.pure (.val (.int .i64 15)))))] [(4, .box [.pure (.sl ((([] : List Int)).map Af)), .pure (.sl ((([] : List Int)).map Af)), .pure (.sl ((([] : List Int)).map A3))]), (5, .box [.pure (.val (.int .i64 0)), .pure (.val (.int .i64 0)), .pure (.val (.int .i64 0))])] rfl rfl)) (AB ?_)
   exact ⟨⟨[_, _, _], ⟨.cellN _ _ _ _ _ _ _ rfl rfl Bl AO rfl rfl (Fp rfl), ⟨.cellN _ _ _ _ _ _ _ rfl rfl Hl Dm rfl rfl (Fp rfl), ⟨.tmp _ _ rfl, trivial⟩⟩⟩, rfl⟩, trivial⟩
set_option maxRecDepth 10000 in
theorem JT (N : Nat) (p0 : Ae) (p1 : Ah) (r : Bool) (h : De N p0 p1 = some r) : AD Try.prog 43 [.e (.agg [.pure (.sl (p0.fVersions.map Af)), .pure (.sl (p0.fNow.map Af)), .pure (.sl (p0.fTarget.map Af)), .pure (.sl (p0.fTables.map Ak))]), .e (.agg [.pure (.sl (p1.fBase.map Af)), .pure (.sl (p1.fNext.map Af)), .pure (.sl (p1.fHeld.map A3))])] [] (.e (.one (.pure (.val (.bool r))))) := by
 unfold De at h
 refine As (n := 36) (rs := [.tmp 4]) Try.func43 rfl rfl rfl (Bz rfl) (Bz rfl) rfl fun w0 S0 => ?_
 refine Ab (Aa Ad rfl (qb rfl (qb rfl (qa rfl (Ac (Ab (Ab (Aa Ad rfl (qL C5 CR rfl (qL Bl AO rfl ?_))))))))))
 obtain ⟨v1, a1, h⟩ := bind_some h
 refine AI [] (Fn N p0 p1 v1 a1) Ud rfl (B0 rfl (Ac ?_))
 refine Au rfl (fun c2 => ?_) (fun c2 => ?_)
 ·have h := Ap c2 h
  refine Ab (Aa Ad rfl (qa rfl (Ac ?_)))
  obtain rfl := sj h
  refine Am (sm [] [(4, .e (.one (.pure (.val (.bool false)))))] [] rfl rfl) (AB ?_)
  exact ⟨⟨[_], ⟨.tmp _ _ rfl, trivial⟩, rfl⟩, trivial⟩
 ·have h := Aq c2 h
  refine Av (Ab (Ab (Aa Ad rfl (qa rfl (Ac ?_)))))
  refine AP (L := Cg N p0 p1) h (fun v3 => mk [(2, .e (.one (.ptr 2 0))), (3, .e (.one (.ptr 3 0))), (5, .e (.one (.pure (.val (.int .i64 v3)))))] [(2, .box [.pure (.sl (p0.fVersions.map Af)), .pure (.sl (p0.fNow.map Af)), .pure (.sl (p0.fTarget.map Af)), .pure (.sl (p0.fTables.map Ak))]), (3, .box [.pure (.sl (p1.fBase.map Af)), .pure (.sl (p1.fNext.map Af)), .pure (.sl (p1.fHeld.map A3))])]) (fun v4 => mk [] []) (fun _ _ => rfl) (sm [] _ _ rfl rfl) (fun j3 n3 v3 h => ?_) (fun v4 s h hs => ?_)
  ·unfold Cg at h
   refine Ab (Ab (Aa Ad rfl (qm rfl (qf Cp rfl (ql A0 rfl (AQ AE rfl (Bc rfl (Ac ?_))))))))
   refine Au rfl (fun c5 => ?_) (fun c5 => ?_)
   ·have h := Ap c5 h
    refine Av (Ab (AW ?_))
    refine AR h (fun v6 => mk [(2, .e (.one (.ptr 2 0))), (3, .e (.one (.ptr 3 0))), (5, .e (.one (.pure (.val (.int .i64 v3))))), (35, .e (.one (.pure (.val (.bool v6)))))] [(2, .box [.pure (.sl (p0.fVersions.map Af)), .pure (.sl (p0.fNow.map Af)), .pure (.sl (p0.fTarget.map Af)), .pure (.sl (p0.fTables.map Ak))]), (3, .box [.pure (.sl (p1.fBase.map Af)), .pure (.sl (p1.fNext.map Af)), .pure (.sl (p1.fHeld.map A3))])]) (fun j6 h => ?_) (fun v6 h => ?_)
    ·refine Aa Ad rfl (qf Bu rfl (ql A0 rfl (qm rfl ?_)))
     obtain ⟨v7, a7, b7, h⟩ := An h
     refine qi AE CS a7 (Al b7) rfl (qk B1 rfl (DX rfl (qm rfl ?_)))
     refine AF (t := 23) rfl (fun c8 => ?_) (fun c8 => ?_)
     ·have h := Ap c8 h
      refine qn rfl (qn rfl (qn rfl (qn rfl (qn rfl (qn rfl (qn rfl (qn rfl (qn rfl (qn rfl (qn rfl (qp rfl (AX (by kernel_rfl) ?_))))))))))))
      exact Ax _ h (sm [] _ _ rfl rfl)
     ·have h := Aq c8 h
      refine qf Cp rfl (ql A0 rfl (qm rfl ?_))
      obtain ⟨v9, a9, b9, h⟩ := An h
      refine qi AE CS a9 (Al b9) rfl (qk B1 rfl (qf G6 rfl (ql A0 rfl (qm rfl ?_))))
      obtain ⟨v10, a10, b10, h⟩ := An h
      refine qi AE CS a10 (Al b10) rfl (qk B1 rfl (B0 rfl (qp rfl (AX (by kernel_rfl) ?_))))
      exact Ax _ h (sm [] _ _ rfl rfl)
    ·refine Au rfl (fun c11 => ?_) (fun c11 => ?_)
     ·have h := Ap c11 h
      refine Ab (Aa Ad rfl (qa rfl (Ac ?_)))
      obtain rfl := sj h
      refine Am (sm [] [(4, .e (.one (.pure (.val (.bool false)))))] [] rfl rfl) (AB ?_)
      exact ⟨⟨[_], ⟨.tmp _ _ rfl, trivial⟩, rfl⟩, trivial⟩
     ·have h := Aq c11 h
      refine Av (Aa Ad rfl (qm rfl (Bm rfl (qa rfl (Ac ?_)))))
      exact Ax _ h (sm [] _ _ rfl rfl)
   ·have h := Aq c5 h
    refine A1 ?_
    exact Ax _ h (sm [] _ _ rfl rfl)
  ·refine Am hs (Ab (Aa Ad rfl (qa rfl (Ac ?_))))
   obtain rfl := sj h
   refine Am (sm [] [(4, .e (.one (.pure (.val (.bool true)))))] [] rfl rfl) (AB ?_)
   exact ⟨⟨[_], ⟨.tmp _ _ rfl, trivial⟩, rfl⟩, trivial⟩
end Go.Lift

/- That the code does what the shallow programs do, function by function. Written by a program (gen.py). -/
namespace Go.Lift
open Go.RowKit
open Go.Proofs
set_option maxRecDepth 10000 in
theorem IE (N : Nat) (p0 : Ae) (p1 : List Ag) (r : Int × Ah × Aj × Int) (h : C6 N p0 p1 = some r) : AD Try.prog 20 [.e (.agg [.pure (.sl (p0.fVersions.map Af)), .pure (.sl (p0.fNow.map Af)), .pure (.sl (p0.fTarget.map Af)), .pure (.sl (p0.fTables.map Ak))]), .e (.one (.pure (.sl (p1.map Ar))))] [] (.tup [.one (.pure (.val (.int .i64 r.1))), .agg [.pure (.sl (r.2.1.fBase.map Af)), .pure (.sl (r.2.1.fNext.map Af)), .pure (.sl (r.2.1.fHeld.map A3))], .agg [.pure (.val (.int .i64 r.2.2.1.fTable)), .pure (.val (.int .i64 r.2.2.1.fWriter)), .pure (.val (.int .i64 r.2.2.1.fReader))], .one (.pure (.val (.int .i64 r.2.2.2)))]) := by
 unfold C6 at h
 refine As (n := 80) (rs := [.tmp 4, .cell 5 43, .cell 6 45, .tmp 7]) Try.func20 rfl rfl rfl (Bz rfl) (Bz rfl) rfl fun w0 S0 => ?_
 refine Ab (Aa Ad rfl (qb rfl (qa rfl (qz Co rfl (qz EU rfl (qa rfl (Ac (Ab (Aa Ad rfl (qL C5 CR rfl ?_))))))))))
 obtain ⟨v1, a1, h⟩ := bind_some h
 refine AI [2001, 2002, 2003] (Ju N p0 v1 a1) VX rfl (qm rfl (qx rfl (qx rfl (qz Co rfl (qs AO rfl (qa rfl (Ac (Ab (Ab (Aa Ad rfl (qm rfl (B0 rfl (Ac ?_)))))))))))))
 refine Au rfl (fun c2 => ?_) (fun c2 => ?_)
 ·have h := Ap c2 h
  refine Ab (Aa Ad rfl (AV Co Fa rfl (AV EU Jg rfl (qm rfl (qa rfl (qs AO rfl (qs Dm rfl (qa rfl (Ac ?_)))))))))
  obtain rfl := sj h
  refine Am ((Eb 5 _ rfl).trans (sm [] [(4, .e (.one (.pure (.val (.int .i64 0))))), (5, .e (.one (.ptr 5 0))), (6, .e (.one (.ptr 6 0))), (7, .e (.one (.pure (.val (.int .i64 v1.2)))))] [(5, .box [.pure (.sl ((([] : List Int)).map Af)), .pure (.sl ((([] : List Int)).map Af)), .pure (.sl ((([] : List Int)).map A3))]), (6, .box [.pure (.val (.int .i64 0)), .pure (.val (.int .i64 0)), .pure (.val (.int .i64 0))])] rfl rfl)) (AB ?_)
  exact ⟨⟨[_, _, _, _], ⟨.tmp _ _ rfl, ⟨.cellN _ _ _ _ _ _ _ rfl rfl Bl AO rfl rfl (Fp rfl), ⟨.cellN _ _ _ _ _ _ _ rfl rfl Hl Dm rfl rfl (Fp rfl), ⟨.tmp _ _ rfl, trivial⟩⟩⟩⟩, rfl⟩, trivial⟩
 ·have h := Aq c2 h
  refine Av (Ab (Ab (Aa Ad rfl (qa rfl (Ac ?_)))))
  refine AP (L := BS N p0 p1) h (fun v3 => mk [(1, .e (.one (.pure (.sl (p1.map Ar))))), (2, .e (.one (.ptr 2 0))), (5, .e (.one (.ptr 5 0))), (6, .e (.one (.ptr 6 0))), (8, .e (.one (.ptr 8 0))), (10, .e (.one (.pure (.val (.int .i64 v3.2.2.2)))))] [(2, .box [.pure (.sl (p0.fVersions.map Af)), .pure (.sl (p0.fNow.map Af)), .pure (.sl (p0.fTarget.map Af)), .pure (.sl (p0.fTables.map Ak))]), (5, .box [.pure (.nil0), .pure (.nil0), .pure (.nil0)]), (6, .box [.pure (.val (.int .i64 0)), .pure (.val (.int .i64 0)), .pure (.val (.int .i64 0))]), (8, .box [.pure (.sl (v3.1.map Af)), .pure (.sl (v3.2.1.map Af)), .pure (.sl (v3.2.2.1.map A3))])]) (fun v4 => mk [(1, .e (.one (.pure (.sl (p1.map Ar))))), (2, .e (.one (.ptr 2 0))), (5, .e (.one (.ptr 5 0))), (6, .e (.one (.ptr 6 0))), (8, .e (.one (.ptr 8 0)))] [(2, .box [.pure (.sl (p0.fVersions.map Af)), .pure (.sl (p0.fNow.map Af)), .pure (.sl (p0.fTarget.map Af)), .pure (.sl (p0.fTables.map Ak))]), (5, .box [.pure (.nil0), .pure (.nil0), .pure (.nil0)]), (6, .box [.pure (.val (.int .i64 0)), .pure (.val (.int .i64 0)), .pure (.val (.int .i64 0))]), (8, .box [.pure (.sl (v4.fBase.map Af)), .pure (.sl (v4.fNext.map Af)), .pure (.sl (v4.fHeld.map A3))])]) (fun _ _ => rfl) ((Bf 2001 _ _ rfl rfl).trans ((Bf 2002 _ _ rfl rfl).trans ((Bf 2003 _ _ rfl rfl).trans (sm [] _ _ rfl rfl)))) (fun j3 n3 v3 h => ?_) (fun v4 s h hs => ?_)
  ·unfold BS at h
   refine Ab (Ab (Aa Ad rfl (qm rfl (qm rfl (AQ Bg rfl (Bc rfl (Ac ?_)))))))
   refine Au rfl (fun c5 => ?_) (fun c5 => ?_)
   ·have h := Ap c5 h
    refine Av (Ab (AW ?_))
    refine AR h (fun v6 => mk [(1, .e (.one (.pure (.sl (p1.map Ar))))), (2, .e (.one (.ptr 2 0))), (5, .e (.one (.ptr 5 0))), (6, .e (.one (.ptr 6 0))), (8, .e (.one (.ptr 8 0))), (10, .e (.one (.pure (.val (.int .i64 v3.2.2.2)))))] [(2, .box [.pure (.sl (p0.fVersions.map Af)), .pure (.sl (p0.fNow.map Af)), .pure (.sl (p0.fTarget.map Af)), .pure (.sl (p0.fTables.map Ak))]), (5, .box [.pure (.nil0), .pure (.nil0), .pure (.nil0)]), (6, .box [.pure (.val (.int .i64 0)), .pure (.val (.int .i64 0)), .pure (.val (.int .i64 0))]), (8, .box [.pure (.sl (v6.1.map Af)), .pure (.sl (v6.2.1.map Af)), .pure (.sl (v6.2.2.map A3))])]) (fun j6 h => ?_) (fun v6 h => ?_)
    ·refine Ab (Aa Ad rfl (qm rfl (DX rfl (Ac ?_))))
     refine Au rfl (fun c7 => ?_) (fun c7 => ?_)
     ·have h := Ap c7 h
      refine Ab (Aa Ad rfl (qL C5 CR rfl (qL Bl AO rfl (qm rfl (qm rfl ?_)))))
      obtain ⟨v8, a8, b8, h⟩ := An h
      refine qi Bg Cs a8 (Al b8) rfl (qK Hb Cs rfl ?_)
      obtain ⟨v9, a9, h⟩ := bind_some h
      refine AI [2004, 2005, 2006] (JA N p0 ((Ah.mk v3.1 v3.2.1 v3.2.2.1)) v8 v9 a9) Wo rfl (qm rfl (qx rfl (qx rfl (qz Co rfl (qs AO rfl (qa rfl (AX (by kernel_rfl) (Ab ?_))))))))
      refine AR h (fun v10 => mk [(1, .e (.one (.pure (.sl (p1.map Ar))))), (2, .e (.one (.ptr 2 0))), (5, .e (.one (.ptr 5 0))), (6, .e (.one (.ptr 6 0))), (8, .e (.one (.ptr 8 0))), (10, .e (.one (.pure (.val (.int .i64 v3.2.2.2))))), (11, .e (.one (.ptr 11 0))), (53, .e (.one (.pure (.val (.bool v10)))))] [(2, .box [.pure (.sl (p0.fVersions.map Af)), .pure (.sl (p0.fNow.map Af)), .pure (.sl (p0.fTarget.map Af)), .pure (.sl (p0.fTables.map Ak))]), (5, .box [.pure (.nil0), .pure (.nil0), .pure (.nil0)]), (6, .box [.pure (.val (.int .i64 0)), .pure (.val (.int .i64 0)), .pure (.val (.int .i64 0))]), (8, .box [.pure (.sl (v3.1.map Af)), .pure (.sl (v3.2.1.map Af)), .pure (.sl (v3.2.2.1.map A3))]), (11, .box [.own 2007, .own 2008, .own 2009]), (2007, .vec 1 (v9.1.fBase.map Af)), (2008, .vec 1 (v9.1.fNext.map Af)), (2009, .vec 1 (v9.1.fHeld.map A3))]) (fun j10 h => ?_) (fun v10 h => ?_)
      ·refine Aa Ad rfl (qm rfl (B0 rfl (qm rfl ?_)))
       refine AF (t := 46) rfl (fun c11 => ?_) (fun c11 => ?_)
       ·have h := Ap c11 h
        refine qn rfl (qn rfl (qn rfl (qn rfl (qn rfl (qn rfl (qp rfl (Ac ?_)))))))
        exact Ax _ h (sm [(2007, 2004), (2008, 2005), (2009, 2006)] _ _ rfl rfl)
       ·have h := Aq c11 h
        refine qm rfl (qm rfl ?_)
        obtain ⟨v12, a12, b12, h⟩ := An h
        refine qi Bg Cs a12 (Al b12) rfl (qg Ei rfl (qk B1 rfl (BO rfl (qp rfl (Ac ?_)))))
        exact Ax _ h (sm [(2007, 2004), (2008, 2005), (2009, 2006)] _ _ rfl rfl)
      ·refine Au rfl (fun c13 => ?_) (fun c13 => ?_)
       ·have h := Ap c13 h
        refine Ab (Aa Ad rfl (qm rfl (AV Co Fa rfl (AV EU Jg rfl (qa rfl (qs AO rfl (qs Dm rfl (qa rfl (Ac ?_)))))))))
        obtain rfl := sj h
        refine Am ((Eb 5 _ rfl).trans (sm [] [(4, .e (.one (.pure (.val (.int .i64 v3.2.2.2))))), (5, .e (.one (.ptr 5 0))), (6, .e (.one (.ptr 6 0))), (7, .e (.one (.pure (.val (.int .i64 0)))))] [(5, .box [.pure (.sl ((([] : List Int)).map Af)), .pure (.sl ((([] : List Int)).map Af)), .pure (.sl ((([] : List Int)).map A3))]), (6, .box [.pure (.val (.int .i64 0)), .pure (.val (.int .i64 0)), .pure (.val (.int .i64 0))])] rfl rfl)) (AB ?_)
        exact ⟨⟨[_, _, _, _], ⟨.tmp _ _ rfl, ⟨.cellN _ _ _ _ _ _ _ rfl rfl Bl AO rfl rfl (Fp rfl), ⟨.cellN _ _ _ _ _ _ _ rfl rfl Hl Dm rfl rfl (Fp rfl), ⟨.tmp _ _ rfl, trivial⟩⟩⟩⟩, rfl⟩, trivial⟩
       ·have h := Aq c13 h
        refine Av (Aa Ad rfl (qL Bl AO rfl (qs AO rfl (Ac ?_))))
        exact Ax _ h ((Bf 2007 _ _ rfl rfl).trans ((Bf 2008 _ _ rfl rfl).trans ((Bf 2009 _ _ rfl rfl).trans (sm [] _ _ rfl rfl))))
     ·have h := Aq c7 h
      refine Av ?_
      exact Ax _ h (sm [] _ _ rfl rfl)
    ·refine Ab (Aa Ad rfl (qL C5 CR rfl (qL Bl AO rfl ?_)))
     obtain ⟨v14, a14, h⟩ := bind_some h
     refine AI [] (Jr N p0 ((Ah.mk v6.1 v6.2.1 v6.2.2)) v14 a14) VL rfl (qm rfl (qx rfl (qx rfl (qx rfl (qz Co rfl (qz EU rfl (qs AO rfl (qs Dm rfl (qa rfl (Ac (Ab (Aa Ad rfl (qm rfl (BO rfl (Ac ?_)))))))))))))))
     refine Au rfl (fun c15 => ?_) (fun c15 => ?_)
     ·have h := Ap c15 h
      refine Ab (Aa Ad rfl (qm rfl (qL Bl AO rfl (qL Hl Dm rfl (qa rfl (qs AO rfl (qs Dm rfl (qa rfl (AX (by kernel_rfl) ?_)))))))))
      obtain rfl := sj h
      refine Am (sm [] [(4, .e (.one (.pure (.val (.int .i64 v3.2.2.2))))), (5, .e (.one (.ptr 5 0))), (6, .e (.one (.ptr 6 0))), (7, .e (.one (.pure (.val (.int .i64 0)))))] [(5, .box [.pure (.sl (v14.1.fBase.map Af)), .pure (.sl (v14.1.fNext.map Af)), .pure (.sl (v14.1.fHeld.map A3))]), (6, .box [.pure (.val (.int .i64 v14.2.1.fTable)), .pure (.val (.int .i64 v14.2.1.fWriter)), .pure (.val (.int .i64 v14.2.1.fReader))])] rfl rfl) (AB ?_)
      exact ⟨⟨[_, _, _, _], ⟨.tmp _ _ rfl, ⟨.cellN _ _ _ _ _ _ _ rfl rfl Bl AO rfl rfl (Fp rfl), ⟨.cellN _ _ _ _ _ _ _ rfl rfl Hl Dm rfl rfl (Fp rfl), ⟨.tmp _ _ rfl, trivial⟩⟩⟩⟩, rfl⟩, trivial⟩
     ·have h := Aq c15 h
      refine Av (Aa Ad rfl (qm rfl (Bm rfl (qa rfl (Ac ?_)))))
      exact Ax _ h (sm [] _ _ rfl rfl)
   ·have h := Aq c5 h
    refine A1 ?_
    exact Ax _ h (sm [] _ _ rfl rfl)
  ·refine Am hs (Ab (Ab (Aa Ad rfl (qL C5 CR rfl (qL Bl AO rfl ?_)))))
   obtain ⟨v16, a16, h⟩ := bind_some h
   refine AI [] (JT N p0 v4 v16 a16) VV rfl (Ch rfl (Ac ?_))
   refine Au rfl (fun c17 => ?_) (fun c17 => ?_)
   ·have h := Ap c17 h
    refine Ab (Aa Ad rfl (qm rfl (AQ Bg rfl (AV Co Fa rfl (AV EU Jg rfl (qa rfl (qs AO rfl (qs Dm rfl (qa rfl (Ac ?_))))))))))
    obtain rfl := sj h
    refine Am ((Eb 5 _ rfl).trans (sm [] [(4, .e (.one (.pure (.val (.int .i64 ((p1.length : Int))))))), (5, .e (.one (.ptr 5 0))), (6, .e (.one (.ptr 6 0))), (7, .e (.one (.pure (.val (.int .i64 14)))))] [(5, .box [.pure (.sl ((([] : List Int)).map Af)), .pure (.sl ((([] : List Int)).map Af)), .pure (.sl ((([] : List Int)).map A3))]), (6, .box [.pure (.val (.int .i64 0)), .pure (.val (.int .i64 0)), .pure (.val (.int .i64 0))])] rfl rfl)) (AB ?_)
    exact ⟨⟨[_, _, _, _], ⟨.tmp _ _ rfl, ⟨.cellN _ _ _ _ _ _ _ rfl rfl Bl AO rfl rfl (Fp rfl), ⟨.cellN _ _ _ _ _ _ _ rfl rfl Hl Dm rfl rfl (Fp rfl), ⟨.tmp _ _ rfl, trivial⟩⟩⟩⟩, rfl⟩, trivial⟩
   ·have h := Aq c17 h
    refine Av (Ab (Aa Ad rfl (AV Co Fa rfl (AV EU Jg rfl (qa rfl (qs AO rfl (qs Dm rfl (qa rfl (Ac ?_)))))))))
    obtain rfl := sj h
    refine Am ((Eb 5 _ rfl).trans (sm [] [(4, .e (.one (.pure (.val (.int .i64 0))))), (5, .e (.one (.ptr 5 0))), (6, .e (.one (.ptr 6 0))), (7, .e (.one (.pure (.val (.int .i64 15)))))] [(5, .box [.pure (.sl ((([] : List Int)).map Af)), .pure (.sl ((([] : List Int)).map Af)), .pure (.sl ((([] : List Int)).map A3))]), (6, .box [.pure (.val (.int .i64 0)), .pure (.val (.int .i64 0)), .pure (.val (.int .i64 0))])] rfl rfl)) (AB ?_)
    exact ⟨⟨[_, _, _, _], ⟨.tmp _ _ rfl, ⟨.cellN _ _ _ _ _ _ _ rfl rfl Bl AO rfl rfl (Fp rfl), ⟨.cellN _ _ _ _ _ _ _ rfl rfl Hl Dm rfl rfl (Fp rfl), ⟨.tmp _ _ rfl, trivial⟩⟩⟩⟩, rfl⟩, trivial⟩
set_option maxRecDepth 10000 in
theorem GX (N : Nat) (p0 : Ae) (p1 : List Ag) (r : Bool) (h : CX N p0 p1 = some r) : AD Try.prog 18 [.e (.agg [.pure (.sl (p0.fVersions.map Af)), .pure (.sl (p0.fNow.map Af)), .pure (.sl (p0.fTarget.map Af)), .pure (.sl (p0.fTables.map Ak))]), .e (.one (.pure (.sl (p1.map Ar))))] [] (.e (.one (.pure (.val (.bool r))))) := by
 unfold CX at h
 refine As (n := 19) (rs := [.tmp 4]) Try.func18 rfl rfl rfl (Bz rfl) (Bz rfl) rfl fun w0 S0 => ?_
 refine Ab (Aa Ad rfl (qb rfl (qa rfl (Ac (Ab (Aa Ad rfl (qL C5 CR rfl (qm rfl ?_))))))))
 obtain ⟨v1, a1, h⟩ := bind_some h
 refine AI [] (IE N p0 p1 v1 a1) VJ rfl (qm rfl (qx rfl (qx rfl (qx rfl (qx rfl (qz Co rfl (qz EU rfl (qa rfl (qs AO rfl (qs Dm rfl (qa rfl (Ac (Ab (Aa Ad rfl (qm rfl (BO rfl (qa rfl (Ac ?_))))))))))))))))))
 obtain rfl := sj h
 refine Am (sm [] [(4, .e (.one (.pure (.val (.bool ((v1.2.2.2 == 15)))))))] [] rfl rfl) (AB ?_)
 exact ⟨⟨[_], ⟨.tmp _ _ rfl, trivial⟩, rfl⟩, trivial⟩
set_option maxRecDepth 10000 in
theorem JY (N : Nat) (p0 : Ae) (p1 : List Ag) (r : (List Ag) × Int) (h : DQ N p0 p1 = some r) : AD Try.prog 32 [.e (.agg [.pure (.sl (p0.fVersions.map Af)), .pure (.sl (p0.fNow.map Af)), .pure (.sl (p0.fTarget.map Af)), .pure (.sl (p0.fTables.map Ak))]), .e (.one (.pure (.sl (p1.map Ar))))] [] (.tup [.one (.pure (.sl (r.1.map Ar))), .one (.pure (.val (.int .i64 r.2)))]) := by
 unfold DQ at h
 refine As (n := 44) (rs := [.tmp 4, .tmp 5]) Try.func32 rfl rfl rfl (Bz rfl) (Bz rfl) rfl fun w0 S0 => ?_
 refine Ab (Aa Ad rfl (qb rfl (qa rfl (qa rfl (Ac (Ab (Ab (Aa Ad rfl (qL C5 CR rfl ?_)))))))))
 obtain ⟨v1, a1, h⟩ := bind_some h
 refine AI [] (D3 N p0 v1 a1) TM rfl (qa rfl (Ac (Ab (Aa Ad rfl (qm rfl (B0 rfl (Ac ?_)))))))
 refine Au rfl (fun c2 => ?_) (fun c2 => ?_)
 ·have h := Ap c2 h
  refine Ab (Aa Ad rfl (qm rfl (qa rfl (qa rfl (Ac ?_)))))
  obtain rfl := sj h
  refine Am ((Jd 4 _ rfl).trans (sm [] [(4, .e (.one (.pure (.sl ((([] : List Ag)).map Ar))))), (5, .e (.one (.pure (.val (.int .i64 v1)))))] [] rfl rfl)) (AB ?_)
  exact ⟨⟨[_, _], ⟨.tmp _ _ rfl, ⟨.tmp _ _ rfl, trivial⟩⟩, rfl⟩, trivial⟩
 ·have h := Aq c2 h
  refine Av (Ab (Ab (Aa Ad rfl (qL C5 CR rfl (qm rfl ?_)))))
  obtain ⟨v3, a3, h⟩ := bind_some h
  refine AI [] (GX N p0 p1 v3 a3) US rfl (Ch rfl (Ac ?_))
  refine Au rfl (fun c4 => ?_) (fun c4 => ?_)
  ·have h := Ap c4 h
   refine Ab (Aa Ad rfl (qa rfl (qa rfl (Ac ?_))))
   obtain rfl := sj h
   refine Am ((Jd 4 _ rfl).trans (sm [] [(4, .e (.one (.pure (.sl ((([] : List Ag)).map Ar))))), (5, .e (.one (.pure (.val (.int .i64 13)))))] [] rfl rfl)) (AB ?_)
   exact ⟨⟨[_, _], ⟨.tmp _ _ rfl, ⟨.tmp _ _ rfl, trivial⟩⟩, rfl⟩, trivial⟩
  ·have h := Aq c4 h
   refine Av (Ab (Aa Ad rfl (D2 Bg Cs Fi rfl (qm rfl ?_))))
   obtain ⟨c5, h⟩ := AG h
   refine F0 (f := Ar) Bg Bg Cs JJ Fi (fun _ => rfl) c5 rfl (qa rfl (Ac (Ab (Ab (Aa Ad rfl (qm rfl (AQ Bg rfl (KA rfl (qa rfl (Ac ?_))))))))))
   refine AP (L := Cf N p0) h (fun v6 => mk [(2, .e (.one (.ptr 2 0))), (7, .e (.one (.pure (.sl (v6.1.map Ar))))), (8, .e (.one (.pure (.val (.int .i64 v6.2)))))] [(2, .box [.pure (.sl (p0.fVersions.map Af)), .pure (.sl (p0.fNow.map Af)), .pure (.sl (p0.fTarget.map Af)), .pure (.sl (p0.fTables.map Ak))])]) (fun v7 => mk [(7, .e (.one (.pure (.sl (v7.map Ar)))))] []) (fun _ _ => rfl) ((Bf 21 _ _ rfl rfl).trans (sm [] _ _ rfl rfl)) (fun j6 n6 v6 h => ?_) (fun v7 s h hs => ?_)
   ·unfold Cf at h
    refine Ab (Ab (Aa Ad rfl (qm rfl (DX rfl (Ac ?_)))))
    refine Au rfl (fun c8 => ?_) (fun c8 => ?_)
    ·have h := Ap c8 h
     refine Av ?_
     refine AR h (fun v9 => mk [(2, .e (.one (.ptr 2 0))), (7, .e (.one (.pure (.sl (v9.map Ar))))), (8, .e (.one (.pure (.val (.int .i64 v6.2)))))] [(2, .box [.pure (.sl (p0.fVersions.map Af)), .pure (.sl (p0.fNow.map Af)), .pure (.sl (p0.fTarget.map Af)), .pure (.sl (p0.fTables.map Ak))])]) (fun j9 h => ?_) (fun v9 h => ?_)
     ·refine AW (Ab (Aa Ad rfl (D2 Bg Cs Fi rfl (qm rfl (qm rfl ?_)))))
      obtain ⟨c10, h⟩ := AG h
      refine LK (.p rfl) rfl Bg Cs (HY (f := Ar) (n := 3) (fun _ => rfl) _) (.none _) (.some _ _ _ _ c10.1) trivial ⟨rfl, trivial⟩ (by have := c10.2.1; (try simp only [List.length_map]); omega) (by have := c10.2.2; (try simp only [List.length_map]); omega) (Kj Ar v6.1 _ _ ((v6.2).toNat - 0) rfl) ?_
      obtain ⟨c11, h⟩ := AG h
      refine F0 (f := Ar) Bg Bg Cs JJ Fi (fun _ => rfl) c11 rfl (qm rfl (qm rfl (Bm rfl ?_)))
      obtain ⟨c12, h⟩ := AG h
      refine LK (.p rfl) rfl Bg Cs (HY (f := Ar) (n := 3) (fun _ => rfl) _) (.some _ _ _ _ c12.1) (.none _) ⟨rfl, trivial⟩ trivial (by have := c12.2.1; (try simp only [List.length_map]); omega) (by have := c12.2.2; (try simp only [List.length_map]); omega) (Kj Ar v6.1 _ _ (v6.1.length - ((IntKind.wrap .i64 (v6.2 + 1))).toNat) (by rw [List.length_map])) ?_
      obtain ⟨c13, h⟩ := AG h
      refine F0 (f := Ar) Bg Bg Cs JJ Fi (fun _ => rfl) c13 rfl (qa rfl (AX (by kernel_rfl) (Ab (Aa Ad rfl (qL C5 CR rfl (qm rfl ?_))))))
      obtain ⟨v14, a14, h⟩ := bind_some h
      refine D5 [] [38] (GX N p0 (((([] : List Ag)) ++ (((v6.1.drop 0).take ((v6.2).toNat - 0)))) ++ (((v6.1.drop ((IntKind.wrap .i64 (v6.2 + 1))).toNat).take (v6.1.length - ((IntKind.wrap .i64 (v6.2 + 1))).toNat)))) v14 a14) US CN rfl (Ac ?_)
      refine Au rfl (fun c15 => ?_) (fun c15 => ?_)
      ·have h := Ap c15 h
       refine Aa Ad rfl (qm rfl (qa rfl (Ac ?_)))
       exact Ax _ h ((Bf 38 _ _ rfl rfl).trans (sm [] _ _ rfl rfl))
      ·have h := Aq c15 h
       refine Av ?_
       exact Ax _ h (sm [] _ _ rfl rfl)
     ·refine Aa Ad rfl (qm rfl (KA rfl (qa rfl (Ac ?_))))
      exact Ax _ h (sm [] _ _ rfl rfl)
    ·have h := Aq c8 h
     refine A1 ?_
     exact Ax _ h (sm [] _ _ rfl rfl)
   ·refine Am hs (Ab (Aa Ad rfl (qm rfl (qa rfl (qa rfl (Ac ?_))))))
    obtain rfl := sj h
    refine Am (sm [] [(4, .e (.one (.pure (.sl (v7.map Ar))))), (5, .e (.one (.pure (.val (.int .i64 0)))))] [] rfl rfl) (AB ?_)
    exact ⟨⟨[_, _], ⟨.tmp _ _ rfl, ⟨.tmp _ _ rfl, trivial⟩⟩, rfl⟩, trivial⟩
set_option maxRecDepth 10000 in
theorem Iu (N : Nat) (p0 : Ca) (p1 : List Ag) (r : Bool) (h : CW N p0 p1 = some r) : AD Try.prog 9 [.e (.agg [.pure (.sl (p0.fVersions.map A3)), .pure (.sl (p0.fNow.map A3)), .pure (.sl (p0.fTarget.map A3)), .pure (.sl (p0.fLinks.map BU))]), .e (.one (.pure (.sl (p1.map Ar))))] [] (.e (.one (.pure (.val (.bool r))))) := by
 unfold CW at h
 refine As (n := 83) (rs := [.tmp 4]) Try.func9 rfl rfl rfl (Bz rfl) (Bz rfl) rfl fun w0 S0 => ?_
 refine Ab (Aa Ad rfl (qb rfl (qa rfl (Ac (Ab (Aa Ad rfl (qL VF V5 rfl ?_)))))))
 obtain ⟨v1, a1, h⟩ := bind_some h
 refine AI [2001, 2002, 2003, 2004] (K8 N p0 v1 a1) VG rfl (qm rfl (qx rfl (qx rfl (qz QE rfl (qs CR rfl (qa rfl (Ac (Ab ?_))))))))
 refine AR h (fun v2 => mk [(1, .e (.one (.pure (.sl (p1.map Ar))))), (5, .e (.one (.ptr 5 0))), (27, .e (.one (.pure (.val (.bool v2)))))] [(5, .box [.own 2005, .own 2006, .own 2007, .own 2008]), (2005, .vec 1 (v1.1.fVersions.map Af)), (2006, .vec 1 (v1.1.fNow.map Af)), (2007, .vec 1 (v1.1.fTarget.map Af)), (2008, .vec 6 (v1.1.fTables.map Ak))]) (fun j2 h => ?_) (fun v2 h => ?_)
 ·refine Aa Ad rfl ?_
  obtain ⟨v3, a3, h⟩ := bind_some h
  refine AI [] (GW N v3 a3) UN rfl (Ch rfl (qm rfl ?_))
  refine AF (t := 19) rfl (fun c4 => ?_) (fun c4 => ?_)
  ·have h := Ap c4 h
   refine qn rfl (qn rfl (qp rfl (qm rfl (qn rfl (qn rfl (qn rfl (qp rfl (Ac ?_))))))))
   exact Ax _ h (sm [(2005, 2001), (2006, 2002), (2007, 2003), (2008, 2004)] _ _ rfl rfl)
  ·have h := Aq c4 h
   refine qm rfl (Ch rfl (qp rfl (qm rfl ?_)))
   refine AF (t := 23) rfl (fun c5 => ?_) (fun c5 => ?_)
   ·have h := Ap c5 h
    refine qn rfl (qn rfl (qn rfl (qp rfl (Ac ?_))))
    exact Ax _ h (sm [(2005, 2001), (2006, 2002), (2007, 2003), (2008, 2004)] _ _ rfl rfl)
   ·have h := Aq c5 h
    refine qm rfl (AQ Bg rfl (FY rfl (qp rfl (Ac ?_))))
    exact Ax _ h (sm [(2005, 2001), (2006, 2002), (2007, 2003), (2008, 2004)] _ _ rfl rfl)
 ·refine Au rfl (fun c6 => ?_) (fun c6 => ?_)
  ·have h := Ap c6 h
   refine Ab (Aa Ad rfl ?_)
   obtain ⟨v7, a7, h⟩ := bind_some h
   refine AI [] (GW N v7 a7) UN rfl (qa rfl (Ac ?_))
   obtain rfl := sj h
   refine Am (sm [] [(4, .e (.one (.pure (.val (.bool v7)))))] [] rfl rfl) (AB ?_)
   exact ⟨⟨[_], ⟨.tmp _ _ rfl, trivial⟩, rfl⟩, trivial⟩
  ·have h := Aq c6 h
   refine Av (Ab (Aa Ad rfl (qL C5 CR rfl (qm rfl ?_))))
   obtain ⟨v8, a8, h⟩ := bind_some h
   refine D5 [2009] [2005, 2006, 2007, 2008] (O8 N v1.1 p1 v8 a8) V8 (FP (fun _ => rfl) CN) rfl (qm rfl (qx rfl (qx rfl (qa rfl (qa rfl (Ac (Ab (Aa Ad rfl (qL C5 CR rfl (qm rfl (Dg (Bf 2005 _ _ rfl rfl) (Dg (Bf 2006 _ _ rfl rfl) (Dg (Bf 2007 _ _ rfl rfl) (Dg (Bf 2008 _ _ rfl rfl) ?_))))))))))))))
   obtain ⟨v9, a9, h⟩ := bind_some h
   refine AI [] (JY N v1.1 p1 v9 a9) VU rfl (qm rfl (qx rfl (qx rfl (qa rfl (qa rfl (Ac (Ab ?_)))))))
   refine AR h (fun v10 => mk [(5, .e (.one (.ptr 5 0))), (7, .e (.one (.own 2010))), (8, .e (.one (.pure (.val (.int .i64 v8.2))))), (9, .e (.one (.pure (.sl (v9.1.map Ar))))), (10, .e (.one (.pure (.val (.int .i64 v9.2))))), (53, .e (.one (.pure (.val (.bool v10)))))] [(5, .box [.pure (.sl (v1.1.fVersions.map Af)), .pure (.sl (v1.1.fNow.map Af)), .pure (.sl (v1.1.fTarget.map Af)), .pure (.sl (v1.1.fTables.map Ak))]), (2010, .vec 3 (v8.1.map Ar))]) (fun j10 h => ?_) (fun v10 h => ?_)
   ·refine Aa Ad rfl (qm rfl (qm rfl (B0 rfl (qm rfl ?_))))
    refine AF (t := 44) rfl (fun c11 => ?_) (fun c11 => ?_)
    ·have h := Ap c11 h
     refine qn rfl (qn rfl (qn rfl (qn rfl (qp rfl (qm rfl (qn rfl (qn rfl (qp rfl (Ac ?_)))))))))
     exact Ax _ h (sm [(2010, 2009)] _ _ rfl rfl)
    ·have h := Aq c11 h
     refine qm rfl (qm rfl ?_)
     obtain ⟨v12, a12, h⟩ := bind_some h
     refine D5 [] [2009] (FO N v8.1 v9.1 v12 a12) T8 CN rfl (Ch rfl (qp rfl (qm rfl ?_)))
     refine AF (t := 50) rfl (fun c13 => ?_) (fun c13 => ?_)
     ·have h := Ap c13 h
      refine qn rfl (qn rfl (qp rfl (Ac ?_)))
      exact Ax _ h (sm [(2010, 2009)] _ _ rfl rfl)
     ·have h := Aq c13 h
      refine qm rfl (B0 rfl (qp rfl (Ac ?_)))
      exact Ax _ h (sm [(2010, 2009)] _ _ rfl rfl)
   ·refine Au rfl (fun c14 => ?_) (fun c14 => ?_)
    ·have h := Ap c14 h
     refine AR h (fun v15 => mk [(4, .e (.one (.pure (.val (.bool v15)))))] []) (fun j15 h => ?_) (fun v15 h => ?_)
     ·refine Aa Ad rfl (qm rfl (qm rfl (BO rfl (qm rfl ?_))))
      refine AF (t := 57) rfl (fun c16 => ?_) (fun c16 => ?_)
      ·have h := Ap c16 h
       refine qm rfl (qm rfl ?_)
       obtain ⟨v17, a17, h⟩ := bind_some h
       refine D5 [] [2010] (FO N v8.1 v9.1 v17 a17) T8 CN rfl (qp rfl (qa rfl (Ac ?_)))
       exact Ax _ h (sm [] _ _ rfl rfl)
      ·have h := Aq c16 h
       refine qn rfl (qn rfl (qn rfl (qp rfl (qa rfl (Ac ?_)))))
       exact Ax _ h (sm [] _ _ rfl rfl)
     ·obtain rfl := sj h
      refine Am (sm [] [(4, .e (.one (.pure (.val (.bool v15)))))] [] rfl rfl) (AB ?_)
      exact ⟨⟨[_], ⟨.tmp _ _ rfl, trivial⟩, rfl⟩, trivial⟩
    ·have h := Aq c14 h
     refine Av (Ab (Ab (Aa Ad rfl (qm rfl (EZ Bg rfl (qm rfl (Ac ?_)))))))
     refine AP (L := B6 N v1 v8) h (fun v18 => mk [(5, .e (.one (.ptr 5 0))), (7, .e (.one (.pure (.sl (v18.1.map Ar))))), (63, .e (.one (.pure (.val (.int .i64 ((v8.1.length : Int))))))), (64, .e (.one (.pure (.val (.int .i64 v18.2)))))] [(5, .box [.pure (.sl (v1.1.fVersions.map Af)), .pure (.sl (v1.1.fNow.map Af)), .pure (.sl (v1.1.fTarget.map Af)), .pure (.sl (v1.1.fTables.map Ak))])]) (fun v19 => mk [(5, .e (.one (.ptr 5 0))), (7, .e (.one (.pure (.sl (v19.map Ar)))))] [(5, .box [.pure (.sl (v1.1.fVersions.map Af)), .pure (.sl (v1.1.fNow.map Af)), .pure (.sl (v1.1.fTarget.map Af)), .pure (.sl (v1.1.fTables.map Ak))])]) (fun _ _ => rfl) ((Bf 2010 _ _ rfl rfl).trans (sm [] _ _ rfl rfl)) (fun j18 n18 v18 h => ?_) (fun v19 s h hs => ?_)
     ·unfold B6 at h
      refine Ab (Aa Ad rfl (Bc rfl (Ac (Ab ?_))))
      refine Au rfl (fun c20 => ?_) (fun c20 => ?_)
      ·have h := Ap c20 h
       refine Av (Ab (AW (Ab (Aa Ad rfl (qm rfl (qa rfl (Ac (Ab (Aa Ad rfl (qL C5 CR rfl (D2 Bg Cs Fi rfl (qm rfl (qm rfl ?_)))))))))))))
       obtain ⟨c21, h⟩ := AG h
       refine LK (.p rfl) rfl Bg Cs (HY (f := Ar) (n := 3) (fun _ => rfl) _) (.none _) (.some _ _ _ _ c21.1) trivial ⟨rfl, trivial⟩ (by have := c21.2.1; (try simp only [List.length_map]); omega) (by have := c21.2.2; (try simp only [List.length_map]); omega) (Kj Ar v18.1 _ _ ((v18.2).toNat - 0) rfl) ?_
       obtain ⟨c22, h⟩ := AG h
       refine F0 (f := Ar) Bg Bg Cs JJ Fi (fun _ => rfl) c22 rfl (qm rfl (qm rfl (Bm rfl ?_)))
       obtain ⟨c23, h⟩ := AG h
       refine LK (.p rfl) rfl Bg Cs (HY (f := Ar) (n := 3) (fun _ => rfl) _) (.some _ _ _ _ c23.1) (.none _) ⟨rfl, trivial⟩ trivial (by have := c23.2.1; (try simp only [List.length_map]); omega) (by have := c23.2.2; (try simp only [List.length_map]); omega) (Kj Ar v18.1 _ _ (v18.1.length - ((IntKind.wrap .i64 (v18.2 + 1))).toNat) (by rw [List.length_map])) ?_
       obtain ⟨c24, h⟩ := AG h
       refine F0 (f := Ar) Bg Bg Cs JJ Fi (fun _ => rfl) c24 rfl ?_
       obtain ⟨v25, a25, h⟩ := bind_some h
       refine D5 [] [77] (F8 N v1.1 (((([] : List Ag)) ++ (((v18.1.drop 0).take ((v18.2).toNat - 0)))) ++ (((v18.1.drop ((IntKind.wrap .i64 (v18.2 + 1))).toNat).take (v18.1.length - ((IntKind.wrap .i64 (v18.2 + 1))).toNat)))) v25 a25) Q6 CN rfl (AX (by kernel_rfl) ?_)
       refine Au rfl (fun c26 => ?_) (fun c26 => ?_)
       ·have h := Ap c26 h
        refine Ab (Aa Ad rfl (qa rfl (Ac ?_)))
        obtain rfl := sj h
        refine Am (sm [] [(4, .e (.one (.pure (.val (.bool false)))))] [] rfl rfl) (AB ?_)
        exact ⟨⟨[_], ⟨.tmp _ _ rfl, trivial⟩, rfl⟩, trivial⟩
       ·have h := Aq c26 h
        refine Av (Aa Ad rfl (Bm rfl (qm rfl (Ac ?_))))
        exact Ax _ h (sm [] _ _ rfl rfl)
      ·have h := Aq c20 h
       refine A1 ?_
       exact Ax _ h (sm [] _ _ rfl rfl)
     ·refine Am hs (Ab (Aa Ad rfl (qL C5 CR rfl (qm rfl ?_))))
      obtain ⟨v27, a27, h⟩ := bind_some h
      refine AI [] (F8 N v1.1 v19 v27 a27) Q6 rfl (qa rfl (Ac ?_))
      obtain rfl := sj h
      refine Am (sm [] [(4, .e (.one (.pure (.val (.bool v27)))))] [] rfl rfl) (AB ?_)
      exact ⟨⟨[_], ⟨.tmp _ _ rfl, trivial⟩, rfl⟩, trivial⟩
end Go.Lift

